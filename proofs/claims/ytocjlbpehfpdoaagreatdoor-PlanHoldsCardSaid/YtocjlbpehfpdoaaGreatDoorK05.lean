/- package json: plain: how many bytes of a text are a string's as they are. · strings.IndexRune among the sixteen digits, at a rune beyond ASCII: there is none. · package json's reader: four digits of sixteen. · Four digits of sixteen, lowered: plain Lean; and package json's four, whatever the text. -/
import Derived.Test.YtocjlbpehfpdoaaGreatDoorK04
import Derived.Lib.MapLaws
import Derived.Deep.QuietTactic
import Derived.BigQuiet
import Derived.WalkMore
set_option linter.unusedVariables false
set_option linter.unusedSimpArgs false
namespace Go.Proofs.YtocjlbpehfpdoaaGreatDoor
open Go.RowKit

theorem plainN_more : ∀ (f g : Nat) (s : Js.Bs), s.length ≤ f → s.length ≤ g → Js.plainN f s = Js.plainN g s
  | 0, 0, _, _, _ => rfl
  | 0, g + 1, s, h, _ => by
    obtain rfl : s = [] := List.eq_nil_of_length_eq_zero (by omega)
    rfl
  | f + 1, 0, s, _, h => by
    obtain rfl : s = [] := List.eq_nil_of_length_eq_zero (by omega)
    rfl
  | f + 1, g + 1, s, hf, hg => by
    unfold Js.plainN
    by_cases h0 : s = []
    · simp [h0]
    · have hw := Lib.decodeL_width s
      have hl : 0 < s.length := List.length_pos_iff.2 h0
      have ih := plainN_more f g (s.drop (Lib.decodeL s).2) (by rw [List.length_drop]; omega) (by rw [List.length_drop]; omega)
      simp only [if_neg h0, ih]
/-- One step, at a place that is not the end. -/
theorem plain_step (s : Js.Bs) (h : s ≠ []) : Js.plain s =
    if (Lib.decodeL s).1 = 34 ∨ (Lib.decodeL s).1 = 92 then (0, true)
      else if (Lib.decodeL s).1 < 32 then (0, false)
      else if (Lib.decodeL s).1 = 65533 ∧ (Lib.decodeL s).2 < 2 then (0, false)
      else ((Lib.decodeL s).2 + (Js.plain (s.drop (Lib.decodeL s).2)).1, (Js.plain (s.drop (Lib.decodeL s).2)).2) := by
  have hl : 0 < s.length := List.length_pos_iff.2 h
  have hw := Lib.decodeL_width s
  obtain ⟨n, hn⟩ : ∃ n, s.length = n + 1 := ⟨s.length - 1, by omega⟩
  have e := plainN_more n (s.drop (Lib.decodeL s).2).length (s.drop (Lib.decodeL s).2) (by rw [List.length_drop]; omega) (Nat.le_refl _)
  unfold Js.plain
  rw [hn]
  conv => lhs; unfold Js.plainN
  simp only [if_neg h, e]
theorem plain_nil : Js.plain [] = (0, false) := rfl

theorem ext_list (s : ByteArray) (a b : Nat) : (s.extract a b).data.toList = (s.data.toList.drop a).take (b - a) := Lib.extract_data s a b
theorem decodeGo_at (s : ByteArray) (pos : Nat) (h : pos < s.size) : Lib.decodeGo (s.extract pos s.size) = Utf8.decode s pos := by
  have hs : (s.extract pos s.size).size = s.size - pos := by simp [ByteArray.size_extract]
  unfold Lib.decodeGo
  rw [if_neg (by omega), decode_drop s pos h]
  have : s.extract pos s.size = ⟨(s.data.toList.drop pos).toArray⟩ := ba_of (Lib.extract_to_end s pos)
  rw [this]
  rfl

set_option maxHeartbeats 2000000 in
theorem json_plain (B : Nat) (s : ByteArray) (w : World) (hs : s.size ≤ 4096) (hT : Tb B w) :
    Calls Tryz.prog 223 #[.string s] w fun e w' => e = .returned (.tuple #[.int .i64 (Js.plain s.data.toList).1, .bool (Js.plain s.data.toList).2]) ∧ w.grownBy w' none := by
  obtain ⟨A, hA⟩ : ∃ A, Js.plain s.data.toList = A := ⟨_, rfl⟩
  rw [hA]
  have HA := Lib.hid hA
  have HT := Lib.hid hT
  clear hA hT
  go_enter Tryz.func223, Tryz.ntmps223
  go_wp2
  go_loopw [] (fun wr => ∃ pos : Nat, pos ≤ s.size ∧ wr.heap[w.heap.size]? = some (.stringIter s pos) ∧ w.grownBy wr none ∧ (pos + (Js.plain (s.data.toList.drop pos)).1, (Js.plain (s.data.toList.drop pos)).2) = A) (fun wr => s.size - wr.iterPos w.heap.size)
  case atStart => exact ⟨0, Nat.zero_le _, blk_new w _, World.grownBy_alloc w _ none, by rw [List.drop_zero, HA.out]; simp⟩
  case round =>
    obtain ⟨pos, hp, hit, hg, hrel⟩ := hrel
    have HR := Lib.hid hrel
    have HG := Lib.hid hg
    have HI := Lib.hid hit
    clear hrel
    by_cases hlt : pos < s.size
    · have hd := decode_drop s pos hlt
      have hne : s.data.toList.drop pos ≠ [] := by
        intro e
        have := congrArg List.length e
        rw [List.length_drop, sz_of] at this
        simp at this
        omega
      have hst := plain_step (s.data.toList.drop pos) hne
      have hw := Lib.decodeL_width (s.data.toList.drop pos)
      have hle := Lib.decodeL_le (s.data.toList.drop pos) hne
      rw [List.length_drop, sz_of] at hle
      rw [← hd] at hst hw hle
      have hnx : ∀ ty, (Instr.next (.pointer (some ⟨w.heap.size, 0, none⟩)) true ty).run Tryz.prog wr = _ := fun ty => Lib.run_next_any_at wr w.heap.size s pos ty hit hlt
      have g2 := gb_iter hg (Nat.le_refl _) s (pos + (Utf8.decode s pos).2)
      have i2 := Lib.iterAt_heap wr w.heap.size s pos (pos + (Utf8.decode s pos).2) hit
      have hdec := decodeGo_at s pos hlt
      obtain ⟨c, n, hcn⟩ : ∃ c n, Utf8.decode s pos = (c, n) := ⟨_, _, rfl⟩
      rw [hcn] at hst hw hle hnx g2 i2 hdec
      simp only at hst hw hle hnx g2 i2 hdec
      have HS := Lib.hid hst
      have HC := Lib.hid hcn
      have G2 := Lib.hid g2
      have I2 := Lib.hid i2
      have HD := Lib.hid hdec
      clear hst hcn g2 i2 hd hdec hit hg
      by_cases h1 : c = 34 ∨ c = 92
      · have HA2 := Lib.hid (show A = (pos, true) by rw [← HR.out, HS.out, if_pos h1]; simp)
        have e1 : (((c : Int) == 34) || ((c : Int) == 92)) = true := by
          rcases h1 with h1 | h1 <;> simp [h1]
        clear h1
        go_wp2
        all_goals
          go_ret2
          exact ⟨by rw [HA2.out]; rfl, G2.out⟩
      · have e1 : ((c : Int) == 34) = false := by simp; omega
        have e2 : ((c : Int) == 92) = false := by simp; omega
        by_cases h2 : c < 32
        · have HA2 := Lib.hid (show A = (pos, false) by rw [← HR.out, HS.out, if_neg h1, if_pos h2]; simp)
          have e3 : decide ((c : Int) < 32) = true := by simp; omega
          clear h1
          go_wp2
          go_ret2
          exact ⟨by rw [HA2.out]; rfl, G2.out⟩
        · have e3 : decide ((c : Int) < 32) = false := by simp; omega
          by_cases h3 : c = 65533
          · have HC3 := Lib.hid h3
            have e4 : ((c : Int) == 65533) = true := by simp [h3]
            have ht2 := (HT.out.gbn G2.out).tabs.u8
            by_cases h4 : n < 2
            · have HA2 := Lib.hid (show A = (pos, false) by rw [← HR.out, HS.out, if_neg h1, if_neg h2, if_pos ⟨h3, h4⟩]; simp)
              have e5 : decide ((n : Int) < 2) = true := by simp; omega
              clear h1 h3
              go_wp2_with fail
              refine (Tryz.utf8_DecodeRuneInString (s.extract pos s.size) _ ht2).mono ?_
              rintro e w2 ⟨rfl, hw2⟩
              rw [HD.out]
              have HG3 := Lib.hid (gb_trans G2.out (gb_any (gb_below hw2)))
              clear hw2
              go_wp2
              go_ret2
              exact ⟨by rw [HA2.out]; rfl, HG3.out⟩
            · have e5 : decide ((n : Int) < 2) = false := by simp; omega
              have HN := Lib.hid (show (pos + n + (Js.plain (s.data.toList.drop (pos + n))).1, (Js.plain (s.data.toList.drop (pos + n))).2) = A by
                rw [← HR.out, HS.out, if_neg h1, if_neg h2, if_neg (fun h => h4 h.2), List.drop_drop]; simp [Nat.add_assoc])
              clear h1 h3
              go_wp2_with fail
              refine (Tryz.utf8_DecodeRuneInString (s.extract pos s.size) _ ht2).mono ?_
              rintro e w2 ⟨rfl, hw2⟩
              rw [HD.out]
              have hg3 := gb_trans G2.out (gb_any (gb_below hw2))
              have hi3 := gb_blk (gb_below hw2) I2.out (by simp)
              have HG3 := Lib.hid hg3
              have HI3 := Lib.hid hi3
              clear hw2 hg3 hi3
              go_wp2
              go_roundw
              case rel => exact ⟨pos + n, by omega, HI3.out, HG3.out, HN.out⟩
              case measure =>
                rw [Go.iterPos_of HI.out, Go.iterPos_of HI3.out]
                omega
          · have e4 : ((c : Int) == 65533) = false := by simp; omega
            have HN := Lib.hid (show (pos + n + (Js.plain (s.data.toList.drop (pos + n))).1, (Js.plain (s.data.toList.drop (pos + n))).2) = A by
              rw [← HR.out, HS.out, if_neg h1, if_neg h2, if_neg (fun h => h3 h.1), List.drop_drop]; simp [Nat.add_assoc])
            clear h1 h3
            go_wp2
            go_roundw
            case rel => exact ⟨pos + n, by omega, I2.out, G2.out, HN.out⟩
            case measure =>
              rw [Go.iterPos_of HI.out, Go.iterPos_of I2.out]
              omega
    · have hp2 : pos = s.size := by omega
      have hnx : ∀ ty, (Instr.next (.pointer (some ⟨w.heap.size, 0, none⟩)) true ty).run Tryz.prog wr = _ := fun ty => Lib.run_next_end_at wr w.heap.size s pos ty hit hlt
      have HA2 := Lib.hid (show A = (s.size, false) by
        rw [← HR.out, hp2, ← sz_of, List.drop_length, plain_nil]; rfl)
      clear hit hg hp2
      go_wp2
      go_ret2
      exact ⟨by rw [HA2.out]; rfl, HG.out⟩
end Go.Proofs.YtocjlbpehfpdoaaGreatDoor

set_option linter.unusedVariables false
set_option linter.unusedSimpArgs false
namespace Go.Proofs.YtocjlbpehfpdoaaGreatDoor
open Go.RowKit

/-- 's[l:]' as an operation. -/
theorem run_slL (S : ByteArray) (l : Int) (k : Nat) (hl : l.toNat = k) (h0 : 0 ≤ l) (h1 : l ≤ S.size) (W : World) : (Instr.slice 9 (.string S) (some (.int .i64 l)) none none).run Tryz.prog W = .ok (.string (S.extract k S.size)) W := by
  subst hl
  exact run_slice_string_l W 9 S Tryz.underlying9 .i64 l h0 h1

def hexL : Js.Bs := [48, 49, 50, 51, 52, 53, 54, 55, 56, 57, 97, 98, 99, 100, 101, 102]

set_option maxRecDepth 100000 in
set_option maxHeartbeats 2000000 in
theorem hexrune_bad (r : Int) (w : World) (h0 : 128 ≤ r) (h1 : r ≤ 1114111) (h2 : r ≠ 65533) (h3 : Lib.validRune r = false) :
    Calls Tryz.prog 245 #[.string ⟨#[48, 49, 50, 51, 52, 53, 54, 55, 56, 57, 97, 98, 99, 100, 101, 102]⟩, .int .i32 r] w fun e w' => e = .returned (.int .i64 (-1)) ∧ w.grownBy w' none := by
  have e1 : decide (r < 128) = false := by simp; omega
  have e2 : (r == 65533) = false := by simpa using h2
  have e0 : decide (0 ≤ r) = true := by simp; omega
  have H3 := Lib.hid h3
  clear h2 h3
  go_enter Tryz.func245, Tryz.ntmps245
  go_wp2_with fail
  refine (Tryz.utf8_ValidRune r _).mono ?_
  rintro e w1 ⟨rfl, rfl⟩
  rw [H3.out]
  go_wp2
  go_ret
  exact ⟨rfl, gb_refl _ _⟩

theorem indexByte_none : ∀ (l : Js.Bs) (x : UInt8), (∀ b ∈ l, b ≠ x) → Lib.indexByte l x = -1
  | [], _, _ => rfl
  | b :: l, x, h => by
    have h1 : (b == x) = false := by simpa using h b List.mem_cons_self
    have h2 := indexByte_none l x (fun c hc => h c (List.mem_cons_of_mem _ hc))
    simp [Lib.indexByte, h1, h2]
/-- A byte of a string, as an operation. -/
theorem run_idx (S : ByteArray) (k : Nat) (h : k < S.size) (y : Nat) (hy : (S[k]'h).toNat = y) (W : World) : (Instr.index 9 (.string S) (.int .i64 (k : Int))).run Tryz.prog W = .ok (.int .u8 (y : Int)) W := by
  rw [run_index_string W 9 S .i64 k Tryz.underlying9]
  subst hy
  simp [Int.toNat_natCast, h]

set_option maxRecDepth 100000 in
set_option maxHeartbeats 2000000 in
theorem hexrune_far (S : ByteArray) (hS : S.data.toList = hexL) (r : Int) (w : World) (h0 : 128 ≤ r) (h1 : r ≤ 1114111) (h2 : r ≠ 65533) (h3 : Lib.validRune r = true) (rs : ByteArray) (x : UInt8)
    (hrs : ∀ W : World, (convert 21 9 (.int .i32 r)).run Tryz.prog W = .ok (.string rs) W) (k : Nat) (hk : rs.size = k + 1) (hk1 : 1 ≤ k) (hk2 : k ≤ 3) (hx : ∀ h : k < rs.size, rs[k]'h = x) (hx2 : 128 ≤ x.toNat) :
    Calls Tryz.prog 245 #[.string S, .int .i32 r] w fun e w' => e = .returned (.int .i64 (-1)) ∧ w.grownBy w' none := by
  have e1 : decide (r < 128) = false := by simp; omega
  have e2 : (r == 65533) = false := by simpa using h2
  have e0 : decide (0 ≤ r) = true := by simp; omega
  have H3 := Lib.hid h3
  have hsz : S.size = 16 := by rw [← sz_of, hS]; rfl
  have hlow : ∀ (i : Nat) (h : i < S.size), (S[i]'h).toNat < 128 := by
    intro i h
    have h' : S[i]'h ∈ S.data.toList := by simp [ByteArray.getElem_eq_getElem_data]
    rw [hS] at h'
    revert h'
    generalize S[i] = y
    intro h'
    simp only [hexL, List.mem_cons, List.not_mem_nil, or_false] at h'
    rcases h' with rfl | rfl | rfl | rfl | rfl | rfl | rfl | rfl | rfl | rfl | rfl | rfl | rfl | rfl | rfl | rfl <;> decide
  have hnone : ∀ a b, Lib.indexByte (S.extract a b).data.toList x = -1 := by
    intro a b
    refine indexByte_none _ _ (fun y hy e => ?_)
    rw [ext_list, hS] at hy
    have hy' := List.mem_of_mem_drop (List.mem_of_mem_take hy)
    have : y.toNat < 128 := by
      simp only [hexL, List.mem_cons, List.not_mem_nil, or_false] at hy'
      rcases hy' with rfl | rfl | rfl | rfl | rfl | rfl | rfl | rfl | rfl | rfl | rfl | rfl | rfl | rfl | rfl | rfl <;> decide
    rw [e] at this
    omega
  have HS := Lib.hid hS
  have hIB : ∀ W : World, Calls Tryz.prog 266 #[.string (S.extract (k + 1) 16), .int .u8 (x.toNat : Int)] W fun e w' => e = .returned (.int .i64 (-1)) ∧ w' = W := by
    intro W
    have h := Tryz.strings_IndexByte (S.extract (k + 1) 16) (x.toNat : Int) W
    rw [Int.toNat_natCast, show x.toNat.toUInt8 = x by simp, hnone] at h
    exact h
  clear h2 h3 hS hnone
  have hkS : k < S.size := by omega
  have hxk : rs[k]'(by omega) = x := hx (by omega)
  have hlk := hlow k hkS
  obtain ⟨y, hy⟩ : ∃ y, (S[k]'hkS).toNat = y := ⟨_, rfl⟩
  rw [hy] at hlk
  have ix1 := run_idx S k hkS y hy
  have ix2 := run_idx rs k (by omega) x.toNat (by rw [hxk])
  have n2 : ((y : Int) != (x.toNat : Int)) = true := by
    rw [bne_iff_ne]; omega
  clear hy hxk
  have e5 : decide ((k : Int) < 16) = true := by simp; omega
  clear hx hlow
  go_enter Tryz.func245, Tryz.ntmps245
  go_wp2_with fail
  refine (Tryz.utf8_ValidRune r _).mono ?_
  rintro e w1 ⟨rfl, rfl⟩
  rw [H3.out]
  go_wp2_with fail
  go_step3
  go_wp2_with fail
  refine wp_loop_once ?_
  go_wp2_with fail
  go_step3
  go_wp2_with fail
  go_quiet (fail)
  go_wp2_with fail
  have hgq := gb_drewN (gb_refl w1 none) nq
  generalize w1.drewN nq = w2 at hgq ⊢
  have HGQ := Lib.hid hgq
  clear hgq
  have a1 : IntKind.i64.wrap ((k : Int) + 1) = (k : Int) + 1 := IntWalk.i64_in _ (by omega)
  have a2 : 0 ≤ (k : Int) + 1 := by omega
  have a3 : ((k : Int) + 1).toNat = k + 1 := by omega
  have a4 := run_slL S ((k : Int) + 1) (k + 1) a3 a2 (by omega)
  go_quiet ((go_at_call 266; exact Calls.quiet_of_same (hIB _)))
  clear a1 a2 a3 a4
  go_wp2
  simp +zetaDelta only [Exit.inBlock, Exit.then, Exit.noGoto_ret]
  go_ret
  exact ⟨rfl, gb_drewN HGQ.out _⟩

theorem hexL_low (S : ByteArray) (hS : S.data.toList = hexL) (i : Nat) (h : i < S.size) : (S[i]'h).toNat < 128 := by
  have h' : S[i]'h ∈ S.data.toList := by simp [ByteArray.getElem_eq_getElem_data]
  rw [hS] at h'
  revert h'
  generalize S[i] = y
  intro h'
  simp only [hexL, List.mem_cons, List.not_mem_nil, or_false] at h'
  rcases h' with rfl | rfl | rfl | rfl | rfl | rfl | rfl | rfl | rfl | rfl | rfl | rfl | rfl | rfl | rfl | rfl <;> decide

set_option maxRecDepth 100000 in
set_option maxHeartbeats 2000000 in
theorem hexrune_err (S : ByteArray) (hS : S.data.toList = hexL) (w : World) :
    Calls Tryz.prog 245 #[.string S, .int .i32 65533] w fun e w' => e = .returned (.int .i64 (-1)) ∧ w.grownBy w' none := by
  have hlow := hexL_low S hS
  have hsz : S.size = 16 := by rw [← sz_of, hS]; rfl
  have HS := Lib.hid hS
  have HL := Lib.hid hlow
  clear hS hlow
  go_enter Tryz.func245, Tryz.ntmps245
  go_wp2_with fail
  go_loopw [] (fun wr => ∃ pos : Nat, pos ≤ 16 ∧ wr.heap[w.heap.size]? = some (.stringIter S pos) ∧ w.grownBy wr none) (fun wr => 16 - wr.iterPos w.heap.size)
  case atStart => exact ⟨0, Nat.zero_le _, blk_new w _, World.grownBy_alloc w _ none⟩
  case round =>
    obtain ⟨pos, hp, hit, hg⟩ := hrel
    have HG := Lib.hid hg
    have HI := Lib.hid hit
    by_cases hlt : pos < 16
    · have hnx : ∀ ty, (Instr.next (.pointer (some ⟨w.heap.size, 0, none⟩)) true ty).run Tryz.prog wr = _ := fun ty => Lib.run_next_ascii_at wr w.heap.size S pos ty hit (by omega) (HL.out pos (by omega))
      have hl := HL.out pos (by omega)
      obtain ⟨y, hy⟩ : ∃ y, (S[pos]'(by omega)).toNat = y := ⟨_, rfl⟩
      rw [hy] at hnx hl
      have e1 : ((y : Int) == 65533) = false := by simp; omega
      have G2 := Lib.hid (gb_iter hg (Nat.le_refl _) S (pos + 1))
      have I2 := Lib.hid (Lib.iterAt_heap wr w.heap.size S pos (pos + 1) hit)
      clear hit hg hy
      go_wp2
      go_roundw
      case rel => exact ⟨pos + 1, by omega, I2.out, G2.out⟩
      case measure =>
        rw [Go.iterPos_of HI.out, Go.iterPos_of I2.out]
        omega
    · have hnx : ∀ ty, (Instr.next (.pointer (some ⟨w.heap.size, 0, none⟩)) true ty).run Tryz.prog wr = _ := fun ty => Lib.run_next_end_at wr w.heap.size S pos ty hit (by omega)
      clear hit hg
      go_wp2
      go_ret
      exact ⟨rfl, HG.out⟩

theorem run_rune (r : Int) (W : World) : (convert 21 9 (.int .i32 r)).run Tryz.prog W = .ok (.string (Utf8.encode r)) W := by
  simp [convert, run_underlying Tryz.underlying21, run_underlying Tryz.underlying9, Conv.intToString]
theorem encode_far (r : Int) (h0 : 128 ≤ r) (h1 : Lib.validRune r = true) : ∃ (k : Nat) (x : UInt8), (Utf8.encode r).size = k + 1 ∧ 1 ≤ k ∧ k ≤ 3 ∧ (∀ h : k < (Utf8.encode r).size, (Utf8.encode r)[k]'h = x) ∧ 128 ≤ x.toNat := by
  have hv : Utf8.valid r = true := by
    simp only [Lib.validRune, decide_eq_true_eq] at h1
    simp only [Utf8.valid, Bool.or_eq_true, Bool.and_eq_true, decide_eq_true_eq]
    omega
  have hr : r ≤ 1114111 := by
    simp only [Lib.validRune, decide_eq_true_eq] at h1
    omega
  have he : ∀ l : ByteArray, (∃ (k : Nat) (x : UInt8), l.size = k + 1 ∧ 1 ≤ k ∧ k ≤ 3 ∧ (∀ h : k < l.size, l[k]'h = x) ∧ 128 ≤ x.toNat) → Utf8.encode r = l → ∃ (k : Nat) (x : UInt8), (Utf8.encode r).size = k + 1 ∧ 1 ≤ k ∧ k ≤ 3 ∧ (∀ h : k < (Utf8.encode r).size, (Utf8.encode r)[k]'h = x) ∧ 128 ≤ x.toNat := by
    intro l h e
    rw [e]
    exact h
  have hc0 : 128 ≤ r.toNat := by omega
  have hx : 128 ≤ (UInt8.ofNat (128 + r.toNat % 64)).toNat := by rw [UInt8.toNat_ofNat']; omega
  by_cases h2 : r.toNat < 2048
  · refine he ⟨#[UInt8.ofNat (192 + r.toNat / 64), UInt8.ofNat (128 + r.toNat % 64)]⟩ ⟨1, _, rfl, by omega, by omega, fun _ => rfl, hx⟩ ?_
    unfold Utf8.encode
    simp only [hv, if_true]
    rw [if_neg (by omega), if_pos h2]
  · by_cases h3 : r.toNat < 65536
    · refine he ⟨#[UInt8.ofNat (224 + r.toNat / 4096), UInt8.ofNat (128 + r.toNat / 64 % 64), UInt8.ofNat (128 + r.toNat % 64)]⟩ ⟨2, _, rfl, by omega, by omega, fun _ => rfl, hx⟩ ?_
      unfold Utf8.encode
      simp only [hv, if_true]
      rw [if_neg (by omega), if_neg (by omega), if_pos h3]
    · refine he ⟨#[UInt8.ofNat (240 + r.toNat / 262144), UInt8.ofNat (128 + r.toNat / 4096 % 64), UInt8.ofNat (128 + r.toNat / 64 % 64), UInt8.ofNat (128 + r.toNat % 64)]⟩ ⟨3, _, rfl, by omega, by omega, fun _ => rfl, hx⟩ ?_
      unfold Utf8.encode
      simp only [hv, if_true]
      rw [if_neg (by omega), if_neg (by omega), if_neg (by omega)]

/-- What a rune is among the sixteen digits. -/
def hexIdx (c : Int) : Int := if 48 ≤ c ∧ c ≤ 57 then c - 48 else if 97 ≤ c ∧ c ≤ 102 then c - 87 else -1
theorem hexIdx_ascii : ∀ c : Fin 128, Lib.indexByte hexL (c.val : Int).toNat.toUInt8 = hexIdx (c.val : Int) := by decide +kernel
theorem hexrune (c : Nat) (hc : c ≤ 1114111) (w : World) :
    Calls Tryz.prog 245 #[.string ⟨#[48, 49, 50, 51, 52, 53, 54, 55, 56, 57, 97, 98, 99, 100, 101, 102]⟩, .int .i32 (c : Int)] w fun e w' => e = .returned (.int .i64 (hexIdx c)) ∧ w.grownBy w' none := by
  by_cases h : c < 128
  · have h1 := Tryz.strings_IndexRune_ascii ⟨#[48, 49, 50, 51, 52, 53, 54, 55, 56, 57, 97, 98, 99, 100, 101, 102]⟩ (c : Int) w (by omega) (by omega)
    have h2 : Lib.indexByte hexL (c : Int).toNat.toUInt8 = hexIdx c := hexIdx_ascii ⟨c, h⟩
    refine h1.mono fun e w' ⟨he, hw⟩ => ⟨?_, hw ▸ gb_refl _ _⟩
    rw [he, ← h2]
    rfl
  · have e1 : hexIdx c = -1 := by
      unfold hexIdx
      rw [if_neg (by omega), if_neg (by omega)]
    rw [e1]
    by_cases h3 : c = 65533
    · subst h3
      exact hexrune_err _ rfl w
    · cases hv : Lib.validRune c
      · exact hexrune_bad c w (by omega) (by omega) (by omega) hv
      · obtain ⟨k, x, hk, h4, h5, h6, h7⟩ := encode_far c (by omega) hv
        exact hexrune_far _ rfl c w (by omega) (by omega) (by omega) hv _ x (run_rune c) k hk h4 h5 h6 h7
end Go.Proofs.YtocjlbpehfpdoaaGreatDoor

set_option linter.unusedVariables false
set_option linter.unusedSimpArgs false
namespace Go.Proofs.YtocjlbpehfpdoaaGreatDoor
open Go.RowKit

/-- Digits of sixteen, one by one. -/
def hexF : Js.Bs → Int → Option Int
  | [], x => some x
  | b :: l, x => if hexIdx b.toNat < 0 then none else hexF l (x * 16 + hexIdx b.toNat)

theorem hexIdx_le (c : Int) : -1 ≤ hexIdx c ∧ hexIdx c ≤ 15 := by
  unfold hexIdx
  split
  · omega
  · split <;> omega
theorem hexIdx_run {c : Int} (h : 0 ≤ hexIdx c) : (48 ≤ c ∧ c ≤ 57) ∨ (97 ≤ c ∧ c ≤ 102) := by
  unfold hexIdx at h
  split at h
  · omega
  · split at h <;> omega

theorem or16 (x i : Int) (h0 : 0 ≤ x) (h1 : x < 65536) (h2 : 0 ≤ i) (h3 : i < 16) : bits .or .i32 (x * 16) i = x * 16 + i := by
  obtain ⟨a, rfl⟩ := Int.eq_ofNat_of_zero_le h0
  obtain ⟨b, rfl⟩ := Int.eq_ofNat_of_zero_le h2
  have e : (a * 16 : Nat) ||| b = a * 16 + b := by
    have := Nat.two_pow_add_eq_or_of_lt (i := 4) (b := b) (by omega) a
    rw [Nat.mul_comm a 16]
    exact this.symm
  unfold bits
  have e1 : (BitVec.ofInt IntKind.i32.bits ((a : Int) * 16) ||| BitVec.ofInt IntKind.i32.bits (b : Int)).toNat = a * 16 + b := by
    have ha : (BitVec.ofInt IntKind.i32.bits ((a : Int) * 16)).toNat = a * 16 := by
      rw [show ((a : Int) * 16) = ((a * 16 : Nat) : Int) by simp]
      rw [BitVec.toNat_ofInt]
      simp only [IntKind.bits]
      omega
    have hb : (BitVec.ofInt IntKind.i32.bits (b : Int)).toNat = b := by
      rw [BitVec.toNat_ofInt]
      simp only [IntKind.bits]
      omega
    rw [BitVec.toNat_or, ha, hb, e]
  simp only [e1]
  rw [show (((a * 16 + b : Nat) : Int)) = (a : Int) * 16 + b by simp]
  exact IntWalk.i32_in _ (by omega)

theorem fourS_some {st : Js.St} {x : Int} (h : Js.hex4 st.s = some x) : Js.fourS st = (x, { st with s := st.s.drop 4 }) := by simp [Js.fourS, h]
theorem fourS_none {st : Js.St} (h : Js.hex4 st.s = none) : Js.fourS st = (0, Js.failS st 11) := by simp [Js.fourS, h]
theorem drop_get (l : Js.Bs) (k : Nat) (h : k < l.length) : l.drop k = l[k] :: l.drop (k + 1) := List.drop_eq_getElem_cons h

set_option maxRecDepth 100000 in
set_option maxHeartbeats 4000000 in
/-- Where the digits end in L (p of them), or what stands there is none. -/
theorem four_walk (B r : Nat) (st : Js.St) (w : World) (h : RSt w r st) (hT : Tb B w) (hB : B ≤ r) (hlen : 4 ≤ st.s.length) (p : Nat) (hp : p ≤ 4) (L : Js.Bs) (hL : L = Lib.toLowerD (st.s.take 4))
    (hA : ∀ b ∈ L.take p, b.toNat < 128) (hpl : p ≤ L.length) (hend : p < L.length → hexIdx (Lib.decodeL (L.drop p)).1 = -1)
    (hres : Js.hex4 st.s = if p < L.length then none else hexF L 0) :
    Calls Tryz.prog 283 #[.pointer (some ⟨r, 0, none⟩)] w (RDid w r (Js.fourS st).2 (.int .i32 (Js.fourS st).1)) := by
  have HH := Lib.hid h
  obtain ⟨s, HS, HB, hl, c0, c1, c2, f0, f1, f2⟩ := h.op
  have hrw := h.lt
  clear h
  have h4 : 4 ≤ s.size := by rw [← sz_of, HS.out]; exact hlen
  have e4 : decide ((s.size : Int) < 4) = false := by simp; omega
  have HT := Lib.hid hT
  have HA := Lib.hid hA
  have HE := Lib.hid hend
  have HR := Lib.hid hres
  have HL : Hid (Lib.toLowerD (s.extract 0 4).data.toList = L) := Lib.hid (by rw [hL, ext_list, HS.out]; rfl)
  clear hT hA hL hlen hend hres
  go_enter Tryz.func283, Tryz.ntmps283
  go_wp2_with fail
  have hlow := Tryz.strings_ToLower_any (s.extract 0 4) w (by simp [ByteArray.size_extract]; omega) HT.out.tabs.cr HT.out.tabs.u8
  rw [HL.out] at hlow
  obtain ⟨S, hS⟩ : ∃ S : ByteArray, S = ⟨L.toArray⟩ := ⟨_, rfl⟩
  rw [← hS] at hlow
  have HSL : Hid (S.data.toList = L) := Lib.hid (by rw [hS])
  have hSz : S.size = L.length := by rw [← sz_of, HSL.out]
  clear hS
  refine hlow.mono ?_
  clear hlow
  rintro e w1 ⟨rfl, hw1⟩
  have HG1 := Lib.hid (gb_below hw1)
  have hsz1 := hw1.size
  clear hw1
  go_wp2_with fail
  go_loopw [3] (fun s3 wr => ∃ (pos : Nat) (x : Int), s3 = .int .i32 x ∧ pos ≤ p ∧ wr.heap[w1.heap.size]? = some (.stringIter S pos) ∧ w1.grownBy wr none ∧ 0 ≤ x ∧ x < 16 ^ pos ∧ hexF ((L.take p).drop pos) x = hexF (L.take p) 0) (fun _ wr => S.size - wr.iterPos w1.heap.size)
  case atStart => exact ⟨0, 0, rfl, Nat.zero_le _, blk_new w1 _, World.grownBy_alloc w1 _ none, by omega, by omega, rfl⟩
  case round =>
    obtain ⟨pos, x, rfl, hp1, hit, hg, hx0, hx1, hrel⟩ := hrel
    have HG := Lib.hid hg
    have HI := Lib.hid hit
    have HF := Lib.hid hrel
    clear hrel
    have hpow : (16 : Int) ^ pos ≤ 65536 := by
      have : pos = 0 ∨ pos = 1 ∨ pos = 2 ∨ pos = 3 ∨ pos = 4 := by omega
      rcases this with rfl | rfl | rfl | rfl | rfl <;> decide
    by_cases hlt : pos < S.size
    · obtain ⟨c, n, hcn⟩ : ∃ c n, Utf8.decode S pos = (c, n) := ⟨_, _, rfl⟩
      have hdl := decode_drop S pos hlt
      have hw := Lib.decodeL_width (S.data.toList.drop pos)
      have hru := Lib.decodeL_rune (S.data.toList.drop pos)
      rw [← hdl, hcn] at hw hru
      have hnx : ∀ ty, (Instr.next (.pointer (some ⟨w1.heap.size, 0, none⟩)) true ty).run Tryz.prog wr = _ := fun ty => Lib.run_next_any_at wr w1.heap.size S pos ty hit hlt
      rw [hcn] at hnx
      simp only at hnx hw hru
      have hg2 := gb_iter hg (Nat.le_refl _) S (pos + n)
      have hi2 := Lib.iterAt_heap wr w1.heap.size S pos (pos + n) hit
      have G2 := Lib.hid hg2
      have I2 := Lib.hid hi2
      clear hg hit hg2 hi2
      rw [HSL.out, hcn] at hdl
      have hltL : pos < L.length := by omega
      cases hneg : decide (hexIdx c < 0)
      · -- a digit
        have hi0 : 0 ≤ hexIdx c := by simpa using hneg
        have hi1 := (hexIdx_le c).2
        have hpp : pos < p := by
          rcases Nat.lt_or_ge pos p with h | h
          · exact h
          · have hpe : pos = p := by omega
            subst hpe
            have := HE.out hltL
            rw [← hdl] at this
            simp only at this
            omega
        have hmem : L[pos]'hltL ∈ L.take p := by
          rw [List.mem_take_iff_getElem]
          exact ⟨pos, by omega, rfl⟩
        have hasc := HA.out _ hmem
        have hcons : L.drop pos = L[pos]'hltL :: L.drop (pos + 1) := List.drop_eq_getElem_cons hltL
        rw [hcons, Lib.decodeL_ascii _ _ hasc] at hdl
        simp only [Prod.mk.injEq] at hdl
        obtain ⟨hc1, hn1⟩ := hdl
        have hnext : hexF ((L.take p).drop (pos + 1)) (x * 16 + hexIdx c) = hexF (L.take p) 0 := by
          rw [← HF.out, List.drop_eq_getElem_cons (l := L.take p) (i := pos) (by rw [List.length_take]; omega)]
          have hgt : (L.take p)[pos]'(by rw [List.length_take]; omega) = L[pos]'hltL := List.getElem_take ..
          rw [hgt]
          conv => rhs; unfold hexF
          rw [← hc1, if_neg (by omega)]
        subst hn1
        obtain ⟨i, hi⟩ : ∃ i, hexIdx c = i := ⟨_, rfl⟩
        have hcall := hexrune c hru (wr.iterAt w1.heap.size S (pos + 1))
        rw [hi] at hcall hi0 hi1 hneg hnext
        have HX := Lib.hid hcall
        have HN := Lib.hid hnext
        clear hi hcall hcn hcons hmem hasc hc1 hnext
        go_wp2_with fail
        refine HX.out.mono ?_
        rintro e w2 ⟨rfl, hg3⟩
        have G3 := Lib.hid (gb_trans G2.out hg3)
        have I3 := Lib.hid (gb_blk hg3 I2.out (by simp))
        clear hg3
        go_wp2
        have hx16 : x * 16 + i < 16 ^ (pos + 1) := by rw [Int.pow_succ]; omega
        refine ⟨⟨pos + 1, x * 16 + i, by rw [or16 x i hx0 (by omega) hi0 (by omega)], hpp, I3.out, G3.out, by omega, hx16, HN.out⟩, ?_⟩
        rw [Go.iterPos_of HI.out, Go.iterPos_of I3.out]
        omega
      · -- none
        have hneg' : hexIdx c < 0 := by simpa using hneg
        have hnone : Js.hex4 st.s = none := by
          rw [HR.out]
          split
          · rfl
          · rename_i hge
            have hpp : pos < p := by omega
            have hmem : L[pos]'hltL ∈ L.take p := by
              rw [List.mem_take_iff_getElem]
              exact ⟨pos, by omega, rfl⟩
            have hasc := HA.out _ hmem
            have hcons : L.drop pos = L[pos]'hltL :: L.drop (pos + 1) := List.drop_eq_getElem_cons hltL
            rw [hcons, Lib.decodeL_ascii _ _ hasc] at hdl
            simp only [Prod.mk.injEq] at hdl
            have htk : L.take p = L := List.take_of_length_le (by omega)
            rw [htk] at HF
            rw [← HF.out, hcons, hexF, ← hdl.1, if_pos hneg']
        have h4n := fourS_none hnone
        obtain ⟨i, hi⟩ : ∃ i, hexIdx c = i := ⟨_, rfl⟩
        have hcall := hexrune c hru (wr.iterAt w1.heap.size S (pos + n))
        rw [hi] at hcall hneg hneg'
        have HX := Lib.hid hcall
        have H4 := Lib.hid h4n
        clear hi hcall hcn hnone h4n hdl
        go_wp2_with fail
        refine HX.out.mono ?_
        rintro e w2 ⟨rfl, hg3⟩
        have g4 := gb_trans HG1.out (gb_trans G2.out hg3)
        have G4 := Lib.hid g4
        have hst := HH.out.gb g4 (by simp)
        clear hg3 g4
        go_wp2_with fail
        refine (json_fail r st 11 w2 hst).mono ?_
        rintro e w3 ⟨rfl, h5, g5⟩
        have G5 := Lib.hid g5
        clear g5
        go_wp2
        go_ret
        rw [H4.out]
        exact ⟨rfl, h5, gb_trans (gb_any G4.out) G5.out⟩
    · have hpe : pos = L.length := by omega
      have hpe2 : p = L.length := by omega
      have hsome : Js.hex4 st.s = some x := by
        rw [HR.out, if_neg (by omega), ← show L.take p = L from List.take_of_length_le (by omega), ← HF.out, List.drop_of_length_le (by rw [List.length_take]; omega)]
        rfl
      have h4s := fourS_some hsome
      have H4 := Lib.hid h4s
      have hnx : ∀ ty, (Instr.next (.pointer (some ⟨w1.heap.size, 0, none⟩)) true ty).run Tryz.prog wr = _ := fun ty => Lib.run_next_end_at wr w1.heap.size S pos ty hit hlt
      have g4 := gb_trans HG1.out hg
      have G4 := Lib.hid g4
      have hb4 := gb_blk g4 HB.out (by simp)
      have k0 : wr.cell? ⟨r, 0, none⟩ = some (.string s) := by rw [blk_c hb4]; rfl
      have kf := blk_f hb4 0
      have HB4 := Lib.hid hb4
      clear hsome h4s hpe hpe2 hit hg g4 hb4
      go_wp2
      go_ret
      rw [H4.out]
      refine RDid.mk' rfl (s.extract 4 s.size) ?_ (blk_set' HB4.out 0 _) ?_ (gb_set (gb_any G4.out) (.inr rfl) _)
      · rw [Lib.extract_to_end, HS.out]
      · simp [ByteArray.size_extract]; omega
end Go.Proofs.YtocjlbpehfpdoaaGreatDoor

set_option linter.unusedVariables false
set_option linter.unusedSimpArgs false
namespace Go.Proofs.YtocjlbpehfpdoaaGreatDoor
open Go.RowKit

theorem low_cons (b : UInt8) (t : Js.Bs) (hb : b.toNat < 128) : Lib.toLowerD (b :: t) = Lib.lowerB b :: Lib.toLowerD t := by
  unfold Lib.toLowerD
  rw [Lib.mapD_step Lib.toLowerU (b :: t) (by simp), Lib.decodeL_ascii b t hb]
  dsimp only
  rw [if_pos (Lib.toLowerU_range b.toNat (by omega)).1, Lib.lower_byte ⟨b.toNat, hb⟩, List.drop_succ_cons, List.drop_zero]
  simp
/-- A row of the table of cases leads no rune beyond ASCII to a digit of sixteen. -/
def rowFar (x : Lib.CaseRow) : Bool := decide (x.delta 1 > 1114111) || decide (x.2.1 < 128) || decide ((max x.1 128 : Nat) + x.delta 1 ≥ 103)
set_option maxRecDepth 100000 in
theorem rows_far : Lib.caseT.all rowFar = true := by decide +kernel
theorem toLower_far (r : Int) (h : 128 ≤ r) : 103 ≤ Lib.toLowerU r := by
  unfold Lib.toLowerU
  rw [if_neg (by omega)]
  unfold Lib.toR Lib.lookupGo
  cases hi : Lib.lookupIdx Lib.caseA r (Lib.caseA.size + 1) 0 Lib.caseA.size with
  | none => simp only [Option.map_none]; omega
  | some i =>
    obtain ⟨hil, hlo, hhi⟩ := Lib.lookupIdx_some Lib.caseA r _ _ _ i hi
    simp only [Option.map_some]
    have hrow : rowFar (Lib.caseA.getD i (0, 0, 0, 0, 0)) = true := by
      have h1 : i < Lib.caseT.length := by simpa [Lib.caseA] using hil
      have h2 : Lib.caseA.getD i (0, 0, 0, 0, 0) = Lib.caseT[i]'h1 := by
        simp [Lib.caseA, Array.getD_eq_getD_getElem?, h1]
      rw [h2]
      exact List.all_eq_true.1 rows_far _ (List.getElem_mem h1)
    revert hlo hhi hrow
    generalize Lib.caseA.getD i (0, 0, 0, 0, 0) = x
    intro hlo hhi hrow
    simp only [rowFar, Bool.or_eq_true, decide_eq_true_eq] at hrow
    unfold Lib.convertR
    split
    · omega
    · have : ((max x.1 128 : Nat) : Int) ≤ r := by omega
      omega
theorem decode_far (b : UInt8) (t : Js.Bs) (hb : 128 ≤ b.toNat) : 128 ≤ (Lib.decodeL (b :: t)).1 := by
  unfold Lib.decodeL Utf8.decode
  have h0 : ((⟨(b :: t).toArray⟩ : ByteArray).get! (0 + 0)).toNat = b.toNat := rfl
  simp only [h0, Utf8.runeError]
  rw [if_neg (by omega)]
  split
  · split
    · rename_i h; omega
    · simp
  · split
    · split
      · rename_i h; simp at h ⊢; omega
      · simp
    · split
      · split
        · rename_i h; simp at h ⊢; omega
        · simp
      · simp
/-- What is behind the ASCII bytes of a lowered text begins with no digit. -/
theorem enc_head (c : Int) (h : 103 ≤ c) (t : Js.Bs) : hexIdx (Lib.decodeL (Lib.encodeRune c ++ t)).1 = -1 ∧ 0 < (Lib.encodeRune c ++ t).length := by
  have hl := (Lib.encodeRuneZ_length c).1
  have hpos : 0 < (Lib.encodeRune c).length := by simp [Lib.encodeRune]; omega
  refine ⟨?_, by rw [List.length_append]; omega⟩
  have idx : ∀ k : Nat, 103 ≤ k → hexIdx (k : Int) = -1 := by
    intro k hk
    unfold hexIdx
    rw [if_neg (by omega), if_neg (by omega)]
  by_cases h1 : c ≤ 127
  · have e : Lib.encodeRune c = [c.toNat.toUInt8] := by simp [Lib.encodeRune, Lib.encodeRuneZ_one (show (0 : Int) ≤ c by omega) h1]
    rw [e, List.singleton_append, Lib.decodeL_ascii _ _ (by simp [Nat.toUInt8, UInt8.toNat_ofNat']; omega)]
    refine idx _ ?_
    simp [Nat.toUInt8, UInt8.toNat_ofNat']
    omega
  · obtain ⟨b, l, hbl, hb⟩ : ∃ b l, Lib.encodeRune c = b :: l ∧ 128 ≤ b.toNat := by
      by_cases h2 : c ≤ 2047
      · refine ⟨_, _, by rw [Lib.encodeRune, Lib.encodeRuneZ_two (by omega) h2]; rfl, ?_⟩
        simp [Nat.toUInt8, UInt8.toNat_ofNat']
        omega
      · by_cases h3 : (2048 ≤ c ∧ c < 55296) ∨ (57343 < c ∧ c ≤ 65535)
        · refine ⟨_, _, by rw [Lib.encodeRune, Lib.encodeRuneZ_three h3]; rfl, ?_⟩
          simp [Nat.toUInt8, UInt8.toNat_ofNat']
          omega
        · by_cases h4 : 65536 ≤ c ∧ c ≤ 1114111
          · refine ⟨_, _, by rw [Lib.encodeRune, Lib.encodeRuneZ_four h4.1 h4.2]; rfl, ?_⟩
            simp [Nat.toUInt8, UInt8.toNat_ofNat']
            omega
          · exact ⟨_, _, by rw [Lib.encodeRune, Lib.encodeRuneZ_bad (by omega)]; rfl, by decide⟩
    rw [hbl, List.cons_append]
    exact idx _ (by have := decode_far b (l ++ t) hb; omega)
/-- A lowered text's ASCII head; what comes behind it. -/
theorem low_split : ∀ l : Js.Bs, ∃ p, p ≤ l.length ∧ p ≤ (Lib.toLowerD l).length ∧ (∀ b ∈ (Lib.toLowerD l).take p, b.toNat < 128) ∧ (Lib.toLowerD l).take p = (l.take p).map Lib.lowerB ∧ (∀ b ∈ l.take p, b.toNat < 128) ∧
    (p < l.length → (∃ b, l[p]? = some b ∧ 128 ≤ b.toNat) ∧ p < (Lib.toLowerD l).length ∧ hexIdx (Lib.decodeL ((Lib.toLowerD l).drop p)).1 = -1) ∧ (p = l.length → (Lib.toLowerD l).length = p)
  | [] => ⟨0, by simp, by simp, by simp, by simp, by simp, by simp, fun _ => rfl⟩
  | b :: t => by
    by_cases hb : b.toNat < 128
    · obtain ⟨p, h1, h2, h3, h4, h5, h6, h7⟩ := low_split t
      have hlow : (Lib.lowerB b).toNat < 128 := by
        have : ∀ i : Fin 128, (Lib.lowerB (UInt8.ofNat i.val)).toNat < 128 := by decide
        have := this ⟨b.toNat, hb⟩
        simpa using this
      rw [low_cons b t hb]
      refine ⟨p + 1, by simp; omega, by simp; omega, ?_, by simp [h4], ?_, ?_, ?_⟩
      · intro x hx
        rw [List.take_succ_cons] at hx
        rcases List.mem_cons.1 hx with rfl | hx
        · exact hlow
        · exact h3 x hx
      · intro x hx
        rw [List.take_succ_cons] at hx
        rcases List.mem_cons.1 hx with rfl | hx
        · exact hb
        · exact h5 x hx
      · intro h
        have := h6 (by simp at h; omega)
        simpa using this
      · intro h
        have := h7 (by simp at h; omega)
        simp [this]
    · refine ⟨0, by simp, by simp, by simp, by simp, by simp, fun _ => ?_, by simp⟩
      have e : Lib.toLowerD (b :: t) = Lib.encodeRune (Lib.toLowerU (Lib.decodeL (b :: t)).1) ++ Lib.mapD Lib.toLowerU ((b :: t).drop (Lib.decodeL (b :: t)).2) := by
        unfold Lib.toLowerD
        rw [Lib.mapD_step Lib.toLowerU (b :: t) (by simp), if_pos (Lib.toLowerU_range _ (Lib.decodeL_rune _)).1]
      have hf := toLower_far ((Lib.decodeL (b :: t)).1 : Int) (by have := decode_far b t (by omega); omega)
      have hh := enc_head _ hf (Lib.mapD Lib.toLowerU ((b :: t).drop (Lib.decodeL (b :: t)).2))
      rw [← e] at hh
      exact ⟨⟨b, rfl, by omega⟩, hh.2, by simpa using hh.1⟩

def hexvOk (b : UInt8) : Bool :=
  match Js.hexv b with
  | some x => decide (hexIdx (Lib.lowerB b).toNat = x) && decide (0 ≤ x)
  | none => decide (hexIdx (Lib.lowerB b).toNat < 0)
theorem hexv_low : ∀ i : Fin 128, hexvOk (UInt8.ofNat i.val) = true := by decide +kernel
theorem hexv_low' (b : UInt8) (h : b.toNat < 128) : hexvOk b = true := by
  have := hexv_low ⟨b.toNat, h⟩
  simpa using this
theorem hexv_far (b : UInt8) (h : 128 ≤ b.toNat) : Js.hexv b = none := by
  have : ∀ i : Fin 256, 128 ≤ i.val → Js.hexv (UInt8.ofNat i.val) = none := by decide +kernel
  have := this ⟨b.toNat, b.toNat_lt⟩ h
  simpa using this
theorem hexF_step (b : UInt8) (h : b.toNat < 128) (l : Js.Bs) (x : Int) : hexF (Lib.lowerB b :: l) x = (Js.hexv b).bind fun d => hexF l (x * 16 + d) := by
  have := hexv_low' b h
  unfold hexvOk at this
  conv => lhs; unfold hexF
  cases hv : Js.hexv b with
  | none => rw [hv] at this; simp only [decide_eq_true_eq] at this; rw [if_pos this]; rfl
  | some d => rw [hv] at this; simp only [Bool.and_eq_true, decide_eq_true_eq] at this; rw [if_neg (by omega), this.1]; rfl
theorem hex4_eq (s : Js.Bs) (h : 4 ≤ s.length) : ∃ p, p ≤ 4 ∧ p ≤ (Lib.toLowerD (s.take 4)).length ∧ (∀ b ∈ (Lib.toLowerD (s.take 4)).take p, b.toNat < 128) ∧
    (p < (Lib.toLowerD (s.take 4)).length → hexIdx (Lib.decodeL ((Lib.toLowerD (s.take 4)).drop p)).1 = -1) ∧ Js.hex4 s = if p < (Lib.toLowerD (s.take 4)).length then none else hexF (Lib.toLowerD (s.take 4)) 0 := by
  obtain ⟨a, b, c, d, t, rfl⟩ : ∃ a b c d t, s = a :: b :: c :: d :: t := by
    match s, h with
    | a :: b :: c :: d :: t, _ => exact ⟨a, b, c, d, t, rfl⟩
  have e4 : (a :: b :: c :: d :: t).take 4 = [a, b, c, d] := rfl
  rw [e4]
  obtain ⟨p, h1, h2, h3, h4, h5, h6, h7⟩ := low_split [a, b, c, d]
  simp only [List.length_cons, List.length_nil, Nat.zero_add, Nat.reduceAdd] at h1 h6 h7
  by_cases hp : p = 4
  · subst hp
    have hl := h7 rfl
    refine ⟨4, by omega, h2, h3, fun hlt => by omega, ?_⟩
    have hL : Lib.toLowerD [a, b, c, d] = [Lib.lowerB a, Lib.lowerB b, Lib.lowerB c, Lib.lowerB d] := by
      rw [← List.take_of_length_le (show (Lib.toLowerD [a, b, c, d]).length ≤ 4 by omega), h4]
      rfl
    rw [if_neg (by omega), hL]
    have ha := h5 a (by simp)
    have hb := h5 b (by simp)
    have hc := h5 c (by simp)
    have hd := h5 d (by simp)
    rw [hexF_step a ha]
    simp only [hexF_step b hb, hexF_step c hc, hexF_step d hd]
    simp only [Js.hex4]
    cases Js.hexv a <;> cases Js.hexv b <;> cases Js.hexv c <;> cases Js.hexv d <;> simp [hexF]
  · obtain ⟨⟨x, hx, hx2⟩, h8, h9⟩ := h6 (by omega)
    refine ⟨p, h1, h2, h3, fun _ => h9, ?_⟩
    rw [if_pos h8]
    have hn := hexv_far x hx2
    obtain rfl | rfl | rfl | rfl : p = 0 ∨ p = 1 ∨ p = 2 ∨ p = 3 := by omega
    · obtain rfl : a = x := by simpa using hx
      simp [Js.hex4, hn]
    · obtain rfl : b = x := by simpa using hx
      simp only [Js.hex4, hn]
      cases Js.hexv a <;> rfl
    · obtain rfl : c = x := by simpa using hx
      simp only [Js.hex4, hn]
      cases Js.hexv a <;> cases Js.hexv b <;> rfl
    · obtain rfl : d = x := by simpa using hx
      simp only [Js.hex4, hn]
      cases Js.hexv a <;> cases Js.hexv b <;> cases Js.hexv c <;> rfl

set_option maxHeartbeats 1000000 in
theorem json_four (B r : Nat) (st : Js.St) (w : World) (h : RSt w r st) (hT : Tb B w) (hB : B ≤ r) :
    Calls Tryz.prog 283 #[.pointer (some ⟨r, 0, none⟩)] w (RDid w r (Js.fourS st).2 (.int .i32 (Js.fourS st).1)) := by
  by_cases hlen : 4 ≤ st.s.length
  · obtain ⟨p, h1, h2, h3, h4, h5⟩ := hex4_eq st.s hlen
    exact four_walk B r st w h hT hB hlen p h1 _ rfl h3 h2 h4 h5
  · have hn : Js.hex4 st.s = none := by
      match hs : st.s with
      | [] => rfl
      | [a] => rfl
      | [a, b] => rfl
      | [a, b, c] => rfl
      | a :: b :: c :: d :: t => rw [hs] at hlen; simp at hlen
    rw [fourS_none hn]
    have HH := Lib.hid h
    obtain ⟨s, HS, HB, hl, c0, c1, c2, f0, f1, f2⟩ := h.op
    have h4 : s.size < 4 := by rw [← sz_of, HS.out]; omega
    clear h hn hlen
    have e4 : decide ((s.size : Int) < 4) = true := by simp; omega
    go_enter Tryz.func283, Tryz.ntmps283
    go_wp2_with fail
    refine (json_fail r st 11 w HH.out).mono ?_
    rintro e w1 ⟨rfl, h1, g1⟩
    have HG := Lib.hid g1
    clear g1
    go_wp2
    go_ret
    exact ⟨rfl, h1, HG.out⟩
end Go.Proofs.YtocjlbpehfpdoaaGreatDoor
