/- package order: a number's bytes. · package order: a string's bytes; kinds; keys. -/
import Derived.Test.YtocjlbpehfpdoaaGreatDoorK08
import Derived.Test.YtocjlbpehfpdoaaGreatDoorK09
import Derived.Deep.QuietTactic
import Derived.BigQuiet
set_option linter.unusedVariables false
set_option linter.unusedSimpArgs false
namespace Go.Proofs.YtocjlbpehfpdoaaGreatDoor
open Go.RowKit

/-- Bytes handed back, in new memory. -/
def BOut (w : World) (l : Js.Bs) (e : Ending) (w' : World) : Prop := ∃ r, e = .returned r ∧ SlB (fun k => w.heap.size ≤ k) w' l r ∧ w.grownBy w' none

theorem getD_get2 (l : Js.Bs) (p : Nat) (h : p < l.length) : l.getD p 0 = l[p]'h := by
  rw [List.getD_eq_getElem?_getD, List.getElem?_eq_getElem h]; rfl
theorem gb_own {a b c : World} {v : Value} (h : a.grownBy b none) (k : b.grownBy c v.ownBlock) (hv : ∀ g, v.ownBlock = some g → a.heap.size ≤ g) : a.grownBy c none := by
  cases hs : v.ownBlock with
  | none => rw [hs] at k; exact gb_trans h k
  | some g => rw [hs] at k; exact gb_new h k (hv g hs)
theorem be2 (h : Nat) : be h 2 = [UInt8.ofNat (h / 256), UInt8.ofNat h] := by
  simp [be, beB, List.range_succ]
theorem be1 (c : UInt8) : be c.toNat 1 = [c] := by
  simp [be, beB, List.range_succ]
theorem u8sub (c d : UInt8) : IntKind.u8.wrap ((c.toNat : Int) - (d.toNat : Int)) = ((c - d).toNat : Int) := by
  have h1 := c.toNat_lt
  have h2 := d.toNat_lt
  rw [UInt8.toNat_sub]
  unfold IntKind.wrap
  simp [IntKind.signed, IntKind.bits]
  omega
theorem u8add (c d : UInt8) : IntKind.u8.wrap ((c.toNat : Int) + (d.toNat : Int)) = ((c + d).toNat : Int) := by
  have h1 := c.toNat_lt
  have h2 := d.toNat_lt
  rw [UInt8.toNat_add]
  unfold IntKind.wrap
  simp [IntKind.signed, IntKind.bits]
theorem bytes_new' (w : World) (l : Js.Bs) (base k n : Nat) (hk : k = w.heap.size) (hn : n = l.length) (hb : base ≤ w.heap.size) (hl : l.length ≤ 100000) : OwB (w.alloc (.cells (bc l).toArray 5 (0, 0))) base l (.slice (some ⟨k, 0, none⟩) n n) := by
  subst hk hn
  refine ⟨by rw [bc_len]; omega, .inr ⟨w.heap.size, l.length, (bc l).toArray, rfl, hb, blk_new w _, Nat.le_refl _, by unfold maxLen; omega, by simp [bc_len], ?_⟩⟩
  rw [List.toList_toArray, List.take_of_length_le (by rw [bc_len]; omega)]
theorem bytes_new (w : World) (l : Js.Bs) (base : Nat) (hb : base ≤ w.heap.size) (hl : l.length ≤ 100000) : OwB (w.alloc (.cells (bc l).toArray 5 (0, 0))) base l (.slice (some ⟨w.heap.size, 0, none⟩) l.length l.length) := by
  refine ⟨by rw [bc_len]; omega, .inr ⟨w.heap.size, l.length, (bc l).toArray, rfl, hb, blk_new w _, Nat.le_refl _, by unfold maxLen; omega, by simp [bc_len], ?_⟩⟩
  rw [List.toList_toArray, List.take_of_length_le (by rw [bc_len]; omega)]

theorem wr_numI (base g : Nat) (xi m : Int) (x n : Nat) (l : Js.Bs) (w : World) (hxi : xi = x) (hm : m = n) (h : WSt w base g l) (hbase : base ≤ w.heap.size) (hx : x < 18446744073709551616) (hn : 1 ≤ n) (hn8 : n ≤ 8) (hl : l.length ≤ 100000) :
    Calls Tryz.prog 113 #[.pointer (some ⟨g, 0, none⟩), .int .u64 xi, .int .i64 m] w fun e w' => e = .returned (.tuple #[]) ∧ WSt w' base g (l ++ be x n) ∧ Below base w w' := by
  subst hxi hm
  exact wr_num base g x n l w h hbase hx hn hn8 hl
theorem wr_new' (w : World) : Calls Tryz.prog 68 #[] w fun e w' => ∃ g, e = .returned (.pointer (some ⟨g, 0, none⟩)) ∧ Hid (g = w.heap.size) ∧ Hid (WSt w' g g []) ∧ Hid (w.grownBy w' none) := by
  refine (wr_new w).mono ?_
  rintro e w' ⟨rfl, h1, h2⟩
  exact ⟨_, rfl, Lib.hid rfl, Lib.hid h1, Lib.hid h2⟩


theorem onum_eq (dn : Bool) (dig : Js.Bs) (ex : Int) (hd : dig ≠ []) (H : Nat) (hH : Js.high ⟨dn, dig, ex⟩ = H) : Js.onumber ⟨dn, dig, ex⟩ = if dn then 0 :: (be H 2 ++ dig.map (fun c => c - 48 + 1) ++ be 0 1).map (fun c => ~~~c) else 2 :: (be H 2 ++ dig.map (fun c => c - 48 + 1) ++ be 0 1) := by
  have hpos : Js.onumPos ⟨dn, dig, ex⟩ = be H 2 ++ dig.map (fun c => c - 48 + 1) ++ be 0 1 := by
    rw [be2, ← hH]
    simp [Js.onumPos, be, beB, List.range_succ]
  unfold Js.onumber
  rw [if_neg hd, hpos]

theorem compl_all : ∀ i : Fin 256, bits .xor .u8 IntKind.u8.max (i.val : Int) = ((~~~(UInt8.ofNat i.val)).toNat : Int) := by decide +kernel
theorem compl8 (c : UInt8) : bits .xor .u8 IntKind.u8.max (c.toNat : Int) = ((~~~c).toNat : Int) := by
  have h := compl_all ⟨c.toNat, c.toNat_lt⟩
  simp only [UInt8.ofNat_toNat] at h
  exact h

section
variable (k : Int) (is dn : Bool) (dig t : Js.Bs) (ex : Int) (vA uA : Option Addr) (vl vc ul uc : Nat) (w : World)
set_option maxRecDepth 100000 in
set_option maxHeartbeats 8000000 in
theorem ord_number_zero (h0 : dig = []) :
    Calls Tryz.prog 47 #[.agg #[.int .i64 k, .bool is, .bool dn, .string (ba dig), .int .i64 ex, .string (ba t), .slice vA vl vc, .slice uA ul uc]] w (BOut w [1]) := by
  have he : (ba dig).toList.isEmpty = true := by rw [is_empty, h0]; rfl
  clear h0
  go_enter Tryz.func47, Tryz.ntmps47
  go_wp2
  go_ret
  exact ⟨_, rfl, (bytes_new' _ [1] w.heap.size _ _ (by simp) rfl (by simp; omega) (by simp)).slb (Nat.le_refl _), gb_alloc (gb_alloc (World.grownBy_alloc w _ none) _) _⟩

/-- Where a number's bytes are put: the loop over its digits is behind; the writer has put them, and the sign. -/
def NumPut (g : Nat) (w1 : World) (l : Js.Bs) (wr : World) : Prop := WSt wr g g l ∧ Below g w1 wr
theorem NumPut.ws {g : Nat} {w1 : World} {l : Js.Bs} {wr : World} (h : NumPut g w1 l wr) : WSt wr g g l := h.1
theorem NumPut.b {g : Nat} {w1 : World} {l : Js.Bs} {wr : World} (h : NumPut g w1 l wr) : Below g w1 wr := h.2

set_option maxRecDepth 100000 in
set_option maxHeartbeats 8000000 in
theorem ord_number_some (hd : dig ≠ []) (hl : dig.length ≤ 100) (h0 : 0 ≤ dig.length + ex + 2000) (h1 : dig.length + ex + 2000 < 65536) :
    Calls Tryz.prog 47 #[.agg #[.int .i64 k, .bool is, .bool dn, .string (ba dig), .int .i64 ex, .string (ba t), .slice vA vl vc, .slice uA ul uc]] w (BOut w (Js.onumber ⟨dn, dig, ex⟩)) := by
  have he : (ba dig).toList.isEmpty = false := by rw [is_empty]; simpa using hd
  have hsz : (ba dig).size = dig.length := sz_ba _
  obtain ⟨L, hL⟩ : ∃ L, dig.length = L := ⟨_, rfl⟩
  obtain ⟨H, hH⟩ : ∃ H, Js.high ⟨dn, dig, ex⟩ = H := ⟨_, rfl⟩
  rw [onum_eq dn dig ex hd H hH]
  obtain ⟨P, hP⟩ : ∃ P, be H 2 ++ dig.map (fun c => c - 48 + 1) ++ be 0 1 = P := ⟨_, rfl⟩
  rw [hP]
  have HP := Lib.hid hP
  clear hP
  have hhi : (H : Int) = dig.length + ex + 2000 := by rw [← hH]; unfold Js.high; simp only; omega
  rw [hL] at hsz hl h0 h1 hhi
  have hhb : H < 65536 := by omega
  have hhi' : (L : Int) + ex + 2000 = H := hhi.symm
  have hu : IntKind.u64.wrap (H : Int) = H := by unfold IntKind.wrap; simp [IntKind.signed, IntKind.bits]; omega
  have HL := Lib.hid hL
  obtain ⟨oV, hoV⟩ : ∃ o, o = Obj.cells #[.int .i64 k, .bool is, .bool dn, .string (ba dig), .int .i64 ex, .string (ba t), .slice vA vl vc, .slice uA ul uc] 29 (0, 0) := ⟨_, rfl⟩
  obtain ⟨oN, hoN⟩ : ∃ o, o = Obj.cells #[.bool dn, .string (ba dig), .int .i64 ex] 25 (0, 0) := ⟨_, rfl⟩
  have a2 := allocs_at [oV, oN] w 1 _ rfl
  have asz := allocs_size [oV, oN] w
  have ag := allocs_gb [oV, oN] w
  subst hoV hoN
  simp only [allocs] at a2 asz ag
  have HA2 := Lib.hid a2
  have HAG := Lib.hid ag
  have HASZ := Lib.hid asz
  clear a2 asz ag hL hd hH hhi
  go_enter Tryz.func47, Tryz.ntmps47
  go_wp2_with fail
  refine (wr_new' _).mono ?_
  rintro e w1 ⟨g, rfl, HG, HW1, HG1⟩
  have HGE : Hid (g = w.heap.size + 2) := Lib.hid (by rw [HG.out]; exact HASZ.out)
  have hg1 : w.heap.size + 1 < g := by have := HGE.out; omega
  have b2 := gb_blk HG1.out HA2.out (by simp)
  have c0 := blk_c b2 0
  have c1 := blk_c b2 1
  have c2 := blk_c b2 2
  have HB2 := Lib.hid b2
  have hgl : g < w1.heap.size := by obtain ⟨_, s, hs, _⟩ := HW1.out; exact blk_lt' hs
  clear b2
  go_wp2_with fail
  ((with_reducible refine (wr_numI g g H 2 H 2 [] _ rfl rfl HW1.out (Nat.le_of_lt hgl) (by omega) (by omega) (by omega) (by simp)).mono ?_))
  rintro e w2 ⟨rfl, hw2, hb2⟩
  have HW2 := Lib.hid (show NumPut g w1 (be H 2) w2 from ⟨hw2, hb2⟩)
  have d1 : w2.cell? ⟨w.heap.size + 1, 1, none⟩ = some (.string (ba dig)) := by rw [blk_c ((hb2.block _ hg1).trans HB2.out)]; rfl
  clear hw2 hb2 c0 c1 c2
  go_wp2_with fail
  go_loopw [30] (fun s30 wr => ∃ i : Nat, i ≤ L ∧ s30 = .int .i64 i ∧ NumPut g w1 (be H 2 ++ (dig.take i).map (fun c => c - 48 + 1)) wr) (fun s30 _ => L - (intOf s30).toNat)
  case atStart => exact ⟨0, Nat.zero_le _, rfl, by simpa using HW2.out⟩
  case round =>
    obtain ⟨i, hin, rfl, hnp⟩ := hrel
    have HNP := Lib.hid hnp
    have hbr := (hnp.2.block _ hg1).trans HB2.out
    have e1 : wr.cell? ⟨w.heap.size + 1, 1, none⟩ = some (.string (ba dig)) := by rw [blk_c hbr]; rfl
    have e0 : wr.cell? ⟨w.heap.size + 1, 0, none⟩ = some (.bool dn) := by rw [blk_c hbr]; rfl
    have hgr : g ≤ wr.heap.size := Nat.le_trans (Nat.le_of_lt hgl) hnp.2.size
    clear hnp hbr
    by_cases hlt : i < L
    · obtain ⟨c, hc⟩ : ∃ c, dig.getD i 0 = c := ⟨_, rfl⟩
      have hrun := fun W => run_idx (ba dig) i (by rw [hsz]; exact hlt) c.toNat (by
        rw [← hc, getD_get2 dig i (by rw [HL.out]; exact hlt)]; rfl) W
      obtain ⟨d, hd⟩ : ∃ d, c - 48 = d := ⟨_, rfl⟩
      obtain ⟨e', he'⟩ : ∃ e, d + 1 = e := ⟨_, rfl⟩
      have q1 : IntKind.u8.wrap ((c.toNat : Int) - 48) = (d.toNat : Int) := by rw [← hd]; exact u8sub c 48
      have q2 : IntKind.u8.wrap ((d.toNat : Int) + 1) = (e'.toNat : Int) := by rw [← he']; exact u8add d 1
      have heb := e'.toNat_lt
      have q3 : IntKind.u64.wrap (e'.toNat : Int) = (e'.toNat : Int) := by unfold IntKind.wrap; simp [IntKind.signed, IntKind.bits]; omega
      have hlen : (be H 2 ++ (dig.take i).map (fun c => c - 48 + 1)).length ≤ 100000 := by
        rw [List.length_append, be_len, List.length_map, List.length_take]; omega
      have HE := Lib.hid (show be H 2 ++ (dig.take (i + 1)).map (fun c => c - 48 + 1) = be H 2 ++ (dig.take i).map (fun c => c - 48 + 1) ++ be e'.toNat 1 by
        have hil : i < dig.length := by rw [HL.out]; exact hlt
        rw [be1, List.take_succ_eq_append_getElem hil, List.map_append, List.append_assoc, ← he', ← hd, ← hc, getD_get2 dig i hil]; rfl)
      clear hc hd he'
      go_wp2_with fail
      ((with_reducible refine (wr_numI g g e'.toNat 1 e'.toNat 1 _ _ rfl rfl HNP.out.ws hgr (by omega) (by omega) (by omega) hlen).mono ?_))
      rintro e w3 ⟨rfl, hw3, hb3⟩
      have HW3 := Lib.hid (show NumPut g w1 (be H 2 ++ (dig.take (i + 1)).map (fun c => c - 48 + 1)) w3 from HE.out ▸ ⟨hw3, HNP.out.b.trans hb3⟩)
      clear hw3 hb3
      go_wp2_with fail
      go_roundw
      case rel => exact ⟨i + 1, by omega, by go_num, HW3.out⟩
      case measure => simp [intOf]; omega
    · have hie : i = L := by omega
      subst hie
      have HNP2 := Lib.hid (show NumPut g w1 (be H 2 ++ dig.map (fun c => c - 48 + 1)) wr from by
        have := HNP.out
        rwa [List.take_of_length_le (by rw [HL.out]; exact Nat.le_refl _)] at this)
      have hlen : (be H 2 ++ dig.map (fun c => c - 48 + 1)).length ≤ 100000 := by
        rw [List.length_append, be_len, List.length_map, HL.out]; omega
      clear HNP
      go_wp2_with fail
      ((with_reducible refine (wr_numI g g 0 1 0 1 _ _ rfl rfl HNP2.out.ws hgr (by omega) (by omega) (by omega) hlen).mono ?_))
      rintro e w3 ⟨rfl, hw3, hb3⟩
      have HW3 : Hid (NumPut g w1 P w3) := Lib.hid (HP.out ▸ ⟨hw3, HNP2.out.b.trans hb3⟩)
      have hlen4 : P.length = i + 3 := by
        rw [← HP.out, List.length_append, List.length_append, be_len, be_len, List.length_map, HL.out]; omega
      have hlen3 : P.length ≤ 100000 := by omega
      have HLEN := Lib.hid hlen4
      clear hw3 hb3 hlen4
      go_wp2_with fail
      refine (wr_out g g P _ HW3.out.ws hlen3).mono ?_
      rintro e w4 ⟨r, rfl, ho, g4⟩
      have HO := Lib.hid ho
      have HG4 := Lib.hid g4
      have hbr := gb_blk g4 ((HW3.out.b.block _ hg1).trans HB2.out) (by simp)
      have f0 : w4.cell? ⟨w.heap.size + 1, 0, none⟩ = some (.bool dn) := by rw [blk_c hbr]; rfl
      have g13 := gb_trans HAG.out HG1.out
      have HALL : Hid (w.grownBy w4 none) := Lib.hid (gb_trans ⟨HW3.out.b.os.trans g13.os, HW3.out.b.tape.trans g13.tape, HW3.out.b.output.trans g13.output, Nat.le_trans g13.size HW3.out.b.size, fun j hj _ => (HW3.out.b.block j (by omega)).trans (g13.block j hj (by simp))⟩ g4)
      clear g13 ho g4 hbr e0 e1 d1
      have hone := bc_one P
      obtain ⟨i0, hi0, hz0, hzs, hzb⟩ := info_parts info5
      cases dn
      · obtain ⟨rA, rc, rfl, _, _⟩ := HO.out.form
        go_wp2_with (first
          | (at_builtin
             refine wpList_append_any _ rfl (.tmp 50) (.tmp 51) _ rfl w.heap.size 5 i0 _ 1 1 Tryz.underlying22 hi0 hz0 hzs hzb rfl (by omega) (.slice (some ⟨w4.heap.size, 0, none⟩) 1 1) 1 (bc [2]) (by rfl)
               (bytes_new' w4 [2] w.heap.size _ 1 rfl rfl HALL.out.size (by simp)) w4.heap.size rA P.length rc (bc P) (by rfl) (HO.out.reads.alloc (Nat.le_refl _) _) hone (by unfold maxLen; omega) (by omega) (by simp; have := HALL.out.size; omega) ?_
             intro v1 w5 hown1 hg5 hat5))
        go_ret
        refine ⟨v1, rfl, ?_, gb_new (gb_alloc HALL.out _) hg5 HALL.out.size⟩
        have ho5 : OwB w5 w.heap.size (2 :: P) v1 := by
          have : w5.ownsRow w.heap.size 5 1 v1 (1 + P.length) (bc [2] ++ bc P) := hown1
          rw [bc_app] at this
          unfold OwB
          rw [List.length_cons, Nat.add_comm]
          exact this
        exact ho5.slb (Nat.le_refl _)
      · obtain ⟨rb, rc, rfl, _, _⟩ := World.ownsRow.form HO.out (by have := HLEN.out; omega)
        have hpl : P.length ≤ 200 := by have := HLEN.out; omega
        go_wp2_with fail
        go_loopw [7, 56] (fun s7 s56 wr => ∃ j : Nat, j ≤ P.length ∧ s56 = .int .i64 j ∧ OwB wr w4.heap.size (0 :: (P.take j).map (fun c => ~~~c)) s7 ∧ w4.grownBy wr none) (fun _ s56 _ => P.length - (intOf s56).toNat)
        case atStart => exact ⟨0, Nat.zero_le _, rfl, bytes_new' w4 [0] w4.heap.size _ 1 rfl rfl (Nat.le_refl _) (by simp), World.grownBy_alloc w4 _ none⟩
        case round =>
          obtain ⟨j, hjn, rfl, hown, hgr⟩ := hrel
          have HOW := Lib.hid hown
          have HGR := Lib.hid hgr
          have HOR := Lib.hid (OwB.kept HO.out hgr (.inl rfl))
          clear hown hgr
          obtain ⟨sA, sc, rfl, _, _⟩ := HOW.out.form
          by_cases hlt : j < P.length
          · obtain ⟨c, hc⟩ : ∃ c, P[j] = c := ⟨_, rfl⟩
            have hcell : wr.cell? ⟨rb, j, none⟩ = some (.int .u8 (c.toNat : Int)) := by
              rw [World.ownsRow.cellAt HOR.out j (by omega), ← hc]; exact bc_get P j hlt
            have hz : (j : Int) < P.length := by omega
            have hx := compl8 c
            obtain ⟨d, hd⟩ : ∃ d, ~~~c = d := ⟨_, rfl⟩
            rw [hd] at hx
            have hx2 : bits .xor .u8 (if IntKind.u8.signed = true then -1 else IntKind.u8.max) (c.toNat : Int) = (d.toNat : Int) := hx
            have HD := Lib.hid (show 0 :: (P.take (j + 1)).map (fun c => ~~~c) = 0 :: (P.take j).map (fun c => ~~~c) ++ [d] by
              rw [List.take_succ_eq_append_getElem hlt, hc, ← hd]; simp)
            have hlen : (0 :: (P.take j).map (fun c => ~~~c)).length = j + 1 := by
              rw [List.length_cons, List.length_map, List.length_take, Nat.min_eq_left (Nat.le_of_lt hlt)]
            have HOW2 : Hid (wr.ownsRow w4.heap.size 5 1 (.slice sA (j + 1) sc) (j + 1) (bc (0 :: (P.take j).map (fun c => ~~~c)))) := Lib.hid (by
              have := HOW.out
              unfold OwB at this
              rw [hlen] at this
              exact this)
            have hsz4 := HGR.out.size
            have hone1 := bc_one [d]
            rw [hlen]
            clear hc hd
            go_wp2_with (first
              | (at_builtin
                 refine wpList_append_any _ rfl (.tmp 60) (.tmp 63) _ rfl w4.heap.size 5 i0 _ 1 1 Tryz.underlying22 hi0 hz0 hzs hzb rfl (by omega) (.slice sA (j + 1) sc) (j + 1) (bc (0 :: (P.take j).map (fun c => ~~~c))) (by rfl)
                   (World.ownsRow.kept HOW2.out (World.grownBy_alloc wr _ none) (by cases hs : (Value.slice sA (j + 1) sc).ownBlock; exact .inl rfl; exact .inr (by simp)))
                   (wr.heap.size + 1) (some ⟨wr.heap.size, 0, none⟩) 1 1 (bc [d]) (by rfl) ⟨rfl, fun _ => ⟨_, rfl, by simp, fun q u hu => by
                     match q, hu with
                     | 0, hu => simpa [bc, Lib.byteCells, Addr.add, hx, hx2] using hu⟩⟩ hone1 (by unfold maxLen; omega) (by omega) (by simp; omega) ?_
                 intro v1 w5 hown1 hg5 hat5))
            have HO5 : Hid (OwB w5 w4.heap.size (0 :: (P.take (j + 1)).map (fun c => ~~~c)) v1) := Lib.hid (by
              rw [HD.out, OwB, List.length_append, hlen, ← bc_app]
              exact hown1)
            have HG5 : Hid (w4.grownBy w5 none) := Lib.hid (gb_own (gb_alloc HGR.out _) hg5 (fun q hq => (World.ownsRow.lt HOW2.out q hq).1))
            clear hown1 hg5 hat5
            go_roundw
            case rel => exact ⟨j + 1, by omega, by go_num, HO5.out, HG5.out⟩
            case measure => simp [intOf]; omega
          · have hje : j = P.length := by omega
            have hlen : (0 :: (P.take j).map (fun c => ~~~c)).length = j + 1 := by
              rw [List.length_cons, List.length_map, List.length_take, Nat.min_eq_left (by omega)]
            rw [hlen]
            have HALL2 : Hid (w.grownBy wr none) := Lib.hid (gb_trans HALL.out HGR.out)
            have HOWE : Hid (SlB (fun k => w.heap.size ≤ k) wr (0 :: P.map (fun c => ~~~c)) (.slice sA (j + 1) sc)) := Lib.hid (by
              have h1 := HOW.out.slb HALL.out.size
              rw [hlen] at h1
              have h2 : (0 :: (P.take j).map (fun c => ~~~c)) = 0 :: P.map (fun c => ~~~c) := by rw [hje, List.take_of_length_le (Nat.le_refl _)]
              exact h2 ▸ h1)
            clear hje hlen
            go_wp2
            go_ret
            exact ⟨_, rfl, HOWE.out, HALL2.out⟩
end
end Go.Proofs.YtocjlbpehfpdoaaGreatDoor

set_option linter.unusedVariables false
set_option linter.unusedSimpArgs false
namespace Go.Proofs.YtocjlbpehfpdoaaGreatDoor
open Go.RowKit

/-- append, of bytes that can be read, onto a row of the call's own. -/
theorem wpList_appB {w0 w : World} {ops : Array Oper} {rest : List Oper} {o : Oper} {a : Act} {Q : Exit → Act → World → Prop} (hgd : o.guard = none) (s x : Operand)
    (ho : o.op = .call { callee := .builtin .append, args := #[s, x], argTypes := #[22, 22] })
    (base n m c B : Nat) (l l2 : Js.Bs) (sA A : Option Addr) (sc : Nat) (hs : a.eval s = .slice sA n sc) (hown : OwB w base l (.slice sA n sc)) (hx : a.eval x = .slice A m c) (hm : m = l2.length) (hr : Reads w B 1 A m (bc l2))
    (hl : l.length ≤ 100000) (hl2 : l2.length ≤ 100000) (hbase : base ≤ w.heap.size) (h0 : w0.heap.size ≤ base) (hg : w0.grownBy w none)
    (h : ∀ vA vc w', OwB w' base (l ++ l2) (.slice vA (n + m) vc) → w0.grownBy w' none → wpList Tryz.prog ops Q rest (a.put o.dst (.slice vA (n + m) vc)) w') : wpList Tryz.prog ops Q (o :: rest) a w := by
  obtain ⟨i0, hi0, hz0, hzs, hzb⟩ := info_parts info5
  have hn : n = l.length := by
    obtain ⟨A', c', e, _, _⟩ := hown.form
    cases e; rfl
  subst hn hm
  refine wpList_append_any _ hgd s x 22 ho base 5 i0 _ 1 1 Tryz.underlying22 hi0 hz0 hzs hzb rfl (by omega) _ l.length (bc l) hs hown B A l2.length c (bc l2) hx hr (bc_one l2) (by unfold maxLen; omega) (by omega) hbase ?_
  intro v' w' h1 h2 h3
  have h1' : OwB w' base (l ++ l2) v' := by
    unfold OwB
    rw [List.length_append, ← bc_app]
    exact h1
  obtain ⟨vA, vc, e, _, _⟩ := h1'.form
  subst e
  rw [List.length_append] at h1' ⊢
  exact h vA vc w' h1' (gb_own hg h2 (fun k hk => Nat.le_trans h0 (World.ownsRow.lt hown k hk).1))
/-- The cells of a block that was just made. -/
theorem reads_new (w : World) (l : Js.Bs) (k m : Nat) (hk : k = w.heap.size) (hm : m = l.length) : Reads (w.alloc (.cells (bc l).toArray 5 (0, 0))) (w.heap.size + 1) 1 (some ⟨k, 0, none⟩) m (bc l) := by
  subst hk hm
  refine ⟨by rw [bc_len]; omega, fun _ => ⟨_, rfl, by simp, fun j u hu => ?_⟩⟩
  rw [add_eq, Nat.zero_add, blk_c (blk_new w _), ← Array.getElem?_toList]
  exact hu

set_option maxRecDepth 100000 in
set_option maxHeartbeats 8000000 in
theorem ord_text (s : Js.Bs) (w : World) (hs : s.length ≤ 4096) : Calls Tryz.prog 48 #[.string (ba s)] w (BOut w (Js.otext s)) := by
  have hsz : (ba s).size = s.length := sz_ba _
  obtain ⟨L, hL⟩ : ∃ L, s.length = L := ⟨_, rfl⟩
  rw [hL] at hsz hs
  have HL := Lib.hid hL
  obtain ⟨P, hP⟩ : ∃ P, Js.otext s = P := ⟨_, rfl⟩
  rw [hP]
  have HP := Lib.hid hP
  clear hL hP
  go_enter Tryz.func48, Tryz.ntmps48
  go_wp2_with fail
  go_loopw [3, 7] (fun s3 s7 wr => ∃ (i n : Nat) (A : Option Addr) (c : Nat), i ≤ L ∧ s7 = .int .i64 i ∧ s3 = .slice A n c ∧ n = ((s.take i).flatMap Js.otextB).length ∧ OwB wr w.heap.size ((s.take i).flatMap Js.otextB) (.slice A n c) ∧ w.grownBy wr none) (fun _ s7 _ => L - (intOf s7).toNat)
  case atStart => exact ⟨0, 0, none, 0, Nat.zero_le _, rfl, rfl, rfl, OwB.nil _ _, gb_refl _ _⟩
  case round =>
    obtain ⟨i, n, A, c, hin, rfl, rfl, hn, hown, hgr⟩ := hrel
    have HN := Lib.hid hn
    have HOW := Lib.hid hown
    have HGR := Lib.hid hgr
    have hnb : n ≤ 10000 := by
      have h1 : ∀ l : Js.Bs, (l.flatMap Js.otextB).length ≤ 2 * l.length := by
        intro l
        induction l with
        | nil => simp
        | cons c l ih =>
          rw [List.flatMap_cons, List.length_append, List.length_cons]
          have : (Js.otextB c).length ≤ 2 := by unfold Js.otextB; split <;> simp
          omega
      have h2 := h1 (s.take i)
      rw [List.length_take] at h2
      omega
    have hwr := hgr.size
    have HNB := Lib.hid (show ((s.take i).flatMap Js.otextB).length ≤ 100000 by rw [← HN.out]; omega)
    clear hn hown hgr
    by_cases hlt : i < L
    · obtain ⟨ch, hc⟩ : ∃ c, s.getD i 0 = c := ⟨_, rfl⟩
      have hil : i < s.length := by rw [HL.out]; exact hlt
      have hrun := fun W => run_idx (ba s) i (by rw [hsz]; exact hlt) ch.toNat (by
        rw [← hc, getD_get2 s i hil]; rfl) W
      have HT : Hid ((s.take (i + 1)).flatMap Js.otextB = (s.take i).flatMap Js.otextB ++ Js.otextB ch) := Lib.hid (by
        rw [List.take_succ_eq_append_getElem hil, List.flatMap_append, ← hc, getD_get2 s i hil]; simp)
      clear hc hil
      by_cases hz : ch = 0
      · subst hz
        go_wp2_with (first
          | (at_builtin
             refine wpList_appB (w0 := w) rfl (.tmp 10) (.tmp 14) rfl w.heap.size n 1 1 (wr.heap.size + 1) _ [0] A (some ⟨wr.heap.size, 0, none⟩) c (by rfl) (OwB.kept HOW.out (World.grownBy_alloc wr _ none) (.inl rfl)) (by rfl) rfl (reads_new wr [0] _ 1 rfl rfl) HNB.out (by simp) (by simp; omega) (Nat.le_refl _) (gb_alloc HGR.out _) ?_
             intro vA vc w2 ho2 hg2
             have HO2 := Lib.hid ho2
             have HG2 := Lib.hid hg2
             have hw2 := hg2.size
             clear ho2 hg2)
          | (at_builtin
             refine wpList_appB (w0 := w) rfl (.tmp 20) (.tmp 21) rfl w.heap.size (n + 1) 1 1 (w2.heap.size + 1) _ [255] vA (some ⟨w2.heap.size, 0, none⟩) vc (by rfl) (OwB.kept HO2.out (World.grownBy_alloc w2 _ none) (.inl rfl)) (by rfl) rfl (reads_new w2 [255] _ 1 rfl rfl) (by rw [List.length_append, ← HN.out]; simp; omega) (by simp) (by simp; omega) (Nat.le_refl _) (gb_alloc HG2.out _) ?_
             intro vA3 vc3 w3 ho3 hg3
             have HO3 := Lib.hid ho3
             have HG3 := Lib.hid hg3
             clear ho3 hg3))
        go_roundw
        case rel =>
          have e : Js.otextB 0 = [0] ++ [255] := rfl
          refine ⟨i + 1, n + 1 + 1, vA3, vc3, by omega, by go_num, rfl, ?_, ?_, HG3.out⟩
          · rw [HT.out, e, List.length_append, ← HN.out]; rfl
          · rw [HT.out, e, ← List.append_assoc]; exact HO3.out
        case measure => simp [intOf]; omega
      · have hz2 : ((ch.toNat : Int) == 0) = false := by
          rw [beq_eq_false_iff_ne]
          intro h
          apply hz
          have : ch.toNat = 0 := by omega
          rw [← UInt8.toNat_inj, this]; rfl
        go_wp2_with (first
          | (at_builtin
             refine wpList_appB (w0 := w) rfl (.tmp 10) (.tmp 14) rfl w.heap.size n 1 1 (wr.heap.size + 1) _ [ch] A (some ⟨wr.heap.size, 0, none⟩) c (by rfl) (OwB.kept HOW.out (World.grownBy_alloc wr _ none) (.inl rfl)) (by rfl) rfl (reads_new wr [ch] _ 1 rfl rfl) HNB.out (by simp) (by simp; omega) (Nat.le_refl _) (gb_alloc HGR.out _) ?_
             intro vA vc w2 ho2 hg2
             have HO2 := Lib.hid ho2
             have HG2 := Lib.hid hg2
             have hw2 := hg2.size
             clear ho2 hg2))
        go_roundw
        case rel =>
          have e : Js.otextB ch = [ch] := by unfold Js.otextB; rw [if_neg hz]
          refine ⟨i + 1, n + 1, vA, vc, by omega, by go_num, rfl, ?_, ?_, HG2.out⟩
          · rw [HT.out, e, List.length_append, ← HN.out]; rfl
          · rw [HT.out, e]; exact HO2.out
        case measure => simp [intOf]; omega
    · have hie : i = L := by omega
      have HT : Hid ((s.take i).flatMap Js.otextB ++ [0, 0] = P) := Lib.hid (by
        rw [← HP.out, hie, List.take_of_length_le (by rw [HL.out]; exact Nat.le_refl _)]; rfl)
      subst hie
      go_wp2_with (first
        | (at_builtin
           refine wpList_appB (w0 := w) rfl (.tmp 24) (.tmp 25) rfl w.heap.size n 2 2 (wr.heap.size + 1) _ [0, 0] A (some ⟨wr.heap.size, 0, none⟩) c (by rfl) (OwB.kept HOW.out (World.grownBy_alloc wr _ none) (.inl rfl)) (by rfl) rfl (reads_new wr [0, 0] _ 2 rfl rfl) HNB.out (by simp) (by simp; omega) (Nat.le_refl _) (gb_alloc HGR.out _) ?_
           intro vA vc w2 ho2 hg2
           have HO2 := Lib.hid ho2
           have HG2 := Lib.hid hg2
           clear ho2 hg2))
      go_ret
      exact ⟨_, rfl, HT.out ▸ HO2.out.slb (Nat.le_refl _), HG2.out⟩
end Go.Proofs.YtocjlbpehfpdoaaGreatDoor
