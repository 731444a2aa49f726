/- package num: power, form, Right. · package num: Right. · package num: the literals that Parse calls. -/
import Derived.Test.YtocjlbpehfpdoaaGreatDoorK06
import Derived.Test.YtocjlbpehfpdoaaGreatDoorK04
set_option linter.unusedVariables false
set_option linter.unusedSimpArgs false
namespace Go.Proofs.YtocjlbpehfpdoaaGreatDoor
open Go.RowKit

def IsDig (s : Js.Bs) : Prop := ∀ b ∈ s, 48 ≤ b.toNat ∧ b.toNat ≤ 57
theorem isdig_run (s : Js.Bs) : IsDig (Js.run s).1 := by
  have key : ∀ l : Js.Bs, l.take (l.length - (l.dropWhile (Js.digits10.contains ·)).length) = l.takeWhile (Js.digits10.contains ·) := by
    intro l
    have h := List.takeWhile_append_dropWhile (p := (Js.digits10.contains ·)) (l := l)
    have hl := congrArg List.length h
    rw [List.length_append] at hl
    rw [show l.length - (l.dropWhile (Js.digits10.contains ·)).length = (l.takeWhile (Js.digits10.contains ·)).length by omega]
    have h2 := List.take_left (l₁ := l.takeWhile (Js.digits10.contains ·)) (l₂ := l.dropWhile (Js.digits10.contains ·))
    rw [h] at h2
    exact h2
  intro b hb
  have : (Js.run s).1 = s.takeWhile (Js.digits10.contains ·) := key s
  rw [this] at hb
  have := List.all_eq_true.1 List.all_takeWhile b hb
  simp only [Js.digits10, List.contains_eq_mem, List.mem_cons, List.not_mem_nil, or_false, decide_eq_true_eq] at this
  rcases this with rfl | rfl | rfl | rfl | rfl | rfl | rfl | rfl | rfl | rfl <;> decide
theorem isdig_sub {a b : Js.Bs} (h : IsDig b) (hs : ∀ x ∈ a, x ∈ b) : IsDig a := fun x hx => h x (hs x hx)
theorem isdig_trim {s : Js.Bs} (h : IsDig s) (cs : Js.Bs) : IsDig (Lib.trimLeftS s cs) := isdig_sub h fun x hx => (List.dropWhile_sublist _).mem hx

theorem dval_range : ∀ (s : Js.Bs), IsDig s → 0 ≤ Js.dval s ∧ Js.dval s < 10 ^ s.length := by
  have key : ∀ (s : Js.Bs) (n : Int) (k : Nat), IsDig s → 0 ≤ n → n < 10 ^ k → 0 ≤ s.foldl (fun n c => 10 * n + ((c.toNat : Int) - 48)) n ∧ s.foldl (fun n c => 10 * n + ((c.toNat : Int) - 48)) n < 10 ^ (k + s.length) := by
    intro s
    induction s with
    | nil => intro n k _ h0 h1; exact ⟨h0, h1⟩
    | cons c s ih =>
      intro n k hd h0 h1
      have hc := hd c List.mem_cons_self
      have := ih (10 * n + ((c.toNat : Int) - 48)) (k + 1) (fun b hb => hd b (List.mem_cons_of_mem _ hb)) (by omega) (by rw [Int.pow_succ]; omega)
      rw [List.length_cons]
      rwa [show k + 1 + s.length = k + (s.length + 1) by omega] at this
  intro s hs
  have := key s 0 0 hs (by omega) (by simp)
  simpa [Js.dval] using this

theorem dval_snoc (s : Js.Bs) (c : UInt8) : Js.dval (s ++ [c]) = 10 * Js.dval s + ((c.toNat : Int) - 48) := by simp [Js.dval, List.foldl_append]

set_option maxHeartbeats 2000000 in
theorem num_power (s : Js.Bs) (w : World) (hd : IsDig s) :
    Calls Tryz.prog 239 #[.string (ba s)] w fun e w' => e = .returned (.int .i64 (Js.power s)) ∧ w.grownBy w' none := by
  have hcall := fun W => trimL s ⟨#[48]⟩ (by decide) (by decide) W
  rw [show (⟨#[48]⟩ : ByteArray).data.toList = [48] from rfl] at hcall
  have hp : Js.power s = if (Lib.trimLeftS s [48]).length > 10 then 1099511627776 else Js.dval (Lib.trimLeftS s [48]) := rfl
  have hdt := isdig_trim hd [48]
  obtain ⟨t, ht⟩ : ∃ t, Lib.trimLeftS s [48] = t := ⟨_, rfl⟩
  rw [ht] at hcall hp hdt
  have HC := Lib.hid hcall
  have hz := sz_ba t
  obtain ⟨z, hzz⟩ : ∃ z, (ba t).size = z := ⟨_, rfl⟩
  by_cases h10 : t.length > 10
  · rw [if_pos h10] at hp
    have HP := Lib.hid hp
    have e1 : decide (10 < ((ba t).size : Int)) = true := by simp; omega
    clear hp ht hcall hz hzz
    rw [HP.out]
    go_enter Tryz.func239, Tryz.ntmps239
    go_wp2_with fail
    refine (HC.out _).mono ?_
    rintro e w1 ⟨rfl, g1⟩
    have HG := Lib.hid g1
    clear g1
    go_wp2
    go_ret
    exact ⟨rfl, HG.out⟩
  · rw [if_neg h10] at hp
    have HP := Lib.hid hp
    have e1 : decide (10 < ((ba t).size : Int)) = false := by simp; omega
    have HD := Lib.hid hdt
    obtain ⟨S, hS⟩ : ∃ S, ba t = S := ⟨_, rfl⟩
    have hSl : S.data.toList = t := by rw [← hS]; rfl
    rw [hS] at HC e1 hz
    have HSL := Lib.hid hSl
    have HZ := Lib.hid hz
    clear hp ht hcall hzz hdt hS hSl hz
    rw [HP.out]
    go_enter Tryz.func239, Tryz.ntmps239
    go_wp2_with fail
    refine (HC.out _).mono ?_
    rintro e w1 ⟨rfl, g1⟩
    have HG := Lib.hid g1
    clear g1
    go_wp2_with fail
    go_loopw [3] (fun s3 wr => ∃ (pos : Nat) (v : Int), s3 = .int .i64 v ∧ Js.dval (t.take pos) = v ∧ pos ≤ S.size ∧ wr.heap[w1.heap.size]? = some (.stringIter S pos) ∧ w1.grownBy wr none) (fun s3 wr => S.size - wr.iterPos w1.heap.size)
    case atStart => exact ⟨0, 0, rfl, rfl, Nat.zero_le _, blk_new w1 _, World.grownBy_alloc w1 _ none⟩
    case round =>
      obtain ⟨pos, v, rfl, hv, hp, hit, hg⟩ := hrel
      have HI := Lib.hid hit
      have HGR := Lib.hid hg
      by_cases hlt : pos < S.size
      · have hb : S[pos]'hlt ∈ t := by rw [← HSL.out]; simp [ByteArray.getElem_eq_getElem_data]
        have hbd := HD.out _ hb
        have hpl : pos < t.length := by rw [← HZ.out]; exact hlt
        have htp : t.take (pos + 1) = t.take pos ++ [S[pos]'hlt] := by
          rw [List.take_succ_eq_append_getElem hpl]
          congr 2
          simp only [ByteArray.getElem_eq_getElem_data, ← HSL.out, Array.getElem_toList]
        have hv1 := dval_range (t.take pos) (isdig_sub HD.out fun x hx => List.mem_of_mem_take hx)
        have hv2 : (10 : Int) ^ (t.take pos).length ≤ 10000000000 := by
          have := Nat.pow_le_pow_right (n := 10) (by omega) (show (t.take pos).length ≤ 10 by rw [List.length_take]; omega)
          have h3 : (10 : Int) ^ (t.take pos).length = ((10 ^ (t.take pos).length : Nat) : Int) := by push_cast; rfl
          rw [h3]
          omega
        have hsn := dval_snoc (t.take pos) (S[pos]'hlt)
        rw [← htp] at hsn
        have hnx : ∀ ty, (Instr.next (.pointer (some ⟨w1.heap.size, 0, none⟩)) true ty).run Tryz.prog wr = _ := fun ty => Lib.run_next_ascii_at wr w1.heap.size S pos ty hit hlt (by omega)
        have hg2 := gb_iter hg (Nat.le_refl _) S (pos + 1)
        have hi2 := Lib.iterAt_heap wr w1.heap.size S pos (pos + 1) hit
        have G2 := Lib.hid hg2
        have I2 := Lib.hid hi2
        obtain ⟨y, hy⟩ : ∃ y, (S[pos]'hlt).toNat = y := ⟨_, rfl⟩
        simp only [hy, hv] at hnx hbd hsn hv1 hv2
        have a1 : IntKind.i64.wrap (10 * v) = 10 * v := IntWalk.i64_in _ (by omega)
        have a2 : IntKind.i32.wrap ((y : Int) - 48) = (y : Int) - 48 := IntWalk.i32_in _ (by omega)
        have a3 : IntKind.i64.wrap ((y : Int) - 48) = (y : Int) - 48 := IntWalk.i64_in _ (by omega)
        have a4 : IntKind.i64.wrap (10 * v + ((y : Int) - 48)) = 10 * v + ((y : Int) - 48) := IntWalk.i64_in _ (by omega)
        have HSN := Lib.hid hsn
        clear hg hit hg2 hi2 hb htp hsn hy hv
        go_wp2
        refine ⟨⟨pos + 1, _, rfl, HSN.out, by omega, I2.out, G2.out⟩, ?_⟩
        rw [Go.iterPos_of HI.out, Go.iterPos_of I2.out]
        omega
      · have hpe : t.take pos = t := List.take_of_length_le (by rw [← HZ.out]; omega)
        have HPE := Lib.hid (hpe ▸ hv)
        clear hv
        have hnx : ∀ ty, (Instr.next (.pointer (some ⟨w1.heap.size, 0, none⟩)) true ty).run Tryz.prog wr = _ := fun ty => Lib.run_next_end_at wr w1.heap.size S pos ty hit hlt
        clear hpe hit hg
        go_wp2
        go_ret
        rw [HPE.out]
        exact ⟨rfl, gb_trans HG.out HGR.out⟩

/-- A number's cells. -/
def ncs (n : Js.Nm) : Array Value := #[.bool n.down, .string (ba n.dig), .int .i64 n.exp]

set_option maxHeartbeats 2000000 in
theorem num_form (down : Bool) (s : Js.Bs) (exp : Int) (w : World) (hs : s.length ≤ 100000) (h0 : -4611686018427387904 ≤ exp) (h1 : exp ≤ 4611686018427387904) :
    Calls Tryz.prog 240 #[.bool down, .string (ba s), .int .i64 exp] w fun e w' => e = .returned (.agg (ncs (Js.nform down s exp))) ∧ w.grownBy w' none := by
  have hc1 := fun W => trimL s ⟨#[48]⟩ (by decide) (by decide) W
  rw [show (⟨#[48]⟩ : ByteArray).data.toList = [48] from rfl] at hc1
  have hlt := trim_len s [48]
  have hp : Js.nform down s exp = if Lib.trimRightS (Lib.trimLeftS s [48]) [48] = [] then Js.Nm.zero else ⟨down, Lib.trimRightS (Lib.trimLeftS s [48]) [48], exp + (Lib.trimLeftS s [48]).length - (Lib.trimRightS (Lib.trimLeftS s [48]) [48]).length⟩ := rfl
  obtain ⟨t, ht⟩ : ∃ t, Lib.trimLeftS s [48] = t := ⟨_, rfl⟩
  rw [ht] at hc1 hlt hp
  have hc2 := fun W => trimR t (by omega) ⟨#[48]⟩ (by decide) (by decide) W
  rw [show (⟨#[48]⟩ : ByteArray).data.toList = [48] from rfl] at hc2
  have hltr := trimR_len t [48]
  obtain ⟨u, hu⟩ : ∃ u, Lib.trimRightS t [48] = u := ⟨_, rfl⟩
  rw [hu] at hc2 hltr hp
  have zt := sz_ba t
  have zu := sz_ba u
  have HC1 := Lib.hid hc1
  have HC2 := Lib.hid hc2
  by_cases hnil : u = []
  · rw [if_pos hnil] at hp
    have HP := Lib.hid hp
    have e1 : (ba u).toList.isEmpty = true := by rw [ByteArray.toList_eq, hnil]; rfl
    clear ht hu zt zu hc1 hc2 hp hnil
    rw [HP.out]
    go_enter Tryz.func240, Tryz.ntmps240
    go_wp2_with fail
    refine (HC1.out _).mono ?_
    rintro e w1 ⟨rfl, g1⟩
    have HG1 := Lib.hid g1
    have HB1 := Lib.hid (gb_blk g1 (blk_new w _) (by simp))
    clear g1
    go_wp2_with fail
    refine (HC2.out _).mono ?_
    rintro e w2 ⟨rfl, g2⟩
    have HG2 := Lib.hid g2
    have hb2 := gb_blk g2 HB1.out (by simp)
    have HB2 := Lib.hid hb2
    have c0 : w2.cell? ⟨w.heap.size, 0, none⟩ = some (.bool false) := by rw [blk_c hb2]; rfl
    have c1 : w2.cell? ⟨w.heap.size, 1, none⟩ = some (.string ⟨#[]⟩) := by rw [blk_c hb2]; rfl
    have c2 : w2.cell? ⟨w.heap.size, 2, none⟩ = some (.int .i64 0) := by rw [blk_c hb2]; rfl
    have f0 := blk_f hb2 0
    have f1 := blk_f hb2 1
    have f2 := blk_f hb2 2
    clear g2 hb2
    go_wp2
    refine bodyPost_ret (v := .agg #[.bool false, .string ⟨#[]⟩, .int .i64 0]) (by simp [results, Tryz.results240, go_sem, c0, c1, c2]) rfl ?_
    refine ⟨rfl, ?_⟩
    have g := gb_trans (gb_trans (World.grownBy_alloc w _ none) HG1.out) HG2.out
    exact gb_set (gb_set (gb_set g (p := ⟨w.heap.size, 0, none⟩) (.inl (Nat.le_refl _)) _) (p := ⟨w.heap.size, 1, none⟩) (.inl (Nat.le_refl _)) _) (p := ⟨w.heap.size, 2, none⟩) (.inl (Nat.le_refl _)) _
  · rw [if_neg hnil] at hp
    have HP := Lib.hid hp
    have e1 : (ba u).toList.isEmpty = false := by rw [ByteArray.toList_eq, ba_list]; cases u with | nil => exact absurd rfl hnil | cons _ _ => rfl
    have a1 : IntKind.i64.wrap (exp + ((ba t).size : Int)) = exp + ((ba t).size : Int) := IntWalk.i64_in _ (by omega)
    have a2 : IntKind.i64.wrap (exp + ((ba t).size : Int) - ((ba u).size : Int)) = exp + ((ba t).size : Int) - ((ba u).size : Int) := IntWalk.i64_in _ (by omega)
    have ZT := Lib.hid zt
    have ZU := Lib.hid zu
    clear ht hu zt zu hc1 hc2 hp hnil
    rw [HP.out]
    go_enter Tryz.func240, Tryz.ntmps240
    go_wp2_with fail
    refine (HC1.out _).mono ?_
    rintro e w1 ⟨rfl, g1⟩
    have HG1 := Lib.hid g1
    have HB1 := Lib.hid (gb_blk g1 (blk_new w _) (by simp))
    clear g1
    go_wp2_with fail
    refine (HC2.out _).mono ?_
    rintro e w2 ⟨rfl, g2⟩
    have HG2 := Lib.hid g2
    have hb2 := gb_blk g2 HB1.out (by simp)
    have HB2 := Lib.hid hb2
    have c0 : w2.cell? ⟨w.heap.size, 0, none⟩ = some (.bool false) := by rw [blk_c hb2]; rfl
    have c1 : w2.cell? ⟨w.heap.size, 1, none⟩ = some (.string ⟨#[]⟩) := by rw [blk_c hb2]; rfl
    have c2 : w2.cell? ⟨w.heap.size, 2, none⟩ = some (.int .i64 0) := by rw [blk_c hb2]; rfl
    have f0 := blk_f hb2 0
    have f1 := blk_f hb2 1
    have f2 := blk_f hb2 2
    clear g2 hb2
    go_wp2
    refine bodyPost_ret (v := .agg #[.bool down, .string (ba u), .int .i64 (exp + ((ba t).size : Int) - ((ba u).size : Int))]) (by simp [results, Tryz.results240, go_sem, c0, c1, c2]) rfl ?_
    refine ⟨by simp only [ncs]; rw [ZT.out, ZU.out], ?_⟩
    have g := gb_trans (gb_trans (World.grownBy_alloc w _ none) HG1.out) HG2.out
    exact gb_set (gb_set (gb_set g (p := ⟨w.heap.size, 0, none⟩) (.inl (Nat.le_refl _)) _) (p := ⟨w.heap.size, 1, none⟩) (.inl (Nat.le_refl _)) _) (p := ⟨w.heap.size, 2, none⟩) (.inl (Nat.le_refl _)) _
end Go.Proofs.YtocjlbpehfpdoaaGreatDoor

set_option linter.unusedVariables false
set_option linter.unusedSimpArgs false
namespace Go.Proofs.YtocjlbpehfpdoaaGreatDoor
open Go.RowKit

theorem run_idx2 (S : ByteArray) (i : Int) (k : Nat) (h : k < S.size) (hi : i = k) (y : Nat) (hy : (S[k]'h).toNat = y) (W : World) : (Instr.index 9 (.string S) (.int .i64 i)).run Tryz.prog W = .ok (.int .u8 (y : Int)) W := by
  subst hi
  exact run_idx S k h y hy W
theorem run_rest_nil {s : Js.Bs} (h : (Js.run s).2 = []) : (Js.run s).1 = s := by
  have h2 : Lib.trimLeftS s Js.digits10 = [] := h
  show s.take (s.length - (Lib.trimLeftS s Js.digits10).length) = s
  rw [h2]
  simp

set_option maxHeartbeats 2000000 in
theorem num_right_zero (n : Js.Nm) (hn : n.dig = []) (w : World) :
    Calls Tryz.prog 159 #[.agg (ncs n)] w fun e w' => e = .returned (.bool (Js.nright n)) ∧ w.grownBy w' none := by
  obtain ⟨down, dig, exp⟩ := n
  simp only at hn
  subst hn
  have e1 : (ba []).toList.isEmpty = true := by rw [ByteArray.toList_eq]; rfl
  unfold ncs
  go_enter Tryz.func159, Tryz.ntmps159
  go_wp2
  all_goals
    go_ret
    refine ⟨?_, World.grownBy_alloc _ _ _⟩
    refine congrArg (fun x => Ending.returned (.bool x)) ?_
    simp [Js.nright, *]

set_option maxHeartbeats 2000000 in
theorem num_right_some (n : Js.Nm) (hn : n.dig ≠ []) (hs : n.dig.length ≤ 100000) (w : World) :
    Calls Tryz.prog 159 #[.agg (ncs n)] w fun e w' => e = .returned (.bool (Js.nright n)) ∧ w.grownBy w' none := by
  obtain ⟨down, dig, exp⟩ := n
  simp only at hn hs
  have hcall := fun W => num_run dig W hs
  have hrest := @run_rest_nil dig
  obtain ⟨c, r, hcr⟩ : ∃ c r, dig = c :: r := by cases dig with | nil => exact absurd rfl hn | cons c r => exact ⟨c, r, rfl⟩
  have hR : Js.nright ⟨down, dig, exp⟩ = ((Js.run dig).2 == [] && dig.headD 0 != 48 && dig.getLastD 0 != 48 && decide (dig.length ≤ 40) && decide (-999 ≤ exp) && decide (exp ≤ 999)) := by
    rw [hcr]; rfl
  obtain ⟨a, b, hab⟩ : ∃ a b, Js.run dig = (a, b) := ⟨_, _, rfl⟩
  rw [hab] at hcall hrest hR
  simp only at hcall hrest hR
  have e0 : (ba dig).toList.isEmpty = false := by rw [ByteArray.toList_eq, ba_list, hcr]; rfl
  have hz := sz_ba dig
  have hlen : 1 ≤ dig.length := by rw [hcr]; simp
  obtain ⟨y0, hy0⟩ : ∃ y, (dig.headD 0).toNat = y := ⟨_, rfl⟩
  obtain ⟨y1, hy1⟩ : ∃ y, (dig.getLastD 0).toNat = y := ⟨_, rfl⟩
  have ix0 : ∀ W, (Instr.index 9 (.string (ba dig)) (.int .i64 0)).run Tryz.prog W = .ok (.int .u8 (y0 : Int)) W := run_idx2 _ 0 0 (by omega) rfl y0 (by
    rw [← hy0]
    simp only [ByteArray.getElem_eq_getElem_data, ba, hcr]
    simp)
  have ix1 : ∀ W, (Instr.index 9 (.string (ba dig)) (.int .i64 (((ba dig).size : Int) - 1))).run Tryz.prog W = .ok (.int .u8 (y1 : Int)) W := run_idx2 _ _ (dig.length - 1) (by omega) (by omega) y1 (by
    rw [← hy1, List.getLastD_eq_getLast?, List.getLast?_eq_getElem?]
    simp only [ByteArray.getElem_eq_getElem_data, ba]
    simp [List.getElem?_eq_getElem (show dig.length - 1 < dig.length by omega)])
  have a1 : IntKind.i64.wrap (((ba dig).size : Int) - 1) = ((ba dig).size : Int) - 1 := IntWalk.i64_in _ (by omega)
  have hh0 : (dig.headD 0 != 48) = ((y0 : Int) != 48) := by
    rw [← hy0, Bool.eq_iff_iff, bne_iff_ne, bne_iff_ne]
    refine not_congr ⟨fun h => by rw [h]; rfl, fun h => UInt8.toNat_inj.1 (by simpa using (by omega : (dig.headD 0).toNat = 48))⟩
  have hh1 : (dig.getLastD 0 != 48) = ((y1 : Int) != 48) := by
    rw [← hy1, Bool.eq_iff_iff, bne_iff_ne, bne_iff_ne]
    refine not_congr ⟨fun h => by rw [h]; rfl, fun h => UInt8.toNat_inj.1 (by simpa using (by omega : (dig.getLastD 0).toNat = 48))⟩
  have hh2 : decide (dig.length ≤ 40) = decide (((ba dig).size : Int) ≤ 40) := by rw [decide_eq_decide]; omega
  rw [hh0, hh1, hh2] at hR
  have HC := Lib.hid hcall
  have HR := Lib.hid hR
  have eb : (ba b).toList.isEmpty = (b == []) := by
    rw [ByteArray.toList_eq, ba_list]
    cases b <;> rfl
  rw [HR.out]
  unfold ncs
  clear hcall hR hcr hab hy0 hy1 hh0 hh1 hh2 HR hz
  cases hb : b == []
  · clear hrest ix0 ix1 a1
    rw [hb] at eb
    go_enter Tryz.func159, Tryz.ntmps159
    go_wp2_with fail
    refine (HC.out _).mono ?_
    rintro e w1 ⟨rfl, g1⟩
    have HG := Lib.hid (gb_trans (World.grownBy_alloc w (.cells #[.bool down, .string (ba dig), .int .i64 exp] 25 (0, 0)) none) g1)
    clear g1
    go_wp2
    go_ret
    exact ⟨rfl, HG.out⟩
  · rw [hb] at eb
    have hbn : b = [] := by simpa using hb
    have had := hrest hbn
    subst had
    clear hrest hbn
    cases t0 : ((y0 : Int) != 48) <;> cases t1 : ((y1 : Int) != 48) <;> cases t2 : decide (((ba a).size : Int) ≤ 40) <;> cases t3 : decide (-999 ≤ exp) <;> cases t4 : decide (exp ≤ 999)
    all_goals
      go_enter Tryz.func159, Tryz.ntmps159
      go_wp2_with fail
      refine (HC.out _).mono ?_
      rintro e w1 ⟨rfl, g1⟩
      have HG := Lib.hid (gb_trans (World.grownBy_alloc w (.cells #[.bool down, .string (ba a), .int .i64 exp] 25 (0, 0)) none) g1)
      have hb1 := gb_blk g1 (blk_new w _) (by simp)
      have c2 : w1.cell? ⟨w.heap.size, 2, none⟩ = some (.int .i64 exp) := by rw [blk_c hb1]; rfl
      clear g1 hb1
      go_wp2
      go_ret
      exact ⟨rfl, HG.out⟩
theorem num_right (n : Js.Nm) (hs : n.dig.length ≤ 100000) (w : World) :
    Calls Tryz.prog 159 #[.agg (ncs n)] w fun e w' => e = .returned (.bool (Js.nright n)) ∧ w.grownBy w' none := by
  by_cases h : n.dig = []
  · exact num_right_zero n h w
  · exact num_right_some n h hs w
end Go.Proofs.YtocjlbpehfpdoaaGreatDoor

set_option linter.unusedVariables false
set_option linter.unusedSimpArgs false
namespace Go.Proofs.YtocjlbpehfpdoaaGreatDoor
open Go.RowKit

/-- What Parse's variables hold: b is the first of its blocks. -/
structure PSt (w0 : World) (b : Nat) (w : World) (s : Js.Bs) (bad : Bool) (down : Bool) (whole part : Js.Bs) (less : Bool) (ex : Js.Bs) : Prop where
  hb : w0.heap.size = b
  res : w.heap[b]? = some (.cells #[.bool false, .string ⟨#[]⟩, .int .i64 0] 25 (0, 0))
  rd : NSt w (b + 1) s bad
  ptr : w.heap[b + 2]? = some (.cells #[.pointer (some ⟨b + 1, 0, none⟩)] 279 (0, 0))
  wh : w.heap[b + 3]? = some (.cells #[.string (ba whole)] 9 (0, 0))
  pt : w.heap[b + 4]? = some (.cells #[.string (ba part)] 9 (0, 0))
  ex : w.heap[b + 5]? = some (.cells #[.string (ba ex)] 9 (0, 0))
  dn : w.heap[b + 6]? = some (.cells #[.bool down] 4 (0, 0))
  le : w.heap[b + 7]? = some (.cells #[.bool less] 4 (0, 0))
  gb : w0.grownBy w none

theorem PSt.op {w0 w : World} {b : Nat} {s whole part ex : Js.Bs} {bad down less : Bool} (h : PSt w0 b w s bad down whole part less ex) :
    (w.cell? ⟨b + 2, 0, none⟩ = some (.pointer (some ⟨b + 1, 0, none⟩)) ∧ w.cell? ⟨b + 1, 0, none⟩ = some (.string (ba s)) ∧ w.cell? ⟨b + 1, 1, none⟩ = some (.bool bad) ∧ w.cell? ⟨b + 3, 0, none⟩ = some (.string (ba whole)) ∧ w.cell? ⟨b + 4, 0, none⟩ = some (.string (ba part)) ∧ w.cell? ⟨b + 5, 0, none⟩ = some (.string (ba ex)) ∧ w.cell? ⟨b + 6, 0, none⟩ = some (.bool down) ∧ w.cell? ⟨b + 7, 0, none⟩ = some (.bool less)) ∧
    (w.frozen? ⟨b + 1, 0, none⟩ = false ∧ w.frozen? ⟨b + 1, 1, none⟩ = false ∧ w.frozen? ⟨b + 3, 0, none⟩ = false ∧ w.frozen? ⟨b + 4, 0, none⟩ = false ∧ w.frozen? ⟨b + 5, 0, none⟩ = false ∧ w.frozen? ⟨b + 6, 0, none⟩ = false ∧ w.frozen? ⟨b + 7, 0, none⟩ = false) :=
  ⟨⟨by rw [blk_c h.ptr]; rfl, by rw [blk_c h.rd.1]; rfl, by rw [blk_c h.rd.1]; rfl, by rw [blk_c h.wh]; rfl, by rw [blk_c h.pt]; rfl, by rw [blk_c h.ex]; rfl, by rw [blk_c h.dn]; rfl, by rw [blk_c h.le]; rfl⟩,
    blk_f h.rd.1 0, blk_f h.rd.1 1, blk_f h.wh 0, blk_f h.pt 0, blk_f h.ex 0, blk_f h.dn 0, blk_f h.le 0⟩
theorem PSt.rdr {w0 w w' : World} {b : Nat} {s whole part ex : Js.Bs} {bad down less : Bool} (h : PSt w0 b w s bad down whole part less ex) {s' : Js.Bs} {bad' : Bool} (hn : NSt w' (b + 1) s' bad') (hg : w.grownBy w' (some (b + 1))) :
    PSt w0 b w' s' bad' down whole part less ex :=
  ⟨h.hb, gb_blk hg h.res (by simp), hn, gb_blk hg h.ptr (by simp), gb_blk hg h.wh (by simp), gb_blk hg h.pt (by simp), gb_blk hg h.ex (by simp), gb_blk hg h.dn (by simp), gb_blk hg h.le (by simp), gb_new h.gb hg (by have := h.hb; omega)⟩
theorem PSt.setBad {w0 w : World} {b : Nat} {s whole part ex : Js.Bs} {bad down less : Bool} (h : PSt w0 b w s bad down whole part less ex) (v : Bool) :
    PSt w0 b (w.setCell ⟨b + 1, 1, none⟩ (.bool v)) s v down whole part less ex :=
  h.rdr ⟨blk_eq (blk_set' h.rd.1 1 _) rfl, h.rd.2⟩ (gb_set (gb_refl _ _) (.inr rfl) _)
theorem PSt.setDn {w0 w : World} {b : Nat} {s whole part ex : Js.Bs} {bad down less : Bool} (h : PSt w0 b w s bad down whole part less ex) (v : Bool) :
    PSt w0 b (w.setCell ⟨b + 6, 0, none⟩ (.bool v)) s bad v whole part less ex :=
  ⟨h.hb, blk_far' h.res (by simp) _, ⟨blk_far' h.rd.1 (by simp) _, h.rd.2⟩, blk_far' h.ptr (by simp) _, blk_far' h.wh (by simp) _, blk_far' h.pt (by simp) _, blk_far' h.ex (by simp) _, blk_eq (blk_set' h.dn 0 _) rfl, blk_far' h.le (by simp) _, gb_set h.gb (.inl (by have := h.hb; simp; omega)) _⟩
theorem PSt.setLe {w0 w : World} {b : Nat} {s whole part ex : Js.Bs} {bad down less : Bool} (h : PSt w0 b w s bad down whole part less ex) (v : Bool) :
    PSt w0 b (w.setCell ⟨b + 7, 0, none⟩ (.bool v)) s bad down whole part v ex :=
  ⟨h.hb, blk_far' h.res (by simp) _, ⟨blk_far' h.rd.1 (by simp) _, h.rd.2⟩, blk_far' h.ptr (by simp) _, blk_far' h.wh (by simp) _, blk_far' h.pt (by simp) _, blk_far' h.ex (by simp) _, blk_far' h.dn (by simp) _, blk_eq (blk_set' h.le 0 _) rfl, gb_set h.gb (.inl (by have := h.hb; simp; omega)) _⟩
theorem PSt.setWh {w0 w : World} {b : Nat} {s whole part ex : Js.Bs} {bad down less : Bool} (h : PSt w0 b w s bad down whole part less ex) (v : Js.Bs) :
    PSt w0 b (w.setCell ⟨b + 3, 0, none⟩ (.string (ba v))) s bad down v part less ex :=
  ⟨h.hb, blk_far' h.res (by simp) _, ⟨blk_far' h.rd.1 (by simp) _, h.rd.2⟩, blk_far' h.ptr (by simp) _, blk_eq (blk_set' h.wh 0 _) rfl, blk_far' h.pt (by simp) _, blk_far' h.ex (by simp) _, blk_far' h.dn (by simp) _, blk_far' h.le (by simp) _, gb_set h.gb (.inl (by have := h.hb; simp; omega)) _⟩
theorem PSt.setPt {w0 w : World} {b : Nat} {s whole part ex : Js.Bs} {bad down less : Bool} (h : PSt w0 b w s bad down whole part less ex) (v : Js.Bs) :
    PSt w0 b (w.setCell ⟨b + 4, 0, none⟩ (.string (ba v))) s bad down whole v less ex :=
  ⟨h.hb, blk_far' h.res (by simp) _, ⟨blk_far' h.rd.1 (by simp) _, h.rd.2⟩, blk_far' h.ptr (by simp) _, blk_far' h.wh (by simp) _, blk_eq (blk_set' h.pt 0 _) rfl, blk_far' h.ex (by simp) _, blk_far' h.dn (by simp) _, blk_far' h.le (by simp) _, gb_set h.gb (.inl (by have := h.hb; simp; omega)) _⟩
theorem PSt.setEx {w0 w : World} {b : Nat} {s whole part ex : Js.Bs} {bad down less : Bool} (h : PSt w0 b w s bad down whole part less ex) (v : Js.Bs) :
    PSt w0 b (w.setCell ⟨b + 5, 0, none⟩ (.string (ba v))) s bad down whole part less v :=
  ⟨h.hb, blk_far' h.res (by simp) _, ⟨blk_far' h.rd.1 (by simp) _, h.rd.2⟩, blk_far' h.ptr (by simp) _, blk_far' h.wh (by simp) _, blk_far' h.pt (by simp) _, blk_eq (blk_set' h.ex 0 _) rfl, blk_far' h.dn (by simp) _, blk_far' h.le (by simp) _, gb_set h.gb (.inl (by have := h.hb; simp; omega)) _⟩
theorem PSt.drewN {w0 w : World} {b : Nat} {s whole part ex : Js.Bs} {bad down less : Bool} (h : PSt w0 b w s bad down whole part less ex) (n : Nat) : PSt w0 b (w.drewN n) s bad down whole part less ex :=
  ⟨h.hb, h.res, h.rd, h.ptr, h.wh, h.pt, h.ex, h.dn, h.le, gb_drewN h.gb n⟩

theorem PSt.drew {w0 w : World} {b : Nat} {s whole part ex : Js.Bs} {bad down less : Bool} (h : PSt w0 b w s bad down whole part less ex) : PSt w0 b w.drew s bad down whole part less ex :=
  ⟨h.hb, h.res, h.rd, h.ptr, h.wh, h.pt, h.ex, h.dn, h.le, gb_drew h.gb⟩
/-- Above the variables: as it was. -/
def Out (b : Nat) (w w' : World) : Prop := (∀ k, b + 8 ≤ k → k < w.heap.size → w'.heap[k]? = w.heap[k]?) ∧ w.heap.size ≤ w'.heap.size
theorem Out.refl (b : Nat) (w : World) : Out b w w := ⟨fun _ _ _ => rfl, Nat.le_refl _⟩
theorem Out.trans {b : Nat} {w w' w'' : World} (h : Out b w w') (k : Out b w' w'') : Out b w w'' :=
  ⟨fun i hi hl => (k.1 i hi (Nat.lt_of_lt_of_le hl h.2)).trans (h.1 i hi hl), Nat.le_trans h.2 k.2⟩
theorem Out.gb {b : Nat} {w w' : World} (h : w.grownBy w' (some (b + 1))) : Out b w w' := ⟨fun k hk hl => h.block k hl (by simp; omega), h.size⟩
theorem Out.gbn {b : Nat} {w w' : World} (h : w.grownBy w' none) : Out b w w' := ⟨fun k hk hl => h.block k hl (by simp), h.size⟩
theorem Out.set {b : Nat} {w w' : World} (h : Out b w w') (p : Addr) (hp : p.block < b + 8) (v : Value) : Out b w (w'.setCell p v) :=
  ⟨fun k hk hl => (Below.heap_setCell _ _ _ _ (by omega)).trans (h.1 k hk hl), by simpa [World.setCell] using h.2⟩
theorem Out.drew {b : Nat} {w w' : World} (h : Out b w w') : Out b w w'.drew := h
/-- A world behind a literal's call: what it hands back, its variables, none but new blocks turned. -/
def PDid (w0 : World) (b : Nat) (w : World) (s : Js.Bs) (bad : Bool) (down : Bool) (whole part : Js.Bs) (less : Bool) (ex : Js.Bs) (e : Ending) (w' : World) : Prop :=
  e = .returned (.tuple #[]) ∧ PSt w0 b w' s bad down whole part less ex ∧ Out b w w'

theorem ne_empty (l : Js.Bs) : (!(ba l).toList.isEmpty) = (l != []) := by
  rw [ByteArray.toList_eq, ba_list]
  cases l <;> rfl
theorem is_empty (l : Js.Bs) : (ba l).toList.isEmpty = (l == []) := by
  rw [ByteArray.toList_eq, ba_list]
  cases l <;> rfl

set_option maxHeartbeats 2000000 in
theorem num_p1 (w0 w : World) (b : Nat) (s whole part ex : Js.Bs) (bad down less : Bool) (h : PSt w0 b w s bad down whole part less ex) :
    Calls Tryz.prog 233 #[.pointer (some ⟨b + 2, 0, none⟩), .pointer (some ⟨b + 6, 0, none⟩)] w (PDid w0 b w (Js.nsign [45] s).2 bad ((Js.nsign [45] s).1 != []) whole part less ex) := by
  have hcall := num_sign (b + 1) s bad ⟨#[45]⟩ w h.rd
  obtain ⟨⟨c0, c1, c2, c3, c4, c5, c6, c7⟩, f1, f2, f3, f4, f5, f6, f7⟩ := h.op
  rw [show (⟨#[45]⟩ : ByteArray).data.toList = [45] from rfl] at hcall
  have ene := fun l => ne_empty l
  obtain ⟨x, t, hxt⟩ : ∃ x t, Js.nsign [45] s = (x, t) := ⟨_, _, rfl⟩
  rw [hxt] at hcall ⊢
  simp only at hcall ⊢
  have HC := Lib.hid hcall
  have HP := Lib.hid h
  clear h hcall hxt c1 c2 c3 c4 c5 c6 c7 f1 f2 f3 f4 f5 f6 f7
  go_enter Tryz.func233, Tryz.ntmps233
  go_wp2_with fail
  refine HC.out.mono ?_
  rintro e w1 ⟨rfl, k1, g1⟩
  have HP1 := Lib.hid (HP.out.rdr k1 g1)
  have HG := Lib.hid g1
  obtain ⟨⟨c0, c1, c2, c3, c4, c5, c6, c7⟩, f1, f2, f3, f4, f5, f6, f7⟩ := HP1.out.op
  clear k1 g1
  go_wp2
  go_end0
  exact ⟨rfl, HP1.out.setDn (x != []), (Out.gb HG.out).set _ (by simp) _⟩

set_option maxHeartbeats 2000000 in
theorem num_p2 (w0 w : World) (b : Nat) (s whole part ex : Js.Bs) (bad down less : Bool) (h : PSt w0 b w s bad down whole part less ex) :
    Calls Tryz.prog 235 #[.pointer (some ⟨b + 2, 0, none⟩), .pointer (some ⟨b + 3, 0, none⟩)] w
      (PDid w0 b w (Js.run s).2 ((bad || (Js.run s).1 == []) || (decide (1 < (Js.run s).1.length) && (Js.run s).1.headD 0 == 48)) down (Js.run s).1 part less ex) := by
  have hcall := num_digits (b + 1) s bad w h.rd
  obtain ⟨⟨c0, c1, c2, c3, c4, c5, c6, c7⟩, f1, f2, f3, f4, f5, f6, f7⟩ := h.op
  obtain ⟨x, t, hxt⟩ : ∃ x t, Js.run s = (x, t) := ⟨_, _, rfl⟩
  rw [hxt] at hcall ⊢
  simp only at hcall ⊢
  obtain ⟨bd, hbd⟩ : ∃ bd, (bad || x == []) = bd := ⟨_, rfl⟩
  rw [hbd] at hcall ⊢
  have HC := Lib.hid hcall
  have HP := Lib.hid h
  have hz := sz_ba x
  have hdec : decide (1 < x.length) = decide (1 < ((ba x).size : Int)) := by rw [decide_eq_decide]; omega
  rw [hdec]
  obtain ⟨y0, hy0⟩ : ∃ y, (x.headD 0).toNat = y := ⟨_, rfl⟩
  have ix0 : 1 < ((ba x).size : Int) → ∀ W, (Instr.index 9 (.string (ba x)) (.int .i64 0)).run Tryz.prog W = .ok (.int .u8 (y0 : Int)) W := fun hl => run_idx2 _ 0 0 (by omega) rfl y0 (by
    cases x with
    | nil => rw [hz] at hl; simp at hl
    | cons c r => rw [← hy0]; simp [ByteArray.getElem_eq_getElem_data, ba])
  have hh0 : (x.headD 0 == 48) = ((y0 : Int) == 48) := by
    rw [← hy0, Bool.eq_iff_iff, beq_iff_eq, beq_iff_eq]
    exact ⟨fun h => by rw [h]; rfl, fun h => UInt8.toNat_inj.1 (by simpa using (by omega : (x.headD 0).toNat = 48))⟩
  rw [hh0]
  clear h hcall hxt hbd hdec hh0 hz hy0 c1 c2 c4 c5 c6 c7 f1 f2 f4 f5 f6 f7
  cases bd
  · cases hdc : decide (1 < ((ba x).size : Int))
    · go_enter Tryz.func235, Tryz.ntmps235
      go_wp2_with fail
      refine HC.out.mono ?_
      rintro e w1 ⟨rfl, k1, g1⟩
      have HP1 := Lib.hid (HP.out.rdr k1 g1)
      have HG := Lib.hid g1
      obtain ⟨⟨c0, c1, c2, c3, c4, c5, c6, c7⟩, f1, f2, f3, f4, f5, f6, f7⟩ := HP1.out.op
      clear k1 g1
      go_wp2_with fail
      go_region
      all_goals (try go_wp2)
      all_goals try go_end0
      all_goals exact ⟨rfl, ((HP1.out.setWh x).setBad _).drew, (((Out.gb HG.out).set _ (by simp) _).set _ (by simp) _).drew⟩
    · have ix := ix0 (by simpa using hdc)
      clear ix0
      cases hy : ((y0 : Int) == 48)
      all_goals
        go_enter Tryz.func235, Tryz.ntmps235
        go_wp2_with fail
        refine HC.out.mono ?_
        rintro e w1 ⟨rfl, k1, g1⟩
        have HP1 := Lib.hid (HP.out.rdr k1 g1)
        have HG := Lib.hid g1
        obtain ⟨⟨c0, c1, c2, c3, c4, c5, c6, c7⟩, f1, f2, f3, f4, f5, f6, f7⟩ := HP1.out.op
        clear k1 g1
        go_wp2_with fail
        go_region
        all_goals (try go_wp2)
        all_goals try go_end0
        all_goals exact ⟨rfl, ((HP1.out.setWh x).setBad _).drew, (((Out.gb HG.out).set _ (by simp) _).set _ (by simp) _).drew⟩
  · clear ix0
    go_enter Tryz.func235, Tryz.ntmps235
    go_wp2_with fail
    refine HC.out.mono ?_
    rintro e w1 ⟨rfl, k1, g1⟩
    have HP1 := Lib.hid (HP.out.rdr k1 g1)
    have HG := Lib.hid g1
    obtain ⟨⟨c0, c1, c2, c3, c4, c5, c6, c7⟩, f1, f2, f3, f4, f5, f6, f7⟩ := HP1.out.op
    clear k1 g1
    go_wp2_with fail
    go_region
    all_goals (try go_wp2)
    all_goals try go_end0
    all_goals exact ⟨rfl, ((HP1.out.setWh x).setBad _).drew, (((Out.gb HG.out).set _ (by simp) _).set _ (by simp) _).drew⟩

set_option maxHeartbeats 2000000 in
theorem num_p3 (w0 w : World) (b : Nat) (s whole ex : Js.Bs) (bad down less : Bool) (h : PSt w0 b w s bad down whole [] less ex) :
    Calls Tryz.prog 237 #[.pointer (some ⟨b + 2, 0, none⟩), .pointer (some ⟨b + 4, 0, none⟩)] w
      (PDid w0 b w (if (Js.nsign [46] s).1 != [] then (Js.run (Js.nsign [46] s).2).2 else (Js.nsign [46] s).2)
        (bad || ((Js.nsign [46] s).1 != [] && (if (Js.nsign [46] s).1 != [] then (Js.run (Js.nsign [46] s).2).1 else []) == [])) down whole (if (Js.nsign [46] s).1 != [] then (Js.run (Js.nsign [46] s).2).1 else []) less ex) := by
  have hcall := num_sign (b + 1) s bad ⟨#[46]⟩ w h.rd
  obtain ⟨⟨c0, c1, c2, c3, c4, c5, c6, c7⟩, f1, f2, f3, f4, f5, f6, f7⟩ := h.op
  rw [show (⟨#[46]⟩ : ByteArray).data.toList = [46] from rfl] at hcall
  obtain ⟨x, t, hxt⟩ : ∃ x t, Js.nsign [46] s = (x, t) := ⟨_, _, rfl⟩
  rw [hxt] at hcall ⊢
  simp only at hcall ⊢
  have HC := Lib.hid hcall
  have HP := Lib.hid h
  have ene := ne_empty x
  clear h hcall hxt c1 c2 c3 c4 c5 c6 c7 f1 f2 f3 f4 f5 f6 f7
  cases hx : (x != [])
  · rw [hx] at ene
    have HX := Lib.hid hx
    clear hx
    simp only [Bool.false_eq_true, if_false, Bool.false_and, Bool.or_false]
    go_enter Tryz.func237, Tryz.ntmps237
    go_wp2_with fail
    refine HC.out.mono ?_
    rintro e w1 ⟨rfl, k1, g1⟩
    have HP1 := Lib.hid (HP.out.rdr k1 g1)
    have HG := Lib.hid g1
    clear k1 g1
    go_wp2
    go_end0
    exact ⟨rfl, HP1.out, Out.gb HG.out⟩
  · rw [hx] at ene
    have HX := Lib.hid hx
    clear hx
    simp only [if_true, Bool.true_and]
    go_enter Tryz.func237, Tryz.ntmps237
    go_wp2_with fail
    refine HC.out.mono ?_
    rintro e w1 ⟨rfl, k1, g1⟩
    have HP1 := Lib.hid (HP.out.rdr k1 g1)
    have HG := Lib.hid g1
    obtain ⟨⟨c0, c1, c2, c3, c4, c5, c6, c7⟩, f1, f2, f3, f4, f5, f6, f7⟩ := HP1.out.op
    clear k1 g1
    go_wp2_with fail
    refine (num_digits (b + 1) t bad w1 HP1.out.rd).mono ?_
    rintro e w2 ⟨rfl, k2, g2⟩
    have HP2 := Lib.hid (HP1.out.rdr k2 g2)
    have HG2 := Lib.hid g2
    clear c0 c1 c2 c3 c4 c5 c6 c7 f1 f2 f3 f4 f5 f6 f7
    obtain ⟨⟨c0, c1, c2, c3, c4, c5, c6, c7⟩, f1, f2, f3, f4, f5, f6, f7⟩ := HP2.out.op
    clear k2 g2
    go_wp2
    go_end0
    exact ⟨rfl, HP2.out.setPt _, ((Out.gb HG.out).trans (Out.gb HG2.out)).set _ (by simp) _⟩

set_option maxHeartbeats 2000000 in
theorem num_p4 (w0 w : World) (b : Nat) (s whole part : Js.Bs) (bad down : Bool) (h : PSt w0 b w s bad down whole part false []) :
    Calls Tryz.prog 238 #[.pointer (some ⟨b + 2, 0, none⟩), .pointer (some ⟨b + 7, 0, none⟩), .pointer (some ⟨b + 5, 0, none⟩)] w
      (PDid w0 b w (if (Js.nsign [101, 69] s).1 != [] then (Js.run (Js.nsign [43, 45] (Js.nsign [101, 69] s).2).2).2 else (Js.nsign [101, 69] s).2)
        (bad || ((Js.nsign [101, 69] s).1 != [] && (if (Js.nsign [101, 69] s).1 != [] then (Js.run (Js.nsign [43, 45] (Js.nsign [101, 69] s).2).2).1 else []) == [])) down whole part
        (if (Js.nsign [101, 69] s).1 != [] then (Js.nsign [43, 45] (Js.nsign [101, 69] s).2).1 == [45] else false)
        (if (Js.nsign [101, 69] s).1 != [] then (Js.run (Js.nsign [43, 45] (Js.nsign [101, 69] s).2).2).1 else [])) := by
  have hcall := num_sign (b + 1) s bad ⟨#[101, 69]⟩ w h.rd
  obtain ⟨⟨c0, c1, c2, c3, c4, c5, c6, c7⟩, f1, f2, f3, f4, f5, f6, f7⟩ := h.op
  rw [show (⟨#[101, 69]⟩ : ByteArray).data.toList = [101, 69] from rfl] at hcall
  obtain ⟨x, t, hxt⟩ : ∃ x t, Js.nsign [101, 69] s = (x, t) := ⟨_, _, rfl⟩
  rw [hxt] at hcall ⊢
  simp only at hcall ⊢
  have HC := Lib.hid hcall
  have HP := Lib.hid h
  have ene := ne_empty x
  clear h hcall hxt c1 c2 c3 c4 c5 c6 c7 f1 f2 f3 f4 f5 f6 f7
  cases hx : (x != [])
  · rw [hx] at ene
    have HX := Lib.hid hx
    clear hx
    simp only [Bool.false_eq_true, if_false, Bool.false_and, Bool.or_false]
    go_enter Tryz.func238, Tryz.ntmps238
    go_wp2_with fail
    refine HC.out.mono ?_
    rintro e w1 ⟨rfl, k1, g1⟩
    have HP1 := Lib.hid (HP.out.rdr k1 g1)
    have HG := Lib.hid g1
    clear k1 g1
    go_wp2
    go_end0
    exact ⟨rfl, HP1.out, Out.gb HG.out⟩
  · rw [hx] at ene
    have HX := Lib.hid hx
    clear hx
    simp only [if_true, Bool.true_and]
    go_enter Tryz.func238, Tryz.ntmps238
    go_wp2_with fail
    refine HC.out.mono ?_
    rintro e w1 ⟨rfl, k1, g1⟩
    have HP1 := Lib.hid (HP.out.rdr k1 g1)
    have HG := Lib.hid g1
    obtain ⟨⟨c0, c1, c2, c3, c4, c5, c6, c7⟩, f1, f2, f3, f4, f5, f6, f7⟩ := HP1.out.op
    clear k1 g1
    go_wp2_with fail
    refine (num_sign (b + 1) t bad ⟨#[43, 45]⟩ w1 HP1.out.rd).mono ?_
    rw [show (⟨#[43, 45]⟩ : ByteArray).data.toList = [43, 45] from rfl]
    rintro e w2 ⟨rfl, k2, g2⟩
    obtain ⟨x2, t2, hxt2⟩ : ∃ x t', Js.nsign [43, 45] t = (x, t') := ⟨_, _, rfl⟩
    rw [hxt2] at k2 ⊢
    simp only at k2 ⊢
    have HP2 := Lib.hid (HP1.out.rdr k2 g2)
    have HG2 := Lib.hid g2
    clear c0 c1 c2 c3 c4 c5 c6 c7 f1 f2 f3 f4 f5 f6 f7
    obtain ⟨⟨c0, c1, c2, c3, c4, c5, c6, c7⟩, f1, f2, f3, f4, f5, f6, f7⟩ := HP2.out.op
    have e45 : ((ba x2).toList == [45]) = (x2 == [45]) := by rw [ByteArray.toList_eq]; rfl
    have HP3 := Lib.hid (HP2.out.setLe (x2 == [45]))
    have HO3 := Lib.hid (((Out.gb HG.out).trans (Out.gb HG2.out)).set ⟨b + 7, 0, none⟩ (by simp) (.bool (x2 == [45])))
    have HX2 := Lib.hid hxt2
    clear k2 g2 hxt2
    go_wp2_with fail
    refine (num_digits (b + 1) t2 bad _ HP3.out.rd).mono ?_
    rintro e w3 ⟨rfl, k3, g3⟩
    have HP4 := Lib.hid (HP3.out.rdr k3 g3)
    have HG3 := Lib.hid g3
    clear c0 c1 c2 c3 c4 c5 c6 c7 f1 f2 f3 f4 f5 f6 f7
    obtain ⟨⟨c0, c1, c2, c3, c4, c5, c6, c7⟩, f1, f2, f3, f4, f5, f6, f7⟩ := HP4.out.op
    clear k3 g3
    go_wp2
    go_end0
    rw [HX2.out]
    exact ⟨rfl, HP4.out.setEx _, (HO3.out.trans (Out.gb HG3.out)).set _ (by simp) _⟩
end Go.Proofs.YtocjlbpehfpdoaaGreatDoor
