/- package num: Parse. · package octet: a writer. -/
import Derived.Test.YtocjlbpehfpdoaaGreatDoorK07
import Derived.LoopN
import Derived.Test.YtocjlbpehfpdoaaGreatDoorK04
import Derived.IntWalk
import Derived.Lib.SliceRun
set_option linter.unusedVariables false
set_option linter.unusedSimpArgs false
namespace Go.Proofs.YtocjlbpehfpdoaaGreatDoor
open Go.RowKit

/-- Some blocks laid, one behind the other. -/
def allocs (w : World) : List Obj → World
  | [] => w
  | o :: l => allocs (w.alloc o) l
theorem allocs_gb : ∀ (l : List Obj) (w : World), w.grownBy (allocs w l) none
  | [], w => gb_refl w none
  | o :: l, w => gb_trans (World.grownBy_alloc w o none) (allocs_gb l _)
theorem allocs_at : ∀ (l : List Obj) (w : World) (i : Nat) (o : Obj), l[i]? = some o → (allocs w l).heap[w.heap.size + i]? = some o
  | [], _, _, _, h => by simp at h
  | x :: l, w, 0, o, h => by
    simp only [List.getElem?_cons_zero, Option.some.injEq] at h
    subst h
    exact gb_blk (allocs_gb l _) (blk_new w x) (by simp)
  | x :: l, w, i + 1, o, h => by
    have := allocs_at l (w.alloc x) i o (by simpa using h)
    rwa [show (w.alloc x).heap.size = w.heap.size + 1 by simp, show w.heap.size + 1 + i = w.heap.size + (i + 1) by omega] at this
theorem allocs_size : ∀ (l : List Obj) (w : World), (allocs w l).heap.size = w.heap.size + l.length
  | [], w => rfl
  | o :: l, w => by rw [allocs, allocs_size l]; simp; omega

/-- The parts of a number's text as the literals leave them. -/
def np' (s : Js.Bs) : Js.NParts :=
  let a := Js.nsign [45] s
  let d := Js.run a.2
  let bad2 := (false || d.1 == []) || (decide (1 < d.1.length) && d.1.headD 0 == 48)
  let p := Js.nsign [46] d.2
  let part := if p.1 != [] then (Js.run p.2).1 else []
  let s4 := if p.1 != [] then (Js.run p.2).2 else p.2
  let bad4 := bad2 || (p.1 != [] && part == [])
  let e := Js.nsign [101, 69] s4
  let ex := if e.1 != [] then (Js.run (Js.nsign [43, 45] e.2).2).1 else []
  ⟨a.1 != [], d.1, part, if e.1 != [] then (Js.nsign [43, 45] e.2).1 == [45] else false, ex, if e.1 != [] then (Js.run (Js.nsign [43, 45] e.2).2).2 else e.2, bad4 || (e.1 != [] && ex == [])⟩
theorem np_eq (s : Js.Bs) : Js.nparts s = np' s := by
  unfold Js.nparts np'
  simp only
  cases h1 : ((Js.nsign [46] (Js.run (Js.nsign [45] s).2).2).1 != [])
  · simp only [Bool.false_eq_true, if_false, Bool.false_or, Bool.false_and, Bool.or_false]
    cases h2 : ((Js.nsign [101, 69] (Js.nsign [46] (Js.run (Js.nsign [45] s).2).2).2).1 != [])
    · simp
    · simp
  · simp only [if_true, Bool.false_or]
    cases h2 : ((Js.nsign [101, 69] (Js.run (Js.nsign [46] (Js.run (Js.nsign [45] s).2).2).2).2).1 != [])
    · simp
    · simp
theorem run_len (s : Js.Bs) : (Js.run s).1.length ≤ s.length ∧ (Js.run s).2.length ≤ s.length := by
  refine ⟨?_, trim_len s _⟩
  show (s.take _).length ≤ _
  rw [List.length_take]
  omega
theorem nsign_len (l s : Js.Bs) : (Js.nsign l s).2.length ≤ s.length := by
  unfold Js.nsign
  split
  · simp
  · split <;> simp
theorem np_len (s : Js.Bs) : (np' s).whole.length ≤ s.length ∧ (np' s).part.length ≤ s.length ∧ IsDig (np' s).ex := by
  have h1 := nsign_len [45] s
  have h2 := run_len (Js.nsign [45] s).2
  have h3 := nsign_len [46] (Js.run (Js.nsign [45] s).2).2
  have h4 := run_len (Js.nsign [46] (Js.run (Js.nsign [45] s).2).2).2
  refine ⟨?_, ?_, ?_⟩
  · show (Js.run (Js.nsign [45] s).2).1.length ≤ _
    omega
  · show (if _ then _ else _ : Js.Bs).length ≤ _
    split
    · omega
    · simp
  · have key : ∀ (c : Bool) (x : Js.Bs), IsDig (if c = true then (Js.run x).1 else []) := by
      intro c x
      cases c
      · intro b hb; simp at hb
      · exact isdig_run x
    exact key _ _
theorem power_range (s : Js.Bs) (h : IsDig s) : 0 ≤ Js.power s ∧ Js.power s ≤ 1099511627776 := by
  have hd := dval_range _ (isdig_trim h [48])
  unfold Js.power
  simp only
  split
  · omega
  · have hv2 : (10 : Int) ^ (Lib.trimLeftS s [48]).length ≤ 10000000000 := by
      have := Nat.pow_le_pow_right (n := 10) (by omega) (show (Lib.trimLeftS s [48]).length ≤ 10 by omega)
      have h3 : (10 : Int) ^ (Lib.trimLeftS s [48]).length = ((10 ^ (Lib.trimLeftS s [48]).length : Nat) : Int) := by push_cast; rfl
      rw [h3]
      omega
    omega
theorem ba_app (a b : Js.Bs) : ba a ++ ba b = ba (a ++ b) := by
  apply ba_of
  rw [ByteArray.data_append]
  simp [ba]
theorem PSt.gbn {w0 w w' : World} {b : Nat} {s whole part ex : Js.Bs} {bad down less : Bool} (h : PSt w0 b w s bad down whole part less ex) (hg : w.grownBy w' none) :
    PSt w0 b w' s bad down whole part less ex :=
  ⟨h.hb, gb_blk hg h.res (by simp), h.rd.gb hg (by simp), gb_blk hg h.ptr (by simp), gb_blk hg h.wh (by simp), gb_blk hg h.pt (by simp), gb_blk hg h.ex (by simp), gb_blk hg h.dn (by simp), gb_blk hg h.le (by simp), gb_trans h.gb hg⟩
/-- How Parse ends, by the parts. -/
theorem nparse_bad {s : Js.Bs} (h : ((np' s).bad || (np' s).rest != []) = true) : Js.nparse s = (Js.Nm.zero, 11) := by
  unfold Js.nparse
  simp only [np_eq]
  rw [if_pos h]
theorem nparse_ok {s : Js.Bs} (h : ((np' s).bad || (np' s).rest != []) = false) (e : Int) (he : e = if (np' s).less then - Js.power (np' s).ex else Js.power (np' s).ex) (n : Js.Nm)
    (hn : Js.nform (np' s).down ((np' s).whole ++ (np' s).part) (e - (np' s).part.length) = n) : Js.nparse s = if Js.nright n then (n, 0) else (Js.Nm.zero, 13) := by
  subst he hn
  unfold Js.nparse
  simp only [np_eq]
  rw [if_neg (by simp [h])]
theorem nform_len (d : Bool) (s : Js.Bs) (e : Int) : (Js.nform d s e).dig.length ≤ s.length := by
  unfold Js.nform
  simp only
  split
  · simp [Js.Nm.zero]
  · exact Nat.le_trans (trimR_len _ _) (trim_len _ _)

set_option maxHeartbeats 8000000 in
theorem num_parse (s : Js.Bs) (hs : s.length ≤ 4096) (w : World) :
    Calls Tryz.prog 180 #[.string (ba s)] w fun e w' => e = .returned (.tuple #[.agg (ncs (Js.nparse s).1), .int .i64 (Js.nparse s).2]) ∧ w.grownBy w' none := by
  have hmf : ∀ (fn : Fn) (first cap : Array Value) (w : World), (Instr.makeFunc fn first cap).run Tryz.prog w = .ok (.func fn first cap) w := fun _ _ _ _ => rfl
  obtain ⟨N, hN⟩ : ∃ N, Js.nparse s = N := ⟨_, rfl⟩
  rw [hN]
  have HN := Lib.hid hN
  clear hN
  go_enter Tryz.func180, Tryz.ntmps180
  go_wp2_with fail
  refine wp_loop_rounds 5 ?_
  rw [rounds_succ]
  go_wp2_with fail
  refine (num_p1 w (allocs w [_, _, _, _, _, _, _, _, _]) w.heap.size s [] [] [] false false false ⟨rfl, allocs_at _ w 0 _ rfl, ⟨allocs_at _ w 1 _ rfl, by omega⟩, allocs_at _ w 2 _ rfl, allocs_at _ w 3 _ rfl, allocs_at _ w 4 _ rfl, allocs_at _ w 5 _ rfl, allocs_at _ w 6 _ rfl, allocs_at _ w 7 _ rfl, allocs_gb _ _⟩).mono ?_
  rintro e w1 ⟨rfl, P1, O1⟩
  have hrow := (O1.1 (w.heap.size + 8) (Nat.le_refl _) (by rw [allocs_size]; simp)).trans (allocs_at _ w 8 _ rfl)
  have hs1 := Nat.le_trans (by rw [allocs_size]; simp : w.heap.size + 9 ≤ _) O1.2
  have HROW := Lib.hid hrow
  have P1H := Lib.hid P1
  have r1 : w1.cell? ⟨w.heap.size + 1 + 1 + 1 + 1 + 1 + 1 + 1 + 1, 1, none⟩ = some _ := blk_c hrow 1
  clear O1 hrow P1
  go_wp2
  rw [rounds_succ]
  go_wp2_with fail
  refine (num_p2 w w1 w.heap.size _ _ _ _ _ _ _ P1H.out).mono ?_
  rintro e w2 ⟨rfl, P2, O2⟩
  have hrow := (O2.1 (w.heap.size + 8) (Nat.le_refl _) (by omega)).trans HROW.out
  have hs2 := Nat.le_trans hs1 O2.2
  have HROW2 := Lib.hid hrow
  have P2H := Lib.hid P2
  have r2 : w2.cell? ⟨w.heap.size + 1 + 1 + 1 + 1 + 1 + 1 + 1 + 1, 2, none⟩ = some _ := blk_c hrow 2
  clear O2 hrow P2 r1
  go_wp2
  rw [rounds_succ]
  go_wp2_with fail
  refine (num_p3 w w2 w.heap.size _ _ _ _ _ _ P2H.out).mono ?_
  rintro e w3 ⟨rfl, P3, O3⟩
  have hrow := (O3.1 (w.heap.size + 8) (Nat.le_refl _) (by omega)).trans HROW2.out
  have hs3 := Nat.le_trans hs2 O3.2
  have P3H := Lib.hid P3
  have r3 : w3.cell? ⟨w.heap.size + 1 + 1 + 1 + 1 + 1 + 1 + 1 + 1, 3, none⟩ = some _ := blk_c hrow 3
  clear O3 hrow P3 r2
  go_wp2
  rw [rounds_succ]
  go_wp2_with fail
  refine (num_p4 w w3 w.heap.size _ _ _ _ _ P3H.out).mono ?_
  rintro e w4 ⟨rfl, P4, O4⟩
  have hs4 := Nat.le_trans hs3 O4.2
  have P4' : PSt w w.heap.size w4 (np' s).rest (np' s).bad (np' s).down (np' s).whole (np' s).part (np' s).less (np' s).ex := P4
  clear O4 P4 r3 P3H P2H P1H HROW HROW2
  have hlen := np_len s
  have hbad := @nparse_bad s
  have hok := @nparse_ok s
  obtain ⟨P, hP⟩ : ∃ P, np' s = P := ⟨_, rfl⟩
  rw [hP] at P4' hlen hbad hok
  obtain ⟨down, whole, part, less, ex, rest, bad⟩ := P
  simp only at P4' hlen hbad hok
  obtain ⟨⟨c0, c1, c2, c3, c4, c5, c6, c7⟩, f1, f2, f3, f4, f5, f6, f7⟩ := P4'.op
  have P4H := Lib.hid P4'
  have ene := ne_empty rest
  have HMF := Lib.hid hmf
  clear hP P4' hmf
  go_wp2
  rw [rounds_succ]
  cases hb : (bad || rest != [])
  · have hbr : bad = false ∧ (rest != []) = false := by simpa using hb
    have hpw := num_power ex w4 hlen.2.2
    have hpr := power_range ex hlen.2.2
    have hok := hok hb
    clear hbad hb
    obtain ⟨pw, hpwe⟩ : ∃ p, Js.power ex = p := ⟨_, rfl⟩
    rw [hpwe] at hpw hpr hok
    have HPW := Lib.hid hpw
    obtain ⟨e, he⟩ : ∃ e, (if less = true then -pw else pw) = e := ⟨_, rfl⟩
    have hok := hok e he.symm
    have her : -1099511627776 ≤ e ∧ e ≤ 1099511627776 := by
      rw [← he]; split <;> omega
    obtain ⟨n, hn⟩ : ∃ n, Js.nform down (whole ++ part) (e - part.length) = n := ⟨_, rfl⟩
    have hok := hok n hn
    have hnl := nform_len down (whole ++ part) (e - part.length)
    rw [hn, List.length_append] at hnl
    have hz := sz_ba part
    have a1 : IntKind.i64.wrap (e - ((ba part).size : Int)) = e - ((ba part).size : Int) := IntWalk.i64_in _ (by omega)
    have a2 : IntKind.i64.wrap (-pw) = -pw := IntWalk.i64_in _ (by omega)
    have happ := ba_app whole part
    have hcat : (ba whole).size + (ba part).size ≤ 9223372036854775807 := by rw [sz_ba, sz_ba]; omega
    have hfm := fun W => num_form down (whole ++ part) (e - ((ba part).size : Int)) W (by rw [List.length_append]; omega) (by omega) (by omega)
    have hrt := fun W => num_right n (by omega) W
    rw [hz] at hfm
    rw [hn] at hfm
    rw [← hz] at hfm
    obtain ⟨hbf, hrf⟩ := hbr
    rw [hbf] at c2
    rw [hrf] at ene
    simp only [ncs] at hfm hrt
    have HFM := Lib.hid hfm
    have HRT := Lib.hid hrt
    have HOK := Lib.hid hok
    have HNL := Lib.hid hnl
    clear hpwe hfm hrt hok hn hz hnl hbf hrf hpw hlen her hpr
    have HE := Lib.hid he
    clear he
    rcases (show less = true ∨ less = false by cases less <;> simp) with hless | hless
    · rw [hless] at c7
      have hee : -pw = e := by have := HE.out; rw [hless] at this; simpa using this
      have HLESS := Lib.hid hless
      clear hless
      rw [hee] at a2
      go_wp2_with fail
      refine HPW.out.mono ?_
      rintro er w5 ⟨rfl, g5⟩
      have P5 := Lib.hid (P4H.out.gbn g5)
      clear c0 c1 c2 c3 c4 c5 c6 c7 f1 f2 f3 f4 f5 f6 f7 g5
      obtain ⟨⟨c0, c1, c2, c3, c4, c5, c6, c7⟩, f1, f2, f3, f4, f5, f6, f7⟩ := P5.out.op
      rw [HLESS.out] at c7
      go_wp2_with fail
      refine (HFM.out _).mono ?_
      rintro er w6 ⟨rfl, g6⟩
      have P6 := Lib.hid (P5.out.gbn g6)
      clear c0 c1 c2 c3 c4 c5 c6 c7 f1 f2 f3 f4 f5 f6 f7 g6
      have hs6 := P6.out.gb.size
      have hlt6 := blk_lt' P6.out.le
      go_wp2_with fail
      refine (HRT.out _).mono ?_
      rintro er w7 ⟨rfl, g7⟩
      have hb7 := gb_blk g7 (blk_new w6 _) (by simp)
      have P7 := Lib.hid ((P6.out.gbn (World.grownBy_alloc w6 _ none)).gbn g7)
      have d0 : w7.cell? ⟨w6.heap.size, 0, none⟩ = some (.bool n.down) := blk_c hb7 0
      have d1 : w7.cell? ⟨w6.heap.size, 1, none⟩ = some (.string (ba n.dig)) := blk_c hb7 1
      have d2 : w7.cell? ⟨w6.heap.size, 2, none⟩ = some (.int .i64 n.exp) := blk_c hb7 2
      have c8 : w7.cell? ⟨w.heap.size, 0, none⟩ = some (.bool false) := blk_c P7.out.res 0
      have c9 : w7.cell? ⟨w.heap.size, 1, none⟩ = some (.string ⟨#[]⟩) := blk_c P7.out.res 1
      have c10 : w7.cell? ⟨w.heap.size, 2, none⟩ = some (.int .i64 0) := blk_c P7.out.res 2
      have f8 := blk_f P7.out.res 0
      have f9 := blk_f P7.out.res 1
      have f10 := blk_f P7.out.res 2
      clear g7 hb7
      cases hnr : Js.nright n
      · have HBN := Lib.hid (show N = (Js.Nm.zero, 13) by rw [← HN.out, HOK.out, hnr]; rfl)
        clear hnr
        go_wp2
        refine bodyPost_ret (v := .tuple #[.agg #[.bool false, .string ⟨#[]⟩, .int .i64 0], .int .i64 13]) (by simp [results, Tryz.results180, go_sem, c8, c9, c10]) rfl ?_
        refine ⟨by rw [HBN.out]; rfl, ?_⟩
        exact gb_set (gb_set (gb_set P7.out.gb (p := ⟨w.heap.size, 0, none⟩) (.inl (Nat.le_refl _)) _) (p := ⟨w.heap.size, 1, none⟩) (.inl (Nat.le_refl _)) _) (p := ⟨w.heap.size, 2, none⟩) (.inl (Nat.le_refl _)) _
      · have HBN := Lib.hid (show N = (n, 0) by rw [← HN.out, HOK.out, hnr]; rfl)
        clear hnr
        go_wp2
        refine bodyPost_ret (v := .tuple #[.agg #[.bool n.down, .string (ba n.dig), .int .i64 n.exp], .int .i64 0]) (by simp [results, Tryz.results180, go_sem, c8, c9, c10]) rfl ?_
        refine ⟨by rw [HBN.out]; rfl, ?_⟩
        exact gb_set (gb_set (gb_set P7.out.gb (p := ⟨w.heap.size, 0, none⟩) (.inl (Nat.le_refl _)) _) (p := ⟨w.heap.size, 1, none⟩) (.inl (Nat.le_refl _)) _) (p := ⟨w.heap.size, 2, none⟩) (.inl (Nat.le_refl _)) _
    · rw [hless] at c7
      have hee : pw = e := by have := HE.out; rw [hless] at this; simpa using this
      have HLESS := Lib.hid hless
      clear hless
      rw [hee] at HPW
      go_wp2_with fail
      refine HPW.out.mono ?_
      rintro er w5 ⟨rfl, g5⟩
      have P5 := Lib.hid (P4H.out.gbn g5)
      clear c0 c1 c2 c3 c4 c5 c6 c7 f1 f2 f3 f4 f5 f6 f7 g5
      obtain ⟨⟨c0, c1, c2, c3, c4, c5, c6, c7⟩, f1, f2, f3, f4, f5, f6, f7⟩ := P5.out.op
      rw [HLESS.out] at c7
      go_wp2_with fail
      refine (HFM.out _).mono ?_
      rintro er w6 ⟨rfl, g6⟩
      have P6 := Lib.hid (P5.out.gbn g6)
      clear c0 c1 c2 c3 c4 c5 c6 c7 f1 f2 f3 f4 f5 f6 f7 g6
      have hs6 := P6.out.gb.size
      have hlt6 := blk_lt' P6.out.le
      go_wp2_with fail
      refine (HRT.out _).mono ?_
      rintro er w7 ⟨rfl, g7⟩
      have hb7 := gb_blk g7 (blk_new w6 _) (by simp)
      have P7 := Lib.hid ((P6.out.gbn (World.grownBy_alloc w6 _ none)).gbn g7)
      have d0 : w7.cell? ⟨w6.heap.size, 0, none⟩ = some (.bool n.down) := blk_c hb7 0
      have d1 : w7.cell? ⟨w6.heap.size, 1, none⟩ = some (.string (ba n.dig)) := blk_c hb7 1
      have d2 : w7.cell? ⟨w6.heap.size, 2, none⟩ = some (.int .i64 n.exp) := blk_c hb7 2
      have c8 : w7.cell? ⟨w.heap.size, 0, none⟩ = some (.bool false) := blk_c P7.out.res 0
      have c9 : w7.cell? ⟨w.heap.size, 1, none⟩ = some (.string ⟨#[]⟩) := blk_c P7.out.res 1
      have c10 : w7.cell? ⟨w.heap.size, 2, none⟩ = some (.int .i64 0) := blk_c P7.out.res 2
      have f8 := blk_f P7.out.res 0
      have f9 := blk_f P7.out.res 1
      have f10 := blk_f P7.out.res 2
      clear g7 hb7
      cases hnr : Js.nright n
      · have HBN := Lib.hid (show N = (Js.Nm.zero, 13) by rw [← HN.out, HOK.out, hnr]; rfl)
        clear hnr
        go_wp2
        refine bodyPost_ret (v := .tuple #[.agg #[.bool false, .string ⟨#[]⟩, .int .i64 0], .int .i64 13]) (by simp [results, Tryz.results180, go_sem, c8, c9, c10]) rfl ?_
        refine ⟨by rw [HBN.out]; rfl, ?_⟩
        exact gb_set (gb_set (gb_set P7.out.gb (p := ⟨w.heap.size, 0, none⟩) (.inl (Nat.le_refl _)) _) (p := ⟨w.heap.size, 1, none⟩) (.inl (Nat.le_refl _)) _) (p := ⟨w.heap.size, 2, none⟩) (.inl (Nat.le_refl _)) _
      · have HBN := Lib.hid (show N = (n, 0) by rw [← HN.out, HOK.out, hnr]; rfl)
        clear hnr
        go_wp2
        refine bodyPost_ret (v := .tuple #[.agg #[.bool n.down, .string (ba n.dig), .int .i64 n.exp], .int .i64 0]) (by simp [results, Tryz.results180, go_sem, c8, c9, c10]) rfl ?_
        refine ⟨by rw [HBN.out]; rfl, ?_⟩
        exact gb_set (gb_set (gb_set P7.out.gb (p := ⟨w.heap.size, 0, none⟩) (.inl (Nat.le_refl _)) _) (p := ⟨w.heap.size, 1, none⟩) (.inl (Nat.le_refl _)) _) (p := ⟨w.heap.size, 2, none⟩) (.inl (Nat.le_refl _)) _
  · have hN := hbad hb
    have HBN := Lib.hid (HN.out.symm.trans hN)
    clear hbad hok hN
    have hb' : bad = true ∨ (bad = false ∧ (rest != []) = true) := by
      cases bad <;> simp at hb ⊢ <;> simpa using hb
    clear hb
    have c8 : w4.cell? ⟨w.heap.size, 0, none⟩ = some (.bool false) := blk_c P4H.out.res 0
    have c9 : w4.cell? ⟨w.heap.size, 1, none⟩ = some (.string ⟨#[]⟩) := blk_c P4H.out.res 1
    have c10 : w4.cell? ⟨w.heap.size, 2, none⟩ = some (.int .i64 0) := blk_c P4H.out.res 2
    have f8 := blk_f P4H.out.res 0
    have f9 := blk_f P4H.out.res 1
    have f10 := blk_f P4H.out.res 2
    rcases hb' with hb' | ⟨hb', hr'⟩
    · rw [hb'] at c2
      clear hb'
      go_wp2
      refine bodyPost_ret (v := .tuple #[.agg #[.bool false, .string ⟨#[]⟩, .int .i64 0], .int .i64 11]) (by simp [results, Tryz.results180, go_sem, c8, c9, c10]) rfl ?_
      refine ⟨by rw [HBN.out]; rfl, ?_⟩
      exact gb_set (gb_set (gb_set P4H.out.gb (p := ⟨w.heap.size, 0, none⟩) (.inl (Nat.le_refl _)) _) (p := ⟨w.heap.size, 1, none⟩) (.inl (Nat.le_refl _)) _) (p := ⟨w.heap.size, 2, none⟩) (.inl (Nat.le_refl _)) _
    · rw [hb'] at c2
      rw [hr'] at ene
      clear hb' hr'
      go_wp2
      refine bodyPost_ret (v := .tuple #[.agg #[.bool false, .string ⟨#[]⟩, .int .i64 0], .int .i64 11]) (by simp [results, Tryz.results180, go_sem, c8, c9, c10]) rfl ?_
      refine ⟨by rw [HBN.out]; rfl, ?_⟩
      exact gb_set (gb_set (gb_set P4H.out.gb (p := ⟨w.heap.size, 0, none⟩) (.inl (Nat.le_refl _)) _) (p := ⟨w.heap.size, 1, none⟩) (.inl (Nat.le_refl _)) _) (p := ⟨w.heap.size, 2, none⟩) (.inl (Nat.le_refl _)) _
end Go.Proofs.YtocjlbpehfpdoaaGreatDoor

set_option linter.unusedVariables false
set_option linter.unusedSimpArgs false
namespace Go.Proofs.YtocjlbpehfpdoaaGreatDoor
open Go.RowKit

theorem oct_may (n : Int) (w : World) : Calls Tryz.prog 181 #[.int .i64 n] w fun e w' => e = .returned (.bool (decide (1 ≤ n) && decide (n ≤ 8))) ∧ w = w' := by
  by_cases h1 : 1 ≤ n
  · by_cases h2 : n ≤ 8
    · go_enter Tryz.func181, Tryz.ntmps181
      go_wp2
      go_ret
      exact ⟨by simp [h1, h2], rfl⟩
    · go_enter Tryz.func181, Tryz.ntmps181
      go_wp2
      go_ret
      exact ⟨by simp [h1, h2], rfl⟩
  · go_enter Tryz.func181, Tryz.ntmps181
    go_wp2
    go_ret
    exact ⟨by rw [decide_eq_false (show ¬ 1 ≤ n by omega)]; rfl, rfl⟩

set_option maxRecDepth 100000 in
/-- slices.Clone at bytes. -/
theorem clone_bytes (F : Nat → Prop) (l : Js.Bs) (s : Value) (w : World) (h : SlB F w l s) (hl : l.length ≤ 100000) :
    Calls Tryz.prog 104 #[s] w fun e w' => ∃ v, e = .returned v ∧ OwB w' w.heap.size l v ∧ w.grownBy w' none := by
  obtain ⟨A, c, rfl, h1, h2, hr⟩ := h.reads
  obtain ⟨i0, hi0, hz0, hzs, hzb⟩ := info_parts info5
  have HR := Lib.hid hr
  have HS := Lib.hid h
  have hone := bc_one l
  have q22 : ∀ (w : World) (a : Option Addr) (n c n' c' : Nat), (binOp .eql 22 (.slice a n c) (.slice none n' c')).run Tryz.prog w = .ok (.bool a.isNone) w := fun w a n c n' c' => Lib.run_eql_slice_nil w _ _ a n c n' c' Tryz.underlying22
  cases A with
  | none =>
    have h0 : l = [] := by
      obtain ⟨A', c', e, _, _, h4⟩ := HS.out
      cases e
      rcases h4 with h4 | ⟨b, o, e, _⟩
      · exact h4
      · cases e
    subst h0
    clear hr h h2 h1
    go_enter Tryz.func104, Tryz.ntmps104
    go_wp2
    go_ret
    exact ⟨_, rfl, OwB.nil _ _, gb_refl _ _⟩
  | some ad =>
    obtain ⟨m, hm⟩ : ∃ m, l.length = m := ⟨_, rfl⟩
    have HM := Lib.hid hm
    rw [hm] at h1 hl
    have HR2 := Lib.hid (show Reads w w.heap.size 1 (some ad) m (bc l) from hm ▸ hr)
    rw [hm]
    clear hr h hm HR h2
    go_enter Tryz.func104, Tryz.ntmps104
    go_wp2_with (first
      | (at_builtin
         refine wpList_append_any _ rfl (.tmp 5) (.tmp 6) _ rfl w.heap.size 5 i0 _ 1 1 Tryz.underlying22 hi0 hz0 hzs hzb rfl (by omega) (.slice (some ⟨w.heap.size, 0, none⟩) 0 0) 0 [] (by rfl)
           ⟨by simp, .inr ⟨w.heap.size, 0, #[], rfl, Nat.le_refl _, blk_new w _, Nat.le_refl _, Nat.zero_le _, rfl, rfl⟩⟩ w.heap.size (some ad) m c (bc l) (by rfl) (HR2.out.alloc (Nat.le_refl _) _) hone (by unfold maxLen; omega) (by omega) (by simp) ?_
         intro v1 w1 hown1 hg1 hat1))
    go_ret
    refine ⟨v1, rfl, ?_, ?_⟩
    · have : w1.ownsRow w.heap.size 5 1 v1 (0 + m) ([] ++ bc l) := hown1
      rw [Nat.zero_add, List.nil_append] at this
      unfold OwB
      rw [HM.out]
      exact this
    · exact gb_new (World.grownBy_alloc w _ none) hg1 (Nat.le_refl _)

/-! ### a writer -/
def beB (x n i : Nat) : UInt8 := UInt8.ofNat (x / 2 ^ (8 * (n - 1 - i)))
/-- A number in n bytes, the highest first. -/
def be (x n : Nat) : Js.Bs := (List.range n).map (beB x n)
theorem be_len (x n : Nat) : (be x n).length = n := by simp [be]
theorem be_take (x n i : Nat) (h : i < n) : (be x n).take (i + 1) = (be x n).take i ++ [beB x n i] := by
  rw [List.take_succ_eq_append_getElem (by rw [be_len]; exact h)]
  simp [be]
/-- A writer at block g has put l; what it owns lies from base on. -/
def WSt (w : World) (base g : Nat) (l : Js.Bs) : Prop := base ≤ g ∧ ∃ s, w.heap[g]? = some (.cells #[s] 202 (0, 0)) ∧ OwB w base l s
theorem ow_ne {w : World} {base g : Nat} {l : Js.Bs} {s : Value} {cs : Array Value} (h : OwB w base l s) (hg : w.heap[g]? = some (.cells cs 202 (0, 0))) : s.ownBlock ≠ some g := by
  rcases h.2 with ⟨rfl, _⟩ | ⟨g', cap, cur, rfl, _, hh, _⟩
  · simp [Value.ownBlock]
  · intro he
    have : g' = g := by simpa [Value.ownBlock] using he
    subst this
    rw [hh] at hg
    simp at hg
theorem below_of_gb {base : Nat} {w w' : World} {row : Option Nat} (h : w.grownBy w' row) (hb : base ≤ w.heap.size) (hr : ∀ k, row = some k → base ≤ k) : Below base w w' :=
  ⟨h.os, h.tape, h.output, h.size, fun i hi => h.block i (by omega) (fun e => by have := hr i e.symm; omega)⟩
theorem WSt.below {w w' : World} {base base' g : Nat} {l : Js.Bs} (h : WSt w base g l) (hb : Below base' w w') (hg : g < base') (hw : w.heap.size ≤ base') : WSt w' base g l := by
  obtain ⟨h1, s, h2, h3⟩ := h
  refine ⟨h1, s, (hb.block g hg).trans h2, World.ownsRow.kept (row := none) h3 ⟨hb.os, hb.tape, hb.output, hb.size, fun i hi _ => hb.block i (by omega)⟩ ?_⟩
  cases hs : s.ownBlock with
  | none => exact .inl rfl
  | some k => exact .inr (by simp)

theorem beB_wrap (x n i : Nat) (h : i < n) : IntKind.u8.wrap ((x : Int) / 2 ^ (8 * ((n : Int) - 1 - i)).toNat) = ((beB x n i).toNat : Int) := by
  have e : (8 * ((n : Int) - 1 - i)).toNat = 8 * (n - 1 - i) := by omega
  rw [e]
  obtain ⟨m, hm⟩ : ∃ m, 8 * (n - 1 - i) = m := ⟨_, rfl⟩
  unfold beB
  rw [hm]
  have e2 : ((x : Int) / 2 ^ m) = ((x / 2 ^ m : Nat) : Int) := by simp
  rw [e2, UInt8.toNat_ofNat']
  obtain ⟨y, hy⟩ : ∃ y, x / 2 ^ m = y := ⟨_, rfl⟩
  rw [hy]
  unfold IntKind.wrap
  simp [IntKind.signed, IntKind.bits]
/-- Behind an append, and the store of the new header. -/
theorem wr_put {w1 : World} {base g x n i : Nat} {l : Js.Bs} {v1 s : Value} (hb : w1.heap[g]? = some (.cells #[s] 202 (0, 0))) (ho : w1.ownsRow base 5 1 v1 (l.length + i + 1) (bc (l ++ (be x n).take i) ++ bc [beB x n i])) (hl : (l ++ (be x n).take i).length = l.length + i) (hg : base ≤ g) (hi : i < n) :
    WSt (w1.setCell ⟨g, 0, none⟩ v1) base g (l ++ (be x n).take (i + 1)) := by
  have e : l ++ (be x n).take (i + 1) = (l ++ (be x n).take i) ++ [beB x n i] := by rw [be_take x n i hi, List.append_assoc]
  have ho' : OwB w1 base (l ++ (be x n).take (i + 1)) v1 := by
    unfold OwB
    rw [e, ← bc_app, List.length_append, hl]
    exact ho
  refine ⟨hg, v1, blk_eq (blk_set' hb 0 v1) rfl, ?_⟩
  exact ho'.kept (row := some g) (gb_set (gb_refl _ _) (.inr rfl) _) (.inr (fun h => ow_ne ho' hb h))

set_option maxRecDepth 100000 in
set_option maxHeartbeats 4000000 in
theorem wr_num (base g x n : Nat) (l : Js.Bs) (w : World) (h : WSt w base g l) (hbase : base ≤ w.heap.size) (hx : x < 18446744073709551616) (hn : 1 ≤ n) (hn8 : n ≤ 8) (hl : l.length ≤ 100000) :
    Calls Tryz.prog 113 #[.pointer (some ⟨g, 0, none⟩), .int .u64 x, .int .i64 n] w fun e w' => e = .returned (.tuple #[]) ∧ WSt w' base g (l ++ be x n) ∧ Below base w w' := by
  have HX := Lib.hid hx
  have HW := Lib.hid h
  have hi1 : (1 : Int) ≤ n := by omega
  have hi8 : (n : Int) ≤ 8 := by omega
  clear hx h
  obtain ⟨i0, hi0, hz0, hzs, hzb⟩ := info_parts info5
  go_enter Tryz.func113, Tryz.ntmps113
  go_wp2_with (go_at_call 181; refine (oct_may n _).mono ?_; rintro e w' ⟨rfl, rfl⟩)
  go_loopw [15] (fun s15 wr => ∃ i : Nat, i ≤ n ∧ s15 = .int .i64 i ∧ WSt wr base g (l ++ (be x n).take i) ∧ Below base w wr) (fun s15 _ => n - (intOf s15).toNat)
  case atStart => exact ⟨0, Nat.zero_le _, rfl, by simpa using HW.out, Below.refl _ _⟩
  case round =>
    obtain ⟨i, hin, rfl, hws, hbl⟩ := hrel
    have HWS := Lib.hid hws
    have HBL := Lib.hid hbl
    obtain ⟨hgb, s, hs, hown⟩ := hws
    have HS := Lib.hid hs
    have HOWN := Lib.hid hown
    have hbw := hbl.size
    clear hbl hs hown
    by_cases hlt : i < n
    · obtain ⟨sA, sc, hform, hsc, hscm⟩ := HOWN.out.form
      have hlen : (l ++ (be x n).take i).length = l.length + i := by rw [List.length_append, List.length_take, be_len]; omega
      rw [hlen] at hform
      subst hform
      clear hsc hscm
      have HLEN := Lib.hid hlen
      clear hlen
      have hw1 : IntKind.i64.wrap ((n : Int) - 1) = n - 1 := IntWalk.i64_in _ (by omega)
      have hw2 : IntKind.i64.wrap ((n : Int) - 1 - i) = n - 1 - i := IntWalk.i64_in _ (by omega)
      have hw3 : IntKind.i64.wrap (8 * ((n : Int) - 1 - i)) = 8 * (n - 1 - i) := IntWalk.i64_in _ (by omega)
      have h0 : (0 : Int) ≤ 8 * ((n : Int) - 1 - i) := by omega
      have h64 : 8 * ((n : Int) - 1 - i) ≤ 64 := by omega
      have hil : (i : Int) < n := by omega
      have hone := bc_one [beB x n i]
      have hE := beB_wrap x n i hlt
      go_wp2_with fail
      have hHeld : wr.drew.heap[g]? = _ := HS.out
      refine wp_region_T 15 (fun W => W.heap[g]? = some (.cells #[.slice sA (l.length + i) sc] 202 (0, 0))) (by kernel_rfl) hHeld ?_
      refine T_take (i := 0) (v := ?_) rfl (by kernel_rfl) (fun _ _ _ h => h) (Or.inl ⟨by rfl, ?_⟩) hHeld ?_
      rotate_left
      ·
        intro W hW
        have y0 := blk_c hW 0
        clear hW
        go_simp
        all_goals with_reducible rfl
      try simp only [Act.put, List.setIfInBounds_toArray, List.set_cons_zero, List.set_cons_succ]
      refine T_take (i := 1) (v := ?_) rfl (by kernel_rfl) (fun _ _ _ h => h) (Or.inl ⟨by rfl, ?_⟩) hHeld ?_
      rotate_left
      ·
        intro W hW
        have y0 := blk_c hW 0
        clear hW
        go_simp
        all_goals with_reducible rfl
      try simp only [Act.put, List.setIfInBounds_toArray, List.set_cons_zero, List.set_cons_succ]
      refine T_take (i := 2) (v := ?_) rfl (by kernel_rfl) (fun _ _ _ h => h) (Or.inl ⟨by rfl, ?_⟩) hHeld ?_
      rotate_left
      ·
        intro W hW
        have y0 := blk_c hW 0
        clear hW
        go_simp
        all_goals with_reducible rfl
      try simp only [Act.put, List.setIfInBounds_toArray, List.set_cons_zero, List.set_cons_succ]
      refine T_take (i := 3) (v := ?_) rfl (by kernel_rfl) (fun _ _ _ h => h) (Or.inl ⟨by rfl, ?_⟩) hHeld ?_
      rotate_left
      ·
        intro W hW
        have y0 := blk_c hW 0
        clear hW
        go_simp
        all_goals with_reducible rfl
      try simp only [Act.put, List.setIfInBounds_toArray, List.set_cons_zero, List.set_cons_succ]
      refine T_take (i := 4) (v := ?_) rfl (by kernel_rfl) (fun _ _ _ h => h) (Or.inl ⟨by rfl, ?_⟩) hHeld ?_
      rotate_left
      ·
        intro W hW
        have y0 := blk_c hW 0
        clear hW
        go_simp
        all_goals with_reducible rfl
      try simp only [Act.put, List.setIfInBounds_toArray, List.set_cons_zero, List.set_cons_succ]
      refine T_take (i := 5) (v := ?_) rfl (by kernel_rfl) (fun _ _ _ h => h) (Or.inl ⟨by rfl, ?_⟩) hHeld ?_
      rotate_left
      ·
        intro W hW
        have y0 := blk_c hW 0
        clear hW
        go_simp
        all_goals with_reducible rfl
      try simp only [Act.put, List.setIfInBounds_toArray, List.set_cons_zero, List.set_cons_succ]
      refine T_take (i := 6) (v := ?_) rfl (by kernel_rfl) (fun _ _ _ h => h) (Or.inl ⟨by rfl, ?_⟩) hHeld ?_
      rotate_left
      ·
        intro W hW
        have y0 := blk_c hW 0
        clear hW
        go_simp
        all_goals with_reducible rfl
      try simp only [Act.put, List.setIfInBounds_toArray, List.set_cons_zero, List.set_cons_succ]
      refine T_take (i := 7) (v := ?_) rfl (by kernel_rfl) (fun _ _ _ h => h) (Or.inl ⟨by rfl, ?_⟩) hHeld ?_
      rotate_left
      ·
        intro W hW
        have y0 := blk_c hW 0
        clear hW
        go_simp
        all_goals with_reducible rfl
      try simp only [Act.put, List.setIfInBounds_toArray, List.set_cons_zero, List.set_cons_succ]
      refine T_take (i := 8) (v := ?_) rfl (by kernel_rfl) (fun _ _ _ h => h) (Or.inl ⟨by rfl, ?_⟩) hHeld ?_
      rotate_left
      ·
        intro W hW
        have y0 := blk_c hW 0
        clear hW
        go_simp
        all_goals with_reducible rfl
      try simp only [Act.put, List.setIfInBounds_toArray, List.set_cons_zero, List.set_cons_succ]
      refine T_take (i := 9) (v := ?_) rfl (by kernel_rfl) (fun _ _ _ h => h) (Or.inl ⟨by rfl, ?_⟩) hHeld ?_
      rotate_left
      ·
        intro W hW
        have y0 := blk_c hW 0
        clear hW
        go_simp
        all_goals with_reducible rfl
      try simp only [Act.put, List.setIfInBounds_toArray, List.set_cons_zero, List.set_cons_succ]
      refine T_take (i := 10) (v := ?_) rfl (by kernel_rfl) (fun _ _ _ h => h) (Or.inl ⟨by rfl, ?_⟩) hHeld ?_
      rotate_left
      ·
        intro W hW
        have y0 := blk_c hW 0
        clear hW
        go_simp
        all_goals with_reducible rfl
      try simp only [Act.put, List.setIfInBounds_toArray, List.set_cons_zero, List.set_cons_succ]
      refine T_take (i := 11) (v := ?_) rfl (by kernel_rfl) (fun _ _ _ h => h) (Or.inl ⟨by rfl, ?_⟩) hHeld ?_
      rotate_left
      ·
        intro W hW
        have y0 := blk_c hW 0
        clear hW
        go_simp
        all_goals with_reducible rfl
      try simp only [Act.put, List.setIfInBounds_toArray, List.set_cons_zero, List.set_cons_succ]
      refine T_take (i := 12) (v := ?_) rfl (by kernel_rfl) (fun _ _ _ h => h) (Or.inl ⟨by rfl, ?_⟩) hHeld ?_
      rotate_left
      ·
        intro W hW
        have y0 := blk_c hW 0
        clear hW
        go_simp
        all_goals with_reducible rfl
      try simp only [Act.put, List.setIfInBounds_toArray, List.set_cons_zero, List.set_cons_succ]
      refine wpAnyT_ready (rs := [13]) (by kernel_rfl) (by simp) ?_
      refine T_cons rfl (fun K hK => ?_) AllReadyT.nil
      go_simp
      refine hK.out _ _ (fun _ => blk_alloc hHeld _) (fun hS => ?_)
      have hHeld2 := hS (by omega)
      clear hK K hS
      try simp only [Act.put, List.setIfInBounds_toArray, List.set_cons_zero, List.set_cons_succ]
      refine wpAnyT_ready (rs := [14]) (by kernel_rfl) (by simp) ?_
      refine T_cons rfl (fun K hK => ?_) AllReadyT.nil
      refine step_append_any _ (by rfl) (.tmp 22) (.tmp 31) 22 (by rfl) base 5 i0 _ 1 1 Tryz.underlying22 hi0 hz0 hzs hzb rfl (by omega) (.slice sA (l.length + i) sc) (l.length + i) (bc (l ++ (be x n).take i)) (by rfl)
        (World.ownsRow.kept (row := none) (w := wr) (HLEN.out ▸ HOWN.out) (by first | exact gb_alloc (gb_drew (gb_refl _ _)) _ | exact gb_drew (gb_alloc (gb_refl _ _) _)) (by cases hs : (Value.slice sA (l.length + i) sc).ownBlock; exact .inl rfl; exact .inr (by simp)))
        (wr.heap.size + 1) (some ⟨wr.heap.size, 0, none⟩) 1 1 (bc [beB x n i]) (by rfl) ⟨rfl, fun _ => ⟨_, rfl, by simp, fun j u hu => by
          match j, hu with
          | 0, hu => simpa [bc, Lib.byteCells, Addr.add] using hu⟩⟩ hone (by unfold maxLen; omega) (by omega) (by simp; omega) ?_
      intro v1 w1 hown1 hg1 hat1
      obtain ⟨g1, cap1, rfl, _, _⟩ := hown1.form (by omega)
      have hg1' : wr.grownBy w1 (Value.slice sA (l.length + i) sc).ownBlock := gb_trans (by first | exact gb_alloc (gb_drew (gb_refl _ _)) _ | exact gb_drew (gb_alloc (gb_refl _ _) _)) hg1
      have hgs := gb_blk hg1' HS.out (fun e => ow_ne HOWN.out HS.out e.symm)
      have HGS := Lib.hid hgs
      have HG1 := Lib.hid hg1'
      have HO1 := Lib.hid hown1
      have f0 := blk_f hgs 0
      have c0 := blk_c hgs 0
      refine hK.out _ _ (fun _ => HGS.out) (fun _ => ?_)
      clear hK K hg1 hg1' hown1 hgs hat1
      try simp only [Act.put, List.setIfInBounds_toArray, List.set_cons_zero, List.set_cons_succ]
      refine T_tail 15 rfl rfl (by omega) (by kernel_rfl) ?_
      go_wp2
      go_roundw
      case rel =>
        refine ⟨i + 1, by omega, by go_num, wr_put HGS.out HO1.out HLEN.out hgb hlt, ?_⟩
        exact (HBL.out.trans (below_of_gb HG1.out (Nat.le_trans hbase hbw) (fun k hk => (World.ownsRow.lt HOWN.out k hk).1))).setCell hgb _
      case measure => simp [intOf]; omega
    · have hie : i = n := by omega
      subst hie
      go_wp2
      go_end0
      refine ⟨rfl, ?_, HBL.out⟩
      have := HWS.out
      rwa [List.take_of_length_le (by rw [be_len]; exact Nat.le_refl _)] at this

theorem wr_new (w : World) : Calls Tryz.prog 68 #[] w fun e w' => e = .returned (.pointer (some ⟨w.heap.size, 0, none⟩)) ∧ WSt w' w.heap.size w.heap.size [] ∧ w.grownBy w' none := by
  go_enter Tryz.func68, Tryz.ntmps68
  go_wp2
  go_ret
  exact ⟨rfl, ⟨Nat.le_refl _, _, blk_new w _, OwB.nil _ _⟩, World.grownBy_alloc w _ none⟩
set_option maxRecDepth 100000 in
theorem wr_out (base g : Nat) (l : Js.Bs) (w : World) (h : WSt w base g l) (hl : l.length ≤ 100000) :
    Calls Tryz.prog 70 #[.pointer (some ⟨g, 0, none⟩)] w fun e w' => ∃ v, e = .returned v ∧ OwB w' w.heap.size l v ∧ w.grownBy w' none := by
  obtain ⟨hg, s, hs, ho⟩ := h
  have hc := clone_bytes (fun k => 0 ≤ k) l s w (ho.slb (Nat.zero_le _)) hl
  have c0 := blk_c hs 0
  have HC := Lib.hid hc
  obtain ⟨A, c, rfl, _, _⟩ := ho.form
  clear hc hs ho
  go_enter Tryz.func70, Tryz.ntmps70
  go_wp2_with fail
  refine HC.out.mono ?_
  rintro e w1 ⟨v, rfl, h1, h2⟩
  have H1 := Lib.hid h1
  have H2 := Lib.hid h2
  clear h1 h2
  go_wp2_with fail
  go_ret
  exact ⟨_, rfl, H1.out, H2.out⟩
end Go.Proofs.YtocjlbpehfpdoaaGreatDoor
