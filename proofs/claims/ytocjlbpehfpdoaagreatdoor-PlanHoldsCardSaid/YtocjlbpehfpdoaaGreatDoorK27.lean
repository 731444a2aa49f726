/- package rubricatorlaw20: awake. · Plain facts of what json.Parse hands back: its kind, its number, its text's length. -/
import Derived.Test.YtocjlbpehfpdoaaGreatDoorK26
import Derived.Test.YtocjlbpehfpdoaaGreatDoorK25
import Derived.Test.YtocjlbpehfpdoaaGreatDoorK13
set_option linter.unusedVariables false
set_option linter.unusedSimpArgs false
namespace Go.Proofs.YtocjlbpehfpdoaaGreatDoor
open Go.RowKit

theorem parse7 : Js.parse [55] = (⟨2, false, ⟨false, [55], 0⟩, [], [], []⟩, 0) := by rfl
theorem bounds7 : Js.bounds 2 ⟨2, false, ⟨false, [55], 0⟩, [], [], []⟩ = ([4], [4, 2, 7, 209, 8, 1], true) := by kernel_rfl
theorem numW7 : NumW ⟨false, [55], 0⟩ := .inr (by simp)
theorem behind1 : Js.behind [1, 255] = [2] := by rfl
theorem behind2 : Js.behind [255] = [] := by rfl
theorem slb_blk {F : Nat → Prop} {w : World} {g : Nat} {l : Js.Bs} (h : w.heap[g]? = some (.cells (bc l).toArray 5 (0, 0))) (hF : F g) (hl : l.length ≤ 1000) : SlB F w l (.slice (some ⟨g, 0, none⟩) l.length l.length) :=
  ⟨_, _, rfl, Nat.le_refl _, by unfold maxLen; omega, .inr ⟨g, 0, rfl, blk_lt' h, hF, fun j u hu => by
    rw [Nat.zero_add, blk_c h, ← Array.getElem?_toList]; exact hu⟩⟩
theorem behind_a (w : World) (g : Nat) (h : w.heap[g]? = some (.cells #[.int .u8 1, .int .u8 255] 5 (0, 0))) : Calls Tryz.prog 42 #[.slice (some ⟨g, 0, none⟩) 2 2] w (BOut w [2]) := by
  have := plan_behind (fun _ => True) [1, 255] (.slice (some ⟨g, 0, none⟩) 2 2) w (slb_blk (l := [1, 255]) h trivial (by simp)) (by simp)
  rw [behind1] at this
  exact this
theorem behind_b (w : World) (g : Nat) (h : w.heap[g]? = some (.cells #[.int .u8 255] 5 (0, 0))) : Calls Tryz.prog 42 #[.slice (some ⟨g, 0, none⟩) 1 1] w (BOut w []) := by
  have := plan_behind (fun _ => True) [255] (.slice (some ⟨g, 0, none⟩) 1 1) w (slb_blk (l := [255]) h trivial (by simp)) (by simp)
  rw [behind2] at this
  exact this
set_option maxRecDepth 100000 in
set_option maxHeartbeats 16000000 in
theorem law_awake (B : Nat) (w : World) (hT : Tabs w) (hk : Knd B w) : Calls Tryz.prog 12 #[] w (BlOut w true) := by
  have HP := Lib.hid (show Calls Tryz.prog 13 #[.string ⟨#[55]⟩] w (VErr w ⟨2, false, ⟨false, [55], 0⟩, [], [], []⟩ 0) by
    have := json_parse (ba [55]) w hT
    rw [show (ba [55]).data.toList = [55] from rfl, parse7] at this
    exact this)
  have HK := Lib.hid hk
  clear hT hk
  go_enter Tryz.func12, Tryz.ntmps12
  go_wp2_with fail
  refine HP.out.mono ?_
  rintro e w1 ⟨si, sn, rfl, hv, g1⟩
  obtain ⟨vA, vl, vc, uA, ul, uc, rfl, rfl⟩ := RdV.two hv
  simp only [vcs]
  have HG1 := Lib.hid g1
  obtain ⟨oX, hoX⟩ : ∃ o, o = Obj.cells #[.int .i64 2, .bool false, .bool false, .string (ba [55]), .int .i64 0, .string (ba []), .slice vA vl vc, .slice uA ul uc] 29 (0, 0) := ⟨_, rfl⟩
  obtain ⟨oY, hoY⟩ : ∃ o, o = Obj.cells #[.string ⟨#[97]⟩] 9 (0, 0) := ⟨_, rfl⟩
  obtain ⟨oZ, hoZ⟩ : ∃ o, o = Obj.cells #[.int .i64 2, .slice (some ⟨w1.heap.size + 1, 0, none⟩) 1 1, .int .i64 2, .bool false, .bool false, .string (ba [55]), .int .i64 0, .string (ba []), .slice vA vl vc, .slice uA ul uc] 46 (0, 0) := ⟨_, rfl⟩
  have a2 := allocs_at [oX, oY, oZ] w1 1 _ rfl
  have a3 := allocs_at [oX, oY, oZ] w1 2 _ rfl
  have ag := allocs_gb [oX, oY, oZ] w1
  subst hoX hoY hoZ
  simp only [allocs, Nat.add_zero] at a2 a3 ag
  have HA2 := Lib.hid a2
  have HA3 := Lib.hid a3
  have HAG := Lib.hid (gb_trans g1 ag)
  have HB := Lib.hid (fun W (hg : w.grownBy W none) sA sc => show Calls Tryz.prog 17 #[.agg #[.int .i64 2, .slice sA 1 sc, .int .i64 2, .bool false, .bool false, .string (ba [55]), .int .i64 0, .string (ba []), .slice vA vl vc, .slice uA ul uc]] W (B3Out W [4] [4, 2, 7, 209, 8, 1] true) by
    have := plan_bounds 2 2 false false [55] [] 0 sA vA uA 1 sc vl vc ul uc W B (HK.out.gbn hg) (by omega) (by omega) numW7 (by simp) [] []
    rw [bounds7] at this
    exact this)
  clear hv g1 a2 a3 ag
  go_wp2_with fail
  refine (HB.out _ HAG.out _ _).mono ?_
  rintro e w2 ⟨r1, r2, rfl, hr1, hr2, g2⟩
  obtain ⟨rA, rc, rfl, _, _, _⟩ := hr1.reads
  obtain ⟨qA, qc, rfl, _, _, _⟩ := hr2.reads
  have hb2 := gb_blk g2 HA2.out (by simp)
  have hb3 := gb_blk g2 HA3.out (by simp)
  have hb3' : w2.heap[w1.heap.size + 1 + 1]? = _ := hb3
  obtain ⟨tb, htb⟩ : ∃ tb, w1.heap.size + 1 + 1 = tb := ⟨_, rfl⟩
  rw [htb] at hb3' ⊢
  obtain ⟨x0, x1, x2, x3, x4, x5, x6, x7, x8, x9⟩ := blk10 hb3'
  have hl3 : tb < w2.heap.size := blk_lt' hb3'
  have hn3 : tb ≠ w2.heap.size := by omega
  have hn4 : tb ≠ w2.heap.size + 1 := by omega
  have hn5 : tb ≠ w2.heap.size + 1 + 1 := by omega
  have hl4 : tb < w2.heap.size + 1 := by omega
  have hl5 : tb < w2.heap.size + 1 + 1 := by omega
  clear hb3' htb
  obtain ⟨oX, hoX⟩ : ∃ o, o = Obj.cells #[.string ⟨#[98]⟩] 9 (0, 0) := ⟨_, rfl⟩
  obtain ⟨oY, hoY⟩ : ∃ o, o = Obj.cells #[.string ⟨#[97]⟩] 9 (0, 0) := ⟨_, rfl⟩
  obtain ⟨oZ, hoZ⟩ : ∃ o, o = Obj.cells #[.slice (some ⟨w2.heap.size, 0, none⟩) 1 1, .slice (some ⟨w2.heap.size + 1, 0, none⟩) 1 1] 27 (0, 0) := ⟨_, rfl⟩
  obtain ⟨oT, hoT⟩ : ∃ o, o = Obj.cells #[.int .i64 2, .slice (some ⟨w1.heap.size + 1, 0, none⟩) 1 1, .int .i64 2, .bool false, .bool false, .string (ba [55]), .int .i64 0, .string (ba []), .slice vA vl vc, .slice uA ul uc] 46 (0, 0) := ⟨_, rfl⟩
  have b0 := allocs_at [oX, oY, oZ, oT] w2 0 _ rfl
  have b1 := allocs_at [oX, oY, oZ, oT] w2 1 _ rfl
  have b2 := allocs_at [oX, oY, oZ, oT] w2 2 _ rfl
  have b3 := allocs_at [oX, oY, oZ, oT] w2 3 _ rfl
  have bg := allocs_gb [oX, oY, oZ, oT] w2
  subst hoX hoY hoZ hoT
  simp only [allocs, Nat.add_zero] at b0 b1 b2 b3 bg
  have HCH := Lib.hid (show Ch (w2.heap.size + 2) w2.heap.size (w2.heap.size + 1) (w1.heap.size + 1) 0 _ from ⟨b2, b0, b1, (blk_c (gb_blk bg hb2 (by simp)) 0)⟩)
  have HMB := Lib.hid b3
  have HG3 := Lib.hid (gb_trans (gb_trans HAG.out g2) bg)
  have HR1 := Lib.hid (hr1.gbn bg)
  have HR2 := Lib.hid (hr2.gbn bg)
  clear b0 b1 b2 b3 bg hr1 hr2 g2 hb2 hb3
  go_wp2_with fail
  refine (plan_choose _ _ _ _ _ _ _ _ _ _ _ _ _ _ _ _ _ _ _ B _ _ _ HCH.out HMB.out (HK.out.gbn HG3.out) (by omega) (by omega) numW7 (by simp) [] [] bounds7).mono ?_
  rintro e w3 ⟨s1, s2, rfl, hs1, hs2, g3⟩
  obtain ⟨sA, sc, rfl, _, _, _⟩ := hs1.reads
  obtain ⟨tA, tc, rfl, _, _, _⟩ := hs2.reads
  obtain ⟨oX, hoX⟩ : ∃ o, o = Obj.cells #[.int .i64 1, .slice sA ([4] : Js.Bs).length sc, .slice tA ([4, 2, 7, 209, 8, 1] : Js.Bs).length tc] 82 (0, 0) := ⟨_, rfl⟩
  obtain ⟨oY, hoY⟩ : ∃ o, o = Obj.cells #[.int .u8 1, .int .u8 255] 5 (0, 0) := ⟨_, rfl⟩
  have c0 := allocs_at [oX, oY] w3 0 _ rfl
  have c1 := allocs_at [oX, oY] w3 1 _ rfl
  have cg := allocs_gb [oX, oY] w3
  subst hoX hoY
  simp only [allocs, Nat.add_zero] at c0 c1 cg
  have HBA := Lib.hid (behind_a _ _ c1)
  have HX := Lib.hid c0
  have HG4 := Lib.hid (gb_trans HG3.out (gb_trans g3 cg))
  have HQ1 := Lib.hid (HR1.out.gbn (gb_trans g3 cg))
  have HQ2 := Lib.hid (HR2.out.gbn (gb_trans g3 cg))
  have HS2 := Lib.hid (hs2.gbn cg)
  clear c0 c1 cg g3 hs1 hs2 x0 x1 x2 x3 x4 x5 x6 x7 x8 x9
  go_wp2_with fail
  refine HBA.out.mono ?_
  rintro e w4 ⟨r, rfl, hr, g4⟩
  obtain ⟨oA, oc, rfl, _, _, _⟩ := hr.reads
  have v1 : Sem.run Tryz.prog (convert 22 9 (.slice oA 1 oc)) w4 = .ok (.string ⟨#[2]⟩) w4 := conv_str hr
  have HX4 := Lib.hid (gb_blk g4 HX.out (by simp))
  have HG5 := Lib.hid (gb_trans HG4.out g4)
  have HQ14 := Lib.hid (HQ1.out.gbn g4)
  have HQ24 := Lib.hid (HQ2.out.gbn g4)
  have HS24 := Lib.hid (HS2.out.gbn g4)
  have ag := World.grownBy_alloc w4 (.cells #[.int .u8 255] 5 (0, 0)) none
  have HAG4 := Lib.hid ag
  have HBB := Lib.hid (behind_b _ _ (blk_new w4 (.cells #[.int .u8 255] 5 (0, 0))))
  clear ag hr g4
  go_wp2_with fail
  refine HBB.out.mono ?_
  rintro e w5 ⟨r, rfl, hr, g5⟩
  obtain ⟨pA, pc, rfl, _, _, _⟩ := hr.reads
  have g45 := gb_trans HAG4.out g5
  have HG6 := Lib.hid (gb_trans HG5.out g45)
  have hx5 := gb_blk g45 HX4.out (by simp)
  have z0 := blk_c hx5 0
  have z2 := blk_c hx5 2
  have v1 : Sem.run Tryz.prog (convert 22 9 (.slice rA 1 rc)) w5 = .ok (.string ⟨#[4]⟩) w5 := conv_str (HQ14.out.gbn g45)
  have v2 : Sem.run Tryz.prog (convert 22 9 (.slice qA 6 qc)) w5 = .ok (.string ⟨#[4, 2, 7, 209, 8, 1]⟩) w5 := conv_str (HQ24.out.gbn g45)
  have v3 : Sem.run Tryz.prog (convert 22 9 (.slice tA 6 tc)) w5 = .ok (.string ⟨#[4, 2, 7, 209, 8, 1]⟩) w5 := conv_str (HS24.out.gbn g45)
  clear hr g5 g45 hx5
  go_wp2_with fail
  go_ret
  exact ⟨rfl, HG6.out⟩
end Go.Proofs.YtocjlbpehfpdoaaGreatDoor

set_option linter.unusedVariables false
set_option linter.unusedSimpArgs false
namespace Go.Proofs.YtocjlbpehfpdoaaGreatDoor
open Go.RowKit

/-- A number that num.Parse hands back. -/
def NumGood (n : Js.Nm) : Prop := Js.IsD n.dig ∧ n.dig.length ≤ 40 ∧ -999 ≤ n.exp ∧ n.exp ≤ 999 ∧ (n.dig = [] → n = Js.Nm.zero)
theorem NumGood.zero : NumGood Js.Nm.zero := ⟨fun c h => (by cases h), by simp [Js.Nm.zero], by simp [Js.Nm.zero], by simp [Js.Nm.zero], fun _ => rfl⟩
theorem NumGood.w {n : Js.Nm} (h : NumGood n) : NumW n := by
  obtain ⟨_, h2, h3, h4, _⟩ := h
  exact .inr ⟨by omega, by omega, by omega⟩
theorem NumGood.c {n : Js.Nm} (h : NumGood n) : NumC n := by
  obtain ⟨_, h2, h3, h4, _⟩ := h
  exact ⟨by omega, by omega, by omega⟩
theorem NumGood.ok {n : Js.Nm} (h : NumGood n) : Js.NumOk n := by
  obtain ⟨h1, h2, h3, h4, h5⟩ := h
  exact ⟨h1, by omega, by omega, h5⟩
theorem drop_nil {s cs : Js.Bs} (h : Lib.trimLeftS s cs = []) : ∀ c ∈ s, c ∈ cs := by
  induction s with
  | nil => intro c hc; cases hc
  | cons a s ih =>
    unfold Lib.trimLeftS at h ih
    rw [List.dropWhile_cons] at h
    split at h
    · rename_i ha
      intro c hc
      rcases List.mem_cons.1 hc with rfl | hc
      · simpa using ha
      · exact ih h c hc
    · cases h
theorem right_good {n : Js.Nm} (h : Js.nright n = true) (hz : n.dig = [] → n = Js.Nm.zero) : NumGood n := by
  obtain ⟨down, dig, exp⟩ := n
  cases dig with
  | nil => rw [hz rfl]; exact NumGood.zero
  | cons c r =>
    simp only [Js.nright, Bool.and_eq_true, decide_eq_true_eq, beq_iff_eq] at h
    obtain ⟨⟨⟨⟨⟨h1, -⟩, -⟩, h4⟩, h5⟩, h6⟩ := h
    refine ⟨fun x hx => ?_, h4, h5, h6, fun e => by cases e⟩
    have := drop_nil h1 x hx
    simp only [Js.digits10, List.mem_cons, List.not_mem_nil, or_false] at this
    rcases this with rfl | rfl | rfl | rfl | rfl | rfl | rfl | rfl | rfl | rfl <;> decide
theorem nform_zero (down : Bool) (s : Js.Bs) (e : Int) (h : (Js.nform down s e).dig = []) : Js.nform down s e = Js.Nm.zero := by
  unfold Js.nform at *
  simp only at *
  split
  · rfl
  · rename_i h2
    rw [if_neg h2] at h
    exact absurd h h2
theorem nparse_good (s : Js.Bs) : NumGood (Js.nparse s).1 := by
  have key : ∀ (d : Bool) (l : Js.Bs) (e : Int), NumGood (if Js.nright (Js.nform d l e) then (Js.nform d l e, (0 : Int)) else (Js.Nm.zero, 13)).1 := by
    intro d l e
    split
    · rename_i h
      exact right_good h (nform_zero _ _ _)
    · exact NumGood.zero
  unfold Js.nparse
  simp only
  by_cases h : ((Js.nparts s).bad || (Js.nparts s).rest != []) = true
  · rw [if_pos h]; exact NumGood.zero
  · rw [if_neg h]; exact key _ _ _
/-- A value that json.Parse hands back. -/
def Fine (B : Nat) (v : Js.V) : Prop := 0 ≤ v.kind ∧ v.kind ≤ 5 ∧ NumGood v.num ∧ v.text.length ≤ B
theorem Fine.zero (B : Nat) : Fine B Js.V.zero := ⟨by simp [Js.V.zero], by simp [Js.V.zero], NumGood.zero, by simp [Js.V.zero]⟩
theorem strLoop_len : ∀ (f : Nat) (out : Js.Bs) (st : Js.St), (Js.strLoop f out st).1.length ≤ out.length + 4 * st.s.length := by
  intro f
  induction f with
  | zero => intro out st; simp [Js.strLoop]
  | succ f ih =>
    intro out st
    rw [Js.strLoop]
    split
    · simp
    · simp only
      have hlen : (out ++ st.s.take (Js.plain st.s).1).length ≤ out.length + min (Js.plain st.s).1 st.s.length := by simp
      split
      · simp only; omega
      · split
        · simp only; omega
        · refine Nat.le_trans (ih _ _) ?_
          have he := esc_len ⟨st.s.drop ((Js.plain st.s).1 + 1), st.o, st.e⟩
          simp only [List.length_drop] at he
          by_cases hn : st.s.drop ((Js.plain st.s).1 + 1) = []
          · rw [escape_nil (by exact hn)] at he ⊢
            have hf : (Js.failS ⟨st.s.drop ((Js.plain st.s).1 + 1), st.o, st.e⟩ 11).s = [] := by unfold Js.failS; split <;> exact hn
            simp only [List.append_nil, hf, List.length_nil]
            omega
          · have : (Js.plain st.s).1 + 1 < st.s.length := by
              rw [List.drop_eq_nil_iff] at hn; omega
            rw [List.length_append]
            omega
theorem str_len (st : Js.St) : (Js.strS st).1.length ≤ 4 * st.s.length := by
  refine Nat.le_trans (strLoop_len _ _ _) ?_
  simp only [List.length_nil, List.length_drop]
  omega
theorem value_fine (d : Nat) (st : Js.St) : Fine (4 * st.s.length) (Js.value d st).1 := by
  cases d with
  | zero => exact Fine.zero _
  | succ d =>
    rw [Js.value]
    simp only
    have hs := skip_len st
    split
    · exact Fine.zero _
    · split
      · exact Fine.zero _
      · repeat' split
        · exact Fine.zero _
        · exact ⟨by simp, by simp, NumGood.zero, by simp [Js.V.zero]⟩
        · exact ⟨by simp, by simp, NumGood.zero, by simp [Js.V.zero]⟩
        · refine ⟨by simp, by simp, NumGood.zero, ?_⟩
          have := str_len (Js.skipS st)
          simp only
          omega
        · exact ⟨by simp, by simp, NumGood.zero, by simp [Js.V.zero]⟩
        · exact ⟨by simp, by simp, NumGood.zero, by simp [Js.V.zero]⟩
        · exact ⟨by simp [Js.numberS], by simp [Js.numberS], nparse_good _, by simp [Js.numberS, Js.V.zero]⟩
        · exact Fine.zero _
theorem parse_fine (s : Js.Bs) (hs : s.length ≤ 1024) : Fine 4096 (Js.parse s).1 := by
  have key : ∀ st : Js.St, Fine 4096 (if st.e ≠ 0 then (Js.V.zero, st.e) else ((Js.value 17 ⟨s, 0, 0⟩).1, 0)).1 := by
    intro st
    split
    · exact Fine.zero _
    · obtain ⟨h1, h2, h3, h4⟩ := value_fine 17 ⟨s, 0, 0⟩
      exact ⟨h1, h2, h3, by simp only at h4 ⊢; omega⟩
  unfold Js.parse
  rw [if_neg (by omega)]
  exact key _
theorem okey_plain {B : Nat} {v : Js.V} (h : Fine B v) (h0 : (Js.okey v).2 = 0) : Js.Plain v := by
  obtain ⟨h1, h2, h3, _⟩ := h
  refine ⟨h1, ?_, h3.ok⟩
  unfold Js.okey at h0
  repeat' split at h0
  all_goals first | omega | (simp at h0)
theorem way_a : Js.wparse [97] = ([[97]], 0) := by rfl
theorem fcomp_a (op : Int) (t : Js.Bs) (h : (fcomp op [97] t).2 = 0) (h4 : op ≤ 4) : 0 ≤ op ∧ (fcomp op [97] t).1 = (op, [[97]], (Js.parse t).1) ∧ (Js.parse t).1.kind ≠ 4 ∧ (Js.parse t).1.kind ≠ 5 := by
  unfold fcomp at *
  by_cases ht : takesI op ≠ 0
  · rw [if_pos ht] at h; simp at h
  · rw [if_neg ht] at h ⊢
    obtain ⟨h0, _⟩ := takes_op op (by simpa using ht)
    refine ⟨h0, ?_⟩
    unfold ftest at *
    rw [way_a] at h ⊢
    rw [if_neg (by simp), if_neg (by omega)] at h ⊢
    by_cases hp : (Js.parse t).2 ≠ 0
    · rw [if_pos hp] at h; exact absurd h hp
    · rw [if_neg hp] at h ⊢
      split at h
      · simp at h
      · rename_i hk
        rw [if_neg hk]
        exact ⟨rfl, fun e => hk (.inl e), fun e => hk (.inr e)⟩
end Go.Proofs.YtocjlbpehfpdoaaGreatDoor
