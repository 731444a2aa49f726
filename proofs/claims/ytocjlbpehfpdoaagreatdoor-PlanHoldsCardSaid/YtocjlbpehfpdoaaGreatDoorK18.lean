/- package json's reader: value: where no sign of its map begins it. · package json's reader: list, with whichever literal. (printed by mkl.py) -/
import Derived.Test.YtocjlbpehfpdoaaGreatDoorK17
set_option linter.unusedVariables false
set_option linter.unusedSimpArgs false
namespace Go.Proofs.YtocjlbpehfpdoaaGreatDoor
open Go.RowKit

theorem find_none (r : Nat) (c : Nat) (h : c ≠ 110 ∧ c ≠ 116 ∧ c ≠ 102 ∧ c ≠ 34 ∧ c ≠ 91 ∧ c ≠ 123 ∧ c ≠ 45) : Instr.findNow (.int .u8) (.int .u8 (c : Int)) (esM r).toList 0 = some none := by
  have e : ∀ k : Nat, c ≠ k → ((c : Int) == (k : Int)) = false := fun k hk => by simpa using (by omega : ¬ (c : Int) = (k : Int))
  have e1 : ((c : Int) == 110) = false := e 110 h.1
  have e2 : ((c : Int) == 116) = false := e 116 h.2.1
  have e3 : ((c : Int) == 102) = false := e 102 h.2.2.1
  have e4 : ((c : Int) == 34) = false := e 34 h.2.2.2.1
  have e5 : ((c : Int) == 91) = false := e 91 h.2.2.2.2.1
  have e6 : ((c : Int) == 123) = false := e 123 h.2.2.2.2.2.1
  have e7 : ((c : Int) == 45) = false := e 45 h.2.2.2.2.2.2
  simp [Instr.findNow, Instr.sameNow, esM, e1, e2, e3, e4, e5, e6, e7]

theorem set8_gb (w4 : World) (b : Nat) (x0 x1 x2 x3 x4 x5 x6 x7 : Value) : w4.grownBy ((((((((w4.setCell ⟨b, 0, none⟩ x0).setCell ⟨b, 1, none⟩ x1).setCell ⟨b, 2, none⟩ x2).setCell ⟨b, 3, none⟩ x3).setCell ⟨b, 4, none⟩ x4).setCell ⟨b, 5, none⟩ x5).setCell ⟨b, 6, none⟩ x6).setCell ⟨b, 7, none⟩ x7) (some b) := by
  iterate 8 refine gb_set ?_ (.inr rfl) _
  exact gb_refl _ _

set_option maxRecDepth 100000 in
set_option maxHeartbeats 8000000 in
theorem value_err (r : Nat) (st st1 : Js.St) (w : World) (h : RSt w r st) (hst1 : Js.skipS st = st1) (he : st1.e ≠ 0) :
    Calls Tryz.prog 43 #[.pointer (some ⟨r, 0, none⟩)] w (VDid w r Js.V.zero st1) := by
  have hmf : ∀ (fn : Fn) (first cap : Array Value) (w : World), (Instr.makeFunc fn first cap).run Tryz.prog w = .ok (.func fn first cap) w := fun _ _ _ _ => rfl
  have hmm := @run_makeMap Tryz.prog
  have hr := h.lt
  have hsk := json_skip r st _ (h.al (.cells #[.int .i64 0, .bool false, .bool false, .string ⟨#[]⟩, .int .i64 0, .string ⟨#[]⟩, .slice none 0 0, .slice none 0 0] 29 (0, 0)))
  rw [hst1] at hsk
  have HSK := Lib.hid hsk
  have e0 : (st1.e != 0) = true := by simpa using he
  clear h hsk hst1 he
  go_enter Tryz.func43, Tryz.ntmps43
  go_wp2_with fail
  refine HSK.out.mono ?_
  rintro e w1 ⟨rfl, h1, g1⟩
  have hb := gb_blk g1 (blk_new w _) (by simp; omega)
  have HB0 := Lib.hid hb
  have HK1 := Lib.hid h1
  have HG1 := Lib.hid (gb_trans (World.grownBy_alloc w _ (some r)) g1)
  have hs1 : w.heap.size < w1.heap.size := blk_lt' hb
  clear h1 g1 hb
  go_upto_region 2 with fail
  go_cut [3] from 8 (fun s3 wx => s3 = .map (some w1.heap.size) ∧ w1.grownBy wx none ∧ wx.heap[w1.heap.size]? = some (.map (esM r) 7))
  case first =>
    obtain ⟨m1, m2, m3, m4, m5, m6, m7⟩ := map_made r w1
    simp only [mth] at m1 m2 m3 m4 m5 m6 m7
    go_wp2_with fail
    go_meet
    exact ⟨rfl, setMap_gb w1 _ _ _ _ none (World.grownBy_alloc w1 _ none) (Nat.le_refl _), setMap_at _ _ _ _ (by simp)⟩
  case rest =>
    obtain ⟨rfl, gm, hm⟩ := hcut
    have hk2 := HK1.out.gb gm (by simp)
    have hb2 := gb_blk gm HB0.out (by simp)
    have HGM := Lib.hid (gb_trans HG1.out (gb_any gm))
    have HK2 := Lib.hid hk2
    obtain ⟨⟨d0, d1, d2, d3, d4, d5, d6, d7⟩, q0, q1, q2, q3, q4, q5, q6, q7⟩ := blk8 hb2
    obtain ⟨s, HS, HB, hl, c0, c1, c2, f0, f1, f2⟩ := hk2.op
    clear gm hm hk2 hb2
    go_wp2
    refine bodyPost_ret (v := .agg #[.int .i64 0, .bool false, .bool false, .string ⟨#[]⟩, .int .i64 0, .string ⟨#[]⟩, .slice none 0 0, .slice none 0 0]) (by simp [results, Tryz.results43, go_sem, d0, d1, d2, d3, d4, d5, d6, d7]) rfl ?_
    exact VDid.done (b0 := w.heap.size) (w0 := w) (w1 := wc) (si := .slice none 0 0) (sn := .slice none 0 0) rfl HK2.out (gb_refl w none) HGM.out (set8_gb _ _ _ _ _ _ _ _ _ _) (Nat.le_refl _) hr (RdV.bare _ _ _ _ _ _)

set_option maxRecDepth 100000 in
set_option maxHeartbeats 8000000 in
theorem value_nil (r : Nat) (st st1 : Js.St) (w : World) (h : RSt w r st) (hst1 : Js.skipS st = st1) (he : st1.e = 0) (hs : st1.s = []) :
    Calls Tryz.prog 43 #[.pointer (some ⟨r, 0, none⟩)] w (VDid w r Js.V.zero (Js.failS st1 11)) := by
  have hmf : ∀ (fn : Fn) (first cap : Array Value) (w : World), (Instr.makeFunc fn first cap).run Tryz.prog w = .ok (.func fn first cap) w := fun _ _ _ _ => rfl
  have hmm := @run_makeMap Tryz.prog
  have hr := h.lt
  have hsk := json_skip r st _ (h.al (.cells #[.int .i64 0, .bool false, .bool false, .string ⟨#[]⟩, .int .i64 0, .string ⟨#[]⟩, .slice none 0 0, .slice none 0 0] 29 (0, 0)))
  rw [hst1] at hsk
  have HSK := Lib.hid hsk
  clear h hsk hst1
  go_enter Tryz.func43, Tryz.ntmps43
  go_wp2_with fail
  refine HSK.out.mono ?_
  rintro e w1 ⟨rfl, h1, g1⟩
  have hb := gb_blk g1 (blk_new w _) (by simp; omega)
  have HB0 := Lib.hid hb
  have HK1 := Lib.hid h1
  have HG1 := Lib.hid (gb_trans (World.grownBy_alloc w _ (some r)) g1)
  have hs1 : w.heap.size < w1.heap.size := blk_lt' hb
  clear h1 g1 hb
  go_upto_region 2 with fail
  go_cut [3] from 8 (fun s3 wx => s3 = .map (some w1.heap.size) ∧ w1.grownBy wx none ∧ wx.heap[w1.heap.size]? = some (.map (esM r) 7))
  case first =>
    obtain ⟨m1, m2, m3, m4, m5, m6, m7⟩ := map_made r w1
    simp only [mth] at m1 m2 m3 m4 m5 m6 m7
    go_wp2_with fail
    go_meet
    exact ⟨rfl, setMap_gb w1 _ _ _ _ none (World.grownBy_alloc w1 _ none) (Nat.le_refl _), setMap_at _ _ _ _ (by simp)⟩
  case rest =>
    obtain ⟨rfl, gm, hm⟩ := hcut
    have hk2 := HK1.out.gb gm (by simp)
    have hb2 := gb_blk gm HB0.out (by simp)
    have HGM := Lib.hid (gb_trans HG1.out (gb_any gm))
    have HK2 := Lib.hid hk2
    have HB2 := Lib.hid hb2
    obtain ⟨s, HS, HB, hl, c0, c1, c2, f0, f1, f2⟩ := hk2.op
    rw [he] at c2
    have hne : s.toList.isEmpty = true := by rw [ByteArray.toList_eq, HS.out, hs]; rfl
    clear gm hm hk2 hb2 he hs
    go_wp2_with fail
    refine (json_fail r st1 11 wc HK2.out).mono ?_
    rintro e w4 ⟨rfl, hk4, g4⟩
    have hb4 := gb_blk g4 HB2.out (by simp; omega)
    obtain ⟨⟨d0, d1, d2, d3, d4, d5, d6, d7⟩, q0, q1, q2, q3, q4, q5, q6, q7⟩ := blk8 hb4
    have HK4 := Lib.hid hk4
    have HG4 := Lib.hid g4
    clear hk4 g4 hb4 c0 c1 c2 f0 f1 f2
    go_wp2
    refine bodyPost_ret (v := .agg #[.int .i64 0, .bool false, .bool false, .string ⟨#[]⟩, .int .i64 0, .string ⟨#[]⟩, .slice none 0 0, .slice none 0 0]) (by simp [results, Tryz.results43, go_sem, d0, d1, d2, d3, d4, d5, d6, d7]) rfl ?_
    exact VDid.done (b0 := w.heap.size) (w0 := w) (w1 := w4) (si := .slice none 0 0) (sn := .slice none 0 0) rfl HK4.out (gb_refl w none) (gb_trans HGM.out HG4.out) (set8_gb _ _ _ _ _ _ _ _ _ _) (Nat.le_refl _) hr (RdV.bare _ _ _ _ _ _)

set_option maxRecDepth 100000 in
set_option maxHeartbeats 8000000 in
theorem value_dig (B r : Nat) (st st1 st' : Js.St) (v : Js.V) (c : UInt8) (rest : Js.Bs) (w : World) (h : RSt w r st) (hst1 : Js.skipS st = st1) (hs : st1.s = c :: rest) (he : st1.e = 0) (hc1 : 48 ≤ c.toNat) (hc2 : c.toNat ≤ 57)
    (hcall : ∀ W, RSt W r st1 → Calls Tryz.prog 111 #[.pointer (some ⟨r, 0, none⟩)] W (VDid W r v st')) :
    Calls Tryz.prog 43 #[.pointer (some ⟨r, 0, none⟩)] w (VDid w r v st') := by
  have hmf : ∀ (fn : Fn) (first cap : Array Value) (w : World), (Instr.makeFunc fn first cap).run Tryz.prog w = .ok (.func fn first cap) w := fun _ _ _ _ => rfl
  have hmm := @run_makeMap Tryz.prog
  have hr := h.lt
  have hsk := json_skip r st _ (h.al (.cells #[.int .i64 0, .bool false, .bool false, .string ⟨#[]⟩, .int .i64 0, .string ⟨#[]⟩, .slice none 0 0, .slice none 0 0] 29 (0, 0)))
  rw [hst1] at hsk
  have HSK := Lib.hid hsk
  have HC := Lib.hid hcall
  clear h hsk hst1 hcall
  go_enter Tryz.func43, Tryz.ntmps43
  go_wp2_with fail
  refine HSK.out.mono ?_
  rintro e w1 ⟨rfl, h1, g1⟩
  have hb := gb_blk g1 (blk_new w _) (by simp; omega)
  have HB0 := Lib.hid hb
  have HK1 := Lib.hid h1
  have HG1 := Lib.hid (gb_trans (World.grownBy_alloc w _ (some r)) g1)
  have hs1 : w.heap.size < w1.heap.size := blk_lt' hb
  clear h1 g1 hb
  go_upto_region 2 with fail
  go_cut [3] from 8 (fun s3 wx => s3 = .map (some w1.heap.size) ∧ w1.grownBy wx none ∧ wx.heap[w1.heap.size]? = some (.map (esM r) 7))
  case first =>
    obtain ⟨m1, m2, m3, m4, m5, m6, m7⟩ := map_made r w1
    simp only [mth] at m1 m2 m3 m4 m5 m6 m7
    go_wp2_with fail
    go_meet
    exact ⟨rfl, setMap_gb w1 _ _ _ _ none (World.grownBy_alloc w1 _ none) (Nat.le_refl _), setMap_at _ _ _ _ (by simp)⟩
  case rest =>
    obtain ⟨rfl, gm, hm⟩ := hcut
    have hk2 := HK1.out.gb gm (by simp)
    have hb2 := gb_blk gm HB0.out (by simp)
    have hsc : w1.heap.size < wc.heap.size := blk_lt' hm
    have HGM := Lib.hid (gb_trans HG1.out (gb_any gm))
    have HB2 := Lib.hid hb2
    obtain ⟨nv, lk⟩ := run_look_none wc w1.heap.size (esM r) 7 (c.toNat : Int) hm (find_none r c.toNat (by omega))
    have hcl := HC.out wc hk2
    have HCL := Lib.hid hcl
    obtain ⟨s, HS, HB, hl, c0, c1, c2, f0, f1, f2⟩ := hk2.op
    rw [he] at c2
    have hsl : s.data.toList = c :: rest := by rw [HS.out, hs]
    have hsz : s.size = rest.length + 1 := by rw [← sz_of, hsl]; rfl
    have hne : s.toList.isEmpty = false := by rw [ByteArray.toList_eq, hsl]; rfl
    have hszi : 1 ≤ s.size := by omega
    have ix : ∀ W, (Instr.index 9 (.string s) (.int .i64 0)).run Tryz.prog W = .ok (.int .u8 (c.toNat : Int)) W := fun W => run_idx s 0 (by omega) c.toNat (by
      have : s.data.toList[0]'(by rw [hsl]; simp) = c := by simp [hsl]
      rw [show s[0]'(by omega) = c from by simpa [ByteArray.getElem_eq_getElem_data] using this]) W
    have t1 : decide (48 ≤ (c.toNat : Int)) = true := by simp; omega
    have t2 : decide ((c.toNat : Int) ≤ 57) = true := by simp; omega
    clear hsl hsz gm hm hk2 hb2 hcl hs he
    go_wp2_with fail
    refine HCL.out.mono ?_
    rintro e w4 ⟨si, sn, rfl, hv, hk4, g4⟩
    have hb4 := gb_blk g4 HB2.out (by simp; omega)
    obtain ⟨⟨d0, d1, d2, d3, d4, d5, d6, d7⟩, q0, q1, q2, q3, q4, q5, q6, q7⟩ := blk8 hb4
    have HV := Lib.hid hv
    have HK4 := Lib.hid hk4
    have HG4 := Lib.hid g4
    clear hv hk4 g4 hb4 c0 c1 c2 f0 f1 f2
    simp only [vcs]
    obtain ⟨sA, sn1, sc1, tA, tn1, tc1, rfl, rfl⟩ := RdV.two HV.out
    go_wp2
    refine bodyPost_ret (v := .agg #[.int .i64 v.kind, .bool v.is, .bool v.num.down, .string (ba v.num.dig), .int .i64 v.num.exp, .string (ba v.text), .slice sA sn1 sc1, .slice tA tn1 tc1]) (by simp [results, Tryz.results43, go_sem, d0, d1, d2, d3, d4, d5, d6, d7]) rfl ?_
    refine VDid.done (b0 := w.heap.size) (w0 := w) (w1 := w4) rfl HK4.out (gb_refl w none) (gb_trans HGM.out HG4.out) (set8_gb _ _ _ _ _ _ _ _ _ _) (Nat.le_refl _) hr ?_
    exact (HV.out.gb (set8_gb _ _ _ _ _ _ _ _ _ _) (fun k hk e => by cases e; omega)).mono (fun k hk _ => by show w.heap.size ≤ k; have : wc.heap.size ≤ k := hk; omega)

set_option maxRecDepth 100000 in
set_option maxHeartbeats 8000000 in
theorem value_bad (r : Nat) (st st1 : Js.St) (c : UInt8) (rest : Js.Bs) (w : World) (h : RSt w r st) (hst1 : Js.skipS st = st1) (hs : st1.s = c :: rest) (he : st1.e = 0)
    (hk : c.toNat ≠ 110 ∧ c.toNat ≠ 116 ∧ c.toNat ≠ 102 ∧ c.toNat ≠ 34 ∧ c.toNat ≠ 91 ∧ c.toNat ≠ 123 ∧ c.toNat ≠ 45) (hd : ¬ (48 ≤ c.toNat ∧ c.toNat ≤ 57)) :
    Calls Tryz.prog 43 #[.pointer (some ⟨r, 0, none⟩)] w (VDid w r Js.V.zero (Js.failS st1 11)) := by
  have hmf : ∀ (fn : Fn) (first cap : Array Value) (w : World), (Instr.makeFunc fn first cap).run Tryz.prog w = .ok (.func fn first cap) w := fun _ _ _ _ => rfl
  have hmm := @run_makeMap Tryz.prog
  have hr := h.lt
  have hsk := json_skip r st _ (h.al (.cells #[.int .i64 0, .bool false, .bool false, .string ⟨#[]⟩, .int .i64 0, .string ⟨#[]⟩, .slice none 0 0, .slice none 0 0] 29 (0, 0)))
  rw [hst1] at hsk
  have HSK := Lib.hid hsk
  clear h hsk hst1
  have hd' : (decide (48 ≤ (c.toNat : Int)) = false) ∨ (decide (48 ≤ (c.toNat : Int)) = true ∧ decide ((c.toNat : Int) ≤ 57) = false) := by
    simp only [decide_eq_false_iff_not, decide_eq_true_eq]
    omega
  have HD := Lib.hid hd'
  clear hd hd'
  go_enter Tryz.func43, Tryz.ntmps43
  go_wp2_with fail
  refine HSK.out.mono ?_
  rintro e w1 ⟨rfl, h1, g1⟩
  have hb := gb_blk g1 (blk_new w _) (by simp; omega)
  have HB0 := Lib.hid hb
  have HK1 := Lib.hid h1
  have HG1 := Lib.hid (gb_trans (World.grownBy_alloc w _ (some r)) g1)
  have hs1 : w.heap.size < w1.heap.size := blk_lt' hb
  clear h1 g1 hb
  go_upto_region 2 with fail
  go_cut [3] from 8 (fun s3 wx => s3 = .map (some w1.heap.size) ∧ w1.grownBy wx none ∧ wx.heap[w1.heap.size]? = some (.map (esM r) 7))
  case first =>
    obtain ⟨m1, m2, m3, m4, m5, m6, m7⟩ := map_made r w1
    simp only [mth] at m1 m2 m3 m4 m5 m6 m7
    go_wp2_with fail
    go_meet
    exact ⟨rfl, setMap_gb w1 _ _ _ _ none (World.grownBy_alloc w1 _ none) (Nat.le_refl _), setMap_at _ _ _ _ (by simp)⟩
  case rest =>
    obtain ⟨rfl, gm, hm⟩ := hcut
    have hk2 := HK1.out.gb gm (by simp)
    have hb2 := gb_blk gm HB0.out (by simp)
    have HGM := Lib.hid (gb_trans HG1.out (gb_any gm))
    have HK2 := Lib.hid hk2
    have HB2 := Lib.hid hb2
    obtain ⟨nv, lk⟩ := run_look_none wc w1.heap.size (esM r) 7 (c.toNat : Int) hm (find_none r c.toNat hk)
    obtain ⟨s, HS, HB, hl, c0, c1, c2, f0, f1, f2⟩ := hk2.op
    rw [he] at c2
    have hsl : s.data.toList = c :: rest := by rw [HS.out, hs]
    have hsz : s.size = rest.length + 1 := by rw [← sz_of, hsl]; rfl
    have hne : s.toList.isEmpty = false := by rw [ByteArray.toList_eq, hsl]; rfl
    have hszi : 1 ≤ s.size := by omega
    have ix : ∀ W, (Instr.index 9 (.string s) (.int .i64 0)).run Tryz.prog W = .ok (.int .u8 (c.toNat : Int)) W := fun W => run_idx s 0 (by omega) c.toNat (by
      have : s.data.toList[0]'(by rw [hsl]; simp) = c := by simp [hsl]
      rw [show s[0]'(by omega) = c from by simpa [ByteArray.getElem_eq_getElem_data] using this]) W
    clear hsl hsz gm hm hk2 hb2 hs he hk
    rcases HD.out with t1 | ⟨t1, t2⟩
    all_goals
      go_wp2_with fail
      refine (json_fail r st1 11 wc HK2.out).mono ?_
      rintro e w4 ⟨rfl, hk4, g4⟩
      have hb4 := gb_blk g4 HB2.out (by simp; omega)
      obtain ⟨⟨d0, d1, d2, d3, d4, d5, d6, d7⟩, q0, q1, q2, q3, q4, q5, q6, q7⟩ := blk8 hb4
      have HK4 := Lib.hid hk4
      have HG4 := Lib.hid g4
      clear hk4 g4 hb4 c0 c1 c2 f0 f1 f2
      go_wp2
      refine bodyPost_ret (v := .agg #[.int .i64 0, .bool false, .bool false, .string ⟨#[]⟩, .int .i64 0, .string ⟨#[]⟩, .slice none 0 0, .slice none 0 0]) (by simp [results, Tryz.results43, go_sem, d0, d1, d2, d3, d4, d5, d6, d7]) rfl ?_
      exact VDid.done (b0 := w.heap.size) (w0 := w) (w1 := w4) (si := .slice none 0 0) (sn := .slice none 0 0) rfl HK4.out (gb_refl w none) (gb_trans HGM.out HG4.out) (set8_gb _ _ _ _ _ _ _ _ _ _) (Nat.le_refl _) hr (RdV.bare _ _ _ _ _ _)
end Go.Proofs.YtocjlbpehfpdoaaGreatDoor

set_option linter.unusedVariables false
set_option linter.unusedSimpArgs false
namespace Go.Proofs.YtocjlbpehfpdoaaGreatDoor
open Go.RowKit

theorem skip_len (st : Js.St) : (Js.skipS st).s.length ≤ st.s.length := trim_len _ _
theorem took_facts (t : Js.Bs) (st : Js.St) : (Js.tookS t st).2.o = st.o ∧ (Js.tookS t st).2.e = st.e ∧ (Js.tookS t st).2.s.length ≤ st.s.length ∧ ((Js.tookS t st).1 = true → (Js.tookS t st).2.s.length + t.length ≤ st.s.length ∧ st.e = 0) := by
  have hs := skip_len st
  unfold Js.tookS
  simp only
  split
  · rename_i h
    simp only [Bool.and_eq_true, beq_iff_eq] at h
    have hp := List.isPrefixOf_iff_prefix.1 h.1
    have := hp.length_le
    refine ⟨rfl, rfl, by simp; omega, fun _ => ⟨by simp; omega, h.2⟩⟩
  · refine ⟨rfl, rfl, hs, fun h => by cases h⟩
theorem need_facts (t : Js.Bs) (st : Js.St) : (Js.needS t st).o = st.o ∧ (st.e ≠ 0 → (Js.needS t st).e ≠ 0) ∧ (Js.needS t st).s.length ≤ st.s.length := by
  have h := took_facts t st
  unfold Js.needS
  simp only
  split
  · exact ⟨h.1, fun he => by rw [h.2.1]; exact he, h.2.2.1⟩
  · refine ⟨by rw [fail_o]; exact h.1, fun he => ?_, by rw [fail_s]; exact h.2.2.1⟩
    unfold Js.failS
    rw [h.2.1, if_neg he]
    exact fun h2 => he (h.2.1 ▸ h2)
theorem fail_e (st : Js.St) (e : Int) (h : st.e ≠ 0 ∨ e ≠ 0) : (Js.failS st e).e ≠ 0 := by
  unfold Js.failS
  split
  · rename_i h0
    rcases h with h | h
    · exact absurd h0 h
    · exact h
  · assumption
theorem enter_facts (st : Js.St) : (Js.enterS st).o = st.o + 1 ∧ (st.e ≠ 0 ∨ st.o = 16 → (Js.enterS st).e ≠ 0) ∧ (Js.enterS st).s.length ≤ st.s.length := by
  by_cases h1 : st.o = 16
  · rw [enterS_deep h1]
    exact ⟨rfl, fun _ => fail_e st 35 (.inr (by omega)), Nat.le_refl _⟩
  · by_cases h2 : st.e = 0
    · rw [enterS_ok h1 h2]
      refine ⟨rfl, fun h => ?_, by simp⟩
      rcases h with h | h
      · exact absurd h2 h
      · exact absurd h h1
    · rw [enterS_bad h1 h2]
      exact ⟨rfl, fun _ => h2, Nat.le_refl _⟩
theorem moreS_stop {σ : Type} {thing : σ → Js.St → σ × Js.St} {f : Nat} {a : σ} {st : Js.St} (h : (Js.tookS [44] st).1 = false) : Js.moreS thing (f + 1) a st = (a, (Js.tookS [44] st).2) := by
  rw [Js.moreS]
  simp [h]
theorem moreS_on {σ : Type} {thing : σ → Js.St → σ × Js.St} {f : Nat} {a : σ} {st : Js.St} (h : (Js.tookS [44] st).1 = true) : Js.moreS thing (f + 1) a st = Js.moreS thing f (thing a (Js.tookS [44] st).2).1 (thing a (Js.tookS [44] st).2).2 := by
  rw [Js.moreS]
  simp [h]
theorem listS_end {σ : Type} {thing : σ → Js.St → σ × Js.St} {endc : Js.Bs} {a : σ} {st : Js.St} (h : (Js.tookS endc (Js.enterS st)).1 = true) : Js.listS thing endc a st = (a, { (Js.tookS endc (Js.enterS st)).2 with o := (Js.tookS endc (Js.enterS st)).2.o - 1 }) := by
  simp [Js.listS, h]
theorem listS_on {σ : Type} {thing : σ → Js.St → σ × Js.St} {endc : Js.Bs} {a : σ} {st : Js.St} (h : (Js.tookS endc (Js.enterS st)).1 = false) (q : σ × Js.St) (hq : thing a (Js.tookS endc (Js.enterS st)).2 = q) (m : σ × Js.St) (hm : Js.moreS thing (q.2.s.length + 1) q.1 q.2 = m) :
    Js.listS thing endc a st = (m.1, { Js.needS endc m.2 with o := (Js.needS endc m.2).o - 1 }) := by
  subst hq hm
  simp [Js.listS, h]
/-- What a thing may do to a reader's state. -/
def Steps (st st' : Js.St) : Prop := st'.o = st.o ∧ (st.e ≠ 0 → st'.e ≠ 0) ∧ st'.s.length ≤ st.s.length
theorem Steps.refl (st : Js.St) : Steps st st := ⟨rfl, fun h => h, Nat.le_refl _⟩
theorem Steps.trans {a b c : Js.St} (h : Steps a b) (k : Steps b c) : Steps a c := ⟨k.1.trans h.1, fun e => k.2.1 (h.2.1 e), Nat.le_trans k.2.2 h.2.2⟩
theorem took_steps (t : Js.Bs) (st : Js.St) : Steps st (Js.tookS t st).2 := by
  have h := took_facts t st
  exact ⟨h.1, fun he => by rw [h.2.1]; exact he, h.2.2.1⟩
theorem skip_steps (st : Js.St) : Steps st (Js.skipS st) := ⟨rfl, fun h => h, skip_len st⟩
theorem fail_steps (st : Js.St) (e : Int) : Steps st (Js.failS st e) := ⟨fail_o st e, fun h => fail_e st e (.inl h), by rw [fail_s]; exact Nat.le_refl _⟩
theorem need_steps (t : Js.Bs) (st : Js.St) : Steps st (Js.needS t st) := need_facts t st
theorem moreS_steps {σ : Type} {thing : σ → Js.St → σ × Js.St} (h : ∀ a st, Steps st (thing a st).2) : ∀ (f : Nat) (a : σ) (st : Js.St), Steps st (Js.moreS thing f a st).2
  | 0, a, st => Steps.refl st
  | f + 1, a, st => by
    cases ht : (Js.tookS [44] st).1
    · rw [moreS_stop ht]; exact took_steps _ _
    · rw [moreS_on ht]
      exact (took_steps [44] st).trans ((h a _).trans (moreS_steps h f _ _))
theorem listS_steps {σ : Type} {thing : σ → Js.St → σ × Js.St} (h : ∀ a st, Steps st (thing a st).2) (endc : Js.Bs) (a : σ) (st : Js.St) : Steps st (Js.listS thing endc a st).2 := by
  have he := enter_facts st
  have key : ∀ st', Steps (Js.enterS st) st' → Steps st { st' with o := st'.o - 1 } := fun st' hs =>
    ⟨by show st'.o - 1 = st.o; rw [hs.1, he.1]; omega, fun h0 => hs.2.1 (he.2.1 (.inl h0)), Nat.le_trans hs.2.2 he.2.2⟩
  cases ht : (Js.tookS endc (Js.enterS st)).1
  · rw [listS_on ht _ rfl _ rfl]
    exact key _ ((took_steps endc _).trans ((h a _).trans ((moreS_steps h _ _ _).trans (need_steps endc _))))
  · rw [listS_end ht]
    exact key _ (took_steps endc _)

set_option maxRecDepth 100000 in
set_option maxHeartbeats 8000000 in
theorem list_174 {σ : Type} (Inv : σ → World → Prop) (thing : σ → Js.St → σ × Js.St) (c1 c2 : Value) (t : ByteArray) (B r d : Nat) (wb : World) (a : σ) (st : Js.St) (w : World)
    (hd : d ≤ 16) (ho : st.o = 16 - d) (hne : st.e = 0 → st.s ≠ []) (hB : B ≤ r) (hT : Tb B wb) (h : RSt w r st) (hI : Inv a w)
    (hgrow : ∀ a W, Inv a W → wb.grownBy W (some r)) (hstable : ∀ a W W', Inv a W → W.grownBy W' (some r) → Inv a W') (hpure : ∀ a st, Steps st (thing a st).2)
    (size : σ → Nat) (hsize : ∀ a st, size (thing a st).1 ≤ size a + 1) (hs0 : size a + st.s.length ≤ 5000)
    (hthing : ∀ a st W, Inv a W → RSt W r st → Tb B W → st.o = 17 - d → (d = 0 → st.e ≠ 0) → size a + st.s.length ≤ 5000 → Calls Tryz.prog 174 #[c1, c2] W (fun e W' => e = .returned (.tuple #[]) ∧ Inv (thing a st).1 W' ∧ RSt W' r (thing a st).2)) :
    Calls Tryz.prog 173 #[.pointer (some ⟨r, 0, none⟩), .string t, .func (.func 174) #[] #[c1, c2]] w (fun e w' => e = .returned (.tuple #[]) ∧ Inv (Js.listS thing t.data.toList a st).1 w' ∧ RSt w' r (Js.listS thing t.data.toList a st).2) := by
  have hen := json_enter r st w h hne (by omega) (by omega)
  have hef := enter_facts st
  obtain ⟨endc, hendc⟩ : ∃ l, t.data.toList = l := ⟨_, rfl⟩
  have hend := @listS_end σ thing endc a st
  have hon := @listS_on σ thing endc a st
  rw [hendc]
  obtain ⟨R, hR⟩ : ∃ R, Js.listS thing endc a st = R := ⟨_, rfl⟩
  rw [hR] at hend hon ⊢
  have h17 : (Js.enterS st).o = 17 - d := by rw [hef.1, ho]; omega
  have h0 : d = 0 → (Js.enterS st).e ≠ 0 := fun hd0 => hef.2.1 (.inr (by omega))
  have hlen1 : (Js.enterS st).s.length ≤ st.s.length := hef.2.2
  obtain ⟨st1, hst1⟩ : ∃ s, Js.enterS st = s := ⟨_, rfl⟩
  rw [hst1] at hen h17 h0 hend hon hlen1
  have htf := took_facts endc st1
  have htk := fun (W : World) (hk : RSt W r st1) => json_took r st1 t W hk
  rw [hendc] at htk
  obtain ⟨b, st2, hbs⟩ : ∃ b s, Js.tookS endc st1 = (b, s) := ⟨_, _, rfl⟩
  rw [hbs] at htf htk hend hon
  simp only at htf htk hend hon
  have HEN := Lib.hid hen
  have HI := Lib.hid hI
  have HGR := Lib.hid hgrow
  have HST := Lib.hid hstable
  have HTH := Lib.hid hthing
  have HTK := Lib.hid htk
  have HP := Lib.hid hpure
  have HTB := Lib.hid hT
  have ho2 : st2.o = 17 - d := by rw [htf.1]; exact h17
  have he2 : d = 0 → st2.e ≠ 0 := fun hd0 => by rw [htf.2.1]; exact h0 hd0
  have hz2 : size a + st2.s.length ≤ 5000 := by have := htf.2.2.1; have := hlen1; omega
  have HZ2 := Lib.hid hz2
  have HSZ := Lib.hid hsize
  have HO2 := Lib.hid ho2
  have HE2 := Lib.hid he2
  have HEND := Lib.hid hendc
  clear hen hI hgrow hstable hthing htk hpure hT h hne hef hst1 hbs hR h17 h0 htf he2 ho hendc hlen1 hsize hs0 hz2
  have a1 : IntKind.i64.wrap (st2.o - 1) = st2.o - 1 := IntWalk.i64_in _ (by omega)
  cases b
  · clear hend a1
    obtain ⟨q, hq⟩ : ∃ q, thing a st2 = q := ⟨_, rfl⟩
    obtain ⟨m, hm⟩ : ∃ m, Js.moreS thing (q.2.s.length + 1) q.1 q.2 = m := ⟨_, rfl⟩
    have hfin := hon rfl q hq m hm
    have hqs := HP.out a st2
    have hms := moreS_steps HP.out (q.2.s.length + 1) q.1 q.2
    rw [hq] at hqs
    rw [hm] at hms
    have hns := need_steps endc m.2
    have hno : (Js.needS endc m.2).o = 17 - d := by rw [hns.1, hms.1, hqs.1, ho2]
    have a1 : IntKind.i64.wrap ((Js.needS endc m.2).o - 1) = (Js.needS endc m.2).o - 1 := IntWalk.i64_in _ (by omega)
    have HFIN := Lib.hid hfin
    have HQ := Lib.hid hq
    have HM := Lib.hid hm
    have HQS := Lib.hid hqs
    have HNO := Lib.hid hno
    clear hon hfin hq hm hqs hms hns hno ho2
    go_enter Tryz.func173, Tryz.ntmps173
    go_wp2_with fail
    refine HEN.out.mono ?_
    rintro e w1 ⟨rfl, k1, g1⟩
    have hI1 := HST.out a _ _ HI.out g1
    have HI1 := Lib.hid hI1
    clear g1 hI1
    go_wp2_with fail
    refine (HTK.out w1 k1).mono ?_
    rintro e w2 ⟨rfl, k2, g2⟩
    have hI2 := HST.out a _ _ HI1.out g2
    have hth := HTH.out a st2 w2 hI2 k2 (HTB.out.gb (HGR.out a w2 hI2) (fun k e => by cases e; exact hB)) HO2.out HE2.out HZ2.out
    rw [HQ.out] at hth
    have HTH2 := Lib.hid hth
    clear k1 k2 g2 hI2 hth
    go_wp2_with fail
    refine HTH2.out.mono ?_
    rintro e w3 ⟨rfl, i3, k3⟩
    have HI3 := Lib.hid i3
    have HK3 := Lib.hid k3
    clear i3 k3
    go_wp2_with fail
    go_loopw [] (fun wr => ∃ (f : Nat) (x : σ) (s' : Js.St), Js.moreS thing f x s' = m ∧ s'.s.length + 1 ≤ f ∧ Inv x wr ∧ RSt wr r s' ∧ s'.o = 17 - d ∧ (d = 0 → s'.e ≠ 0) ∧ size x + s'.s.length ≤ 5001) (fun wr => cellLen (wr.cell? ⟨r, 0, none⟩))
    case atStart => exact ⟨_, q.1, q.2, HM.out, Nat.le_refl _, HI3.out, HK3.out, by rw [HQS.out.1, HO2.out], fun h => HQS.out.2.1 (HE2.out h), by have h1 := HSZ.out a st2; rw [HQ.out] at h1; have h2 := HQS.out.2.2; have h3 := HZ2.out; omega⟩
    case round =>
      obtain ⟨f, x, s', hrel, hf, hix, hks, hso, hse, hsz⟩ := hrel
      have htr := took_facts [44] s'
      have hts := took_steps [44] s'
      have hstop := @moreS_stop σ thing (f - 1) x s'
      have hgo := @moreS_on σ thing (f - 1) x s'
      rw [show f - 1 + 1 = f by omega, hrel] at hstop hgo
      have htk2 := json_took r s' ⟨#[44]⟩ wr hks
      rw [show (⟨#[44]⟩ : ByteArray).data.toList = [44] from rfl] at htk2
      obtain ⟨b2, s2, hb2⟩ : ∃ b s, Js.tookS [44] s' = (b, s) := ⟨_, _, rfl⟩
      rw [hb2] at htr hts hstop hgo htk2
      simp only at htr hts hstop hgo htk2
      have hcl : cellLen (wr.cell? ⟨r, 0, none⟩) = s'.s.length := by
        obtain ⟨s0, hs0, _, _, c0, _⟩ := hks.op
        rw [c0, ← hs0.out, sz_of]; rfl
      have HTK2 := Lib.hid htk2
      have HCL := Lib.hid hcl
      have HIX := Lib.hid hix
      have HTR := Lib.hid htr
      have HTS := Lib.hid hts
      have HSO := Lib.hid hso
      have HSE := Lib.hid hse
      have HSZX := Lib.hid hsz
      clear htk2 hcl hix hb2 hrel hks htr hts hso hse hsz
      cases b2
      · have HSTOP := Lib.hid (hstop rfl)
        clear hstop hgo
        go_wp2_with fail
        refine HTK2.out.mono ?_
        rintro e w4 ⟨rfl, k4, g4⟩
        have hI4 := HST.out x _ _ HIX.out g4
        have HI4 := Lib.hid hI4
        have HNEED := Lib.hid (json_need r s2 t w4 k4)
        rw [HEND.out] at HNEED
        rw [show s2 = m.2 by rw [HSTOP.out]] at HNEED
        clear k4 g4 hI4
        go_wp2_with fail
        refine HNEED.out.mono ?_
        rintro e w5 ⟨rfl, k5, g5⟩
        have hI5 := HST.out x _ _ HI4.out g5
        have HI5 := Lib.hid hI5
        have HK5 := Lib.hid k5
        obtain ⟨sb, HSB, HBB, hlb, c0, c1', c2', f0, f1, f2⟩ := k5.op
        clear k5 g5 hI5
        go_wp2
        go_end0
        rw [HFIN.out]
        refine ⟨rfl, ?_, ?_⟩
        · rw [HSTOP.out]
          exact HST.out x _ _ HI5.out (gb_set (gb_refl _ _) (.inr rfl) _)
        · exact RSt.of sb HSB.out (blk_eq (blk_set' HBB.out 1 _) rfl) hlb
      · have HGO := Lib.hid (hgo rfl)
        clear hstop hgo
        go_wp2_with fail
        refine HTK2.out.mono ?_
        rintro e w4 ⟨rfl, k4, g4⟩
        have hI4 := HST.out x _ _ HIX.out g4
        have hth := HTH.out x s2 w4 hI4 k4 (HTB.out.gb (HGR.out x w4 hI4) (fun k e => by cases e; exact hB)) (by rw [HTS.out.1]; exact HSO.out) (fun hd0 => HTS.out.2.1 (HSE.out hd0)) (by have h1 := (HTR.out.2.2.2 trivial).1; simp only [List.length_cons, List.length_nil] at h1; have h2 := HSZX.out; omega)
        have HTH3 := Lib.hid hth
        clear k4 g4 hI4 hth
        go_wp2_with fail
        refine HTH3.out.mono ?_
        rintro e w5 ⟨rfl, i5, k5⟩
        have HI5 := Lib.hid i5
        have HK5 := Lib.hid k5
        clear i5 k5
        go_wp2
        have hp2 := HP.out x s2
        have hlt := (HTR.out.2.2.2 trivial).1
        simp only [List.length_cons, List.length_nil] at hlt
        refine ⟨⟨f - 1, (thing x s2).1, (thing x s2).2, HGO.out.symm, by have := hp2.2.2; omega, HI5.out, HK5.out, by rw [hp2.1, HTS.out.1, HSO.out], fun h0 => hp2.2.1 (HTS.out.2.1 (HSE.out h0)), by have h1 := HSZ.out x s2; have h2 := HSZX.out; have h3 := hp2.2.2; omega⟩, ?_⟩
        rw [HCL.out]
        obtain ⟨s0, hs0, _, _, c0, _⟩ := HK5.out.op
        rw [c0]
        show s0.size < _
        rw [← sz_of, hs0.out]
        have := hp2.2.2
        omega
  · have HFIN := Lib.hid (hend rfl)
    clear hend hon ho2
    go_enter Tryz.func173, Tryz.ntmps173
    go_wp2_with fail
    refine HEN.out.mono ?_
    rintro e w1 ⟨rfl, k1, g1⟩
    have hI1 := HST.out a _ _ HI.out g1
    have HI1 := Lib.hid hI1
    clear g1 hI1
    go_wp2_with fail
    refine (HTK.out w1 k1).mono ?_
    rintro e w2 ⟨rfl, k2, g2⟩
    have hI2 := HST.out a _ _ HI1.out g2
    have HI2 := Lib.hid hI2
    obtain ⟨sb, HSB, HBB, hlb, c0, c1', c2', f0, f1, f2⟩ := k2.op
    clear k1 k2 g2 hI2
    go_wp2
    go_end0
    rw [HFIN.out]
    refine ⟨rfl, HST.out a _ _ HI2.out (gb_set (gb_refl _ _) (.inr rfl) _), ?_⟩
    exact RSt.of sb HSB.out (blk_eq (blk_set' HBB.out 1 _) rfl) hlb

set_option maxRecDepth 100000 in
set_option maxHeartbeats 8000000 in
theorem list_175 {σ : Type} (Inv : σ → World → Prop) (thing : σ → Js.St → σ × Js.St) (c1 c2 : Value) (t : ByteArray) (B r d : Nat) (wb : World) (a : σ) (st : Js.St) (w : World)
    (hd : d ≤ 16) (ho : st.o = 16 - d) (hne : st.e = 0 → st.s ≠ []) (hB : B ≤ r) (hT : Tb B wb) (h : RSt w r st) (hI : Inv a w)
    (hgrow : ∀ a W, Inv a W → wb.grownBy W (some r)) (hstable : ∀ a W W', Inv a W → W.grownBy W' (some r) → Inv a W') (hpure : ∀ a st, Steps st (thing a st).2)
    (size : σ → Nat) (hsize : ∀ a st, size (thing a st).1 ≤ size a + 1) (hs0 : size a + st.s.length ≤ 5000)
    (hthing : ∀ a st W, Inv a W → RSt W r st → Tb B W → st.o = 17 - d → (d = 0 → st.e ≠ 0) → size a + st.s.length ≤ 5000 → Calls Tryz.prog 175 #[c1, c2] W (fun e W' => e = .returned (.tuple #[]) ∧ Inv (thing a st).1 W' ∧ RSt W' r (thing a st).2)) :
    Calls Tryz.prog 173 #[.pointer (some ⟨r, 0, none⟩), .string t, .func (.func 175) #[] #[c1, c2]] w (fun e w' => e = .returned (.tuple #[]) ∧ Inv (Js.listS thing t.data.toList a st).1 w' ∧ RSt w' r (Js.listS thing t.data.toList a st).2) := by
  have hen := json_enter r st w h hne (by omega) (by omega)
  have hef := enter_facts st
  obtain ⟨endc, hendc⟩ : ∃ l, t.data.toList = l := ⟨_, rfl⟩
  have hend := @listS_end σ thing endc a st
  have hon := @listS_on σ thing endc a st
  rw [hendc]
  obtain ⟨R, hR⟩ : ∃ R, Js.listS thing endc a st = R := ⟨_, rfl⟩
  rw [hR] at hend hon ⊢
  have h17 : (Js.enterS st).o = 17 - d := by rw [hef.1, ho]; omega
  have h0 : d = 0 → (Js.enterS st).e ≠ 0 := fun hd0 => hef.2.1 (.inr (by omega))
  have hlen1 : (Js.enterS st).s.length ≤ st.s.length := hef.2.2
  obtain ⟨st1, hst1⟩ : ∃ s, Js.enterS st = s := ⟨_, rfl⟩
  rw [hst1] at hen h17 h0 hend hon hlen1
  have htf := took_facts endc st1
  have htk := fun (W : World) (hk : RSt W r st1) => json_took r st1 t W hk
  rw [hendc] at htk
  obtain ⟨b, st2, hbs⟩ : ∃ b s, Js.tookS endc st1 = (b, s) := ⟨_, _, rfl⟩
  rw [hbs] at htf htk hend hon
  simp only at htf htk hend hon
  have HEN := Lib.hid hen
  have HI := Lib.hid hI
  have HGR := Lib.hid hgrow
  have HST := Lib.hid hstable
  have HTH := Lib.hid hthing
  have HTK := Lib.hid htk
  have HP := Lib.hid hpure
  have HTB := Lib.hid hT
  have ho2 : st2.o = 17 - d := by rw [htf.1]; exact h17
  have he2 : d = 0 → st2.e ≠ 0 := fun hd0 => by rw [htf.2.1]; exact h0 hd0
  have hz2 : size a + st2.s.length ≤ 5000 := by have := htf.2.2.1; have := hlen1; omega
  have HZ2 := Lib.hid hz2
  have HSZ := Lib.hid hsize
  have HO2 := Lib.hid ho2
  have HE2 := Lib.hid he2
  have HEND := Lib.hid hendc
  clear hen hI hgrow hstable hthing htk hpure hT h hne hef hst1 hbs hR h17 h0 htf he2 ho hendc hlen1 hsize hs0 hz2
  have a1 : IntKind.i64.wrap (st2.o - 1) = st2.o - 1 := IntWalk.i64_in _ (by omega)
  cases b
  · clear hend a1
    obtain ⟨q, hq⟩ : ∃ q, thing a st2 = q := ⟨_, rfl⟩
    obtain ⟨m, hm⟩ : ∃ m, Js.moreS thing (q.2.s.length + 1) q.1 q.2 = m := ⟨_, rfl⟩
    have hfin := hon rfl q hq m hm
    have hqs := HP.out a st2
    have hms := moreS_steps HP.out (q.2.s.length + 1) q.1 q.2
    rw [hq] at hqs
    rw [hm] at hms
    have hns := need_steps endc m.2
    have hno : (Js.needS endc m.2).o = 17 - d := by rw [hns.1, hms.1, hqs.1, ho2]
    have a1 : IntKind.i64.wrap ((Js.needS endc m.2).o - 1) = (Js.needS endc m.2).o - 1 := IntWalk.i64_in _ (by omega)
    have HFIN := Lib.hid hfin
    have HQ := Lib.hid hq
    have HM := Lib.hid hm
    have HQS := Lib.hid hqs
    have HNO := Lib.hid hno
    clear hon hfin hq hm hqs hms hns hno ho2
    go_enter Tryz.func173, Tryz.ntmps173
    go_wp2_with fail
    refine HEN.out.mono ?_
    rintro e w1 ⟨rfl, k1, g1⟩
    have hI1 := HST.out a _ _ HI.out g1
    have HI1 := Lib.hid hI1
    clear g1 hI1
    go_wp2_with fail
    refine (HTK.out w1 k1).mono ?_
    rintro e w2 ⟨rfl, k2, g2⟩
    have hI2 := HST.out a _ _ HI1.out g2
    have hth := HTH.out a st2 w2 hI2 k2 (HTB.out.gb (HGR.out a w2 hI2) (fun k e => by cases e; exact hB)) HO2.out HE2.out HZ2.out
    rw [HQ.out] at hth
    have HTH2 := Lib.hid hth
    clear k1 k2 g2 hI2 hth
    go_wp2_with fail
    refine HTH2.out.mono ?_
    rintro e w3 ⟨rfl, i3, k3⟩
    have HI3 := Lib.hid i3
    have HK3 := Lib.hid k3
    clear i3 k3
    go_wp2_with fail
    go_loopw [] (fun wr => ∃ (f : Nat) (x : σ) (s' : Js.St), Js.moreS thing f x s' = m ∧ s'.s.length + 1 ≤ f ∧ Inv x wr ∧ RSt wr r s' ∧ s'.o = 17 - d ∧ (d = 0 → s'.e ≠ 0) ∧ size x + s'.s.length ≤ 5001) (fun wr => cellLen (wr.cell? ⟨r, 0, none⟩))
    case atStart => exact ⟨_, q.1, q.2, HM.out, Nat.le_refl _, HI3.out, HK3.out, by rw [HQS.out.1, HO2.out], fun h => HQS.out.2.1 (HE2.out h), by have h1 := HSZ.out a st2; rw [HQ.out] at h1; have h2 := HQS.out.2.2; have h3 := HZ2.out; omega⟩
    case round =>
      obtain ⟨f, x, s', hrel, hf, hix, hks, hso, hse, hsz⟩ := hrel
      have htr := took_facts [44] s'
      have hts := took_steps [44] s'
      have hstop := @moreS_stop σ thing (f - 1) x s'
      have hgo := @moreS_on σ thing (f - 1) x s'
      rw [show f - 1 + 1 = f by omega, hrel] at hstop hgo
      have htk2 := json_took r s' ⟨#[44]⟩ wr hks
      rw [show (⟨#[44]⟩ : ByteArray).data.toList = [44] from rfl] at htk2
      obtain ⟨b2, s2, hb2⟩ : ∃ b s, Js.tookS [44] s' = (b, s) := ⟨_, _, rfl⟩
      rw [hb2] at htr hts hstop hgo htk2
      simp only at htr hts hstop hgo htk2
      have hcl : cellLen (wr.cell? ⟨r, 0, none⟩) = s'.s.length := by
        obtain ⟨s0, hs0, _, _, c0, _⟩ := hks.op
        rw [c0, ← hs0.out, sz_of]; rfl
      have HTK2 := Lib.hid htk2
      have HCL := Lib.hid hcl
      have HIX := Lib.hid hix
      have HTR := Lib.hid htr
      have HTS := Lib.hid hts
      have HSO := Lib.hid hso
      have HSE := Lib.hid hse
      have HSZX := Lib.hid hsz
      clear htk2 hcl hix hb2 hrel hks htr hts hso hse hsz
      cases b2
      · have HSTOP := Lib.hid (hstop rfl)
        clear hstop hgo
        go_wp2_with fail
        refine HTK2.out.mono ?_
        rintro e w4 ⟨rfl, k4, g4⟩
        have hI4 := HST.out x _ _ HIX.out g4
        have HI4 := Lib.hid hI4
        have HNEED := Lib.hid (json_need r s2 t w4 k4)
        rw [HEND.out] at HNEED
        rw [show s2 = m.2 by rw [HSTOP.out]] at HNEED
        clear k4 g4 hI4
        go_wp2_with fail
        refine HNEED.out.mono ?_
        rintro e w5 ⟨rfl, k5, g5⟩
        have hI5 := HST.out x _ _ HI4.out g5
        have HI5 := Lib.hid hI5
        have HK5 := Lib.hid k5
        obtain ⟨sb, HSB, HBB, hlb, c0, c1', c2', f0, f1, f2⟩ := k5.op
        clear k5 g5 hI5
        go_wp2
        go_end0
        rw [HFIN.out]
        refine ⟨rfl, ?_, ?_⟩
        · rw [HSTOP.out]
          exact HST.out x _ _ HI5.out (gb_set (gb_refl _ _) (.inr rfl) _)
        · exact RSt.of sb HSB.out (blk_eq (blk_set' HBB.out 1 _) rfl) hlb
      · have HGO := Lib.hid (hgo rfl)
        clear hstop hgo
        go_wp2_with fail
        refine HTK2.out.mono ?_
        rintro e w4 ⟨rfl, k4, g4⟩
        have hI4 := HST.out x _ _ HIX.out g4
        have hth := HTH.out x s2 w4 hI4 k4 (HTB.out.gb (HGR.out x w4 hI4) (fun k e => by cases e; exact hB)) (by rw [HTS.out.1]; exact HSO.out) (fun hd0 => HTS.out.2.1 (HSE.out hd0)) (by have h1 := (HTR.out.2.2.2 trivial).1; simp only [List.length_cons, List.length_nil] at h1; have h2 := HSZX.out; omega)
        have HTH3 := Lib.hid hth
        clear k4 g4 hI4 hth
        go_wp2_with fail
        refine HTH3.out.mono ?_
        rintro e w5 ⟨rfl, i5, k5⟩
        have HI5 := Lib.hid i5
        have HK5 := Lib.hid k5
        clear i5 k5
        go_wp2
        have hp2 := HP.out x s2
        have hlt := (HTR.out.2.2.2 trivial).1
        simp only [List.length_cons, List.length_nil] at hlt
        refine ⟨⟨f - 1, (thing x s2).1, (thing x s2).2, HGO.out.symm, by have := hp2.2.2; omega, HI5.out, HK5.out, by rw [hp2.1, HTS.out.1, HSO.out], fun h0 => hp2.2.1 (HTS.out.2.1 (HSE.out h0)), by have h1 := HSZ.out x s2; have h2 := HSZX.out; have h3 := hp2.2.2; omega⟩, ?_⟩
        rw [HCL.out]
        obtain ⟨s0, hs0, _, _, c0, _⟩ := HK5.out.op
        rw [c0]
        show s0.size < _
        rw [← sz_of, hs0.out]
        have := hp2.2.2
        omega
  · have HFIN := Lib.hid (hend rfl)
    clear hend hon ho2
    go_enter Tryz.func173, Tryz.ntmps173
    go_wp2_with fail
    refine HEN.out.mono ?_
    rintro e w1 ⟨rfl, k1, g1⟩
    have hI1 := HST.out a _ _ HI.out g1
    have HI1 := Lib.hid hI1
    clear g1 hI1
    go_wp2_with fail
    refine (HTK.out w1 k1).mono ?_
    rintro e w2 ⟨rfl, k2, g2⟩
    have hI2 := HST.out a _ _ HI1.out g2
    have HI2 := Lib.hid hI2
    obtain ⟨sb, HSB, HBB, hlb, c0, c1', c2', f0, f1, f2⟩ := k2.op
    clear k1 k2 g2 hI2
    go_wp2
    go_end0
    rw [HFIN.out]
    refine ⟨rfl, HST.out a _ _ HI2.out (gb_set (gb_refl _ _) (.inr rfl) _), ?_⟩
    exact RSt.of sb HSB.out (blk_eq (blk_set' HBB.out 1 _) rfl) hlb
end Go.Proofs.YtocjlbpehfpdoaaGreatDoor
