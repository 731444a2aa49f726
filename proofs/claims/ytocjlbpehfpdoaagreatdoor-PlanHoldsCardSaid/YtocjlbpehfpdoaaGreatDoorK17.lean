/- package json's reader: value: its map; one theorem for each sign that a value begins with. (printed by mkv.py) -/
import Derived.Test.YtocjlbpehfpdoaaGreatDoorK16
set_option linter.unusedVariables false
set_option linter.unusedSimpArgs false
namespace Go.Proofs.YtocjlbpehfpdoaaGreatDoor
open Go.RowKit

def mth (r g : Nat) : Value := .func (.func g) #[.pointer (some ⟨r, 0, none⟩)] #[]
def esM (r : Nat) : Array MapEntry := #[⟨.int .u8 110, mth r 105, 0⟩, ⟨.int .u8 116, mth r 106, 1⟩, ⟨.int .u8 102, mth r 107, 2⟩, ⟨.int .u8 34, mth r 108, 3⟩, ⟨.int .u8 91, mth r 109, 4⟩, ⟨.int .u8 123, mth r 110, 5⟩, ⟨.int .u8 45, mth r 111, 6⟩]

set_option maxHeartbeats 4000000 in
/-- The map that value makes: made in w1. -/
theorem map_made (r : Nat) (w1 : World) :
    ((Instr.mapUpdate 176 (.map (some w1.heap.size)) (.int .u8 110) (mth r 105)).run Tryz.prog (w1.alloc (.map #[] 0)) = .ok () (setMap (w1.alloc (.map #[] 0)) w1.heap.size #[⟨.int .u8 110, mth r 105, 0⟩] 1)) ∧
    ((Instr.mapUpdate 176 (.map (some w1.heap.size)) (.int .u8 116) (mth r 106)).run Tryz.prog (setMap (w1.alloc (.map #[] 0)) w1.heap.size #[⟨.int .u8 110, mth r 105, 0⟩] 1) = .ok () (setMap (w1.alloc (.map #[] 0)) w1.heap.size #[⟨.int .u8 110, mth r 105, 0⟩, ⟨.int .u8 116, mth r 106, 1⟩] 2)) ∧
    ((Instr.mapUpdate 176 (.map (some w1.heap.size)) (.int .u8 102) (mth r 107)).run Tryz.prog (setMap (w1.alloc (.map #[] 0)) w1.heap.size #[⟨.int .u8 110, mth r 105, 0⟩, ⟨.int .u8 116, mth r 106, 1⟩] 2) = .ok () (setMap (w1.alloc (.map #[] 0)) w1.heap.size #[⟨.int .u8 110, mth r 105, 0⟩, ⟨.int .u8 116, mth r 106, 1⟩, ⟨.int .u8 102, mth r 107, 2⟩] 3)) ∧
    ((Instr.mapUpdate 176 (.map (some w1.heap.size)) (.int .u8 34) (mth r 108)).run Tryz.prog (setMap (w1.alloc (.map #[] 0)) w1.heap.size #[⟨.int .u8 110, mth r 105, 0⟩, ⟨.int .u8 116, mth r 106, 1⟩, ⟨.int .u8 102, mth r 107, 2⟩] 3) = .ok () (setMap (w1.alloc (.map #[] 0)) w1.heap.size #[⟨.int .u8 110, mth r 105, 0⟩, ⟨.int .u8 116, mth r 106, 1⟩, ⟨.int .u8 102, mth r 107, 2⟩, ⟨.int .u8 34, mth r 108, 3⟩] 4)) ∧
    ((Instr.mapUpdate 176 (.map (some w1.heap.size)) (.int .u8 91) (mth r 109)).run Tryz.prog (setMap (w1.alloc (.map #[] 0)) w1.heap.size #[⟨.int .u8 110, mth r 105, 0⟩, ⟨.int .u8 116, mth r 106, 1⟩, ⟨.int .u8 102, mth r 107, 2⟩, ⟨.int .u8 34, mth r 108, 3⟩] 4) = .ok () (setMap (w1.alloc (.map #[] 0)) w1.heap.size #[⟨.int .u8 110, mth r 105, 0⟩, ⟨.int .u8 116, mth r 106, 1⟩, ⟨.int .u8 102, mth r 107, 2⟩, ⟨.int .u8 34, mth r 108, 3⟩, ⟨.int .u8 91, mth r 109, 4⟩] 5)) ∧
    ((Instr.mapUpdate 176 (.map (some w1.heap.size)) (.int .u8 123) (mth r 110)).run Tryz.prog (setMap (w1.alloc (.map #[] 0)) w1.heap.size #[⟨.int .u8 110, mth r 105, 0⟩, ⟨.int .u8 116, mth r 106, 1⟩, ⟨.int .u8 102, mth r 107, 2⟩, ⟨.int .u8 34, mth r 108, 3⟩, ⟨.int .u8 91, mth r 109, 4⟩] 5) = .ok () (setMap (w1.alloc (.map #[] 0)) w1.heap.size #[⟨.int .u8 110, mth r 105, 0⟩, ⟨.int .u8 116, mth r 106, 1⟩, ⟨.int .u8 102, mth r 107, 2⟩, ⟨.int .u8 34, mth r 108, 3⟩, ⟨.int .u8 91, mth r 109, 4⟩, ⟨.int .u8 123, mth r 110, 5⟩] 6)) ∧
    ((Instr.mapUpdate 176 (.map (some w1.heap.size)) (.int .u8 45) (mth r 111)).run Tryz.prog (setMap (w1.alloc (.map #[] 0)) w1.heap.size #[⟨.int .u8 110, mth r 105, 0⟩, ⟨.int .u8 116, mth r 106, 1⟩, ⟨.int .u8 102, mth r 107, 2⟩, ⟨.int .u8 34, mth r 108, 3⟩, ⟨.int .u8 91, mth r 109, 4⟩, ⟨.int .u8 123, mth r 110, 5⟩] 6) = .ok () (setMap (w1.alloc (.map #[] 0)) w1.heap.size #[⟨.int .u8 110, mth r 105, 0⟩, ⟨.int .u8 116, mth r 106, 1⟩, ⟨.int .u8 102, mth r 107, 2⟩, ⟨.int .u8 34, mth r 108, 3⟩, ⟨.int .u8 91, mth r 109, 4⟩, ⟨.int .u8 123, mth r 110, 5⟩, ⟨.int .u8 45, mth r 111, 6⟩] 7)) := by
  refine ⟨run_ins _ _ #[] 0 _ _ (blk_new w1 _) (by kernel_rfl),
    (run_ins _ _ #[⟨.int .u8 110, mth r 105, 0⟩] 1 _ _ (setMap_at _ _ _ _ (by simp)) (by kernel_rfl)).trans (by rw [setMap_twice]; rfl),
    (run_ins _ _ #[⟨.int .u8 110, mth r 105, 0⟩, ⟨.int .u8 116, mth r 106, 1⟩] 2 _ _ (setMap_at _ _ _ _ (by simp)) (by kernel_rfl)).trans (by rw [setMap_twice]; rfl),
    (run_ins _ _ #[⟨.int .u8 110, mth r 105, 0⟩, ⟨.int .u8 116, mth r 106, 1⟩, ⟨.int .u8 102, mth r 107, 2⟩] 3 _ _ (setMap_at _ _ _ _ (by simp)) (by kernel_rfl)).trans (by rw [setMap_twice]; rfl),
    (run_ins _ _ #[⟨.int .u8 110, mth r 105, 0⟩, ⟨.int .u8 116, mth r 106, 1⟩, ⟨.int .u8 102, mth r 107, 2⟩, ⟨.int .u8 34, mth r 108, 3⟩] 4 _ _ (setMap_at _ _ _ _ (by simp)) (by kernel_rfl)).trans (by rw [setMap_twice]; rfl),
    (run_ins _ _ #[⟨.int .u8 110, mth r 105, 0⟩, ⟨.int .u8 116, mth r 106, 1⟩, ⟨.int .u8 102, mth r 107, 2⟩, ⟨.int .u8 34, mth r 108, 3⟩, ⟨.int .u8 91, mth r 109, 4⟩] 5 _ _ (setMap_at _ _ _ _ (by simp)) (by kernel_rfl)).trans (by rw [setMap_twice]; rfl),
    (run_ins _ _ #[⟨.int .u8 110, mth r 105, 0⟩, ⟨.int .u8 116, mth r 106, 1⟩, ⟨.int .u8 102, mth r 107, 2⟩, ⟨.int .u8 34, mth r 108, 3⟩, ⟨.int .u8 91, mth r 109, 4⟩, ⟨.int .u8 123, mth r 110, 5⟩] 6 _ _ (setMap_at _ _ _ _ (by simp)) (by kernel_rfl)).trans (by rw [setMap_twice]; rfl)⟩

set_option maxRecDepth 100000 in
set_option maxHeartbeats 8000000 in
theorem value_105 (B r : Nat) (st st1 st' : Js.St) (v : Js.V) (rest : Js.Bs) (w : World) (h : RSt w r st) (hT : Tb B w) (hB : B ≤ r) (hst1 : Js.skipS st = st1) (hs : st1.s = 110 :: rest) (he : st1.e = 0)
    (hcall : ∀ W, RSt W r st1 → Tb B W → Calls Tryz.prog 105 #[.pointer (some ⟨r, 0, none⟩)] W (VDid W r v st')) :
    Calls Tryz.prog 43 #[.pointer (some ⟨r, 0, none⟩)] w (VDid w r v st') := by
  have hmf : ∀ (fn : Fn) (first cap : Array Value) (w : World), (Instr.makeFunc fn first cap).run Tryz.prog w = .ok (.func fn first cap) w := fun _ _ _ _ => rfl
  have hmm := @run_makeMap Tryz.prog
  have hr := h.lt
  have hsk := json_skip r st _ (h.al (.cells #[.int .i64 0, .bool false, .bool false, .string ⟨#[]⟩, .int .i64 0, .string ⟨#[]⟩, .slice none 0 0, .slice none 0 0] 29 (0, 0)))
  rw [hst1] at hsk
  have HSK := Lib.hid hsk
  have HT0 := Lib.hid hT
  have HC := Lib.hid hcall
  clear h hsk hst1 hT hcall
  go_enter Tryz.func43, Tryz.ntmps43
  go_wp2_with fail
  refine HSK.out.mono ?_
  rintro e w1 ⟨rfl, h1, g1⟩
  have hb := gb_blk g1 (blk_new w _) (by simp; omega)
  have HB0 := Lib.hid hb
  have HK1 := Lib.hid h1
  have HG1 := Lib.hid (gb_trans (World.grownBy_alloc w _ (some r)) g1)
  have hs1 : w.heap.size < w1.heap.size := blk_lt' hb
  clear h1 g1 hb
  go_upto_region 2 with fail
  go_cut [3] from 8 (fun s3 wx => s3 = .map (some w1.heap.size) ∧ w1.grownBy wx none ∧ wx.heap[w1.heap.size]? = some (.map (esM r) 7))
  case first =>
    obtain ⟨m1, m2, m3, m4, m5, m6, m7⟩ := map_made r w1
    simp only [mth] at m1 m2 m3 m4 m5 m6 m7
    go_wp2_with fail
    go_meet
    exact ⟨rfl, setMap_gb w1 _ _ _ _ none (World.grownBy_alloc w1 _ none) (Nat.le_refl _), setMap_at _ _ _ _ (by simp)⟩
  case rest =>
    obtain ⟨rfl, gm, hm⟩ := hcut
    have hk2 := HK1.out.gb gm (by simp)
    have hT2 := ((HT0.out.gb HG1.out (fun k e => by cases e; exact hB))).gbn gm
    have hb2 := gb_blk gm HB0.out (by simp)
    have hsc : w1.heap.size < wc.heap.size := blk_lt' hm
    have HGM := Lib.hid (gb_trans HG1.out (gb_any gm))
    have HB2 := Lib.hid hb2
    have lk := run_look wc w1.heap.size (esM r) 7 110 0 (mth r 105) hm (by kernel_rfl)
    simp only [mth] at lk
    have hcl := HC.out wc hk2 hT2
    have HCL := Lib.hid hcl
    obtain ⟨s, HS, HB, hl, c0, c1, c2, f0, f1, f2⟩ := hk2.op
    rw [he] at c2
    have hsl : s.data.toList = 110 :: rest := by rw [HS.out, hs]
    have hsz : s.size = rest.length + 1 := by rw [← sz_of, hsl]; rfl
    have hne : s.toList.isEmpty = false := by rw [ByteArray.toList_eq, hsl]; rfl
    have hszi : 1 ≤ s.size := by omega
    have ix : ∀ W, (Instr.index 9 (.string s) (.int .i64 0)).run Tryz.prog W = .ok (.int .u8 110) W := fun W => run_idx s 0 (by omega) 110 (by
      have : s.data.toList[0]'(by rw [hsl]; simp) = 110 := by simp [hsl]
      rw [show s[0]'(by omega) = 110 from by simpa [ByteArray.getElem_eq_getElem_data] using this]; rfl) W
    clear hsl hsz gm hm hk2 hT2 hb2 hcl hs he
    go_wp2_with fail
    refine HCL.out.mono ?_
    rintro e w4 ⟨si, sn, rfl, hv, hk4, g4⟩
    have hb4 := gb_blk g4 HB2.out (by simp; omega)
    obtain ⟨⟨d0, d1, d2, d3, d4, d5, d6, d7⟩, q0, q1, q2, q3, q4, q5, q6, q7⟩ := blk8 hb4
    have HV := Lib.hid hv
    have HK4 := Lib.hid hk4
    have HG4 := Lib.hid g4
    clear hv hk4 g4 hb4 c0 c1 c2 f0 f1 f2
    simp only [vcs]
    obtain ⟨sA, sn1, sc1, tA, tn1, tc1, rfl, rfl⟩ := RdV.two HV.out
    go_wp2
    refine bodyPost_ret (v := .agg #[.int .i64 v.kind, .bool v.is, .bool v.num.down, .string (ba v.num.dig), .int .i64 v.num.exp, .string (ba v.text), .slice sA sn1 sc1, .slice tA tn1 tc1]) (by simp [results, Tryz.results43, go_sem, d0, d1, d2, d3, d4, d5, d6, d7]) rfl ?_
    have gf : ∀ x0 x1 x2 x3 x4 x5 x6 x7 : Value, w4.grownBy ((((((((w4.setCell ⟨w.heap.size, 0, none⟩ x0).setCell ⟨w.heap.size, 1, none⟩ x1).setCell ⟨w.heap.size, 2, none⟩ x2).setCell ⟨w.heap.size, 3, none⟩ x3).setCell ⟨w.heap.size, 4, none⟩ x4).setCell ⟨w.heap.size, 5, none⟩ x5).setCell ⟨w.heap.size, 6, none⟩ x6).setCell ⟨w.heap.size, 7, none⟩ x7) (some w.heap.size) := by
      intro x0 x1 x2 x3 x4 x5 x6 x7
      iterate 8 refine gb_set ?_ (.inr rfl) _
      exact gb_refl _ _
    refine VDid.done (b0 := w.heap.size) (w0 := w) (w1 := w4) rfl HK4.out (gb_refl w none) (gb_trans HGM.out HG4.out) (gf _ _ _ _ _ _ _ _) (Nat.le_refl _) hr ?_
    exact (HV.out.gb (gf _ _ _ _ _ _ _ _) (fun k hk e => by cases e; omega)).mono (fun k hk _ => by show w.heap.size ≤ k; have : wc.heap.size ≤ k := hk; omega)

set_option maxRecDepth 100000 in
set_option maxHeartbeats 8000000 in
theorem value_106 (B r : Nat) (st st1 st' : Js.St) (v : Js.V) (rest : Js.Bs) (w : World) (h : RSt w r st) (hT : Tb B w) (hB : B ≤ r) (hst1 : Js.skipS st = st1) (hs : st1.s = 116 :: rest) (he : st1.e = 0)
    (hcall : ∀ W, RSt W r st1 → Tb B W → Calls Tryz.prog 106 #[.pointer (some ⟨r, 0, none⟩)] W (VDid W r v st')) :
    Calls Tryz.prog 43 #[.pointer (some ⟨r, 0, none⟩)] w (VDid w r v st') := by
  have hmf : ∀ (fn : Fn) (first cap : Array Value) (w : World), (Instr.makeFunc fn first cap).run Tryz.prog w = .ok (.func fn first cap) w := fun _ _ _ _ => rfl
  have hmm := @run_makeMap Tryz.prog
  have hr := h.lt
  have hsk := json_skip r st _ (h.al (.cells #[.int .i64 0, .bool false, .bool false, .string ⟨#[]⟩, .int .i64 0, .string ⟨#[]⟩, .slice none 0 0, .slice none 0 0] 29 (0, 0)))
  rw [hst1] at hsk
  have HSK := Lib.hid hsk
  have HT0 := Lib.hid hT
  have HC := Lib.hid hcall
  clear h hsk hst1 hT hcall
  go_enter Tryz.func43, Tryz.ntmps43
  go_wp2_with fail
  refine HSK.out.mono ?_
  rintro e w1 ⟨rfl, h1, g1⟩
  have hb := gb_blk g1 (blk_new w _) (by simp; omega)
  have HB0 := Lib.hid hb
  have HK1 := Lib.hid h1
  have HG1 := Lib.hid (gb_trans (World.grownBy_alloc w _ (some r)) g1)
  have hs1 : w.heap.size < w1.heap.size := blk_lt' hb
  clear h1 g1 hb
  go_upto_region 2 with fail
  go_cut [3] from 8 (fun s3 wx => s3 = .map (some w1.heap.size) ∧ w1.grownBy wx none ∧ wx.heap[w1.heap.size]? = some (.map (esM r) 7))
  case first =>
    obtain ⟨m1, m2, m3, m4, m5, m6, m7⟩ := map_made r w1
    simp only [mth] at m1 m2 m3 m4 m5 m6 m7
    go_wp2_with fail
    go_meet
    exact ⟨rfl, setMap_gb w1 _ _ _ _ none (World.grownBy_alloc w1 _ none) (Nat.le_refl _), setMap_at _ _ _ _ (by simp)⟩
  case rest =>
    obtain ⟨rfl, gm, hm⟩ := hcut
    have hk2 := HK1.out.gb gm (by simp)
    have hT2 := ((HT0.out.gb HG1.out (fun k e => by cases e; exact hB))).gbn gm
    have hb2 := gb_blk gm HB0.out (by simp)
    have hsc : w1.heap.size < wc.heap.size := blk_lt' hm
    have HGM := Lib.hid (gb_trans HG1.out (gb_any gm))
    have HB2 := Lib.hid hb2
    have lk := run_look wc w1.heap.size (esM r) 7 116 1 (mth r 106) hm (by kernel_rfl)
    simp only [mth] at lk
    have hcl := HC.out wc hk2 hT2
    have HCL := Lib.hid hcl
    obtain ⟨s, HS, HB, hl, c0, c1, c2, f0, f1, f2⟩ := hk2.op
    rw [he] at c2
    have hsl : s.data.toList = 116 :: rest := by rw [HS.out, hs]
    have hsz : s.size = rest.length + 1 := by rw [← sz_of, hsl]; rfl
    have hne : s.toList.isEmpty = false := by rw [ByteArray.toList_eq, hsl]; rfl
    have hszi : 1 ≤ s.size := by omega
    have ix : ∀ W, (Instr.index 9 (.string s) (.int .i64 0)).run Tryz.prog W = .ok (.int .u8 116) W := fun W => run_idx s 0 (by omega) 116 (by
      have : s.data.toList[0]'(by rw [hsl]; simp) = 116 := by simp [hsl]
      rw [show s[0]'(by omega) = 116 from by simpa [ByteArray.getElem_eq_getElem_data] using this]; rfl) W
    clear hsl hsz gm hm hk2 hT2 hb2 hcl hs he
    go_wp2_with fail
    refine HCL.out.mono ?_
    rintro e w4 ⟨si, sn, rfl, hv, hk4, g4⟩
    have hb4 := gb_blk g4 HB2.out (by simp; omega)
    obtain ⟨⟨d0, d1, d2, d3, d4, d5, d6, d7⟩, q0, q1, q2, q3, q4, q5, q6, q7⟩ := blk8 hb4
    have HV := Lib.hid hv
    have HK4 := Lib.hid hk4
    have HG4 := Lib.hid g4
    clear hv hk4 g4 hb4 c0 c1 c2 f0 f1 f2
    simp only [vcs]
    obtain ⟨sA, sn1, sc1, tA, tn1, tc1, rfl, rfl⟩ := RdV.two HV.out
    go_wp2
    refine bodyPost_ret (v := .agg #[.int .i64 v.kind, .bool v.is, .bool v.num.down, .string (ba v.num.dig), .int .i64 v.num.exp, .string (ba v.text), .slice sA sn1 sc1, .slice tA tn1 tc1]) (by simp [results, Tryz.results43, go_sem, d0, d1, d2, d3, d4, d5, d6, d7]) rfl ?_
    have gf : ∀ x0 x1 x2 x3 x4 x5 x6 x7 : Value, w4.grownBy ((((((((w4.setCell ⟨w.heap.size, 0, none⟩ x0).setCell ⟨w.heap.size, 1, none⟩ x1).setCell ⟨w.heap.size, 2, none⟩ x2).setCell ⟨w.heap.size, 3, none⟩ x3).setCell ⟨w.heap.size, 4, none⟩ x4).setCell ⟨w.heap.size, 5, none⟩ x5).setCell ⟨w.heap.size, 6, none⟩ x6).setCell ⟨w.heap.size, 7, none⟩ x7) (some w.heap.size) := by
      intro x0 x1 x2 x3 x4 x5 x6 x7
      iterate 8 refine gb_set ?_ (.inr rfl) _
      exact gb_refl _ _
    refine VDid.done (b0 := w.heap.size) (w0 := w) (w1 := w4) rfl HK4.out (gb_refl w none) (gb_trans HGM.out HG4.out) (gf _ _ _ _ _ _ _ _) (Nat.le_refl _) hr ?_
    exact (HV.out.gb (gf _ _ _ _ _ _ _ _) (fun k hk e => by cases e; omega)).mono (fun k hk _ => by show w.heap.size ≤ k; have : wc.heap.size ≤ k := hk; omega)

set_option maxRecDepth 100000 in
set_option maxHeartbeats 8000000 in
theorem value_107 (B r : Nat) (st st1 st' : Js.St) (v : Js.V) (rest : Js.Bs) (w : World) (h : RSt w r st) (hT : Tb B w) (hB : B ≤ r) (hst1 : Js.skipS st = st1) (hs : st1.s = 102 :: rest) (he : st1.e = 0)
    (hcall : ∀ W, RSt W r st1 → Tb B W → Calls Tryz.prog 107 #[.pointer (some ⟨r, 0, none⟩)] W (VDid W r v st')) :
    Calls Tryz.prog 43 #[.pointer (some ⟨r, 0, none⟩)] w (VDid w r v st') := by
  have hmf : ∀ (fn : Fn) (first cap : Array Value) (w : World), (Instr.makeFunc fn first cap).run Tryz.prog w = .ok (.func fn first cap) w := fun _ _ _ _ => rfl
  have hmm := @run_makeMap Tryz.prog
  have hr := h.lt
  have hsk := json_skip r st _ (h.al (.cells #[.int .i64 0, .bool false, .bool false, .string ⟨#[]⟩, .int .i64 0, .string ⟨#[]⟩, .slice none 0 0, .slice none 0 0] 29 (0, 0)))
  rw [hst1] at hsk
  have HSK := Lib.hid hsk
  have HT0 := Lib.hid hT
  have HC := Lib.hid hcall
  clear h hsk hst1 hT hcall
  go_enter Tryz.func43, Tryz.ntmps43
  go_wp2_with fail
  refine HSK.out.mono ?_
  rintro e w1 ⟨rfl, h1, g1⟩
  have hb := gb_blk g1 (blk_new w _) (by simp; omega)
  have HB0 := Lib.hid hb
  have HK1 := Lib.hid h1
  have HG1 := Lib.hid (gb_trans (World.grownBy_alloc w _ (some r)) g1)
  have hs1 : w.heap.size < w1.heap.size := blk_lt' hb
  clear h1 g1 hb
  go_upto_region 2 with fail
  go_cut [3] from 8 (fun s3 wx => s3 = .map (some w1.heap.size) ∧ w1.grownBy wx none ∧ wx.heap[w1.heap.size]? = some (.map (esM r) 7))
  case first =>
    obtain ⟨m1, m2, m3, m4, m5, m6, m7⟩ := map_made r w1
    simp only [mth] at m1 m2 m3 m4 m5 m6 m7
    go_wp2_with fail
    go_meet
    exact ⟨rfl, setMap_gb w1 _ _ _ _ none (World.grownBy_alloc w1 _ none) (Nat.le_refl _), setMap_at _ _ _ _ (by simp)⟩
  case rest =>
    obtain ⟨rfl, gm, hm⟩ := hcut
    have hk2 := HK1.out.gb gm (by simp)
    have hT2 := ((HT0.out.gb HG1.out (fun k e => by cases e; exact hB))).gbn gm
    have hb2 := gb_blk gm HB0.out (by simp)
    have hsc : w1.heap.size < wc.heap.size := blk_lt' hm
    have HGM := Lib.hid (gb_trans HG1.out (gb_any gm))
    have HB2 := Lib.hid hb2
    have lk := run_look wc w1.heap.size (esM r) 7 102 2 (mth r 107) hm (by kernel_rfl)
    simp only [mth] at lk
    have hcl := HC.out wc hk2 hT2
    have HCL := Lib.hid hcl
    obtain ⟨s, HS, HB, hl, c0, c1, c2, f0, f1, f2⟩ := hk2.op
    rw [he] at c2
    have hsl : s.data.toList = 102 :: rest := by rw [HS.out, hs]
    have hsz : s.size = rest.length + 1 := by rw [← sz_of, hsl]; rfl
    have hne : s.toList.isEmpty = false := by rw [ByteArray.toList_eq, hsl]; rfl
    have hszi : 1 ≤ s.size := by omega
    have ix : ∀ W, (Instr.index 9 (.string s) (.int .i64 0)).run Tryz.prog W = .ok (.int .u8 102) W := fun W => run_idx s 0 (by omega) 102 (by
      have : s.data.toList[0]'(by rw [hsl]; simp) = 102 := by simp [hsl]
      rw [show s[0]'(by omega) = 102 from by simpa [ByteArray.getElem_eq_getElem_data] using this]; rfl) W
    clear hsl hsz gm hm hk2 hT2 hb2 hcl hs he
    go_wp2_with fail
    refine HCL.out.mono ?_
    rintro e w4 ⟨si, sn, rfl, hv, hk4, g4⟩
    have hb4 := gb_blk g4 HB2.out (by simp; omega)
    obtain ⟨⟨d0, d1, d2, d3, d4, d5, d6, d7⟩, q0, q1, q2, q3, q4, q5, q6, q7⟩ := blk8 hb4
    have HV := Lib.hid hv
    have HK4 := Lib.hid hk4
    have HG4 := Lib.hid g4
    clear hv hk4 g4 hb4 c0 c1 c2 f0 f1 f2
    simp only [vcs]
    obtain ⟨sA, sn1, sc1, tA, tn1, tc1, rfl, rfl⟩ := RdV.two HV.out
    go_wp2
    refine bodyPost_ret (v := .agg #[.int .i64 v.kind, .bool v.is, .bool v.num.down, .string (ba v.num.dig), .int .i64 v.num.exp, .string (ba v.text), .slice sA sn1 sc1, .slice tA tn1 tc1]) (by simp [results, Tryz.results43, go_sem, d0, d1, d2, d3, d4, d5, d6, d7]) rfl ?_
    have gf : ∀ x0 x1 x2 x3 x4 x5 x6 x7 : Value, w4.grownBy ((((((((w4.setCell ⟨w.heap.size, 0, none⟩ x0).setCell ⟨w.heap.size, 1, none⟩ x1).setCell ⟨w.heap.size, 2, none⟩ x2).setCell ⟨w.heap.size, 3, none⟩ x3).setCell ⟨w.heap.size, 4, none⟩ x4).setCell ⟨w.heap.size, 5, none⟩ x5).setCell ⟨w.heap.size, 6, none⟩ x6).setCell ⟨w.heap.size, 7, none⟩ x7) (some w.heap.size) := by
      intro x0 x1 x2 x3 x4 x5 x6 x7
      iterate 8 refine gb_set ?_ (.inr rfl) _
      exact gb_refl _ _
    refine VDid.done (b0 := w.heap.size) (w0 := w) (w1 := w4) rfl HK4.out (gb_refl w none) (gb_trans HGM.out HG4.out) (gf _ _ _ _ _ _ _ _) (Nat.le_refl _) hr ?_
    exact (HV.out.gb (gf _ _ _ _ _ _ _ _) (fun k hk e => by cases e; omega)).mono (fun k hk _ => by show w.heap.size ≤ k; have : wc.heap.size ≤ k := hk; omega)

set_option maxRecDepth 100000 in
set_option maxHeartbeats 8000000 in
theorem value_108 (B r : Nat) (st st1 st' : Js.St) (v : Js.V) (rest : Js.Bs) (w : World) (h : RSt w r st) (hT : Tb B w) (hB : B ≤ r) (hst1 : Js.skipS st = st1) (hs : st1.s = 34 :: rest) (he : st1.e = 0)
    (hcall : ∀ W, RSt W r st1 → Tb B W → Calls Tryz.prog 108 #[.pointer (some ⟨r, 0, none⟩)] W (VDid W r v st')) :
    Calls Tryz.prog 43 #[.pointer (some ⟨r, 0, none⟩)] w (VDid w r v st') := by
  have hmf : ∀ (fn : Fn) (first cap : Array Value) (w : World), (Instr.makeFunc fn first cap).run Tryz.prog w = .ok (.func fn first cap) w := fun _ _ _ _ => rfl
  have hmm := @run_makeMap Tryz.prog
  have hr := h.lt
  have hsk := json_skip r st _ (h.al (.cells #[.int .i64 0, .bool false, .bool false, .string ⟨#[]⟩, .int .i64 0, .string ⟨#[]⟩, .slice none 0 0, .slice none 0 0] 29 (0, 0)))
  rw [hst1] at hsk
  have HSK := Lib.hid hsk
  have HT0 := Lib.hid hT
  have HC := Lib.hid hcall
  clear h hsk hst1 hT hcall
  go_enter Tryz.func43, Tryz.ntmps43
  go_wp2_with fail
  refine HSK.out.mono ?_
  rintro e w1 ⟨rfl, h1, g1⟩
  have hb := gb_blk g1 (blk_new w _) (by simp; omega)
  have HB0 := Lib.hid hb
  have HK1 := Lib.hid h1
  have HG1 := Lib.hid (gb_trans (World.grownBy_alloc w _ (some r)) g1)
  have hs1 : w.heap.size < w1.heap.size := blk_lt' hb
  clear h1 g1 hb
  go_upto_region 2 with fail
  go_cut [3] from 8 (fun s3 wx => s3 = .map (some w1.heap.size) ∧ w1.grownBy wx none ∧ wx.heap[w1.heap.size]? = some (.map (esM r) 7))
  case first =>
    obtain ⟨m1, m2, m3, m4, m5, m6, m7⟩ := map_made r w1
    simp only [mth] at m1 m2 m3 m4 m5 m6 m7
    go_wp2_with fail
    go_meet
    exact ⟨rfl, setMap_gb w1 _ _ _ _ none (World.grownBy_alloc w1 _ none) (Nat.le_refl _), setMap_at _ _ _ _ (by simp)⟩
  case rest =>
    obtain ⟨rfl, gm, hm⟩ := hcut
    have hk2 := HK1.out.gb gm (by simp)
    have hT2 := ((HT0.out.gb HG1.out (fun k e => by cases e; exact hB))).gbn gm
    have hb2 := gb_blk gm HB0.out (by simp)
    have hsc : w1.heap.size < wc.heap.size := blk_lt' hm
    have HGM := Lib.hid (gb_trans HG1.out (gb_any gm))
    have HB2 := Lib.hid hb2
    have lk := run_look wc w1.heap.size (esM r) 7 34 3 (mth r 108) hm (by kernel_rfl)
    simp only [mth] at lk
    have hcl := HC.out wc hk2 hT2
    have HCL := Lib.hid hcl
    obtain ⟨s, HS, HB, hl, c0, c1, c2, f0, f1, f2⟩ := hk2.op
    rw [he] at c2
    have hsl : s.data.toList = 34 :: rest := by rw [HS.out, hs]
    have hsz : s.size = rest.length + 1 := by rw [← sz_of, hsl]; rfl
    have hne : s.toList.isEmpty = false := by rw [ByteArray.toList_eq, hsl]; rfl
    have hszi : 1 ≤ s.size := by omega
    have ix : ∀ W, (Instr.index 9 (.string s) (.int .i64 0)).run Tryz.prog W = .ok (.int .u8 34) W := fun W => run_idx s 0 (by omega) 34 (by
      have : s.data.toList[0]'(by rw [hsl]; simp) = 34 := by simp [hsl]
      rw [show s[0]'(by omega) = 34 from by simpa [ByteArray.getElem_eq_getElem_data] using this]; rfl) W
    clear hsl hsz gm hm hk2 hT2 hb2 hcl hs he
    go_wp2_with fail
    refine HCL.out.mono ?_
    rintro e w4 ⟨si, sn, rfl, hv, hk4, g4⟩
    have hb4 := gb_blk g4 HB2.out (by simp; omega)
    obtain ⟨⟨d0, d1, d2, d3, d4, d5, d6, d7⟩, q0, q1, q2, q3, q4, q5, q6, q7⟩ := blk8 hb4
    have HV := Lib.hid hv
    have HK4 := Lib.hid hk4
    have HG4 := Lib.hid g4
    clear hv hk4 g4 hb4 c0 c1 c2 f0 f1 f2
    simp only [vcs]
    obtain ⟨sA, sn1, sc1, tA, tn1, tc1, rfl, rfl⟩ := RdV.two HV.out
    go_wp2
    refine bodyPost_ret (v := .agg #[.int .i64 v.kind, .bool v.is, .bool v.num.down, .string (ba v.num.dig), .int .i64 v.num.exp, .string (ba v.text), .slice sA sn1 sc1, .slice tA tn1 tc1]) (by simp [results, Tryz.results43, go_sem, d0, d1, d2, d3, d4, d5, d6, d7]) rfl ?_
    have gf : ∀ x0 x1 x2 x3 x4 x5 x6 x7 : Value, w4.grownBy ((((((((w4.setCell ⟨w.heap.size, 0, none⟩ x0).setCell ⟨w.heap.size, 1, none⟩ x1).setCell ⟨w.heap.size, 2, none⟩ x2).setCell ⟨w.heap.size, 3, none⟩ x3).setCell ⟨w.heap.size, 4, none⟩ x4).setCell ⟨w.heap.size, 5, none⟩ x5).setCell ⟨w.heap.size, 6, none⟩ x6).setCell ⟨w.heap.size, 7, none⟩ x7) (some w.heap.size) := by
      intro x0 x1 x2 x3 x4 x5 x6 x7
      iterate 8 refine gb_set ?_ (.inr rfl) _
      exact gb_refl _ _
    refine VDid.done (b0 := w.heap.size) (w0 := w) (w1 := w4) rfl HK4.out (gb_refl w none) (gb_trans HGM.out HG4.out) (gf _ _ _ _ _ _ _ _) (Nat.le_refl _) hr ?_
    exact (HV.out.gb (gf _ _ _ _ _ _ _ _) (fun k hk e => by cases e; omega)).mono (fun k hk _ => by show w.heap.size ≤ k; have : wc.heap.size ≤ k := hk; omega)

set_option maxRecDepth 100000 in
set_option maxHeartbeats 8000000 in
theorem value_109 (B r : Nat) (st st1 st' : Js.St) (v : Js.V) (rest : Js.Bs) (w : World) (h : RSt w r st) (hT : Tb B w) (hB : B ≤ r) (hst1 : Js.skipS st = st1) (hs : st1.s = 91 :: rest) (he : st1.e = 0)
    (hcall : ∀ W, RSt W r st1 → Tb B W → Calls Tryz.prog 109 #[.pointer (some ⟨r, 0, none⟩)] W (VDid W r v st')) :
    Calls Tryz.prog 43 #[.pointer (some ⟨r, 0, none⟩)] w (VDid w r v st') := by
  have hmf : ∀ (fn : Fn) (first cap : Array Value) (w : World), (Instr.makeFunc fn first cap).run Tryz.prog w = .ok (.func fn first cap) w := fun _ _ _ _ => rfl
  have hmm := @run_makeMap Tryz.prog
  have hr := h.lt
  have hsk := json_skip r st _ (h.al (.cells #[.int .i64 0, .bool false, .bool false, .string ⟨#[]⟩, .int .i64 0, .string ⟨#[]⟩, .slice none 0 0, .slice none 0 0] 29 (0, 0)))
  rw [hst1] at hsk
  have HSK := Lib.hid hsk
  have HT0 := Lib.hid hT
  have HC := Lib.hid hcall
  clear h hsk hst1 hT hcall
  go_enter Tryz.func43, Tryz.ntmps43
  go_wp2_with fail
  refine HSK.out.mono ?_
  rintro e w1 ⟨rfl, h1, g1⟩
  have hb := gb_blk g1 (blk_new w _) (by simp; omega)
  have HB0 := Lib.hid hb
  have HK1 := Lib.hid h1
  have HG1 := Lib.hid (gb_trans (World.grownBy_alloc w _ (some r)) g1)
  have hs1 : w.heap.size < w1.heap.size := blk_lt' hb
  clear h1 g1 hb
  go_upto_region 2 with fail
  go_cut [3] from 8 (fun s3 wx => s3 = .map (some w1.heap.size) ∧ w1.grownBy wx none ∧ wx.heap[w1.heap.size]? = some (.map (esM r) 7))
  case first =>
    obtain ⟨m1, m2, m3, m4, m5, m6, m7⟩ := map_made r w1
    simp only [mth] at m1 m2 m3 m4 m5 m6 m7
    go_wp2_with fail
    go_meet
    exact ⟨rfl, setMap_gb w1 _ _ _ _ none (World.grownBy_alloc w1 _ none) (Nat.le_refl _), setMap_at _ _ _ _ (by simp)⟩
  case rest =>
    obtain ⟨rfl, gm, hm⟩ := hcut
    have hk2 := HK1.out.gb gm (by simp)
    have hT2 := ((HT0.out.gb HG1.out (fun k e => by cases e; exact hB))).gbn gm
    have hb2 := gb_blk gm HB0.out (by simp)
    have hsc : w1.heap.size < wc.heap.size := blk_lt' hm
    have HGM := Lib.hid (gb_trans HG1.out (gb_any gm))
    have HB2 := Lib.hid hb2
    have lk := run_look wc w1.heap.size (esM r) 7 91 4 (mth r 109) hm (by kernel_rfl)
    simp only [mth] at lk
    have hcl := HC.out wc hk2 hT2
    have HCL := Lib.hid hcl
    obtain ⟨s, HS, HB, hl, c0, c1, c2, f0, f1, f2⟩ := hk2.op
    rw [he] at c2
    have hsl : s.data.toList = 91 :: rest := by rw [HS.out, hs]
    have hsz : s.size = rest.length + 1 := by rw [← sz_of, hsl]; rfl
    have hne : s.toList.isEmpty = false := by rw [ByteArray.toList_eq, hsl]; rfl
    have hszi : 1 ≤ s.size := by omega
    have ix : ∀ W, (Instr.index 9 (.string s) (.int .i64 0)).run Tryz.prog W = .ok (.int .u8 91) W := fun W => run_idx s 0 (by omega) 91 (by
      have : s.data.toList[0]'(by rw [hsl]; simp) = 91 := by simp [hsl]
      rw [show s[0]'(by omega) = 91 from by simpa [ByteArray.getElem_eq_getElem_data] using this]; rfl) W
    clear hsl hsz gm hm hk2 hT2 hb2 hcl hs he
    go_wp2_with fail
    refine HCL.out.mono ?_
    rintro e w4 ⟨si, sn, rfl, hv, hk4, g4⟩
    have hb4 := gb_blk g4 HB2.out (by simp; omega)
    obtain ⟨⟨d0, d1, d2, d3, d4, d5, d6, d7⟩, q0, q1, q2, q3, q4, q5, q6, q7⟩ := blk8 hb4
    have HV := Lib.hid hv
    have HK4 := Lib.hid hk4
    have HG4 := Lib.hid g4
    clear hv hk4 g4 hb4 c0 c1 c2 f0 f1 f2
    simp only [vcs]
    obtain ⟨sA, sn1, sc1, tA, tn1, tc1, rfl, rfl⟩ := RdV.two HV.out
    go_wp2
    refine bodyPost_ret (v := .agg #[.int .i64 v.kind, .bool v.is, .bool v.num.down, .string (ba v.num.dig), .int .i64 v.num.exp, .string (ba v.text), .slice sA sn1 sc1, .slice tA tn1 tc1]) (by simp [results, Tryz.results43, go_sem, d0, d1, d2, d3, d4, d5, d6, d7]) rfl ?_
    have gf : ∀ x0 x1 x2 x3 x4 x5 x6 x7 : Value, w4.grownBy ((((((((w4.setCell ⟨w.heap.size, 0, none⟩ x0).setCell ⟨w.heap.size, 1, none⟩ x1).setCell ⟨w.heap.size, 2, none⟩ x2).setCell ⟨w.heap.size, 3, none⟩ x3).setCell ⟨w.heap.size, 4, none⟩ x4).setCell ⟨w.heap.size, 5, none⟩ x5).setCell ⟨w.heap.size, 6, none⟩ x6).setCell ⟨w.heap.size, 7, none⟩ x7) (some w.heap.size) := by
      intro x0 x1 x2 x3 x4 x5 x6 x7
      iterate 8 refine gb_set ?_ (.inr rfl) _
      exact gb_refl _ _
    refine VDid.done (b0 := w.heap.size) (w0 := w) (w1 := w4) rfl HK4.out (gb_refl w none) (gb_trans HGM.out HG4.out) (gf _ _ _ _ _ _ _ _) (Nat.le_refl _) hr ?_
    exact (HV.out.gb (gf _ _ _ _ _ _ _ _) (fun k hk e => by cases e; omega)).mono (fun k hk _ => by show w.heap.size ≤ k; have : wc.heap.size ≤ k := hk; omega)

set_option maxRecDepth 100000 in
set_option maxHeartbeats 8000000 in
theorem value_110 (B r : Nat) (st st1 st' : Js.St) (v : Js.V) (rest : Js.Bs) (w : World) (h : RSt w r st) (hT : Tb B w) (hB : B ≤ r) (hst1 : Js.skipS st = st1) (hs : st1.s = 123 :: rest) (he : st1.e = 0)
    (hcall : ∀ W, RSt W r st1 → Tb B W → Calls Tryz.prog 110 #[.pointer (some ⟨r, 0, none⟩)] W (VDid W r v st')) :
    Calls Tryz.prog 43 #[.pointer (some ⟨r, 0, none⟩)] w (VDid w r v st') := by
  have hmf : ∀ (fn : Fn) (first cap : Array Value) (w : World), (Instr.makeFunc fn first cap).run Tryz.prog w = .ok (.func fn first cap) w := fun _ _ _ _ => rfl
  have hmm := @run_makeMap Tryz.prog
  have hr := h.lt
  have hsk := json_skip r st _ (h.al (.cells #[.int .i64 0, .bool false, .bool false, .string ⟨#[]⟩, .int .i64 0, .string ⟨#[]⟩, .slice none 0 0, .slice none 0 0] 29 (0, 0)))
  rw [hst1] at hsk
  have HSK := Lib.hid hsk
  have HT0 := Lib.hid hT
  have HC := Lib.hid hcall
  clear h hsk hst1 hT hcall
  go_enter Tryz.func43, Tryz.ntmps43
  go_wp2_with fail
  refine HSK.out.mono ?_
  rintro e w1 ⟨rfl, h1, g1⟩
  have hb := gb_blk g1 (blk_new w _) (by simp; omega)
  have HB0 := Lib.hid hb
  have HK1 := Lib.hid h1
  have HG1 := Lib.hid (gb_trans (World.grownBy_alloc w _ (some r)) g1)
  have hs1 : w.heap.size < w1.heap.size := blk_lt' hb
  clear h1 g1 hb
  go_upto_region 2 with fail
  go_cut [3] from 8 (fun s3 wx => s3 = .map (some w1.heap.size) ∧ w1.grownBy wx none ∧ wx.heap[w1.heap.size]? = some (.map (esM r) 7))
  case first =>
    obtain ⟨m1, m2, m3, m4, m5, m6, m7⟩ := map_made r w1
    simp only [mth] at m1 m2 m3 m4 m5 m6 m7
    go_wp2_with fail
    go_meet
    exact ⟨rfl, setMap_gb w1 _ _ _ _ none (World.grownBy_alloc w1 _ none) (Nat.le_refl _), setMap_at _ _ _ _ (by simp)⟩
  case rest =>
    obtain ⟨rfl, gm, hm⟩ := hcut
    have hk2 := HK1.out.gb gm (by simp)
    have hT2 := ((HT0.out.gb HG1.out (fun k e => by cases e; exact hB))).gbn gm
    have hb2 := gb_blk gm HB0.out (by simp)
    have hsc : w1.heap.size < wc.heap.size := blk_lt' hm
    have HGM := Lib.hid (gb_trans HG1.out (gb_any gm))
    have HB2 := Lib.hid hb2
    have lk := run_look wc w1.heap.size (esM r) 7 123 5 (mth r 110) hm (by kernel_rfl)
    simp only [mth] at lk
    have hcl := HC.out wc hk2 hT2
    have HCL := Lib.hid hcl
    obtain ⟨s, HS, HB, hl, c0, c1, c2, f0, f1, f2⟩ := hk2.op
    rw [he] at c2
    have hsl : s.data.toList = 123 :: rest := by rw [HS.out, hs]
    have hsz : s.size = rest.length + 1 := by rw [← sz_of, hsl]; rfl
    have hne : s.toList.isEmpty = false := by rw [ByteArray.toList_eq, hsl]; rfl
    have hszi : 1 ≤ s.size := by omega
    have ix : ∀ W, (Instr.index 9 (.string s) (.int .i64 0)).run Tryz.prog W = .ok (.int .u8 123) W := fun W => run_idx s 0 (by omega) 123 (by
      have : s.data.toList[0]'(by rw [hsl]; simp) = 123 := by simp [hsl]
      rw [show s[0]'(by omega) = 123 from by simpa [ByteArray.getElem_eq_getElem_data] using this]; rfl) W
    clear hsl hsz gm hm hk2 hT2 hb2 hcl hs he
    go_wp2_with fail
    refine HCL.out.mono ?_
    rintro e w4 ⟨si, sn, rfl, hv, hk4, g4⟩
    have hb4 := gb_blk g4 HB2.out (by simp; omega)
    obtain ⟨⟨d0, d1, d2, d3, d4, d5, d6, d7⟩, q0, q1, q2, q3, q4, q5, q6, q7⟩ := blk8 hb4
    have HV := Lib.hid hv
    have HK4 := Lib.hid hk4
    have HG4 := Lib.hid g4
    clear hv hk4 g4 hb4 c0 c1 c2 f0 f1 f2
    simp only [vcs]
    obtain ⟨sA, sn1, sc1, tA, tn1, tc1, rfl, rfl⟩ := RdV.two HV.out
    go_wp2
    refine bodyPost_ret (v := .agg #[.int .i64 v.kind, .bool v.is, .bool v.num.down, .string (ba v.num.dig), .int .i64 v.num.exp, .string (ba v.text), .slice sA sn1 sc1, .slice tA tn1 tc1]) (by simp [results, Tryz.results43, go_sem, d0, d1, d2, d3, d4, d5, d6, d7]) rfl ?_
    have gf : ∀ x0 x1 x2 x3 x4 x5 x6 x7 : Value, w4.grownBy ((((((((w4.setCell ⟨w.heap.size, 0, none⟩ x0).setCell ⟨w.heap.size, 1, none⟩ x1).setCell ⟨w.heap.size, 2, none⟩ x2).setCell ⟨w.heap.size, 3, none⟩ x3).setCell ⟨w.heap.size, 4, none⟩ x4).setCell ⟨w.heap.size, 5, none⟩ x5).setCell ⟨w.heap.size, 6, none⟩ x6).setCell ⟨w.heap.size, 7, none⟩ x7) (some w.heap.size) := by
      intro x0 x1 x2 x3 x4 x5 x6 x7
      iterate 8 refine gb_set ?_ (.inr rfl) _
      exact gb_refl _ _
    refine VDid.done (b0 := w.heap.size) (w0 := w) (w1 := w4) rfl HK4.out (gb_refl w none) (gb_trans HGM.out HG4.out) (gf _ _ _ _ _ _ _ _) (Nat.le_refl _) hr ?_
    exact (HV.out.gb (gf _ _ _ _ _ _ _ _) (fun k hk e => by cases e; omega)).mono (fun k hk _ => by show w.heap.size ≤ k; have : wc.heap.size ≤ k := hk; omega)

set_option maxRecDepth 100000 in
set_option maxHeartbeats 8000000 in
theorem value_111 (B r : Nat) (st st1 st' : Js.St) (v : Js.V) (rest : Js.Bs) (w : World) (h : RSt w r st) (hT : Tb B w) (hB : B ≤ r) (hst1 : Js.skipS st = st1) (hs : st1.s = 45 :: rest) (he : st1.e = 0)
    (hcall : ∀ W, RSt W r st1 → Tb B W → Calls Tryz.prog 111 #[.pointer (some ⟨r, 0, none⟩)] W (VDid W r v st')) :
    Calls Tryz.prog 43 #[.pointer (some ⟨r, 0, none⟩)] w (VDid w r v st') := by
  have hmf : ∀ (fn : Fn) (first cap : Array Value) (w : World), (Instr.makeFunc fn first cap).run Tryz.prog w = .ok (.func fn first cap) w := fun _ _ _ _ => rfl
  have hmm := @run_makeMap Tryz.prog
  have hr := h.lt
  have hsk := json_skip r st _ (h.al (.cells #[.int .i64 0, .bool false, .bool false, .string ⟨#[]⟩, .int .i64 0, .string ⟨#[]⟩, .slice none 0 0, .slice none 0 0] 29 (0, 0)))
  rw [hst1] at hsk
  have HSK := Lib.hid hsk
  have HT0 := Lib.hid hT
  have HC := Lib.hid hcall
  clear h hsk hst1 hT hcall
  go_enter Tryz.func43, Tryz.ntmps43
  go_wp2_with fail
  refine HSK.out.mono ?_
  rintro e w1 ⟨rfl, h1, g1⟩
  have hb := gb_blk g1 (blk_new w _) (by simp; omega)
  have HB0 := Lib.hid hb
  have HK1 := Lib.hid h1
  have HG1 := Lib.hid (gb_trans (World.grownBy_alloc w _ (some r)) g1)
  have hs1 : w.heap.size < w1.heap.size := blk_lt' hb
  clear h1 g1 hb
  go_upto_region 2 with fail
  go_cut [3] from 8 (fun s3 wx => s3 = .map (some w1.heap.size) ∧ w1.grownBy wx none ∧ wx.heap[w1.heap.size]? = some (.map (esM r) 7))
  case first =>
    obtain ⟨m1, m2, m3, m4, m5, m6, m7⟩ := map_made r w1
    simp only [mth] at m1 m2 m3 m4 m5 m6 m7
    go_wp2_with fail
    go_meet
    exact ⟨rfl, setMap_gb w1 _ _ _ _ none (World.grownBy_alloc w1 _ none) (Nat.le_refl _), setMap_at _ _ _ _ (by simp)⟩
  case rest =>
    obtain ⟨rfl, gm, hm⟩ := hcut
    have hk2 := HK1.out.gb gm (by simp)
    have hT2 := ((HT0.out.gb HG1.out (fun k e => by cases e; exact hB))).gbn gm
    have hb2 := gb_blk gm HB0.out (by simp)
    have hsc : w1.heap.size < wc.heap.size := blk_lt' hm
    have HGM := Lib.hid (gb_trans HG1.out (gb_any gm))
    have HB2 := Lib.hid hb2
    have lk := run_look wc w1.heap.size (esM r) 7 45 6 (mth r 111) hm (by kernel_rfl)
    simp only [mth] at lk
    have hcl := HC.out wc hk2 hT2
    have HCL := Lib.hid hcl
    obtain ⟨s, HS, HB, hl, c0, c1, c2, f0, f1, f2⟩ := hk2.op
    rw [he] at c2
    have hsl : s.data.toList = 45 :: rest := by rw [HS.out, hs]
    have hsz : s.size = rest.length + 1 := by rw [← sz_of, hsl]; rfl
    have hne : s.toList.isEmpty = false := by rw [ByteArray.toList_eq, hsl]; rfl
    have hszi : 1 ≤ s.size := by omega
    have ix : ∀ W, (Instr.index 9 (.string s) (.int .i64 0)).run Tryz.prog W = .ok (.int .u8 45) W := fun W => run_idx s 0 (by omega) 45 (by
      have : s.data.toList[0]'(by rw [hsl]; simp) = 45 := by simp [hsl]
      rw [show s[0]'(by omega) = 45 from by simpa [ByteArray.getElem_eq_getElem_data] using this]; rfl) W
    clear hsl hsz gm hm hk2 hT2 hb2 hcl hs he
    go_wp2_with fail
    refine HCL.out.mono ?_
    rintro e w4 ⟨si, sn, rfl, hv, hk4, g4⟩
    have hb4 := gb_blk g4 HB2.out (by simp; omega)
    obtain ⟨⟨d0, d1, d2, d3, d4, d5, d6, d7⟩, q0, q1, q2, q3, q4, q5, q6, q7⟩ := blk8 hb4
    have HV := Lib.hid hv
    have HK4 := Lib.hid hk4
    have HG4 := Lib.hid g4
    clear hv hk4 g4 hb4 c0 c1 c2 f0 f1 f2
    simp only [vcs]
    obtain ⟨sA, sn1, sc1, tA, tn1, tc1, rfl, rfl⟩ := RdV.two HV.out
    go_wp2
    refine bodyPost_ret (v := .agg #[.int .i64 v.kind, .bool v.is, .bool v.num.down, .string (ba v.num.dig), .int .i64 v.num.exp, .string (ba v.text), .slice sA sn1 sc1, .slice tA tn1 tc1]) (by simp [results, Tryz.results43, go_sem, d0, d1, d2, d3, d4, d5, d6, d7]) rfl ?_
    have gf : ∀ x0 x1 x2 x3 x4 x5 x6 x7 : Value, w4.grownBy ((((((((w4.setCell ⟨w.heap.size, 0, none⟩ x0).setCell ⟨w.heap.size, 1, none⟩ x1).setCell ⟨w.heap.size, 2, none⟩ x2).setCell ⟨w.heap.size, 3, none⟩ x3).setCell ⟨w.heap.size, 4, none⟩ x4).setCell ⟨w.heap.size, 5, none⟩ x5).setCell ⟨w.heap.size, 6, none⟩ x6).setCell ⟨w.heap.size, 7, none⟩ x7) (some w.heap.size) := by
      intro x0 x1 x2 x3 x4 x5 x6 x7
      iterate 8 refine gb_set ?_ (.inr rfl) _
      exact gb_refl _ _
    refine VDid.done (b0 := w.heap.size) (w0 := w) (w1 := w4) rfl HK4.out (gb_refl w none) (gb_trans HGM.out HG4.out) (gf _ _ _ _ _ _ _ _) (Nat.le_refl _) hr ?_
    exact (HV.out.gb (gf _ _ _ _ _ _ _ _) (fun k hk e => by cases e; omega)).mono (fun k hk _ => by show w.heap.size ≤ k; have : wc.heap.size ≤ k := hk; omega)
end Go.Proofs.YtocjlbpehfpdoaaGreatDoor
