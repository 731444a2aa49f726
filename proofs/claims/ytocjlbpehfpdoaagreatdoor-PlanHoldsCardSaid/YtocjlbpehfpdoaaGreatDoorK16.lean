/- package json's reader: a number. · Maps with bytes for keys that a call makes: an entry more, a look-up. -/
import Derived.Test.YtocjlbpehfpdoaaGreatDoorK15
import Derived.Test.YtocjlbpehfpdoaaGreatDoorK08
import Derived.Deep.RegionWith
import Derived.Deep.Cut
import Derived.WideMake
set_option linter.unusedVariables false
set_option linter.unusedSimpArgs false
namespace Go.Proofs.YtocjlbpehfpdoaaGreatDoor
open Go.RowKit

theorem numberS_eq (st : Js.St) : Js.numberS st = ({ Js.V.zero with kind := 2, num := (Js.nparse (st.s.take (st.s.length - (Lib.trimLeftS st.s Js.numeral).length))).1 },
    { (if (Js.nparse (st.s.take (st.s.length - (Lib.trimLeftS st.s Js.numeral).length))).2 ≠ 0 then Js.failS st (Js.nparse (st.s.take (st.s.length - (Lib.trimLeftS st.s Js.numeral).length))).2 else st) with s := Lib.trimLeftS st.s Js.numeral }) := rfl

set_option maxHeartbeats 4000000 in
theorem json_number (r : Nat) (st : Js.St) (w : World) (h : RSt w r st) :
    Calls Tryz.prog 111 #[.pointer (some ⟨r, 0, none⟩)] w (VDid w r (Js.numberS st).1 (Js.numberS st).2) := by
  have hr := h.lt
  have hne := numberS_eq st
  have hL := trim_len st.s Js.numeral
  obtain ⟨t, ht⟩ : ∃ t, Lib.trimLeftS st.s Js.numeral = t := ⟨_, rfl⟩
  have hcall := fun W => trimL st.s ⟨#[48, 49, 50, 51, 52, 53, 54, 55, 56, 57, 43, 45, 46, 101, 69]⟩ (by decide) (by decide) W
  rw [show (⟨#[48, 49, 50, 51, 52, 53, 54, 55, 56, 57, 43, 45, 46, 101, 69]⟩ : ByteArray).data.toList = Js.numeral from rfl, ht] at hcall
  rw [ht] at hne hL
  obtain ⟨u, hu⟩ : ∃ u, st.s.take (st.s.length - t.length) = u := ⟨_, rfl⟩
  rw [hu] at hne
  have hul : u.length ≤ 4096 := by rw [← hu, List.length_take]; have := h.short; omega
  have hnp := fun W => num_parse u hul W
  obtain ⟨n, ec, hnn⟩ : ∃ n ec, Js.nparse u = (n, ec) := ⟨_, _, rfl⟩
  rw [hnn] at hnp hne
  simp only [ncs] at hnp hne
  have HR := Lib.hid h
  obtain ⟨s, HS, HB, hl, c0, c1, c2, f0, f1, f2⟩ := h.op
  have hs := ba_of HS.out
  obtain ⟨l, hl2⟩ : ∃ l, st.s = l := ⟨_, rfl⟩
  rw [hl2] at hs hcall hL hu
  subst hs
  have z1 := sz_ba l
  have z2 := sz_ba t
  have a1 : IntKind.i64.wrap (((ba l).size : Int) - (ba t).size) = ((ba l).size : Int) - (ba t).size := IntWalk.i64_in _ (by omega)
  have sl : ∀ W, (Instr.slice 9 (.string (ba l)) none (some (.int .i64 (((ba l).size : Int) - (ba t).size))) none).run Tryz.prog W = .ok (.string (ba u)) W := by
    intro W
    rw [run_slice_string_h (w := W) (h := ((ba l).size : Int) - (ba t).size) (ht := Tryz.underlying9) (h0 := by omega) (h2 := by omega), ← hu, ← ba_ext, show (((ba l).size : Int) - (ba t).size).toNat = l.length - t.length by omega]
  have HC := Lib.hid hcall
  have HP := Lib.hid hnp
  obtain ⟨fin, hfin⟩ : ∃ fin : Js.St, ({ (if ec ≠ 0 then Js.failS st ec else st) with s := t } : Js.St) = fin := ⟨_, rfl⟩
  rw [hfin] at hne
  have HFIN := Lib.hid hfin
  clear hfin
  have HNE := Lib.hid hne
  have H2 := Lib.hid hl2
  have HTL := Lib.hid (show t.length ≤ 4096 by rw [z1] at hl; omega)
  clear hcall ht hu hnp hnn h hne hl2 z1 z2 hL hul
  rw [HNE.out]
  go_enter Tryz.func111, Tryz.ntmps111
  go_wp2_with fail
  refine (HC.out _).mono ?_
  rintro e w1 ⟨rfl, g1⟩
  have hg := gb_trans (World.grownBy_alloc w (.cells #[.int .i64 0, .bool false, .bool false, .string ⟨#[]⟩, .int .i64 0, .string ⟨#[]⟩, .slice none 0 0, .slice none 0 0] 29 (0, 0)) none) g1
  have HG := Lib.hid hg
  have HB1 := Lib.hid (gb_blk hg HB.out (by simp))
  have HZ1 := Lib.hid (gb_blk g1 (blk_new w _) (by simp))
  clear c0 c1 c2 f0 f1 f2 g1 hg
  have c0 : w1.cell? ⟨r, 0, none⟩ = some (.string (ba l)) := blk_c HB1.out 0
  go_wp2_with fail
  have hr1 : r < w1.heap.size := blk_lt' HB1.out
  have hrne : r ≠ w1.heap.size := by omega
  have HW1 := Lib.hid hr1
  go_cut [4, 5] from 11 (fun s4 s5 wx => ∃ a : Nat, s4 = .pointer (some ⟨a, 0, none⟩) ∧ s5 = .int .i64 ec ∧ wx.heap[a]? = some (.cells #[.bool n.down, .string (ba n.dig), .int .i64 n.exp] 25 (0, 0)) ∧ w1.grownBy wx none)
  case first =>
    go_region_with (go_at_call 180; refine (HP.out _).mono ?_; rintro e w2 ⟨rfl, g2⟩; first | (have hz := gb_blk g2 (g := w1.heap.size) (o := .cells #[.bool false, .string ⟨#[]⟩, .int .i64 0] 25 (0, 0)) (by first | exact blk_new w1 _ | exact blk_new w1.drew _) (by simp); have q0 := blk_c hz 0; have q1 := blk_c hz 1; have q2 := blk_c hz 2; have p0 := blk_f hz 0; have p1 := blk_f hz 1; have p2 := blk_f hz 2; simp at q0 q1 q2; have HZ := Lib.hid hz; clear hz) | skip)
    all_goals
      go_wp2_with fail
      go_meet
    all_goals first
      | refine ⟨_, rfl, rfl, blk_eq (blk_set' (blk_set' (blk_set' HZ.out 0 _) 1 _) 2 _) rfl, ?_⟩
        refine gb_set (gb_set (gb_set (gb_trans ?_ g2) (p := ⟨w1.heap.size, 0, none⟩) (.inl (Nat.le_refl _)) _) (p := ⟨w1.heap.size, 1, none⟩) (.inl (Nat.le_refl _)) _) (p := ⟨w1.heap.size, 2, none⟩) (.inl (Nat.le_refl _)) _
        first | exact gb_drew (gb_alloc (gb_refl _ _) _) | exact gb_alloc (gb_drew (gb_refl _ _)) _
      | exact ⟨_, rfl, rfl, blk_new w2 _, gb_alloc (gb_trans (gb_drew (gb_refl w1 none)) g2) _⟩
  case rest =>
    obtain ⟨a, rfl, rfl, hba, hgc⟩ := hcut
    have hbr := gb_blk hgc HB1.out (by simp)
    have hbz := gb_blk hgc HZ1.out (by simp)
    have hgw := gb_trans HG.out hgc
    have HGW := Lib.hid hgw
    have hw0 : w.heap.size < wc.heap.size := blk_lt' hbz
    have HBZ := Lib.hid hbz
    have HBA := Lib.hid hba
    have HBR := Lib.hid hbr
    have hne1 : a ≠ w.heap.size := by
      intro h
      rw [h, hbz] at hba
      simp at hba
    have hne2 : a ≠ r := by
      intro h
      rw [h, hbr] at hba
      simp at hba
    clear c0 hba hbr hbz hgc hgw
    have hk : RSt wc r st := HR.out.gb HGW.out (by simp)
    by_cases hec : ec = 0
    · have e1 : (ec != 0) = false := by simp [hec]
      have HF2 := Lib.hid (show fin = ⟨t, st.o, st.e⟩ by rw [← HFIN.out, hec]; rfl)
      clear hec
      obtain ⟨s', HS', HB', hl', c0, c1, c2, f0, f1, f2⟩ := hk.op
      obtain ⟨⟨d0, d1, d2, d3, d4, d5, d6, d7⟩, q0, q1, q2, q3, q4, q5, q6, q7⟩ := blk8 HBZ.out
      have n0 : wc.cell? ⟨a, 0, none⟩ = some (.bool n.down) := blk_c HBA.out 0
      have n1 : wc.cell? ⟨a, 1, none⟩ = some (.string (ba n.dig)) := blk_c HBA.out 1
      have n2 : wc.cell? ⟨a, 2, none⟩ = some (.int .i64 n.exp) := blk_c HBA.out 2
      clear hk
      go_wp2
      refine bodyPost_ret (v := .agg #[.int .i64 2, .bool false, .bool n.down, .string (ba n.dig), .int .i64 n.exp, .string ⟨#[]⟩, .slice none 0 0, .slice none 0 0]) (by simp [results, Tryz.results111, go_sem, d0, d1, d2, d3, d4, d5, d6, d7]) rfl ?_
      rw [HF2.out]
      refine VDid.done (b0 := w.heap.size) (w0 := w) (si := .slice none 0 0) (sn := .slice none 0 0) (w1 := wc.setCell ⟨r, 0, none⟩ (.string (ba t))) rfl ?_ (gb_refl w none) (gb_set (gb_any HGW.out) (.inr rfl) _) ?_ (Nat.le_refl _) hr (RdV.bare _ _ _ _ _ _)
      · exact RSt.of (ba t) rfl (blk_eq (blk_set' HBR.out 0 _) rfl) (by rw [sz_ba]; exact HTL.out)
      · iterate 8 refine gb_set ?_ (.inr rfl) _
        exact gb_refl _ _
    · have e1 : (ec != 0) = true := by simp [hec]
      have HF2 := Lib.hid (show fin = ⟨t, (Js.failS st ec).o, (Js.failS st ec).e⟩ by rw [← HFIN.out, if_pos hec])
      clear hec
      go_wp2_with fail
      refine (json_fail r st ec wc hk).mono ?_
      rintro e w3 ⟨rfl, k3, g3⟩
      have hbz3 := gb_blk g3 HBZ.out (by simp; omega)
      have hba3 := gb_blk g3 HBA.out (by simp; omega)
      obtain ⟨s', HS', HB', hl', c0, c1, c2, f0, f1, f2⟩ := k3.op
      obtain ⟨⟨d0, d1, d2, d3, d4, d5, d6, d7⟩, q0, q1, q2, q3, q4, q5, q6, q7⟩ := blk8 hbz3
      have n0 : w3.cell? ⟨a, 0, none⟩ = some (.bool n.down) := blk_c hba3 0
      have n1 : w3.cell? ⟨a, 1, none⟩ = some (.string (ba n.dig)) := blk_c hba3 1
      have n2 : w3.cell? ⟨a, 2, none⟩ = some (.int .i64 n.exp) := blk_c hba3 2
      have HG3 := Lib.hid g3
      clear hk k3 g3 hbz3 hba3
      go_wp2
      refine bodyPost_ret (v := .agg #[.int .i64 2, .bool false, .bool n.down, .string (ba n.dig), .int .i64 n.exp, .string ⟨#[]⟩, .slice none 0 0, .slice none 0 0]) (by simp [results, Tryz.results111, go_sem, d0, d1, d2, d3, d4, d5, d6, d7]) rfl ?_
      rw [HF2.out]
      refine VDid.done (b0 := w.heap.size) (w0 := w) (si := .slice none 0 0) (sn := .slice none 0 0) (w1 := w3.setCell ⟨r, 0, none⟩ (.string (ba t))) rfl ?_ (gb_refl w none) (gb_set (gb_trans (gb_any HGW.out) HG3.out) (.inr rfl) _) ?_ (Nat.le_refl _) hr (RdV.bare _ _ _ _ _ _)
      · exact RSt.of (ba t) rfl (blk_eq (blk_set' HB'.out 0 _) rfl) (by rw [sz_ba]; exact HTL.out)
      · iterate 8 refine gb_set ?_ (.inr rfl) _
        exact gb_refl _ _
end Go.Proofs.YtocjlbpehfpdoaaGreatDoor

set_option linter.unusedVariables false
set_option linter.unusedSimpArgs false
namespace Go.Proofs.YtocjlbpehfpdoaaGreatDoor
open Go.RowKit

def setMap (W : World) (r : Nat) (es : Array MapEntry) (c : Nat) : World := { W with heap := W.heap.setIfInBounds r (.map es c) }
theorem setMap_at (W : World) (r : Nat) (es : Array MapEntry) (c : Nat) (h : r < W.heap.size) : (setMap W r es c).heap[r]? = some (.map es c) := by
  simp [setMap, h]
theorem setMap_twice (W : World) (r : Nat) (es es' : Array MapEntry) (c c' : Nat) : setMap (setMap W r es c) r es' c' = setMap W r es' c' := by
  simp [setMap]
theorem setMap_gb (a W : World) (r : Nat) (es : Array MapEntry) (c : Nat) (row : Option Nat) (h : a.grownBy W row) (hr : a.heap.size ≤ r) : a.grownBy (setMap W r es c) row :=
  ⟨h.os, h.tape, h.output, by simpa [setMap] using h.size, fun i hi hn => by
    rw [← h.block i hi hn]
    simp only [setMap]
    rw [Array.getElem?_setIfInBounds]
    simp [show ¬ r = i by omega]⟩

theorem run_ins (W : World) (r : Nat) (es : Array MapEntry) (c : Nat) (k : Int) (val : Value) (hb : W.heap[r]? = some (.map es c)) (hf : Instr.findNow (.int .u8) (.int .u8 k) es.toList 0 = some none) :
    (Instr.mapUpdate 176 (.map (some r)) (.int .u8 k) val).run Tryz.prog W = .ok () (setMap W r (es.push { key := .int .u8 k, val := val, born := c }) (c + 1)) := by
  have hc : (Instr.checkKey false 10000 5 (.int .u8 k)).run Tryz.prog W = .ok () W := MapKept.run_checkKey (k := .int .u8 k) Tryz.underlying5 (by simp [MapKept.IsKey]) false 9999
  simp [Instr.mapUpdate, run_underlying Tryz.underlying176, MapKept.run_getObj_map hb, hc, MapKept.run_findKey Tryz.underlying5 hf, MapKept.run_setObj_map _ hb, Result.andThen, setMap]
theorem run_look (W : World) (r : Nat) (es : Array MapEntry) (c : Nat) (k : Int) (i : Nat) (v : Value) (hb : W.heap[r]? = some (.map es c)) (hf : Instr.findNow (.int .u8) (.int .u8 k) es.toList 0 = some (some (i, v))) :
    (Instr.lookup 176 (.map (some r)) (.int .u8 k) true).run Tryz.prog W = .ok (.tuple #[v, .bool true]) W := by
  have hc : (Instr.checkKey es.isEmpty 10000 5 (.int .u8 k)).run Tryz.prog W = .ok () W := MapKept.run_checkKey (k := .int .u8 k) Tryz.underlying5 (by simp [MapKept.IsKey]) _ 9999
  simp [Instr.lookup, run_underlying Tryz.underlying176, MapKept.run_getObj_map hb, hc, MapKept.run_findKey Tryz.underlying5 hf, Result.andThen]
theorem run_look_none (W : World) (r : Nat) (es : Array MapEntry) (c : Nat) (k : Int) (hb : W.heap[r]? = some (.map es c)) (hf : Instr.findNow (.int .u8) (.int .u8 k) es.toList 0 = some none) :
    ∃ v, (Instr.lookup 176 (.map (some r)) (.int .u8 k) true).run Tryz.prog W = .ok (.tuple #[v, .bool false]) W := by
  have hc : (Instr.checkKey es.isEmpty 10000 5 (.int .u8 k)).run Tryz.prog W = .ok () W := MapKept.run_checkKey (k := .int .u8 k) Tryz.underlying5 (by simp [MapKept.IsKey]) _ 9999
  simp [Instr.lookup, run_underlying Tryz.underlying176, MapKept.run_getObj_map hb, hc, MapKept.run_findKey Tryz.underlying5 hf, Result.andThen]
theorem RdV.two {F : Nat → Prop} {w : World} {v : Js.V} {si sn : Value} (h : RdV F w v si sn) : ∃ A n c A' n' c', si = .slice A n c ∧ sn = .slice A' n' c' := by
  obtain ⟨⟨A, c, h1, _⟩, ⟨A', c', h2, _⟩⟩ := (RdV_eq _ _ _ _ _).1 h
  exact ⟨_, _, _, _, _, _, h1, h2⟩
end Go.Proofs.YtocjlbpehfpdoaaGreatDoor
