/- package filter: Compile, of one term. · package filter: musts, Musts, of one test; slices.Clone of one name. · package plan: Choose, where the second way is the test's. -/
import Derived.Test.YtocjlbpehfpdoaaGreatDoorK24
import Derived.Test.YtocjlbpehfpdoaaGreatDoorK13
set_option linter.unusedVariables false
set_option linter.unusedSimpArgs false
namespace Go.Proofs.YtocjlbpehfpdoaaGreatDoor
open Go.RowKit

theorem info99 : (Tryz.prog.info? 99).map (fun i => (i.zero, i.size, i.bytes)) = some (some .nilIface, 1, 16) := by kernel_rfl
/-- What a filter of one term is; an error's number. -/
def fcomp (op : Int) (p t : Js.Bs) : (Int × List Js.Bs × Js.V) × Int := if takesI op ≠ 0 then ((0, [], Js.V.zero), 1) else ftest op p t
/-- A filter of one test handed back, or an error. -/
def COut (w : World) (op' : Int) (l : List Js.Bs) (q : Js.V) (ec : Int) (e : Ending) (w' : World) : Prop :=
  (ec ≠ 0 ∧ e = .returned (.tuple #[.pointer none, .int .i64 ec]) ∧ w.grownBy w' none) ∨
  (ec = 0 ∧ ∃ fb A c vA vl vc uA ul uc, e = .returned (.tuple #[.pointer (some ⟨fb, 0, none⟩), .int .i64 0]) ∧ w'.heap[fb]? = some (.cells #[.iface 46 (.agg #[.int .i64 op', .slice A l.length c, .int .i64 q.kind, .bool q.is, .bool q.num.down, .string (ba q.num.dig), .int .i64 q.num.exp, .string (ba q.text), .slice vA vl vc, .slice uA ul uc])] 108 (0, 0)) ∧
    SlN (fun k => w.heap.size ≤ k) w' l (.slice A l.length c) ∧ RdV (fun k => w.heap.size ≤ k) w' q (.slice vA vl vc) (.slice uA ul uc) ∧ w.grownBy w' none)
theorem takes_op (op : Int) (h : takesI op = 0) : 0 ≤ op ∧ op ≤ 5 := by
  unfold takesI at h
  split at h
  · cases h
  · split at h
    · omega
    · split at h <;> cases h
theorem takes_range (op : Int) (h : takesI op ≠ 0) : takesI op = -1 ∨ takesI op = 1 ∨ takesI op = 2 := by
  unfold takesI at *
  repeat' split
  all_goals simp_all

set_option maxRecDepth 100000 in
set_option maxHeartbeats 16000000 in
theorem flt_compile (op : Int) (p t : Js.Bs) (B tb : Nat) (w : World) (hb : w.heap[tb]? = some (.cells #[.int .i64 op, .string (ba p), .string (ba t)] 39 (0, 0))) (hM : Mx B w) (hT : Tabs w) (hp : p.length ≤ 10000) :
    Calls Tryz.prog 15 #[.slice (some ⟨tb, 0, none⟩) 1 1] w (COut w (fcomp op p t).1.1 (fcomp op p t).1.2.1 (fcomp op p t).1.2.2 (fcomp op p t).2) := by
  have x0 : w.cell? ⟨tb, 0, none⟩ = some (.int .i64 op) := by rw [blk_c hb]; rfl
  have x1 : w.cell? ⟨tb, 1, none⟩ = some (.string (ba p)) := by rw [blk_c hb]; rfl
  have x2 : w.cell? ⟨tb, 2, none⟩ = some (.string (ba t)) := by rw [blk_c hb]; rfl
  have HTK := Lib.hid (fun W => flt_takes op W)
  have HTE := Lib.hid (fun W (hg : w.grownBy W none) => flt_test op p t B W (hM.gbn hg) (hT.below (below_gb hg)) hp)
  have HB := Lib.hid hb
  have HG0 := Lib.hid (gb_refl w none)
  obtain ⟨n, hn⟩ : ∃ n, takesI op = n := ⟨_, rfl⟩
  rw [hn] at HTK
  by_cases hn0 : n = 0
  · obtain ⟨h0, h5⟩ := takes_op op (hn.trans hn0)
    subst hn0
    have hsp : fcomp op p t = ftest op p t := by unfold fcomp; rw [if_neg (by rw [hn]; simp)]
    rw [hsp]
    obtain ⟨R, hR⟩ : ∃ R, ftest op p t = R := ⟨_, rfl⟩
    rw [hR] at HTE ⊢
    obtain ⟨⟨op', l, q⟩, ec⟩ := R
    simp only at HTE ⊢
    have e6 : (op == 6) = false := by rw [beq_eq_false_iff_ne]; omega
    have e7 : (op == 7) = false := by rw [beq_eq_false_iff_ne]; omega
    have e8 : (op == 8) = false := by rw [beq_eq_false_iff_ne]; omega
    clear hb hM hT hp hn hsp hR h0 h5
    go_enter Tryz.func15, Tryz.ntmps15
    go_wp2_with fail
    go_loopw [4, 20] (fun s4 s20 wr => (s4 = .slice none 0 0 ∧ s20 = .int .i64 0 ∧ wr = w) ∨ (s20 = .int .i64 1 ∧ ec = 0 ∧ ∃ (g cap : Nat) (A : Option Addr) (c : Nat) (vA : Option Addr) (vl vc : Nat) (uA : Option Addr) (ul uc : Nat), s4 = .slice (some ⟨g, 0, none⟩) 1 cap ∧ wr.cell? ⟨g, 0, none⟩ = some (.iface 46 (.agg #[.int .i64 op', .slice A l.length c, .int .i64 q.kind, .bool q.is, .bool q.num.down, .string (ba q.num.dig), .int .i64 q.num.exp, .string (ba q.text), .slice vA vl vc, .slice uA ul uc])) ∧ g < wr.heap.size ∧
      SlN (fun k => w.heap.size ≤ k) wr l (.slice A l.length c) ∧ RdV (fun k => w.heap.size ≤ k) wr q (.slice vA vl vc) (.slice uA ul uc) ∧ w.grownBy wr none)) (fun _ s20 _ => 1 - (intOf s20).toNat)
    case atStart => exact .inl ⟨rfl, rfl, rfl⟩
    case round =>
      rcases hrel with ⟨rfl, rfl, rfl⟩ | ⟨rfl, hec, g, cap, A, c, vA, vl, vc, uA, ul, uc, rfl, hcell, hgl, hsn, hrv, hgr⟩
      · go_wp2_with fail
        refine (HTK.out _).mono ?_
        rintro e w1 ⟨rfl, g1⟩
        have HG1 := Lib.hid (gb_trans (World.grownBy_alloc wr _ none) g1)
        have hb1 := gb_blk g1 (blk_new wr _) (by simp)
        have y0 : w1.cell? ⟨wr.heap.size, 0, none⟩ = some (.int .i64 op) := by rw [blk_c hb1]; rfl
        have y1 : w1.cell? ⟨wr.heap.size, 1, none⟩ = some (.string (ba p)) := by rw [blk_c hb1]; rfl
        have y2 : w1.cell? ⟨wr.heap.size, 2, none⟩ = some (.string (ba t)) := by rw [blk_c hb1]; rfl
        clear g1 hb1
        go_wp2_with fail
        refine (HTE.out _ HG1.out).mono ?_
        rintro e w2 ⟨A, c, vA, vl, vc, uA, ul, uc, rfl, hsn, hrv, g2⟩
        have HG2 := Lib.hid (gb_trans HG1.out g2)
        have HSN := Lib.hid (hsn.mono (F' := fun k => wr.heap.size ≤ k) (fun k hk _ => Nat.le_trans HG1.out.size hk))
        have HRV := Lib.hid (hrv.mono (F' := fun k => wr.heap.size ≤ k) (fun k hk _ => Nat.le_trans HG1.out.size hk))
        clear hsn hrv g2
        by_cases hec : ec = 0
        · subst hec
          obtain ⟨i0, hi0, hz0, hzs, hzb⟩ := info_parts info99
          have hone : ∀ u ∈ [Value.iface 46 (.agg #[.int .i64 op', .slice A l.length c, .int .i64 q.kind, .bool q.is, .bool q.num.down, .string (ba q.num.dig), .int .i64 q.num.exp, .string (ba q.text), .slice vA vl vc, .slice uA ul uc])], u.oneCell' = true := by
            intro u hu
            rw [List.mem_singleton.1 hu]
            rfl
          go_wp2_with (first
            | (at_builtin
               refine wpList_append_any _ rfl (.tmp 89) (.tmp 91) _ rfl wr.heap.size 99 i0 _ 1 16 Tryz.underlying96 hi0 hz0 hzs hzb rfl (by omega) (.slice none 0 0) 0 [] (by rfl) ⟨by simp, .inl ⟨rfl, rfl⟩⟩
                 (w2.heap.size + 2) (some ⟨w2.heap.size + 1, 0, none⟩) 1 1 [.iface 46 (.agg #[.int .i64 op', .slice A l.length c, .int .i64 q.kind, .bool q.is, .bool q.num.down, .string (ba q.num.dig), .int .i64 q.num.exp, .string (ba q.text), .slice vA vl vc, .slice uA ul uc])] (by rfl) ⟨rfl, fun _ => ⟨_, rfl, by simp, fun j u hu => by
                   match j, hu with
                   | 0, hu =>
                     have hnb := blk_new (w2.alloc (.cells #[.int .i64 op', .slice A l.length c, .int .i64 q.kind, .bool q.is, .bool q.num.down, .string (ba q.num.dig), .int .i64 q.num.exp, .string (ba q.text), .slice vA vl vc, .slice uA ul uc] 46 (0, 0))) (.cells #[.iface 46 (.agg #[.int .i64 op', .slice A l.length c, .int .i64 q.kind, .bool q.is, .bool q.num.down, .string (ba q.num.dig), .int .i64 q.num.exp, .string (ba q.text), .slice vA vl vc, .slice uA ul uc])] 99 (0, 0))
                     rw [show (w2.alloc (.cells #[.int .i64 op', .slice A l.length c, .int .i64 q.kind, .bool q.is, .bool q.num.down, .string (ba q.num.dig), .int .i64 q.num.exp, .string (ba q.text), .slice vA vl vc, .slice uA ul uc] 46 (0, 0))).heap.size = w2.heap.size + 1 by simp] at hnb
                     rw [add_eq, blk_c hnb]
                     simpa using hu⟩⟩ hone (by unfold maxLen; omega) (by omega) (by simp; have := HG2.out.size; omega) ?_
               intro v1 w3 hown3 hg3 hat3))
          obtain ⟨g, cap, rfl, hwg, hgl⟩ := World.ownsRow.form hown3 (by omega)
          have hcell : w3.cell? ⟨g, 0, none⟩ = some (.iface 46 (.agg #[.int .i64 op', .slice A l.length c, .int .i64 q.kind, .bool q.is, .bool q.num.down, .string (ba q.num.dig), .int .i64 q.num.exp, .string (ba q.text), .slice vA vl vc, .slice uA ul uc])) := by
            rw [World.ownsRow.cellAt hown3 0 (by omega)]; rfl
          have HC3 := Lib.hid hcell
          have HG23 := Lib.hid (gb_own (gb_alloc (World.grownBy_alloc w2 (.cells #[.int .i64 op', .slice A l.length c, .int .i64 q.kind, .bool q.is, .bool q.num.down, .string (ba q.num.dig), .int .i64 q.num.exp, .string (ba q.text), .slice vA vl vc, .slice uA ul uc] 46 (0, 0)) none) (.cells #[.iface 46 (.agg #[.int .i64 op', .slice A l.length c, .int .i64 q.kind, .bool q.is, .bool q.num.down, .string (ba q.num.dig), .int .i64 q.num.exp, .string (ba q.text), .slice vA vl vc, .slice uA ul uc])] 99 (0, 0))) hg3 (fun k hk => by cases hk))
          clear hown3 hg3 hat3 hcell
          go_roundw
          case rel => exact .inr ⟨by trivial, by trivial, g, cap, A, c, vA, vl, vc, uA, ul, uc, by trivial, HC3.out, hgl, HSN.out.gb HG23.out (fun _ _ h => by cases h), HRV.out.gb HG23.out (fun _ _ h => by cases h), gb_trans HG2.out HG23.out⟩
          case measure => simp [intOf]
        · have he1 : (ec != 0) = true := by simpa using hec
          have HEC := Lib.hid hec
          clear hec
          go_wp2_with fail
          go_ret2
          exact .inl ⟨HEC.out, rfl, gb_alloc HG2.out _⟩
      · have HSN := Lib.hid hsn
        have HRV := Lib.hid hrv
        have HGR := Lib.hid hgr
        have hgn : g ≠ wr.heap.size := by omega
        subst hec
        clear hsn hrv hgr
        go_wp2_with fail
        go_loopw [101] (fun s wq => (s = .int .i64 0 ∧ wq = wr.alloc (.cells #[.nilIface] 108 (0, 0))) ∨ (s = .int .i64 1 ∧ wq = wr.alloc (.cells #[.iface 46 (.agg #[.int .i64 op', .slice A l.length c, .int .i64 q.kind, .bool q.is, .bool q.num.down, .string (ba q.num.dig), .int .i64 q.num.exp, .string (ba q.text), .slice vA vl vc, .slice uA ul uc])] 108 (0, 0)))) (fun s _ => 1 - (intOf s).toNat)
        case atStart => exact .inl ⟨rfl, rfl⟩
        case round =>
          rcases hrel with ⟨rfl, rfl⟩ | ⟨rfl, rfl⟩
          · go_wp2_with fail
            go_roundw
            case rel => exact .inr ⟨by trivial, by trivial⟩
            case measure => simp [intOf]
          · go_wp2_with fail
            go_ret2
            exact .inr ⟨rfl, _, A, c, vA, vl, vc, uA, ul, uc, rfl, blk_new wr _, HSN.out.gb (World.grownBy_alloc wr _ none) (fun _ _ h => by cases h), HRV.out.gb (World.grownBy_alloc wr _ none) (fun _ _ h => by cases h), gb_alloc HGR.out _⟩
  · have hr := takes_range op (by rw [hn]; exact hn0)
    rw [hn] at hr
    have hsp : fcomp op p t = ((0, [], Js.V.zero), 1) := by unfold fcomp; rw [if_pos (by rw [hn]; exact hn0)]
    rw [hsp]
    clear hb hM hT hp hn hsp HTE hn0
    simp only
    rcases hr with rfl | rfl | rfl
    all_goals
      go_enter Tryz.func15, Tryz.ntmps15
      go_wp2_with fail
      go_loopw [4, 20] (fun s4 s20 wr => s4 = .slice none 0 0 ∧ s20 = .int .i64 0 ∧ wr = w) (fun _ s20 _ => 0)
      case atStart => exact ⟨rfl, rfl, rfl⟩
      case round =>
        obtain ⟨rfl, rfl, rfl⟩ := hrel
        go_wp2_with fail
        refine (HTK.out _).mono ?_
        rintro e w1 ⟨rfl, g1⟩
        have HG1 := Lib.hid (gb_trans (World.grownBy_alloc wr _ none) g1)
        clear g1
        go_wp2_with fail
        go_ret2
        exact .inl ⟨by decide, rfl, HG1.out⟩
end Go.Proofs.YtocjlbpehfpdoaaGreatDoor

set_option linter.unusedVariables false
set_option linter.unusedSimpArgs false
namespace Go.Proofs.YtocjlbpehfpdoaaGreatDoor
open Go.RowKit

/-- One name of one's own, in a slice. -/
def CloneOut (w : World) (n : Js.Bs) (e : Ending) (w' : World) : Prop := ∃ g cap, e = .returned (.slice (some ⟨g, 0, none⟩) 1 cap) ∧ w'.cell? ⟨g, 0, none⟩ = some (.string (ba n)) ∧ w.heap.size ≤ g ∧ g < w'.heap.size ∧ 1 ≤ cap ∧ w.grownBy w' none
theorem clone_one (n : Js.Bs) (sb so sc : Nat) (w : World) (hc : w.cell? ⟨sb, so, none⟩ = some (.string (ba n))) : Calls Tryz.prog 114 #[.slice (some ⟨sb, so, none⟩) 1 sc] w (CloneOut w n) := by
  refine (Tryz.slices_Clone_string sb so 1 sc [ba n] w (by simp) (by omega) (fun j hj => ?_)).mono ?_
  · have : j = 0 := by simp at hj; omega
    subst this
    exact hc
  · rintro e w1 ⟨v', rfl, hown, -, hbel⟩
    obtain ⟨g, cap, rfl, hwg, hgl⟩ := World.ownsRow.form hown (by omega)
    refine ⟨g, cap, rfl, ?_, hwg, hgl, ?_, gb_below hbel⟩
    · rw [World.ownsRow.cellAt hown 0 (by omega)]; rfl
    · rcases hown.2 with ⟨h, -⟩ | h
      · cases h
      · obtain ⟨g', cap', cur, e', -, -, h', -⟩ := h
        simp only [Value.slice.injEq] at e'
        omega
@[go_sem] theorem assert46 (v : Value) (xT : TypeId) (w : World) : (Instr.typeAssert (.iface 46 v) xT 46 true).run Tryz.prog w = .ok (.tuple #[v, .bool true]) w := by
  simp [Instr.typeAssert, run_underlying Tryz.underlying46, go_sem, Result.andThen]
/-- One test in a slice, with steps of its own. -/
def MuOut (w : World) (n : Js.Bs) (op : Int) (c2 c3 c4 c5 c6 c7 c8 c9 : Value) (e : Ending) (w' : World) : Prop := ∃ tb g cap, e = .returned (.slice (some ⟨tb, 0, none⟩) 1 1) ∧ w'.heap[tb]? = some (.cells #[.int .i64 op, .slice (some ⟨g, 0, none⟩) 1 cap, c2, c3, c4, c5, c6, c7, c8, c9] 46 (0, 0)) ∧ w'.cell? ⟨g, 0, none⟩ = some (.string (ba n)) ∧ w.heap.size ≤ g ∧ g < w'.heap.size ∧ 1 ≤ cap ∧ w.grownBy w' none
set_option maxRecDepth 100000 in
set_option maxHeartbeats 16000000 in
theorem flt_musts (n : Js.Bs) (op : Int) (sb so sc : Nat) (k2 : Int) (is2 dn2 : Bool) (dig2 t2 : Js.Bs) (ex2 : Int) (vA2 uA2 : Option Addr) (vl2 vc2 ul2 uc2 : Nat) (w : World) (hc : w.cell? ⟨sb, so, none⟩ = some (.string (ba n))) :
    Calls Tryz.prog 51 #[.iface 46 (.agg #[.int .i64 op, .slice (some ⟨sb, so, none⟩) 1 sc, .int .i64 k2, .bool is2, .bool dn2, .string (ba dig2), .int .i64 ex2, .string (ba t2), .slice vA2 vl2 vc2, .slice uA2 ul2 uc2])] w (MuOut w n op (.int .i64 k2) (.bool is2) (.bool dn2) (.string (ba dig2)) (.int .i64 ex2) (.string (ba t2)) (.slice vA2 vl2 vc2) (.slice uA2 ul2 uc2)) := by
  have ag := World.grownBy_alloc w (.cells #[.int .i64 op, .slice (some ⟨sb, so, none⟩) 1 sc, .int .i64 k2, .bool is2, .bool dn2, .string (ba dig2), .int .i64 ex2, .string (ba t2), .slice vA2 vl2 vc2, .slice uA2 ul2 uc2] 46 (0, 0)) none
  have hb0 := blk_new w (.cells #[.int .i64 op, .slice (some ⟨sb, so, none⟩) 1 sc, .int .i64 k2, .bool is2, .bool dn2, .string (ba dig2), .int .i64 ex2, .string (ba t2), .slice vA2 vl2 vc2, .slice uA2 ul2 uc2] 46 (0, 0))
  have HC := Lib.hid (clone_one n sb so sc (w.alloc (.cells #[.int .i64 op, .slice (some ⟨sb, so, none⟩) 1 sc, .int .i64 k2, .bool is2, .bool dn2, .string (ba dig2), .int .i64 ex2, .string (ba t2), .slice vA2 vl2 vc2, .slice uA2 ul2 uc2] 46 (0, 0))) (ag.cell hc (by simp)))
  have HB := Lib.hid hb0
  have HAG := Lib.hid ag
  clear hc hb0 ag
  go_enter Tryz.func51, Tryz.ntmps51
  go_wp2_with fail
  refine HC.out.mono ?_
  rintro e w1 ⟨g, cap, rfl, hg, hwg, hgl, hcap, g1⟩
  have HG1 := Lib.hid (And.intro hg (And.intro hwg (And.intro hgl (And.intro hcap g1))))
  have hb1 := gb_blk g1 HB.out (by simp)
  have hne : g ≠ w.heap.size := by simp at hwg; omega
  have hb2 := blk_set' hb1 1 (.slice (some ⟨g, 0, none⟩) 1 cap)
  simp only [List.setIfInBounds_toArray, List.set_cons_zero, List.set_cons_succ] at hb2
  have HB2 := Lib.hid hb2
  obtain ⟨x0, x1, x2, x3, x4, x5, x6, x7, x8, x9⟩ := blk10 hb1
  obtain ⟨y0, y1, y2, y3, y4, y5, y6, y7, y8, y9⟩ := blk10 hb2
  obtain ⟨f0, f1, f2, f3, f4, f5, f6, f7, f8, f9⟩ := frz10 hb1
  clear hg hwg hgl hcap g1 hb1 hb2
  go_wp2_with fail
  go_ret
  obtain ⟨hg, hwg, hgl, hcap, g1⟩ := HG1.out
  have hs : (w1.setCell ⟨w.heap.size, 1, none⟩ (.slice (some ⟨g, 0, none⟩) 1 cap)).heap.size = w1.heap.size := by simp
  have hgs : w.grownBy (w1.setCell ⟨w.heap.size, 1, none⟩ (.slice (some ⟨g, 0, none⟩) 1 cap)) none := gb_set (gb_trans HAG.out g1) (.inl (Nat.le_refl _)) _
  have hnb := blk_new (w1.setCell ⟨w.heap.size, 1, none⟩ (.slice (some ⟨g, 0, none⟩) 1 cap)) (.cells #[.int .i64 op, .slice (some ⟨g, 0, none⟩) 1 cap, .int .i64 k2, .bool is2, .bool dn2, .string (ba dig2), .int .i64 ex2, .string (ba t2), .slice vA2 vl2 vc2, .slice uA2 ul2 uc2] 46 (0, 0))
  rw [hs] at hnb
  refine ⟨w1.heap.size, g, cap, rfl, hnb, ?_, ?_, ?_, hcap, gb_alloc hgs _⟩
  · exact (World.grownBy_alloc _ _ none).cell ((World.cell?_setCell_far _ _ _ _ (fun e => hne e.symm)).trans hg) (by simp)
  · simp at hwg; omega
  · simp; omega
set_option maxRecDepth 100000 in
set_option maxHeartbeats 16000000 in
theorem flt_Musts (n : Js.Bs) (op : Int) (fb sb so sc : Nat) (k2 : Int) (is2 dn2 : Bool) (dig2 t2 : Js.Bs) (ex2 : Int) (vA2 uA2 : Option Addr) (vl2 vc2 ul2 uc2 : Nat) (w : World) (hc : w.cell? ⟨sb, so, none⟩ = some (.string (ba n)))
    (hf : w.heap[fb]? = some (.cells #[.iface 46 (.agg #[.int .i64 op, .slice (some ⟨sb, so, none⟩) 1 sc, .int .i64 k2, .bool is2, .bool dn2, .string (ba dig2), .int .i64 ex2, .string (ba t2), .slice vA2 vl2 vc2, .slice uA2 ul2 uc2])] 108 (0, 0))) :
    Calls Tryz.prog 16 #[.pointer (some ⟨fb, 0, none⟩)] w (MuOut w n op (.int .i64 k2) (.bool is2) (.bool dn2) (.string (ba dig2)) (.int .i64 ex2) (.string (ba t2)) (.slice vA2 vl2 vc2) (.slice uA2 ul2 uc2)) := by
  have HC := Lib.hid (flt_musts n op sb so sc k2 is2 dn2 dig2 t2 ex2 vA2 uA2 vl2 vc2 ul2 uc2 w hc)
  have f0 := blk_c hf 0
  clear hc hf
  go_enter Tryz.func16, Tryz.ntmps16
  go_wp2_with fail
  refine HC.out.mono ?_
  rintro e w1 ⟨tb, g, cap, rfl, hb, hg, hwg, hgl, hcap, g1⟩
  have HR := Lib.hid (And.intro hb (And.intro hg (And.intro hwg (And.intro hgl (And.intro hcap g1)))))
  clear hb hg hwg hgl hcap g1
  go_wp2_with fail
  go_ret
  exact ⟨tb, g, cap, rfl, HR.out⟩
end Go.Proofs.YtocjlbpehfpdoaaGreatDoor

set_option linter.unusedVariables false
set_option linter.unusedSimpArgs false
namespace Go.Proofs.YtocjlbpehfpdoaaGreatDoor
open Go.RowKit

theorem equal_one (n m : Js.Bs) (g sb so sc : Nat) (w : World) (h1 : w.cell? ⟨g, 0, none⟩ = some (.string (ba n))) (h2 : w.cell? ⟨sb, so, none⟩ = some (.string (ba m))) :
    Calls Tryz.prog 103 #[.slice (some ⟨g, 0, none⟩) 1 1, .slice (some ⟨sb, so, none⟩) 1 sc] w (BlOut w (n == m)) := by
  refine (Tryz.slices_Equal_string g 0 1 1 sb so 1 sc [ba n] [ba m] w (by simp) (by simp) (by omega) (by omega) (fun j hj => ?_) (fun j hj => ?_)).mono ?_
  · have : j = 0 := by simp at hj; omega
    subst this
    exact h1
  · have : j = 0 := by simp at hj; omega
    subst this
    exact h2
  · rintro e w1 ⟨rfl, q, rfl⟩
    refine ⟨?_, gb_drewN (gb_refl _ _) q⟩
    congr 2
    rw [Bool.eq_iff_iff, decide_eq_true_eq, beq_iff_eq]
    simp [ba_inj]
/-- What stands in memory of two ways, "b" and "a", and of a test's way, "a". -/
def Ch (ob bb ab sb so : Nat) (W : World) : Prop := W.heap[ob]? = some (.cells #[.slice (some ⟨bb, 0, none⟩) 1 1, .slice (some ⟨ab, 0, none⟩) 1 1] 27 (0, 0)) ∧ W.heap[bb]? = some (.cells #[.string (ba [98])] 9 (0, 0)) ∧ W.heap[ab]? = some (.cells #[.string (ba [97])] 9 (0, 0)) ∧ W.cell? ⟨sb, so, none⟩ = some (.string (ba [97]))
theorem Ch.gb {ob bb ab sb so : Nat} {W W' : World} (h : Ch ob bb ab sb so W) (hg : W.grownBy W' none) : Ch ob bb ab sb so W' :=
  ⟨gb_blk hg h.1 (by simp), gb_blk hg h.2.1 (by simp), gb_blk hg h.2.2.1 (by simp), hg.cell h.2.2.2 (by simp)⟩
section
variable (op : Int) (ob bb ab sb so sc : Nat) (k2 : Int) (is2 dn2 : Bool) (dig2 t2 : Js.Bs) (ex2 : Int) (vA2 uA2 : Option Addr) (vl2 vc2 ul2 uc2 : Nat) (w : World)
set_option maxRecDepth 100000 in
set_option maxHeartbeats 8000000 in
theorem ch_equal (n m : Js.Bs) (g xb : Nat) (h1 : w.cell? ⟨g, 0, none⟩ = some (.string (ba n))) (h2 : w.cell? ⟨sb, so, none⟩ = some (.string (ba m))) (hx : w.heap[xb]? = some (.cells #[.int .i64 op, .slice (some ⟨sb, so, none⟩) 1 sc, .int .i64 k2, .bool is2, .bool dn2, .string (ba dig2), .int .i64 ex2, .string (ba t2), .slice vA2 vl2 vc2, .slice uA2 ul2 uc2] 46 (0, 0))) :
    Calls Tryz.prog 102 #[.slice (some ⟨g, 0, none⟩) 1 1, .pointer (some ⟨xb, 0, none⟩)] w (BlOut w (n == m)) := by
  have HE := Lib.hid (equal_one n m g sb so sc w h1 h2)
  obtain ⟨b, hb⟩ : ∃ b, (n == m) = b := ⟨_, rfl⟩
  rw [hb] at HE ⊢
  obtain ⟨x0, x1, x2, x3, x4, x5, x6, x7, x8, x9⟩ := blk10 hx
  clear h1 h2 hx hb
  go_enter Tryz.func102, Tryz.ntmps102
  go_wp2_with fail
  refine HE.out.mono ?_
  rintro e w1 ⟨rfl, g1⟩
  have HG := Lib.hid g1
  clear g1
  go_wp2_with fail
  go_ret
  exact ⟨rfl, HG.out⟩
set_option maxRecDepth 100000 in
set_option maxHeartbeats 8000000 in
theorem ch_index (xb : Nat) (hC : Ch ob bb ab sb so w) (hx : w.heap[xb]? = some (.cells #[.int .i64 op, .slice (some ⟨sb, so, none⟩) 1 sc, .int .i64 k2, .bool is2, .bool dn2, .string (ba dig2), .int .i64 ex2, .string (ba t2), .slice vA2 vl2 vc2, .slice uA2 ul2 uc2] 46 (0, 0))) :
    Calls Tryz.prog 101 #[.slice (some ⟨ob, 0, none⟩) 2 2, .func (.func 102) #[] #[.pointer (some ⟨xb, 0, none⟩)]] w (IOut w 1) := by
  have H1 := Lib.hid (show Calls Tryz.prog 102 #[.slice (some ⟨bb, 0, none⟩) 1 1, .pointer (some ⟨xb, 0, none⟩)] w (BlOut w false) from ch_equal op sb so sc k2 is2 dn2 dig2 t2 ex2 vA2 uA2 vl2 vc2 ul2 uc2 w [98] [97] bb xb (blk_c hC.2.1 0) hC.2.2.2 hx)
  have H2 := Lib.hid (fun W (hg : w.grownBy W none) => show Calls Tryz.prog 102 #[.slice (some ⟨ab, 0, none⟩) 1 1, .pointer (some ⟨xb, 0, none⟩)] W (BlOut W true) from ch_equal op sb so sc k2 is2 dn2 dig2 t2 ex2 vA2 uA2 vl2 vc2 ul2 uc2 W [97] [97] ab xb (blk_c (hC.gb hg).2.2.1 0) (hC.gb hg).2.2.2 (gb_blk hg hx (by simp)))
  have o0 : w.cell? ⟨ob, 0, none⟩ = some (.slice (some ⟨bb, 0, none⟩) 1 1) := blk_c hC.1 0
  have HO := Lib.hid (fun W (hg : w.grownBy W none) => show W.cell? ⟨ob, 1, none⟩ = some (.slice (some ⟨ab, 0, none⟩) 1 1) from blk_c (hC.gb hg).1 1)
  clear hC hx
  go_enter Tryz.func101, Tryz.ntmps101
  go_wp2_with fail
  go_loopw [8] (fun s8 wr => (s8 = .int .i64 0 ∧ wr = w) ∨ (s8 = .int .i64 1 ∧ w.grownBy wr none)) (fun s8 _ => 1 - (intOf s8).toNat)
  case atStart => exact .inl ⟨rfl, rfl⟩
  case round =>
    rcases hrel with ⟨rfl, rfl⟩ | ⟨rfl, hg⟩
    · go_wp2_with fail
      refine H1.out.mono ?_
      rintro e w1 ⟨rfl, g1⟩
      have HG1 := Lib.hid g1
      clear g1
      go_wp2_with fail
      go_roundw
      case rel => exact .inr ⟨rfl, HG1.out⟩
      case measure => simp [intOf]
    · have HG1 := Lib.hid hg
      have o1 := HO.out _ hg
      clear hg
      go_wp2_with fail
      refine (H2.out _ HG1.out).mono ?_
      rintro e w1 ⟨rfl, g1⟩
      have HG2 := Lib.hid (gb_trans HG1.out g1)
      clear g1
      go_wp2_with fail
      go_ret
      exact ⟨rfl, HG2.out⟩
set_option maxRecDepth 100000 in
set_option maxHeartbeats 8000000 in
theorem ch_which (pb : Nat) (hC : Ch ob bb ab sb so w) (hp : w.heap[pb]? = some (.cells #[.slice (some ⟨ob, 0, none⟩) 2 2] 85 (0, 0))) :
    Calls Tryz.prog 100 #[.agg #[.int .i64 op, .slice (some ⟨sb, so, none⟩) 1 sc, .int .i64 k2, .bool is2, .bool dn2, .string (ba dig2), .int .i64 ex2, .string (ba t2), .slice vA2 vl2 vc2, .slice uA2 ul2 uc2], .pointer (some ⟨pb, 0, none⟩)] w (IOut w 1) := by
  have ag := World.grownBy_alloc w (.cells #[.int .i64 op, .slice (some ⟨sb, so, none⟩) 1 sc, .int .i64 k2, .bool is2, .bool dn2, .string (ba dig2), .int .i64 ex2, .string (ba t2), .slice vA2 vl2 vc2, .slice uA2 ul2 uc2] 46 (0, 0)) none
  have HI := Lib.hid (ch_index op ob bb ab sb so sc k2 is2 dn2 dig2 t2 ex2 vA2 uA2 vl2 vc2 ul2 uc2 _ w.heap.size (hC.gb ag) (blk_new w (.cells #[.int .i64 op, .slice (some ⟨sb, so, none⟩) 1 sc, .int .i64 k2, .bool is2, .bool dn2, .string (ba dig2), .int .i64 ex2, .string (ba t2), .slice vA2 vl2 vc2, .slice uA2 ul2 uc2] 46 (0, 0))))
  have p0 : w.cell? ⟨pb, 0, none⟩ = some (.slice (some ⟨ob, 0, none⟩) 2 2) := blk_c hp 0
  have hpl : pb < w.heap.size := blk_lt' hp
  have hpn : pb ≠ w.heap.size := by omega
  have HG := Lib.hid ag
  clear hC hp ag
  go_enter Tryz.func100, Tryz.ntmps100
  go_wp2_with fail
  refine HI.out.mono ?_
  rintro e w1 ⟨rfl, g1⟩
  have HG1 := Lib.hid (gb_trans HG.out g1)
  clear g1
  go_wp2_with fail
  go_ret
  exact ⟨rfl, HG1.out⟩
end
end Go.Proofs.YtocjlbpehfpdoaaGreatDoor
