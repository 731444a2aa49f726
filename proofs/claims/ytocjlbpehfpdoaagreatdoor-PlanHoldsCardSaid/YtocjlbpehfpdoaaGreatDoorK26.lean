/- package plan: Choose, where the second way is the test's: the loops. -/
import Derived.Test.YtocjlbpehfpdoaaGreatDoorK25
set_option linter.unusedVariables false
set_option linter.unusedSimpArgs false
namespace Go.Proofs.YtocjlbpehfpdoaaGreatDoor
open Go.RowKit

theorem set3_gb (w4 : World) (b : Nat) (x0 x1 x2 : Value) : w4.grownBy (((w4.setCell ⟨b, 0, none⟩ x0).setCell ⟨b, 1, none⟩ x1).setCell ⟨b, 2, none⟩ x2) (some b) := by
  iterate 3 refine gb_set ?_ (.inr rfl) _
  exact gb_refl _ _
/-- What Choose has made of memory. -/
def ChW (ob : Nat) (w W : World) : Prop := w.grownBy W none ∧ W.heap[w.heap.size]? = some (.cells #[.slice (some ⟨ob, 0, none⟩) 2 2] 85 (0, 0)) ∧ W.heap[w.heap.size + 1]? = some (.cells #[.int .i64 0, .slice none 0 0, .slice none 0 0] 82 (0, 0)) ∧ W.heap[w.heap.size + 2]? = some (.cells #[.bool true, .bool false] 4 (0, 0))
theorem ChW.gb {ob : Nat} {w W W' : World} (h : ChW ob w W) (hg : W.grownBy W' none) : ChW ob w W' := ⟨gb_trans h.1 hg, gb_blk hg h.2.1 (by simp), gb_blk hg h.2.2.1 (by simp), gb_blk hg h.2.2.2 (by simp)⟩
/-- A span found, of the second way. -/
def SpOut (w : World) (l1 l2 : Js.Bs) (e : Ending) (w' : World) : Prop := ∃ r1 r2, e = .returned (.tuple #[.agg #[.int .i64 1, r1, r2], .bool true]) ∧ SlB (fun k => w.heap.size ≤ k) w' l1 r1 ∧ SlB (fun k => w.heap.size ≤ k) w' l2 r2 ∧ w.grownBy w' none
variable (ob bb ab sb so sc : Nat) (k2 : Int) (is2 dn2 : Bool) (dig2 t2 : Js.Bs) (ex2 : Int) (vA2 uA2 : Option Addr) (vl2 vc2 ul2 uc2 : Nat) (w : World)
set_option maxRecDepth 100000 in
set_option maxHeartbeats 16000000 in
theorem plan_choose (B mb : Nat) (l1 l2 : Js.Bs) (hC : Ch ob bb ab sb so w) (hm : w.heap[mb]? = some (.cells #[.int .i64 2, .slice (some ⟨sb, so, none⟩) 1 sc, .int .i64 k2, .bool is2, .bool dn2, .string (ba dig2), .int .i64 ex2, .string (ba t2), .slice vA2 vl2 vc2, .slice uA2 ul2 uc2] 46 (0, 0))) (hk : Knd B w) (h0 : 0 ≤ k2) (h5 : k2 ≤ 5) (hn : NumW ⟨dn2, dig2, ex2⟩) (ht : t2.length ≤ 4096) (items : List Js.V) (names : List Js.Bs)
    (hb : Js.bounds 2 ⟨k2, is2, ⟨dn2, dig2, ex2⟩, t2, items, names⟩ = (l1, l2, true)) :
    Calls Tryz.prog 41 #[.slice (some ⟨ob, 0, none⟩) 2 2, .slice (some ⟨mb, 0, none⟩) 1 1] w (SpOut w l1 l2) := by
  have HB := Lib.hid (fun W (hg : w.grownBy W none) => show Calls Tryz.prog 17 #[.agg #[.int .i64 2, .slice (some ⟨sb, so, none⟩) 1 sc, .int .i64 k2, .bool is2, .bool dn2, .string (ba dig2), .int .i64 ex2, .string (ba t2), .slice vA2 vl2 vc2, .slice uA2 ul2 uc2]] W (B3Out W l1 l2 true) by
    have := plan_bounds 2 k2 is2 dn2 dig2 t2 ex2 (some ⟨sb, so, none⟩) vA2 uA2 1 sc vl2 vc2 ul2 uc2 W B (hk.gbn hg) h0 h5 hn ht items names
    rw [hb] at this
    exact this)
  obtain ⟨oX, hoX⟩ : ∃ o, o = Obj.cells #[.slice (some ⟨ob, 0, none⟩) 2 2] 85 (0, 0) := ⟨_, rfl⟩
  obtain ⟨oZ, hoZ⟩ : ∃ o, o = Obj.cells #[.int .i64 0, .slice none 0 0, .slice none 0 0] 82 (0, 0) := ⟨_, rfl⟩
  obtain ⟨oT, hoT⟩ : ∃ o, o = Obj.cells #[.bool true, .bool false] 4 (0, 0) := ⟨_, rfl⟩
  have a1 := allocs_at [oX, oZ, oT] w 0 _ rfl
  have a2 := allocs_at [oX, oZ, oT] w 1 _ rfl
  have a3 := allocs_at [oX, oZ, oT] w 2 _ rfl
  have ag := allocs_gb [oX, oZ, oT] w
  subst hoX hoZ hoT
  simp only [allocs, Nat.add_zero] at a1 a2 a3 ag
  have HW0 := Lib.hid (show ChW ob w _ from ⟨ag, a1, a2, a3⟩)
  have HC := Lib.hid hC
  have HM := Lib.hid hm
  clear hC hm hk h0 h5 hn ht hb a1 a2 a3 ag
  go_enter Tryz.func41, Tryz.ntmps41
  go_wp2_with fail
  go_loopw [18] (fun s18 wr => (s18 = .int .i64 0 ∨ s18 = .int .i64 1) ∧ ChW ob w wr) (fun s18 _ => 1 - (intOf s18).toNat)
  case atStart => exact ⟨.inl rfl, HW0.out⟩
  case round =>
    obtain ⟨rfl | rfl, hrel⟩ := hrel
    ·
      obtain ⟨hg, hp, hs, ha⟩ := hrel
      have hCx := HC.out.gb hg
      have hmx := gb_blk hg HM.out (by simp)
      have a0 : wr.cell? ⟨w.heap.size + 2, 0, none⟩ = some (.bool true) := blk_c ha 0
      have a1 : wr.cell? ⟨w.heap.size + 2, 1, none⟩ = some (.bool false) := blk_c ha 1
      have HW1 := Lib.hid (show ChW ob w wr from ⟨hg, hp, hs, ha⟩)
      clear hg hp hs ha hCx hmx
      go_wp2_with fail
      go_loopw [24] (fun s24 wq => (s24 = .int .i64 0 ∨ s24 = .int .i64 1) ∧ ChW ob w wq) (fun s24 _ => 1 - (intOf s24).toNat)
      case atStart => exact ⟨.inl rfl, HW1.out⟩
      case round =>
        clear HW1 a0 a1
        obtain ⟨rfl | rfl, hg, hp, hs, ha⟩ := hrel
        ·
          have hmx := gb_blk hg HM.out (by simp)
          obtain ⟨x0, x1, x2, x3, x4, x5, x6, x7, x8, x9⟩ := blk10 hmx
          have hlt : mb < wr.heap.size := blk_lt' hmx
          have hmn : mb ≠ wr.heap.size := by omega
          have HW := Lib.hid (show ChW ob w (wr.alloc (.cells #[.int .i64 2, .slice (some ⟨sb, so, none⟩) 1 sc, .int .i64 k2, .bool is2, .bool dn2, .string (ba dig2), .int .i64 ex2, .string (ba t2), .slice vA2 vl2 vc2, .slice uA2 ul2 uc2] 46 (0, 0))) from ⟨gb_alloc hg _, blk_alloc hp _, blk_alloc hs _, blk_alloc ha _⟩)
          have HT := Lib.hid (blk_new wr (.cells #[.int .i64 2, .slice (some ⟨sb, so, none⟩) 1 sc, .int .i64 k2, .bool is2, .bool dn2, .string (ba dig2), .int .i64 ex2, .string (ba t2), .slice vA2 vl2 vc2, .slice uA2 ul2 uc2] 46 (0, 0)))
          clear hg hp hs ha hmx
          go_wp2_with fail
          refine (HB.out _ HW.out.1).mono ?_
          rintro e w1 ⟨r1, r2, rfl, hr1, hr2, g1⟩
          obtain ⟨rA, rc, rfl, _, _, _⟩ := hr1.reads
          obtain ⟨qA, qc, rfl, _, _, _⟩ := hr2.reads
          have HW1 := Lib.hid (HW.out.gb g1)
          have HR1 := Lib.hid (hr1.mono (F' := fun k => w.heap.size + 3 ≤ k) (fun k hk _ => Nat.le_trans (blk_lt' HW.out.2.2.2) hk))
          have HR2 := Lib.hid (hr2.mono (F' := fun k => w.heap.size + 3 ≤ k) (fun k hk _ => Nat.le_trans (blk_lt' HW.out.2.2.2) hk))
          have ht1 := gb_blk g1 HT.out (by simp)
          have HT1 := Lib.hid ht1
          obtain ⟨y0, y1, y2, y3, y4, y5, y6, y7, y8, y9⟩ := blk10 ht1
          clear hr1 hr2 g1 ht1 x0 x1 x2 x3 x4 x5 x6 x7 x8 x9 hlt hmn
          go_wp2_with fail
          refine (ch_which 2 ob bb ab sb so sc k2 is2 dn2 dig2 t2 ex2 vA2 uA2 vl2 vc2 ul2 uc2 w1 w.heap.size (HC.out.gb HW1.out.1) HW1.out.2.1).mono ?_
          rintro e w2 ⟨rfl, g2⟩
          have hw2 := HW1.out.gb g2
          have HW2 := Lib.hid hw2
          have HR12 := Lib.hid (HR1.out.gbn g2)
          have HR22 := Lib.hid (HR2.out.gbn g2)
          have ht2 := gb_blk g2 HT1.out (by simp)
          obtain ⟨y0, y1, y2, y3, y4, y5, y6, y7, y8, y9⟩ := blk10 ht2

          clear hw2 ht2
          go_wp2_with fail
          go_roundw
          case rel => exact ⟨.inr (by trivial), HW2.out⟩
          case measure => simp [intOf]
        · have HW2 := Lib.hid (show ChW ob w wr from ⟨hg, hp, hs, ha⟩)
          clear hg hp hs ha
          go_wp2_with fail
          go_roundw
          case rel => exact ⟨.inr (by trivial), HW2.out⟩
          case measure => simp [intOf]
    ·
      obtain ⟨hg, hp, hs, ha⟩ := hrel
      have hCx := HC.out.gb hg
      have hmx := gb_blk hg HM.out (by simp)
      have a0 : wr.cell? ⟨w.heap.size + 2, 0, none⟩ = some (.bool true) := blk_c ha 0
      have a1 : wr.cell? ⟨w.heap.size + 2, 1, none⟩ = some (.bool false) := blk_c ha 1
      have HW1 := Lib.hid (show ChW ob w wr from ⟨hg, hp, hs, ha⟩)
      clear hg hp hs ha hCx hmx
      go_wp2_with fail
      go_loopw [24] (fun s24 wq => s24 = .int .i64 0 ∧ ChW ob w wq) (fun s24 _ => 0)
      case atStart => exact ⟨rfl, HW1.out⟩
      case round =>
        clear HW1 a0 a1
        obtain ⟨rfl, hg, hp, hs, ha⟩ := hrel
        have hmx := gb_blk hg HM.out (by simp)
        obtain ⟨x0, x1, x2, x3, x4, x5, x6, x7, x8, x9⟩ := blk10 hmx
        have hlt : mb < wr.heap.size := blk_lt' hmx
        have hmn : mb ≠ wr.heap.size := by omega
        have HW := Lib.hid (show ChW ob w (wr.alloc (.cells #[.int .i64 2, .slice (some ⟨sb, so, none⟩) 1 sc, .int .i64 k2, .bool is2, .bool dn2, .string (ba dig2), .int .i64 ex2, .string (ba t2), .slice vA2 vl2 vc2, .slice uA2 ul2 uc2] 46 (0, 0))) from ⟨gb_alloc hg _, blk_alloc hp _, blk_alloc hs _, blk_alloc ha _⟩)
        have HT := Lib.hid (blk_new wr (.cells #[.int .i64 2, .slice (some ⟨sb, so, none⟩) 1 sc, .int .i64 k2, .bool is2, .bool dn2, .string (ba dig2), .int .i64 ex2, .string (ba t2), .slice vA2 vl2 vc2, .slice uA2 ul2 uc2] 46 (0, 0)))
        clear hg hp hs ha hmx
        go_wp2_with fail
        refine (HB.out _ HW.out.1).mono ?_
        rintro e w1 ⟨r1, r2, rfl, hr1, hr2, g1⟩
        obtain ⟨rA, rc, rfl, _, _, _⟩ := hr1.reads
        obtain ⟨qA, qc, rfl, _, _, _⟩ := hr2.reads
        have HW1 := Lib.hid (HW.out.gb g1)
        have HR1 := Lib.hid (hr1.mono (F' := fun k => w.heap.size + 3 ≤ k) (fun k hk _ => Nat.le_trans (blk_lt' HW.out.2.2.2) hk))
        have HR2 := Lib.hid (hr2.mono (F' := fun k => w.heap.size + 3 ≤ k) (fun k hk _ => Nat.le_trans (blk_lt' HW.out.2.2.2) hk))
        have ht1 := gb_blk g1 HT.out (by simp)
        have HT1 := Lib.hid ht1
        obtain ⟨y0, y1, y2, y3, y4, y5, y6, y7, y8, y9⟩ := blk10 ht1
        clear hr1 hr2 g1 ht1 x0 x1 x2 x3 x4 x5 x6 x7 x8 x9 hlt hmn
        go_wp2_with fail
        refine (ch_which 2 ob bb ab sb so sc k2 is2 dn2 dig2 t2 ex2 vA2 uA2 vl2 vc2 ul2 uc2 w1 w.heap.size (HC.out.gb HW1.out.1) HW1.out.2.1).mono ?_
        rintro e w2 ⟨rfl, g2⟩
        have hw2 := HW1.out.gb g2
        have HW2 := Lib.hid hw2
        have HR12 := Lib.hid (HR1.out.gbn g2)
        have HR22 := Lib.hid (HR2.out.gbn g2)
        have ht2 := gb_blk g2 HT1.out (by simp)
        obtain ⟨y0, y1, y2, y3, y4, y5, y6, y7, y8, y9⟩ := blk10 ht2

        have z0 := blk_c hw2.2.2.1 0
        have z1 := blk_c hw2.2.2.1 1
        have z2 := blk_c hw2.2.2.1 2
        have f0 := blk_f hw2.2.2.1 0
        have f1 := blk_f hw2.2.2.1 1
        have f2 := blk_f hw2.2.2.1 2
        clear hw2 ht2
        go_wp2_with fail
        refine bodyPost_ret (v := .tuple #[.agg #[.int .i64 1, .slice rA l1.length rc, .slice qA l2.length qc], .bool true]) (by simp [results, Tryz.results41, go_sem, z0, z1, z2]) rfl ?_
        refine ⟨_, _, rfl, ?_, ?_, ?_⟩
        · exact (HR12.out.gb (set3_gb _ _ _ _ _) (fun k hk h => by cases h; omega)).mono (fun k hk _ => by show w.heap.size ≤ k; omega)
        · exact (HR22.out.gb (set3_gb _ _ _ _ _) (fun k hk h => by cases h; omega)).mono (fun k hk _ => by show w.heap.size ≤ k; omega)
        · exact gb_new HW2.out.1 (set3_gb _ _ _ _ _) (by omega)
end Go.Proofs.YtocjlbpehfpdoaaGreatDoor
