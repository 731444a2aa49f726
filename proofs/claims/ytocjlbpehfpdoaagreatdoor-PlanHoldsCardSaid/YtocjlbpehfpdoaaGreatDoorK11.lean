/- package order: Kind, Key. -/
import Derived.Test.YtocjlbpehfpdoaaGreatDoorK10
import Derived.Test.YtocjlbpehfpdoaaGreatDoorK04
set_option linter.unusedVariables false
set_option linter.unusedSimpArgs false
namespace Go.Proofs.YtocjlbpehfpdoaaGreatDoor
open Go.RowKit

def kindsL : List Int := [1, 2, 2, 4, 4, 5, 5, 6, 6, 7, 6, 7]
/-- order's table, as it was laid: below B. -/
def Knd (B : Nat) (w : World) : Prop := 0 < B ∧ B ≤ w.heap.size ∧ ∀ j x, kindsL[j]? = some x → w.cell? ⟨0, j, none⟩ = some (.int .u8 x)
theorem Knd.gb {B : Nat} {w w' : World} {row : Option Nat} (h : Knd B w) (hg : w.grownBy w' row) (hr : ∀ k, row = some k → B ≤ k) : Knd B w' := by
  obtain ⟨h0, h1, h2⟩ := h
  refine ⟨h0, Nat.le_trans h1 hg.size, fun j x hj => ?_⟩
  exact (World.cell?_of_block (a := ⟨0, j, none⟩) (hg.block 0 (by omega) (fun e => by have := hr 0 e.symm; omega))).trans (h2 j x hj)
theorem Knd.gbn {B : Nat} {w w' : World} (h : Knd B w) (hg : w.grownBy w' none) : Knd B w' := h.gb hg (fun _ e => by cases e)
theorem Knd.op {B : Nat} {w : World} (h : Knd B w) : (0 : Nat) ≠ w.heap.size ∧ w.cell? ⟨0, 0, none⟩ = some (.int .u8 1) ∧ w.cell? ⟨0, 1, none⟩ = some (.int .u8 2) ∧ w.cell? ⟨0, 2, none⟩ = some (.int .u8 2) ∧ w.cell? ⟨0, 3, none⟩ = some (.int .u8 4) ∧
    w.cell? ⟨0, 4, none⟩ = some (.int .u8 4) ∧ w.cell? ⟨0, 5, none⟩ = some (.int .u8 5) ∧ w.cell? ⟨0, 6, none⟩ = some (.int .u8 5) ∧ w.cell? ⟨0, 7, none⟩ = some (.int .u8 6) ∧
    w.cell? ⟨0, 8, none⟩ = some (.int .u8 6) ∧ w.cell? ⟨0, 9, none⟩ = some (.int .u8 7) ∧ w.cell? ⟨0, 10, none⟩ = some (.int .u8 6) ∧ w.cell? ⟨0, 11, none⟩ = some (.int .u8 7) := by
  obtain ⟨h0, h1, h2⟩ := h
  exact ⟨by omega, h2 0 _ rfl, h2 1 _ rfl, h2 2 _ rfl, h2 3 _ rfl, h2 4 _ rfl, h2 5 _ rfl, h2 6 _ rfl, h2 7 _ rfl, h2 8 _ rfl, h2 9 _ rfl, h2 10 _ rfl, h2 11 _ rfl⟩

section
variable (is dn : Bool) (dig t : Js.Bs) (ex : Int) (vA uA : Option Addr) (vl vc ul uc : Nat) (w : World)
set_option maxRecDepth 100000 in
set_option maxHeartbeats 8000000 in
theorem ord_kind_0 (B : Nat) (h : Knd B w) :
    Calls Tryz.prog 46 #[.agg #[.int .i64 0, .bool is, .bool dn, .string (ba dig), .int .i64 ex, .string (ba t), .slice vA vl vc, .slice uA ul uc]] w fun e w' => e = .returned (.tuple #[.int .u8 ((Js.kind2 0).1.toNat : Int), .int .u8 ((Js.kind2 0).2.toNat : Int)]) ∧ w.grownBy w' none := by
  have HK := Lib.hid (h.gbn (World.grownBy_alloc w (.cells #[.int .i64 0, .bool is, .bool dn, .string (ba dig), .int .i64 ex, .string (ba t), .slice vA vl vc, .slice uA ul uc] 29 (0, 0)) none))
  clear h
  go_enter Tryz.func46, Tryz.ntmps46
  go_wp2
  have hHeld : Knd B (w.alloc (.cells #[.int .i64 0, .bool is, .bool dn, .string (ba dig), .int .i64 ex, .string (ba t), .slice vA vl vc, .slice uA ul uc] 29 (0, 0))).drew ∧ (w.alloc (.cells #[.int .i64 0, .bool is, .bool dn, .string (ba dig), .int .i64 ex, .string (ba t), .slice vA vl vc, .slice uA ul uc] 29 (0, 0))).drew.heap[w.heap.size]? = some (.cells #[.int .i64 0, .bool is, .bool dn, .string (ba dig), .int .i64 ex, .string (ba t), .slice vA vl vc, .slice uA ul uc] 29 (0, 0)) := ⟨HK.out.gbn (gb_drew (gb_refl _ _)), blk_new w _⟩
  refine wp_region_T 11 (fun W => Knd B W ∧ W.heap[w.heap.size]? = some (.cells #[.int .i64 0, .bool is, .bool dn, .string (ba dig), .int .i64 ex, .string (ba t), .slice vA vl vc, .slice uA ul uc] 29 (0, 0))) (by kernel_rfl) hHeld ?_
  refine T_take (i := 0) (v := ?_) rfl (by kernel_rfl) (fun _ _ _ h => h) (Or.inl ⟨by rfl, ?_⟩) hHeld ?_
  rotate_left
  ·
    intro W hW
    obtain ⟨hz, c0, c1, c2, c3, c4, c5, c6, c7, c8, c9, c10, c11⟩ := hW.1.op
    have y0 := blk_c hW.2 0
    clear hW
    go_simp
    all_goals with_reducible rfl
  try simp only [Act.put, List.setIfInBounds_toArray, List.set_cons_zero, List.set_cons_succ]
  refine T_take (i := 1) (v := ?_) rfl (by kernel_rfl) (fun _ _ _ h => h) (Or.inl ⟨by rfl, ?_⟩) hHeld ?_
  rotate_left
  ·
    intro W hW
    obtain ⟨hz, c0, c1, c2, c3, c4, c5, c6, c7, c8, c9, c10, c11⟩ := hW.1.op
    have y0 := blk_c hW.2 0
    clear hW
    go_simp
    all_goals with_reducible rfl
  try simp only [Act.put, List.setIfInBounds_toArray, List.set_cons_zero, List.set_cons_succ]
  refine T_take (i := 2) (v := ?_) rfl (by kernel_rfl) (fun _ _ _ h => h) (Or.inl ⟨by rfl, ?_⟩) hHeld ?_
  rotate_left
  ·
    intro W hW
    obtain ⟨hz, c0, c1, c2, c3, c4, c5, c6, c7, c8, c9, c10, c11⟩ := hW.1.op
    have y0 := blk_c hW.2 0
    clear hW
    go_simp
    all_goals with_reducible rfl
  try simp only [Act.put, List.setIfInBounds_toArray, List.set_cons_zero, List.set_cons_succ]
  refine T_take (i := 3) (v := ?_) rfl (by kernel_rfl) (fun _ _ _ h => h) (Or.inl ⟨by rfl, ?_⟩) hHeld ?_
  rotate_left
  ·
    intro W hW
    obtain ⟨hz, c0, c1, c2, c3, c4, c5, c6, c7, c8, c9, c10, c11⟩ := hW.1.op
    have y0 := blk_c hW.2 0
    clear hW
    go_simp
    all_goals with_reducible rfl
  try simp only [Act.put, List.setIfInBounds_toArray, List.set_cons_zero, List.set_cons_succ]
  refine T_take (i := 4) (v := ?_) rfl (by kernel_rfl) (fun _ _ _ h => h) (Or.inl ⟨by rfl, ?_⟩) hHeld ?_
  rotate_left
  ·
    intro W hW
    obtain ⟨hz, c0, c1, c2, c3, c4, c5, c6, c7, c8, c9, c10, c11⟩ := hW.1.op
    have y0 := blk_c hW.2 0
    clear hW
    go_simp
    all_goals with_reducible rfl
  try simp only [Act.put, List.setIfInBounds_toArray, List.set_cons_zero, List.set_cons_succ]
  refine T_take (i := 5) (v := ?_) rfl (by kernel_rfl) (fun _ _ _ h => h) (Or.inl ⟨by rfl, ?_⟩) hHeld ?_
  rotate_left
  ·
    intro W hW
    obtain ⟨hz, c0, c1, c2, c3, c4, c5, c6, c7, c8, c9, c10, c11⟩ := hW.1.op
    have y0 := blk_c hW.2 0
    clear hW
    go_simp
    all_goals with_reducible rfl
  try simp only [Act.put, List.setIfInBounds_toArray, List.set_cons_zero, List.set_cons_succ]
  refine T_take (i := 6) (v := ?_) rfl (by kernel_rfl) (fun _ _ _ h => h) (Or.inl ⟨by rfl, ?_⟩) hHeld ?_
  rotate_left
  ·
    intro W hW
    obtain ⟨hz, c0, c1, c2, c3, c4, c5, c6, c7, c8, c9, c10, c11⟩ := hW.1.op
    have y0 := blk_c hW.2 0
    clear hW
    go_simp
    all_goals with_reducible rfl
  try simp only [Act.put, List.setIfInBounds_toArray, List.set_cons_zero, List.set_cons_succ]
  refine T_take (i := 7) (v := ?_) rfl (by kernel_rfl) (fun _ _ _ h => h) (Or.inl ⟨by rfl, ?_⟩) hHeld ?_
  rotate_left
  ·
    intro W hW
    obtain ⟨hz, c0, c1, c2, c3, c4, c5, c6, c7, c8, c9, c10, c11⟩ := hW.1.op
    have y0 := blk_c hW.2 0
    clear hW
    go_simp
    all_goals with_reducible rfl
  try simp only [Act.put, List.setIfInBounds_toArray, List.set_cons_zero, List.set_cons_succ]
  refine T_take (i := 8) (v := ?_) rfl (by kernel_rfl) (fun _ _ _ h => h) (Or.inl ⟨by rfl, ?_⟩) hHeld ?_
  rotate_left
  ·
    intro W hW
    obtain ⟨hz, c0, c1, c2, c3, c4, c5, c6, c7, c8, c9, c10, c11⟩ := hW.1.op
    have y0 := blk_c hW.2 0
    clear hW
    go_simp
    all_goals with_reducible rfl
  try simp only [Act.put, List.setIfInBounds_toArray, List.set_cons_zero, List.set_cons_succ]
  refine T_take (i := 9) (v := ?_) rfl (by kernel_rfl) (fun _ _ _ h => h) (Or.inl ⟨by rfl, ?_⟩) hHeld ?_
  rotate_left
  ·
    intro W hW
    obtain ⟨hz, c0, c1, c2, c3, c4, c5, c6, c7, c8, c9, c10, c11⟩ := hW.1.op
    have y0 := blk_c hW.2 0
    clear hW
    go_simp
    all_goals with_reducible rfl
  try simp only [Act.put, List.setIfInBounds_toArray, List.set_cons_zero, List.set_cons_succ]
  refine T_take (i := 10) (v := ?_) rfl (by kernel_rfl) (fun _ _ _ h => h) (Or.inl ⟨by rfl, ?_⟩) hHeld ?_
  rotate_left
  ·
    intro W hW
    obtain ⟨hz, c0, c1, c2, c3, c4, c5, c6, c7, c8, c9, c10, c11⟩ := hW.1.op
    have y0 := blk_c hW.2 0
    clear hW
    go_simp
    all_goals with_reducible rfl
  try simp only [Act.put, List.setIfInBounds_toArray, List.set_cons_zero, List.set_cons_succ]
  refine T_tail 11 rfl rfl (by omega) (by kernel_rfl) ?_
  go_wp2
  go_ret2
  exact ⟨rfl, gb_drew (World.grownBy_alloc w _ none)⟩
set_option maxRecDepth 100000 in
set_option maxHeartbeats 8000000 in
theorem ord_kind_1 (B : Nat) (h : Knd B w) :
    Calls Tryz.prog 46 #[.agg #[.int .i64 1, .bool is, .bool dn, .string (ba dig), .int .i64 ex, .string (ba t), .slice vA vl vc, .slice uA ul uc]] w fun e w' => e = .returned (.tuple #[.int .u8 ((Js.kind2 1).1.toNat : Int), .int .u8 ((Js.kind2 1).2.toNat : Int)]) ∧ w.grownBy w' none := by
  have HK := Lib.hid (h.gbn (World.grownBy_alloc w (.cells #[.int .i64 1, .bool is, .bool dn, .string (ba dig), .int .i64 ex, .string (ba t), .slice vA vl vc, .slice uA ul uc] 29 (0, 0)) none))
  clear h
  go_enter Tryz.func46, Tryz.ntmps46
  go_wp2
  have hHeld : Knd B (w.alloc (.cells #[.int .i64 1, .bool is, .bool dn, .string (ba dig), .int .i64 ex, .string (ba t), .slice vA vl vc, .slice uA ul uc] 29 (0, 0))).drew ∧ (w.alloc (.cells #[.int .i64 1, .bool is, .bool dn, .string (ba dig), .int .i64 ex, .string (ba t), .slice vA vl vc, .slice uA ul uc] 29 (0, 0))).drew.heap[w.heap.size]? = some (.cells #[.int .i64 1, .bool is, .bool dn, .string (ba dig), .int .i64 ex, .string (ba t), .slice vA vl vc, .slice uA ul uc] 29 (0, 0)) := ⟨HK.out.gbn (gb_drew (gb_refl _ _)), blk_new w _⟩
  refine wp_region_T 11 (fun W => Knd B W ∧ W.heap[w.heap.size]? = some (.cells #[.int .i64 1, .bool is, .bool dn, .string (ba dig), .int .i64 ex, .string (ba t), .slice vA vl vc, .slice uA ul uc] 29 (0, 0))) (by kernel_rfl) hHeld ?_
  refine T_take (i := 0) (v := ?_) rfl (by kernel_rfl) (fun _ _ _ h => h) (Or.inl ⟨by rfl, ?_⟩) hHeld ?_
  rotate_left
  ·
    intro W hW
    obtain ⟨hz, c0, c1, c2, c3, c4, c5, c6, c7, c8, c9, c10, c11⟩ := hW.1.op
    have y0 := blk_c hW.2 0
    clear hW
    go_simp
    all_goals with_reducible rfl
  try simp only [Act.put, List.setIfInBounds_toArray, List.set_cons_zero, List.set_cons_succ]
  refine T_take (i := 1) (v := ?_) rfl (by kernel_rfl) (fun _ _ _ h => h) (Or.inl ⟨by rfl, ?_⟩) hHeld ?_
  rotate_left
  ·
    intro W hW
    obtain ⟨hz, c0, c1, c2, c3, c4, c5, c6, c7, c8, c9, c10, c11⟩ := hW.1.op
    have y0 := blk_c hW.2 0
    clear hW
    go_simp
    all_goals with_reducible rfl
  try simp only [Act.put, List.setIfInBounds_toArray, List.set_cons_zero, List.set_cons_succ]
  refine T_take (i := 2) (v := ?_) rfl (by kernel_rfl) (fun _ _ _ h => h) (Or.inl ⟨by rfl, ?_⟩) hHeld ?_
  rotate_left
  ·
    intro W hW
    obtain ⟨hz, c0, c1, c2, c3, c4, c5, c6, c7, c8, c9, c10, c11⟩ := hW.1.op
    have y0 := blk_c hW.2 0
    clear hW
    go_simp
    all_goals with_reducible rfl
  try simp only [Act.put, List.setIfInBounds_toArray, List.set_cons_zero, List.set_cons_succ]
  refine T_take (i := 3) (v := ?_) rfl (by kernel_rfl) (fun _ _ _ h => h) (Or.inl ⟨by rfl, ?_⟩) hHeld ?_
  rotate_left
  ·
    intro W hW
    obtain ⟨hz, c0, c1, c2, c3, c4, c5, c6, c7, c8, c9, c10, c11⟩ := hW.1.op
    have y0 := blk_c hW.2 0
    clear hW
    go_simp
    all_goals with_reducible rfl
  try simp only [Act.put, List.setIfInBounds_toArray, List.set_cons_zero, List.set_cons_succ]
  refine T_take (i := 4) (v := ?_) rfl (by kernel_rfl) (fun _ _ _ h => h) (Or.inl ⟨by rfl, ?_⟩) hHeld ?_
  rotate_left
  ·
    intro W hW
    obtain ⟨hz, c0, c1, c2, c3, c4, c5, c6, c7, c8, c9, c10, c11⟩ := hW.1.op
    have y0 := blk_c hW.2 0
    clear hW
    go_simp
    all_goals with_reducible rfl
  try simp only [Act.put, List.setIfInBounds_toArray, List.set_cons_zero, List.set_cons_succ]
  refine T_take (i := 5) (v := ?_) rfl (by kernel_rfl) (fun _ _ _ h => h) (Or.inl ⟨by rfl, ?_⟩) hHeld ?_
  rotate_left
  ·
    intro W hW
    obtain ⟨hz, c0, c1, c2, c3, c4, c5, c6, c7, c8, c9, c10, c11⟩ := hW.1.op
    have y0 := blk_c hW.2 0
    clear hW
    go_simp
    all_goals with_reducible rfl
  try simp only [Act.put, List.setIfInBounds_toArray, List.set_cons_zero, List.set_cons_succ]
  refine T_take (i := 6) (v := ?_) rfl (by kernel_rfl) (fun _ _ _ h => h) (Or.inl ⟨by rfl, ?_⟩) hHeld ?_
  rotate_left
  ·
    intro W hW
    obtain ⟨hz, c0, c1, c2, c3, c4, c5, c6, c7, c8, c9, c10, c11⟩ := hW.1.op
    have y0 := blk_c hW.2 0
    clear hW
    go_simp
    all_goals with_reducible rfl
  try simp only [Act.put, List.setIfInBounds_toArray, List.set_cons_zero, List.set_cons_succ]
  refine T_take (i := 7) (v := ?_) rfl (by kernel_rfl) (fun _ _ _ h => h) (Or.inl ⟨by rfl, ?_⟩) hHeld ?_
  rotate_left
  ·
    intro W hW
    obtain ⟨hz, c0, c1, c2, c3, c4, c5, c6, c7, c8, c9, c10, c11⟩ := hW.1.op
    have y0 := blk_c hW.2 0
    clear hW
    go_simp
    all_goals with_reducible rfl
  try simp only [Act.put, List.setIfInBounds_toArray, List.set_cons_zero, List.set_cons_succ]
  refine T_take (i := 8) (v := ?_) rfl (by kernel_rfl) (fun _ _ _ h => h) (Or.inl ⟨by rfl, ?_⟩) hHeld ?_
  rotate_left
  ·
    intro W hW
    obtain ⟨hz, c0, c1, c2, c3, c4, c5, c6, c7, c8, c9, c10, c11⟩ := hW.1.op
    have y0 := blk_c hW.2 0
    clear hW
    go_simp
    all_goals with_reducible rfl
  try simp only [Act.put, List.setIfInBounds_toArray, List.set_cons_zero, List.set_cons_succ]
  refine T_take (i := 9) (v := ?_) rfl (by kernel_rfl) (fun _ _ _ h => h) (Or.inl ⟨by rfl, ?_⟩) hHeld ?_
  rotate_left
  ·
    intro W hW
    obtain ⟨hz, c0, c1, c2, c3, c4, c5, c6, c7, c8, c9, c10, c11⟩ := hW.1.op
    have y0 := blk_c hW.2 0
    clear hW
    go_simp
    all_goals with_reducible rfl
  try simp only [Act.put, List.setIfInBounds_toArray, List.set_cons_zero, List.set_cons_succ]
  refine T_take (i := 10) (v := ?_) rfl (by kernel_rfl) (fun _ _ _ h => h) (Or.inl ⟨by rfl, ?_⟩) hHeld ?_
  rotate_left
  ·
    intro W hW
    obtain ⟨hz, c0, c1, c2, c3, c4, c5, c6, c7, c8, c9, c10, c11⟩ := hW.1.op
    have y0 := blk_c hW.2 0
    clear hW
    go_simp
    all_goals with_reducible rfl
  try simp only [Act.put, List.setIfInBounds_toArray, List.set_cons_zero, List.set_cons_succ]
  refine T_tail 11 rfl rfl (by omega) (by kernel_rfl) ?_
  go_wp2
  go_ret2
  exact ⟨rfl, gb_drew (World.grownBy_alloc w _ none)⟩
set_option maxRecDepth 100000 in
set_option maxHeartbeats 8000000 in
theorem ord_kind_2 (B : Nat) (h : Knd B w) :
    Calls Tryz.prog 46 #[.agg #[.int .i64 2, .bool is, .bool dn, .string (ba dig), .int .i64 ex, .string (ba t), .slice vA vl vc, .slice uA ul uc]] w fun e w' => e = .returned (.tuple #[.int .u8 ((Js.kind2 2).1.toNat : Int), .int .u8 ((Js.kind2 2).2.toNat : Int)]) ∧ w.grownBy w' none := by
  have HK := Lib.hid (h.gbn (World.grownBy_alloc w (.cells #[.int .i64 2, .bool is, .bool dn, .string (ba dig), .int .i64 ex, .string (ba t), .slice vA vl vc, .slice uA ul uc] 29 (0, 0)) none))
  clear h
  go_enter Tryz.func46, Tryz.ntmps46
  go_wp2
  have hHeld : Knd B (w.alloc (.cells #[.int .i64 2, .bool is, .bool dn, .string (ba dig), .int .i64 ex, .string (ba t), .slice vA vl vc, .slice uA ul uc] 29 (0, 0))).drew ∧ (w.alloc (.cells #[.int .i64 2, .bool is, .bool dn, .string (ba dig), .int .i64 ex, .string (ba t), .slice vA vl vc, .slice uA ul uc] 29 (0, 0))).drew.heap[w.heap.size]? = some (.cells #[.int .i64 2, .bool is, .bool dn, .string (ba dig), .int .i64 ex, .string (ba t), .slice vA vl vc, .slice uA ul uc] 29 (0, 0)) := ⟨HK.out.gbn (gb_drew (gb_refl _ _)), blk_new w _⟩
  refine wp_region_T 11 (fun W => Knd B W ∧ W.heap[w.heap.size]? = some (.cells #[.int .i64 2, .bool is, .bool dn, .string (ba dig), .int .i64 ex, .string (ba t), .slice vA vl vc, .slice uA ul uc] 29 (0, 0))) (by kernel_rfl) hHeld ?_
  refine T_take (i := 0) (v := ?_) rfl (by kernel_rfl) (fun _ _ _ h => h) (Or.inl ⟨by rfl, ?_⟩) hHeld ?_
  rotate_left
  ·
    intro W hW
    obtain ⟨hz, c0, c1, c2, c3, c4, c5, c6, c7, c8, c9, c10, c11⟩ := hW.1.op
    have y0 := blk_c hW.2 0
    clear hW
    go_simp
    all_goals with_reducible rfl
  try simp only [Act.put, List.setIfInBounds_toArray, List.set_cons_zero, List.set_cons_succ]
  refine T_take (i := 1) (v := ?_) rfl (by kernel_rfl) (fun _ _ _ h => h) (Or.inl ⟨by rfl, ?_⟩) hHeld ?_
  rotate_left
  ·
    intro W hW
    obtain ⟨hz, c0, c1, c2, c3, c4, c5, c6, c7, c8, c9, c10, c11⟩ := hW.1.op
    have y0 := blk_c hW.2 0
    clear hW
    go_simp
    all_goals with_reducible rfl
  try simp only [Act.put, List.setIfInBounds_toArray, List.set_cons_zero, List.set_cons_succ]
  refine T_take (i := 2) (v := ?_) rfl (by kernel_rfl) (fun _ _ _ h => h) (Or.inl ⟨by rfl, ?_⟩) hHeld ?_
  rotate_left
  ·
    intro W hW
    obtain ⟨hz, c0, c1, c2, c3, c4, c5, c6, c7, c8, c9, c10, c11⟩ := hW.1.op
    have y0 := blk_c hW.2 0
    clear hW
    go_simp
    all_goals with_reducible rfl
  try simp only [Act.put, List.setIfInBounds_toArray, List.set_cons_zero, List.set_cons_succ]
  refine T_take (i := 3) (v := ?_) rfl (by kernel_rfl) (fun _ _ _ h => h) (Or.inl ⟨by rfl, ?_⟩) hHeld ?_
  rotate_left
  ·
    intro W hW
    obtain ⟨hz, c0, c1, c2, c3, c4, c5, c6, c7, c8, c9, c10, c11⟩ := hW.1.op
    have y0 := blk_c hW.2 0
    clear hW
    go_simp
    all_goals with_reducible rfl
  try simp only [Act.put, List.setIfInBounds_toArray, List.set_cons_zero, List.set_cons_succ]
  refine T_take (i := 4) (v := ?_) rfl (by kernel_rfl) (fun _ _ _ h => h) (Or.inl ⟨by rfl, ?_⟩) hHeld ?_
  rotate_left
  ·
    intro W hW
    obtain ⟨hz, c0, c1, c2, c3, c4, c5, c6, c7, c8, c9, c10, c11⟩ := hW.1.op
    have y0 := blk_c hW.2 0
    clear hW
    go_simp
    all_goals with_reducible rfl
  try simp only [Act.put, List.setIfInBounds_toArray, List.set_cons_zero, List.set_cons_succ]
  refine T_take (i := 5) (v := ?_) rfl (by kernel_rfl) (fun _ _ _ h => h) (Or.inl ⟨by rfl, ?_⟩) hHeld ?_
  rotate_left
  ·
    intro W hW
    obtain ⟨hz, c0, c1, c2, c3, c4, c5, c6, c7, c8, c9, c10, c11⟩ := hW.1.op
    have y0 := blk_c hW.2 0
    clear hW
    go_simp
    all_goals with_reducible rfl
  try simp only [Act.put, List.setIfInBounds_toArray, List.set_cons_zero, List.set_cons_succ]
  refine T_take (i := 6) (v := ?_) rfl (by kernel_rfl) (fun _ _ _ h => h) (Or.inl ⟨by rfl, ?_⟩) hHeld ?_
  rotate_left
  ·
    intro W hW
    obtain ⟨hz, c0, c1, c2, c3, c4, c5, c6, c7, c8, c9, c10, c11⟩ := hW.1.op
    have y0 := blk_c hW.2 0
    clear hW
    go_simp
    all_goals with_reducible rfl
  try simp only [Act.put, List.setIfInBounds_toArray, List.set_cons_zero, List.set_cons_succ]
  refine T_take (i := 7) (v := ?_) rfl (by kernel_rfl) (fun _ _ _ h => h) (Or.inl ⟨by rfl, ?_⟩) hHeld ?_
  rotate_left
  ·
    intro W hW
    obtain ⟨hz, c0, c1, c2, c3, c4, c5, c6, c7, c8, c9, c10, c11⟩ := hW.1.op
    have y0 := blk_c hW.2 0
    clear hW
    go_simp
    all_goals with_reducible rfl
  try simp only [Act.put, List.setIfInBounds_toArray, List.set_cons_zero, List.set_cons_succ]
  refine T_take (i := 8) (v := ?_) rfl (by kernel_rfl) (fun _ _ _ h => h) (Or.inl ⟨by rfl, ?_⟩) hHeld ?_
  rotate_left
  ·
    intro W hW
    obtain ⟨hz, c0, c1, c2, c3, c4, c5, c6, c7, c8, c9, c10, c11⟩ := hW.1.op
    have y0 := blk_c hW.2 0
    clear hW
    go_simp
    all_goals with_reducible rfl
  try simp only [Act.put, List.setIfInBounds_toArray, List.set_cons_zero, List.set_cons_succ]
  refine T_take (i := 9) (v := ?_) rfl (by kernel_rfl) (fun _ _ _ h => h) (Or.inl ⟨by rfl, ?_⟩) hHeld ?_
  rotate_left
  ·
    intro W hW
    obtain ⟨hz, c0, c1, c2, c3, c4, c5, c6, c7, c8, c9, c10, c11⟩ := hW.1.op
    have y0 := blk_c hW.2 0
    clear hW
    go_simp
    all_goals with_reducible rfl
  try simp only [Act.put, List.setIfInBounds_toArray, List.set_cons_zero, List.set_cons_succ]
  refine T_take (i := 10) (v := ?_) rfl (by kernel_rfl) (fun _ _ _ h => h) (Or.inl ⟨by rfl, ?_⟩) hHeld ?_
  rotate_left
  ·
    intro W hW
    obtain ⟨hz, c0, c1, c2, c3, c4, c5, c6, c7, c8, c9, c10, c11⟩ := hW.1.op
    have y0 := blk_c hW.2 0
    clear hW
    go_simp
    all_goals with_reducible rfl
  try simp only [Act.put, List.setIfInBounds_toArray, List.set_cons_zero, List.set_cons_succ]
  refine T_tail 11 rfl rfl (by omega) (by kernel_rfl) ?_
  go_wp2
  go_ret2
  exact ⟨rfl, gb_drew (World.grownBy_alloc w _ none)⟩
set_option maxRecDepth 100000 in
set_option maxHeartbeats 8000000 in
theorem ord_kind_3 (B : Nat) (h : Knd B w) :
    Calls Tryz.prog 46 #[.agg #[.int .i64 3, .bool is, .bool dn, .string (ba dig), .int .i64 ex, .string (ba t), .slice vA vl vc, .slice uA ul uc]] w fun e w' => e = .returned (.tuple #[.int .u8 ((Js.kind2 3).1.toNat : Int), .int .u8 ((Js.kind2 3).2.toNat : Int)]) ∧ w.grownBy w' none := by
  have HK := Lib.hid (h.gbn (World.grownBy_alloc w (.cells #[.int .i64 3, .bool is, .bool dn, .string (ba dig), .int .i64 ex, .string (ba t), .slice vA vl vc, .slice uA ul uc] 29 (0, 0)) none))
  clear h
  go_enter Tryz.func46, Tryz.ntmps46
  go_wp2
  have hHeld : Knd B (w.alloc (.cells #[.int .i64 3, .bool is, .bool dn, .string (ba dig), .int .i64 ex, .string (ba t), .slice vA vl vc, .slice uA ul uc] 29 (0, 0))).drew ∧ (w.alloc (.cells #[.int .i64 3, .bool is, .bool dn, .string (ba dig), .int .i64 ex, .string (ba t), .slice vA vl vc, .slice uA ul uc] 29 (0, 0))).drew.heap[w.heap.size]? = some (.cells #[.int .i64 3, .bool is, .bool dn, .string (ba dig), .int .i64 ex, .string (ba t), .slice vA vl vc, .slice uA ul uc] 29 (0, 0)) := ⟨HK.out.gbn (gb_drew (gb_refl _ _)), blk_new w _⟩
  refine wp_region_T 11 (fun W => Knd B W ∧ W.heap[w.heap.size]? = some (.cells #[.int .i64 3, .bool is, .bool dn, .string (ba dig), .int .i64 ex, .string (ba t), .slice vA vl vc, .slice uA ul uc] 29 (0, 0))) (by kernel_rfl) hHeld ?_
  refine T_take (i := 0) (v := ?_) rfl (by kernel_rfl) (fun _ _ _ h => h) (Or.inl ⟨by rfl, ?_⟩) hHeld ?_
  rotate_left
  ·
    intro W hW
    obtain ⟨hz, c0, c1, c2, c3, c4, c5, c6, c7, c8, c9, c10, c11⟩ := hW.1.op
    have y0 := blk_c hW.2 0
    clear hW
    go_simp
    all_goals with_reducible rfl
  try simp only [Act.put, List.setIfInBounds_toArray, List.set_cons_zero, List.set_cons_succ]
  refine T_take (i := 1) (v := ?_) rfl (by kernel_rfl) (fun _ _ _ h => h) (Or.inl ⟨by rfl, ?_⟩) hHeld ?_
  rotate_left
  ·
    intro W hW
    obtain ⟨hz, c0, c1, c2, c3, c4, c5, c6, c7, c8, c9, c10, c11⟩ := hW.1.op
    have y0 := blk_c hW.2 0
    clear hW
    go_simp
    all_goals with_reducible rfl
  try simp only [Act.put, List.setIfInBounds_toArray, List.set_cons_zero, List.set_cons_succ]
  refine T_take (i := 2) (v := ?_) rfl (by kernel_rfl) (fun _ _ _ h => h) (Or.inl ⟨by rfl, ?_⟩) hHeld ?_
  rotate_left
  ·
    intro W hW
    obtain ⟨hz, c0, c1, c2, c3, c4, c5, c6, c7, c8, c9, c10, c11⟩ := hW.1.op
    have y0 := blk_c hW.2 0
    clear hW
    go_simp
    all_goals with_reducible rfl
  try simp only [Act.put, List.setIfInBounds_toArray, List.set_cons_zero, List.set_cons_succ]
  refine T_take (i := 3) (v := ?_) rfl (by kernel_rfl) (fun _ _ _ h => h) (Or.inl ⟨by rfl, ?_⟩) hHeld ?_
  rotate_left
  ·
    intro W hW
    obtain ⟨hz, c0, c1, c2, c3, c4, c5, c6, c7, c8, c9, c10, c11⟩ := hW.1.op
    have y0 := blk_c hW.2 0
    clear hW
    go_simp
    all_goals with_reducible rfl
  try simp only [Act.put, List.setIfInBounds_toArray, List.set_cons_zero, List.set_cons_succ]
  refine T_take (i := 4) (v := ?_) rfl (by kernel_rfl) (fun _ _ _ h => h) (Or.inl ⟨by rfl, ?_⟩) hHeld ?_
  rotate_left
  ·
    intro W hW
    obtain ⟨hz, c0, c1, c2, c3, c4, c5, c6, c7, c8, c9, c10, c11⟩ := hW.1.op
    have y0 := blk_c hW.2 0
    clear hW
    go_simp
    all_goals with_reducible rfl
  try simp only [Act.put, List.setIfInBounds_toArray, List.set_cons_zero, List.set_cons_succ]
  refine T_take (i := 5) (v := ?_) rfl (by kernel_rfl) (fun _ _ _ h => h) (Or.inl ⟨by rfl, ?_⟩) hHeld ?_
  rotate_left
  ·
    intro W hW
    obtain ⟨hz, c0, c1, c2, c3, c4, c5, c6, c7, c8, c9, c10, c11⟩ := hW.1.op
    have y0 := blk_c hW.2 0
    clear hW
    go_simp
    all_goals with_reducible rfl
  try simp only [Act.put, List.setIfInBounds_toArray, List.set_cons_zero, List.set_cons_succ]
  refine T_take (i := 6) (v := ?_) rfl (by kernel_rfl) (fun _ _ _ h => h) (Or.inl ⟨by rfl, ?_⟩) hHeld ?_
  rotate_left
  ·
    intro W hW
    obtain ⟨hz, c0, c1, c2, c3, c4, c5, c6, c7, c8, c9, c10, c11⟩ := hW.1.op
    have y0 := blk_c hW.2 0
    clear hW
    go_simp
    all_goals with_reducible rfl
  try simp only [Act.put, List.setIfInBounds_toArray, List.set_cons_zero, List.set_cons_succ]
  refine T_take (i := 7) (v := ?_) rfl (by kernel_rfl) (fun _ _ _ h => h) (Or.inl ⟨by rfl, ?_⟩) hHeld ?_
  rotate_left
  ·
    intro W hW
    obtain ⟨hz, c0, c1, c2, c3, c4, c5, c6, c7, c8, c9, c10, c11⟩ := hW.1.op
    have y0 := blk_c hW.2 0
    clear hW
    go_simp
    all_goals with_reducible rfl
  try simp only [Act.put, List.setIfInBounds_toArray, List.set_cons_zero, List.set_cons_succ]
  refine T_take (i := 8) (v := ?_) rfl (by kernel_rfl) (fun _ _ _ h => h) (Or.inl ⟨by rfl, ?_⟩) hHeld ?_
  rotate_left
  ·
    intro W hW
    obtain ⟨hz, c0, c1, c2, c3, c4, c5, c6, c7, c8, c9, c10, c11⟩ := hW.1.op
    have y0 := blk_c hW.2 0
    clear hW
    go_simp
    all_goals with_reducible rfl
  try simp only [Act.put, List.setIfInBounds_toArray, List.set_cons_zero, List.set_cons_succ]
  refine T_take (i := 9) (v := ?_) rfl (by kernel_rfl) (fun _ _ _ h => h) (Or.inl ⟨by rfl, ?_⟩) hHeld ?_
  rotate_left
  ·
    intro W hW
    obtain ⟨hz, c0, c1, c2, c3, c4, c5, c6, c7, c8, c9, c10, c11⟩ := hW.1.op
    have y0 := blk_c hW.2 0
    clear hW
    go_simp
    all_goals with_reducible rfl
  try simp only [Act.put, List.setIfInBounds_toArray, List.set_cons_zero, List.set_cons_succ]
  refine T_take (i := 10) (v := ?_) rfl (by kernel_rfl) (fun _ _ _ h => h) (Or.inl ⟨by rfl, ?_⟩) hHeld ?_
  rotate_left
  ·
    intro W hW
    obtain ⟨hz, c0, c1, c2, c3, c4, c5, c6, c7, c8, c9, c10, c11⟩ := hW.1.op
    have y0 := blk_c hW.2 0
    clear hW
    go_simp
    all_goals with_reducible rfl
  try simp only [Act.put, List.setIfInBounds_toArray, List.set_cons_zero, List.set_cons_succ]
  refine T_tail 11 rfl rfl (by omega) (by kernel_rfl) ?_
  go_wp2
  go_ret2
  exact ⟨rfl, gb_drew (World.grownBy_alloc w _ none)⟩
set_option maxRecDepth 100000 in
set_option maxHeartbeats 8000000 in
theorem ord_kind_4 (B : Nat) (h : Knd B w) :
    Calls Tryz.prog 46 #[.agg #[.int .i64 4, .bool is, .bool dn, .string (ba dig), .int .i64 ex, .string (ba t), .slice vA vl vc, .slice uA ul uc]] w fun e w' => e = .returned (.tuple #[.int .u8 ((Js.kind2 4).1.toNat : Int), .int .u8 ((Js.kind2 4).2.toNat : Int)]) ∧ w.grownBy w' none := by
  have HK := Lib.hid (h.gbn (World.grownBy_alloc w (.cells #[.int .i64 4, .bool is, .bool dn, .string (ba dig), .int .i64 ex, .string (ba t), .slice vA vl vc, .slice uA ul uc] 29 (0, 0)) none))
  clear h
  go_enter Tryz.func46, Tryz.ntmps46
  go_wp2
  have hHeld : Knd B (w.alloc (.cells #[.int .i64 4, .bool is, .bool dn, .string (ba dig), .int .i64 ex, .string (ba t), .slice vA vl vc, .slice uA ul uc] 29 (0, 0))).drew ∧ (w.alloc (.cells #[.int .i64 4, .bool is, .bool dn, .string (ba dig), .int .i64 ex, .string (ba t), .slice vA vl vc, .slice uA ul uc] 29 (0, 0))).drew.heap[w.heap.size]? = some (.cells #[.int .i64 4, .bool is, .bool dn, .string (ba dig), .int .i64 ex, .string (ba t), .slice vA vl vc, .slice uA ul uc] 29 (0, 0)) := ⟨HK.out.gbn (gb_drew (gb_refl _ _)), blk_new w _⟩
  refine wp_region_T 11 (fun W => Knd B W ∧ W.heap[w.heap.size]? = some (.cells #[.int .i64 4, .bool is, .bool dn, .string (ba dig), .int .i64 ex, .string (ba t), .slice vA vl vc, .slice uA ul uc] 29 (0, 0))) (by kernel_rfl) hHeld ?_
  refine T_take (i := 0) (v := ?_) rfl (by kernel_rfl) (fun _ _ _ h => h) (Or.inl ⟨by rfl, ?_⟩) hHeld ?_
  rotate_left
  ·
    intro W hW
    obtain ⟨hz, c0, c1, c2, c3, c4, c5, c6, c7, c8, c9, c10, c11⟩ := hW.1.op
    have y0 := blk_c hW.2 0
    clear hW
    go_simp
    all_goals with_reducible rfl
  try simp only [Act.put, List.setIfInBounds_toArray, List.set_cons_zero, List.set_cons_succ]
  refine T_take (i := 1) (v := ?_) rfl (by kernel_rfl) (fun _ _ _ h => h) (Or.inl ⟨by rfl, ?_⟩) hHeld ?_
  rotate_left
  ·
    intro W hW
    obtain ⟨hz, c0, c1, c2, c3, c4, c5, c6, c7, c8, c9, c10, c11⟩ := hW.1.op
    have y0 := blk_c hW.2 0
    clear hW
    go_simp
    all_goals with_reducible rfl
  try simp only [Act.put, List.setIfInBounds_toArray, List.set_cons_zero, List.set_cons_succ]
  refine T_take (i := 2) (v := ?_) rfl (by kernel_rfl) (fun _ _ _ h => h) (Or.inl ⟨by rfl, ?_⟩) hHeld ?_
  rotate_left
  ·
    intro W hW
    obtain ⟨hz, c0, c1, c2, c3, c4, c5, c6, c7, c8, c9, c10, c11⟩ := hW.1.op
    have y0 := blk_c hW.2 0
    clear hW
    go_simp
    all_goals with_reducible rfl
  try simp only [Act.put, List.setIfInBounds_toArray, List.set_cons_zero, List.set_cons_succ]
  refine T_take (i := 3) (v := ?_) rfl (by kernel_rfl) (fun _ _ _ h => h) (Or.inl ⟨by rfl, ?_⟩) hHeld ?_
  rotate_left
  ·
    intro W hW
    obtain ⟨hz, c0, c1, c2, c3, c4, c5, c6, c7, c8, c9, c10, c11⟩ := hW.1.op
    have y0 := blk_c hW.2 0
    clear hW
    go_simp
    all_goals with_reducible rfl
  try simp only [Act.put, List.setIfInBounds_toArray, List.set_cons_zero, List.set_cons_succ]
  refine T_take (i := 4) (v := ?_) rfl (by kernel_rfl) (fun _ _ _ h => h) (Or.inl ⟨by rfl, ?_⟩) hHeld ?_
  rotate_left
  ·
    intro W hW
    obtain ⟨hz, c0, c1, c2, c3, c4, c5, c6, c7, c8, c9, c10, c11⟩ := hW.1.op
    have y0 := blk_c hW.2 0
    clear hW
    go_simp
    all_goals with_reducible rfl
  try simp only [Act.put, List.setIfInBounds_toArray, List.set_cons_zero, List.set_cons_succ]
  refine T_take (i := 5) (v := ?_) rfl (by kernel_rfl) (fun _ _ _ h => h) (Or.inl ⟨by rfl, ?_⟩) hHeld ?_
  rotate_left
  ·
    intro W hW
    obtain ⟨hz, c0, c1, c2, c3, c4, c5, c6, c7, c8, c9, c10, c11⟩ := hW.1.op
    have y0 := blk_c hW.2 0
    clear hW
    go_simp
    all_goals with_reducible rfl
  try simp only [Act.put, List.setIfInBounds_toArray, List.set_cons_zero, List.set_cons_succ]
  refine T_take (i := 6) (v := ?_) rfl (by kernel_rfl) (fun _ _ _ h => h) (Or.inl ⟨by rfl, ?_⟩) hHeld ?_
  rotate_left
  ·
    intro W hW
    obtain ⟨hz, c0, c1, c2, c3, c4, c5, c6, c7, c8, c9, c10, c11⟩ := hW.1.op
    have y0 := blk_c hW.2 0
    clear hW
    go_simp
    all_goals with_reducible rfl
  try simp only [Act.put, List.setIfInBounds_toArray, List.set_cons_zero, List.set_cons_succ]
  refine T_take (i := 7) (v := ?_) rfl (by kernel_rfl) (fun _ _ _ h => h) (Or.inl ⟨by rfl, ?_⟩) hHeld ?_
  rotate_left
  ·
    intro W hW
    obtain ⟨hz, c0, c1, c2, c3, c4, c5, c6, c7, c8, c9, c10, c11⟩ := hW.1.op
    have y0 := blk_c hW.2 0
    clear hW
    go_simp
    all_goals with_reducible rfl
  try simp only [Act.put, List.setIfInBounds_toArray, List.set_cons_zero, List.set_cons_succ]
  refine T_take (i := 8) (v := ?_) rfl (by kernel_rfl) (fun _ _ _ h => h) (Or.inl ⟨by rfl, ?_⟩) hHeld ?_
  rotate_left
  ·
    intro W hW
    obtain ⟨hz, c0, c1, c2, c3, c4, c5, c6, c7, c8, c9, c10, c11⟩ := hW.1.op
    have y0 := blk_c hW.2 0
    clear hW
    go_simp
    all_goals with_reducible rfl
  try simp only [Act.put, List.setIfInBounds_toArray, List.set_cons_zero, List.set_cons_succ]
  refine T_take (i := 9) (v := ?_) rfl (by kernel_rfl) (fun _ _ _ h => h) (Or.inl ⟨by rfl, ?_⟩) hHeld ?_
  rotate_left
  ·
    intro W hW
    obtain ⟨hz, c0, c1, c2, c3, c4, c5, c6, c7, c8, c9, c10, c11⟩ := hW.1.op
    have y0 := blk_c hW.2 0
    clear hW
    go_simp
    all_goals with_reducible rfl
  try simp only [Act.put, List.setIfInBounds_toArray, List.set_cons_zero, List.set_cons_succ]
  refine T_take (i := 10) (v := ?_) rfl (by kernel_rfl) (fun _ _ _ h => h) (Or.inl ⟨by rfl, ?_⟩) hHeld ?_
  rotate_left
  ·
    intro W hW
    obtain ⟨hz, c0, c1, c2, c3, c4, c5, c6, c7, c8, c9, c10, c11⟩ := hW.1.op
    have y0 := blk_c hW.2 0
    clear hW
    go_simp
    all_goals with_reducible rfl
  try simp only [Act.put, List.setIfInBounds_toArray, List.set_cons_zero, List.set_cons_succ]
  refine T_tail 11 rfl rfl (by omega) (by kernel_rfl) ?_
  go_wp2
  go_ret2
  exact ⟨rfl, gb_drew (World.grownBy_alloc w _ none)⟩
set_option maxRecDepth 100000 in
set_option maxHeartbeats 8000000 in
theorem ord_kind_5 (B : Nat) (h : Knd B w) :
    Calls Tryz.prog 46 #[.agg #[.int .i64 5, .bool is, .bool dn, .string (ba dig), .int .i64 ex, .string (ba t), .slice vA vl vc, .slice uA ul uc]] w fun e w' => e = .returned (.tuple #[.int .u8 ((Js.kind2 5).1.toNat : Int), .int .u8 ((Js.kind2 5).2.toNat : Int)]) ∧ w.grownBy w' none := by
  have HK := Lib.hid (h.gbn (World.grownBy_alloc w (.cells #[.int .i64 5, .bool is, .bool dn, .string (ba dig), .int .i64 ex, .string (ba t), .slice vA vl vc, .slice uA ul uc] 29 (0, 0)) none))
  clear h
  go_enter Tryz.func46, Tryz.ntmps46
  go_wp2
  have hHeld : Knd B (w.alloc (.cells #[.int .i64 5, .bool is, .bool dn, .string (ba dig), .int .i64 ex, .string (ba t), .slice vA vl vc, .slice uA ul uc] 29 (0, 0))).drew ∧ (w.alloc (.cells #[.int .i64 5, .bool is, .bool dn, .string (ba dig), .int .i64 ex, .string (ba t), .slice vA vl vc, .slice uA ul uc] 29 (0, 0))).drew.heap[w.heap.size]? = some (.cells #[.int .i64 5, .bool is, .bool dn, .string (ba dig), .int .i64 ex, .string (ba t), .slice vA vl vc, .slice uA ul uc] 29 (0, 0)) := ⟨HK.out.gbn (gb_drew (gb_refl _ _)), blk_new w _⟩
  refine wp_region_T 11 (fun W => Knd B W ∧ W.heap[w.heap.size]? = some (.cells #[.int .i64 5, .bool is, .bool dn, .string (ba dig), .int .i64 ex, .string (ba t), .slice vA vl vc, .slice uA ul uc] 29 (0, 0))) (by kernel_rfl) hHeld ?_
  refine T_take (i := 0) (v := ?_) rfl (by kernel_rfl) (fun _ _ _ h => h) (Or.inl ⟨by rfl, ?_⟩) hHeld ?_
  rotate_left
  ·
    intro W hW
    obtain ⟨hz, c0, c1, c2, c3, c4, c5, c6, c7, c8, c9, c10, c11⟩ := hW.1.op
    have y0 := blk_c hW.2 0
    clear hW
    go_simp
    all_goals with_reducible rfl
  try simp only [Act.put, List.setIfInBounds_toArray, List.set_cons_zero, List.set_cons_succ]
  refine T_take (i := 1) (v := ?_) rfl (by kernel_rfl) (fun _ _ _ h => h) (Or.inl ⟨by rfl, ?_⟩) hHeld ?_
  rotate_left
  ·
    intro W hW
    obtain ⟨hz, c0, c1, c2, c3, c4, c5, c6, c7, c8, c9, c10, c11⟩ := hW.1.op
    have y0 := blk_c hW.2 0
    clear hW
    go_simp
    all_goals with_reducible rfl
  try simp only [Act.put, List.setIfInBounds_toArray, List.set_cons_zero, List.set_cons_succ]
  refine T_take (i := 2) (v := ?_) rfl (by kernel_rfl) (fun _ _ _ h => h) (Or.inl ⟨by rfl, ?_⟩) hHeld ?_
  rotate_left
  ·
    intro W hW
    obtain ⟨hz, c0, c1, c2, c3, c4, c5, c6, c7, c8, c9, c10, c11⟩ := hW.1.op
    have y0 := blk_c hW.2 0
    clear hW
    go_simp
    all_goals with_reducible rfl
  try simp only [Act.put, List.setIfInBounds_toArray, List.set_cons_zero, List.set_cons_succ]
  refine T_take (i := 3) (v := ?_) rfl (by kernel_rfl) (fun _ _ _ h => h) (Or.inl ⟨by rfl, ?_⟩) hHeld ?_
  rotate_left
  ·
    intro W hW
    obtain ⟨hz, c0, c1, c2, c3, c4, c5, c6, c7, c8, c9, c10, c11⟩ := hW.1.op
    have y0 := blk_c hW.2 0
    clear hW
    go_simp
    all_goals with_reducible rfl
  try simp only [Act.put, List.setIfInBounds_toArray, List.set_cons_zero, List.set_cons_succ]
  refine T_take (i := 4) (v := ?_) rfl (by kernel_rfl) (fun _ _ _ h => h) (Or.inl ⟨by rfl, ?_⟩) hHeld ?_
  rotate_left
  ·
    intro W hW
    obtain ⟨hz, c0, c1, c2, c3, c4, c5, c6, c7, c8, c9, c10, c11⟩ := hW.1.op
    have y0 := blk_c hW.2 0
    clear hW
    go_simp
    all_goals with_reducible rfl
  try simp only [Act.put, List.setIfInBounds_toArray, List.set_cons_zero, List.set_cons_succ]
  refine T_take (i := 5) (v := ?_) rfl (by kernel_rfl) (fun _ _ _ h => h) (Or.inl ⟨by rfl, ?_⟩) hHeld ?_
  rotate_left
  ·
    intro W hW
    obtain ⟨hz, c0, c1, c2, c3, c4, c5, c6, c7, c8, c9, c10, c11⟩ := hW.1.op
    have y0 := blk_c hW.2 0
    clear hW
    go_simp
    all_goals with_reducible rfl
  try simp only [Act.put, List.setIfInBounds_toArray, List.set_cons_zero, List.set_cons_succ]
  refine T_take (i := 6) (v := ?_) rfl (by kernel_rfl) (fun _ _ _ h => h) (Or.inl ⟨by rfl, ?_⟩) hHeld ?_
  rotate_left
  ·
    intro W hW
    obtain ⟨hz, c0, c1, c2, c3, c4, c5, c6, c7, c8, c9, c10, c11⟩ := hW.1.op
    have y0 := blk_c hW.2 0
    clear hW
    go_simp
    all_goals with_reducible rfl
  try simp only [Act.put, List.setIfInBounds_toArray, List.set_cons_zero, List.set_cons_succ]
  refine T_take (i := 7) (v := ?_) rfl (by kernel_rfl) (fun _ _ _ h => h) (Or.inl ⟨by rfl, ?_⟩) hHeld ?_
  rotate_left
  ·
    intro W hW
    obtain ⟨hz, c0, c1, c2, c3, c4, c5, c6, c7, c8, c9, c10, c11⟩ := hW.1.op
    have y0 := blk_c hW.2 0
    clear hW
    go_simp
    all_goals with_reducible rfl
  try simp only [Act.put, List.setIfInBounds_toArray, List.set_cons_zero, List.set_cons_succ]
  refine T_take (i := 8) (v := ?_) rfl (by kernel_rfl) (fun _ _ _ h => h) (Or.inl ⟨by rfl, ?_⟩) hHeld ?_
  rotate_left
  ·
    intro W hW
    obtain ⟨hz, c0, c1, c2, c3, c4, c5, c6, c7, c8, c9, c10, c11⟩ := hW.1.op
    have y0 := blk_c hW.2 0
    clear hW
    go_simp
    all_goals with_reducible rfl
  try simp only [Act.put, List.setIfInBounds_toArray, List.set_cons_zero, List.set_cons_succ]
  refine T_take (i := 9) (v := ?_) rfl (by kernel_rfl) (fun _ _ _ h => h) (Or.inl ⟨by rfl, ?_⟩) hHeld ?_
  rotate_left
  ·
    intro W hW
    obtain ⟨hz, c0, c1, c2, c3, c4, c5, c6, c7, c8, c9, c10, c11⟩ := hW.1.op
    have y0 := blk_c hW.2 0
    clear hW
    go_simp
    all_goals with_reducible rfl
  try simp only [Act.put, List.setIfInBounds_toArray, List.set_cons_zero, List.set_cons_succ]
  refine T_take (i := 10) (v := ?_) rfl (by kernel_rfl) (fun _ _ _ h => h) (Or.inl ⟨by rfl, ?_⟩) hHeld ?_
  rotate_left
  ·
    intro W hW
    obtain ⟨hz, c0, c1, c2, c3, c4, c5, c6, c7, c8, c9, c10, c11⟩ := hW.1.op
    have y0 := blk_c hW.2 0
    clear hW
    go_simp
    all_goals with_reducible rfl
  try simp only [Act.put, List.setIfInBounds_toArray, List.set_cons_zero, List.set_cons_succ]
  refine T_tail 11 rfl rfl (by omega) (by kernel_rfl) ?_
  go_wp2
  go_ret2
  exact ⟨rfl, gb_drew (World.grownBy_alloc w _ none)⟩
theorem ord_kind (k : Int) (h0 : 0 ≤ k) (h5 : k ≤ 5) (B : Nat) (h : Knd B w) :
    Calls Tryz.prog 46 #[.agg #[.int .i64 k, .bool is, .bool dn, .string (ba dig), .int .i64 ex, .string (ba t), .slice vA vl vc, .slice uA ul uc]] w fun e w' => e = .returned (.tuple #[.int .u8 ((Js.kind2 k).1.toNat : Int), .int .u8 ((Js.kind2 k).2.toNat : Int)]) ∧ w.grownBy w' none := by
  have hk : k = 0 ∨ k = 1 ∨ k = 2 ∨ k = 3 ∨ k = 4 ∨ k = 5 := by omega
  rcases hk with rfl | rfl | rfl | rfl | rfl | rfl
  · exact ord_kind_0 is dn dig t ex vA uA vl vc ul uc w B h
  · exact ord_kind_1 is dn dig t ex vA uA vl vc ul uc w B h
  · exact ord_kind_2 is dn dig t ex vA uA vl vc ul uc w B h
  · exact ord_kind_3 is dn dig t ex vA uA vl vc ul uc w B h
  · exact ord_kind_4 is dn dig t ex vA uA vl vc ul uc w B h
  · exact ord_kind_5 is dn dig t ex vA uA vl vc ul uc w B h
end
end Go.Proofs.YtocjlbpehfpdoaaGreatDoor
