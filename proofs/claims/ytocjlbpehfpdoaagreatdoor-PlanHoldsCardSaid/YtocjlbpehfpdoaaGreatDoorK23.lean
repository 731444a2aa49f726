/- package filter: passes; slices.ContainsFunc with it. -/
import Derived.Test.YtocjlbpehfpdoaaGreatDoorK22
set_option linter.unusedVariables false
set_option linter.unusedSimpArgs false
namespace Go.Proofs.YtocjlbpehfpdoaaGreatDoor
open Go.RowKit

/-- A bool handed back; memory has grown at most. -/
def BlOut (w : World) (b : Bool) (e : Ending) (w' : World) : Prop := e = .returned (.bool b) ∧ w.grownBy w' none
def passB (op : Int) (k1 k2 c : Int) : Bool := if op = 5 then true else if k1 ≠ k2 then false else if op = 0 then (c == 0) else if op = 1 then decide (c < 0) else if op = 2 then decide (c ≤ 0) else if op = 3 then decide (0 < c) else decide (0 ≤ c)
theorem passes_eq (op : Int) (x y : Js.V) : Js.passes op x y = passB op x.kind y.kind (Js.cmpV x y) := by
  unfold Js.passes passB
  rfl

set_option maxRecDepth 100000 in
set_option maxHeartbeats 8000000 in
theorem flt_passes (op k1 k2 : Int) (is1 is2 dn1 dn2 : Bool) (dig1 dig2 t1 t2 : Js.Bs) (ex1 ex2 : Int) (sA vA1 uA1 vA2 uA2 : Option Addr) (sl sc vl1 vc1 ul1 uc1 vl2 vc2 ul2 uc2 : Nat) (items1 items2 : List Js.V) (names1 names2 : List Js.Bs) (w : World) (h10 : 0 ≤ k1) (h15 : k1 ≤ 5) (hk : k1 = k2 → k1 ≤ 3) (h1 : NumC ⟨dn1, dig1, ex1⟩) (h2 : NumC ⟨dn2, dig2, ex2⟩) :
    Calls Tryz.prog 323 #[.agg #[.int .i64 op, .slice sA sl sc, .int .i64 k2, .bool is2, .bool dn2, .string (ba dig2), .int .i64 ex2, .string (ba t2), .slice vA2 vl2 vc2, .slice uA2 ul2 uc2], .agg #[.int .i64 k1, .bool is1, .bool dn1, .string (ba dig1), .int .i64 ex1, .string (ba t1), .slice vA1 vl1 vc1, .slice uA1 ul1 uc1]] w (BlOut w (Js.passes op ⟨k1, is1, ⟨dn1, dig1, ex1⟩, t1, items1, names1⟩ ⟨k2, is2, ⟨dn2, dig2, ex2⟩, t2, items2, names2⟩)) := by
  rw [passes_eq]
  obtain ⟨c, hc⟩ : ∃ c, Js.cmpV ⟨k1, is1, ⟨dn1, dig1, ex1⟩, t1, items1, names1⟩ ⟨k2, is2, ⟨dn2, dig2, ex2⟩, t2, items2, names2⟩ = c := ⟨_, rfl⟩
  have HC := Lib.hid (fun W => hc ▸ json_compare k1 k2 is1 is2 dn1 dn2 dig1 dig2 t1 t2 ex1 ex2 vA1 uA1 vA2 uA2 vl1 vc1 ul1 uc1 vl2 vc2 ul2 uc2 items1 items2 names1 names2 W h10 h15 hk h1 h2)
  rw [hc]
  show Calls Tryz.prog 323 #[.agg #[.int .i64 op, .slice sA sl sc, .int .i64 k2, .bool is2, .bool dn2, .string (ba dig2), .int .i64 ex2, .string (ba t2), .slice vA2 vl2 vc2, .slice uA2 ul2 uc2], .agg #[.int .i64 k1, .bool is1, .bool dn1, .string (ba dig1), .int .i64 ex1, .string (ba t1), .slice vA1 vl1 vc1, .slice uA1 ul1 uc1]] w (BlOut w (passB op k1 k2 c))
  have ag := gb_alloc (World.grownBy_alloc w (.cells #[.int .i64 op, .slice sA sl sc, .int .i64 k2, .bool is2, .bool dn2, .string (ba dig2), .int .i64 ex2, .string (ba t2), .slice vA2 vl2 vc2, .slice uA2 ul2 uc2] 46 (0, 0)) none) (.cells #[.int .i64 k1, .bool is1, .bool dn1, .string (ba dig1), .int .i64 ex1, .string (ba t1), .slice vA1 vl1 vc1, .slice uA1 ul1 uc1] 29 (0, 0))
  have hh : Two w (.cells #[.int .i64 op, .slice sA sl sc, .int .i64 k2, .bool is2, .bool dn2, .string (ba dig2), .int .i64 ex2, .string (ba t2), .slice vA2 vl2 vc2, .slice uA2 ul2 uc2] 46 (0, 0)) (.cells #[.int .i64 k1, .bool is1, .bool dn1, .string (ba dig1), .int .i64 ex1, .string (ba t1), .slice vA1 vl1 vc1, .slice uA1 ul1 uc1] 29 (0, 0)) ((w.alloc (.cells #[.int .i64 op, .slice sA sl sc, .int .i64 k2, .bool is2, .bool dn2, .string (ba dig2), .int .i64 ex2, .string (ba t2), .slice vA2 vl2 vc2, .slice uA2 ul2 uc2] 46 (0, 0))).alloc (.cells #[.int .i64 k1, .bool is1, .bool dn1, .string (ba dig1), .int .i64 ex1, .string (ba t1), .slice vA1 vl1 vc1, .slice uA1 ul1 uc1] 29 (0, 0))) := ⟨blk_alloc (blk_new w _) _, by have := blk_new (w.alloc (.cells #[.int .i64 op, .slice sA sl sc, .int .i64 k2, .bool is2, .bool dn2, .string (ba dig2), .int .i64 ex2, .string (ba t2), .slice vA2 vl2 vc2, .slice uA2 ul2 uc2] 46 (0, 0))) (.cells #[.int .i64 k1, .bool is1, .bool dn1, .string (ba dig1), .int .i64 ex1, .string (ba t1), .slice vA1 vl1 vc1, .slice uA1 ul1 uc1] 29 (0, 0)); simpa using this⟩
  have HAG := Lib.hid ag
  have HH0 := Lib.hid hh
  obtain ⟨R, hR⟩ : ∃ R, passB op k1 k2 c = R := ⟨_, rfl⟩
  rw [hR]
  have HR := Lib.hid hR
  clear hc ag hh h1 h2 h10 h15 hk hR
  go_enter Tryz.func323, Tryz.ntmps323
  go_wp2_with fail
  refine (HC.out _).mono ?_
  rintro e w1 ⟨rfl, g1⟩
  have hT := HH0.out.gb g1
  obtain ⟨d0, _, d2, _⟩ := blk10 hT.1
  have x0 : w1.cell? ⟨w.heap.size + 1, 0, none⟩ = some (.int .i64 k1) := by rw [blk_c hT.2]; rfl
  have HG := Lib.hid (gb_trans HAG.out g1)
  clear hT g1 HC HH0
  by_cases o5 : op = 5
  · subst o5
    have HR2 : Hid (true = R) := Lib.hid (by rw [← HR.out]; simp [passB])
    go_wp2_with fail
    go_ret
    exact ⟨by rw [← HR2.out]; rfl, HG.out⟩
  have e5 : (op == 5) = false := by simpa using o5
  by_cases hkk : k1 = k2
  · subst hkk
    have hkf : (k1 != k1) = false := by simp
    by_cases o0 : op = 0
    · subst o0
      have HR2 : Hid ((c == 0) = R) := Lib.hid (by rw [← HR.out]; simp [passB])
      go_wp2_with fail
      go_ret
      exact ⟨by rw [← HR2.out]; rfl, HG.out⟩
    have e0 : (op == 0) = false := by simpa using o0
    by_cases o1 : op = 1
    · subst o1
      have HR2 : Hid (decide (c < 0) = R) := Lib.hid (by rw [← HR.out]; simp [passB])
      go_wp2_with fail
      go_ret
      exact ⟨by rw [← HR2.out]; rfl, HG.out⟩
    have e1 : (op == 1) = false := by simpa using o1
    by_cases o2 : op = 2
    · subst o2
      have HR2 : Hid (decide (c ≤ 0) = R) := Lib.hid (by rw [← HR.out]; simp [passB])
      go_wp2_with fail
      go_ret
      exact ⟨by rw [← HR2.out]; rfl, HG.out⟩
    have e2 : (op == 2) = false := by simpa using o2
    by_cases o3 : op = 3
    · subst o3
      have HR2 : Hid (decide (0 < c) = R) := Lib.hid (by rw [← HR.out]; simp [passB])
      go_wp2_with fail
      go_ret
      exact ⟨by rw [← HR2.out]; rfl, HG.out⟩
    have e3 : (op == 3) = false := by simpa using o3
    have HR2 : Hid (decide (0 ≤ c) = R) := Lib.hid (by rw [← HR.out]; simp [passB, o5, o0, o1, o2, o3])
    clear o5 o0 o1 o2 o3
    go_wp2_with fail
    go_ret
    exact ⟨by rw [← HR2.out]; rfl, HG.out⟩
  · have hkt : (k1 != k2) = true := by simpa using hkk
    have HR2 : Hid (false = R) := Lib.hid (by rw [← HR.out]; simp [passB, o5, hkk])
    clear o5 hkk
    go_wp2_with fail
    go_ret
    exact ⟨by rw [← HR2.out]; rfl, HG.out⟩

set_option maxRecDepth 100000 in
set_option maxHeartbeats 8000000 in
theorem idx_passes (op k1 k2 : Int) (is1 is2 dn1 dn2 : Bool) (dig1 dig2 t1 t2 : Js.Bs) (ex1 ex2 : Int) (sA vA1 uA1 vA2 uA2 : Option Addr) (sl sc vl1 vc1 ul1 uc1 vl2 vc2 ul2 uc2 : Nat) (items1 items2 : List Js.V) (names1 names2 : List Js.Bs) (w : World) (xb c : Nat) (hxb : w.heap[xb]? = some (.cells #[.int .i64 k1, .bool is1, .bool dn1, .string (ba dig1), .int .i64 ex1, .string (ba t1), .slice vA1 vl1 vc1, .slice uA1 ul1 uc1] 29 (0, 0))) (h10 : 0 ≤ k1) (h15 : k1 ≤ 5) (hk : k1 = k2 → k1 ≤ 3) (h1 : NumC ⟨dn1, dig1, ex1⟩) (h2 : NumC ⟨dn2, dig2, ex2⟩) :
    Calls Tryz.prog 207 #[.slice (some ⟨xb, 0, none⟩) 1 c, .func (.func 323) #[.agg #[.int .i64 op, .slice sA sl sc, .int .i64 k2, .bool is2, .bool dn2, .string (ba dig2), .int .i64 ex2, .string (ba t2), .slice vA2 vl2 vc2, .slice uA2 ul2 uc2]] #[]] w (IOut w (if Js.passes op ⟨k1, is1, ⟨dn1, dig1, ex1⟩, t1, items1, names1⟩ ⟨k2, is2, ⟨dn2, dig2, ex2⟩, t2, items2, names2⟩ then 0 else -1)) := by
  have HP := Lib.hid (fun W => flt_passes op k1 k2 is1 is2 dn1 dn2 dig1 dig2 t1 t2 ex1 ex2 sA vA1 uA1 vA2 uA2 sl sc vl1 vc1 ul1 uc1 vl2 vc2 ul2 uc2 items1 items2 names1 names2 W h10 h15 hk h1 h2)
  obtain ⟨b, hb⟩ : ∃ b, Js.passes op ⟨k1, is1, ⟨dn1, dig1, ex1⟩, t1, items1, names1⟩ ⟨k2, is2, ⟨dn2, dig2, ex2⟩, t2, items2, names2⟩ = b := ⟨_, rfl⟩
  rw [hb] at HP ⊢
  obtain ⟨⟨x0, x1, x2, x3, x4, x5, x6, x7⟩, _⟩ := blk8 hxb
  have HG := Lib.hid (gb_refl w none)
  clear hxb h10 h15 hk h1 h2 hb
  cases b
  · go_enter Tryz.func207, Tryz.ntmps207
    go_wp2_with fail
    go_loopw [8] (fun s8 wr => (s8 = .int .i64 0 ∧ wr = w) ∨ (s8 = .int .i64 1 ∧ w.grownBy wr none)) (fun s8 _ => 1 - (intOf s8).toNat)
    case atStart => exact .inl ⟨rfl, rfl⟩
    case round =>
      rcases hrel with ⟨rfl, rfl⟩ | ⟨rfl, hg⟩
      · go_wp2_with fail
        refine (HP.out _).mono ?_
        rintro e w1 ⟨rfl, g1⟩
        have HG1 := Lib.hid g1
        clear g1
        go_wp2_with fail
        go_roundw
        case rel => exact .inr ⟨rfl, HG1.out⟩
        case measure => simp [intOf]
      · have HG1 := Lib.hid hg
        clear hg
        go_wp2_with fail
        go_ret
        exact ⟨rfl, HG1.out⟩
  · go_enter Tryz.func207, Tryz.ntmps207
    go_wp2_with fail
    go_loopw [8] (fun s8 wr => s8 = .int .i64 0 ∧ wr = w) (fun s8 _ => 0)
    case atStart => exact ⟨rfl, rfl⟩
    case round =>
      obtain ⟨rfl, rfl⟩ := hrel
      go_wp2_with fail
      refine (HP.out _).mono ?_
      rintro e w1 ⟨rfl, g1⟩
      have HG1 := Lib.hid g1
      clear g1
      go_wp2_with fail
      go_ret
      exact ⟨rfl, HG1.out⟩
set_option maxRecDepth 100000 in
set_option maxHeartbeats 8000000 in
theorem has_passes (op k1 k2 : Int) (is1 is2 dn1 dn2 : Bool) (dig1 dig2 t1 t2 : Js.Bs) (ex1 ex2 : Int) (sA vA1 uA1 vA2 uA2 : Option Addr) (sl sc vl1 vc1 ul1 uc1 vl2 vc2 ul2 uc2 : Nat) (items1 items2 : List Js.V) (names1 names2 : List Js.Bs) (w : World) (xb c : Nat) (hxb : w.heap[xb]? = some (.cells #[.int .i64 k1, .bool is1, .bool dn1, .string (ba dig1), .int .i64 ex1, .string (ba t1), .slice vA1 vl1 vc1, .slice uA1 ul1 uc1] 29 (0, 0))) (h10 : 0 ≤ k1) (h15 : k1 ≤ 5) (hk : k1 = k2 → k1 ≤ 3) (h1 : NumC ⟨dn1, dig1, ex1⟩) (h2 : NumC ⟨dn2, dig2, ex2⟩) :
    Calls Tryz.prog 161 #[.slice (some ⟨xb, 0, none⟩) 1 c, .func (.func 323) #[.agg #[.int .i64 op, .slice sA sl sc, .int .i64 k2, .bool is2, .bool dn2, .string (ba dig2), .int .i64 ex2, .string (ba t2), .slice vA2 vl2 vc2, .slice uA2 ul2 uc2]] #[]] w (BlOut w (Js.passes op ⟨k1, is1, ⟨dn1, dig1, ex1⟩, t1, items1, names1⟩ ⟨k2, is2, ⟨dn2, dig2, ex2⟩, t2, items2, names2⟩)) := by
  have HP := Lib.hid (idx_passes op k1 k2 is1 is2 dn1 dn2 dig1 dig2 t1 t2 ex1 ex2 sA vA1 uA1 vA2 uA2 sl sc vl1 vc1 ul1 uc1 vl2 vc2 ul2 uc2 items1 items2 names1 names2 w xb c hxb h10 h15 hk h1 h2)
  obtain ⟨b, hb⟩ : ∃ b, Js.passes op ⟨k1, is1, ⟨dn1, dig1, ex1⟩, t1, items1, names1⟩ ⟨k2, is2, ⟨dn2, dig2, ex2⟩, t2, items2, names2⟩ = b := ⟨_, rfl⟩
  rw [hb] at HP ⊢
  clear hxb h10 h15 hk h1 h2 hb
  cases b
  · go_enter Tryz.func161, Tryz.ntmps161
    go_wp2_with fail
    refine HP.out.mono ?_
    rintro e w1 ⟨rfl, g1⟩
    have HG1 := Lib.hid g1
    clear g1
    go_wp2_with fail
    go_ret
    exact ⟨rfl, HG1.out⟩
  · go_enter Tryz.func161, Tryz.ntmps161
    go_wp2_with fail
    refine HP.out.mono ?_
    rintro e w1 ⟨rfl, g1⟩
    have HG1 := Lib.hid g1
    clear g1
    go_wp2_with fail
    go_ret
    exact ⟨rfl, HG1.out⟩
end Go.Proofs.YtocjlbpehfpdoaaGreatDoor
