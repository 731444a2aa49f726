/- package plan: Bounds. -/
import Derived.Test.YtocjlbpehfpdoaaGreatDoorK12
set_option linter.unusedVariables false
set_option linter.unusedSimpArgs false
namespace Go.Proofs.YtocjlbpehfpdoaaGreatDoor
open Go.RowKit

/-- Two rows of bytes and a bool handed back, in new memory. -/
def B3Out (w : World) (l1 l2 : Js.Bs) (b : Bool) (e : Ending) (w' : World) : Prop := ∃ r1 r2, e = .returned (.tuple #[r1, r2, .bool b]) ∧ SlB (fun k => w.heap.size ≤ k) w' l1 r1 ∧ SlB (fun k => w.heap.size ≤ k) w' l2 r2 ∧ w.grownBy w' none
theorem bounds_err {op : Int} {v : Js.V} (h : (Js.okey v).2 ≠ 0) : Js.bounds op v = ([], [], false) := by simp [Js.bounds, h]
theorem bounds_ok {op : Int} {v : Js.V} {K : Js.Bs} (h : (Js.okey v).2 = 0) (hK : (Js.okey v).1 = K) : Js.bounds op v = if op = 0 then (K, Js.behind K, true) else if op = 1 then ([(Js.kind2 v.kind).1], K, true) else if op = 2 then ([(Js.kind2 v.kind).1], Js.behind K, true)
    else if op = 3 then (Js.behind K, [(Js.kind2 v.kind).2], true) else if op = 4 then (K, [(Js.kind2 v.kind).2], true) else ([], [], false) := by
  subst hK
  simp [Js.bounds, h]
theorem blk10 {w : World} {g : Nat} {ty : TypeId} {c0 c1 c2 c3 c4 c5 c6 c7 c8 c9 : Value} (h : w.heap[g]? = some (.cells #[c0, c1, c2, c3, c4, c5, c6, c7, c8, c9] ty (0, 0))) :
    w.cell? ⟨g, 0, none⟩ = some c0 ∧ w.cell? ⟨g, 1, none⟩ = some c1 ∧ w.cell? ⟨g, 2, none⟩ = some c2 ∧ w.cell? ⟨g, 3, none⟩ = some c3 ∧ w.cell? ⟨g, 4, none⟩ = some c4 ∧ w.cell? ⟨g, 5, none⟩ = some c5 ∧ w.cell? ⟨g, 6, none⟩ = some c6 ∧ w.cell? ⟨g, 7, none⟩ = some c7 ∧ w.cell? ⟨g, 8, none⟩ = some c8 ∧ w.cell? ⟨g, 9, none⟩ = some c9 :=
  ⟨by rw [blk_c h]; rfl, by rw [blk_c h]; rfl, by rw [blk_c h]; rfl, by rw [blk_c h]; rfl, by rw [blk_c h]; rfl, by rw [blk_c h]; rfl, by rw [blk_c h]; rfl, by rw [blk_c h]; rfl, by rw [blk_c h]; rfl, by rw [blk_c h]; rfl⟩
theorem okey_len (v : Js.V) (hn : NumW v.num) (ht : v.text.length ≤ 4096) : (Js.okey v).1.length ≤ 9999 := by
  have h1 := onum_len v.num hn
  have h2 := otext_len v.text
  unfold Js.okey
  split
  · simp
  · split
    · simp
    · split
      · rw [List.length_cons]; omega
      · split
        · rw [List.length_cons]; omega
        · simp

section
variable (op k : Int) (is dn : Bool) (dig t : Js.Bs) (ex : Int) (sA vA uA : Option Addr) (sl sc vl vc ul uc : Nat) (w : World)

set_option maxRecDepth 100000 in
set_option maxHeartbeats 8000000 in
theorem bounds_36 (B : Nat) (h : Knd B w) (h0 : 0 ≤ k) (h5 : k ≤ 5) (hn : NumW ⟨dn, dig, ex⟩) (ht : t.length ≤ 4096) (items : List Js.V) (names : List Js.Bs) (he : (Js.okey ⟨k, is, ⟨dn, dig, ex⟩, t, items, names⟩).2 = 36) :
    Calls Tryz.prog 17 #[.agg #[.int .i64 op, .slice sA sl sc, .int .i64 k, .bool is, .bool dn, .string (ba dig), .int .i64 ex, .string (ba t), .slice vA vl vc, .slice uA ul uc]] w (B3Out w [] [] false) := by
  have HK := Lib.hid (fun W (hg : w.grownBy W none) => ord_key is dn dig t ex vA uA vl vc ul uc W k B (h.gbn hg) h0 h5 hn ht items names)
  have HD := Lib.hid (fun W (hg : w.grownBy W none) => ord_kind is dn dig t ex vA uA vl vc ul uc W k h0 h5 B (h.gbn hg))
  have ag := World.grownBy_alloc w (.cells #[.int .i64 op, .slice sA sl sc, .int .i64 k, .bool is, .bool dn, .string (ba dig), .int .i64 ex, .string (ba t), .slice vA vl vc, .slice uA ul uc] 46 (0, 0)) none
  have HB0 := Lib.hid (blk_new w (.cells #[.int .i64 op, .slice sA sl sc, .int .i64 k, .bool is, .bool dn, .string (ba dig), .int .i64 ex, .string (ba t), .slice vA vl vc, .slice uA ul uc] 46 (0, 0)))
  have HAG := Lib.hid ag
  have hlen := okey_len ⟨k, is, ⟨dn, dig, ex⟩, t, items, names⟩ hn ht
  obtain ⟨K, hK⟩ : ∃ K, (Js.okey ⟨k, is, ⟨dn, dig, ex⟩, t, items, names⟩).1 = K := ⟨_, rfl⟩
  rw [hK] at hlen
  have HKK := Lib.hid hK
  obtain ⟨f1, hf1⟩ : ∃ f, (Js.kind2 k).1 = f := ⟨_, rfl⟩
  obtain ⟨f2, hf2⟩ : ∃ f, (Js.kind2 k).2 = f := ⟨_, rfl⟩
  have HF1 := Lib.hid hf1
  have HF2 := Lib.hid hf2
  have HE := Lib.hid he
  clear h ag hn ht h0 h5 hK hf1 hf2 he
  go_enter Tryz.func17, Tryz.ntmps17
  go_wp2_with fail
  refine (HK.out _ HAG.out).mono ?_
  rw [HE.out, HKK.out]
  rintro e w1 ⟨r, rfl, hr, g1⟩
  have hb1 := gb_blk g1 HB0.out (by simp)
  obtain ⟨d0, d1, d2, d3, d4, d5, d6, d7, d8, d9⟩ := blk10 hb1
  obtain ⟨rA, rc, rfl, _, _, _⟩ := hr.reads
  have HG1 := Lib.hid (gb_trans HAG.out g1)
  have HR := Lib.hid (hr.mono (F' := fun q => w.heap.size ≤ q) (fun q hq _ => Nat.le_trans HAG.out.size hq))
  have HB1 := Lib.hid hb1
  clear hb1 g1 hr
  go_wp2_with fail
  refine (HD.out _ HG1.out).mono ?_
  rw [HF1.out, HF2.out]
  rintro e w2 ⟨rfl, g2⟩
  have hb2 := gb_blk g2 HB1.out (by simp)
  obtain ⟨q0, q1, q2, q3, q4, q5, q6, q7, q8, q9⟩ := blk10 hb2
  have hlt2 : w.heap.size < w2.heap.size := blk_lt' hb2
  have hne2 : w.heap.size ≠ w2.heap.size := by omega
  have HG2 := Lib.hid (gb_trans HG1.out g2)
  have HR2 := Lib.hid (HR.out.gbn g2)
  have HB2 := Lib.hid hb2
  clear hb2 g2 d0 d1 d2 d3 d4 d5 d6 d7 d8 d9
  go_wp2
  go_ret3
  exact ⟨_, _, rfl, SlB.nil _ _, SlB.nil _ _, HG2.out⟩

set_option maxRecDepth 100000 in
set_option maxHeartbeats 8000000 in
theorem bounds_0 (B : Nat) (h : Knd B w) (h0 : 0 ≤ k) (h5 : k ≤ 5) (hn : NumW ⟨dn, dig, ex⟩) (ht : t.length ≤ 4096) (items : List Js.V) (names : List Js.Bs) (he : (Js.okey ⟨k, is, ⟨dn, dig, ex⟩, t, items, names⟩).2 = 0) (hop : op = 0) :
    Calls Tryz.prog 17 #[.agg #[.int .i64 op, .slice sA sl sc, .int .i64 k, .bool is, .bool dn, .string (ba dig), .int .i64 ex, .string (ba t), .slice vA vl vc, .slice uA ul uc]] w (B3Out w (Js.okey ⟨k, is, ⟨dn, dig, ex⟩, t, items, names⟩).1 (Js.behind (Js.okey ⟨k, is, ⟨dn, dig, ex⟩, t, items, names⟩).1) true) := by
  have HK := Lib.hid (fun W (hg : w.grownBy W none) => ord_key is dn dig t ex vA uA vl vc ul uc W k B (h.gbn hg) h0 h5 hn ht items names)
  have HD := Lib.hid (fun W (hg : w.grownBy W none) => ord_kind is dn dig t ex vA uA vl vc ul uc W k h0 h5 B (h.gbn hg))
  have ag := World.grownBy_alloc w (.cells #[.int .i64 op, .slice sA sl sc, .int .i64 k, .bool is, .bool dn, .string (ba dig), .int .i64 ex, .string (ba t), .slice vA vl vc, .slice uA ul uc] 46 (0, 0)) none
  have HB0 := Lib.hid (blk_new w (.cells #[.int .i64 op, .slice sA sl sc, .int .i64 k, .bool is, .bool dn, .string (ba dig), .int .i64 ex, .string (ba t), .slice vA vl vc, .slice uA ul uc] 46 (0, 0)))
  have HAG := Lib.hid ag
  have hlen := okey_len ⟨k, is, ⟨dn, dig, ex⟩, t, items, names⟩ hn ht
  obtain ⟨K, hK⟩ : ∃ K, (Js.okey ⟨k, is, ⟨dn, dig, ex⟩, t, items, names⟩).1 = K := ⟨_, rfl⟩
  rw [hK] at hlen ⊢
  have HKK := Lib.hid hK
  obtain ⟨f1, hf1⟩ : ∃ f, (Js.kind2 k).1 = f := ⟨_, rfl⟩
  obtain ⟨f2, hf2⟩ : ∃ f, (Js.kind2 k).2 = f := ⟨_, rfl⟩
  have HF1 := Lib.hid hf1
  have HF2 := Lib.hid hf2
  have HE := Lib.hid he
  subst hop
  clear h ag hn ht h0 h5 hK hf1 hf2 he
  go_enter Tryz.func17, Tryz.ntmps17
  go_wp2_with fail
  refine (HK.out _ HAG.out).mono ?_
  rw [HE.out, HKK.out]
  rintro e w1 ⟨r, rfl, hr, g1⟩
  have hb1 := gb_blk g1 HB0.out (by simp)
  obtain ⟨d0, d1, d2, d3, d4, d5, d6, d7, d8, d9⟩ := blk10 hb1
  obtain ⟨rA, rc, rfl, _, _, _⟩ := hr.reads
  have HG1 := Lib.hid (gb_trans HAG.out g1)
  have HR := Lib.hid (hr.mono (F' := fun q => w.heap.size ≤ q) (fun q hq _ => Nat.le_trans HAG.out.size hq))
  have HB1 := Lib.hid hb1
  clear hb1 g1 hr
  go_wp2_with fail
  refine (HD.out _ HG1.out).mono ?_
  rw [HF1.out, HF2.out]
  rintro e w2 ⟨rfl, g2⟩
  have hb2 := gb_blk g2 HB1.out (by simp)
  obtain ⟨q0, q1, q2, q3, q4, q5, q6, q7, q8, q9⟩ := blk10 hb2
  have hlt2 : w.heap.size < w2.heap.size := blk_lt' hb2
  have hne2 : w.heap.size ≠ w2.heap.size := by omega
  have HG2 := Lib.hid (gb_trans HG1.out g2)
  have HR2 := Lib.hid (HR.out.gbn g2)
  have HB2 := Lib.hid hb2
  clear hb2 g2 d0 d1 d2 d3 d4 d5 d6 d7 d8 d9
  go_wp2_with fail
  refine (plan_behind _ K _ _ HR2.out (by omega)).mono ?_
  rintro e w3 ⟨r3, rfl, hr3, g3⟩
  obtain ⟨r3A, r3c, rfl, _, _, _⟩ := hr3.reads
  have HR3 := Lib.hid (hr3.mono (F' := fun q => w.heap.size ≤ q) (fun q hq _ => Nat.le_trans (Nat.le_of_lt hlt2) hq))
  have HG3 := Lib.hid (gb_trans HG2.out g3)
  have HRK := Lib.hid (HR2.out.gbn g3)
  have hlt3 := HG3.out.size
  clear hr3 g3
  go_wp2
  go_ret3
  exact ⟨_, _, rfl, HRK.out, HR3.out, HG3.out⟩

set_option maxRecDepth 100000 in
set_option maxHeartbeats 8000000 in
theorem bounds_1 (B : Nat) (h : Knd B w) (h0 : 0 ≤ k) (h5 : k ≤ 5) (hn : NumW ⟨dn, dig, ex⟩) (ht : t.length ≤ 4096) (items : List Js.V) (names : List Js.Bs) (he : (Js.okey ⟨k, is, ⟨dn, dig, ex⟩, t, items, names⟩).2 = 0) (hop : op = 1) :
    Calls Tryz.prog 17 #[.agg #[.int .i64 op, .slice sA sl sc, .int .i64 k, .bool is, .bool dn, .string (ba dig), .int .i64 ex, .string (ba t), .slice vA vl vc, .slice uA ul uc]] w (B3Out w [(Js.kind2 k).1] (Js.okey ⟨k, is, ⟨dn, dig, ex⟩, t, items, names⟩).1 true) := by
  have HK := Lib.hid (fun W (hg : w.grownBy W none) => ord_key is dn dig t ex vA uA vl vc ul uc W k B (h.gbn hg) h0 h5 hn ht items names)
  have HD := Lib.hid (fun W (hg : w.grownBy W none) => ord_kind is dn dig t ex vA uA vl vc ul uc W k h0 h5 B (h.gbn hg))
  have ag := World.grownBy_alloc w (.cells #[.int .i64 op, .slice sA sl sc, .int .i64 k, .bool is, .bool dn, .string (ba dig), .int .i64 ex, .string (ba t), .slice vA vl vc, .slice uA ul uc] 46 (0, 0)) none
  have HB0 := Lib.hid (blk_new w (.cells #[.int .i64 op, .slice sA sl sc, .int .i64 k, .bool is, .bool dn, .string (ba dig), .int .i64 ex, .string (ba t), .slice vA vl vc, .slice uA ul uc] 46 (0, 0)))
  have HAG := Lib.hid ag
  have hlen := okey_len ⟨k, is, ⟨dn, dig, ex⟩, t, items, names⟩ hn ht
  obtain ⟨K, hK⟩ : ∃ K, (Js.okey ⟨k, is, ⟨dn, dig, ex⟩, t, items, names⟩).1 = K := ⟨_, rfl⟩
  rw [hK] at hlen ⊢
  have HKK := Lib.hid hK
  obtain ⟨f1, hf1⟩ : ∃ f, (Js.kind2 k).1 = f := ⟨_, rfl⟩
  obtain ⟨f2, hf2⟩ : ∃ f, (Js.kind2 k).2 = f := ⟨_, rfl⟩
  rw [hf1]
  have HF1 := Lib.hid hf1
  have HF2 := Lib.hid hf2
  have HE := Lib.hid he
  subst hop
  clear h ag hn ht h0 h5 hK hf1 hf2 he
  go_enter Tryz.func17, Tryz.ntmps17
  go_wp2_with fail
  refine (HK.out _ HAG.out).mono ?_
  rw [HE.out, HKK.out]
  rintro e w1 ⟨r, rfl, hr, g1⟩
  have hb1 := gb_blk g1 HB0.out (by simp)
  obtain ⟨d0, d1, d2, d3, d4, d5, d6, d7, d8, d9⟩ := blk10 hb1
  obtain ⟨rA, rc, rfl, _, _, _⟩ := hr.reads
  have HG1 := Lib.hid (gb_trans HAG.out g1)
  have HR := Lib.hid (hr.mono (F' := fun q => w.heap.size ≤ q) (fun q hq _ => Nat.le_trans HAG.out.size hq))
  have HB1 := Lib.hid hb1
  clear hb1 g1 hr
  go_wp2_with fail
  refine (HD.out _ HG1.out).mono ?_
  rw [HF1.out, HF2.out]
  rintro e w2 ⟨rfl, g2⟩
  have hb2 := gb_blk g2 HB1.out (by simp)
  obtain ⟨q0, q1, q2, q3, q4, q5, q6, q7, q8, q9⟩ := blk10 hb2
  have hlt2 : w.heap.size < w2.heap.size := blk_lt' hb2
  have hne2 : w.heap.size ≠ w2.heap.size := by omega
  have HG2 := Lib.hid (gb_trans HG1.out g2)
  have HR2 := Lib.hid (HR.out.gbn g2)
  have HB2 := Lib.hid hb2
  clear hb2 g2 d0 d1 d2 d3 d4 d5 d6 d7 d8 d9
  go_wp2
  go_ret3
  exact ⟨_, _, rfl, (bytes_new' w2 [f1] w.heap.size _ 1 rfl rfl HG2.out.size (by simp)).slb (Nat.le_refl _), HR2.out.gbn (World.grownBy_alloc w2 _ none), gb_alloc HG2.out _⟩

set_option maxRecDepth 100000 in
set_option maxHeartbeats 8000000 in
theorem bounds_2 (B : Nat) (h : Knd B w) (h0 : 0 ≤ k) (h5 : k ≤ 5) (hn : NumW ⟨dn, dig, ex⟩) (ht : t.length ≤ 4096) (items : List Js.V) (names : List Js.Bs) (he : (Js.okey ⟨k, is, ⟨dn, dig, ex⟩, t, items, names⟩).2 = 0) (hop : op = 2) :
    Calls Tryz.prog 17 #[.agg #[.int .i64 op, .slice sA sl sc, .int .i64 k, .bool is, .bool dn, .string (ba dig), .int .i64 ex, .string (ba t), .slice vA vl vc, .slice uA ul uc]] w (B3Out w [(Js.kind2 k).1] (Js.behind (Js.okey ⟨k, is, ⟨dn, dig, ex⟩, t, items, names⟩).1) true) := by
  have HK := Lib.hid (fun W (hg : w.grownBy W none) => ord_key is dn dig t ex vA uA vl vc ul uc W k B (h.gbn hg) h0 h5 hn ht items names)
  have HD := Lib.hid (fun W (hg : w.grownBy W none) => ord_kind is dn dig t ex vA uA vl vc ul uc W k h0 h5 B (h.gbn hg))
  have ag := World.grownBy_alloc w (.cells #[.int .i64 op, .slice sA sl sc, .int .i64 k, .bool is, .bool dn, .string (ba dig), .int .i64 ex, .string (ba t), .slice vA vl vc, .slice uA ul uc] 46 (0, 0)) none
  have HB0 := Lib.hid (blk_new w (.cells #[.int .i64 op, .slice sA sl sc, .int .i64 k, .bool is, .bool dn, .string (ba dig), .int .i64 ex, .string (ba t), .slice vA vl vc, .slice uA ul uc] 46 (0, 0)))
  have HAG := Lib.hid ag
  have hlen := okey_len ⟨k, is, ⟨dn, dig, ex⟩, t, items, names⟩ hn ht
  obtain ⟨K, hK⟩ : ∃ K, (Js.okey ⟨k, is, ⟨dn, dig, ex⟩, t, items, names⟩).1 = K := ⟨_, rfl⟩
  rw [hK] at hlen ⊢
  have HKK := Lib.hid hK
  obtain ⟨f1, hf1⟩ : ∃ f, (Js.kind2 k).1 = f := ⟨_, rfl⟩
  obtain ⟨f2, hf2⟩ : ∃ f, (Js.kind2 k).2 = f := ⟨_, rfl⟩
  rw [hf1]
  have HF1 := Lib.hid hf1
  have HF2 := Lib.hid hf2
  have HE := Lib.hid he
  subst hop
  clear h ag hn ht h0 h5 hK hf1 hf2 he
  go_enter Tryz.func17, Tryz.ntmps17
  go_wp2_with fail
  refine (HK.out _ HAG.out).mono ?_
  rw [HE.out, HKK.out]
  rintro e w1 ⟨r, rfl, hr, g1⟩
  have hb1 := gb_blk g1 HB0.out (by simp)
  obtain ⟨d0, d1, d2, d3, d4, d5, d6, d7, d8, d9⟩ := blk10 hb1
  obtain ⟨rA, rc, rfl, _, _, _⟩ := hr.reads
  have HG1 := Lib.hid (gb_trans HAG.out g1)
  have HR := Lib.hid (hr.mono (F' := fun q => w.heap.size ≤ q) (fun q hq _ => Nat.le_trans HAG.out.size hq))
  have HB1 := Lib.hid hb1
  clear hb1 g1 hr
  go_wp2_with fail
  refine (HD.out _ HG1.out).mono ?_
  rw [HF1.out, HF2.out]
  rintro e w2 ⟨rfl, g2⟩
  have hb2 := gb_blk g2 HB1.out (by simp)
  obtain ⟨q0, q1, q2, q3, q4, q5, q6, q7, q8, q9⟩ := blk10 hb2
  have hlt2 : w.heap.size < w2.heap.size := blk_lt' hb2
  have hne2 : w.heap.size ≠ w2.heap.size := by omega
  have HG2 := Lib.hid (gb_trans HG1.out g2)
  have HR2 := Lib.hid (HR.out.gbn g2)
  have HB2 := Lib.hid hb2
  clear hb2 g2 d0 d1 d2 d3 d4 d5 d6 d7 d8 d9
  have HO1 := Lib.hid (bytes_new' w2 [f1] w.heap.size w2.heap.size 1 rfl rfl HG2.out.size (by simp))
  have HR2' := Lib.hid (HR2.out.gbn (World.grownBy_alloc w2 (.cells (bc [f1]).toArray 5 (0, 0)) none))
  go_wp2_with fail
  refine (plan_behind _ K _ _ HR2'.out (by omega)).mono ?_
  rintro e w3 ⟨r3, rfl, hr3, g3⟩
  obtain ⟨r3A, r3c, rfl, _, _, _⟩ := hr3.reads
  have HR3 := Lib.hid (hr3.mono (F' := fun q => w.heap.size ≤ q) (fun q hq _ => Nat.le_trans (Nat.le_trans (Nat.le_of_lt hlt2) (World.grownBy_alloc w2 _ none).size) hq))
  have HG3 := Lib.hid (gb_trans (gb_alloc HG2.out _) g3)
  have HRK := Lib.hid ((HO1.out.kept g3 (.inl rfl)).slb (Nat.le_refl _))
  clear hr3 g3
  go_wp2
  go_ret3
  exact ⟨_, _, rfl, HRK.out, HR3.out, HG3.out⟩

set_option maxRecDepth 100000 in
set_option maxHeartbeats 8000000 in
theorem bounds_3 (B : Nat) (h : Knd B w) (h0 : 0 ≤ k) (h5 : k ≤ 5) (hn : NumW ⟨dn, dig, ex⟩) (ht : t.length ≤ 4096) (items : List Js.V) (names : List Js.Bs) (he : (Js.okey ⟨k, is, ⟨dn, dig, ex⟩, t, items, names⟩).2 = 0) (hop : op = 3) :
    Calls Tryz.prog 17 #[.agg #[.int .i64 op, .slice sA sl sc, .int .i64 k, .bool is, .bool dn, .string (ba dig), .int .i64 ex, .string (ba t), .slice vA vl vc, .slice uA ul uc]] w (B3Out w (Js.behind (Js.okey ⟨k, is, ⟨dn, dig, ex⟩, t, items, names⟩).1) [(Js.kind2 k).2] true) := by
  have HK := Lib.hid (fun W (hg : w.grownBy W none) => ord_key is dn dig t ex vA uA vl vc ul uc W k B (h.gbn hg) h0 h5 hn ht items names)
  have HD := Lib.hid (fun W (hg : w.grownBy W none) => ord_kind is dn dig t ex vA uA vl vc ul uc W k h0 h5 B (h.gbn hg))
  have ag := World.grownBy_alloc w (.cells #[.int .i64 op, .slice sA sl sc, .int .i64 k, .bool is, .bool dn, .string (ba dig), .int .i64 ex, .string (ba t), .slice vA vl vc, .slice uA ul uc] 46 (0, 0)) none
  have HB0 := Lib.hid (blk_new w (.cells #[.int .i64 op, .slice sA sl sc, .int .i64 k, .bool is, .bool dn, .string (ba dig), .int .i64 ex, .string (ba t), .slice vA vl vc, .slice uA ul uc] 46 (0, 0)))
  have HAG := Lib.hid ag
  have hlen := okey_len ⟨k, is, ⟨dn, dig, ex⟩, t, items, names⟩ hn ht
  obtain ⟨K, hK⟩ : ∃ K, (Js.okey ⟨k, is, ⟨dn, dig, ex⟩, t, items, names⟩).1 = K := ⟨_, rfl⟩
  rw [hK] at hlen ⊢
  have HKK := Lib.hid hK
  obtain ⟨f1, hf1⟩ : ∃ f, (Js.kind2 k).1 = f := ⟨_, rfl⟩
  obtain ⟨f2, hf2⟩ : ∃ f, (Js.kind2 k).2 = f := ⟨_, rfl⟩
  rw [hf2]
  have HF1 := Lib.hid hf1
  have HF2 := Lib.hid hf2
  have HE := Lib.hid he
  subst hop
  clear h ag hn ht h0 h5 hK hf1 hf2 he
  go_enter Tryz.func17, Tryz.ntmps17
  go_wp2_with fail
  refine (HK.out _ HAG.out).mono ?_
  rw [HE.out, HKK.out]
  rintro e w1 ⟨r, rfl, hr, g1⟩
  have hb1 := gb_blk g1 HB0.out (by simp)
  obtain ⟨d0, d1, d2, d3, d4, d5, d6, d7, d8, d9⟩ := blk10 hb1
  obtain ⟨rA, rc, rfl, _, _, _⟩ := hr.reads
  have HG1 := Lib.hid (gb_trans HAG.out g1)
  have HR := Lib.hid (hr.mono (F' := fun q => w.heap.size ≤ q) (fun q hq _ => Nat.le_trans HAG.out.size hq))
  have HB1 := Lib.hid hb1
  clear hb1 g1 hr
  go_wp2_with fail
  refine (HD.out _ HG1.out).mono ?_
  rw [HF1.out, HF2.out]
  rintro e w2 ⟨rfl, g2⟩
  have hb2 := gb_blk g2 HB1.out (by simp)
  obtain ⟨q0, q1, q2, q3, q4, q5, q6, q7, q8, q9⟩ := blk10 hb2
  have hlt2 : w.heap.size < w2.heap.size := blk_lt' hb2
  have hne2 : w.heap.size ≠ w2.heap.size := by omega
  have HG2 := Lib.hid (gb_trans HG1.out g2)
  have HR2 := Lib.hid (HR.out.gbn g2)
  have HB2 := Lib.hid hb2
  clear hb2 g2 d0 d1 d2 d3 d4 d5 d6 d7 d8 d9
  go_wp2_with fail
  refine (plan_behind _ K _ _ HR2.out (by omega)).mono ?_
  rintro e w3 ⟨r3, rfl, hr3, g3⟩
  obtain ⟨r3A, r3c, rfl, _, _, _⟩ := hr3.reads
  have HR3 := Lib.hid (hr3.mono (F' := fun q => w.heap.size ≤ q) (fun q hq _ => Nat.le_trans (Nat.le_of_lt hlt2) hq))
  have HG3 := Lib.hid (gb_trans HG2.out g3)
  have HRK := Lib.hid (HR2.out.gbn g3)
  have hlt3 := HG3.out.size
  clear hr3 g3
  go_wp2
  go_ret3
  exact ⟨_, _, rfl, HR3.out.gbn (World.grownBy_alloc w3 _ none), (bytes_new' w3 [f2] w.heap.size _ 1 rfl rfl hlt3 (by simp)).slb (Nat.le_refl _), gb_alloc HG3.out _⟩

set_option maxRecDepth 100000 in
set_option maxHeartbeats 8000000 in
theorem bounds_4 (B : Nat) (h : Knd B w) (h0 : 0 ≤ k) (h5 : k ≤ 5) (hn : NumW ⟨dn, dig, ex⟩) (ht : t.length ≤ 4096) (items : List Js.V) (names : List Js.Bs) (he : (Js.okey ⟨k, is, ⟨dn, dig, ex⟩, t, items, names⟩).2 = 0) (hop : op = 4) :
    Calls Tryz.prog 17 #[.agg #[.int .i64 op, .slice sA sl sc, .int .i64 k, .bool is, .bool dn, .string (ba dig), .int .i64 ex, .string (ba t), .slice vA vl vc, .slice uA ul uc]] w (B3Out w (Js.okey ⟨k, is, ⟨dn, dig, ex⟩, t, items, names⟩).1 [(Js.kind2 k).2] true) := by
  have HK := Lib.hid (fun W (hg : w.grownBy W none) => ord_key is dn dig t ex vA uA vl vc ul uc W k B (h.gbn hg) h0 h5 hn ht items names)
  have HD := Lib.hid (fun W (hg : w.grownBy W none) => ord_kind is dn dig t ex vA uA vl vc ul uc W k h0 h5 B (h.gbn hg))
  have ag := World.grownBy_alloc w (.cells #[.int .i64 op, .slice sA sl sc, .int .i64 k, .bool is, .bool dn, .string (ba dig), .int .i64 ex, .string (ba t), .slice vA vl vc, .slice uA ul uc] 46 (0, 0)) none
  have HB0 := Lib.hid (blk_new w (.cells #[.int .i64 op, .slice sA sl sc, .int .i64 k, .bool is, .bool dn, .string (ba dig), .int .i64 ex, .string (ba t), .slice vA vl vc, .slice uA ul uc] 46 (0, 0)))
  have HAG := Lib.hid ag
  have hlen := okey_len ⟨k, is, ⟨dn, dig, ex⟩, t, items, names⟩ hn ht
  obtain ⟨K, hK⟩ : ∃ K, (Js.okey ⟨k, is, ⟨dn, dig, ex⟩, t, items, names⟩).1 = K := ⟨_, rfl⟩
  rw [hK] at hlen ⊢
  have HKK := Lib.hid hK
  obtain ⟨f1, hf1⟩ : ∃ f, (Js.kind2 k).1 = f := ⟨_, rfl⟩
  obtain ⟨f2, hf2⟩ : ∃ f, (Js.kind2 k).2 = f := ⟨_, rfl⟩
  rw [hf2]
  have HF1 := Lib.hid hf1
  have HF2 := Lib.hid hf2
  have HE := Lib.hid he
  subst hop
  clear h ag hn ht h0 h5 hK hf1 hf2 he
  go_enter Tryz.func17, Tryz.ntmps17
  go_wp2_with fail
  refine (HK.out _ HAG.out).mono ?_
  rw [HE.out, HKK.out]
  rintro e w1 ⟨r, rfl, hr, g1⟩
  have hb1 := gb_blk g1 HB0.out (by simp)
  obtain ⟨d0, d1, d2, d3, d4, d5, d6, d7, d8, d9⟩ := blk10 hb1
  obtain ⟨rA, rc, rfl, _, _, _⟩ := hr.reads
  have HG1 := Lib.hid (gb_trans HAG.out g1)
  have HR := Lib.hid (hr.mono (F' := fun q => w.heap.size ≤ q) (fun q hq _ => Nat.le_trans HAG.out.size hq))
  have HB1 := Lib.hid hb1
  clear hb1 g1 hr
  go_wp2_with fail
  refine (HD.out _ HG1.out).mono ?_
  rw [HF1.out, HF2.out]
  rintro e w2 ⟨rfl, g2⟩
  have hb2 := gb_blk g2 HB1.out (by simp)
  obtain ⟨q0, q1, q2, q3, q4, q5, q6, q7, q8, q9⟩ := blk10 hb2
  have hlt2 : w.heap.size < w2.heap.size := blk_lt' hb2
  have hne2 : w.heap.size ≠ w2.heap.size := by omega
  have HG2 := Lib.hid (gb_trans HG1.out g2)
  have HR2 := Lib.hid (HR.out.gbn g2)
  have HB2 := Lib.hid hb2
  clear hb2 g2 d0 d1 d2 d3 d4 d5 d6 d7 d8 d9
  go_wp2
  go_ret3
  exact ⟨_, _, rfl, HR2.out.gbn (World.grownBy_alloc w2 _ none), (bytes_new' w2 [f2] w.heap.size _ 1 rfl rfl HG2.out.size (by simp)).slb (Nat.le_refl _), gb_alloc HG2.out _⟩

set_option maxRecDepth 100000 in
set_option maxHeartbeats 8000000 in
theorem bounds_x (B : Nat) (h : Knd B w) (h0 : 0 ≤ k) (h5 : k ≤ 5) (hn : NumW ⟨dn, dig, ex⟩) (ht : t.length ≤ 4096) (items : List Js.V) (names : List Js.Bs) (he : (Js.okey ⟨k, is, ⟨dn, dig, ex⟩, t, items, names⟩).2 = 0) (hop : op ≠ 0 ∧ op ≠ 1 ∧ op ≠ 2 ∧ op ≠ 3 ∧ op ≠ 4) :
    Calls Tryz.prog 17 #[.agg #[.int .i64 op, .slice sA sl sc, .int .i64 k, .bool is, .bool dn, .string (ba dig), .int .i64 ex, .string (ba t), .slice vA vl vc, .slice uA ul uc]] w (B3Out w [] [] false) := by
  have HK := Lib.hid (fun W (hg : w.grownBy W none) => ord_key is dn dig t ex vA uA vl vc ul uc W k B (h.gbn hg) h0 h5 hn ht items names)
  have HD := Lib.hid (fun W (hg : w.grownBy W none) => ord_kind is dn dig t ex vA uA vl vc ul uc W k h0 h5 B (h.gbn hg))
  have ag := World.grownBy_alloc w (.cells #[.int .i64 op, .slice sA sl sc, .int .i64 k, .bool is, .bool dn, .string (ba dig), .int .i64 ex, .string (ba t), .slice vA vl vc, .slice uA ul uc] 46 (0, 0)) none
  have HB0 := Lib.hid (blk_new w (.cells #[.int .i64 op, .slice sA sl sc, .int .i64 k, .bool is, .bool dn, .string (ba dig), .int .i64 ex, .string (ba t), .slice vA vl vc, .slice uA ul uc] 46 (0, 0)))
  have HAG := Lib.hid ag
  have hlen := okey_len ⟨k, is, ⟨dn, dig, ex⟩, t, items, names⟩ hn ht
  obtain ⟨K, hK⟩ : ∃ K, (Js.okey ⟨k, is, ⟨dn, dig, ex⟩, t, items, names⟩).1 = K := ⟨_, rfl⟩
  rw [hK] at hlen
  have HKK := Lib.hid hK
  obtain ⟨f1, hf1⟩ : ∃ f, (Js.kind2 k).1 = f := ⟨_, rfl⟩
  obtain ⟨f2, hf2⟩ : ∃ f, (Js.kind2 k).2 = f := ⟨_, rfl⟩
  have HF1 := Lib.hid hf1
  have HF2 := Lib.hid hf2
  have HE := Lib.hid he
  clear h ag hn ht h0 h5 hK hf1 hf2 he
  go_enter Tryz.func17, Tryz.ntmps17
  go_wp2_with fail
  refine (HK.out _ HAG.out).mono ?_
  rw [HE.out, HKK.out]
  rintro e w1 ⟨r, rfl, hr, g1⟩
  have hb1 := gb_blk g1 HB0.out (by simp)
  obtain ⟨d0, d1, d2, d3, d4, d5, d6, d7, d8, d9⟩ := blk10 hb1
  obtain ⟨rA, rc, rfl, _, _, _⟩ := hr.reads
  have HG1 := Lib.hid (gb_trans HAG.out g1)
  have HR := Lib.hid (hr.mono (F' := fun q => w.heap.size ≤ q) (fun q hq _ => Nat.le_trans HAG.out.size hq))
  have HB1 := Lib.hid hb1
  clear hb1 g1 hr
  go_wp2_with fail
  refine (HD.out _ HG1.out).mono ?_
  rw [HF1.out, HF2.out]
  rintro e w2 ⟨rfl, g2⟩
  have hb2 := gb_blk g2 HB1.out (by simp)
  obtain ⟨q0, q1, q2, q3, q4, q5, q6, q7, q8, q9⟩ := blk10 hb2
  have hlt2 : w.heap.size < w2.heap.size := blk_lt' hb2
  have hne2 : w.heap.size ≠ w2.heap.size := by omega
  have HG2 := Lib.hid (gb_trans HG1.out g2)
  have HR2 := Lib.hid (HR.out.gbn g2)
  have HB2 := Lib.hid hb2
  clear hb2 g2 d0 d1 d2 d3 d4 d5 d6 d7 d8 d9
  have e0 : (op == 0) = false := by simpa using hop.1
  have e1 : (op == 1) = false := by simpa using hop.2.1
  have e2 : (op == 2) = false := by simpa using hop.2.2.1
  have e3 : (op == 3) = false := by simpa using hop.2.2.2.1
  have e4 : (op == 4) = false := by simpa using hop.2.2.2.2
  clear hop
  go_wp2
  go_ret3
  exact ⟨_, _, rfl, SlB.nil _ _, SlB.nil _ _, HG2.out⟩

theorem plan_bounds (B : Nat) (h : Knd B w) (h0 : 0 ≤ k) (h5 : k ≤ 5) (hn : NumW ⟨dn, dig, ex⟩) (ht : t.length ≤ 4096) (items : List Js.V) (names : List Js.Bs) :
    Calls Tryz.prog 17 #[.agg #[.int .i64 op, .slice sA sl sc, .int .i64 k, .bool is, .bool dn, .string (ba dig), .int .i64 ex, .string (ba t), .slice vA vl vc, .slice uA ul uc]] w (B3Out w (Js.bounds op ⟨k, is, ⟨dn, dig, ex⟩, t, items, names⟩).1 (Js.bounds op ⟨k, is, ⟨dn, dig, ex⟩, t, items, names⟩).2.1 (Js.bounds op ⟨k, is, ⟨dn, dig, ex⟩, t, items, names⟩).2.2) := by
  have hok : (Js.okey ⟨k, is, ⟨dn, dig, ex⟩, t, items, names⟩).2 = 0 ∨ (Js.okey ⟨k, is, ⟨dn, dig, ex⟩, t, items, names⟩).2 = 36 := by
    unfold Js.okey
    repeat' split
    all_goals simp
  rcases hok with he | he
  · rw [bounds_ok he rfl]
    by_cases o0 : op = 0
    · rw [if_pos o0]; exact bounds_0 op k is dn dig t ex sA vA uA sl sc vl vc ul uc w B h h0 h5 hn ht items names he o0
    rw [if_neg o0]
    by_cases o1 : op = 1
    · rw [if_pos o1]; exact bounds_1 op k is dn dig t ex sA vA uA sl sc vl vc ul uc w B h h0 h5 hn ht items names he o1
    rw [if_neg o1]
    by_cases o2 : op = 2
    · rw [if_pos o2]; exact bounds_2 op k is dn dig t ex sA vA uA sl sc vl vc ul uc w B h h0 h5 hn ht items names he o2
    rw [if_neg o2]
    by_cases o3 : op = 3
    · rw [if_pos o3]; exact bounds_3 op k is dn dig t ex sA vA uA sl sc vl vc ul uc w B h h0 h5 hn ht items names he o3
    rw [if_neg o3]
    by_cases o4 : op = 4
    · rw [if_pos o4]; exact bounds_4 op k is dn dig t ex sA vA uA sl sc vl vc ul uc w B h h0 h5 hn ht items names he o4
    rw [if_neg o4]
    exact bounds_x op k is dn dig t ex sA vA uA sl sc vl vc ul uc w B h h0 h5 hn ht items names he ⟨o0, o1, o2, o3, o4⟩
  · rw [bounds_err (by rw [he]; decide)]
    exact bounds_36 op k is dn dig t ex sA vA uA sl sc vl vc ul uc w B h h0 h5 hn ht items names he
end
end Go.Proofs.YtocjlbpehfpdoaaGreatDoor
