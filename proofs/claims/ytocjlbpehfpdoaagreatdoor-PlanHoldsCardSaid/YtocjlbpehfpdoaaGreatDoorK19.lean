/- What an array, an object holds while its things are read. · package json's reader: array's literal: an item more. · package json's reader: an array. -/
import Derived.Test.YtocjlbpehfpdoaaGreatDoorK03
import Derived.Test.YtocjlbpehfpdoaaGreatDoorK18
import Derived.Deep.AppendLies
import Derived.Deep.RegionLaw
set_option linter.unusedVariables false
set_option linter.unusedSimpArgs false
namespace Go.Proofs.YtocjlbpehfpdoaaGreatDoor
open Go.RowKit

/-- Whatever blocks an item may lead to. -/
def Fr (base : Nat) (si sn : Value) (k : Nat) : Prop := base ≤ k ∧ si.ownBlock ≠ some k ∧ sn.ownBlock ≠ some k

/-- A value that is being read: its variable b3, its items, its names; bx: the reader's own variable. -/
def VI (wb : World) (r bx b3 base : Nat) (kind : Int) (items : List Js.V) (names : List Js.Bs) (W : World) (si sn : Value) (xs : List Value) : Prop :=
  wb.grownBy W (some r) ∧ W.heap[bx]? = some (.cells #[.pointer (some ⟨r, 0, none⟩)] 87 (0, 0)) ∧
  W.heap[b3]? = some (.cells #[.int .i64 kind, .bool false, .bool false, .string ⟨#[]⟩, .int .i64 0, .string ⟨#[]⟩, si, sn] 29 (0, 0)) ∧
  W.ownsRow base 29 8 si items.length xs ∧ W.ownsRow base 9 1 sn names.length (strs names) ∧ Els (Fr base si sn) W items xs

theorem Els_one {F : Nat → Prop} {w : World} : ∀ (l : List Js.V) (xs : List Value), Els F w l xs → ∀ u ∈ xs, u.oneCell' = true
  | [], xs, h => by
    simp only [Els] at h
    subst h
    intro u hu; cases hu
  | v :: l, xs, h => by
    simp only [Els] at h
    obtain ⟨si, sn, rest, rfl, hv, hr⟩ := h
    obtain ⟨A, n, c, A', n', c', rfl, rfl⟩ := RdV.two hv
    intro u hu
    rcases List.mem_append.1 hu with hu | hu
    · exact vcs_one v _ _ rfl rfl u hu
    · exact Els_one l rest hr u hu
theorem Els_len {F : Nat → Prop} {w : World} : ∀ (l : List Js.V) (xs : List Value), Els F w l xs → xs.length = l.length * 8
  | [], xs, h => by
    simp only [Els] at h
    subst h
    rfl
  | v :: l, xs, h => by
    simp only [Els] at h
    obtain ⟨si, sn, rest, rfl, hv, hr⟩ := h
    rw [List.length_append, Els_len l rest hr, List.length_cons]
    show 8 + _ = _
    omega
theorem Els_append {F : Nat → Prop} {w : World} : ∀ (a b : List Js.V) (xs ys : List Value), Els F w a xs → Els F w b ys → Els F w (a ++ b) (xs ++ ys)
  | [], b, xs, ys, h, k => by
    simp only [Els] at h
    subst h
    exact k
  | v :: l, b, xs, ys, h, k => by
    simp only [Els] at h
    obtain ⟨si, sn, rest, rfl, hv, hr⟩ := h
    show Els F w (v :: (l ++ b)) _
    simp only [Els]
    exact ⟨si, sn, rest ++ ys, by rw [List.append_assoc], hv, Els_append l b rest ys hr k⟩
theorem Els_single {F : Nat → Prop} {w : World} {v : Js.V} {si sn : Value} (h : RdV F w v si sn) : Els F w [v] (vcs v si sn) := by
  simp only [Els]
  exact ⟨si, sn, [], by simp, h, rfl⟩
theorem Els_take {F : Nat → Prop} {w : World} : ∀ (l : List Js.V) (xs : List Value) (i : Nat), Els F w l xs → Els F w (l.take i) (xs.take (i * 8)) ∧ Els F w (l.drop i) (xs.drop (i * 8))
  | l, xs, 0, h => by simp [Els]; exact h
  | [], xs, i + 1, h => by
    simp only [Els] at h
    subst h
    simp [Els]
  | v :: l, xs, i + 1, h => by
    simp only [Els] at h
    obtain ⟨si, sn, rest, rfl, hv, hr⟩ := h
    have ih := Els_take l rest i hr
    have hl : (vcs v si sn).length = 8 := rfl
    rw [List.take_succ_cons, List.drop_succ_cons, show (i + 1) * 8 = (vcs v si sn).length + i * 8 by rw [hl]; omega, List.take_length_add_append, List.drop_length_add_append]
    refine ⟨?_, ih.2⟩
    simp only [Els]
    exact ⟨si, sn, _, rfl, hv, ih.1⟩

/-- Through what turns the reader alone. -/
theorem VI.gb {wb W W' : World} {r bx b3 base : Nat} {kind : Int} {items : List Js.V} {names : List Js.Bs} {si sn : Value} {xs : List Value} (h : VI wb r bx b3 base kind items names W si sn xs) (hg : W.grownBy W' (some r)) (hr : r < base) (h1 : bx ≠ r) (h2 : b3 ≠ r) :
    VI wb r bx b3 base kind items names W' si sn xs := by
  obtain ⟨a, b, c, d, e, f⟩ := h
  refine ⟨gb_trans a hg, gb_blk hg b (by simpa using h1), gb_blk hg c (by simpa using h2), d.kept hg (.inr fun e' => ?_), e.kept hg (.inr fun e' => ?_), ?_⟩
  · have := (d.lt r e').1; omega
  · have := (e.lt r e').1; omega
  · exact Els.move (fun _ hk _ => hk) hg.size (fun k hk hl => hg.block k hl (by have := hk.1; simp; omega)) items xs f

/-- Read whole, where it stands. -/
theorem VI.rdv {wb W : World} {r bx b3 base : Nat} {kind : Int} {items : List Js.V} {names : List Js.Bs} {si sn : Value} {xs : List Value} (h : VI wb r bx b3 base kind items names W si sn xs) (lo : Nat) (hlo : lo ≤ base) :
    RdV (fun k => lo ≤ k) W ⟨kind, false, Js.Nm.zero, [], items, names⟩ si sn := by
  obtain ⟨a, b, c, d, e, f⟩ := h
  rw [RdV_eq]
  refine ⟨?_, ?_⟩
  · rcases d.2 with ⟨rfl, h0⟩ | ⟨g, cap, cur, rfl, hbg, hg, hnc, hcm, hcs, htk⟩
    · have : items = [] := List.length_eq_zero_iff.1 h0
      subst this
      exact SlI.nil _ _
    · refine ⟨some ⟨g, 0, none⟩, cap, rfl, hnc, hcm, .inr ⟨g, 0, xs, rfl, blk_lt' hg, by omega, ?_, ?_⟩⟩
      · intro j u hj
        rw [Nat.zero_add, blk_c hg, ← Array.getElem?_toList]
        rw [← htk, List.getElem?_take] at hj
        split at hj
        · exact hj
        · cases hj
      · exact Els.move (fun k hk _ => by have := hk.1; show lo ≤ k; omega) (Nat.le_refl _) (fun _ _ _ => rfl) _ _ f
  · rcases e.2 with ⟨rfl, h0⟩ | ⟨g, cap, cur, rfl, hbg, hg, hnc, hcm, hcs, htk⟩
    · have : names = [] := List.length_eq_zero_iff.1 h0
      subst this
      exact SlN.nil _ _
    · refine ⟨some ⟨g, 0, none⟩, cap, rfl, hnc, hcm, .inr ⟨g, 0, rfl, blk_lt' hg, by omega, ?_⟩⟩
      intro j u hj
      rw [Nat.zero_add, blk_c hg, ← Array.getElem?_toList]
      rw [← htk, List.getElem?_take] at hj
      split at hj
      · exact hj
      · cases hj

/-- Two rows of other types are other blocks. -/
theorem own_ne {w : World} {base : Nat} {a b : Value} {n m : Nat} {xs ys : List Value} (h : w.ownsRow base 29 8 a n xs) (k : w.ownsRow base 9 1 b m ys) (g : Nat) (ha : a.ownBlock = some g) : b.ownBlock ≠ some g := by
  intro hb
  rcases h.2 with ⟨rfl, _⟩ | ⟨g1, c1, cur1, rfl, _, hg1, _⟩
  · cases ha
  · rcases k.2 with ⟨rfl, _⟩ | ⟨g2, c2, cur2, rfl, _, hg2, _⟩
    · cases hb
    · simp only [Value.ownBlock, Option.some.injEq] at ha hb
      subst ha hb
      rw [hg1] at hg2
      simp at hg2

/-- An item more: an append has laid a new slice (w3), its last element and the variable's header have been stored (W'). -/
theorem VI.push {wb wr w2 w3 W' : World} {r bx b3 base : Nat} {kind : Int} {items : List Js.V} {si : Value} {xs zs : List Value} {v : Js.V} {vi vn : Value} {lo g cap : Nat}
    (h : VI wb r bx b3 base kind items [] wr si (.slice none 0 0) xs) (hbase : base ≤ wr.heap.size) (hlo : wr.heap.size ≤ lo) (hr : r < base) (hbx : bx < base) (hb3 : b3 < base) (h1 : bx ≠ r) (h2 : b3 ≠ r) (h12 : bx ≠ b3) (hwb : wb.heap.size ≤ b3) (hwbb : wb.heap.size ≤ base)
    (g2 : wr.grownBy w2 (some r)) (hv : RdV (fun k => lo ≤ k) w2 v vi vn)
    (hown : w3.ownsRow base 29 8 (.slice (some ⟨g, 0, none⟩) (items.length + 1) cap) (items.length + 1) (xs ++ zs)) (g3 : w2.grownBy w3 si.ownBlock) (hat : si.ownBlock = some g ∨ w2.heap.size ≤ g) (hzs : zs.length = 8)
    (hrow : ∀ cur, w3.heap[g]? = some (.cells cur 29 (0, 0)) → items.length * 8 + 8 ≤ cur.size → W'.heap[g]? = some (.cells (cur.toList.take (items.length * 8) ++ vcs v vi vn ++ cur.toList.drop (items.length * 8 + 8)).toArray 29 (0, 0)))
    (hvar : W'.heap[b3]? = some (.cells #[.int .i64 kind, .bool false, .bool false, .string ⟨#[]⟩, .int .i64 0, .string ⟨#[]⟩, .slice (some ⟨g, 0, none⟩) (items.length + 1) cap, .slice none 0 0] 29 (0, 0)))
    (hkeep : ∀ k, k ≠ g → k ≠ b3 → W'.heap[k]? = w3.heap[k]?) (hos : W'.os = w3.os) (htp : W'.tape = w3.tape) (hou : W'.output = w3.output) (hsz : w3.heap.size ≤ W'.heap.size) :
    VI wb r bx b3 base kind (items ++ [v]) [] W' (.slice (some ⟨g, 0, none⟩) (items.length + 1) cap) (.slice none 0 0) (xs ++ vcs v vi vn) := by
  obtain ⟨a, b, c, d, e, f⟩ := h
  have hxl := Els_len _ _ f
  have hgb : base ≤ g := (hown.lt g rfl).1
  have hbl := blk_lt' b
  have hcl := blk_lt' c
  have own_r : si.ownBlock ≠ some r := fun h => by have := (d.lt r h).1; omega
  have own_x : si.ownBlock ≠ some bx := fun h => by have := (d.lt bx h).1; omega
  have own_3 : si.ownBlock ≠ some b3 := fun h => by have := (d.lt b3 h).1; omega
  -- a block of wr's that is none of the rows stands in W' as it stood
  have keep : ∀ k, k < wr.heap.size → k ≠ r → si.ownBlock ≠ some k → k ≠ b3 → k ≠ g → W'.heap[k]? = wr.heap[k]? := by
    intro k hk hkr hks hk3 hkg
    rw [hkeep k hkg hk3, g3.block k (Nat.lt_of_lt_of_le hk g2.size) (fun h => hks h.symm), g2.block k hk (by simpa using hkr)]
  have hgw : g < wr.heap.size → si.ownBlock = some g := fun hlt => by
    rcases hat with h | h
    · exact h
    · have := g2.size; omega
  refine ⟨?_, ?_, hvar, ?_, ⟨by simp [strs], .inl ⟨rfl, rfl⟩⟩, ?_⟩
  · refine ⟨hos.trans (g3.os.trans (g2.os.trans a.os)), htp.trans (g3.tape.trans (g2.tape.trans a.tape)), hou.trans (g3.output.trans (g2.output.trans a.output)), Nat.le_trans a.size (Nat.le_trans g2.size (Nat.le_trans g3.size hsz)), fun i hi hne => ?_⟩
    have hir : i ≠ r := fun e => hne (by rw [e])
    rw [keep i (Nat.lt_of_lt_of_le hi a.size) hir (fun h => by have := (d.lt i h).1; omega) (by omega) (by omega)]
    exact a.block i hi hne
  · exact (keep bx hbl h1 own_x h12 (by omega)).trans b
  · rcases hown.2 with ⟨h, _⟩ | ⟨g', cap', cur, he, hbg, hg, hnc, hcm, hcs, htk⟩
    · cases h
    · cases he
      have hrow' := hrow cur hg (by rw [hcs]; omega)
      have hvl : (vcs v vi vn).length = 8 := rfl
      refine ⟨?_, .inr ⟨g, cap, _, by rw [List.length_append]; rfl, hgb, hrow', by rw [List.length_append]; exact hnc, hcm, ?_, ?_⟩⟩
      · simp only [List.length_append, List.length_cons, List.length_nil, hvl]; omega
      · simp only [List.size_toArray, List.length_append, List.length_take, List.length_drop, Array.length_toList, hvl]; omega
      · rw [List.toList_toArray]
        have hx : cur.toList.take (items.length * 8) = xs := by
          have := congrArg (List.take (items.length * 8)) htk
          rw [List.take_take, List.take_left' (by omega)] at this
          rw [← this]
          congr 1
          omega
        rw [hx]
        exact List.take_left' (by simp only [List.length_append, List.length_cons, List.length_nil, hvl]; omega)
  · refine Els_append items [v] xs _ ?_ (Els_single ?_)
    · refine Els.move (F := Fr base si (.slice none 0 0)) ?_ (Nat.le_trans g2.size (Nat.le_trans g3.size hsz)) ?_ items xs f
      · rintro k ⟨k1, k2, _⟩ hk
        refine ⟨k1, fun h => ?_, by simp [Value.ownBlock]⟩
        simp only [Value.ownBlock, Option.some.injEq] at h
        subst h
        exact k2 (hgw hk)
      · rintro k ⟨k1, k2, _⟩ hk
        refine keep k hk (by omega) k2 (by omega) (fun h => ?_)
        subst h
        exact k2 (hgw hk)
    · refine RdV.move (F := fun k => lo ≤ k) ?_ (Nat.le_trans g3.size hsz) ?_ v vi vn hv
      · intro k hk hk2
        refine ⟨by omega, fun h => ?_, by simp [Value.ownBlock]⟩
        simp only [Value.ownBlock, Option.some.injEq] at h
        subst h
        rcases hat with h | h
        · have := (d.lt g h).2; omega
        · omega
      · intro k hk hk2
        have hks : si.ownBlock ≠ some k := fun h => by have := (d.lt k h).2; omega
        rw [hkeep k ?_ (by omega), g3.block k hk2 (fun h => hks h.symm)]
        intro h
        subst h
        rcases hat with h | h
        · exact hks h
        · omega
end Go.Proofs.YtocjlbpehfpdoaaGreatDoor

set_option linter.unusedVariables false
set_option linter.unusedSimpArgs false
namespace Go.Proofs.YtocjlbpehfpdoaaGreatDoor
open Go.RowKit

def Z8 : List Value := [.int .i64 0, .bool false, .bool false, .string ⟨#[]⟩, .int .i64 0, .string ⟨#[]⟩, .slice none 0 0, .slice none 0 0]
theorem Z8_one : ∀ u ∈ Z8, u.oneCell' = true := by
  intro u hu
  simp only [Z8, List.mem_cons, List.not_mem_nil, or_false] at hu
  rcases hu with rfl | rfl | rfl | rfl | rfl | rfl | rfl | rfl <;> rfl
/-- Behind an append of a zero value: its eight cells. -/
theorem app_facts {w3 : World} {base g cap n : Nat} {xs : List Value} (hown : w3.ownsRow base 29 8 (.slice (some ⟨g, 0, none⟩) (n + 1) cap) (n + 1) (xs ++ Z8)) (hx : xs.length = n * 8) :
    (w3.cell? ⟨g, n * 8, none⟩ = some (.int .i64 0) ∧ w3.cell? ⟨g, n * 8 + 1, none⟩ = some (.bool false) ∧ w3.cell? ⟨g, n * 8 + 2, none⟩ = some (.bool false) ∧ w3.cell? ⟨g, n * 8 + 3, none⟩ = some (.string ⟨#[]⟩) ∧
      w3.cell? ⟨g, n * 8 + 4, none⟩ = some (.int .i64 0) ∧ w3.cell? ⟨g, n * 8 + 5, none⟩ = some (.string ⟨#[]⟩) ∧ w3.cell? ⟨g, n * 8 + 6, none⟩ = some (.slice none 0 0) ∧ w3.cell? ⟨g, n * 8 + 7, none⟩ = some (.slice none 0 0)) ∧
    (w3.frozen? ⟨g, n * 8, none⟩ = false ∧ w3.frozen? ⟨g, n * 8 + 1, none⟩ = false ∧ w3.frozen? ⟨g, n * 8 + 2, none⟩ = false ∧ w3.frozen? ⟨g, n * 8 + 3, none⟩ = false ∧ w3.frozen? ⟨g, n * 8 + 4, none⟩ = false ∧ w3.frozen? ⟨g, n * 8 + 5, none⟩ = false ∧ w3.frozen? ⟨g, n * 8 + 6, none⟩ = false ∧ w3.frozen? ⟨g, n * 8 + 7, none⟩ = false) := by
  have hc : ∀ j, j < 8 → w3.cell? ⟨g, n * 8 + j, none⟩ = Z8[j]? := by
    intro j hj
    rw [hown.cellAt (n * 8 + j) (by omega), List.getElem?_append_right (by omega), hx]
    congr 1
    omega
  exact ⟨⟨hc 0 (by omega), hc 1 (by omega), hc 2 (by omega), hc 3 (by omega), hc 4 (by omega), hc 5 (by omega), hc 6 (by omega), hc 7 (by omega)⟩,
    hown.frozenAt _, hown.frozenAt _, hown.frozenAt _, hown.frozenAt _, hown.frozenAt _, hown.frozenAt _, hown.frozenAt _, hown.frozenAt _⟩

theorem setCells_other (b k : Nat) (hk : k ≠ b) : ∀ (vs : List Value) (o : Nat) (w : World), (w.setCells b o vs).heap[k]? = w.heap[k]?
  | [], _, _ => rfl
  | v :: r, o, w => (setCells_other b k hk r (o + 1) _).trans (Below.heap_setCell _ _ _ _ hk)

theorem setCell_os (w : World) (p : Addr) (v : Value) : (w.setCell p v).os = w.os := rfl
theorem setCell_tape (w : World) (p : Addr) (v : Value) : (w.setCell p v).tape = w.tape := rfl
theorem setCell_output (w : World) (p : Addr) (v : Value) : (w.setCell p v).output = w.output := rfl
theorem setCell_size (w : World) (p : Addr) (v : Value) : (w.setCell p v).heap.size = w.heap.size := by simp [World.setCell]

section
variable {wb w w2 w3 : World} {r bx b3 base n c : Nat} {sA : Option Addr} {items : List Js.V} {xs : List Value} {v : Js.V} {st' : Js.St} {vi vn : Value} {g cap : Nat}
theorem array_end (hI : VI wb r bx b3 base 4 items [] w (.slice sA n c) (.slice none 0 0) xs) (hn : items.length = n) (hbase : base ≤ w.heap.size) (hr : r < base) (hbx : bx < base) (hb3 : b3 < base) (h1 : bx ≠ r) (h2 : b3 ≠ r) (h12 : bx ≠ b3) (hwb : wb.heap.size ≤ b3) (hwbb : wb.heap.size ≤ base)
    (g2 : w.grownBy w2 (some r)) (hv : RdV (fun k => w.heap.size ≤ k) w2 v vi vn) (hk : RSt w2 r st')
    (hown : w3.ownsRow base 29 8 (.slice (some ⟨g, 0, none⟩) (n + 1) cap) (n + 1) (xs ++ Z8)) (g3 : w2.grownBy w3 (Value.slice sA n c).ownBlock) (hat : (Value.slice sA n c).ownBlock = some g ∨ w2.heap.size ≤ g)
    (W' : World) (hrow : ∀ cur, w3.heap[g]? = some (.cells cur 29 (0, 0)) → n * 8 + 8 ≤ cur.size → W'.heap[g]? = some (.cells (cur.toList.take (n * 8) ++ vcs v vi vn ++ cur.toList.drop (n * 8 + 8)).toArray 29 (0, 0)))
    (hvar : ∀ cs, w3.heap[b3]? = some (.cells cs 29 (0, 0)) → W'.heap[b3]? = some (.cells (cs.setIfInBounds 6 (.slice (some ⟨g, 0, none⟩) (n + 1) cap)) 29 (0, 0)))
    (hkeep : ∀ k, k ≠ g → k ≠ b3 → W'.heap[k]? = w3.heap[k]?) (hos : W'.os = w3.os) (htp : W'.tape = w3.tape) (hou : W'.output = w3.output) (hsz : w3.heap.size ≤ W'.heap.size) :
    (∃ si' xs', VI wb r bx b3 base 4 (items ++ [v]) [] W' si' (.slice none 0 0) xs') ∧ RSt W' r st' := by
  subst hn
  have own_r : (Value.slice sA items.length c).ownBlock ≠ some r := fun h => by have := (hI.2.2.2.1.lt r h).1; omega
  have own_3 : (Value.slice sA items.length c).ownBlock ≠ some b3 := fun h => by have := (hI.2.2.2.1.lt b3 h).1; omega
  have hgb : base ≤ g := (hown.lt g rfl).1
  have hb32 := gb_blk g2 hI.2.2.1 (by simpa using h2)
  have hb33 := gb_blk g3 hb32 (fun h => own_3 h.symm)
  refine ⟨⟨_, _, VI.push hI hbase (Nat.le_refl _) hr hbx hb3 h1 h2 h12 hwb hwbb g2 hv hown g3 hat rfl hrow (hvar _ hb33) hkeep hos htp hou hsz⟩, ?_⟩
  obtain ⟨⟨s, hs, hb⟩, hl⟩ := hk
  exact ⟨⟨s, hs, (hkeep r (by omega) (fun h => h2 h.symm)).trans (gb_blk g3 hb (fun h => own_r h.symm))⟩, hl⟩
theorem array_endA (hI : VI wb r bx b3 base 4 items [] w (.slice sA n c) (.slice none 0 0) xs) (hn : items.length = n) (hbase : base ≤ w.heap.size) (hr : r < base) (hbx : bx < base) (hb3 : b3 < base) (h1 : bx ≠ r) (h2 : b3 ≠ r) (h12 : bx ≠ b3) (hwb : wb.heap.size ≤ b3) (hwbb : wb.heap.size ≤ base)
    (g2 : w.grownBy w2 (some r)) (hv : RdV (fun k => w.heap.size ≤ k) w2 v vi vn) (hk : RSt w2 r st')
    (hown : w3.ownsRow base 29 8 (.slice (some ⟨g, 0, none⟩) (n + 1) cap) (n + 1) (xs ++ Z8)) (g3 : w2.grownBy w3 (Value.slice sA n c).ownBlock) (hat : (Value.slice sA n c).ownBlock = some g ∨ w2.heap.size ≤ g) :
    (∃ si' xs', VI wb r bx b3 base 4 (items ++ [v]) [] ((w3.setCells g (n * 8) (vcs v vi vn)).setCell ⟨b3, 6, none⟩ (.slice (some ⟨g, 0, none⟩) (n + 1) cap)) si' (.slice none 0 0) xs') ∧ RSt ((w3.setCells g (n * 8) (vcs v vi vn)).setCell ⟨b3, 6, none⟩ (.slice (some ⟨g, 0, none⟩) (n + 1) cap)) r st' := by
  have hgb : base ≤ g := (hown.lt g rfl).1
  have hgn : g ≠ b3 := by omega
  have G := setCells_gb g (vcs v vi vn) (n * 8) w3 w3 (some g) (gb_refl _ _) (.inr rfl)
  refine array_end hI hn hbase hr hbx hb3 h1 h2 h12 hwb hwbb g2 hv hk hown g3 hat ((w3.setCells g (n * 8) (vcs v vi vn)).setCell ⟨b3, 6, none⟩ (.slice (some ⟨g, 0, none⟩) (n + 1) cap)) ?_ ?_ ?_ ((setCell_os _ _ _).trans G.os) ((setCell_tape _ _ _).trans G.tape) ((setCell_output _ _ _).trans G.output) (by rw [setCell_size]; exact G.size)
  · intro cur hc hl
    exact blk_far' (setCells_row g 29 (vcs v vi vn) (n * 8) cur w3 hc hl) hgn _
  · intro cs hc
    exact blk_set' ((setCells_other g b3 (fun h => hgn h.symm) _ _ _).trans hc) 6 _
  · intro k hk hk3
    exact (Below.heap_setCell _ _ _ _ hk3).trans (setCells_other g k hk _ _ _)
theorem array_endB (hI : VI wb r bx b3 base 4 items [] w (.slice sA n c) (.slice none 0 0) xs) (hn : items.length = n) (hbase : base ≤ w.heap.size) (hr : r < base) (hbx : bx < base) (hb3 : b3 < base) (h1 : bx ≠ r) (h2 : b3 ≠ r) (h12 : bx ≠ b3) (hwb : wb.heap.size ≤ b3) (hwbb : wb.heap.size ≤ base)
    (g2 : w.grownBy w2 (some r)) (hv : RdV (fun k => w.heap.size ≤ k) w2 v vi vn) (hk : RSt w2 r st')
    (hown : w3.ownsRow base 29 8 (.slice (some ⟨g, 0, none⟩) (n + 1) cap) (n + 1) (xs ++ Z8)) (g3 : w2.grownBy w3 (Value.slice sA n c).ownBlock) (hat : (Value.slice sA n c).ownBlock = some g ∨ w2.heap.size ≤ g) :
    (∃ si' xs', VI wb r bx b3 base 4 (items ++ [v]) [] ((w3.setCell ⟨b3, 6, none⟩ (.slice (some ⟨g, 0, none⟩) (n + 1) cap)).setCells g (n * 8) (vcs v vi vn)) si' (.slice none 0 0) xs') ∧ RSt ((w3.setCell ⟨b3, 6, none⟩ (.slice (some ⟨g, 0, none⟩) (n + 1) cap)).setCells g (n * 8) (vcs v vi vn)) r st' := by
  have hgb : base ≤ g := (hown.lt g rfl).1
  have hgn : g ≠ b3 := by omega
  have G := setCells_gb g (vcs v vi vn) (n * 8) (w3.setCell ⟨b3, 6, none⟩ (.slice (some ⟨g, 0, none⟩) (n + 1) cap)) (w3.setCell ⟨b3, 6, none⟩ (.slice (some ⟨g, 0, none⟩) (n + 1) cap)) (some g) (gb_refl _ _) (.inr rfl)
  refine array_end hI hn hbase hr hbx hb3 h1 h2 h12 hwb hwbb g2 hv hk hown g3 hat ((w3.setCell ⟨b3, 6, none⟩ (.slice (some ⟨g, 0, none⟩) (n + 1) cap)).setCells g (n * 8) (vcs v vi vn)) ?_ ?_ ?_ (G.os.trans (setCell_os _ _ _)) (G.tape.trans (setCell_tape _ _ _)) (G.output.trans (setCell_output _ _ _)) (by have := G.size; rwa [setCell_size] at this)
  · intro cur hc hl
    exact setCells_row g 29 (vcs v vi vn) (n * 8) cur _ (blk_far' hc hgn _) hl
  · intro cs hc
    exact (setCells_other g b3 (fun h => hgn h.symm) _ _ _).trans (blk_set' hc 6 _)
  · intro k hk hk3
    exact (setCells_other g k hk _ _ _).trans (Below.heap_setCell _ _ _ _ hk3)

theorem array_endA' (hI : VI wb r bx b3 base 4 items [] w (.slice sA n c) (.slice none 0 0) xs) (hn : items.length = n) (hbase : base ≤ w.heap.size) (hr : r < base) (hbx : bx < base) (hb3 : b3 < base) (h1 : bx ≠ r) (h2 : b3 ≠ r) (h12 : bx ≠ b3) (hwb : wb.heap.size ≤ b3) (hwbb : wb.heap.size ≤ base)
    (g2 : w.grownBy w2 (some r)) (hv : RdV (fun k => w.heap.size ≤ k) w2 v vi vn) (hk : RSt w2 r st')
    (hown : w3.ownsRow base 29 8 (.slice (some ⟨g, 0, none⟩) (n + 1) cap) (n + 1) (xs ++ Z8)) (g3 : w2.grownBy w3 (Value.slice sA n c).ownBlock) (hat : (Value.slice sA n c).ownBlock = some g ∨ w2.heap.size ≤ g) :
    (∃ si' xs', VI wb r bx b3 base 4 (items ++ [v]) [] (((((((((w3.setCell ⟨g, n * 8, none⟩ (.int .i64 v.kind)).setCell ⟨g, n * 8 + 1, none⟩ (.bool v.is)).setCell ⟨g, n * 8 + 2, none⟩ (.bool v.num.down)).setCell ⟨g, n * 8 + 3, none⟩ (.string (ba v.num.dig))).setCell ⟨g, n * 8 + 4, none⟩ (.int .i64 v.num.exp)).setCell ⟨g, n * 8 + 5, none⟩ (.string (ba v.text))).setCell ⟨g, n * 8 + 6, none⟩ vi).setCell ⟨g, n * 8 + 7, none⟩ vn).setCell ⟨b3, 6, none⟩ (.slice (some ⟨g, 0, none⟩) (n + 1) cap)) si' (.slice none 0 0) xs') ∧ RSt (((((((((w3.setCell ⟨g, n * 8, none⟩ (.int .i64 v.kind)).setCell ⟨g, n * 8 + 1, none⟩ (.bool v.is)).setCell ⟨g, n * 8 + 2, none⟩ (.bool v.num.down)).setCell ⟨g, n * 8 + 3, none⟩ (.string (ba v.num.dig))).setCell ⟨g, n * 8 + 4, none⟩ (.int .i64 v.num.exp)).setCell ⟨g, n * 8 + 5, none⟩ (.string (ba v.text))).setCell ⟨g, n * 8 + 6, none⟩ vi).setCell ⟨g, n * 8 + 7, none⟩ vn).setCell ⟨b3, 6, none⟩ (.slice (some ⟨g, 0, none⟩) (n + 1) cap)) r st' := by
  have e : (((((((((w3.setCell ⟨g, n * 8, none⟩ (.int .i64 v.kind)).setCell ⟨g, n * 8 + 1, none⟩ (.bool v.is)).setCell ⟨g, n * 8 + 2, none⟩ (.bool v.num.down)).setCell ⟨g, n * 8 + 3, none⟩ (.string (ba v.num.dig))).setCell ⟨g, n * 8 + 4, none⟩ (.int .i64 v.num.exp)).setCell ⟨g, n * 8 + 5, none⟩ (.string (ba v.text))).setCell ⟨g, n * 8 + 6, none⟩ vi).setCell ⟨g, n * 8 + 7, none⟩ vn).setCell ⟨b3, 6, none⟩ (.slice (some ⟨g, 0, none⟩) (n + 1) cap)) = (w3.setCells g (n * 8) (vcs v vi vn)).setCell ⟨b3, 6, none⟩ (.slice (some ⟨g, 0, none⟩) (n + 1) cap) := by
    simp only [vcs, World.setCells, Nat.add_assoc]
  rw [e]
  exact array_endA hI hn hbase hr hbx hb3 h1 h2 h12 hwb hwbb g2 hv hk hown g3 hat
theorem array_endB' (hI : VI wb r bx b3 base 4 items [] w (.slice sA n c) (.slice none 0 0) xs) (hn : items.length = n) (hbase : base ≤ w.heap.size) (hr : r < base) (hbx : bx < base) (hb3 : b3 < base) (h1 : bx ≠ r) (h2 : b3 ≠ r) (h12 : bx ≠ b3) (hwb : wb.heap.size ≤ b3) (hwbb : wb.heap.size ≤ base)
    (g2 : w.grownBy w2 (some r)) (hv : RdV (fun k => w.heap.size ≤ k) w2 v vi vn) (hk : RSt w2 r st')
    (hown : w3.ownsRow base 29 8 (.slice (some ⟨g, 0, none⟩) (n + 1) cap) (n + 1) (xs ++ Z8)) (g3 : w2.grownBy w3 (Value.slice sA n c).ownBlock) (hat : (Value.slice sA n c).ownBlock = some g ∨ w2.heap.size ≤ g) :
    (∃ si' xs', VI wb r bx b3 base 4 (items ++ [v]) [] (((((((((w3.setCell ⟨b3, 6, none⟩ (.slice (some ⟨g, 0, none⟩) (n + 1) cap)).setCell ⟨g, n * 8, none⟩ (.int .i64 v.kind)).setCell ⟨g, n * 8 + 1, none⟩ (.bool v.is)).setCell ⟨g, n * 8 + 2, none⟩ (.bool v.num.down)).setCell ⟨g, n * 8 + 3, none⟩ (.string (ba v.num.dig))).setCell ⟨g, n * 8 + 4, none⟩ (.int .i64 v.num.exp)).setCell ⟨g, n * 8 + 5, none⟩ (.string (ba v.text))).setCell ⟨g, n * 8 + 6, none⟩ vi).setCell ⟨g, n * 8 + 7, none⟩ vn) si' (.slice none 0 0) xs') ∧ RSt (((((((((w3.setCell ⟨b3, 6, none⟩ (.slice (some ⟨g, 0, none⟩) (n + 1) cap)).setCell ⟨g, n * 8, none⟩ (.int .i64 v.kind)).setCell ⟨g, n * 8 + 1, none⟩ (.bool v.is)).setCell ⟨g, n * 8 + 2, none⟩ (.bool v.num.down)).setCell ⟨g, n * 8 + 3, none⟩ (.string (ba v.num.dig))).setCell ⟨g, n * 8 + 4, none⟩ (.int .i64 v.num.exp)).setCell ⟨g, n * 8 + 5, none⟩ (.string (ba v.text))).setCell ⟨g, n * 8 + 6, none⟩ vi).setCell ⟨g, n * 8 + 7, none⟩ vn) r st' := by
  have e : (((((((((w3.setCell ⟨b3, 6, none⟩ (.slice (some ⟨g, 0, none⟩) (n + 1) cap)).setCell ⟨g, n * 8, none⟩ (.int .i64 v.kind)).setCell ⟨g, n * 8 + 1, none⟩ (.bool v.is)).setCell ⟨g, n * 8 + 2, none⟩ (.bool v.num.down)).setCell ⟨g, n * 8 + 3, none⟩ (.string (ba v.num.dig))).setCell ⟨g, n * 8 + 4, none⟩ (.int .i64 v.num.exp)).setCell ⟨g, n * 8 + 5, none⟩ (.string (ba v.text))).setCell ⟨g, n * 8 + 6, none⟩ vi).setCell ⟨g, n * 8 + 7, none⟩ vn) = (w3.setCell ⟨b3, 6, none⟩ (.slice (some ⟨g, 0, none⟩) (n + 1) cap)).setCells g (n * 8) (vcs v vi vn) := by
    simp only [vcs, World.setCells, Nat.add_assoc]
  rw [e]
  exact array_endB hI hn hbase hr hbx hb3 h1 h2 h12 hwb hwbb g2 hv hk hown g3 hat
end

set_option maxRecDepth 100000 in
set_option maxHeartbeats 16000000 in
theorem array_thing (r bx b3 base : Nat) (wb w : World) (items : List Js.V) (si : Value) (xs : List Value) (st st' : Js.St) (v : Js.V)
    (hI : VI wb r bx b3 base 4 items [] w si (.slice none 0 0) xs) (h : RSt w r st) (hbase : base ≤ w.heap.size) (hr : r < base) (hbx : bx < base) (hb3 : b3 < base) (h1 : bx ≠ r) (h2 : b3 ≠ r) (h12 : bx ≠ b3) (hwb : wb.heap.size ≤ b3) (hwbb : wb.heap.size ≤ base)
    (hlen : items.length ≤ 5000)
    (hcall : ∀ W, w.grownBy W none → RSt W r st → Calls Tryz.prog 43 #[.pointer (some ⟨r, 0, none⟩)] W (VDid W r v st')) :
    Calls Tryz.prog 174 #[.pointer (some ⟨b3, 0, none⟩), .pointer (some ⟨bx, 0, none⟩)] w (fun e w' => e = .returned (.tuple #[]) ∧ (∃ si' xs', VI wb r bx b3 base 4 (items ++ [v]) [] w' si' (.slice none 0 0) xs') ∧ RSt w' r st') := by
  have HN0 := Lib.hid hI
  have hp1 := hI.2.1
  have hp2 := hI.2.2.1
  have hown := hI.2.2.2.1
  obtain ⟨i0, hi0, hz0, hzs, hzb⟩ := info_parts info29
  have HI := Lib.hid hI
  have HR := Lib.hid h
  have HC : Hid (∀ W, w.grownBy W none → RSt W r st → Calls Tryz.prog 43 #[.pointer (some ⟨r, 0, none⟩)] W (fun e w2 => ∃ A n c A' n' c', e = .returned (.agg #[.int .i64 v.kind, .bool v.is, .bool v.num.down, .string (ba v.num.dig), .int .i64 v.num.exp, .string (ba v.text), .slice A n c, .slice A' n' c']) ∧
      RdV (fun k => w.heap.size ≤ k) w2 v (.slice A n c) (.slice A' n' c') ∧ RSt w2 r st' ∧ W.grownBy w2 (some r))) := Lib.hid (by
    intro W hW hk
    refine (hcall W hW hk).mono ?_
    rintro e w2 ⟨vi, vn, rfl, hv, hk, hg⟩
    obtain ⟨A, n, c, A', n', c', rfl, rfl⟩ := RdV.two hv
    exact ⟨A, n, c, A', n', c', rfl, hv.mono (fun k hk _ => Nat.le_trans hW.size hk), hk, hg⟩)
  have HX := Lib.hid hp1
  have H3 := Lib.hid hp2
  have HOWN := Lib.hid hown
  have x0 : w.cell? ⟨bx, 0, none⟩ = some (.pointer (some ⟨r, 0, none⟩)) := blk_c hp1 0
  have v6 : w.cell? ⟨b3, 6, none⟩ = some si := blk_c hp2 6
  have hbxl : bx < w.heap.size := blk_lt' hp1
  have hb3l : b3 < w.heap.size := blk_lt' hp2
  have hbxn : bx ≠ w.heap.size := by omega
  have hb3n : b3 ≠ w.heap.size := by omega
  have hxl := Els_len _ _ hI.2.2.2.2.2
  obtain ⟨sA, c, hsl⟩ : ∃ A c, si = .slice A items.length c := by
    rcases hown.2 with ⟨h, h0⟩ | ⟨g, cap, cur, h, _⟩
    · exact ⟨none, 0, by rw [h, h0]⟩
    · exact ⟨_, _, h⟩
  subst hsl
  obtain ⟨n, hn⟩ : ∃ n, items.length = n := ⟨_, rfl⟩
  rw [hn] at v6 HOWN hxl hlen H3 HI
  have HN := Lib.hid hn
  clear hn
  clear hp1 hp2 hown
  clear h hcall hI
  have hone := Z8_one
  have hnn : (n : Int) < (n : Int) + 1 := by omega
  go_enter Tryz.func174, Tryz.ntmps174
  go_wp2_with fail
  go_region_law (first
    | (refine step_append_lies w2 rfl (.tmp 3) (.tmp 7) 26 rfl base 29 i0 _ 8 112 Tryz.underlying26 hi0 hz0 hzs hzb rfl (by omega) (.slice sA n c) n xs (by simp [Act.eval, Act.put]) HO2.out ⟨w.heap.size, 0, none⟩ 1 1 Z8 (by simp [Act.eval, Act.put]) rfl (World.news_of_block HZ.out) hone (by omega) (by unfold maxLen; omega) (by omega) hb2 w2.heap.size rfl ?_
       intro g cap w3 hown3 hgrow3 hat3 hlt3
       have HG3 := Lib.hid hgrow3
       have HAT := Lib.hid (show (Value.slice sA n c).ownBlock = some g ∨ w2.heap.size ≤ g from hat3.imp id (fun h => by omega))
       have hb33 := gb_blk hgrow3 HB2.out (fun h => by have := (HO2.out.lt b3 h.symm).1; omega)
       have HB33 := Lib.hid hb33
       have t6 : w3.cell? ⟨b3, 6, none⟩ = some (.slice sA n c) := blk_c hb33 6
       have u6 := blk_f hb33 6
       have HOWN3 := Lib.hid hown3
       have hgb := (hown3.lt g rfl).1
       have hgn : g ≠ b3 := by omega
       have hgn2 : b3 ≠ g := by omega
       obtain ⟨⟨k0, k1, k2, k3, k4, k5, k6, k7⟩, l0, l1, l2, l3, l4, l5, l6, l7⟩ := app_facts hown3 hxl
       clear hgrow3 hat3 hown3 hb33)
    | (refine step_append_lies (w2.alloc _) rfl (.tmp 3) (.tmp 7) 26 rfl base 29 i0 _ 8 112 Tryz.underlying26 hi0 hz0 hzs hzb rfl (by omega) (.slice sA n c) n xs (by simp [Act.eval, Act.put]) (HO2.out.alloc _) ⟨w2.heap.size, 0, none⟩ 1 1 Z8 (by simp [Act.eval, Act.put]) rfl (World.news_of_block (blk_new w2 _)) hone (by omega) (by unfold maxLen; omega) (by omega) (by simp; omega) (w2.heap.size + 1) (by simp) ?_
       intro g cap w3 hown3 hgrow3' hat3 hlt3
       have hgrow3 := gb_trans (World.grownBy_alloc w2 _ _) hgrow3'
       have HG3 := Lib.hid hgrow3
       have HAT := Lib.hid (show (Value.slice sA n c).ownBlock = some g ∨ w2.heap.size ≤ g from hat3.imp id (fun h => by omega))
       have hb33 := gb_blk hgrow3 HB2.out (fun h => by have := (HO2.out.lt b3 h.symm).1; omega)
       have HB33 := Lib.hid hb33
       have t6 : w3.cell? ⟨b3, 6, none⟩ = some (.slice sA n c) := blk_c hb33 6
       have u6 := blk_f hb33 6
       have HOWN3 := Lib.hid hown3
       have hgb := (hown3.lt g rfl).1
       have hgn : g ≠ b3 := by omega
       have hgn2 : b3 ≠ g := by omega
       obtain ⟨⟨k0, k1, k2, k3, k4, k5, k6, k7⟩, l0, l1, l2, l3, l4, l5, l6, l7⟩ := app_facts hown3 hxl
       clear hgrow3 hgrow3' hat3 hown3 hb33)
    | (go_simp
       go_at_call 43
       refine (HC.out _ ?_ ?_).mono ?_
       first | exact gb_drew (gb_refl _ _) | exact gb_drew (gb_alloc (gb_refl _ _) _) | exact gb_alloc (gb_drew (gb_refl _ _)) _
       first | exact HR.out.gb (gb_drew (gb_refl _ none)) (by simp) | exact HR.out.gb (gb_drew (gb_alloc (gb_refl _ none) _)) (by simp) | exact HR.out.gb (gb_alloc (gb_drew (gb_refl _ none)) _) (by simp)
       rintro e w2 ⟨vA, vl, vc, tA, tl, tc, rfl, hv, hk, g2⟩
       have hgg : w.grownBy w2 (some r) := gb_trans (by first | exact gb_drew (gb_refl _ _) | exact gb_drew (gb_alloc (gb_refl _ _) _) | exact gb_alloc (gb_drew (gb_refl _ _)) _) g2
       first
         | have HZ := Lib.hid (gb_blk g2 (g := w.heap.size) (o := .cells Z8.toArray 29 (0, 0)) (by first | exact blk_new w _ | exact blk_new w.drew _) (by simp; omega))
         | skip
       have HG2 := Lib.hid hgg
       have HV := Lib.hid hv
       have HK := Lib.hid hk
       have HO2 := Lib.hid (HOWN.out.kept hgg (.inr (fun h => by have := (HOWN.out.lt r h).1; omega)))
       have hbb := gb_blk hgg H3.out (by simpa using h2)
       have HB2 := Lib.hid hbb
       have v62 : w2.cell? ⟨b3, 6, none⟩ = some (.slice sA n c) := blk_c hbb 6
       have hsz2 := hgg.size
       have hb2 : base ≤ w2.heap.size := by omega
       have hb3w : b3 < w2.heap.size := by omega
       have hb3wn : b3 ≠ w2.heap.size := by omega
       clear hv hk g2 hgg hbb))
  all_goals
    go_end0
    refine ⟨rfl, ?_⟩
    first
      | with_reducible exact array_endA' HI.out HN.out hbase hr hbx hb3 h1 h2 h12 hwb hwbb HG2.out HV.out HK.out HOWN3.out HG3.out HAT.out
      | with_reducible exact array_endB' HI.out HN.out hbase hr hbx hb3 h1 h2 h12 hwb hwbb HG2.out HV.out HK.out HOWN3.out HG3.out HAT.out
end Go.Proofs.YtocjlbpehfpdoaaGreatDoor

set_option linter.unusedVariables false
set_option linter.unusedSimpArgs false
namespace Go.Proofs.YtocjlbpehfpdoaaGreatDoor
open Go.RowKit

theorem arr_steps {f : Js.St → Js.V × Js.St} (hf : ∀ st, Steps st (f st).2) (a : List Js.V) (st : Js.St) : Steps st (Js.arrThing f a st).2 := hf st
theorem RdV.kind {F : Nat → Prop} {w : World} {k k' : Int} {is is' : Bool} {n n' : Js.Nm} {t t' : Js.Bs} {items : List Js.V} {names : List Js.Bs} {si sn : Value} (h : RdV F w ⟨k, is, n, t, items, names⟩ si sn) : RdV F w ⟨k', is', n', t', items, names⟩ si sn :=
  (RdV_eq _ _ _ _ _).2 ((RdV_eq _ _ _ _ _).1 h)
theorem ne_tail {a b c : Nat} (h : a < b) (k : b ≤ c) : a ≠ c := by omega

set_option maxRecDepth 100000 in
set_option maxHeartbeats 8000000 in
theorem json_array (f : Js.St → Js.V × Js.St) (B r d : Nat) (st : Js.St) (w : World) (h : RSt w r st) (hT : Tb B w) (hB : B ≤ r) (hd : d ≤ 16) (ho : st.o = 16 - d) (hne : st.e = 0 → st.s ≠ [])
    (hf : ∀ st W, RSt W r st → Tb B W → st.o = 17 - d → (d = 0 → st.e ≠ 0) → Calls Tryz.prog 43 #[.pointer (some ⟨r, 0, none⟩)] W (VDid W r (f st).1 (f st).2)) (hfs : ∀ st, Steps st (f st).2) :
    Calls Tryz.prog 109 #[.pointer (some ⟨r, 0, none⟩)] w (VDid w r { Js.V.zero with kind := 4, items := (Js.listS (Js.arrThing f) [93] [] st).1 } (Js.listS (Js.arrThing f) [93] [] st).2) := by
  have hr := h.lt
  obtain ⟨obx, hobx⟩ : ∃ o, o = Obj.cells #[.pointer (some ⟨r, 0, none⟩)] 87 (0, 0) := ⟨_, rfl⟩
  obtain ⟨oz, hoz⟩ : ∃ o, o = Obj.cells #[.int .i64 0, .bool false, .bool false, .string ⟨#[]⟩, .int .i64 0, .string ⟨#[]⟩, .slice none 0 0, .slice none 0 0] 29 (0, 0) := ⟨_, rfl⟩
  obtain ⟨ov, hov⟩ : ∃ o, o = Obj.cells #[.int .i64 4, .bool false, .bool false, .string ⟨#[]⟩, .int .i64 0, .string ⟨#[]⟩, .slice none 0 0, .slice none 0 0] 29 (0, 0) := ⟨_, rfl⟩
  have a1 := allocs_at [obx, oz] w 0 _ rfl
  have a2 := allocs_at [obx, oz] w 1 _ rfl
  have asz := allocs_size [obx, oz] w
  have ag := allocs_gb [obx, oz] w
  obtain ⟨wb, hwb⟩ : ∃ wb, allocs w [obx, oz] = wb := ⟨_, rfl⟩
  rw [hwb] at a1 a2 asz ag
  simp only [List.length_cons, List.length_nil, Nat.add_zero] at asz a1
  have b1 := gb_blk (World.grownBy_alloc wb ov none) a1 (by simp)
  have b3 := blk_new wb ov
  have hI : VI wb r w.heap.size (w.heap.size + 2) (w.heap.size + 3) 4 [] [] (wb.alloc ov) (.slice none 0 0) (.slice none 0 0) [] := by
    refine ⟨World.grownBy_alloc wb ov _, ?_, ?_, ⟨rfl, .inl ⟨rfl, rfl⟩⟩, ⟨rfl, .inl ⟨rfl, rfl⟩⟩, rfl⟩
    · rw [← hobx]; exact b1
    · rw [← hov, show w.heap.size + 2 = wb.heap.size by omega]; exact b3
  have hk : RSt (wb.alloc ov) r st := h.gb (gb_alloc ag ov) (by simp)
  have hTb : Tb B wb := hT.gbn ag
  have hs := h.short
  have hlist := list_174 (σ := List Js.V) (fun a W => ∃ si xs, VI wb r w.heap.size (w.heap.size + 2) (w.heap.size + 3) 4 a [] W si (.slice none 0 0) xs) (Js.arrThing f) (.pointer (some ⟨w.heap.size + 2, 0, none⟩)) (.pointer (some ⟨w.heap.size, 0, none⟩)) ⟨#[93]⟩ B r d wb [] st (wb.alloc ov)
    hd ho hne hB hTb hk ⟨_, _, hI⟩ (fun a W ⟨_, _, hv⟩ => hv.1) (fun a W W' ⟨si, xs, hv⟩ hg => ⟨si, xs, hv.gb hg (by omega) (by omega) (by omega)⟩) (arr_steps hfs) List.length (fun a st => by simp [Js.arrThing]) (by simp; omega)
    (by
      rintro a st' W ⟨si, xs, hv⟩ hk' hT' ho' he' hz'
      exact array_thing r w.heap.size (w.heap.size + 2) (w.heap.size + 3) wb W a si xs st' (f st').2 (f st').1 hv hk' (by have := blk_lt' hv.2.2.1; omega) (by omega) (by omega) (by omega) (by omega) (by omega) (by omega) (by omega) (by omega) (by omega)
        (fun W' hW' hk2 => hf st' W' hk2 (hT'.gbn hW') ho' he'))
  rw [show (⟨#[93]⟩ : ByteArray).data.toList = [93] from rfl] at hlist
  obtain ⟨R, hR⟩ : ∃ R, Js.listS (Js.arrThing f) [93] [] st = R := ⟨_, rfl⟩
  rw [hR] at hlist ⊢
  subst hwb hobx hoz hov
  simp only [allocs] at hlist a2 ag
  have hmf : ∀ (fn : Fn) (first cap : Array Value) (w : World), (Instr.makeFunc fn first cap).run Tryz.prog w = .ok (.func fn first cap) w := fun _ _ _ _ => rfl
  have HL := Lib.hid hlist
  have H2 := Lib.hid a2
  have HAG := Lib.hid ag
  clear hlist hI hk hTb b1 b3 a1 a2 asz ag h hT hf hR
  go_enter Tryz.func109, Tryz.ntmps109
  go_wp2_with fail
  refine HL.out.mono ?_
  rintro e w1 ⟨rfl, ⟨si, xs, hv⟩, hk1⟩
  obtain ⟨sA, c, hsl⟩ : ∃ A c, si = .slice A R.1.length c := by
    rcases hv.2.2.2.1.2 with ⟨h, h0⟩ | ⟨g, cap, cur, h, _⟩
    · exact ⟨none, 0, by rw [h, h0]⟩
    · exact ⟨_, _, h⟩
  subst hsl
  have hb2 := gb_blk hv.1 H2.out (by simp; omega)
  obtain ⟨⟨d0, d1, d2, d3, d4, d5, d6, d7⟩, q0, q1, q2, q3, q4, q5, q6, q7⟩ := blk8 hb2
  obtain ⟨⟨k0, k1, k2, k3, k4, k5, k6, k7⟩, _⟩ := blk8 hv.2.2.1
  have HV := Lib.hid hv
  have HK := Lib.hid hk1
  clear hv hk1 hb2
  go_wp2
  refine bodyPost_ret (v := .agg #[.int .i64 4, .bool false, .bool false, .string ⟨#[]⟩, .int .i64 0, .string ⟨#[]⟩, .slice sA R.1.length c, .slice none 0 0]) (by simp [results, Tryz.results109, go_sem, d0, d1, d2, d3, d4, d5, d6, d7]) rfl ?_
  refine VDid.done (b0 := w.heap.size + 1) (w0 := w) (w1 := w1) (si := .slice sA R.1.length c) (sn := .slice none 0 0) rfl HK.out (gb_refl w none) (gb_trans (gb_any HAG.out) HV.out.1) (set8_gb _ _ _ _ _ _ _ _ _ _) (by omega) hr ?_
  have hrd := HV.out.rdv (w.heap.size + 3) (Nat.le_refl _)
  exact ((hrd.gb (set8_gb _ _ _ _ _ _ _ _ _ _) (fun k hk e => by cases e; omega)).mono (fun k hk _ => by show w.heap.size ≤ k; omega)).kind
end Go.Proofs.YtocjlbpehfpdoaaGreatDoor
