/- slices.Insert at []string: laid from the shelf; in the words of ownsRow. · slices.Insert at []Value: its roads. -/
import Derived.Test.YtocjlbpehfpdoaaGreatDoorK02
import Derived.Shelf.Spec.SlicesInsertGrow
import Derived.Maps.AppendAt
set_option linter.unusedVariables false
set_option linter.unusedSimpArgs false
namespace Go.Proofs.YtocjlbpehfpdoaaGreatDoor
open Go.RowKit

def insRen : Go.Shelf.Ren := ⟨fun | 17 => 284 | 22 => 178 | 29 => 229 | 30 => 230 | 36 => 268 | n => n, fun | 24 => 27 | n => n, fun | n => n⟩
theorem insLays : Go.Proofs.Lays2.n22 Tryz.prog insRen := {
  mixed := by kernel_rfl
  f17 := Tryz.func284.trans (congrArg some (by kernel_rfl))
  f22 := Tryz.func178.trans (congrArg some (by kernel_rfl))
  f29 := Tryz.func229.trans (congrArg some (by kernel_rfl))
  f30 := Tryz.func230.trans (congrArg some (by kernel_rfl))
  f36 := Tryz.func268.trans (congrArg some (by kernel_rfl))
  t0 := Tryz.underlying0
  a0 := Tryz.isAgg0
  z0 := Tryz.sizeOf0
  v0 := Tryz.zeroValue0
  t3 := Tryz.underlying3
  a3 := Tryz.isAgg3
  z3 := Tryz.sizeOf3
  v3 := Tryz.zeroValue3
  t4 := Tryz.underlying4
  a4 := Tryz.isAgg4
  z4 := Tryz.sizeOf4
  v4 := Tryz.zeroValue4
  t9 := Tryz.underlying9
  a9 := Tryz.isAgg9
  z9 := Tryz.sizeOf9
  v9 := Tryz.zeroValue9
  t24 := Tryz.underlying27
  a24 := Tryz.isAgg27
  z24 := Tryz.sizeOf27
  v24 := Tryz.zeroValue27
  i9 := by kernel_rfl }

/-! ### rows that are written in place -/
theorem setCells_row (b : Nat) (t : TypeId) : ∀ (vs : List Value) (o : Nat) (cur : Array Value) (w : World), w.heap[b]? = some (.cells cur t (0, 0)) → o + vs.length ≤ cur.size →
    (w.setCells b o vs).heap[b]? = some (.cells (cur.toList.take o ++ vs ++ cur.toList.drop (o + vs.length)).toArray t (0, 0))
  | [], o, cur, w, h, hl => by simpa [World.setCells] using h
  | v :: r, o, cur, w, h, hl => by
    rw [World.setCells]
    have h1 := blk_set' h o v
    simp only [List.length_cons] at hl
    have ih := setCells_row b t r (o + 1) _ _ h1 (by simp; omega)
    rw [ih]
    congr 2
    congr 1
    apply List.ext_getElem?
    intro j
    simp only [Array.toList_setIfInBounds, List.getElem?_append, List.getElem?_take, List.getElem?_drop, List.length_append, List.length_take, List.length_set, Array.length_toList, List.length_cons, List.getElem?_set]
    by_cases h1 : j < o
    · have : ¬ o = j := by omega
      simp [h1, this, show j < o + 1 by omega, show j < min (o + 1) cur.size by omega, show j < min o cur.size by omega, show j < min (o + 1) cur.size + r.length by omega, show j < min o cur.size + (r.length + 1) by omega]
    · by_cases h2 : j = o
      · subst h2
        simp [show j < cur.size by omega, show min j cur.size = j by omega, show min (j + 1) cur.size = j + 1 by omega, show j < j + 1 + r.length by omega]
      · have e1 : min (o + 1) cur.size = o + 1 := by omega
        have e2 : min o cur.size = o := by omega
        have e3 : ¬ j < o + 1 := by omega
        rw [e1, e2]
        obtain ⟨k, rfl⟩ : ∃ k, j = o + 1 + k := ⟨j - (o + 1), by omega⟩
        simp only [show ¬ (o + 1 + k < o + 1) by omega, show ¬ (o + 1 + k < o) by omega, if_false, show o + 1 + k - (o + 1) = k by omega, show o + 1 + k - o = k + 1 by omega, List.getElem?_cons_succ,
          show (o + 1 + k < o + 1 + r.length) = (k < r.length) by simp, show (o + 1 + k < o + (r.length + 1)) = (k < r.length) by rw [eq_iff_iff]; omega]
        split
        · rfl
        · rename_i h5
          have : ¬ (o = o + 1 + r.length + (o + 1 + k - (o + 1 + r.length))) := by omega
          simp [this, show o + (r.length + 1) = o + 1 + r.length by omega]
theorem setCells_gb (b : Nat) : ∀ (vs : List Value) (o : Nat) (a w : World) (row : Option Nat), a.grownBy w row → (a.heap.size ≤ b ∨ row = some b) → a.grownBy (w.setCells b o vs) row
  | [], _, _, _, _, h, _ => h
  | v :: r, o, a, w, row, h, hb => setCells_gb b r (o + 1) a _ row (gb_set h (p := ⟨b, o, none⟩) hb v) hb
theorem splice_ins (cur cs vs : List Value) (N I k : Nat) (hc : cur.take N = cs) (hI : I ≤ N) (hk : vs.length = k) (hN : N + k ≤ cur.length) :
    (((cur.take (I + k) ++ cs.drop I ++ cur.drop (I + k + (cs.drop I).length)).take I ++ vs ++ (cur.take (I + k) ++ cs.drop I ++ cur.drop (I + k + (cs.drop I).length)).drop (I + vs.length)).take (N + k)) = cs.take I ++ vs ++ cs.drop I := by
  have hcl : cs.length = N := by rw [← hc, List.length_take]; omega
  have e1 : (cur.take (I + k) ++ cs.drop I ++ cur.drop (I + k + (cs.drop I).length)).take I = cs.take I := by
    rw [List.append_assoc, List.take_append_of_le_length (by rw [List.length_take]; omega), List.take_take, ← hc, List.take_take]
    congr 1
    omega
  have e2 : (cur.take (I + k) ++ cs.drop I ++ cur.drop (I + k + (cs.drop I).length)).drop (I + vs.length) = cs.drop I ++ cur.drop (I + k + (cs.drop I).length) := by
    rw [List.append_assoc, hk]
    exact List.drop_left' (by rw [List.length_take]; omega)
  rw [e1, e2, ← List.append_assoc]
  exact List.take_left' (by simp only [List.length_append, List.length_take, List.length_drop]; omega)
theorem take_set_end (cur cs vs : List Value) (N k : Nat) (hc : cur.take N = cs) (hk : vs.length = k) (hN : N + k ≤ cur.length) :
    ((cur.take N ++ vs ++ cur.drop (N + vs.length)).take (N + k)) = cs ++ vs := by
  rw [hc]
  have hcl : cs.length = N := by rw [← hc, List.length_take]; omega
  exact List.take_left' (by simp only [List.length_append]; omega)
theorem one_all {vs : List Value} {x : ByteArray} (h : vs = [.string x]) : ∀ v ∈ vs, v.oneCell' = true := by
  subst h; intro v hv; simp at hv; subst hv; rfl
theorem strs_one (l : List Js.Bs) : ∀ v ∈ strs l, v.oneCell' = true := by
  intro v hv
  simp only [strs, List.mem_map] at hv
  obtain ⟨x, _, rfl⟩ := hv
  rfl
theorem strs_ins (l : List Js.Bs) (i : Nat) (x : Js.Bs) : (strs l).take i ++ [.string (ba x)] ++ (strs l).drop i = strs (Js.insertAt l i x) := by
  simp [strs, Js.insertAt]

theorem ins_string (base : Nat) (l : List Js.Bs) (i : Nat) (x : Js.Bs) (sl : Value) (vb : Nat) (w : World) (hown : w.ownsRow base 9 1 sl l.length (strs l)) (hi : i ≤ l.length) (hl : l.length ≤ 100000)
    (hv : w.heap[vb]? = some (.cells #[.string (ba x)] 9 (0, 0))) (hne : sl.ownBlock ≠ some vb) (hb : base ≤ w.heap.size) :
    Calls Tryz.prog 178 #[sl, .int .i64 i, .slice (some ⟨vb, 0, none⟩) 1 1] w fun e w' => ∃ sl', e = .returned sl' ∧ w'.ownsRow base 9 1 sl' (l.length + 1) (strs (Js.insertAt l i x)) ∧ w.grownBy w' sl.ownBlock ∧ (sl'.ownBlock = sl.ownBlock ∨ sl'.ownBlock = some w.heap.size) := by
  have hvs : ∀ j v, [Value.string (ba x)][j]? = some v → w.cell? ⟨vb, 0 + j, none⟩ = some v := by
    intro j v hj
    rw [Nat.zero_add, blk_c hv]
    simpa using hj
  have hlen : (strs l).length = l.length := by simp [strs]
  have hil : (Js.insertAt l i x).length = l.length + 1 := by simp [Js.insertAt]; omega
  have hsi : (strs (Js.insertAt l i x)).length = (l.length + 1) * 1 := by simp [strs, hil]
  have newrow : ∀ (W : World) (row : List Value) (cap : Nat), (l.length + 1 ≤ cap) → cap ≤ maxLen → row.length = cap → row.take (l.length + 1) = strs (Js.insertAt l i x) → W.heap[w.heap.size]? = some (.cells row.toArray 9 (0, 0)) → w.grownBy W none →
      W.ownsRow base 9 1 (.slice (some ⟨w.heap.size, 0, none⟩) (l.length + 1) cap) (l.length + 1) (strs (Js.insertAt l i x)) := by
    intro W row cap h1 h2 h3 h4 h5 h6
    exact ⟨hsi, .inr ⟨w.heap.size, cap, row.toArray, rfl, hb, h5, h1, h2, by simp [h3], by simpa using h4⟩⟩
  rcases hown with ⟨hxl, ⟨rfl, hn0⟩ | ⟨g, cap, cur, rfl, hbg, hg, hnc, hcm, hcs, htk⟩⟩
  · -- the nil slice
    have hl0 : l = [] := List.length_eq_zero_iff.1 hn0
    subst hl0
    have hi0 : i = 0 := by simpa using hi
    subst hi0
    refine (Any2.slices_Insert_string_end_grow insLays none 0 0 vb 0 1 1 [] [.string (ba x)] w (by omega) (Nat.le_refl _) (by omega) (by omega) rfl rfl (fun _ => rfl) (fun _ h => by cases h) hvs (one_all rfl)).mono ?_
    rintro e w' ⟨rfl, rfl⟩
    have hge := grownCap_ge w (0 + 1) 0 (insRen.t 9)
    have hle := grownCap_le_maxLen w (0 + 1) 0 (insRen.t 9) (by unfold maxLen; omega)
    refine ⟨_, rfl, newrow _ (([.string (ba x)] : List Value) ++ (Builtin.zeroCells (Value.string ⟨#[]⟩).cells (grownCap w (0 + 1) 0 (insRen.t 9) - (0 + 1))).toList) _ hge hle ?_ ?_ ?_ ?_, ?_, .inr rfl⟩
    · have hz : (Value.string (⟨#[]⟩ : ByteArray)).cells.size = 1 := rfl
      simp only [List.length_append, List.length_cons, List.length_nil, Array.length_toList, size_zeroCells, hz]; omega
    · simp [strs, Js.insertAt]
    · refine (blk_new w.drew _).trans ?_
      congr 2
      apply Array.toList_inj.1; simp
    · exact gb_alloc (gb_drew (gb_refl w _)) _
    · exact gb_alloc (gb_drew (gb_refl w _)) _
  · have hgl : g < w.heap.size := blk_lt' hg
    have hcsz : cur.size = cap := by omega
    have hcells : ∀ j v, (strs l)[j]? = some v → w.cell? ⟨g, 0 + j, none⟩ = some v := by
      intro j v hj
      rw [Nat.zero_add, blk_c hg, ← Array.getElem?_toList]
      rw [← htk, List.getElem?_take] at hj
      split at hj
      · exact hj
      · cases hj
    have hsome : ∀ j, j < cap → (w.cell? ⟨g, j, none⟩).isSome = true := by
      intro j hj
      rw [blk_c hg, Array.getElem?_eq_getElem (by omega)]
      rfl
    have hvg : vb ≠ g := fun h => hne (by simp [Value.ownBlock, h])
    have h63 : cap ≤ 9223372036854775807 := by simpa [maxLen] using hcm
    by_cases hroom : l.length + 1 ≤ cap
    · by_cases hin : i = l.length
      · subst hin
        refine (Any2.slices_Insert_string_end_room insLays g 0 l.length cap vb 0 1 1 [.string (ba x)] w (by omega) hroom h63 rfl (fun j hj => hsome _ (by omega)) (fun j hj => blk_f hg _) hvs (one_all rfl)).mono ?_
        rintro e w' ⟨rfl, rfl⟩
        have hrow := setCells_row g 9 [.string (ba x)] (0 + l.length) cur w hg (by simp; omega)
        refine ⟨_, rfl, ⟨hsi, .inr ⟨g, cap, _, rfl, hbg, hrow, hroom, hcm, ?_, ?_⟩⟩, setCells_gb g _ _ w w _ (gb_refl w _) (.inr rfl), .inl rfl⟩
        · simp only [List.size_toArray, List.length_append, List.length_take, List.length_drop, List.length_cons, List.length_nil, Array.length_toList]; omega
        · rw [List.toList_toArray, Nat.zero_add]
          have := take_set_end cur.toList (strs l) [.string (ba x)] l.length 1 (by simpa using htk) rfl (by simp; omega)
          rw [Nat.mul_one, this, ← strs_ins]
          simp [← hlen]
      · have hlt : i < l.length := by omega
        refine (Any2.slices_Insert_string_shift insLays g 0 l.length cap i vb 0 1 1 (strs l) [.string (ba x)] w hlt (by omega) hroom h63 hvg hlen rfl hcells (fun j hj => hsome _ (by omega)) (fun j hj => blk_f hg _) hvs (strs_one l) (one_all rfl) 9 9 1 cap ?_ ?_ (by omega) (blk_f hv _) (blk_f hv _)).mono ?_
        · simp [World.shape?, hv]
        · simp [World.shape?, hg, hcsz]
        · rintro e w' ⟨rfl, rfl⟩
          have hdl : ((strs l).drop i).length = l.length - i := by rw [List.length_drop, hlen]
          have hrow1 := setCells_row g 9 ((strs l).drop i) (0 + (i + 1)) cur w.drew hg (by rw [hdl]; omega)
          have hrow2 := setCells_row g 9 [.string (ba x)] (0 + i) _ _ hrow1 (by simp only [List.size_toArray, List.length_append, List.length_take, List.length_drop, List.length_cons, List.length_nil, Array.length_toList]; omega)
          refine ⟨_, rfl, ⟨hsi, .inr ⟨g, cap, _, rfl, hbg, hrow2, hroom, hcm, ?_, ?_⟩⟩, setCells_gb g _ _ w _ _ (setCells_gb g _ _ w w.drew _ (gb_drew (gb_refl w _)) (.inr rfl)) (.inr rfl), .inl rfl⟩
          · simp only [List.size_toArray, List.toList_toArray, List.length_append, List.length_take, List.length_drop, List.length_cons, List.length_nil, Array.length_toList, hlen]; omega
          · rw [List.toList_toArray, List.toList_toArray, Nat.zero_add, Nat.zero_add, Nat.mul_one, ← strs_ins]
            exact splice_ins cur.toList (strs l) [.string (ba x)] l.length i 1 (by simpa using htk) hi rfl (by simp; omega)
    · have hcap : cap = l.length := by omega
      by_cases hin : i = l.length
      · subst hin
        refine (Any2.slices_Insert_string_end_grow insLays (some ⟨g, 0, none⟩) l.length cap vb 0 1 1 (strs l) [.string (ba x)] w (by omega) hnc (by omega) (by omega) hlen rfl (fun h => by cases h) (fun a ha j v hj => by cases ha; rw [Addr.add_lit]; exact hcells j v hj) hvs (one_all rfl)).mono ?_
        rintro e w' ⟨rfl, rfl⟩
        have hge := grownCap_ge w (l.length + 1) cap (insRen.t 9)
        have hle := grownCap_le_maxLen w (l.length + 1) cap (insRen.t 9) (by unfold maxLen; omega)
        refine ⟨_, rfl, newrow _ (strs l ++ [.string (ba x)] ++ (Builtin.zeroCells (Value.string ⟨#[]⟩).cells (grownCap w (l.length + 1) cap (insRen.t 9) - (l.length + 1))).toList) _ hge hle ?_ ?_ ?_ ?_, ?_, .inr rfl⟩
        · have hz : (Value.string (⟨#[]⟩ : ByteArray)).cells.size = 1 := rfl
          simp only [List.length_append, List.length_cons, List.length_nil, Array.length_toList, size_zeroCells, hz, hlen]; omega
        · rw [List.take_left' (by simp [hlen]), ← strs_ins]
          simp [← hlen]
        · refine (blk_new w.drew _).trans ?_
          congr 2
          apply Array.toList_inj.1; simp
        · exact gb_alloc (gb_drew (gb_refl w _)) _
        · exact gb_alloc (gb_drew (gb_refl w _)) _
      · have hlt : i < l.length := by omega
        refine (Any2.slices_Insert_string_grow insLays g 0 l.length cap i vb 0 1 1 (strs l) [.string (ba x)] w hlt (by omega) hnc (by omega) (by omega) hlen rfl hcells hvs (strs_one l) (one_all rfl)).mono ?_
        rintro e w' ⟨rfl, rfl⟩
        have hge := grownCap_ge w (l.length + 1) cap (insRen.t 9)
        have hle := grownCap_le_maxLen w (l.length + 1) cap (insRen.t 9) (by unfold maxLen; omega)
        obtain ⟨G, hG⟩ : ∃ G, grownCap w (l.length + 1) cap (insRen.t 9) = G := ⟨_, rfl⟩
        rw [hG] at hge hle ⊢
        have hz : (Value.string (⟨#[]⟩ : ByteArray)).cells.size = 1 := rfl
        obtain ⟨row, hrow⟩ : ∃ row : Array Value, ((strs l).take i).toArray ++ Builtin.zeroCells (Value.string ⟨#[]⟩).cells (l.length + 1 - i) ++ Builtin.zeroCells (Value.string ⟨#[]⟩).cells (G - (l.length + 1)) = row := ⟨_, rfl⟩
        have hrs : row.size = G := by
          rw [← hrow]
          simp only [Array.size_append, List.size_toArray, List.length_take, size_zeroCells, hz, hlen]; omega
        have hrt : row.toList.take i = (strs l).take i := by
          rw [← hrow]
          simp only [Array.toList_append, List.append_assoc]
          exact List.take_left' (by rw [List.length_take, hlen]; omega)
        rw [hrow]
        have hdl : ((strs l).drop i).length = l.length - i := by rw [List.length_drop, hlen]
        have hr0 : (w.alloc (.cells row (insRen.t 9))).drew.heap[w.heap.size]? = some (.cells row 9 (0, 0)) := blk_new w _
        have hr1 := setCells_row w.heap.size 9 [.string (ba x)] i row _ hr0 (by simp; omega)
        have hr2 := setCells_row w.heap.size 9 ((strs l).drop i) (i + 1) _ ((w.alloc (.cells row (insRen.t 9))).drew.setCells w.heap.size i [.string (ba x)]).drew hr1 (by simp only [List.size_toArray, List.length_append, List.length_take, List.length_drop, List.length_cons, List.length_nil, Array.length_toList, hlen]; omega)
        have hgb := setCells_gb w.heap.size ((strs l).drop i) (i + 1) w ((w.alloc (.cells row (insRen.t 9))).drew.setCells w.heap.size i [.string (ba x)]).drew none (gb_drew (setCells_gb w.heap.size [.string (ba x)] i w _ none (gb_drew (gb_alloc (gb_refl w none) _)) (.inl (Nat.le_refl _)))) (.inl (Nat.le_refl _))
        refine ⟨_, rfl, newrow _ _ _ hge hle ?_ ?_ hr2 hgb, gb_any hgb, .inr rfl⟩
        · simp only [List.toList_toArray, List.length_append, List.length_take, List.length_drop, List.length_cons, List.length_nil, Array.length_toList, hlen]; omega
        · rw [List.toList_toArray, ← strs_ins]
          have e1 : (row.toList.take i ++ [Value.string (ba x)] ++ row.toList.drop (i + [Value.string (ba x)].length)).take (i + 1) = (strs l).take i ++ [.string (ba x)] := by
            rw [hrt]
            exact List.take_left' (by simp only [List.length_append, List.length_take, hlen, List.length_cons, List.length_nil]; omega)
          rw [e1]
          exact List.take_left' (by simp only [List.length_append, List.length_take, List.length_drop, hlen, List.length_cons, List.length_nil]; omega)
end Go.Proofs.YtocjlbpehfpdoaaGreatDoor

set_option linter.unusedVariables false
set_option linter.unusedSimpArgs false
namespace Go.Proofs.YtocjlbpehfpdoaaGreatDoor
open Go.RowKit Go.Lib

theorem run_copy_cellsK {P : Program} (w : World) (dT sT ty elem : TypeId) (b o dLen dCap : Nat) (a : Addr) (sLen sCap : Nat) (cs : List Value) (k n : Nat)
    (hu : P.underlying dT = some (.slice elem)) (hs : (P.info? elem).map (·.size) = some k) (hn : Nat.min sLen dLen = n) (hl : cs.length = n * k)
    (hsrc : ∀ j v, cs[j]? = some v → w.cell? (a.add j) = some v) (hc : ∀ j, j < cs.length → (w.cell? ⟨b, o + j, none⟩).isSome = true) (hf : ∀ j, j < cs.length → w.frozen? ⟨b, o + j, none⟩ = false) (h1 : ∀ v ∈ cs, v.oneCell' = true) :
    (Builtin.copy_ #[dT, sT] ty #[.slice (some ⟨b, o, none⟩) dLen dCap, .slice (some a) sLen sCap]).run P w = .ok (goInt n) (w.setCells b o cs) := by
  have hld := run_loadCells_list (P := P) w a cs hsrc
  have hst := run_storeCells_cells (P := P) b o cs 0 w (by simpa using hc) (by simpa using hf) h1
  cases hq : P.info? elem with
  | none => simp [hq] at hs
  | some i =>
    have hi : i.size = k := by simpa [hq] using hs
    simp [Builtin.copy_, run_underlying hu, Builtin.lenOf, Builtin.firstCells, sizeOf, typeInfo, hq, hi, hn, ← hl, hld, hst]

theorem info29 : (Tryz.prog.info? 29).map (fun i => (i.zero, i.size, i.bytes)) = some (some (.agg #[.int .i64 0, .bool false, .bool false, .string ⟨#[]⟩, .int .i64 0, .string ⟨#[]⟩, .slice none 0 0, .slice none 0 0]), 8, 112) := by kernel_rfl
theorem copyV (w : World) (ty : TypeId) (b o dLen dCap : Nat) (a : Addr) (sLen sCap : Nat) (cs : List Value) (n : Nat) (hn : Nat.min sLen dLen = n) (hl : cs.length = n * 8)
    (hsrc : ∀ j v, cs[j]? = some v → w.cell? (a.add j) = some v) (hc : ∀ j, j < cs.length → (w.cell? ⟨b, o + j, none⟩).isSome = true) (hf : ∀ j, j < cs.length → w.frozen? ⟨b, o + j, none⟩ = false) (h1 : ∀ v ∈ cs, v.oneCell' = true) :
    (Builtin.copy_ #[26, 26] ty #[.slice (some ⟨b, o, none⟩) dLen dCap, .slice (some a) sLen sCap]).run Tryz.prog w = .ok (goInt n) (w.setCells b o cs) := by
  refine run_copy_cellsK w 26 26 ty 29 b o dLen dCap a sLen sCap cs 8 n Tryz.underlying26 ?_ hn hl hsrc hc hf h1
  obtain ⟨i0, hi0, h0, h1, h2⟩ := info_parts info29
  rw [hi0]; simp [h1]

set_option maxHeartbeats 4000000 in
set_option maxRecDepth 100000 in
/-- At the end: an append. -/
theorem insV_end (base : Nat) (xs vs : List Value) (n : Nat) (sl : Value) (A : Option Addr) (c : Nat) (hsl : sl = .slice A n c) (vb : Nat) (w : World) (hown : w.ownsRow base 29 8 sl n xs) (hn : n ≤ 100000)
    (hv : w.heap[vb]? = some (.cells vs.toArray 29 (0, 0))) (hvl : vs.length = 8) (h1 : ∀ v ∈ vs, v.oneCell' = true) (hb : base ≤ w.heap.size) :
    Calls Tryz.prog 179 #[sl, .int .i64 n, .slice (some ⟨vb, 0, none⟩) 1 1] w fun e w' => ∃ sl', e = .returned sl' ∧ w'.ownsRow base 29 8 sl' (n + 1) (xs ++ vs) ∧ w.grownBy w' sl.ownBlock ∧ (sl'.ownBlock = sl.ownBlock ∨ sl'.ownBlock = some w.heap.size) := by
  subst hsl
  obtain ⟨i0, hi0, hz0, hzs, hzb⟩ := info_parts info29
  obtain ⟨v', w', hrun, hown', hgb, _, hat⟩ := run_append_own_at (P := Tryz.prog) w base 26 26 29 i0 _ 8 112 Tryz.underlying26 hi0 hz0 hzs hzb rfl (by omega) _ n xs hown ⟨vb, 0, none⟩ 1 1 vs (by omega)
    (fun j u hj => by rw [Addr.add_lit, Nat.zero_add, blk_c hv]; simpa using hj) h1 (by unfold maxLen; omega) (by omega) hb
  have HR := Lib.hid hrun
  have HO := Lib.hid hown'
  have HG := Lib.hid hgb
  have HAT := Lib.hid hat
  have hnc : n ≤ c := by
    rcases hown.2 with ⟨h, h0⟩ | ⟨g, cap, cur, h, _, _, h2, _⟩
    · omega
    · cases h; exact h2
  clear hat hrun hown' hgb hi0 hz0 hzs hzb hown
  go_enter Tryz.func179, Tryz.ntmps179
  cases A with
  | none =>
    go_wp2_with (at_builtin; refine Lib.wpList_append_run _ rfl _ _ _ _ rfl _ _ rfl rfl _ _ HR.out ?_)
    all_goals
      go_ret
      exact ⟨_, rfl, HO.out, HG.out, HAT.out⟩
  | some a =>
    obtain ⟨ab, ao, asp⟩ := a
    go_wp2_with (at_builtin; refine Lib.wpList_append_run _ rfl _ _ _ _ rfl _ _ rfl rfl _ _ HR.out ?_)
    all_goals
      go_ret
      exact ⟨_, rfl, HO.out, HG.out, HAT.out⟩

set_option maxHeartbeats 4000000 in
set_option maxRecDepth 100000 in
/-- There is room: in place. -/
theorem insV_shift (b n c i vb : Nat) (cs vs : List Value) (w : World) (hi : i < n) (hroom : n + 1 ≤ c) (hc63 : c ≤ 9223372036854775807) (hvb : vb ≠ b) (hn : n ≤ 100000)
    (hcl : cs.length = n * 8) (hvl : vs.length = 8) (cur : Array Value) (hg : w.heap[b]? = some (.cells cur 29 (0, 0))) (hcs : cur.size = c * 8) (htk : cur.toList.take (n * 8) = cs)
    (hv : w.heap[vb]? = some (.cells vs.toArray 29 (0, 0))) (h1c : ∀ v ∈ cs, v.oneCell' = true) (h1v : ∀ v ∈ vs, v.oneCell' = true) :
    Calls Tryz.prog 179 #[.slice (some ⟨b, 0, none⟩) n c, .int .i64 i, .slice (some ⟨vb, 0, none⟩) 1 1] w fun e w' =>
      e = .returned (.slice (some ⟨b, 0, none⟩) (n + 1) c) ∧ w' = (w.drew.setCells b ((i + 1) * 8) (cs.drop (i * 8))).setCells b (i * 8) vs := by
  have hz1 : ¬ ((i : Int) = (n : Int)) := by omega
  have hov : ∀ lb cb, (callFunc 231 #[.slice (some ⟨vb, 0, none⟩) 1 1, .slice (some ⟨b, (i + 1) * 8, none⟩) lb cb]).run Tryz.prog w = .ok (.value (.bool false)) w := fun lb cb => by
    rw [run_callFunc_extern Tryz.func231 (by kernel_rfl) (by kernel_rfl) (by kernel_rfl) (e := Extern.SlicesOverlaps.overlaps #[26, 26] #[4]) (by kernel_rfl),
      Lib.run_overlaps_apart w 26 4 29 Tryz.underlying26 8 Tryz.sizeOf29 ⟨vb, 0, none⟩ ⟨b, (i + 1) * 8, none⟩ 1 1 lb cb hvb 29 29 8 (c * 8) (by simp [World.shape?, hv, hvl]) (by simp [World.shape?, hg, hcs]) (by omega) (blk_f hv _) (blk_f hv _)]
    rfl
  have hdl : (cs.drop (i * 8)).length = (n - i) * 8 := by rw [List.length_drop, hcl]; omega
  have hcells : ∀ j v, cs[j]? = some v → w.cell? ⟨b, j, none⟩ = some v := by
    intro j v hj
    rw [blk_c hg, ← Array.getElem?_toList]
    rw [← htk, List.getElem?_take] at hj
    split at hj
    · exact hj
    · cases hj
  have hsome : ∀ j, j < c * 8 → (w.cell? ⟨b, j, none⟩).isSome = true := by
    intro j hj
    rw [blk_c hg, Array.getElem?_eq_getElem (by omega)]
    rfl
  have hcp1 : ∀ ty dc sc, (Builtin.copy_ #[26, 26] ty #[.slice (some ⟨b, (i + 1) * 8, none⟩) (n - i) dc, .slice (some ⟨b, i * 8, none⟩) (n + 1 - i) sc]).run Tryz.prog w.drew = .ok (goInt ((n - i : Nat) : Int)) (w.drew.setCells b ((i + 1) * 8) (cs.drop (i * 8))) := fun ty dc sc =>
    copyV w.drew ty b ((i + 1) * 8) (n - i) dc ⟨b, i * 8, none⟩ (n + 1 - i) sc (cs.drop (i * 8)) (n - i) (by simp only [Nat.min_def]; split <;> omega) hdl
      (fun j v hj => by rw [Addr.add_lit]; exact hcells (i * 8 + j) v (by rwa [List.getElem?_drop] at hj))
      (fun j hj => hsome _ (by omega)) (fun j hj => blk_f hg _) (fun v hv => h1c v (List.mem_of_mem_drop hv))
  have hrow1 := setCells_row b 29 (cs.drop (i * 8)) ((i + 1) * 8) cur w.drew hg (by omega)
  have hv1 : (w.drew.setCells b ((i + 1) * 8) (cs.drop (i * 8))).heap[vb]? = some (.cells vs.toArray 29 (0, 0)) := gb_blk (setCells_gb b _ _ w w.drew (some b) (gb_drew (gb_refl w _)) (.inr rfl)) hv (by simpa using hvb)
  obtain ⟨W1, hW1⟩ : ∃ W1, W1 = w.drew.setCells b ((i + 1) * 8) (cs.drop (i * 8)) := ⟨_, rfl⟩
  rw [← hW1] at hcp1 hrow1 hv1
  have hcp2 : ∀ ty dc, (Builtin.copy_ #[26, 26] ty #[.slice (some ⟨b, i * 8, none⟩) (n + 1 - i) dc, .slice (some ⟨vb, 0, none⟩) 1 1]).run Tryz.prog W1 = .ok (goInt 1) (W1.setCells b (i * 8) vs) := fun ty dc =>
    copyV W1 ty b (i * 8) (n + 1 - i) dc ⟨vb, 0, none⟩ 1 1 vs 1 (by simp only [Nat.min_def]; split <;> omega) (by omega)
      (fun j v hj => by rw [Addr.add_lit, Nat.zero_add, blk_c hv1]; simpa using hj)
      (fun j hj => by
        rw [blk_c hrow1, Array.getElem?_eq_getElem (by simp only [List.size_toArray, List.length_append, List.length_take, List.length_drop, Array.length_toList]; omega)]
        rfl) (fun j hj => blk_f hrow1 _) h1v
  have HW := Lib.hid hW1
  have HC1 := Lib.hid hcp1
  have HC2 := Lib.hid hcp2
  have hb1 : (0 : Int) ≤ (i : Int) + 1 := by omega
  have htn : ((i : Int) + 1).toNat = i + 1 := by omega
  have hw1 : IntKind.i64.wrap ((i : Int) + 1) = (i : Int) + 1 := by rw [IntKind.wrap_i64]; omega
  have hb2 : ¬ (c = i + 1) := by omega
  have hin : i ≤ n := by omega
  have mixed : Tryz.prog.follows .mixedOrders = true := by kernel_rfl
  have hb4 : ¬ (c = i) := by omega
  have hb3 : (i : Int) ≤ (n : Int) + 1 := by omega
  clear hcp1 hcp2 hW1 hrow1 hv1 hdl hcells hsome h1c h1v
  go_enter Tryz.func179, Tryz.ntmps179
  go_wp2_with (simp only [hov])
  go_region_law_o (refine step_copy_runI rfl _ _ 26 26 rfl (.slice (some ⟨b, (i + 1) * 8, none⟩) (n - i) (c - (i + 1))) (.slice (some ⟨b, i * 8, none⟩) (n + 1 - i) (c - i)) (by simp [Act.eval, Act.put]) (by simp [Act.eval, Act.put]) (HC1.out 3 (c - (i + 1)) (c - i)) ?_)
  have hc2 := HC2.out 3 (c - i)
  go_wp2
  go_ret
  exact ⟨rfl, by rw [HW.out]⟩

set_option maxHeartbeats 4000000 in
set_option maxRecDepth 100000 in
/-- There is no room, ahead of the end: a new row. -/
theorem insV_grow (b n c i vb : Nat) (cs vs : List Value) (w : World) (hi : i < n) (hnc : n ≤ c) (hroom : c < n + 1) (hn : n ≤ 100000)
    (hcl : cs.length = n * 8) (hvl : vs.length = 8) (hcells : ∀ j v, cs[j]? = some v → w.cell? ⟨b, j, none⟩ = some v) (hbw : b < w.heap.size)
    (hv : w.heap[vb]? = some (.cells vs.toArray 29 (0, 0))) (h1c : ∀ v ∈ cs, v.oneCell' = true) (h1v : ∀ v ∈ vs, v.oneCell' = true) :
    Calls Tryz.prog 179 #[.slice (some ⟨b, 0, none⟩) n c, .int .i64 i, .slice (some ⟨vb, 0, none⟩) 1 1] w fun e w' => ∃ (G : Nat) (row : Array Value), n + 1 ≤ G ∧ G ≤ maxLen ∧ row.size = G * 8 ∧ row.toList.take ((n + 1) * 8) = cs.take (i * 8) ++ vs ++ cs.drop (i * 8) ∧
      e = .returned (.slice (some ⟨w.heap.size, 0, none⟩) (n + 1) G) ∧ w'.heap[w.heap.size]? = some (.cells row 29 (0, 0)) ∧ w.grownBy w' none := by
  obtain ⟨i0, hi0, hz0, hzs, hzb⟩ := info_parts info29
  have hz2 : ¬ ((i : Int) = (n : Int)) := by omega
  have hz3 : (c : Int) < (n : Int) + 1 := by omega
  have hvw : vb < w.heap.size := blk_lt' hv
  have hkk : (n : Int) + 1 - (i : Int) = ((n + 1 - i : Nat) : Int) := by omega
  have hik : i + (n + 1 - i) = n + 1 := by omega
  have hold : (Builtin.firstCells i0.size i (.slice (some ⟨b, 0, none⟩) i c)).run Tryz.prog w.drew = .ok (cs.take (i * 8)).toArray w.drew := by
    rw [hzs]
    exact run_firstCells_some w.drew 8 i ⟨b, 0, none⟩ i c (cs.take (i * 8)) (by rw [List.length_take]; omega) (fun j v hj => by
      rw [Addr.add_lit, Nat.zero_add]
      rw [List.getElem?_take] at hj
      split at hj
      · exact hcells j v hj
      · cases hj)
  obtain ⟨Z, hZ⟩ : ∃ Z : Value, Z = .agg #[.int .i64 0, .bool false, .bool false, .string ⟨#[]⟩, .int .i64 0, .string ⟨#[]⟩, .slice none 0 0, .slice none 0 0] := ⟨_, rfl⟩
  rw [← hZ] at hz0
  have hZs : Z.cells.size = 8 := by rw [hZ]; rfl
  have hrz : ∀ ty, (Builtin.append_ #[26, 3] ty #[.slice (some ⟨b, 0, none⟩) i c, .int .i64 ((n : Int) + 1 - (i : Int))]).run Tryz.prog w =
      .ok (.slice (some ⟨w.heap.size, 0, none⟩) (n + 1) (grownCap w (n + 1) c 29)) (w.drew.alloc (.cells ((cs.take (i * 8)).toArray ++ Builtin.zeroCells Z.cells (n + 1 - i) ++ Builtin.zeroCells Z.cells (grownCap w (n + 1) c 29 - (n + 1))) 29)) := fun ty => by
    have h := Lib.run_append_grow_zeros w 26 3 ty 29 i0 _ .i64 .i64 Tryz.underlying26 Tryz.underlying3 hi0 hz0 (some ⟨b, 0, none⟩) i c (cs.take (i * 8)) hold (n + 1 - i) (by omega) (by omega) (by omega) (by omega) (by rw [hzb]; omega) (by rw [hzb, hik]; exact growslice_fits hroom (by omega))
    rw [hik] at h
    rw [hkk]
    exact h
  have hGn : n + 1 ≤ grownCap w (n + 1) c 29 := grownCap_ge w _ _ _
  have hGm : grownCap w (n + 1) c 29 ≤ maxLen := grownCap_le_maxLen w (n + 1) c 29 (by unfold maxLen; omega)
  obtain ⟨G, hG⟩ : ∃ G, grownCap w (n + 1) c 29 = G := ⟨_, rfl⟩
  rw [hG] at hrz hGn hGm
  obtain ⟨ROW, hROW⟩ : ∃ ROW : Array Value, (cs.take (i * 8)).toArray ++ Builtin.zeroCells Z.cells (n + 1 - i) ++ Builtin.zeroCells Z.cells (G - (n + 1)) = ROW := ⟨_, rfl⟩
  rw [hROW] at hrz
  have hRl : ROW.size = G * 8 := by
    rw [← hROW]
    simp only [Array.size_append, List.size_toArray, List.length_take, size_zeroCells, hZs, hcl]; omega
  have hRt : ROW.toList.take (i * 8) = cs.take (i * 8) := by
    rw [← hROW]
    simp only [Array.toList_append, List.append_assoc]
    exact List.take_left' (by rw [List.length_take, hcl]; omega)
  have hG63 : G ≤ 9223372036854775807 := by unfold maxLen at hGm; omega
  have hdl : (cs.drop (i * 8)).length = (n - i) * 8 := by rw [List.length_drop, hcl]; omega
  -- the worlds behind the append, behind the first copy, behind the second
  have r0 : (w.drew.alloc (.cells ROW 29 (0, 0))).heap[w.heap.size]? = some (.cells ROW 29 (0, 0)) := blk_new w.drew _
  have g0 : w.grownBy (w.drew.alloc (.cells ROW 29 (0, 0))) none := gb_alloc (gb_drew (gb_refl w none)) _
  obtain ⟨W1, hW1⟩ : ∃ W1, w.drew.alloc (.cells ROW 29 (0, 0)) = W1 := ⟨_, rfl⟩
  rw [hW1] at r0 g0
  have hcpA : ∀ (W : World), W.heap = W1.heap → ∀ ty dc, (Builtin.copy_ #[26, 26] ty #[.slice (some ⟨w.heap.size, i * 8, none⟩) (n + 1 - i) dc, .slice (some ⟨vb, 0, none⟩) 1 1]).run Tryz.prog W = .ok (goInt ((1 : Nat) : Int)) (W.setCells w.heap.size (i * 8) vs) := fun W hW ty dc => by
    have hv1 : W.heap[vb]? = some (.cells vs.toArray 29 (0, 0)) := by rw [hW]; exact gb_blk g0 hv (by simp)
    have r0' : W.heap[w.heap.size]? = some (.cells ROW 29 (0, 0)) := by rw [hW]; exact r0
    exact copyV W ty w.heap.size (i * 8) (n + 1 - i) dc ⟨vb, 0, none⟩ 1 1 vs 1 (by simp only [Nat.min_def]; split <;> omega) (by omega)
      (fun j v hj => by rw [Addr.add_lit, Nat.zero_add, blk_c hv1]; simpa using hj)
      (fun j hj => by
        rw [blk_c r0', Array.getElem?_eq_getElem (by omega)]
        rfl) (fun j hj => blk_f r0' _) h1v
  have r1 := setCells_row w.heap.size 29 vs (i * 8) ROW W1 r0 (by omega)
  have g1 := setCells_gb w.heap.size vs (i * 8) w W1 none g0 (.inl (Nat.le_refl _))
  have hcpB : ∀ (W : World), W.heap = (W1.setCells w.heap.size (i * 8) vs).heap → ∀ ty dc sc, (Builtin.copy_ #[26, 26] ty #[.slice (some ⟨w.heap.size, (i + 1) * 8, none⟩) (n - i) dc, .slice (some ⟨b, i * 8, none⟩) (n - i) sc]).run Tryz.prog W = .ok (goInt ((n - i : Nat) : Int)) (W.setCells w.heap.size ((i + 1) * 8) (cs.drop (i * 8))) := fun W hW ty dc sc => by
    have r1' := r1
    rw [← hW] at r1'
    exact copyV W ty w.heap.size ((i + 1) * 8) (n - i) dc ⟨b, i * 8, none⟩ (n - i) sc (cs.drop (i * 8)) (n - i) (by simp only [Nat.min_def]; split <;> omega) hdl
      (fun j v hj => by
        rw [Addr.add_lit]
        have hb0 := hcells (i * 8 + j) v (by rwa [List.getElem?_drop] at hj)
        rw [← hb0]
        refine World.cell?_of_block (a := ⟨b, i * 8 + j, none⟩) ?_
        show W.heap[b]? = w.heap[b]?
        rw [hW]
        exact g1.block b hbw (by simp))
      (fun j hj => by
        rw [blk_c r1', Array.getElem?_eq_getElem (by simp only [List.size_toArray, List.length_append, List.length_take, List.length_drop, Array.length_toList]; omega)]
        rfl) (fun j hj => blk_f r1' _) (fun v hv => h1c v (List.mem_of_mem_drop hv))
  have fin : ∀ W : World, W.heap = (W1.setCells w.heap.size (i * 8) vs).heap → w.grownBy W none → ∃ (G' : Nat) (row : Array Value), n + 1 ≤ G' ∧ G' ≤ maxLen ∧ row.size = G' * 8 ∧ row.toList.take ((n + 1) * 8) = cs.take (i * 8) ++ vs ++ cs.drop (i * 8) ∧
      Ending.returned (.slice (some ⟨w.heap.size, 0, none⟩) (n + 1) G) = .returned (.slice (some ⟨w.heap.size, 0, none⟩) (n + 1) G') ∧ (W.setCells w.heap.size ((i + 1) * 8) (cs.drop (i * 8))).heap[w.heap.size]? = some (.cells row 29 (0, 0)) ∧ w.grownBy (W.setCells w.heap.size ((i + 1) * 8) (cs.drop (i * 8))) none := by
    intro W hW hgW
    have r1' := r1
    rw [← hW] at r1'
    have r2 := setCells_row w.heap.size 29 (cs.drop (i * 8)) ((i + 1) * 8) _ W r1' (by simp only [List.size_toArray, List.length_append, List.length_take, List.length_drop, Array.length_toList]; omega)
    refine ⟨G, _, hGn, hGm, ?_, ?_, rfl, r2, setCells_gb _ _ _ w W none hgW (.inl (Nat.le_refl _))⟩
    · simp only [List.size_toArray, List.length_append, List.length_take, List.length_drop, Array.length_toList]; omega
    · rw [List.toList_toArray, List.toList_toArray]
      have e1 : (ROW.toList.take (i * 8) ++ vs ++ ROW.toList.drop (i * 8 + vs.length)).take ((i + 1) * 8) = cs.take (i * 8) ++ vs := by
        rw [hRt]
        exact List.take_left' (by simp only [List.length_append, List.length_take, hcl]; omega)
      rw [e1]
      exact List.take_left' (by simp only [List.length_append, List.length_take, List.length_drop, hcl]; omega)
  have HRZ := Lib.hid hrz
  have HA := Lib.hid hcpA
  have HB := Lib.hid hcpB
  have HF := Lib.hid fin
  have HW1 := Lib.hid hW1
  have HG1 := Lib.hid g1
  have hGi : ¬ (G = i) := by omega
  have mixed : Tryz.prog.follows .mixedOrders = true := by kernel_rfl
  have hGim : ¬ (G = i + 1) := by omega
  have hci : ¬ (c = i) := by omega
  have hw1 : IntKind.i64.wrap ((i : Int) + 1) = (i : Int) + 1 := by rw [IntKind.wrap_i64]; omega
  have hb1 : (0 : Int) ≤ (i : Int) + 1 := by omega
  have hin : i ≤ n := by omega
  have htn : ((i : Int) + 1).toNat = i + 1 := by omega
  have hb3 : (i : Int) ≤ (n : Int) := by omega
  clear hrz hcpA hcpB fin hW1 g1 g0 r0 r1 hkk hik hold hROW hG hRl hRt hi0 hz0 hzs hzb hZ hZs hdl hcells h1c h1v hv hcl hvl
  go_enter Tryz.func179, Tryz.ntmps179
  have ha2 := HA.out W1 rfl 3 (G - i)
  go_wp2_with (at_builtin; refine Lib.wpList_append_run _ rfl _ _ _ _ rfl _ _ rfl rfl _ _ (HRZ.out _) ?_; rw [HW1.out])
  have hb := HB.out (W1.setCells w.heap.size (i * 8) vs).drew rfl 3 (G - (i + 1)) (c - i)
  go_region
  go_wp2
  go_ret
  exact HF.out _ rfl (gb_drew HG1.out)

theorem vcs_one (v : Js.V) (si sn : Value) (h1 : si.oneCell' = true) (h2 : sn.oneCell' = true) : ∀ u ∈ vcs v si sn, u.oneCell' = true := by
  intro u hu
  simp only [vcs, List.mem_cons, List.not_mem_nil, or_false] at hu
  rcases hu with rfl | rfl | rfl | rfl | rfl | rfl | rfl | rfl <;> first | rfl | assumption

/-- slices.Insert(s, i, x) at []Value, in the words of ownsRow. -/
theorem ins_value (base : Nat) (xs vs : List Value) (n i : Nat) (sl : Value) (vb : Nat) (w : World) (hown : w.ownsRow base 29 8 sl n xs) (hi : i ≤ n) (hn : n ≤ 100000)
    (hv : w.heap[vb]? = some (.cells vs.toArray 29 (0, 0))) (hvl : vs.length = 8) (hne : sl.ownBlock ≠ some vb) (hb : base ≤ w.heap.size) (h1c : ∀ v ∈ xs, v.oneCell' = true) (h1v : ∀ v ∈ vs, v.oneCell' = true) :
    Calls Tryz.prog 179 #[sl, .int .i64 i, .slice (some ⟨vb, 0, none⟩) 1 1] w fun e w' => ∃ sl', e = .returned sl' ∧ w'.ownsRow base 29 8 sl' (n + 1) (xs.take (i * 8) ++ vs ++ xs.drop (i * 8)) ∧ w.grownBy w' sl.ownBlock ∧ (sl'.ownBlock = sl.ownBlock ∨ sl'.ownBlock = some w.heap.size) := by
  have hxl := hown.1
  by_cases hin : i = n
  · subst hin
    have e1 : xs.take (i * 8) ++ vs ++ xs.drop (i * 8) = xs ++ vs := by
      rw [List.take_of_length_le (by omega), List.drop_of_length_le (by omega), List.append_nil]
    rw [e1]
    rcases hown.2 with ⟨rfl, rfl⟩ | ⟨g, cap, cur, rfl, _⟩
    · exact insV_end base xs vs 0 _ none 0 rfl vb w hown hn hv hvl h1v hb
    · exact insV_end base xs vs i _ (some ⟨g, 0, none⟩) cap rfl vb w hown hn hv hvl h1v hb
  · rcases hown.2 with ⟨rfl, rfl⟩ | ⟨g, cap, cur, rfl, hbg, hg, hnc, hcm, hcs, htk⟩
    · omega
    · have hgl : g < w.heap.size := blk_lt' hg
      have hvg : vb ≠ g := fun h => hne (by simp [Value.ownBlock, h])
      have h63 : cap ≤ 9223372036854775807 := by simpa [maxLen] using hcm
      have hlen : (xs.take (i * 8) ++ vs ++ xs.drop (i * 8)).length = (n + 1) * 8 := by
        simp only [List.length_append, List.length_take, List.length_drop]; omega
      by_cases hroom : n + 1 ≤ cap
      · refine (insV_shift g n cap i vb xs vs w (by omega) hroom h63 hvg hn hxl hvl cur hg hcs htk hv h1c h1v).mono ?_
        rintro e w' ⟨rfl, rfl⟩
        have hdl : (xs.drop (i * 8)).length = (n - i) * 8 := by rw [List.length_drop, hxl]; omega
        have hrow1 := setCells_row g 29 (xs.drop (i * 8)) ((i + 1) * 8) cur w.drew hg (by rw [hdl]; omega)
        have hrow2 := setCells_row g 29 vs (i * 8) _ _ hrow1 (by simp only [List.size_toArray, List.length_append, List.length_take, List.length_drop, Array.length_toList]; omega)
        refine ⟨_, rfl, ⟨hlen, .inr ⟨g, cap, _, rfl, hbg, hrow2, hroom, hcm, ?_, ?_⟩⟩, setCells_gb g _ _ w _ _ (setCells_gb g _ _ w w.drew _ (gb_drew (gb_refl w _)) (.inr rfl)) (.inr rfl), .inl rfl⟩
        · simp only [List.size_toArray, List.toList_toArray, List.length_append, List.length_take, List.length_drop, Array.length_toList]; omega
        · rw [List.toList_toArray, List.toList_toArray]
          have := splice_ins cur.toList xs vs (n * 8) (i * 8) 8 htk (by omega) hvl (by simp; omega)
          rw [show (i + 1) * 8 = i * 8 + 8 by omega, show (n + 1) * 8 = n * 8 + 8 by omega]
          exact this
      · have hcells : ∀ j v, xs[j]? = some v → w.cell? ⟨g, j, none⟩ = some v := by
          intro j v hj
          rw [blk_c hg, ← Array.getElem?_toList]
          rw [← htk, List.getElem?_take] at hj
          split at hj
          · exact hj
          · cases hj
        refine (insV_grow g n cap i vb xs vs w (by omega) hnc (by omega) hn hxl hvl hcells hgl hv h1c h1v).mono ?_
        rintro e w' ⟨G, row, h1, h2, h3, h4, rfl, h5, h6⟩
        exact ⟨_, rfl, ⟨hlen, .inr ⟨w.heap.size, G, row, rfl, hb, h5, h1, h2, h3, h4⟩⟩, gb_any h6, .inr rfl⟩
end Go.Proofs.YtocjlbpehfpdoaaGreatDoor
