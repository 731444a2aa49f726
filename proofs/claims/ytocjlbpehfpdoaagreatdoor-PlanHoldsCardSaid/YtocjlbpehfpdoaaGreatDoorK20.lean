/- Objects: a name's place among names; what an object holds with a member more. -/
import Derived.Test.YtocjlbpehfpdoaaGreatDoorK19
set_option linter.unusedVariables false
set_option linter.unusedSimpArgs false
namespace Go.Proofs.YtocjlbpehfpdoaaGreatDoor
open Go.RowKit

theorem bs_eq (less : Nat → Bool) : ∀ (f i j : Nat), Js.bs less f i j = Lib.bsGo less f i j
  | 0, _, _ => rfl
  | f + 1, i, j => by
    unfold Js.bs Lib.bsGo
    rw [bs_eq less f, bs_eq less f]
theorem bs_le (less : Nat → Bool) : ∀ (f i j : Nat), i ≤ j → Js.bs less f i j ≤ j
  | 0, _, _, h => h
  | f + 1, i, j, h => by
    unfold Js.bs
    split
    · split
      · exact bs_le less f _ _ (by omega)
      · exact Nat.le_trans (bs_le less f _ _ (by omega)) (by omega)
    · exact h
theorem search_le (names : List Js.Bs) (x : Js.Bs) : (Js.search names x).1 ≤ names.length := bs_le _ _ _ _ (Nat.zero_le _)
theorem ba_inj {a b : Js.Bs} : ba a = ba b ↔ a = b := ⟨fun h => by rw [← ba_list a, h, ba_list], fun h => by rw [h]⟩

theorem names_search (names : List Js.Bs) (x : Js.Bs) (base : Nat) (sn : Value) (w : World) (hown : w.ownsRow base 9 1 sn names.length (strs names)) (hn : names.length ≤ 100000) :
    Calls Tryz.prog 177 #[sn, .string (ba x)] w fun e w' => e = .returned (.tuple #[.int .i64 ((Js.search names x).1 : Nat), .bool (Js.search names x).2]) ∧ w.grownBy w' none := by
  rcases hown with ⟨hxl, ⟨rfl, hn0⟩ | ⟨g, cap, cur, rfl, hbg, hg, hnc, hcm, hcs, htk⟩⟩
  · have : names = [] := List.length_eq_zero_iff.1 hn0
    subst this
    refine (Tryz.slices_BinarySearch_string_empty none 0 (ba x) w).mono ?_
    rintro e w' ⟨rfl, rfl⟩
    exact ⟨rfl, gb_refl _ _⟩
  · have hcells : ∀ j, j < names.length → w.cell? ⟨g, 0 + j, none⟩ = some (.string (ba (names.getD j []))) := by
      intro j hj
      rw [Nat.zero_add, blk_c hg, ← Array.getElem?_toList]
      have h1 : (strs names)[j]? = some (.string (ba (names.getD j []))) := by
        simp [strs, List.getD_eq_getElem?_getD, List.getElem?_eq_getElem hj]
      rw [← htk, List.getElem?_take] at h1
      split at h1
      · exact h1
      · cases h1
    refine (Tryz.slices_BinarySearch_string g 0 names.length cap (fun t => ba (names.getD t [])) (ba x) w (by omega) hcells).mono ?_
    rintro e w' ⟨rfl, q, rfl⟩
    refine ⟨?_, gb_drewN (gb_refl w none) q⟩
    have e1 : Lib.bsGo (fun t => Op.bytesLess (ba (names.getD t [])).toList (ba x).toList) names.length 0 names.length = (Js.search names x).1 := by
      simp only [ByteArray.toList_eq, ba_list]
      rw [← bs_eq]; rfl
    rw [e1]
    refine congrArg (fun b => Ending.returned (.tuple #[.int .i64 ((Js.search names x).1 : Nat), .bool b])) ?_
    show _ = (decide ((Js.search names x).1 < names.length) && names.getD (Js.search names x).1 [] == x)
    rw [Bool.eq_iff_iff, decide_eq_true_eq, Bool.and_eq_true, decide_eq_true_eq, beq_iff_eq, ba_inj]

theorem strLoop_steps : ∀ (f : Nat) (out : Js.Bs) (st : Js.St), Steps st (Js.strLoop f out st).2
  | 0, _, st => Steps.refl st
  | f + 1, out, st => by
    by_cases he : st.e = 0
    · cases h2 : (Js.plain st.s).2
      · rw [strLoop_bad he h2]; exact fail_steps _ _
      · have hd : Steps st { st with s := st.s.drop ((Js.plain st.s).1 + 1) } := ⟨rfl, fun h => h, by simp⟩
        by_cases h3 : st.s.getD (Js.plain st.s).1 0 = 34
        · rw [strLoop_quote he h2 h3]; exact hd
        · rw [strLoop_on he h2 h3 _ rfl]
          exact hd.trans (Steps.trans (esc_steps _) (strLoop_steps f _ _))
    · rw [strLoop_end he]; exact Steps.refl st
where
  four_steps (st : Js.St) : Steps st (Js.fourS st).2 := by
    unfold Js.fourS
    split
    · exact ⟨rfl, fun h => h, by simp⟩
    · exact fail_steps _ _
  sign_steps (st : Js.St) : Steps st (Js.signS st).2 := by
    unfold Js.signS
    simp only
    split
    · exact four_steps st
    · split
      · exact (four_steps st).trans (fail_steps _ _)
      · have h2 := four_steps { (Js.fourS st).2 with s := (Js.fourS st).2.s.drop 2 }
        have h3 : Steps (Js.fourS st).2 { (Js.fourS st).2 with s := (Js.fourS st).2.s.drop 2 } := ⟨rfl, fun h => h, by simp⟩
        refine (four_steps st).trans (h3.trans (h2.trans ?_))
        split
        · exact fail_steps _ _
        · exact Steps.refl _
  esc_steps (st : Js.St) : Steps st (Js.escapeS st).2 := by
    unfold Js.escapeS
    split
    · exact fail_steps _ _
    · rename_i c r h
      have hd : Steps st { st with s := r } := ⟨rfl, fun h => h, by rw [h]; simp⟩
      simp only
      split
      · exact hd.trans (sign_steps _)
      · split
        · exact hd
        · exact hd.trans (fail_steps _ _)
theorem str_steps (st : Js.St) : Steps st (Js.strS st).2 := by
  have hd : Steps st { st with s := st.s.drop 1 } := ⟨rfl, fun h => h, by simp⟩
  exact hd.trans (strLoop_steps _ _ _)
theorem obj_steps {f : Js.St → Js.V × Js.St} (hf : ∀ st, Steps st (f st).2) (a : List Js.V × List Js.Bs) (st : Js.St) : Steps st (Js.objThing f a st).2 := by
  unfold Js.objThing
  simp only
  split
  · exact (skip_steps st).trans (fail_steps _ _)
  · refine (skip_steps st).trans ((str_steps _).trans (Steps.trans ?_ ((need_steps _ _).trans (hf _))))
    split
    · exact fail_steps _ _
    · exact Steps.refl _

/-- A member more: both slices have been made anew (w9: the names'; w10: the items'), both headers have been stored. -/
theorem VI.member {wb wr w8 w9 w10 W' : World} {r bx b3 base i : Nat} {items : List Js.V} {names : List Js.Bs} {x : Js.Bs} {si sn si' sn' : Value} {xs : List Value} {v : Js.V} {vi vn : Value} {lo : Nat}
    (h : VI wb r bx b3 base 5 items names wr si sn xs) (hbase : base ≤ wr.heap.size) (hlo : wr.heap.size ≤ lo) (hr : r < base) (hbx : bx < base) (hb3 : b3 < base) (h1 : bx ≠ r) (h2 : b3 ≠ r) (h12 : bx ≠ b3) (hwb : wb.heap.size ≤ b3) (hwbb : wb.heap.size ≤ base)
    (hin : items.length = names.length) (hi : i ≤ items.length)
    (g2 : wr.grownBy w8 (some r)) (hv : RdV (fun k => lo ≤ k) w8 v vi vn)
    (g8 : w8.grownBy w9 sn.ownBlock) (o9 : w9.ownsRow base 9 1 sn' (names.length + 1) (strs (Js.insertAt names i x))) (at9 : sn'.ownBlock = sn.ownBlock ∨ ∃ k, sn'.ownBlock = some k ∧ w8.heap.size ≤ k)
    (g9 : w9.grownBy w10 si.ownBlock) (o10 : w10.ownsRow base 29 8 si' (items.length + 1) (xs.take (i * 8) ++ vcs v vi vn ++ xs.drop (i * 8))) (at10 : si'.ownBlock = si.ownBlock ∨ ∃ k, si'.ownBlock = some k ∧ w9.heap.size ≤ k)
    (hvar : W'.heap[b3]? = some (.cells #[.int .i64 5, .bool false, .bool false, .string ⟨#[]⟩, .int .i64 0, .string ⟨#[]⟩, si', sn'] 29 (0, 0)))
    (hkeep : ∀ k, k ≠ b3 → W'.heap[k]? = w10.heap[k]?) (hos : W'.os = w10.os) (htp : W'.tape = w10.tape) (hou : W'.output = w10.output) (hsz : w10.heap.size ≤ W'.heap.size) :
    VI wb r bx b3 base 5 (Js.insertAt items i v) (Js.insertAt names i x) W' si' sn' (xs.take (i * 8) ++ vcs v vi vn ++ xs.drop (i * 8)) := by
  obtain ⟨a, b, c, d, e, f⟩ := h
  have hbl := blk_lt' b
  have hcl := blk_lt' c
  have d3 : si.ownBlock ≠ some b3 := fun h => by have := (d.lt b3 h).1; omega
  have e3 : sn.ownBlock ≠ some b3 := fun h => by have := (e.lt b3 h).1; omega
  -- a block of w8's that is none of the rows stands in W' as it stood
  have keep8 : ∀ k, k < w8.heap.size → si.ownBlock ≠ some k → sn.ownBlock ≠ some k → k ≠ b3 → W'.heap[k]? = w8.heap[k]? := by
    intro k hk h1 h2 h3
    rw [hkeep k h3, g9.block k (Nat.lt_of_lt_of_le hk g8.size) (fun h => h1 h.symm), g8.block k hk (fun h => h2 h.symm)]
  have keep : ∀ k, k < wr.heap.size → k ≠ r → si.ownBlock ≠ some k → sn.ownBlock ≠ some k → k ≠ b3 → W'.heap[k]? = wr.heap[k]? := by
    intro k hk hkr h1 h2 h3
    rw [keep8 k (Nat.lt_of_lt_of_le hk g2.size) h1 h2 h3, g2.block k hk (by simpa using hkr)]
  have own_lt : ∀ k, k < base → si.ownBlock ≠ some k ∧ sn.ownBlock ≠ some k := fun k hk =>
    ⟨fun h => by have := (d.lt k h).1; omega, fun h => by have := (e.lt k h).1; omega⟩
  have s89 := g8.size
  have s90 := g9.size
  have ns : ∀ k, k < w8.heap.size → si.ownBlock ≠ some k → si'.ownBlock ≠ some k := by
    intro k hk hs h
    rcases at10 with h10 | ⟨k', h10, hk'⟩
    · exact hs (h10 ▸ h)
    · rw [h10] at h; cases h; omega
  have nn : ∀ k, k < w8.heap.size → sn.ownBlock ≠ some k → sn'.ownBlock ≠ some k := by
    intro k hk hs h
    rcases at9 with h9 | ⟨k', h9, hk'⟩
    · exact hs (h9 ▸ h)
    · rw [h9] at h; cases h; omega
  refine ⟨?_, ?_, hvar, ?_, ?_, ?_⟩
  · refine ⟨hos.trans (g9.os.trans (g8.os.trans (g2.os.trans a.os))), htp.trans (g9.tape.trans (g8.tape.trans (g2.tape.trans a.tape))), hou.trans (g9.output.trans (g8.output.trans (g2.output.trans a.output))), Nat.le_trans a.size (Nat.le_trans g2.size (Nat.le_trans s89 (Nat.le_trans s90 hsz))), fun k hk hne => ?_⟩
    have hkr : k ≠ r := fun e => hne (by rw [e])
    have ho := own_lt k (by omega)
    rw [keep k (Nat.lt_of_lt_of_le hk a.size) hkr ho.1 ho.2 (by omega)]
    exact a.block k hk hne
  · have ho := own_lt bx hbx
    exact (keep bx hbl h1 ho.1 ho.2 h12).trans b
  · have hl : (Js.insertAt items i v).length = items.length + 1 := by simp [Js.insertAt]; omega
    rw [hl]
    refine o10.kept (row := some b3) ⟨hos, htp, hou, hsz, fun k hk hne => hkeep k (fun e => hne (by rw [e]))⟩ (.inr (fun h => ?_))
    have := (o10.lt b3 h).1; omega
  · have hl : (Js.insertAt names i x).length = names.length + 1 := by simp [Js.insertAt]; omega
    rw [hl]
    refine (o9.kept g9 ?_).kept (row := some b3) ⟨hos, htp, hou, hsz, fun k hk hne => hkeep k (fun e => hne (by rw [e]))⟩ (.inr (fun h => ?_))
    · cases ho : si.ownBlock with
      | none =>
        cases hs : sn'.ownBlock with
        | none => exact .inl rfl
        | some k => exact .inr (by simp)
      | some k =>
        refine .inr (fun h => ?_)
        have hkl := (d.lt k ho).2
        rcases at9 with h9 | ⟨k', h9, hk'⟩
        · exact own_ne d e k ho (h9 ▸ h)
        · rw [h9] at h
          cases h
          have := g2.size
          omega
    · have := (o9.lt b3 h).1; omega
  · have hS : wr.heap.size ≤ W'.heap.size := Nat.le_trans g2.size (Nat.le_trans s89 (Nat.le_trans s90 hsz))
    have hF : ∀ k, Fr base si sn k → k < wr.heap.size → Fr base si' sn' k := fun k ⟨k1, k2, k3⟩ hk => by
      have := g2.size
      exact ⟨k1, ns k (by omega) k2, nn k (by omega) k3⟩
    have hM : ∀ k, Fr base si sn k → k < wr.heap.size → W'.heap[k]? = wr.heap[k]? := fun k ⟨k1, k2, k3⟩ hk => keep k hk (by omega) k2 k3 (by omega)
    have hold := Els.move hF hS hM items xs f
    have htd := Els_take items xs i hold
    have hnew : RdV (Fr base si' sn') W' v vi vn := by
      refine RdV.move (F := fun k => lo ≤ k) ?_ (Nat.le_trans s89 (Nat.le_trans s90 hsz)) ?_ v vi vn hv
      · intro k hk hk2
        have hk' : lo ≤ k := hk
        refine ⟨by omega, ns k hk2 (fun h => ?_), nn k hk2 (fun h => ?_)⟩
        · have := (d.lt k h).2; omega
        · have := (e.lt k h).2; omega
      · intro k hk hk2
        have hk' : lo ≤ k := hk
        refine keep8 k hk2 (fun h => ?_) (fun h => ?_) (by omega)
        · have := (d.lt k h).2; omega
        · have := (e.lt k h).2; omega
    have := Els_append (items.take i ++ [v]) (items.drop i) _ _ (Els_append _ _ _ _ htd.1 (Els_single hnew)) htd.2
    rw [show Js.insertAt items i v = items.take i ++ [v] ++ items.drop i by simp [Js.insertAt]]
    exact this
end Go.Proofs.YtocjlbpehfpdoaaGreatDoor
