/- package path: All, of an object of one member; package filter: answer, Match. -/
import Derived.Test.YtocjlbpehfpdoaaGreatDoorK23
set_option linter.unusedVariables false
set_option linter.unusedSimpArgs false
namespace Go.Proofs.YtocjlbpehfpdoaaGreatDoor
open Go.RowKit

/-- A place, and whether it is one, handed back; memory has grown at most. -/
def IBOut (w : World) (i : Int) (b : Bool) (e : Ending) (w' : World) : Prop := e = .returned (.tuple #[.int .i64 i, .bool b]) ∧ w.grownBy w' none
theorem names_searchN (F : Nat → Prop) (names : List Js.Bs) (x : Js.Bs) (sn : Value) (w : World) (h : SlN F w names sn) (hn : names.length ≤ 100000) :
    Calls Tryz.prog 177 #[sn, .string (ba x)] w (IBOut w ((Js.search names x).1 : Nat) (Js.search names x).2) := by
  obtain ⟨A, c, rfl, _, _, h4⟩ := h
  by_cases h0 : names = []
  · subst h0
    refine (Tryz.slices_BinarySearch_string_empty A c (ba x) w).mono ?_
    rintro e w' ⟨rfl, rfl⟩
    exact ⟨rfl, gb_refl _ _⟩
  · rcases h4 with h4 | ⟨b, o, rfl, hb, hf, hc⟩
    · exact absurd h4 h0
    · have hcells : ∀ j, j < names.length → w.cell? ⟨b, o + j, none⟩ = some (.string (ba (names.getD j []))) := by
        intro j hj
        refine hc j _ ?_
        simp [strs, List.getD_eq_getElem?_getD, List.getElem?_eq_getElem hj]
      refine (Tryz.slices_BinarySearch_string b o names.length c (fun t => ba (names.getD t [])) (ba x) w (by omega) hcells).mono ?_
      rintro e w' ⟨rfl, q, rfl⟩
      refine ⟨?_, gb_drewN (gb_refl w none) q⟩
      have e1 : Lib.bsGo (fun t => Op.bytesLess (ba (names.getD t [])).toList (ba x).toList) names.length 0 names.length = (Js.search names x).1 := by
        simp only [ByteArray.toList_eq, ba_list]
        rw [← bs_eq]; rfl
      rw [e1]
      refine congrArg (fun b => Ending.returned (.tuple #[.int .i64 ((Js.search names x).1 : Nat), .bool b])) ?_
      show _ = (decide ((Js.search names x).1 < names.length) && names.getD (Js.search names x).1 [] == x)
      rw [Bool.eq_iff_iff, decide_eq_true_eq, Bool.and_eq_true, decide_eq_true_eq, beq_iff_eq, ba_inj]
theorem search_self (n : Js.Bs) : Js.search [n] n = (0, true) := by
  have h := Js.less_irrefl n
  unfold Js.search
  simp only [List.length_cons, List.length_nil, Nat.zero_add]
  have : Js.bs (fun t => Op.bytesLess ([n].getD t []) n) 1 0 1 = 0 := by
    unfold Js.bs
    simp [h]
    rfl
  rw [this]
  simp

section
variable (ib nb : Nat) (n : Js.Bs) (w : World)
set_option maxRecDepth 100000 in
set_option maxHeartbeats 8000000 in
theorem find_doc (hn : w.heap[nb]? = some (.cells #[.string (ba n)] 9 (0, 0))) : Calls Tryz.prog 128 #[.agg #[.int .i64 5, .bool false, .bool false, .string ⟨#[]⟩, .int .i64 0, .string ⟨#[]⟩, .slice (some ⟨ib, 0, none⟩) 1 1, .slice (some ⟨nb, 0, none⟩) 1 1], .string (ba n)] w (IBOut w 0 true) := by
  have hs : SlN (fun _ => True) w [n] (.slice (some ⟨nb, 0, none⟩) 1 1) := ⟨_, 1, rfl, Nat.le_refl _, by unfold maxLen; omega, .inr ⟨nb, 0, rfl, blk_lt' hn, trivial, fun j u hu => by
    rw [Nat.zero_add, blk_c hn, ← Array.getElem?_toList]; exact hu⟩⟩
  have HC := Lib.hid (fun W (hg : w.grownBy W none) => show Calls Tryz.prog 177 #[.slice (some ⟨nb, 0, none⟩) 1 1, .string (ba n)] W (IBOut W 0 true) by
    have := names_searchN (fun _ => True) [n] n _ W (hs.gb hg (fun _ _ => by simp)) (by simp)
    rw [search_self] at this
    exact this)
  have HAG := Lib.hid (World.grownBy_alloc w (.cells #[.int .i64 5, .bool false, .bool false, .string ⟨#[]⟩, .int .i64 0, .string ⟨#[]⟩, .slice (some ⟨ib, 0, none⟩) 1 1, .slice (some ⟨nb, 0, none⟩) 1 1] 29 (0, 0)) none)
  clear hs hn
  go_enter Tryz.func128, Tryz.ntmps128
  go_wp2_with fail
  refine (HC.out _ HAG.out).mono ?_
  rintro e w1 ⟨rfl, g1⟩
  have HG := Lib.hid (gb_trans HAG.out g1)
  clear g1
  go_wp2_with fail
  go_ret2
  exact ⟨rfl, HG.out⟩
set_option maxRecDepth 100000 in
set_option maxHeartbeats 8000000 in
theorem pfind_doc (hn : w.heap[nb]? = some (.cells #[.string (ba n)] 9 (0, 0))) : Calls Tryz.prog 56 #[.agg #[.int .i64 5, .bool false, .bool false, .string ⟨#[]⟩, .int .i64 0, .string ⟨#[]⟩, .slice (some ⟨ib, 0, none⟩) 1 1, .slice (some ⟨nb, 0, none⟩) 1 1], .string (ba n)] w (IBOut w 0 true) := by
  have HC := Lib.hid (fun W (hg : w.grownBy W none) => find_doc ib nb n W (gb_blk hg hn (by simp)))
  have HAG := Lib.hid (World.grownBy_alloc w (.cells #[.int .i64 5, .bool false, .bool false, .string ⟨#[]⟩, .int .i64 0, .string ⟨#[]⟩, .slice (some ⟨ib, 0, none⟩) 1 1, .slice (some ⟨nb, 0, none⟩) 1 1] 29 (0, 0)) none)
  clear hn
  go_enter Tryz.func56, Tryz.ntmps56
  go_wp2_with fail
  refine (HC.out _ HAG.out).mono ?_
  rintro e w1 ⟨rfl, g1⟩
  have HG := Lib.hid (gb_trans HAG.out g1)
  clear g1
  go_wp2_with fail
  go_ret2
  exact ⟨rfl, HG.out⟩
end

/-- One value handed back, in a slice of its own. -/
def OneOut (w : World) (cs : Array Value) (e : Ending) (w' : World) : Prop := ∃ b, e = .returned (.slice (some ⟨b, 0, none⟩) 1 1) ∧ w'.heap[b]? = some (.cells cs 29 (0, 0)) ∧ w.grownBy w' none
section
variable (k1 : Int) (is1 dn1 : Bool) (dig1 t1 : Js.Bs) (ex1 : Int) (vA1 uA1 : Option Addr) (vl1 vc1 ul1 uc1 : Nat) (w : World)
set_option maxRecDepth 100000 in
set_option maxHeartbeats 8000000 in
theorem all_leaf (A : Option Addr) (c : Nat) (hk : k1 ≠ 4) : Calls Tryz.prog 22 #[.agg #[.int .i64 k1, .bool is1, .bool dn1, .string (ba dig1), .int .i64 ex1, .string (ba t1), .slice vA1 vl1 vc1, .slice uA1 ul1 uc1], .slice A 0 c] w (OneOut w #[.int .i64 k1, .bool is1, .bool dn1, .string (ba dig1), .int .i64 ex1, .string (ba t1), .slice vA1 vl1 vc1, .slice uA1 ul1 uc1]) := by
  have hk4 : (k1 == 4) = false := by simpa using hk
  have hb : ((w.alloc (.cells #[.int .i64 k1, .bool is1, .bool dn1, .string (ba dig1), .int .i64 ex1, .string (ba t1), .slice vA1 vl1 vc1, .slice uA1 ul1 uc1] 29 (0, 0))).alloc (.cells #[.int .i64 k1, .bool is1, .bool dn1, .string (ba dig1), .int .i64 ex1, .string (ba t1), .slice vA1 vl1 vc1, .slice uA1 ul1 uc1] 29 (0, 0))).heap[w.heap.size + 1]? = some (.cells #[.int .i64 k1, .bool is1, .bool dn1, .string (ba dig1), .int .i64 ex1, .string (ba t1), .slice vA1 vl1 vc1, .slice uA1 ul1 uc1] 29 (0, 0)) := by have := blk_new (w.alloc (.cells #[.int .i64 k1, .bool is1, .bool dn1, .string (ba dig1), .int .i64 ex1, .string (ba t1), .slice vA1 vl1 vc1, .slice uA1 ul1 uc1] 29 (0, 0))) (.cells #[.int .i64 k1, .bool is1, .bool dn1, .string (ba dig1), .int .i64 ex1, .string (ba t1), .slice vA1 vl1 vc1, .slice uA1 ul1 uc1] 29 (0, 0)); simpa using this
  have HB := Lib.hid hb
  have HG := Lib.hid (gb_alloc (World.grownBy_alloc w (.cells #[.int .i64 k1, .bool is1, .bool dn1, .string (ba dig1), .int .i64 ex1, .string (ba t1), .slice vA1 vl1 vc1, .slice uA1 ul1 uc1] 29 (0, 0)) none) (.cells #[.int .i64 k1, .bool is1, .bool dn1, .string (ba dig1), .int .i64 ex1, .string (ba t1), .slice vA1 vl1 vc1, .slice uA1 ul1 uc1] 29 (0, 0)))
  clear hk hb
  go_enter Tryz.func22, Tryz.ntmps22
  go_wp2_with fail
  go_ret
  exact ⟨_, rfl, HB.out, HG.out⟩
/-- What stands in memory of a document of one member, and of a way of one step. -/
def DocAt (w : World) (ib nb sb so : Nat) (cs : Array Value) (n : Js.Bs) (W : World) : Prop := W.heap[ib]? = some (.cells cs 29 (0, 0)) ∧ W.heap[nb]? = some (.cells #[.string (ba n)] 9 (0, 0)) ∧ W.cell? ⟨sb, so, none⟩ = some (.string (ba n)) ∧ sb < w.heap.size ∧ w.grownBy W none
theorem DocAt.gb {w W W' : World} {ib nb sb so : Nat} {cs : Array Value} {n : Js.Bs} (h : DocAt w ib nb sb so cs n W) (hg : W.grownBy W' none) : DocAt w ib nb sb so cs n W' := by
  obtain ⟨h1, h2, h3, h4, h5⟩ := h
  exact ⟨gb_blk hg h1 (by simp), gb_blk hg h2 (by simp), (World.cell?_of_block (a := ⟨sb, so, none⟩) (hg.block sb (Nat.lt_of_lt_of_le h4 h5.size) (by simp))).trans h3, h4, gb_trans h5 hg⟩
set_option maxRecDepth 100000 in
set_option maxHeartbeats 8000000 in
theorem all_doc (ib nb sb so sc : Nat) (n : Js.Bs) (hd : DocAt w ib nb sb so #[.int .i64 k1, .bool is1, .bool dn1, .string (ba dig1), .int .i64 ex1, .string (ba t1), .slice vA1 vl1 vc1, .slice uA1 ul1 uc1] n w) (hsc : 1 ≤ sc) (hk : k1 ≠ 4) : Calls Tryz.prog 22 #[.agg #[.int .i64 5, .bool false, .bool false, .string ⟨#[]⟩, .int .i64 0, .string ⟨#[]⟩, .slice (some ⟨ib, 0, none⟩) 1 1, .slice (some ⟨nb, 0, none⟩) 1 1], .slice (some ⟨sb, so, none⟩) 1 sc] w (OneOut w #[.int .i64 k1, .bool is1, .bool dn1, .string (ba dig1), .int .i64 ex1, .string (ba t1), .slice vA1 vl1 vc1, .slice uA1 ul1 uc1]) := by
  have HF := Lib.hid (fun W (h : DocAt w ib nb sb so #[.int .i64 k1, .bool is1, .bool dn1, .string (ba dig1), .int .i64 ex1, .string (ba t1), .slice vA1 vl1 vc1, .slice uA1 ul1 uc1] n W) => pfind_doc ib nb n W h.2.1)
  have HL := Lib.hid (fun W A c => all_leaf k1 is1 dn1 dig1 t1 ex1 vA1 uA1 vl1 vc1 ul1 uc1 W A c hk)
  have HD := Lib.hid (And.intro (hd.gb (World.grownBy_alloc w (.cells #[.int .i64 5, .bool false, .bool false, .string ⟨#[]⟩, .int .i64 0, .string ⟨#[]⟩, .slice (some ⟨ib, 0, none⟩) 1 1, .slice (some ⟨nb, 0, none⟩) 1 1] 29 (0, 0)) none)) (blk_new w (.cells #[.int .i64 5, .bool false, .bool false, .string ⟨#[]⟩, .int .i64 0, .string ⟨#[]⟩, .slice (some ⟨ib, 0, none⟩) 1 1, .slice (some ⟨nb, 0, none⟩) 1 1] 29 (0, 0))))
  have hz1 : (1 : Int) ≤ (sc : Int) := by omega
  have hsb : sb ≠ w.heap.size := by have := hd.2.2.2.1; omega
  clear hd hk
  by_cases hs1 : sc = 1
  all_goals
    first
      | subst hs1
      | have hs2 : (1 : Nat) < sc := by omega
    go_enter Tryz.func22, Tryz.ntmps22
    go_wp2_with fail
    obtain ⟨w0, hw0⟩ : ∃ w0, w.alloc (.cells #[.int .i64 5, .bool false, .bool false, .string ⟨#[]⟩, .int .i64 0, .string ⟨#[]⟩, .slice (some ⟨ib, 0, none⟩) 1 1, .slice (some ⟨nb, 0, none⟩) 1 1] 29 (0, 0)) = w0 := ⟨_, rfl⟩
    rw [hw0] at HD ⊢
    clear hw0
    have hHeld : DocAt w ib nb sb so #[.int .i64 k1, .bool is1, .bool dn1, .string (ba dig1), .int .i64 ex1, .string (ba t1), .slice vA1 vl1 vc1, .slice uA1 ul1 uc1] n w0.drew ∧ w0.drew.heap[w.heap.size]? = some (.cells #[.int .i64 5, .bool false, .bool false, .string ⟨#[]⟩, .int .i64 0, .string ⟨#[]⟩, .slice (some ⟨ib, 0, none⟩) 1 1, .slice (some ⟨nb, 0, none⟩) 1 1] 29 (0, 0)) := ⟨HD.out.1.gb (gb_drew (gb_refl _ _)), HD.out.2⟩
    refine wp_region_T 9 (fun W => DocAt w ib nb sb so #[.int .i64 k1, .bool is1, .bool dn1, .string (ba dig1), .int .i64 ex1, .string (ba t1), .slice vA1 vl1 vc1, .slice uA1 ul1 uc1] n W ∧ W.heap[w.heap.size]? = some (.cells #[.int .i64 5, .bool false, .bool false, .string ⟨#[]⟩, .int .i64 0, .string ⟨#[]⟩, .slice (some ⟨ib, 0, none⟩) 1 1, .slice (some ⟨nb, 0, none⟩) 1 1] 29 (0, 0))) (by kernel_rfl) hHeld ?_
    refine T_take (i := 0) (v := ?_) rfl (by kernel_rfl) (fun _ _ _ h => h) (Or.inl ⟨by rfl, ?_⟩) hHeld ?_
    rotate_left
    ·
      intro W hW
      have s0 := hW.1.2.2.1
      obtain ⟨⟨x0, x1, x2, x3, x4, x5, x6, x7⟩, _⟩ := blk8 hW.1.1
      obtain ⟨⟨d0, d1, d2, d3, d4, d5, d6, d7⟩, _⟩ := blk8 hW.2
      clear hW
      go_simp
      all_goals with_reducible rfl
    try simp only [Act.put, List.setIfInBounds_toArray, List.set_cons_zero, List.set_cons_succ]
    refine T_take (i := 1) (v := ?_) rfl (by kernel_rfl) (fun _ _ _ h => h) (Or.inl ⟨by rfl, ?_⟩) hHeld ?_
    rotate_left
    ·
      intro W hW
      have s0 := hW.1.2.2.1
      obtain ⟨⟨x0, x1, x2, x3, x4, x5, x6, x7⟩, _⟩ := blk8 hW.1.1
      obtain ⟨⟨d0, d1, d2, d3, d4, d5, d6, d7⟩, _⟩ := blk8 hW.2
      clear hW
      go_simp
      all_goals with_reducible rfl
    try simp only [Act.put, List.setIfInBounds_toArray, List.set_cons_zero, List.set_cons_succ]
    refine T_take (i := 2) (v := ?_) rfl (by kernel_rfl) (fun _ _ _ h => h) (Or.inl ⟨by rfl, ?_⟩) hHeld ?_
    rotate_left
    ·
      intro W hW
      have s0 := hW.1.2.2.1
      obtain ⟨⟨x0, x1, x2, x3, x4, x5, x6, x7⟩, _⟩ := blk8 hW.1.1
      obtain ⟨⟨d0, d1, d2, d3, d4, d5, d6, d7⟩, _⟩ := blk8 hW.2
      clear hW
      go_simp
      all_goals with_reducible rfl
    try simp only [Act.put, List.setIfInBounds_toArray, List.set_cons_zero, List.set_cons_succ]
    refine T_take (i := 3) (v := ?_) rfl (by kernel_rfl) (fun _ _ _ h => h) (Or.inl ⟨by rfl, ?_⟩) hHeld ?_
    rotate_left
    ·
      intro W hW
      have s0 := hW.1.2.2.1
      obtain ⟨⟨x0, x1, x2, x3, x4, x5, x6, x7⟩, _⟩ := blk8 hW.1.1
      obtain ⟨⟨d0, d1, d2, d3, d4, d5, d6, d7⟩, _⟩ := blk8 hW.2
      clear hW
      go_simp
      all_goals with_reducible rfl
    try simp only [Act.put, List.setIfInBounds_toArray, List.set_cons_zero, List.set_cons_succ]
    refine wpAnyT_ready (rs := [4]) (by kernel_rfl) (by simp) ?_
    refine T_cons rfl (fun K hK => ?_) AllReadyT.nil
    go_simp
    go_at_call 56
    refine (HF.out _ hHeld.1).mono ?_
    rintro e w1 ⟨rfl, g1⟩
    have hHeld1 : DocAt w ib nb sb so #[.int .i64 k1, .bool is1, .bool dn1, .string (ba dig1), .int .i64 ex1, .string (ba t1), .slice vA1 vl1 vc1, .slice uA1 ul1 uc1] n w1 ∧ w1.heap[w.heap.size]? = some (.cells #[.int .i64 5, .bool false, .bool false, .string ⟨#[]⟩, .int .i64 0, .string ⟨#[]⟩, .slice (some ⟨ib, 0, none⟩) 1 1, .slice (some ⟨nb, 0, none⟩) 1 1] 29 (0, 0)) := ⟨hHeld.1.gb g1, gb_blk g1 hHeld.2 (by simp)⟩
    clear g1
    try go_wp2_with fail
    refine hK.out _ _ (fun _ => hHeld1) (fun _ => ?_)
    clear hK K
    try simp only [Act.put, List.setIfInBounds_toArray, List.set_cons_zero, List.set_cons_succ]
    refine T_take (i := 5) (v := ?_) rfl (by kernel_rfl) (fun _ _ _ h => h) (Or.inl ⟨by rfl, ?_⟩) hHeld1 ?_
    rotate_left
    ·
      intro W hW
      clear hW
      go_simp
      all_goals with_reducible rfl
    try simp only [Act.put, List.setIfInBounds_toArray, List.set_cons_zero, List.set_cons_succ]
    refine T_take (i := 6) (v := ?_) rfl (by kernel_rfl) (fun _ _ _ h => h) (Or.inl ⟨by rfl, ?_⟩) hHeld1 ?_
    rotate_left
    ·
      intro W hW
      clear hW
      go_simp
      all_goals with_reducible rfl
    try simp only [Act.put, List.setIfInBounds_toArray, List.set_cons_zero, List.set_cons_succ]
    refine T_take (i := 7) (v := ?_) rfl (by kernel_rfl) (fun _ _ _ h => h) (Or.inl ⟨by rfl, ?_⟩) hHeld1 ?_
    rotate_left
    ·
      intro W hW
      clear hW
      go_simp
      all_goals with_reducible rfl
    try simp only [Act.put, List.setIfInBounds_toArray, List.set_cons_zero, List.set_cons_succ]
    refine T_take (i := 8) (v := ?_) rfl (by kernel_rfl) (fun _ _ _ h => h) (Or.inl ⟨by rfl, ?_⟩) hHeld1 ?_
    rotate_left
    ·
      intro W hW
      clear hW
      go_simp
      all_goals with_reducible rfl
    try simp only [Act.put, List.setIfInBounds_toArray, List.set_cons_zero, List.set_cons_succ]
    refine T_tail 9 rfl rfl (by omega) (by kernel_rfl) ?_
    go_wp2_with fail
    have hHeld2 : DocAt w ib nb sb so #[.int .i64 k1, .bool is1, .bool dn1, .string (ba dig1), .int .i64 ex1, .string (ba t1), .slice vA1 vl1 vc1, .slice uA1 ul1 uc1] n w1.drew ∧ w1.drew.heap[w.heap.size]? = some (.cells #[.int .i64 5, .bool false, .bool false, .string ⟨#[]⟩, .int .i64 0, .string ⟨#[]⟩, .slice (some ⟨ib, 0, none⟩) 1 1, .slice (some ⟨nb, 0, none⟩) 1 1] 29 (0, 0)) := ⟨hHeld1.1.gb (gb_drew (gb_refl _ _)), hHeld1.2⟩
    refine wp_region_T 8 (fun W => DocAt w ib nb sb so #[.int .i64 k1, .bool is1, .bool dn1, .string (ba dig1), .int .i64 ex1, .string (ba t1), .slice vA1 vl1 vc1, .slice uA1 ul1 uc1] n W ∧ W.heap[w.heap.size]? = some (.cells #[.int .i64 5, .bool false, .bool false, .string ⟨#[]⟩, .int .i64 0, .string ⟨#[]⟩, .slice (some ⟨ib, 0, none⟩) 1 1, .slice (some ⟨nb, 0, none⟩) 1 1] 29 (0, 0))) (by kernel_rfl) hHeld2 ?_
    refine T_take (i := 0) (v := ?_) rfl (by kernel_rfl) (fun _ _ _ h => h) (Or.inl ⟨by rfl, ?_⟩) hHeld2 ?_
    rotate_left
    ·
      intro W hW
      have s0 := hW.1.2.2.1
      obtain ⟨⟨x0, x1, x2, x3, x4, x5, x6, x7⟩, _⟩ := blk8 hW.1.1
      obtain ⟨⟨d0, d1, d2, d3, d4, d5, d6, d7⟩, _⟩ := blk8 hW.2
      clear hW
      go_simp
      all_goals with_reducible rfl
    try simp only [Act.put, List.setIfInBounds_toArray, List.set_cons_zero, List.set_cons_succ]
    refine T_take (i := 1) (v := ?_) rfl (by kernel_rfl) (fun _ _ _ h => h) (Or.inl ⟨by rfl, ?_⟩) hHeld2 ?_
    rotate_left
    ·
      intro W hW
      have s0 := hW.1.2.2.1
      obtain ⟨⟨x0, x1, x2, x3, x4, x5, x6, x7⟩, _⟩ := blk8 hW.1.1
      obtain ⟨⟨d0, d1, d2, d3, d4, d5, d6, d7⟩, _⟩ := blk8 hW.2
      clear hW
      go_simp
      all_goals with_reducible rfl
    try simp only [Act.put, List.setIfInBounds_toArray, List.set_cons_zero, List.set_cons_succ]
    refine T_take (i := 2) (v := ?_) rfl (by kernel_rfl) (fun _ _ _ h => h) (Or.inl ⟨by rfl, ?_⟩) hHeld2 ?_
    rotate_left
    ·
      intro W hW
      have s0 := hW.1.2.2.1
      obtain ⟨⟨x0, x1, x2, x3, x4, x5, x6, x7⟩, _⟩ := blk8 hW.1.1
      obtain ⟨⟨d0, d1, d2, d3, d4, d5, d6, d7⟩, _⟩ := blk8 hW.2
      clear hW
      go_simp
      all_goals with_reducible rfl
    try simp only [Act.put, List.setIfInBounds_toArray, List.set_cons_zero, List.set_cons_succ]
    refine T_take (i := 3) (v := ?_) rfl (by kernel_rfl) (fun _ _ _ h => h) (Or.inl ⟨by rfl, ?_⟩) hHeld2 ?_
    rotate_left
    ·
      intro W hW
      have s0 := hW.1.2.2.1
      obtain ⟨⟨x0, x1, x2, x3, x4, x5, x6, x7⟩, _⟩ := blk8 hW.1.1
      obtain ⟨⟨d0, d1, d2, d3, d4, d5, d6, d7⟩, _⟩ := blk8 hW.2
      clear hW
      go_simp
      all_goals with_reducible rfl
    try simp only [Act.put, List.setIfInBounds_toArray, List.set_cons_zero, List.set_cons_succ]
    refine T_take (i := 4) (v := ?_) rfl (by kernel_rfl) (fun _ _ _ h => h) (Or.inl ⟨by rfl, ?_⟩) hHeld2 ?_
    rotate_left
    ·
      intro W hW
      have s0 := hW.1.2.2.1
      obtain ⟨⟨x0, x1, x2, x3, x4, x5, x6, x7⟩, _⟩ := blk8 hW.1.1
      obtain ⟨⟨d0, d1, d2, d3, d4, d5, d6, d7⟩, _⟩ := blk8 hW.2
      clear hW
      go_simp
      all_goals with_reducible rfl
    try simp only [Act.put, List.setIfInBounds_toArray, List.set_cons_zero, List.set_cons_succ]
    refine T_take (i := 5) (v := ?_) rfl (by kernel_rfl) (fun _ _ _ h => h) (Or.inl ⟨by rfl, ?_⟩) hHeld2 ?_
    rotate_left
    ·
      intro W hW
      have s0 := hW.1.2.2.1
      obtain ⟨⟨x0, x1, x2, x3, x4, x5, x6, x7⟩, _⟩ := blk8 hW.1.1
      obtain ⟨⟨d0, d1, d2, d3, d4, d5, d6, d7⟩, _⟩ := blk8 hW.2
      clear hW
      go_simp
      all_goals with_reducible rfl
    try simp only [Act.put, List.setIfInBounds_toArray, List.set_cons_zero, List.set_cons_succ]
    refine T_take (i := 6) (v := ?_) rfl (by kernel_rfl) (fun _ _ _ h => h) (Or.inl ⟨by rfl, ?_⟩) hHeld2 ?_
    rotate_left
    ·
      intro W hW
      have s0 := hW.1.2.2.1
      obtain ⟨⟨x0, x1, x2, x3, x4, x5, x6, x7⟩, _⟩ := blk8 hW.1.1
      obtain ⟨⟨d0, d1, d2, d3, d4, d5, d6, d7⟩, _⟩ := blk8 hW.2
      clear hW
      go_simp
      all_goals with_reducible rfl
    try simp only [Act.put, List.setIfInBounds_toArray, List.set_cons_zero, List.set_cons_succ]
    refine wpAnyT_ready (rs := [7]) (by kernel_rfl) (by simp) ?_
    refine T_cons rfl (fun K hK => ?_) AllReadyT.nil
    go_simp
    go_at_call 22
    refine (HL.out _ _ _).mono ?_
    rintro e w2 ⟨b, rfl, hb, g2⟩
    have hHeld3 : DocAt w ib nb sb so #[.int .i64 k1, .bool is1, .bool dn1, .string (ba dig1), .int .i64 ex1, .string (ba t1), .slice vA1 vl1 vc1, .slice uA1 ul1 uc1] n w2 ∧ w2.heap[w.heap.size]? = some (.cells #[.int .i64 5, .bool false, .bool false, .string ⟨#[]⟩, .int .i64 0, .string ⟨#[]⟩, .slice (some ⟨ib, 0, none⟩) 1 1, .slice (some ⟨nb, 0, none⟩) 1 1] 29 (0, 0)) := ⟨hHeld2.1.gb g2, gb_blk g2 hHeld2.2 (by simp)⟩
    have HB := Lib.hid hb
    clear g2 hb
    try go_wp2_with fail
    refine hK.out _ _ (fun _ => hHeld3) (fun _ => ?_)
    clear hK K
    try simp only [Act.put, List.setIfInBounds_toArray, List.set_cons_zero, List.set_cons_succ]
    refine T_tail 8 rfl rfl (by omega) (by kernel_rfl) ?_
    have HG := Lib.hid hHeld3.1.2.2.2.2
    clear hHeld hHeld1 hHeld2 hHeld3
    go_wp2_with fail
    go_ret
    exact ⟨_, rfl, HB.out, HG.out⟩
end

set_option maxRecDepth 100000 in
set_option maxHeartbeats 8000000 in
theorem flt_answer (ib nb sb so sc : Nat) (n : Js.Bs) (op k1 k2 : Int) (is1 is2 dn1 dn2 : Bool) (dig1 dig2 t1 t2 : Js.Bs) (ex1 ex2 : Int) (vA1 uA1 vA2 uA2 : Option Addr) (vl1 vc1 ul1 uc1 vl2 vc2 ul2 uc2 : Nat) (items1 items2 : List Js.V) (names1 names2 : List Js.Bs) (w : World) (hd : DocAt w ib nb sb so #[.int .i64 k1, .bool is1, .bool dn1, .string (ba dig1), .int .i64 ex1, .string (ba t1), .slice vA1 vl1 vc1, .slice uA1 ul1 uc1] n w) (hsc : 1 ≤ sc) (hk4 : k1 ≠ 4) (h10 : 0 ≤ k1) (h15 : k1 ≤ 5) (hk : k1 = k2 → k1 ≤ 3) (h1 : NumC ⟨dn1, dig1, ex1⟩) (h2 : NumC ⟨dn2, dig2, ex2⟩) :
    Calls Tryz.prog 322 #[.agg #[.int .i64 op, .slice (some ⟨sb, so, none⟩) 1 sc, .int .i64 k2, .bool is2, .bool dn2, .string (ba dig2), .int .i64 ex2, .string (ba t2), .slice vA2 vl2 vc2, .slice uA2 ul2 uc2], .agg #[.int .i64 5, .bool false, .bool false, .string ⟨#[]⟩, .int .i64 0, .string ⟨#[]⟩, .slice (some ⟨ib, 0, none⟩) 1 1, .slice (some ⟨nb, 0, none⟩) 1 1]] w (BlOut w (Js.passes op ⟨k1, is1, ⟨dn1, dig1, ex1⟩, t1, items1, names1⟩ ⟨k2, is2, ⟨dn2, dig2, ex2⟩, t2, items2, names2⟩)) := by
  have hmf : ∀ (fn : Fn) (first cap : Array Value) (w : World), (Instr.makeFunc fn first cap).run Tryz.prog w = .ok (.func fn first cap) w := fun _ _ _ _ => rfl
  have HP := Lib.hid (fun W b (hb : W.heap[b]? = some (.cells #[.int .i64 k1, .bool is1, .bool dn1, .string (ba dig1), .int .i64 ex1, .string (ba t1), .slice vA1 vl1 vc1, .slice uA1 ul1 uc1] 29 (0, 0))) => has_passes op k1 k2 is1 is2 dn1 dn2 dig1 dig2 t1 t2 ex1 ex2 (some ⟨sb, so, none⟩) vA1 uA1 vA2 uA2 1 sc vl1 vc1 ul1 uc1 vl2 vc2 ul2 uc2 items1 items2 names1 names2 W b 1 hb h10 h15 hk h1 h2)
  have hslt := hd.2.2.2.1
  have HA := Lib.hid (fun W (h : DocAt w ib nb sb so #[.int .i64 k1, .bool is1, .bool dn1, .string (ba dig1), .int .i64 ex1, .string (ba t1), .slice vA1 vl1 vc1, .slice uA1 ul1 uc1] n W) => all_doc k1 is1 dn1 dig1 t1 ex1 vA1 uA1 vl1 vc1 ul1 uc1 W ib nb sb so sc n ⟨h.1, h.2.1, h.2.2.1, Nat.lt_of_lt_of_le hslt h.2.2.2.2.size, gb_refl _ _⟩ hsc hk4)
  obtain ⟨R, hR⟩ : ∃ R, Js.passes op ⟨k1, is1, ⟨dn1, dig1, ex1⟩, t1, items1, names1⟩ ⟨k2, is2, ⟨dn2, dig2, ex2⟩, t2, items2, names2⟩ = R := ⟨_, rfl⟩
  rw [hR] at HP ⊢
  have ag := gb_alloc (World.grownBy_alloc w (.cells #[.int .i64 op, .slice (some ⟨sb, so, none⟩) 1 sc, .int .i64 k2, .bool is2, .bool dn2, .string (ba dig2), .int .i64 ex2, .string (ba t2), .slice vA2 vl2 vc2, .slice uA2 ul2 uc2] 46 (0, 0)) none) (.cells #[.int .i64 5, .bool false, .bool false, .string ⟨#[]⟩, .int .i64 0, .string ⟨#[]⟩, .slice (some ⟨ib, 0, none⟩) 1 1, .slice (some ⟨nb, 0, none⟩) 1 1] 29 (0, 0))
  have hh : Two w (.cells #[.int .i64 op, .slice (some ⟨sb, so, none⟩) 1 sc, .int .i64 k2, .bool is2, .bool dn2, .string (ba dig2), .int .i64 ex2, .string (ba t2), .slice vA2 vl2 vc2, .slice uA2 ul2 uc2] 46 (0, 0)) (.cells #[.int .i64 5, .bool false, .bool false, .string ⟨#[]⟩, .int .i64 0, .string ⟨#[]⟩, .slice (some ⟨ib, 0, none⟩) 1 1, .slice (some ⟨nb, 0, none⟩) 1 1] 29 (0, 0)) ((w.alloc (.cells #[.int .i64 op, .slice (some ⟨sb, so, none⟩) 1 sc, .int .i64 k2, .bool is2, .bool dn2, .string (ba dig2), .int .i64 ex2, .string (ba t2), .slice vA2 vl2 vc2, .slice uA2 ul2 uc2] 46 (0, 0))).alloc (.cells #[.int .i64 5, .bool false, .bool false, .string ⟨#[]⟩, .int .i64 0, .string ⟨#[]⟩, .slice (some ⟨ib, 0, none⟩) 1 1, .slice (some ⟨nb, 0, none⟩) 1 1] 29 (0, 0))) := ⟨blk_alloc (blk_new w _) _, by have := blk_new (w.alloc (.cells #[.int .i64 op, .slice (some ⟨sb, so, none⟩) 1 sc, .int .i64 k2, .bool is2, .bool dn2, .string (ba dig2), .int .i64 ex2, .string (ba t2), .slice vA2 vl2 vc2, .slice uA2 ul2 uc2] 46 (0, 0))) (.cells #[.int .i64 5, .bool false, .bool false, .string ⟨#[]⟩, .int .i64 0, .string ⟨#[]⟩, .slice (some ⟨ib, 0, none⟩) 1 1, .slice (some ⟨nb, 0, none⟩) 1 1] 29 (0, 0)); simpa using this⟩
  have HH0 := Lib.hid (And.intro (hd.gb ag) hh)
  clear hd h1 h2 h10 h15 hk hk4 hR ag hh hslt hsc
  go_enter Tryz.func322, Tryz.ntmps322
  go_wp2_with fail
  obtain ⟨w0, hw0⟩ : ∃ w0, ((w.alloc (.cells #[.int .i64 op, .slice (some ⟨sb, so, none⟩) 1 sc, .int .i64 k2, .bool is2, .bool dn2, .string (ba dig2), .int .i64 ex2, .string (ba t2), .slice vA2 vl2 vc2, .slice uA2 ul2 uc2] 46 (0, 0))).alloc (.cells #[.int .i64 5, .bool false, .bool false, .string ⟨#[]⟩, .int .i64 0, .string ⟨#[]⟩, .slice (some ⟨ib, 0, none⟩) 1 1, .slice (some ⟨nb, 0, none⟩) 1 1] 29 (0, 0))) = w0 := ⟨_, rfl⟩
  rw [hw0] at HH0 ⊢
  clear hw0
  have hHeld : DocAt w ib nb sb so #[.int .i64 k1, .bool is1, .bool dn1, .string (ba dig1), .int .i64 ex1, .string (ba t1), .slice vA1 vl1 vc1, .slice uA1 ul1 uc1] n w0.drew ∧ Two w (.cells #[.int .i64 op, .slice (some ⟨sb, so, none⟩) 1 sc, .int .i64 k2, .bool is2, .bool dn2, .string (ba dig2), .int .i64 ex2, .string (ba t2), .slice vA2 vl2 vc2, .slice uA2 ul2 uc2] 46 (0, 0)) (.cells #[.int .i64 5, .bool false, .bool false, .string ⟨#[]⟩, .int .i64 0, .string ⟨#[]⟩, .slice (some ⟨ib, 0, none⟩) 1 1, .slice (some ⟨nb, 0, none⟩) 1 1] 29 (0, 0)) w0.drew := ⟨HH0.out.1.gb (gb_drew (gb_refl _ _)), HH0.out.2⟩
  refine wp_region_T 7 (fun W => DocAt w ib nb sb so #[.int .i64 k1, .bool is1, .bool dn1, .string (ba dig1), .int .i64 ex1, .string (ba t1), .slice vA1 vl1 vc1, .slice uA1 ul1 uc1] n W ∧ Two w (.cells #[.int .i64 op, .slice (some ⟨sb, so, none⟩) 1 sc, .int .i64 k2, .bool is2, .bool dn2, .string (ba dig2), .int .i64 ex2, .string (ba t2), .slice vA2 vl2 vc2, .slice uA2 ul2 uc2] 46 (0, 0)) (.cells #[.int .i64 5, .bool false, .bool false, .string ⟨#[]⟩, .int .i64 0, .string ⟨#[]⟩, .slice (some ⟨ib, 0, none⟩) 1 1, .slice (some ⟨nb, 0, none⟩) 1 1] 29 (0, 0)) W) (by kernel_rfl) hHeld ?_
  refine T_take (i := 0) (v := ?_) rfl (by kernel_rfl) (fun _ _ _ h => h) (Or.inl ⟨by rfl, ?_⟩) hHeld ?_
  rotate_left
  ·
    intro W hW
    obtain ⟨d0, d1, d2, d3, d4, d5, d6, d7, d8, d9⟩ := blk10 hW.2.1
    obtain ⟨⟨x0, x1, x2, x3, x4, x5, x6, x7⟩, _⟩ := blk8 hW.2.2
    clear hW
    go_simp
    all_goals with_reducible rfl
  try simp only [Act.put, List.setIfInBounds_toArray, List.set_cons_zero, List.set_cons_succ]
  refine T_take (i := 1) (v := ?_) rfl (by kernel_rfl) (fun _ _ _ h => h) (Or.inl ⟨by rfl, ?_⟩) hHeld ?_
  rotate_left
  ·
    intro W hW
    obtain ⟨d0, d1, d2, d3, d4, d5, d6, d7, d8, d9⟩ := blk10 hW.2.1
    obtain ⟨⟨x0, x1, x2, x3, x4, x5, x6, x7⟩, _⟩ := blk8 hW.2.2
    clear hW
    go_simp
    all_goals with_reducible rfl
  try simp only [Act.put, List.setIfInBounds_toArray, List.set_cons_zero, List.set_cons_succ]
  refine T_take (i := 2) (v := ?_) rfl (by kernel_rfl) (fun _ _ _ h => h) (Or.inl ⟨by rfl, ?_⟩) hHeld ?_
  rotate_left
  ·
    intro W hW
    obtain ⟨d0, d1, d2, d3, d4, d5, d6, d7, d8, d9⟩ := blk10 hW.2.1
    obtain ⟨⟨x0, x1, x2, x3, x4, x5, x6, x7⟩, _⟩ := blk8 hW.2.2
    clear hW
    go_simp
    all_goals with_reducible rfl
  try simp only [Act.put, List.setIfInBounds_toArray, List.set_cons_zero, List.set_cons_succ]
  refine T_take (i := 4) (v := ?_) rfl (by kernel_rfl) (fun _ _ _ h => h) (Or.inl ⟨by rfl, ?_⟩) hHeld ?_
  rotate_left
  ·
    intro W hW
    obtain ⟨d0, d1, d2, d3, d4, d5, d6, d7, d8, d9⟩ := blk10 hW.2.1
    obtain ⟨⟨x0, x1, x2, x3, x4, x5, x6, x7⟩, _⟩ := blk8 hW.2.2
    clear hW
    go_simp
    all_goals with_reducible rfl
  try simp only [Act.put, List.setIfInBounds_toArray, List.set_cons_zero, List.set_cons_succ]
  refine T_take (i := 5) (v := ?_) rfl (by kernel_rfl) (fun _ _ _ h => h) (Or.inl ⟨by rfl, ?_⟩) hHeld ?_
  rotate_left
  ·
    intro W hW
    clear hW
    go_simp
    all_goals with_reducible rfl
  try simp only [Act.put, List.setIfInBounds_toArray, List.set_cons_zero, List.set_cons_succ]
  refine wpAnyT_ready (rs := [3]) (by kernel_rfl) (by simp) ?_
  refine T_cons rfl (fun K hK => ?_) AllReadyT.nil
  go_simp
  go_at_call 22
  refine (HA.out _ hHeld.1).mono ?_
  rintro e w1 ⟨b, rfl, hb, g1⟩
  have HB := Lib.hid hb
  have hHeld1 : DocAt w ib nb sb so #[.int .i64 k1, .bool is1, .bool dn1, .string (ba dig1), .int .i64 ex1, .string (ba t1), .slice vA1 vl1 vc1, .slice uA1 ul1 uc1] n w1 ∧ Two w (.cells #[.int .i64 op, .slice (some ⟨sb, so, none⟩) 1 sc, .int .i64 k2, .bool is2, .bool dn2, .string (ba dig2), .int .i64 ex2, .string (ba t2), .slice vA2 vl2 vc2, .slice uA2 ul2 uc2] 46 (0, 0)) (.cells #[.int .i64 5, .bool false, .bool false, .string ⟨#[]⟩, .int .i64 0, .string ⟨#[]⟩, .slice (some ⟨ib, 0, none⟩) 1 1, .slice (some ⟨nb, 0, none⟩) 1 1] 29 (0, 0)) w1 := ⟨hHeld.1.gb g1, hHeld.2.gb g1⟩
  clear g1 hb
  try go_wp2_with fail
  refine hK.out _ _ (fun _ => hHeld1) (fun _ => ?_)
  clear hK K
  try simp only [Act.put, List.setIfInBounds_toArray, List.set_cons_zero, List.set_cons_succ]
  refine wpAnyT_ready (rs := [6]) (by kernel_rfl) (by simp) ?_
  refine T_cons rfl (fun K hK => ?_) AllReadyT.nil
  go_simp
  go_at_call 161
  refine (HP.out _ _ HB.out).mono ?_
  rintro e w2 ⟨rfl, g2⟩
  have hHeld2 : DocAt w ib nb sb so #[.int .i64 k1, .bool is1, .bool dn1, .string (ba dig1), .int .i64 ex1, .string (ba t1), .slice vA1 vl1 vc1, .slice uA1 ul1 uc1] n w2 ∧ Two w (.cells #[.int .i64 op, .slice (some ⟨sb, so, none⟩) 1 sc, .int .i64 k2, .bool is2, .bool dn2, .string (ba dig2), .int .i64 ex2, .string (ba t2), .slice vA2 vl2 vc2, .slice uA2 ul2 uc2] 46 (0, 0)) (.cells #[.int .i64 5, .bool false, .bool false, .string ⟨#[]⟩, .int .i64 0, .string ⟨#[]⟩, .slice (some ⟨ib, 0, none⟩) 1 1, .slice (some ⟨nb, 0, none⟩) 1 1] 29 (0, 0)) w2 := ⟨hHeld1.1.gb g2, hHeld1.2.gb g2⟩
  clear g2
  try go_wp2_with fail
  refine hK.out _ _ (fun _ => hHeld2) (fun _ => ?_)
  clear hK K
  try simp only [Act.put, List.setIfInBounds_toArray, List.set_cons_zero, List.set_cons_succ]
  refine T_tail 7 rfl rfl (by omega) (by kernel_rfl) ?_
  have HG := Lib.hid hHeld2.1.2.2.2.2
  clear hHeld hHeld1 hHeld2
  go_wp2_with fail
  go_ret
  exact ⟨rfl, HG.out⟩

set_option maxRecDepth 100000 in
set_option maxHeartbeats 8000000 in
theorem flt_match (fb ib nb sb so sc : Nat) (n : Js.Bs) (op k1 k2 : Int) (is1 is2 dn1 dn2 : Bool) (dig1 dig2 t1 t2 : Js.Bs) (ex1 ex2 : Int) (vA1 uA1 vA2 uA2 : Option Addr) (vl1 vc1 ul1 uc1 vl2 vc2 ul2 uc2 : Nat) (items1 items2 : List Js.V) (names1 names2 : List Js.Bs) (w : World) (hf : w.heap[fb]? = some (.cells #[.iface 46 (.agg #[.int .i64 op, .slice (some ⟨sb, so, none⟩) 1 sc, .int .i64 k2, .bool is2, .bool dn2, .string (ba dig2), .int .i64 ex2, .string (ba t2), .slice vA2 vl2 vc2, .slice uA2 ul2 uc2])] 108 (0, 0))) (hd : DocAt w ib nb sb so #[.int .i64 k1, .bool is1, .bool dn1, .string (ba dig1), .int .i64 ex1, .string (ba t1), .slice vA1 vl1 vc1, .slice uA1 ul1 uc1] n w) (hsc : 1 ≤ sc) (hk4 : k1 ≠ 4) (h10 : 0 ≤ k1) (h15 : k1 ≤ 5) (hk : k1 = k2 → k1 ≤ 3) (h1 : NumC ⟨dn1, dig1, ex1⟩) (h2 : NumC ⟨dn2, dig2, ex2⟩) :
    Calls Tryz.prog 18 #[.pointer (some ⟨fb, 0, none⟩), .agg #[.int .i64 5, .bool false, .bool false, .string ⟨#[]⟩, .int .i64 0, .string ⟨#[]⟩, .slice (some ⟨ib, 0, none⟩) 1 1, .slice (some ⟨nb, 0, none⟩) 1 1]] w (BlOut w (Js.passes op ⟨k1, is1, ⟨dn1, dig1, ex1⟩, t1, items1, names1⟩ ⟨k2, is2, ⟨dn2, dig2, ex2⟩, t2, items2, names2⟩)) := by
  have hslt := hd.2.2.2.1
  have HA := Lib.hid (fun W (h : DocAt w ib nb sb so #[.int .i64 k1, .bool is1, .bool dn1, .string (ba dig1), .int .i64 ex1, .string (ba t1), .slice vA1 vl1 vc1, .slice uA1 ul1 uc1] n W) => flt_answer ib nb sb so sc n op k1 k2 is1 is2 dn1 dn2 dig1 dig2 t1 t2 ex1 ex2 vA1 uA1 vA2 uA2 vl1 vc1 ul1 uc1 vl2 vc2 ul2 uc2 items1 items2 names1 names2 W ⟨h.1, h.2.1, h.2.2.1, Nat.lt_of_lt_of_le hslt h.2.2.2.2.size, gb_refl _ _⟩ hsc hk4 h10 h15 hk h1 h2)
  obtain ⟨R, hR⟩ : ∃ R, Js.passes op ⟨k1, is1, ⟨dn1, dig1, ex1⟩, t1, items1, names1⟩ ⟨k2, is2, ⟨dn2, dig2, ex2⟩, t2, items2, names2⟩ = R := ⟨_, rfl⟩
  rw [hR] at HA ⊢
  have ag := World.grownBy_alloc w (.cells #[.int .i64 5, .bool false, .bool false, .string ⟨#[]⟩, .int .i64 0, .string ⟨#[]⟩, .slice (some ⟨ib, 0, none⟩) 1 1, .slice (some ⟨nb, 0, none⟩) 1 1] 29 (0, 0)) none
  have HH0 := Lib.hid (And.intro (hd.gb ag) (And.intro (gb_blk ag hf (by simp)) (blk_new w (.cells #[.int .i64 5, .bool false, .bool false, .string ⟨#[]⟩, .int .i64 0, .string ⟨#[]⟩, .slice (some ⟨ib, 0, none⟩) 1 1, .slice (some ⟨nb, 0, none⟩) 1 1] 29 (0, 0)))))
  clear hd h1 h2 h10 h15 hk hk4 hR ag hslt hsc hf
  go_enter Tryz.func18, Tryz.ntmps18
  go_wp2_with fail
  obtain ⟨w0, hw0⟩ : ∃ w0, w.alloc (.cells #[.int .i64 5, .bool false, .bool false, .string ⟨#[]⟩, .int .i64 0, .string ⟨#[]⟩, .slice (some ⟨ib, 0, none⟩) 1 1, .slice (some ⟨nb, 0, none⟩) 1 1] 29 (0, 0)) = w0 := ⟨_, rfl⟩
  rw [hw0] at HH0 ⊢
  clear hw0
  have hHeld : DocAt w ib nb sb so #[.int .i64 k1, .bool is1, .bool dn1, .string (ba dig1), .int .i64 ex1, .string (ba t1), .slice vA1 vl1 vc1, .slice uA1 ul1 uc1] n w0.drew ∧ w0.drew.heap[fb]? = some (.cells #[.iface 46 (.agg #[.int .i64 op, .slice (some ⟨sb, so, none⟩) 1 sc, .int .i64 k2, .bool is2, .bool dn2, .string (ba dig2), .int .i64 ex2, .string (ba t2), .slice vA2 vl2 vc2, .slice uA2 ul2 uc2])] 108 (0, 0)) ∧ w0.drew.heap[w.heap.size]? = some (.cells #[.int .i64 5, .bool false, .bool false, .string ⟨#[]⟩, .int .i64 0, .string ⟨#[]⟩, .slice (some ⟨ib, 0, none⟩) 1 1, .slice (some ⟨nb, 0, none⟩) 1 1] 29 (0, 0)) := ⟨HH0.out.1.gb (gb_drew (gb_refl _ _)), HH0.out.2⟩
  refine wp_region_T 17 (fun W => DocAt w ib nb sb so #[.int .i64 k1, .bool is1, .bool dn1, .string (ba dig1), .int .i64 ex1, .string (ba t1), .slice vA1 vl1 vc1, .slice uA1 ul1 uc1] n W ∧ W.heap[fb]? = some (.cells #[.iface 46 (.agg #[.int .i64 op, .slice (some ⟨sb, so, none⟩) 1 sc, .int .i64 k2, .bool is2, .bool dn2, .string (ba dig2), .int .i64 ex2, .string (ba t2), .slice vA2 vl2 vc2, .slice uA2 ul2 uc2])] 108 (0, 0)) ∧ W.heap[w.heap.size]? = some (.cells #[.int .i64 5, .bool false, .bool false, .string ⟨#[]⟩, .int .i64 0, .string ⟨#[]⟩, .slice (some ⟨ib, 0, none⟩) 1 1, .slice (some ⟨nb, 0, none⟩) 1 1] 29 (0, 0))) (by kernel_rfl) hHeld ?_
  refine T_take (i := 0) (v := ?_) rfl (by kernel_rfl) (fun _ _ _ h => h) (Or.inl ⟨by rfl, ?_⟩) hHeld ?_
  rotate_left
  ·
    intro W hW
    have f0 := blk_c hW.2.1 0
    obtain ⟨⟨x0, x1, x2, x3, x4, x5, x6, x7⟩, _⟩ := blk8 hW.2.2
    clear hW
    go_simp
    all_goals with_reducible rfl
  try simp only [Act.put, List.setIfInBounds_toArray, List.set_cons_zero, List.set_cons_succ]
  refine T_take (i := 1) (v := ?_) rfl (by kernel_rfl) (fun _ _ _ h => h) (Or.inl ⟨by rfl, ?_⟩) hHeld ?_
  rotate_left
  ·
    intro W hW
    have f0 := blk_c hW.2.1 0
    obtain ⟨⟨x0, x1, x2, x3, x4, x5, x6, x7⟩, _⟩ := blk8 hW.2.2
    clear hW
    go_simp
    all_goals with_reducible rfl
  try simp only [Act.put, List.setIfInBounds_toArray, List.set_cons_zero, List.set_cons_succ]
  refine T_take (i := 2) (v := ?_) rfl (by kernel_rfl) (fun _ _ _ h => h) (Or.inl ⟨by rfl, ?_⟩) hHeld ?_
  rotate_left
  ·
    intro W hW
    have f0 := blk_c hW.2.1 0
    obtain ⟨⟨x0, x1, x2, x3, x4, x5, x6, x7⟩, _⟩ := blk8 hW.2.2
    clear hW
    go_simp
    all_goals with_reducible rfl
  try simp only [Act.put, List.setIfInBounds_toArray, List.set_cons_zero, List.set_cons_succ]
  refine T_take (i := 3) (v := ?_) rfl (by kernel_rfl) (fun _ _ _ h => h) (Or.inl ⟨by rfl, ?_⟩) hHeld ?_
  rotate_left
  ·
    intro W hW
    have f0 := blk_c hW.2.1 0
    obtain ⟨⟨x0, x1, x2, x3, x4, x5, x6, x7⟩, _⟩ := blk8 hW.2.2
    clear hW
    go_simp
    all_goals with_reducible rfl
  try simp only [Act.put, List.setIfInBounds_toArray, List.set_cons_zero, List.set_cons_succ]
  refine T_take (i := 4) (v := ?_) rfl (by kernel_rfl) (fun _ _ _ h => h) (Or.inl ⟨by rfl, ?_⟩) hHeld ?_
  rotate_left
  ·
    intro W hW
    have f0 := blk_c hW.2.1 0
    obtain ⟨⟨x0, x1, x2, x3, x4, x5, x6, x7⟩, _⟩ := blk8 hW.2.2
    clear hW
    go_simp
    all_goals with_reducible rfl
  try simp only [Act.put, List.setIfInBounds_toArray, List.set_cons_zero, List.set_cons_succ]
  refine T_take (i := 5) (v := ?_) rfl (by kernel_rfl) (fun _ _ _ h => h) (Or.inl ⟨by rfl, ?_⟩) hHeld ?_
  rotate_left
  ·
    intro W hW
    have f0 := blk_c hW.2.1 0
    obtain ⟨⟨x0, x1, x2, x3, x4, x5, x6, x7⟩, _⟩ := blk8 hW.2.2
    clear hW
    go_simp
    all_goals with_reducible rfl
  try simp only [Act.put, List.setIfInBounds_toArray, List.set_cons_zero, List.set_cons_succ]
  refine T_take (i := 6) (v := ?_) rfl (by kernel_rfl) (fun _ _ _ h => h) (Or.inl ⟨by rfl, ?_⟩) hHeld ?_
  rotate_left
  ·
    intro W hW
    have f0 := blk_c hW.2.1 0
    obtain ⟨⟨x0, x1, x2, x3, x4, x5, x6, x7⟩, _⟩ := blk8 hW.2.2
    clear hW
    go_simp
    all_goals with_reducible rfl
  try simp only [Act.put, List.setIfInBounds_toArray, List.set_cons_zero, List.set_cons_succ]
  refine T_take (i := 7) (v := ?_) rfl (by kernel_rfl) (fun _ _ _ h => h) (Or.inl ⟨by rfl, ?_⟩) hHeld ?_
  rotate_left
  ·
    intro W hW
    have f0 := blk_c hW.2.1 0
    obtain ⟨⟨x0, x1, x2, x3, x4, x5, x6, x7⟩, _⟩ := blk8 hW.2.2
    clear hW
    go_simp
    all_goals with_reducible rfl
  try simp only [Act.put, List.setIfInBounds_toArray, List.set_cons_zero, List.set_cons_succ]
  refine T_take (i := 8) (v := ?_) rfl (by kernel_rfl) (fun _ _ _ h => h) (Or.inl ⟨by rfl, ?_⟩) hHeld ?_
  rotate_left
  ·
    intro W hW
    have f0 := blk_c hW.2.1 0
    obtain ⟨⟨x0, x1, x2, x3, x4, x5, x6, x7⟩, _⟩ := blk8 hW.2.2
    clear hW
    go_simp
    all_goals with_reducible rfl
  try simp only [Act.put, List.setIfInBounds_toArray, List.set_cons_zero, List.set_cons_succ]
  refine T_take (i := 9) (v := ?_) rfl (by kernel_rfl) (fun _ _ _ h => h) (Or.inl ⟨by rfl, ?_⟩) hHeld ?_
  rotate_left
  ·
    intro W hW
    have f0 := blk_c hW.2.1 0
    obtain ⟨⟨x0, x1, x2, x3, x4, x5, x6, x7⟩, _⟩ := blk8 hW.2.2
    clear hW
    go_simp
    all_goals with_reducible rfl
  try simp only [Act.put, List.setIfInBounds_toArray, List.set_cons_zero, List.set_cons_succ]
  refine T_take (i := 10) (v := ?_) rfl (by kernel_rfl) (fun _ _ _ h => h) (Or.inl ⟨by rfl, ?_⟩) hHeld ?_
  rotate_left
  ·
    intro W hW
    have f0 := blk_c hW.2.1 0
    obtain ⟨⟨x0, x1, x2, x3, x4, x5, x6, x7⟩, _⟩ := blk8 hW.2.2
    clear hW
    go_simp
    all_goals with_reducible rfl
  try simp only [Act.put, List.setIfInBounds_toArray, List.set_cons_zero, List.set_cons_succ]
  refine T_take (i := 11) (v := ?_) rfl (by kernel_rfl) (fun _ _ _ h => h) (Or.inl ⟨by rfl, ?_⟩) hHeld ?_
  rotate_left
  ·
    intro W hW
    have f0 := blk_c hW.2.1 0
    obtain ⟨⟨x0, x1, x2, x3, x4, x5, x6, x7⟩, _⟩ := blk8 hW.2.2
    clear hW
    go_simp
    all_goals with_reducible rfl
  try simp only [Act.put, List.setIfInBounds_toArray, List.set_cons_zero, List.set_cons_succ]
  refine T_take (i := 12) (v := ?_) rfl (by kernel_rfl) (fun _ _ _ h => h) (Or.inl ⟨by rfl, ?_⟩) hHeld ?_
  rotate_left
  ·
    intro W hW
    have f0 := blk_c hW.2.1 0
    obtain ⟨⟨x0, x1, x2, x3, x4, x5, x6, x7⟩, _⟩ := blk8 hW.2.2
    clear hW
    go_simp
    all_goals with_reducible rfl
  try simp only [Act.put, List.setIfInBounds_toArray, List.set_cons_zero, List.set_cons_succ]
  refine T_take (i := 13) (v := ?_) rfl (by kernel_rfl) (fun _ _ _ h => h) (Or.inl ⟨by rfl, ?_⟩) hHeld ?_
  rotate_left
  ·
    intro W hW
    have f0 := blk_c hW.2.1 0
    obtain ⟨⟨x0, x1, x2, x3, x4, x5, x6, x7⟩, _⟩ := blk8 hW.2.2
    clear hW
    go_simp
    all_goals with_reducible rfl
  try simp only [Act.put, List.setIfInBounds_toArray, List.set_cons_zero, List.set_cons_succ]
  refine wpAnyT_ready (rs := [14]) (by kernel_rfl) (by simp) ?_
  refine T_cons rfl (fun K hK => ?_) AllReadyT.nil
  go_simp
  refine (HA.out _ hHeld.1).mono ?_
  rintro e w1 ⟨rfl, g1⟩
  have hHeld1 : DocAt w ib nb sb so #[.int .i64 k1, .bool is1, .bool dn1, .string (ba dig1), .int .i64 ex1, .string (ba t1), .slice vA1 vl1 vc1, .slice uA1 ul1 uc1] n w1 ∧ w1.heap[fb]? = some (.cells #[.iface 46 (.agg #[.int .i64 op, .slice (some ⟨sb, so, none⟩) 1 sc, .int .i64 k2, .bool is2, .bool dn2, .string (ba dig2), .int .i64 ex2, .string (ba t2), .slice vA2 vl2 vc2, .slice uA2 ul2 uc2])] 108 (0, 0)) ∧ w1.heap[w.heap.size]? = some (.cells #[.int .i64 5, .bool false, .bool false, .string ⟨#[]⟩, .int .i64 0, .string ⟨#[]⟩, .slice (some ⟨ib, 0, none⟩) 1 1, .slice (some ⟨nb, 0, none⟩) 1 1] 29 (0, 0)) := ⟨hHeld.1.gb g1, gb_blk g1 hHeld.2.1 (by simp), gb_blk g1 hHeld.2.2 (by simp)⟩
  clear g1
  try go_wp2_with fail
  refine hK.out _ _ (fun _ => hHeld1) (fun _ => ?_)
  clear hK K
  try simp only [Act.put, List.setIfInBounds_toArray, List.set_cons_zero, List.set_cons_succ]
  refine T_take (i := 15) (v := ?_) rfl (by kernel_rfl) (fun _ _ _ h => h) (Or.inl ⟨by rfl, ?_⟩) hHeld1 ?_
  rotate_left
  ·
    intro W hW
    clear hW
    go_simp
    all_goals with_reducible rfl
  try simp only [Act.put, List.setIfInBounds_toArray, List.set_cons_zero, List.set_cons_succ]
  refine T_take (i := 16) (v := ?_) rfl (by kernel_rfl) (fun _ _ _ h => h) (Or.inl ⟨by rfl, ?_⟩) hHeld1 ?_
  rotate_left
  ·
    intro W hW
    clear hW
    go_simp
    all_goals with_reducible rfl
  try simp only [Act.put, List.setIfInBounds_toArray, List.set_cons_zero, List.set_cons_succ]
  refine T_tail 17 rfl rfl (by omega) (by kernel_rfl) ?_
  have HG := Lib.hid hHeld1.1.2.2.2.2
  clear hHeld hHeld1
  go_wp2_with fail
  go_ret
  exact ⟨rfl, HG.out⟩
end Go.Proofs.YtocjlbpehfpdoaaGreatDoor
