/- package json's reader: object's literal: a member more. -/
import Derived.Test.YtocjlbpehfpdoaaGreatDoorK20
import Derived.Test.YtocjlbpehfpdoaaGreatDoorK04
import Derived.Deep.RegionHeld
set_option linter.unusedVariables false
set_option linter.unusedSimpArgs false
namespace Go.Proofs.YtocjlbpehfpdoaaGreatDoor
open Go.RowKit

theorem own_form {w : World} {base e k : Nat} {v : Value} {n : Nat} {xs : List Value} (h : w.ownsRow base e k v n xs) : ∃ A c, v = .slice A n c := by
  rcases h.2 with ⟨h, h0⟩ | ⟨g, cap, cur, h, _⟩
  · exact ⟨none, 0, by rw [h, h0]⟩
  · exact ⟨_, _, h⟩
theorem obj_no {f : Js.St → Js.V × Js.St} {a : List Js.V × List Js.Bs} {st : Js.St} (h : ([34] : Js.Bs).isPrefixOf (Js.skipS st).s = false) : Js.objThing f a st = (a, Js.failS (Js.skipS st) 11) := by
  simp [Js.objThing, h]
theorem obj_yes {f : Js.St → Js.V × Js.St} {a : List Js.V × List Js.Bs} {st : Js.St} (h : ([34] : Js.Bs).isPrefixOf (Js.skipS st).s = true) (n : Js.Bs × Js.St) (hn : Js.strS (Js.skipS st) = n) (i : Nat) (b : Bool) (hk : Js.search a.2 n.1 = (i, b)) (s2 : Js.St) (hs2 : (if b = true then Js.failS n.2 31 else n.2) = s2) (q : Js.V × Js.St) (hq : f (Js.needS [58] s2) = q) :
    Js.objThing f a st = ((Js.insertAt a.1 i q.1, Js.insertAt a.2 i n.1), q.2) := by
  subst hn hs2 hq
  unfold Js.objThing
  simp only
  rw [if_neg (by rw [h]; simp), hk]

theorem vcs_len (v : Js.V) (a b : Value) : (vcs v a b).length = 8 := rfl
section
variable {wb w6 w7 w9 w10 : World} {r bx b3 base i : Nat} {items : List Js.V} {names : List Js.Bs} {x : Js.Bs} {si sn si' sn' : Value} {xs : List Value} {v : Js.V} {vi vn : Value} {st' : Js.St}
/-- How object's literal ends. -/
theorem object_end (hI : VI wb r bx b3 base 5 items names w6 si sn xs) (hbase : base ≤ w6.heap.size) (hr : r < base) (hbx : bx < base) (hb3 : b3 < base) (h1 : bx ≠ r) (h2 : b3 ≠ r) (h12 : bx ≠ b3) (hwb : wb.heap.size ≤ b3) (hwbb : wb.heap.size ≤ base)
    (hin : items.length = names.length) (hi : i ≤ names.length)
    (g7 : w6.grownBy w7 (some r)) (hv : RdV (fun k => w6.heap.size ≤ k) w7 v vi vn) (hk : RSt w7 r st')
    (p9 : ∃ w8, w7.grownBy w8 none ∧ w8.grownBy w9 sn.ownBlock ∧ w9.ownsRow base 9 1 sn' (names.length + 1) (strs (Js.insertAt names i x)) ∧ (sn'.ownBlock = sn.ownBlock ∨ ∃ k, sn'.ownBlock = some k ∧ w8.heap.size ≤ k))
    (p10 : w9.grownBy w10 si.ownBlock ∧ w10.ownsRow base 29 8 si' (items.length + 1) (xs.take (i * 8) ++ vcs v vi vn ++ xs.drop (i * 8)) ∧ (si'.ownBlock = si.ownBlock ∨ ∃ k, si'.ownBlock = some k ∧ w9.heap.size ≤ k)) :
    (∃ s1 s2 xs', VI wb r bx b3 base 5 (Js.insertAt items i v) (Js.insertAt names i x) ((w10.setCell ⟨b3, 7, none⟩ sn').setCell ⟨b3, 6, none⟩ si') s1 s2 xs') ∧ RSt ((w10.setCell ⟨b3, 7, none⟩ sn').setCell ⟨b3, 6, none⟩ si') r st' := by
  obtain ⟨w8, g8, g9, o9, at9⟩ := p9
  obtain ⟨g10, o10, at10⟩ := p10
  have d_lt := hI.2.2.2.1.lt
  have e_lt := hI.2.2.2.2.1.lt
  have ne_n : ∀ k, k < base → sn.ownBlock ≠ some k := fun k hk h => by have := (e_lt k h).1; omega
  have ne_i : ∀ k, k < base → si.ownBlock ≠ some k := fun k hk h => by have := (d_lt k h).1; omega
  have g68 := gb_trans g7 (gb_any g8 (row := some r))
  have hv8 : RdV (fun k => w6.heap.size ≤ k) w8 v vi vn := hv.gb g8 (fun k _ h => by cases h)
  have hb := gb_blk g10 (gb_blk g9 (gb_blk g68 hI.2.2.1 (by simpa using h2)) (fun h => ne_n b3 hb3 h.symm)) (fun h => ne_i b3 hb3 h.symm)
  refine ⟨⟨si', sn', _, VI.member hI hbase (Nat.le_refl _) hr hbx hb3 h1 h2 h12 hwb hwbb hin (by omega) g68 hv8 g9 o9 at9 g10 o10 at10 (blk_eq (blk_set' (blk_set' hb 7 _) 6 _) rfl) ?_ rfl rfl rfl (by simp [World.setCell])⟩, ?_⟩
  · intro k hk
    exact (Below.heap_setCell _ _ _ _ hk).trans (Below.heap_setCell _ _ _ _ hk)
  · obtain ⟨⟨s, hs, hbk⟩, hl⟩ := hk
    refine ⟨⟨s, hs, ?_⟩, hl⟩
    refine ((Below.heap_setCell _ _ _ _ (fun h => h2 h.symm)).trans (Below.heap_setCell _ _ _ _ (fun h => h2 h.symm))).trans ?_
    exact gb_blk g10 (gb_blk g9 (gb_blk g8 hbk (by simp)) (fun h => ne_n r hr h.symm)) (fun h => ne_i r hr h.symm)
end

section
variable {wb w7 : World} {r bx b3 base i : Nat} {items : List Js.V} {names : List Js.Bs} {x : Js.Bs} {iA nA : Option Addr} {ic nc : Nat} {xs : List Value}
/-- The first Insert, in whatever world that has a few blocks more. -/
theorem arm178 (l : List Obj) (k : Nat) (hk : l[k]? = some (.cells #[.string (ba x)] 9 (0, 0))) (W : World) (hW : W = (allocs w7 l).drew)
    (hI : VI wb r bx b3 base 5 items names w7 (.slice iA items.length ic) (.slice nA names.length nc) xs) (hi : i ≤ names.length) (hl : names.length ≤ 100000) (hbase : base ≤ w7.heap.size) (hb3 : b3 < base) :
    Calls Tryz.prog 178 #[.slice nA names.length nc, .int .i64 i, .slice (some ⟨w7.heap.size + k, 0, none⟩) 1 1] W (fun e w9 => ∃ g c, e = .returned (.slice (some ⟨g, 0, none⟩) (names.length + 1) c) ∧
      (∃ w8, w7.grownBy w8 none ∧ w8.grownBy w9 (Value.slice nA names.length nc).ownBlock ∧ w9.ownsRow base 9 1 (.slice (some ⟨g, 0, none⟩) (names.length + 1) c) (names.length + 1) (strs (Js.insertAt names i x)) ∧ ((Value.slice (some ⟨g, 0, none⟩) (names.length + 1) c).ownBlock = (Value.slice nA names.length nc).ownBlock ∨ ∃ k, (Value.slice (some ⟨g, 0, none⟩) (names.length + 1) c).ownBlock = some k ∧ w8.heap.size ≤ k)) ∧
      w7.grownBy w9 (Value.slice nA names.length nc).ownBlock ∧ (∀ j o, l[j]? = some o → w9.heap[w7.heap.size + j]? = some o)) := by
  have ON := hI.2.2.2.2.1
  have gl : w7.grownBy W none := by rw [hW]; exact gb_drew (allocs_gb l w7)
  have hWs : W.heap.size = w7.heap.size + l.length := by rw [hW]; exact allocs_size l w7
  have hat : ∀ j o, l[j]? = some o → W.heap[w7.heap.size + j]? = some o := fun j o hj => by rw [hW]; exact allocs_at l w7 j o hj
  have own_lt := ON.lt
  have ne : ∀ j, (Value.slice nA names.length nc).ownBlock ≠ some (w7.heap.size + j) := fun j h => by have := (own_lt _ h).2; omega
  refine (ins_string base names i x _ (w7.heap.size + k) W (ON.kept gl (by cases h : (Value.slice nA names.length nc).ownBlock; exact .inl rfl; exact .inr (by simp))) hi hl (hat k _ hk) (ne k) (by have := gl.size; omega)).mono ?_
  rintro e w9 ⟨sl', rfl, ho, hg, ha⟩
  obtain ⟨g, c, rfl, _, _⟩ := ho.form (by omega)
  refine ⟨g, c, rfl, ⟨W, gl, hg, ho, ha.imp id (fun h => ⟨_, h, Nat.le_refl _⟩)⟩, gb_trans (gb_any gl) hg, fun j o hj => gb_blk hg (hat j o hj) (fun h => ne j h.symm)⟩
/-- The second. -/
theorem arm179 (vb : Nat) (vs : List Value) (w9 W : World) (hv : W.heap[vb]? = some (.cells vs.toArray 29 (0, 0))) (hvl : vs.length = 8) (h1v : ∀ u ∈ vs, u.oneCell' = true) (hW : w9.grownBy W none)
    (hown : w9.ownsRow base 29 8 (.slice iA items.length ic) items.length xs) (h1c : ∀ u ∈ xs, u.oneCell' = true) (hi : i ≤ items.length) (hl : items.length ≤ 100000) (hbase : base ≤ w9.heap.size) (hne : (Value.slice iA items.length ic).ownBlock ≠ some vb) :
    Calls Tryz.prog 179 #[.slice iA items.length ic, .int .i64 i, .slice (some ⟨vb, 0, none⟩) 1 1] W (fun e w10 => ∃ g c, e = .returned (.slice (some ⟨g, 0, none⟩) (items.length + 1) c) ∧
      (w9.grownBy w10 (Value.slice iA items.length ic).ownBlock ∧ w10.ownsRow base 29 8 (.slice (some ⟨g, 0, none⟩) (items.length + 1) c) (items.length + 1) (xs.take (i * 8) ++ vs ++ xs.drop (i * 8)) ∧ ((Value.slice (some ⟨g, 0, none⟩) (items.length + 1) c).ownBlock = (Value.slice iA items.length ic).ownBlock ∨ ∃ k, (Value.slice (some ⟨g, 0, none⟩) (items.length + 1) c).ownBlock = some k ∧ w9.heap.size ≤ k))) := by
  refine (ins_value base xs vs items.length i _ vb W (hown.kept hW (by cases h : (Value.slice iA items.length ic).ownBlock; exact .inl rfl; exact .inr (by simp))) hi hl hv hvl hne (by have := hW.size; omega) h1c h1v).mono ?_
  rintro e w10 ⟨sl', rfl, ho, hg, ha⟩
  obtain ⟨g, c, rfl, _, _⟩ := ho.form (by omega)
  exact ⟨g, c, rfl, gb_trans (gb_any hW) hg, ho, ha.imp id (fun h => ⟨_, h, hW.size⟩)⟩
end

set_option maxRecDepth 100000 in
set_option maxHeartbeats 32000000 in
theorem object_thing (f : Js.St → Js.V × Js.St) (B r bx b3 base : Nat) (wb w : World) (items : List Js.V) (names : List Js.Bs) (si sn : Value) (xs : List Value) (st : Js.St)
    (hI : VI wb r bx b3 base 5 items names w si sn xs) (h : RSt w r st) (hT : Tb B w) (hB : B ≤ r) (hbase : base ≤ w.heap.size) (hr : r < base) (hbx : bx < base) (hb3 : b3 < base) (h1 : bx ≠ r) (h2 : b3 ≠ r) (h12 : bx ≠ b3) (hwb : wb.heap.size ≤ b3) (hwbb : wb.heap.size ≤ base)
    (hin : items.length = names.length) (hlen : items.length ≤ 5000)
    (hcall : ∀ st2 W, Steps st st2 → RSt W r st2 → Tb B W → Calls Tryz.prog 43 #[.pointer (some ⟨r, 0, none⟩)] W (VDid W r (f st2).1 (f st2).2)) :
    Calls Tryz.prog 175 #[.pointer (some ⟨bx, 0, none⟩), .pointer (some ⟨b3, 0, none⟩)] w (fun e w' => e = .returned (.tuple #[]) ∧ (∃ si' sn' xs', VI wb r bx b3 base 5 (Js.objThing f (items, names) st).1.1 (Js.objThing f (items, names) st).1.2 w' si' sn' xs') ∧ RSt w' r (Js.objThing f (items, names) st).2) := by
  have hsk := json_skip r st w h
  have hp1 := hI.2.1
  have x0 : w.cell? ⟨bx, 0, none⟩ = some (.pointer (some ⟨r, 0, none⟩)) := blk_c hp1 0
  have hno := @obj_no f (items, names) st
  have hyes := @obj_yes f (items, names) st
  obtain ⟨R, hR⟩ : ∃ R, Js.objThing f (items, names) st = R := ⟨_, rfl⟩
  rw [hR] at hno hyes ⊢
  obtain ⟨st1, hst1⟩ : ∃ s, Js.skipS st = s := ⟨_, rfl⟩
  have hs1 := skip_steps st
  rw [hst1] at hsk hno hyes hs1
  have HSK := Lib.hid hsk
  have HI := Lib.hid hI
  have HC := Lib.hid hcall
  have HT := Lib.hid hT
  clear hsk hp1 hR hst1 hI hcall hT h
  cases hpre : ([34] : Js.Bs).isPrefixOf st1.s
  · have HR := Lib.hid (hno hpre)
    have HP := Lib.hid hpre
    clear hno hyes hpre hs1
    go_enter Tryz.func175, Tryz.ntmps175
    go_wp2_with fail
    refine HSK.out.mono ?_
    rintro e w1 ⟨rfl, k1, g1⟩
    have hI1 := HI.out.gb g1 hr h1 h2
    have y0 : w1.cell? ⟨bx, 0, none⟩ = some (.pointer (some ⟨r, 0, none⟩)) := blk_c hI1.2.1 0
    have HI1 := Lib.hid hI1
    have HK1 := Lib.hid k1
    obtain ⟨s, HS, HB, hl, c0, c1, c2, f0, f1, f2⟩ := k1.op
    clear hI1 k1 g1 c1 c2 f0 f1 f2 x0
    go_wp2_with fail
    refine (Tryz.strings_HasPrefix s ⟨#[34]⟩ w1).mono ?_
    rintro e w2 ⟨rfl, rfl⟩
    rw [show Lib.hasPrefix s.data.toList (⟨#[34]⟩ : ByteArray).data.toList = false by rw [HS.out]; exact HP.out]
    go_wp2_with fail
    refine (json_fail r st1 11 _ HK1.out).mono ?_
    rintro e w3 ⟨rfl, k3, g3⟩
    have HI3 := Lib.hid (HI1.out.gb g3 hr h1 h2)
    have HK3 := Lib.hid k3
    clear k3 g3
    go_wp2
    refine bodyPost_ret (results_none rfl _ _ _) rfl ?_
    rw [HR.out]
    exact ⟨rfl, ⟨_, _, _, HI3.out⟩, HK3.out⟩
  · have hne : st1.s ≠ [] := by
      intro h
      rw [h] at hpre
      cases hpre
    obtain ⟨n, hn⟩ : ∃ n, Js.strS st1 = n := ⟨_, rfl⟩
    obtain ⟨i, b, hib⟩ : ∃ i b, Js.search names n.1 = (i, b) := ⟨_, _, rfl⟩
    obtain ⟨s2, hs2⟩ : ∃ s, (if b = true then Js.failS n.2 31 else n.2) = s := ⟨_, rfl⟩
    obtain ⟨s3, hs3⟩ : ∃ s, Js.needS [58] s2 = s := ⟨_, rfl⟩
    obtain ⟨q, hq⟩ : ∃ q, f s3 = q := ⟨_, rfl⟩
    have hfin := hyes hpre n hn i b hib s2 hs2 q (by rw [hs3]; exact hq)
    have hil : i ≤ names.length := by have := search_le names n.1; rw [hib] at this; exact this
    have hst3 : Steps st s3 := by
      have e1 := str_steps st1
      rw [hn] at e1
      have e2 : Steps n.2 s2 := by
        rw [← hs2]
        split
        · exact fail_steps _ _
        · exact Steps.refl _
      have e3 := need_steps [58] s2
      rw [hs3] at e3
      exact hs1.trans (e1.trans (e2.trans e3))
    have hsr := fun (W : World) (o : W.ownsRow base 9 1 sn names.length (strs names)) => names_search names n.1 base sn W o (by omega)
    rw [hib] at hsr
    have hcq := fun (W : World) (k : RSt W r s3) (t : Tb B W) => HC.out s3 W hst3 k t
    rw [hq] at hcq
    have HFIN := Lib.hid hfin
    have HN := Lib.hid hn
    have HS2 := Lib.hid hs2
    have HS3 := Lib.hid hs3
    have HSR := Lib.hid hsr
    have HCQ := Lib.hid hcq
    have HP := Lib.hid hpre
    have HNE := Lib.hid hne
    clear hfin hn hs2 hs3 hsr hcq hpre hne hno hyes hst3 hs1 hq hib
    have hlen2 : names.length ≤ 100000 := by omega
    have hilen : i ≤ items.length := by omega
    have HIN := Lib.hid hin
    clear hin
    obtain ⟨nA, nc, rfl⟩ := own_form HI.out.2.2.2.2.1
    obtain ⟨iA, ic, rfl⟩ := own_form HI.out.2.2.2.1
    go_enter Tryz.func175, Tryz.ntmps175
    go_wp2_with fail
    refine HSK.out.mono ?_
    rintro e w1 ⟨rfl, k1, g1⟩
    have hI1 := HI.out.gb g1 hr h1 h2
    have y0 : w1.cell? ⟨bx, 0, none⟩ = some (.pointer (some ⟨r, 0, none⟩)) := blk_c hI1.2.1 0
    have HI1 := Lib.hid hI1
    have HK1 := Lib.hid k1
    have HG1 := Lib.hid g1
    obtain ⟨s, HS, HB, hl, c0, c1, c2, f0, f1, f2⟩ := k1.op
    clear hI1 k1 g1 c1 c2 f0 f1 f2 x0
    go_wp2_with fail
    refine (Tryz.strings_HasPrefix s ⟨#[34]⟩ w1).mono ?_
    rintro e w2 ⟨rfl, rfl⟩
    rw [show Lib.hasPrefix s.data.toList (⟨#[34]⟩ : ByteArray).data.toList = true by rw [HS.out]; exact HP.out]
    go_wp2_with fail
    refine (json_str B r st1 _ HK1.out (HT.out.gb HG1.out (fun k e => by cases e; exact hB)) hB HNE.out).mono ?_
    rw [HN.out]
    rintro e w3 ⟨rfl, k3, g3⟩
    have hI3 := HI1.out.gb g3 hr h1 h2
    have z0 : w3.cell? ⟨bx, 0, none⟩ = some (.pointer (some ⟨r, 0, none⟩)) := blk_c hI3.2.1 0
    have v7 : w3.cell? ⟨b3, 7, none⟩ = some (.slice nA names.length nc) := blk_c hI3.2.2.1 7
    have HI3 := Lib.hid hI3
    have HK3 := Lib.hid k3
    have HG3 := Lib.hid (gb_trans HG1.out g3)
    clear hI3 k3 g3 y0 c0
    go_wp2_with fail
    refine (HSR.out _ HI3.out.2.2.2.2.1).mono ?_
    rintro e w4 ⟨rfl, g4⟩
    have hI4 := HI3.out.gb (gb_any g4) hr h1 h2
    have t0 : w4.cell? ⟨bx, 0, none⟩ = some (.pointer (some ⟨r, 0, none⟩)) := blk_c hI4.2.1 0
    have HI4 := Lib.hid hI4
    have HK4 := Lib.hid (HK3.out.gb g4 (by simp))
    have HG4 := Lib.hid (gb_trans HG3.out (gb_any g4))
    clear hI4 g4 z0 v7
    go_upto_if 25 with fail
    go_cut [] from 26 (fun wx => VI wb r bx b3 base 5 items names wx (.slice iA items.length ic) (.slice nA names.length nc) xs ∧ RSt wx r s2 ∧ w.grownBy wx (some r))
    case first =>
      rcases (show b = true ∨ b = false by cases b <;> simp) with hb | hb
      · have HS2' := Lib.hid (show Js.failS n.2 31 = s2 by rw [← HS2.out, if_pos hb])
        subst hb
        go_wp2_with fail
        refine (json_fail r n.2 31 _ HK4.out).mono ?_
        rintro e w5 ⟨rfl, k5, g5⟩
        have HI5 := Lib.hid (HI4.out.gb g5 hr h1 h2)
        have HK5 := Lib.hid k5
        have HG5 := Lib.hid (gb_trans HG4.out g5)
        clear k5 g5
        go_wp2_with fail
        go_meet
        exact ⟨HI5.out, by rw [← HS2'.out]; exact HK5.out, HG5.out⟩
      · have HS2' := Lib.hid (show n.2 = s2 by rw [← HS2.out, if_neg (by simp [hb])])
        subst hb
        go_wp2_with fail
        go_meet
        exact ⟨HI4.out, by rw [← HS2'.out]; exact HK4.out, HG4.out⟩
    case rest =>
      obtain ⟨hI5, hk5, hg5⟩ := hcut
      have t0 : wc.cell? ⟨bx, 0, none⟩ = some (.pointer (some ⟨r, 0, none⟩)) := blk_c hI5.2.1 0
      have HI5 := Lib.hid hI5
      have HK5 := Lib.hid hk5
      have HG5 := Lib.hid hg5
      clear hI5 hk5 hg5 HK4 HI4 HG4 HI3 HK3 HG3 HI1 HK1 HG1
      go_wp2_with fail
      refine (json_need r s2 ⟨#[58]⟩ wc HK5.out).mono ?_
      rw [show (⟨#[58]⟩ : ByteArray).data.toList = [58] from rfl, HS3.out]
      rintro e w6 ⟨rfl, k6, g6⟩
      have hI6 := HI5.out.gb g6 hr h1 h2
      have t6 : w6.cell? ⟨bx, 0, none⟩ = some (.pointer (some ⟨r, 0, none⟩)) := blk_c hI6.2.1 0
      have HI6 := Lib.hid hI6
      have HG6 := Lib.hid (gb_trans HG5.out g6)
      have hqc := HCQ.out w6 k6 (HT.out.gb HG6.out (fun k e => by cases e; exact hB))
      have HQC := Lib.hid hqc
      have hsz6 : base ≤ w6.heap.size := by have := HG6.out.size; omega
      clear hI6 k6 g6 t0 hqc
      go_upto_region 8 with fail
      go_cut [5] from 6 (fun s5 wx => ∃ (xb : Nat) (vi vn : Value), s5 = .pointer (some ⟨xb, 0, none⟩) ∧ w6.heap.size ≤ xb ∧ wx.heap[xb]? = some (.cells (vcs q.1 vi vn).toArray 29 (0, 0)) ∧ w6.grownBy wx (some r) ∧ RdV (fun k => w6.heap.size ≤ k) wx q.1 vi vn ∧ RSt wx r q.2)
      case first =>
        go_wp2_with fail
        refine HQC.out.mono ?_
        rintro e w7 ⟨vi, vn, rfl, hv, k7, g7⟩
        obtain ⟨vA, vl, vc, uA, ul, uc, rfl, rfl⟩ := RdV.two hv
        have HK7 := Lib.hid k7
        have HV7 := Lib.hid hv
        have HG67 := Lib.hid g7
        clear k7 hv g7 t6
        simp only [vcs]
        go_wp2_with fail
        go_meet
        exact ⟨w7.heap.size, _, _, rfl, HG67.out.size, blk_new w7 _, gb_alloc HG67.out _, HV7.out.gb (World.grownBy_alloc w7 _ none) (fun k _ h => by cases h), HK7.out.al _⟩
      case rest =>
        obtain ⟨xb, vi, vn, rfl, hxb, hbx9, hg7, hv7, hk7⟩ := hcut
        obtain ⟨vA, vl, vc, uA, ul, uc, rfl, rfl⟩ := RdV.two hv7
        have hI7 := HI6.out.gb hg7 hr h1 h2
        have hsz7 : base ≤ wc.heap.size := by have := hg7.size; omega
        obtain ⟨⟨x0, x1, x2, x3, x4, x5, x6, x7⟩, _⟩ := blk8 hbx9
        have v6 : wc.cell? ⟨b3, 6, none⟩ = some (.slice iA items.length ic) := blk_c hI7.2.2.1 6
        have v7 : wc.cell? ⟨b3, 7, none⟩ = some (.slice nA names.length nc) := blk_c hI7.2.2.1 7
        have hb3l : b3 < wc.heap.size := blk_lt' hI7.2.2.1
        have hb3l1 : b3 < wc.heap.size + 1 := by omega
        have hxl : xb < wc.heap.size := blk_lt' hbx9
        have hxl1 : xb < wc.heap.size + 1 := by omega
        have hb3n : b3 ≠ wc.heap.size := by omega
        have hb3n1 : b3 ≠ wc.heap.size + 1 := by omega
        have hxn : xb ≠ wc.heap.size := by omega
        have hxn1 : xb ≠ wc.heap.size + 1 := by omega
        have hil2 : items.length ≤ 100000 := by omega
        have a1 := arm178 (l := [.cells #[.string (ba n.1)] 9 (0, 0)]) 0 rfl _ rfl hI7 hil hlen2 hsz7 hb3
        have a2 := arm178 (l := [.cells #[.string (ba n.1)] 9 (0, 0), .cells #[.int .i64 q.1.kind, .bool q.1.is, .bool q.1.num.down, .string (ba q.1.num.dig), .int .i64 q.1.num.exp, .string (ba q.1.text), .slice vA vl vc, .slice uA ul uc] 29 (0, 0)]) 0 rfl _ rfl hI7 hil hlen2 hsz7 hb3
        have a3 := arm178 (l := [.cells #[.int .i64 q.1.kind, .bool q.1.is, .bool q.1.num.down, .string (ba q.1.num.dig), .int .i64 q.1.num.exp, .string (ba q.1.text), .slice vA vl vc, .slice uA ul uc] 29 (0, 0), .cells #[.string (ba n.1)] 9 (0, 0)]) 1 rfl _ rfl hI7 hil hlen2 hsz7 hb3
        simp only [allocs, Nat.add_zero] at a1 a2 a3
        have HARMS := Lib.hid (And.intro a1 (And.intro a2 a3))
        have HEND := Lib.hid (fun (w9 w10 : World) (si' sn' : Value) => object_end (x := n.1) (w9 := w9) (w10 := w10) (si' := si') (sn' := sn') HI6.out hsz6 hr hbx hb3 h1 h2 h12 hwb hwbb HIN.out hil hg7 hv7 hk7)
        have HBX := Lib.hid hbx9
        have H37 := Lib.hid hI7.2.2.1
        have OI := Lib.hid hI7.2.2.2.1
        have OWL := Lib.hid hI7.2.2.2.1.lt
        have NWL := Lib.hid hI7.2.2.2.2.1.lt
        have NXB := Lib.hid (show (Value.slice nA names.length nc).ownBlock ≠ some xb from fun h => by have := (HI6.out.2.2.2.2.1.lt xb h).2; omega)
        have IXB := Lib.hid (show (Value.slice iA items.length ic).ownBlock ≠ some xb from fun h => by have := (HI6.out.2.2.2.1.lt xb h).2; omega)
        have OWN := Lib.hid (fun (k : Nat) (h : (Value.slice iA items.length ic).ownBlock = some k) => own_ne hI7.2.2.2.1 hI7.2.2.2.2.1 k h)
        have HX1 := Lib.hid (Els_one _ _ hI7.2.2.2.2.2)
        have HV1 := Lib.hid (vcs_one q.1 (.slice vA vl vc) (.slice uA ul uc) rfl rfl)
        clear a1 a2 a3 hI7 hbx9 hg7 hv7 hk7 HI6 HQC HG6 HC HT HS2 HS3 HCQ HN HNE HP HB HS HI5 HK5 HG5 HSR HSK HIN hxb hil hlen2
        go_wp2_with fail
        have hHeld : wc.drew.heap[b3]? = _ ∧ wc.drew.heap[xb]? = _ := ⟨H37.out, HBX.out⟩
        refine wp_region_T 13 (fun W => W.heap[b3]? = some (.cells #[.int .i64 5, .bool false, .bool false, .string ⟨#[]⟩, .int .i64 0, .string ⟨#[]⟩, .slice iA items.length ic, .slice nA names.length nc] 29 (0, 0)) ∧ W.heap[xb]? = some (.cells #[.int .i64 q.1.kind, .bool q.1.is, .bool q.1.num.down, .string (ba q.1.num.dig), .int .i64 q.1.num.exp, .string (ba q.1.text), .slice vA vl vc, .slice uA ul uc] 29 (0, 0))) (by kernel_rfl) hHeld ?_
        refine T_take (i := 0) (v := ?_) rfl (by kernel_rfl) (fun _ _ _ h => h) (Or.inl ⟨by rfl, ?_⟩) hHeld ?_
        rotate_left
        ·
          rintro W ⟨hW3, hWx⟩
          have y6 := blk_c hW3 6
          have y7 := blk_c hW3 7
          obtain ⟨⟨x0, x1, x2, x3, x4, x5, x6, x7⟩, _⟩ := blk8 hWx
          clear hW3 hWx
          go_simp
          all_goals with_reducible rfl
        try simp only [Act.put, List.setIfInBounds_toArray, List.set_cons_zero, List.set_cons_succ]
        refine T_take (i := 1) (v := ?_) rfl (by kernel_rfl) (fun _ _ _ h => h) (Or.inl ⟨by rfl, ?_⟩) hHeld ?_
        rotate_left
        ·
          rintro W ⟨hW3, hWx⟩
          have y6 := blk_c hW3 6
          have y7 := blk_c hW3 7
          obtain ⟨⟨x0, x1, x2, x3, x4, x5, x6, x7⟩, _⟩ := blk8 hWx
          clear hW3 hWx
          go_simp
          all_goals with_reducible rfl
        try simp only [Act.put, List.setIfInBounds_toArray, List.set_cons_zero, List.set_cons_succ]
        refine T_take (i := 2) (v := ?_) rfl (by kernel_rfl) (fun _ _ _ h => h) (Or.inl ⟨by rfl, ?_⟩) hHeld ?_
        rotate_left
        ·
          rintro W ⟨hW3, hWx⟩
          have y6 := blk_c hW3 6
          have y7 := blk_c hW3 7
          obtain ⟨⟨x0, x1, x2, x3, x4, x5, x6, x7⟩, _⟩ := blk8 hWx
          clear hW3 hWx
          go_simp
          all_goals with_reducible rfl
        try simp only [Act.put, List.setIfInBounds_toArray, List.set_cons_zero, List.set_cons_succ]
        refine T_take (i := 3) (v := ?_) rfl (by kernel_rfl) (fun _ _ _ h => h) (Or.inl ⟨by rfl, ?_⟩) hHeld ?_
        rotate_left
        ·
          rintro W ⟨hW3, hWx⟩
          have y6 := blk_c hW3 6
          have y7 := blk_c hW3 7
          obtain ⟨⟨x0, x1, x2, x3, x4, x5, x6, x7⟩, _⟩ := blk8 hWx
          clear hW3 hWx
          go_simp
          all_goals with_reducible rfl
        try simp only [Act.put, List.setIfInBounds_toArray, List.set_cons_zero, List.set_cons_succ]
        refine T_take (i := 6) (v := ?_) rfl (by kernel_rfl) (fun _ _ _ h => h) (Or.inl ⟨by rfl, ?_⟩) hHeld ?_
        rotate_left
        ·
          rintro W ⟨hW3, hWx⟩
          have y6 := blk_c hW3 6
          have y7 := blk_c hW3 7
          obtain ⟨⟨x0, x1, x2, x3, x4, x5, x6, x7⟩, _⟩ := blk8 hWx
          clear hW3 hWx
          go_simp
          all_goals with_reducible rfl
        try simp only [Act.put, List.setIfInBounds_toArray, List.set_cons_zero, List.set_cons_succ]
        refine T_take (i := 7) (v := ?_) rfl (by kernel_rfl) (fun _ _ _ h => h) (Or.inl ⟨by rfl, ?_⟩) hHeld ?_
        rotate_left
        ·
          rintro W ⟨hW3, hWx⟩
          have y6 := blk_c hW3 6
          have y7 := blk_c hW3 7
          obtain ⟨⟨x0, x1, x2, x3, x4, x5, x6, x7⟩, _⟩ := blk8 hWx
          clear hW3 hWx
          go_simp
          all_goals with_reducible rfl
        try simp only [Act.put, List.setIfInBounds_toArray, List.set_cons_zero, List.set_cons_succ]
        refine T_take (i := 8) (v := ?_) rfl (by kernel_rfl) (fun _ _ _ h => h) (Or.inl ⟨by rfl, ?_⟩) hHeld ?_
        rotate_left
        ·
          rintro W ⟨hW3, hWx⟩
          have y6 := blk_c hW3 6
          have y7 := blk_c hW3 7
          obtain ⟨⟨x0, x1, x2, x3, x4, x5, x6, x7⟩, _⟩ := blk8 hWx
          clear hW3 hWx
          go_simp
          all_goals with_reducible rfl
        try simp only [Act.put, List.setIfInBounds_toArray, List.set_cons_zero, List.set_cons_succ]
        refine T_take (i := 9) (v := ?_) rfl (by kernel_rfl) (fun _ _ _ h => h) (Or.inl ⟨by rfl, ?_⟩) hHeld ?_
        rotate_left
        ·
          rintro W ⟨hW3, hWx⟩
          have y6 := blk_c hW3 6
          have y7 := blk_c hW3 7
          obtain ⟨⟨x0, x1, x2, x3, x4, x5, x6, x7⟩, _⟩ := blk8 hWx
          clear hW3 hWx
          go_simp
          all_goals with_reducible rfl
        try simp only [Act.put, List.setIfInBounds_toArray, List.set_cons_zero, List.set_cons_succ]
        refine wpAnyT_ready (rs := [4, 10]) (by kernel_rfl) (by simp) ?_
        refine T_cons rfl (fun K hK => ?_) (T_cons rfl (fun K hK => ?_) AllReadyT.nil)
        · skip
          go_simp
          refine hK.out _ _ (fun _ => ⟨blk_alloc hHeld.1 _, blk_alloc hHeld.2 _⟩) (fun hS => ?_)
          have hHeld4 := hS (by omega)
          clear hK K hS
          try simp only [Act.put, List.setIfInBounds_toArray, List.set_cons_zero, List.set_cons_succ]
          refine wpAnyT_ready (rs := [5, 10]) (by kernel_rfl) (by simp) ?_
          refine T_cons rfl (fun K hK => ?_) (T_cons rfl (fun K hK => ?_) AllReadyT.nil)
          · skip
            go_simp
            go_at_call 178
            refine HARMS.out.1.mono ?_
            rintro e w9 ⟨gn, cn, rfl, p9, g79, k9⟩
            have P9 := Lib.hid p9
            have hx9 := gb_blk g79 HBX.out (fun h => NXB.out h.symm)
            have h39 := gb_blk g79 H37.out (fun h => by have := (NWL.out b3 h.symm).1; omega)
            have HX9 := Lib.hid hx9
            have HB39 := Lib.hid h39
            have OI9 := Lib.hid (OI.out.kept g79 (by
              cases h : (Value.slice iA items.length ic).ownBlock with
              | none => exact .inl rfl
              | some k => exact .inr (fun h' => OWN.out k h h'.symm)))
            have hs9 := g79.size
            have hb39l : b3 ≠ w9.heap.size := by omega
            have hb39m : b3 < w9.heap.size := by omega
            have hbase9 : base ≤ w9.heap.size := by omega
            have hxl9 : xb < w9.heap.size := by omega
            have hxl9n : xb ≠ w9.heap.size := by omega
            clear p9 g79 k9 hx9 h39
            try go_wp2_with fail
            refine hK.out _ _ (fun _ => ⟨HB39.out, HX9.out⟩) (fun _ => ?_)
            have hHeld9 := And.intro HB39.out HX9.out
            clear hK K
            try simp only [Act.put, List.setIfInBounds_toArray, List.set_cons_zero, List.set_cons_succ]
            refine T_take (i := 12) (v := ?_) rfl (by kernel_rfl) (fun _ _ _ h => h) (Or.inl ⟨by rfl, ?_⟩) hHeld9 ?_
            rotate_left
            ·
              rintro W ⟨hW3, hWx⟩
              have y6 := blk_c hW3 6
              have y7 := blk_c hW3 7
              obtain ⟨⟨x0, x1, x2, x3, x4, x5, x6, x7⟩, _⟩ := blk8 hWx
              clear hW3 hWx
              go_simp
              all_goals with_reducible rfl
            try simp only [Act.put, List.setIfInBounds_toArray, List.set_cons_zero, List.set_cons_succ]
            refine wpAnyT_ready (rs := [10]) (by kernel_rfl) (by simp) ?_
            refine T_cons rfl (fun K hK => ?_) AllReadyT.nil
            go_simp
            refine hK.out _ _ (fun _ => ⟨blk_alloc hHeld9.1 _, blk_alloc hHeld9.2 _⟩) (fun hS => ?_)
            have hHeldA := hS (by omega)
            clear hK K hS
            try simp only [Act.put, List.setIfInBounds_toArray, List.set_cons_zero, List.set_cons_succ]
            refine wpAnyT_ready (rs := [11]) (by kernel_rfl) (by simp) ?_
            refine T_cons rfl (fun K hK => ?_) AllReadyT.nil
            go_simp
            go_at_call 179
            refine (arm179 w9.heap.size (vcs q.1 (.slice vA vl vc) (.slice uA ul uc)) w9 _ (blk_new w9 _) rfl HV1.out (World.grownBy_alloc w9 _ none) OI9.out HX1.out hilen hil2 hbase9 (fun h => by have := (OWL.out _ h).2; omega)).mono ?_
            rintro e w10 ⟨gi, ci, rfl, p10⟩
            have P10 := Lib.hid p10
            have h310 := gb_blk p10.1 HB39.out (fun h => by have := (OWL.out b3 h.symm).1; omega)
            have hx10 := gb_blk p10.1 HX9.out (fun h => IXB.out h.symm)
            have H310 := Lib.hid h310
            have HX10 := Lib.hid hx10
            have v610 : w10.cell? ⟨b3, 6, none⟩ = some (.slice iA items.length ic) := blk_c h310 6
            have v710 : w10.cell? ⟨b3, 7, none⟩ = some (.slice nA names.length nc) := blk_c h310 7
            have f610 := blk_f h310 6
            have f710 := blk_f h310 7
            clear p10 h310 hx10
            try go_wp2_with fail
            refine hK.out _ _ (fun _ => ⟨H310.out, HX10.out⟩) (fun _ => ?_)
            clear hK K
            try simp only [Act.put, List.setIfInBounds_toArray, List.set_cons_zero, List.set_cons_succ]
            refine T_tail 13 rfl rfl (by omega) (by kernel_rfl) ?_
            go_wp2_with fail
            go_end0
            rw [HFIN.out]
            exact ⟨rfl, HEND.out _ _ _ _ P9.out P10.out⟩
          · skip
            go_simp
            refine hK.out _ _ (fun _ => ⟨blk_alloc hHeld4.1 _, blk_alloc hHeld4.2 _⟩) (fun hS => ?_)
            have hHeldB := hS (by omega)
            clear hK K hS
            try simp only [Act.put, List.setIfInBounds_toArray, List.set_cons_zero, List.set_cons_succ]
            refine wpAnyT_ready (rs := [5]) (by kernel_rfl) (by simp) ?_
            refine T_cons rfl (fun K hK => ?_) AllReadyT.nil
            go_simp
            go_at_call 178
            refine HARMS.out.2.1.mono ?_
            rintro e w9 ⟨gn, cn, rfl, p9, g79, k9⟩
            have HBV := Lib.hid (show w9.heap[wc.heap.size + 1]? = some _ from k9 1 _ rfl)
            have P9 := Lib.hid p9
            have hx9 := gb_blk g79 HBX.out (fun h => NXB.out h.symm)
            have h39 := gb_blk g79 H37.out (fun h => by have := (NWL.out b3 h.symm).1; omega)
            have HX9 := Lib.hid hx9
            have HB39 := Lib.hid h39
            have OI9 := Lib.hid (OI.out.kept g79 (by
              cases h : (Value.slice iA items.length ic).ownBlock with
              | none => exact .inl rfl
              | some k => exact .inr (fun h' => OWN.out k h h'.symm)))
            have hs9 := g79.size
            have hb39l : b3 ≠ w9.heap.size := by omega
            have hb39m : b3 < w9.heap.size := by omega
            have hbase9 : base ≤ w9.heap.size := by omega
            have hxl9 : xb < w9.heap.size := by omega
            have hxl9n : xb ≠ w9.heap.size := by omega
            clear p9 g79 k9 hx9 h39
            try go_wp2_with fail
            refine hK.out _ _ (fun _ => ⟨HB39.out, HX9.out⟩) (fun _ => ?_)
            have hHeld9 := And.intro HB39.out HX9.out
            clear hK K
            try simp only [Act.put, List.setIfInBounds_toArray, List.set_cons_zero, List.set_cons_succ]
            refine T_take (i := 12) (v := ?_) rfl (by kernel_rfl) (fun _ _ _ h => h) (Or.inl ⟨by rfl, ?_⟩) hHeld9 ?_
            rotate_left
            ·
              rintro W ⟨hW3, hWx⟩
              have y6 := blk_c hW3 6
              have y7 := blk_c hW3 7
              obtain ⟨⟨x0, x1, x2, x3, x4, x5, x6, x7⟩, _⟩ := blk8 hWx
              clear hW3 hWx
              go_simp
              all_goals with_reducible rfl
            try simp only [Act.put, List.setIfInBounds_toArray, List.set_cons_zero, List.set_cons_succ]
            refine wpAnyT_ready (rs := [11]) (by kernel_rfl) (by simp) ?_
            refine T_cons rfl (fun K hK => ?_) AllReadyT.nil
            go_simp
            go_at_call 179
            refine (arm179 (wc.heap.size + 1) _ w9 _ HBV.out rfl HV1.out (gb_refl _ _) OI9.out HX1.out hilen hil2 hbase9 (fun h => by have := (OWL.out _ h).2; omega)).mono ?_
            rintro e w10 ⟨gi, ci, rfl, p10⟩
            have P10 := Lib.hid p10
            have h310 := gb_blk p10.1 HB39.out (fun h => by have := (OWL.out b3 h.symm).1; omega)
            have hx10 := gb_blk p10.1 HX9.out (fun h => IXB.out h.symm)
            have H310 := Lib.hid h310
            have HX10 := Lib.hid hx10
            have v610 : w10.cell? ⟨b3, 6, none⟩ = some (.slice iA items.length ic) := blk_c h310 6
            have v710 : w10.cell? ⟨b3, 7, none⟩ = some (.slice nA names.length nc) := blk_c h310 7
            have f610 := blk_f h310 6
            have f710 := blk_f h310 7
            clear p10 h310 hx10
            try go_wp2_with fail
            refine hK.out _ _ (fun _ => ⟨H310.out, HX10.out⟩) (fun _ => ?_)
            clear hK K
            try simp only [Act.put, List.setIfInBounds_toArray, List.set_cons_zero, List.set_cons_succ]
            refine T_tail 13 rfl rfl (by omega) (by kernel_rfl) ?_
            go_wp2_with fail
            go_end0
            rw [HFIN.out]
            exact ⟨rfl, HEND.out _ _ _ _ P9.out P10.out⟩
        · skip
          go_simp
          refine hK.out _ _ (fun _ => ⟨blk_alloc hHeld.1 _, blk_alloc hHeld.2 _⟩) (fun hS => ?_)
          have hHeld4 := hS (by omega)
          clear hK K hS
          try simp only [Act.put, List.setIfInBounds_toArray, List.set_cons_zero, List.set_cons_succ]
          refine wpAnyT_ready (rs := [4]) (by kernel_rfl) (by simp) ?_
          refine T_cons rfl (fun K hK => ?_) AllReadyT.nil
          go_simp
          refine hK.out _ _ (fun _ => ⟨blk_alloc hHeld4.1 _, blk_alloc hHeld4.2 _⟩) (fun hS => ?_)
          have hHeldB := hS (by omega)
          clear hK K hS
          try simp only [Act.put, List.setIfInBounds_toArray, List.set_cons_zero, List.set_cons_succ]
          refine wpAnyT_ready (rs := [5]) (by kernel_rfl) (by simp) ?_
          refine T_cons rfl (fun K hK => ?_) AllReadyT.nil
          go_simp
          go_at_call 178
          refine HARMS.out.2.2.mono ?_
          rintro e w9 ⟨gn, cn, rfl, p9, g79, k9⟩
          have HBV := Lib.hid (show w9.heap[wc.heap.size]? = some _ from k9 0 _ rfl)
          have P9 := Lib.hid p9
          have hx9 := gb_blk g79 HBX.out (fun h => NXB.out h.symm)
          have h39 := gb_blk g79 H37.out (fun h => by have := (NWL.out b3 h.symm).1; omega)
          have HX9 := Lib.hid hx9
          have HB39 := Lib.hid h39
          have OI9 := Lib.hid (OI.out.kept g79 (by
            cases h : (Value.slice iA items.length ic).ownBlock with
            | none => exact .inl rfl
            | some k => exact .inr (fun h' => OWN.out k h h'.symm)))
          have hs9 := g79.size
          have hb39l : b3 ≠ w9.heap.size := by omega
          have hb39m : b3 < w9.heap.size := by omega
          have hbase9 : base ≤ w9.heap.size := by omega
          have hxl9 : xb < w9.heap.size := by omega
          have hxl9n : xb ≠ w9.heap.size := by omega
          clear p9 g79 k9 hx9 h39
          try go_wp2_with fail
          refine hK.out _ _ (fun _ => ⟨HB39.out, HX9.out⟩) (fun _ => ?_)
          have hHeld9 := And.intro HB39.out HX9.out
          clear hK K
          try simp only [Act.put, List.setIfInBounds_toArray, List.set_cons_zero, List.set_cons_succ]
          refine T_take (i := 12) (v := ?_) rfl (by kernel_rfl) (fun _ _ _ h => h) (Or.inl ⟨by rfl, ?_⟩) hHeld9 ?_
          rotate_left
          ·
            rintro W ⟨hW3, hWx⟩
            have y6 := blk_c hW3 6
            have y7 := blk_c hW3 7
            obtain ⟨⟨x0, x1, x2, x3, x4, x5, x6, x7⟩, _⟩ := blk8 hWx
            clear hW3 hWx
            go_simp
            all_goals with_reducible rfl
          try simp only [Act.put, List.setIfInBounds_toArray, List.set_cons_zero, List.set_cons_succ]
          refine wpAnyT_ready (rs := [11]) (by kernel_rfl) (by simp) ?_
          refine T_cons rfl (fun K hK => ?_) AllReadyT.nil
          go_simp
          go_at_call 179
          refine (arm179 wc.heap.size _ w9 _ HBV.out rfl HV1.out (gb_refl _ _) OI9.out HX1.out hilen hil2 hbase9 (fun h => by have := (OWL.out _ h).2; omega)).mono ?_
          rintro e w10 ⟨gi, ci, rfl, p10⟩
          have P10 := Lib.hid p10
          have h310 := gb_blk p10.1 HB39.out (fun h => by have := (OWL.out b3 h.symm).1; omega)
          have hx10 := gb_blk p10.1 HX9.out (fun h => IXB.out h.symm)
          have H310 := Lib.hid h310
          have HX10 := Lib.hid hx10
          have v610 : w10.cell? ⟨b3, 6, none⟩ = some (.slice iA items.length ic) := blk_c h310 6
          have v710 : w10.cell? ⟨b3, 7, none⟩ = some (.slice nA names.length nc) := blk_c h310 7
          have f610 := blk_f h310 6
          have f710 := blk_f h310 7
          clear p10 h310 hx10
          try go_wp2_with fail
          refine hK.out _ _ (fun _ => ⟨H310.out, HX10.out⟩) (fun _ => ?_)
          clear hK K
          try simp only [Act.put, List.setIfInBounds_toArray, List.set_cons_zero, List.set_cons_succ]
          refine T_tail 13 rfl rfl (by omega) (by kernel_rfl) ?_
          go_wp2_with fail
          go_end0
          rw [HFIN.out]
          exact ⟨rfl, HEND.out _ _ _ _ P9.out P10.out⟩
end Go.Proofs.YtocjlbpehfpdoaaGreatDoor
