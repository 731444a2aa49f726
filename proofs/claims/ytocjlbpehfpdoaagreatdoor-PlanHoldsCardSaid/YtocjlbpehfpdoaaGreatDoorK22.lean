/- package json's reader: an object; a value. · package json's reader: any value; Parse. · package json: Parse: what it hands back for any text. · package filter: takes, test. -/
import Derived.Test.YtocjlbpehfpdoaaGreatDoorK21
import Derived.RegionTactic
import Derived.ChangeAlike
import Derived.BigRegion
import Derived.Test.YtocjlbpehfpdoaaGreatDoorK15
set_option linter.unusedVariables false
set_option linter.unusedSimpArgs false
namespace Go.Proofs.YtocjlbpehfpdoaaGreatDoor
open Go.RowKit

theorem insertAt_len {α : Type} (l : List α) (i : Nat) (x : α) : (Js.insertAt l i x).length = l.length + 1 := by
  simp [Js.insertAt]
  omega
theorem obj_len (f : Js.St → Js.V × Js.St) (a : List Js.V × List Js.Bs) (st : Js.St) : (Js.objThing f a st).1.1.length ≤ a.1.length + 1 ∧ (a.1.length = a.2.length → (Js.objThing f a st).1.1.length = (Js.objThing f a st).1.2.length) := by
  unfold Js.objThing
  simp only
  split
  · exact ⟨by simp, fun h => h⟩
  · simp only [insertAt_len]
    exact ⟨Nat.le_refl _, fun h => by rw [h]⟩

set_option maxRecDepth 100000 in
set_option maxHeartbeats 8000000 in
theorem json_object (f : Js.St → Js.V × Js.St) (B r d : Nat) (st : Js.St) (w : World) (h : RSt w r st) (hT : Tb B w) (hB : B ≤ r) (hd : d ≤ 16) (ho : st.o = 16 - d) (hne : st.e = 0 → st.s ≠ [])
    (hf : ∀ st W, RSt W r st → Tb B W → st.o = 17 - d → (d = 0 → st.e ≠ 0) → Calls Tryz.prog 43 #[.pointer (some ⟨r, 0, none⟩)] W (VDid W r (f st).1 (f st).2)) (hfs : ∀ st, Steps st (f st).2) :
    Calls Tryz.prog 110 #[.pointer (some ⟨r, 0, none⟩)] w (VDid w r { Js.V.zero with kind := 5, items := (Js.listS (Js.objThing f) [125] ([], []) st).1.1, names := (Js.listS (Js.objThing f) [125] ([], []) st).1.2 } (Js.listS (Js.objThing f) [125] ([], []) st).2) := by
  have hr := h.lt
  obtain ⟨obx, hobx⟩ : ∃ o, o = Obj.cells #[.pointer (some ⟨r, 0, none⟩)] 87 (0, 0) := ⟨_, rfl⟩
  obtain ⟨oz, hoz⟩ : ∃ o, o = Obj.cells #[.int .i64 0, .bool false, .bool false, .string ⟨#[]⟩, .int .i64 0, .string ⟨#[]⟩, .slice none 0 0, .slice none 0 0] 29 (0, 0) := ⟨_, rfl⟩
  obtain ⟨ov, hov⟩ : ∃ o, o = Obj.cells #[.int .i64 5, .bool false, .bool false, .string ⟨#[]⟩, .int .i64 0, .string ⟨#[]⟩, .slice none 0 0, .slice none 0 0] 29 (0, 0) := ⟨_, rfl⟩
  have a1 := allocs_at [obx, oz] w 0 _ rfl
  have a2 := allocs_at [obx, oz] w 1 _ rfl
  have asz := allocs_size [obx, oz] w
  have ag := allocs_gb [obx, oz] w
  obtain ⟨wb, hwb⟩ : ∃ wb, allocs w [obx, oz] = wb := ⟨_, rfl⟩
  rw [hwb] at a1 a2 asz ag
  simp only [List.length_cons, List.length_nil, Nat.add_zero] at asz a1
  have b1 := gb_blk (World.grownBy_alloc wb ov none) a1 (by simp)
  have b3 := blk_new wb ov
  have hI : VI wb r w.heap.size (w.heap.size + 2) (w.heap.size + 3) 5 [] [] (wb.alloc ov) (.slice none 0 0) (.slice none 0 0) [] := by
    refine ⟨World.grownBy_alloc wb ov _, ?_, ?_, ⟨rfl, .inl ⟨rfl, rfl⟩⟩, ⟨rfl, .inl ⟨rfl, rfl⟩⟩, rfl⟩
    · rw [← hobx]; exact b1
    · rw [← hov, show w.heap.size + 2 = wb.heap.size by omega]; exact b3
  have hk : RSt (wb.alloc ov) r st := h.gb (gb_alloc ag ov) (by simp)
  have hTb : Tb B wb := hT.gbn ag
  have hs := h.short
  have hlist := list_175 (σ := List Js.V × List Js.Bs) (fun a W => (∃ si sn xs, VI wb r w.heap.size (w.heap.size + 2) (w.heap.size + 3) 5 a.1 a.2 W si sn xs) ∧ a.1.length = a.2.length) (Js.objThing f) (.pointer (some ⟨w.heap.size, 0, none⟩)) (.pointer (some ⟨w.heap.size + 2, 0, none⟩)) ⟨#[125]⟩ B r d wb ([], []) st (wb.alloc ov)
    hd ho hne hB hTb hk ⟨⟨_, _, _, hI⟩, rfl⟩ (fun a W ⟨⟨_, _, _, hv⟩, _⟩ => hv.1) (fun a W W' ⟨⟨si, sn, xs, hv⟩, hl⟩ hg => ⟨⟨si, sn, xs, hv.gb hg (by omega) (by omega) (by omega)⟩, hl⟩) (obj_steps hfs) (fun a => a.1.length) (fun a st => (obj_len f a st).1) (by simp; omega)
    (by
      rintro ⟨a1, a2⟩ st' W ⟨⟨si, sn, xs, hv⟩, hl⟩ hk' hT' ho' he' hz'
      refine (object_thing f B r w.heap.size (w.heap.size + 2) (w.heap.size + 3) wb W a1 a2 si sn xs st' hv hk' hT' hB (by have := blk_lt' hv.2.2.1; omega) (by omega) (by omega) (by omega) (by omega) (by omega) (by omega) (by omega) (by omega) hl (by simp only at hz'; omega)
        (fun st2 W' hs2 hk2 hT2 => hf st2 W' hk2 hT2 (by rw [hs2.1]; exact ho') (fun h0 => hs2.2.1 (he' h0)))).mono ?_
      rintro e w' ⟨rfl, h1, h2⟩
      exact ⟨rfl, ⟨h1, (obj_len f (a1, a2) st').2 hl⟩, h2⟩)
  rw [show (⟨#[125]⟩ : ByteArray).data.toList = [125] from rfl] at hlist
  obtain ⟨R, hR⟩ : ∃ R, Js.listS (Js.objThing f) [125] ([], []) st = R := ⟨_, rfl⟩
  rw [hR] at hlist ⊢
  subst hwb hobx hoz hov
  simp only [allocs] at hlist a2 ag
  have hmf : ∀ (fn : Fn) (first cap : Array Value) (w : World), (Instr.makeFunc fn first cap).run Tryz.prog w = .ok (.func fn first cap) w := fun _ _ _ _ => rfl
  have HL := Lib.hid hlist
  have H2 := Lib.hid a2
  have HAG := Lib.hid ag
  clear hlist hI hk hTb b1 b3 a1 a2 asz ag h hT hf hR
  go_enter Tryz.func110, Tryz.ntmps110
  go_wp2_with fail
  refine HL.out.mono ?_
  rintro e w1 ⟨rfl, ⟨⟨si, sn, xs, hv⟩, -⟩, hk1⟩
  obtain ⟨sA, c, rfl⟩ := own_form hv.2.2.2.1
  obtain ⟨nA, nc, rfl⟩ := own_form hv.2.2.2.2.1
  have hb2 := gb_blk hv.1 H2.out (by simp; omega)
  obtain ⟨⟨d0, d1, d2, d3, d4, d5, d6, d7⟩, q0, q1, q2, q3, q4, q5, q6, q7⟩ := blk8 hb2
  obtain ⟨⟨k0, k1, k2, k3, k4, k5, k6, k7⟩, _⟩ := blk8 hv.2.2.1
  have HV := Lib.hid hv
  have HK := Lib.hid hk1
  clear hv hk1 hb2
  go_wp2
  refine bodyPost_ret (v := .agg #[.int .i64 5, .bool false, .bool false, .string ⟨#[]⟩, .int .i64 0, .string ⟨#[]⟩, .slice sA R.1.1.length c, .slice nA R.1.2.length nc]) (by simp [results, Tryz.results110, go_sem, d0, d1, d2, d3, d4, d5, d6, d7]) rfl ?_
  refine VDid.done (b0 := w.heap.size + 1) (w0 := w) (w1 := w1) (si := .slice sA R.1.1.length c) (sn := .slice nA R.1.2.length nc) rfl HK.out (gb_refl w none) (gb_trans (gb_any HAG.out) HV.out.1) (set8_gb _ _ _ _ _ _ _ _ _ _) (by omega) hr ?_
  have hrd := HV.out.rdv (w.heap.size + 3) (Nat.le_refl _)
  exact ((hrd.gb (set8_gb _ _ _ _ _ _ _ _ _ _) (fun k hk e => by cases e; omega)).mono (fun k hk _ => by show w.heap.size ≤ k; omega)).kind
end Go.Proofs.YtocjlbpehfpdoaaGreatDoor

set_option linter.unusedVariables false
set_option linter.unusedSimpArgs false
namespace Go.Proofs.YtocjlbpehfpdoaaGreatDoor
open Go.RowKit

theorem number_steps (st : Js.St) : Steps st (Js.numberS st).2 := by
  rw [numberS_eq]
  refine Steps.trans (b := if (Js.nparse (st.s.take (st.s.length - (Lib.trimLeftS st.s Js.numeral).length))).2 ≠ 0 then Js.failS st (Js.nparse (st.s.take (st.s.length - (Lib.trimLeftS st.s Js.numeral).length))).2 else st) ?_ ⟨rfl, fun h => h, ?_⟩
  · split
    · exact fail_steps _ _
    · exact Steps.refl _
  · have := trim_len st.s Js.numeral
    split
    · rw [fail_s]; exact this
    · exact this
theorem value_steps : ∀ (d : Nat) (st : Js.St), Steps st (Js.value d st).2
  | 0, st => skip_steps st
  | d + 1, st => by
    unfold Js.value
    simp only
    have hs := skip_steps st
    split
    · exact hs
    · split
      · exact hs.trans (fail_steps _ _)
      · repeat' split
        · exact hs.trans (need_steps _ _)
        · exact hs.trans (need_steps _ _)
        · exact hs.trans (need_steps _ _)
        · exact hs.trans (str_steps _)
        · exact hs.trans (listS_steps (arr_steps (value_steps d)) _ _ _)
        · exact hs.trans (listS_steps (obj_steps (value_steps d)) _ _ _)
        · exact hs.trans (number_steps _)
        · exact hs.trans (fail_steps _ _)

theorem value_on {d : Nat} {st st1 : Js.St} {c : UInt8} {rest : Js.Bs} (h1 : Js.skipS st = st1) (he : st1.e = 0) (hs : st1.s = c :: rest) : Js.value (d + 1) st =
    if c = 110 then (Js.V.zero, Js.needS [110, 117, 108, 108] st1)
        else if c = 116 then ({ Js.V.zero with kind := 1, is := true }, Js.needS [116, 114, 117, 101] st1)
        else if c = 102 then ({ Js.V.zero with kind := 1 }, Js.needS [102, 97, 108, 115, 101] st1)
        else if c = 34 then ({ Js.V.zero with kind := 3, text := (Js.strS st1).1 }, (Js.strS st1).2)
        else if c = 91 then ({ Js.V.zero with kind := 4, items := (Js.listS (Js.arrThing (Js.value d)) [93] [] st1).1 }, (Js.listS (Js.arrThing (Js.value d)) [93] [] st1).2)
        else if c = 123 then ({ Js.V.zero with kind := 5, items := (Js.listS (Js.objThing (Js.value d)) [125] ([], []) st1).1.1, names := (Js.listS (Js.objThing (Js.value d)) [125] ([], []) st1).1.2 }, (Js.listS (Js.objThing (Js.value d)) [125] ([], []) st1).2)
        else if c = 45 ∨ (48 ≤ c ∧ c ≤ 57) then Js.numberS st1
        else (Js.V.zero, Js.failS st1 11) := by
  subst h1
  conv => lhs; unfold Js.value
  simp only [he, hs, ne_eq, not_true_eq_false, if_false]
theorem value_off {d : Nat} {st st1 : Js.St} (h1 : Js.skipS st = st1) (he : st1.e ≠ 0) : Js.value d st = (Js.V.zero, st1) := by
  subst h1
  cases d <;> unfold Js.value
  · rfl
  · simp only [he, ne_eq, not_false_eq_true, if_true]
theorem value_none {d : Nat} {st st1 : Js.St} (h1 : Js.skipS st = st1) (he : st1.e = 0) (hs : st1.s = []) : Js.value (d + 1) st = (Js.V.zero, Js.failS st1 11) := by
  subst h1
  conv => lhs; unfold Js.value
  simp only [he, hs, ne_eq, not_true_eq_false, if_false]
theorem u8_ne {c : UInt8} {n : Nat} (hn : n < 256) (h : c ≠ UInt8.ofNat n) : c.toNat ≠ n := by
  intro e
  apply h
  rw [← e, UInt8.ofNat_toNat]

theorem json_value (B r : Nat) (hB : B ≤ r) : ∀ (d : Nat), d ≤ 17 → ∀ (st : Js.St) (w : World), RSt w r st → Tb B w → st.o = 17 - d → (d = 0 → st.e ≠ 0) →
    Calls Tryz.prog 43 #[.pointer (some ⟨r, 0, none⟩)] w (VDid w r (Js.value d st).1 (Js.value d st).2)
  | d, hd, st, w, h, hT, ho, h0 => by
    obtain ⟨st1, hst1⟩ : ∃ s, Js.skipS st = s := ⟨_, rfl⟩
    have hs1 := skip_steps st
    rw [hst1] at hs1
    by_cases he : st1.e = 0
    · cases d with
      | zero => exact absurd he (hs1.2.1 (h0 rfl))
      | succ d =>
        have ih := json_value B r hB d (by omega)
        cases hs : st1.s with
        | nil =>
          rw [value_none hst1 he hs]
          exact value_nil r st st1 w h hst1 he hs
        | cons c rest =>
          have hne : st1.s ≠ [] := by rw [hs]; simp
          rw [value_on hst1 he hs]
          by_cases c1 : c = 110
          · subst c1
            rw [if_pos rfl]
            exact value_105 B r st st1 _ _ rest w h hT hB hst1 hs he (fun W k _ => json_null r st1 W k)
          rw [if_neg c1]
          by_cases c2 : c = 116
          · subst c2
            rw [if_pos rfl]
            exact value_106 B r st st1 _ _ rest w h hT hB hst1 hs he (fun W k _ => json_yes r st1 W k)
          rw [if_neg c2]
          by_cases c3 : c = 102
          · subst c3
            rw [if_pos rfl]
            exact value_107 B r st st1 _ _ rest w h hT hB hst1 hs he (fun W k _ => json_no r st1 W k)
          rw [if_neg c3]
          by_cases c4 : c = 34
          · subst c4
            rw [if_pos rfl]
            exact value_108 B r st st1 _ _ rest w h hT hB hst1 hs he (fun W k t => json_text B r st1 W k t hB hne)
          rw [if_neg c4]
          by_cases c5 : c = 91
          · subst c5
            rw [if_pos rfl]
            exact value_109 B r st st1 _ _ rest w h hT hB hst1 hs he (fun W k t => json_array (Js.value d) B r d st1 W k t hB (by omega) (by have := hs1.1; omega) (fun _ => hne) ih (value_steps d))
          rw [if_neg c5]
          by_cases c6 : c = 123
          · subst c6
            rw [if_pos rfl]
            exact value_110 B r st st1 _ _ rest w h hT hB hst1 hs he (fun W k t => json_object (Js.value d) B r d st1 W k t hB (by omega) (by have := hs1.1; omega) (fun _ => hne) ih (value_steps d))
          rw [if_neg c6]
          by_cases c7 : c = 45
          · subst c7
            rw [if_pos (.inl rfl)]
            exact value_111 B r st st1 _ _ rest w h hT hB hst1 hs he (fun W k _ => json_number r st1 W k)
          by_cases c8 : 48 ≤ c ∧ c ≤ 57
          · rw [if_pos (.inr c8)]
            exact value_dig B r st st1 _ _ c rest w h hst1 hs he (UInt8.le_iff_toNat_le.1 c8.1) (UInt8.le_iff_toNat_le.1 c8.2) (fun W k => json_number r st1 W k)
          · rw [if_neg (by rintro (h | h); exact c7 h; exact c8 h)]
            exact value_bad r st st1 c rest w h hst1 hs he ⟨u8_ne (by omega) c1, u8_ne (by omega) c2, u8_ne (by omega) c3, u8_ne (by omega) c4, u8_ne (by omega) c5, u8_ne (by omega) c6, u8_ne (by omega) c7⟩
              (fun k => c8 ⟨UInt8.le_iff_toNat_le.2 k.1, UInt8.le_iff_toNat_le.2 k.2⟩)
    · rw [value_off hst1 he]
      exact value_err r st st1 w h hst1 he
end Go.Proofs.YtocjlbpehfpdoaaGreatDoor

set_option linter.unusedVariables false
set_option linter.unusedSimpArgs false
namespace Go.Proofs.YtocjlbpehfpdoaaGreatDoor
open Go.RowKit

/-- A value handed back in new memory, with an error's number. -/
def VErr (w : World) (v : Js.V) (ec : Int) (e : Ending) (w' : World) : Prop :=
  ∃ si sn, e = .returned (.tuple #[.agg (vcs v si sn).toArray, .int .i64 ec]) ∧ RdV (fun k => w.heap.size ≤ k) w' v si sn ∧ w.grownBy w' none

theorem parse_big {s : Js.Bs} (h : 4096 < s.length) : Js.parse s = (Js.V.zero, 13) := by simp [Js.parse, h]
theorem parse_eq {s : Js.Bs} (h : ¬ 4096 < s.length) (r : Js.V × Js.St) (hr : Js.value 17 ⟨s, 0, 0⟩ = r) (st2 : Js.St) (h2 : Js.skipS r.2 = st2) (st3 : Js.St) (h3 : (if st2.s ≠ [] then Js.failS st2 11 else st2) = st3) :
    Js.parse s = if st3.e ≠ 0 then (Js.V.zero, st3.e) else (r.1, 0) := by
  subst hr h2 h3
  unfold Js.parse
  rw [if_neg h]

theorem set8_new (w : World) (b : Nat) (x0 x1 x2 x3 x4 x5 x6 x7 : Value) {a : World} (h : a.grownBy w none) (hb : a.heap.size ≤ b) : a.grownBy ((((((((w.setCell ⟨b, 0, none⟩ x0).setCell ⟨b, 1, none⟩ x1).setCell ⟨b, 2, none⟩ x2).setCell ⟨b, 3, none⟩ x3).setCell ⟨b, 4, none⟩ x4).setCell ⟨b, 5, none⟩ x5).setCell ⟨b, 6, none⟩ x6).setCell ⟨b, 7, none⟩ x7) none :=
  gb_new h (set8_gb _ _ _ _ _ _ _ _ _ _) hb

set_option maxRecDepth 100000 in
set_option maxHeartbeats 4000000 in
theorem json_parse (s : ByteArray) (w : World) (hT : Tabs w) :
    Calls Tryz.prog 13 #[.string s] w (VErr w (Js.parse s.data.toList).1 (Js.parse s.data.toList).2) := by
  by_cases hbig : 4096 < s.size
  · have hp := parse_big (s := s.data.toList) (by rw [sz_of]; exact hbig)
    rw [hp]
    have hb1 : (4096 : Int) < (s.size : Int) := by omega
    clear hp hT hbig
    go_enter Tryz.func13, Tryz.ntmps13
    go_wp2
    refine bodyPost_ret (v := .tuple #[.agg #[.int .i64 0, .bool false, .bool false, .string ⟨#[]⟩, .int .i64 0, .string ⟨#[]⟩, .slice none 0 0, .slice none 0 0], .int .i64 13]) (by simp [results, Tryz.results13, go_sem]) rfl ?_
    exact ⟨.slice none 0 0, .slice none 0 0, rfl, RdV.bare _ _ _ _ _ _, World.grownBy_alloc w _ none⟩
  · obtain ⟨l, hl⟩ : ∃ l, s.data.toList = l := ⟨_, rfl⟩
    have hs : s.size ≤ 4096 := by omega
    obtain ⟨q, hq⟩ : ∃ q, Js.value 17 ⟨l, 0, 0⟩ = q := ⟨_, rfl⟩
    obtain ⟨st2, h2⟩ : ∃ st2, Js.skipS q.2 = st2 := ⟨_, rfl⟩
    obtain ⟨st3, h3⟩ : ∃ st3, (if st2.s ≠ [] then Js.failS st2 11 else st2) = st3 := ⟨_, rfl⟩
    have hp := parse_eq (s := l) (by rw [← hl, sz_of]; exact hbig) q hq st2 h2 st3 h3
    rw [hl]
    obtain ⟨R, hR⟩ : ∃ R, Js.parse l = R := ⟨_, rfl⟩
    rw [hR] at hp ⊢
    have hc : ¬ (4096 : Int) < (s.size : Int) := by omega
    obtain ⟨oz, hoz⟩ : ∃ o, o = Obj.cells #[.int .i64 0, .bool false, .bool false, .string ⟨#[]⟩, .int .i64 0, .string ⟨#[]⟩, .slice none 0 0, .slice none 0 0] 29 (0, 0) := ⟨_, rfl⟩
    obtain ⟨orr, horr⟩ : ∃ o, o = Obj.cells #[.string s, .int .i64 0, .int .i64 0] 89 (0, 0) := ⟨_, rfl⟩
    have a1 := allocs_at [oz, orr] w 0 _ rfl
    have a2 := allocs_at [oz, orr] w 1 _ rfl
    have asz := allocs_size [oz, orr] w
    have ag := allocs_gb [oz, orr] w
    have hk : RSt (allocs w [oz, orr]) (w.heap.size + 1) ⟨l, 0, 0⟩ := ⟨⟨s, hl, by rw [a2, horr]⟩, by show l.length ≤ 4096; rw [← hl, sz_of]; exact hs⟩
    have hTb : Tb w.heap.size (allocs w [oz, orr]) := (Tb.of hT).gbn ag
    have hv := json_value w.heap.size (w.heap.size + 1) (by omega) 17 (Nat.le_refl _) _ _ hk hTb (by show (0 : Int) = 17 - (17 : Nat); omega) (by omega)
    rw [hq] at hv
    subst hoz horr
    simp only [allocs, Nat.add_zero] at hv a1 ag
    have HV := Lib.hid hv
    have HA1 := Lib.hid a1
    have HAG := Lib.hid ag
    have HP := Lib.hid hp
    have H2 := Lib.hid h2
    have H3 := Lib.hid h3
    clear hv a1 a2 ag asz hp h2 h3 hk hTb hR hq hT hl hbig hs
    go_enter Tryz.func13, Tryz.ntmps13
    go_wp2_with fail
    refine HV.out.mono ?_
    rintro e w1 ⟨vi, vn, rfl, hv, hk1, g1⟩
    obtain ⟨vA, vl, vc, uA, ul, uc, rfl, rfl⟩ := RdV.two hv
    have hz1 := gb_blk g1 HA1.out (by simp)
    have hsk := json_skip (w.heap.size + 1) q.2 _ (hk1.al (.cells #[.int .i64 q.1.kind, .bool q.1.is, .bool q.1.num.down, .string (ba q.1.num.dig), .int .i64 q.1.num.exp, .string (ba q.1.text), .slice vA vl vc, .slice uA ul uc] 29 (0, 0)))
    rw [H2.out] at hsk
    have HSK := Lib.hid hsk
    have HZ1 := Lib.hid hz1
    have HVV := Lib.hid hv
    have HG1 := Lib.hid g1
    have hs1 : w.heap.size + 1 < w1.heap.size := hk1.lt
    clear hv hk1 g1 hz1 hsk
    simp only [vcs]
    go_wp2_with fail
    refine HSK.out.mono ?_
    rintro e w2 ⟨rfl, hk2, g2⟩
    have HK2 := Lib.hid hk2
    have HG2 := Lib.hid (gb_trans (World.grownBy_alloc w1 _ (some (w.heap.size + 1))) g2)
    have hvb := gb_blk g2 (blk_new w1 _) (by simp; omega)
    have HVB := Lib.hid hvb
    obtain ⟨t, HS, HB, hl, c0, c1, c2, f0, f1, f2⟩ := hk2.op
    clear hk2 g2 hvb c1 c2 f0 f1 f2
    obtain ⟨tb, htb⟩ : ∃ b, t.toList.isEmpty = b := ⟨_, rfl⟩
    have hiff : tb = true ↔ st2.s = [] := by
      rw [← htb, ByteArray.toList_eq, HS.out, List.isEmpty_iff]
    have HIFF := Lib.hid hiff
    clear hiff
    go_upto_if 21 with fail
    go_cut [] from 22 (fun wx => RSt wx (w.heap.size + 1) st3 ∧ w2.grownBy wx (some (w.heap.size + 1)))
    case first =>
      cases tb
      · have HE := Lib.hid (show Js.failS st2 11 = st3 by rw [← H3.out, if_pos (fun h => by have := HIFF.out.2 h; cases this)])
        go_wp2_with fail
        refine (json_fail (w.heap.size + 1) st2 11 _ HK2.out).mono ?_
        rintro e w3 ⟨rfl, hk3, g3⟩
        have HK3 := Lib.hid hk3
        have HG3 := Lib.hid g3
        clear hk3 g3
        go_wp2_with fail
        go_meet
        exact ⟨HE.out ▸ HK3.out, HG3.out⟩
      · have HE := Lib.hid (show st2 = st3 by rw [← H3.out, if_neg (by rw [HIFF.out.1 rfl]; simp)])
        go_wp2_with fail
        go_meet
        exact ⟨HE.out ▸ HK2.out, gb_refl _ _⟩
    case rest =>
      obtain ⟨hk3, g3⟩ := hcut
      have g13 := gb_trans HG2.out g3
      have HG13 := Lib.hid g13
      have hz3 := gb_blk g13 HZ1.out (by simp)
      have hv3 := gb_blk g3 HVB.out (by simp; omega)
      obtain ⟨t3, HS3, HB3, hl3, c0, c1, c2, f0, f1, f2⟩ := hk3.op
      obtain ⟨⟨d0, d1, d2, d3, d4, d5, d6, d7⟩, q0, q1, q2, q3, q4, q5, q6, q7⟩ := blk8 hz3
      obtain ⟨⟨x0, x1, x2, x3, x4, x5, x6, x7⟩, _⟩ := blk8 hv3
      have hzl : w.heap.size ≠ w.heap.size + 1 := by omega
      have hend : w.grownBy wc none := gb_new HAG.out (gb_trans HG1.out g13) (by omega)
      have HEND := Lib.hid hend
      clear hk3 g3 g13 hz3 hv3 hend c0 c1 f0 f1 f2
      by_cases he : st3.e = 0
      · have HP2 := Lib.hid (HP.out.trans (if_neg (by simpa using he)))
        have he1 : (st3.e != 0) = false := by simp [he]
        clear he
        go_wp2
        refine bodyPost_ret (v := .tuple #[.agg #[.int .i64 q.1.kind, .bool q.1.is, .bool q.1.num.down, .string (ba q.1.num.dig), .int .i64 q.1.num.exp, .string (ba q.1.text), .slice vA vl vc, .slice uA ul uc], .int .i64 0]) (by simp [results, Tryz.results13, go_sem, d0, d1, d2, d3, d4, d5, d6, d7]) rfl ?_
        rw [HP2.out]
        refine ⟨.slice vA vl vc, .slice uA ul uc, rfl, ?_, set8_new _ _ _ _ _ _ _ _ _ _ HEND.out (Nat.le_refl _)⟩
        refine RdV.mono (F := fun k => w.heap.size + 2 ≤ k) ?_ (fun k hk _ => Nat.le_trans (by omega) hk)
        have h1 := HVV.out
        simp only [World.alloc, Array.size_push] at h1
        exact (h1.gb HG13.out (fun k hk e => by cases e; omega)).gb (set8_gb _ _ _ _ _ _ _ _ _ _) (fun k hk e => by cases e; omega)
      · have HP2 := Lib.hid (HP.out.trans (if_pos he))
        have he1 : (st3.e != 0) = true := by simpa using he
        clear he
        go_wp2
        have hHeld : wc.drew.heap[w.heap.size + 1]? = _ := HB3.out
        refine wp_region_T 6 (fun W => W.heap[w.heap.size + 1]? = some (.cells #[.string t3, .int .i64 st3.o, .int .i64 st3.e] 89 (0, 0))) (by kernel_rfl) hHeld ?_
        refine T_take (i := 0) (v := ?_) rfl (by kernel_rfl) (fun _ _ _ h => h) (Or.inl ⟨by rfl, ?_⟩) hHeld ?_
        rotate_left
        ·
          intro W hW
          have y2 := blk_c hW 2
          clear hW
          go_simp
          all_goals with_reducible rfl
        try simp only [Act.put, List.setIfInBounds_toArray, List.set_cons_zero, List.set_cons_succ]
        refine T_take (i := 1) (v := ?_) rfl (by kernel_rfl) (fun _ _ _ h => h) (Or.inl ⟨by rfl, ?_⟩) hHeld ?_
        rotate_left
        ·
          intro W hW
          have y2 := blk_c hW 2
          clear hW
          go_simp
          all_goals with_reducible rfl
        try simp only [Act.put, List.setIfInBounds_toArray, List.set_cons_zero, List.set_cons_succ]
        refine T_take (i := 2) (v := ?_) rfl (by kernel_rfl) (fun _ _ _ h => h) (Or.inl ⟨by rfl, ?_⟩) hHeld ?_
        rotate_left
        ·
          intro W hW
          have y2 := blk_c hW 2
          clear hW
          go_simp
          all_goals with_reducible rfl
        try simp only [Act.put, List.setIfInBounds_toArray, List.set_cons_zero, List.set_cons_succ]
        refine T_take (i := 3) (v := ?_) rfl (by kernel_rfl) (fun _ _ _ h => h) (Or.inl ⟨by rfl, ?_⟩) hHeld ?_
        rotate_left
        ·
          intro W hW
          have y2 := blk_c hW 2
          clear hW
          go_simp
          all_goals with_reducible rfl
        try simp only [Act.put, List.setIfInBounds_toArray, List.set_cons_zero, List.set_cons_succ]
        refine T_take (i := 4) (v := ?_) rfl (by kernel_rfl) (fun _ _ _ h => h) (Or.inl ⟨by rfl, ?_⟩) hHeld ?_
        rotate_left
        ·
          intro W hW
          have y2 := blk_c hW 2
          clear hW
          go_simp
          all_goals with_reducible rfl
        try simp only [Act.put, List.setIfInBounds_toArray, List.set_cons_zero, List.set_cons_succ]
        refine wpAnyT_ready (rs := [5]) (by kernel_rfl) (by simp) ?_
        refine T_cons rfl (fun K hK => ?_) AllReadyT.nil
        go_simp
        refine hK.out _ _ (fun _ => ?_) (fun _ => ?_)
        · with_reducible refine blk_drew ?_
          iterate 8 (with_reducible refine blk_far' ?_ (by simp) _)
          exact HB3.out
        clear hK K
        try simp only [Act.put, List.setIfInBounds_toArray, List.set_cons_zero, List.set_cons_succ]
        refine T_tail 6 rfl rfl (by omega) (by kernel_rfl) ?_
        go_wp2
        refine bodyPost_ret (v := .tuple #[.agg #[.int .i64 0, .bool false, .bool false, .string ⟨#[]⟩, .int .i64 0, .string ⟨#[]⟩, .slice none 0 0, .slice none 0 0], .int .i64 st3.e]) (by simp [results, Tryz.results13, go_sem, d0, d1, d2, d3, d4, d5, d6, d7]) rfl ?_
        rw [HP2.out]
        refine ⟨.slice none 0 0, .slice none 0 0, rfl, RdV.bare _ _ _ _ _ _, ?_⟩
        with_reducible exact gb_drew (set8_new _ _ _ _ _ _ _ _ _ _ HEND.out (Nat.le_refl _))
end Go.Proofs.YtocjlbpehfpdoaaGreatDoor

set_option linter.unusedVariables false
set_option linter.unusedSimpArgs false
namespace Go.Proofs.YtocjlbpehfpdoaaGreatDoor
open Go.RowKit

def takesI (op : Int) : Int := if op < 0 ∨ 8 < op then -1 else if op ≤ 5 then 0 else if op = 8 then 1 else 2
theorem flt_takes (op : Int) (w : World) : Calls Tryz.prog 49 #[.int .i64 op] w (IOut w (takesI op)) := by
  have HG := Lib.hid (gb_refl w none)
  by_cases h1 : op < 0
  · rw [show takesI op = -1 by simp [takesI, h1]]
    go_enter Tryz.func49, Tryz.ntmps49
    go_wp2
    go_ret
    exact ⟨rfl, HG.out⟩
  · by_cases h2 : 8 < op
    · rw [show takesI op = -1 by simp [takesI, h2]]
      go_enter Tryz.func49, Tryz.ntmps49
      go_wp2
      go_ret
      exact ⟨rfl, HG.out⟩
    · by_cases h3 : op ≤ 5
      · rw [show takesI op = 0 by unfold takesI; rw [if_neg (by omega), if_pos h3]]
        go_enter Tryz.func49, Tryz.ntmps49
        go_wp2
        go_ret
        exact ⟨rfl, HG.out⟩
      · by_cases h4 : op = 8
        · subst h4
          rw [show takesI 8 = 1 by decide]
          go_enter Tryz.func49, Tryz.ntmps49
          go_wp2
          go_ret
          exact ⟨rfl, HG.out⟩
        · have h5 : (op == 8) = false := by simpa using h4
          rw [show takesI op = 2 by unfold takesI; rw [if_neg (by omega), if_neg h3, if_neg h4]]
          clear h4
          go_enter Tryz.func49, Tryz.ntmps49
          go_wp2
          go_ret
          exact ⟨rfl, HG.out⟩

/-- What a term's test is: its operator, its way, its value; an error's number. -/
def ftest (op : Int) (p t : Js.Bs) : (Int × List Js.Bs × Js.V) × Int :=
  if (Js.wparse p).2 ≠ 0 then ((0, [], Js.V.zero), (Js.wparse p).2)
  else if op = 5 then ((op, (Js.wparse p).1, Js.V.zero), 0)
  else if (Js.parse t).2 ≠ 0 then ((0, [], Js.V.zero), (Js.parse t).2)
  else if (Js.parse t).1.kind = 4 ∨ (Js.parse t).1.kind = 5 then ((0, [], Js.V.zero), 36)
  else ((op, (Js.wparse p).1, (Js.parse t).1), 0)
/-- A test handed back, in new memory. -/
def TOut (w : World) (op : Int) (l : List Js.Bs) (q : Js.V) (ec : Int) (e : Ending) (w' : World) : Prop := ∃ A c vA vl vc uA ul uc,
  e = .returned (.tuple #[.agg #[.int .i64 op, .slice A l.length c, .int .i64 q.kind, .bool q.is, .bool q.num.down, .string (ba q.num.dig), .int .i64 q.num.exp, .string (ba q.text), .slice vA vl vc, .slice uA ul uc], .int .i64 ec]) ∧ SlN (fun k => w.heap.size ≤ k) w' l (.slice A l.length c) ∧ RdV (fun k => w.heap.size ≤ k) w' q (.slice vA vl vc) (.slice uA ul uc) ∧ w.grownBy w' none
theorem RdV.zero (F : Nat → Prop) (w : World) : RdV F w Js.V.zero (.slice none 0 0) (.slice none 0 0) := RdV.bare F w 0 false Js.Nm.zero []
theorem TOut.zero {w w' : World} {ec : Int} {e : Ending} (he : e = .returned (.tuple #[.agg #[.int .i64 0, .slice none 0 0, .int .i64 0, .bool false, .bool false, .string ⟨#[]⟩, .int .i64 0, .string ⟨#[]⟩, .slice none 0 0, .slice none 0 0], .int .i64 ec])) (hg : w.grownBy w' none) : TOut w 0 [] Js.V.zero ec e w' :=
  ⟨none, 0, none, 0, 0, none, 0, 0, he, SlN.nil _ _, RdV.zero _ _, hg⟩
theorem SlN.gb {F : Nat → Prop} {w w' : World} {l : List Js.Bs} {s : Value} {row : Option Nat} (h : SlN F w l s) (hg : w.grownBy w' row) (hne : ∀ k, F k → some k ≠ row) : SlN F w' l s :=
  h.move (fun _ hk _ => hk) hg.size (fun k hk hl => hg.block k hl (hne k hk))
theorem SlN.mono {F F' : Nat → Prop} {w : World} {l : List Js.Bs} {s : Value} (h : SlN F w l s) (hF : ∀ k, F k → k < w.heap.size → F' k) : SlN F' w l s := h.move hF (Nat.le_refl _) (fun _ _ _ => rfl)
theorem set10_gb (w4 : World) (b : Nat) (x0 x1 x2 x3 x4 x5 x6 x7 x8 x9 : Value) : w4.grownBy ((((((((((w4.setCell ⟨b, 0, none⟩ x0).setCell ⟨b, 1, none⟩ x1).setCell ⟨b, 2, none⟩ x2).setCell ⟨b, 3, none⟩ x3).setCell ⟨b, 4, none⟩ x4).setCell ⟨b, 5, none⟩ x5).setCell ⟨b, 6, none⟩ x6).setCell ⟨b, 7, none⟩ x7).setCell ⟨b, 8, none⟩ x8).setCell ⟨b, 9, none⟩ x9) (some b) := by
  iterate 10 refine gb_set ?_ (.inr rfl) _
  exact gb_refl _ _
theorem set8_at2 (w4 : World) (b : Nat) (x0 x1 x2 x3 x4 x5 x6 x7 : Value) : w4.grownBy ((((((((w4.setCell ⟨b, 2, none⟩ x0).setCell ⟨b, 3, none⟩ x1).setCell ⟨b, 4, none⟩ x2).setCell ⟨b, 5, none⟩ x3).setCell ⟨b, 6, none⟩ x4).setCell ⟨b, 7, none⟩ x5).setCell ⟨b, 8, none⟩ x6).setCell ⟨b, 9, none⟩ x7) (some b) := by
  iterate 8 refine gb_set ?_ (.inr rfl) _
  exact gb_refl _ _
theorem set8_at2_blk {w4 : World} {b : Nat} {ty : TypeId} {c0 c1 z0 z1 z2 z3 z4 z5 z6 z7 : Value} (x0 x1 x2 x3 x4 x5 x6 x7 : Value) (h : w4.heap[b]? = some (.cells #[c0, c1, z0, z1, z2, z3, z4, z5, z6, z7] ty (0, 0))) :
    ((((((((w4.setCell ⟨b, 2, none⟩ x0).setCell ⟨b, 3, none⟩ x1).setCell ⟨b, 4, none⟩ x2).setCell ⟨b, 5, none⟩ x3).setCell ⟨b, 6, none⟩ x4).setCell ⟨b, 7, none⟩ x5).setCell ⟨b, 8, none⟩ x6).setCell ⟨b, 9, none⟩ x7).heap[b]? = some (.cells #[c0, c1, x0, x1, x2, x3, x4, x5, x6, x7] ty (0, 0)) :=
  blk_eq (blk_set' (blk_set' (blk_set' (blk_set' (blk_set' (blk_set' (blk_set' (blk_set' h 2 x0) 3 x1) 4 x2) 5 x3) 6 x4) 7 x5) 8 x6) 9 x7) (by simp only [List.setIfInBounds_toArray, List.set_cons_zero, List.set_cons_succ])
theorem frz10 {w : World} {g : Nat} {ty : TypeId} {cs : Array Value} (h : w.heap[g]? = some (.cells cs ty (0, 0))) :
    w.frozen? ⟨g, 0, none⟩ = false ∧ w.frozen? ⟨g, 1, none⟩ = false ∧ w.frozen? ⟨g, 2, none⟩ = false ∧ w.frozen? ⟨g, 3, none⟩ = false ∧ w.frozen? ⟨g, 4, none⟩ = false ∧ w.frozen? ⟨g, 5, none⟩ = false ∧ w.frozen? ⟨g, 6, none⟩ = false ∧ w.frozen? ⟨g, 7, none⟩ = false ∧ w.frozen? ⟨g, 8, none⟩ = false ∧ w.frozen? ⟨g, 9, none⟩ = false :=
  ⟨blk_f h 0, blk_f h 1, blk_f h 2, blk_f h 3, blk_f h 4, blk_f h 5, blk_f h 6, blk_f h 7, blk_f h 8, blk_f h 9⟩

set_option maxRecDepth 100000 in
set_option maxHeartbeats 16000000 in
theorem flt_test (op : Int) (p t : Js.Bs) (B : Nat) (w : World) (hM : Mx B w) (hT : Tabs w) (hp : p.length ≤ 10000) :
    Calls Tryz.prog 50 #[.agg #[.int .i64 op, .string (ba p), .string (ba t)]] w (TOut w (ftest op p t).1.1 (ftest op p t).1.2.1 (ftest op p t).1.2.2 (ftest op p t).2) := by
  obtain ⟨l, ec, hl⟩ : ∃ l ec, Js.wparse p = (l, ec) := ⟨_, _, rfl⟩
  obtain ⟨q, ev, hq⟩ : ∃ q ev, Js.parse t = (q, ev) := ⟨_, _, rfl⟩
  have hsp : ftest op p t = if ec ≠ 0 then ((0, [], Js.V.zero), ec) else if op = 5 then ((op, l, Js.V.zero), 0) else if ev ≠ 0 then ((0, [], Js.V.zero), ev) else if q.kind = 4 ∨ q.kind = 5 then ((0, [], Js.V.zero), 36) else ((op, l, q), 0) := by
    unfold ftest
    rw [hl, hq]
  obtain ⟨R, hR⟩ : ∃ R, ftest op p t = R := ⟨_, rfl⟩
  rw [hR] at hsp ⊢
  have HSP := Lib.hid hsp
  obtain ⟨oX, hoX⟩ : ∃ o, o = Obj.cells #[.int .i64 op, .string (ba p), .string (ba t)] 39 (0, 0) := ⟨_, rfl⟩
  obtain ⟨oZ, hoZ⟩ : ∃ o, o = Obj.cells #[.int .i64 0, .slice none 0 0, .int .i64 0, .bool false, .bool false, .string ⟨#[]⟩, .int .i64 0, .string ⟨#[]⟩, .slice none 0 0, .slice none 0 0] 46 (0, 0) := ⟨_, rfl⟩
  have a1 := allocs_at [oX, oZ] w 0 _ rfl
  have a2 := allocs_at [oX, oZ] w 1 _ rfl
  have ag := allocs_gb [oX, oZ] w
  subst hoX hoZ
  simp only [allocs, Nat.add_zero] at a1 a2 ag
  have HP := Lib.hid (fun W (hg : w.grownBy W none) => hl ▸ path_parse p B W (hM.gbn hg) hp)
  have HQ := Lib.hid (fun W (hg : w.grownBy W none) => hq ▸ (show Calls Tryz.prog 13 #[.string (ba t)] W (VErr W (Js.parse t).1 (Js.parse t).2) from json_parse (ba t) W (hT.below (below_gb hg))))
  have HA1 := Lib.hid a1
  have HA2 := Lib.hid a2
  have HAG := Lib.hid ag
  clear hsp hl hq hR hM hT hp a1 a2 ag
  go_enter Tryz.func50, Tryz.ntmps50
  go_wp2_with fail
  refine (HP.out _ HAG.out).mono ?_
  rintro e w1 ⟨A, c, rfl, hs, g1⟩
  have hb1 := gb_blk g1 HA1.out (by simp)
  have hb2 := gb_blk g1 HA2.out (by simp)
  have x0 : w1.cell? ⟨w.heap.size, 0, none⟩ = some (.int .i64 op) := by rw [blk_c hb1]; rfl
  have x2 : w1.cell? ⟨w.heap.size, 2, none⟩ = some (.string (ba t)) := by rw [blk_c hb1]; rfl
  obtain ⟨d0, d1, d2, d3, d4, d5, d6, d7, d8, d9⟩ := blk10 hb2
  obtain ⟨z0, z1, z2, z3, z4, z5, z6, z7, z8, z9⟩ := frz10 hb2
  have HG1 := Lib.hid (gb_trans HAG.out g1)
  have HS := Lib.hid (hs.mono (F' := fun k => w.heap.size + 2 ≤ k) (fun k hk _ => by simp at hk; omega))
  have HB1 := Lib.hid hb1
  have HB2 := Lib.hid hb2
  have hlt1 : w.heap.size + 1 < w1.heap.size := blk_lt' hb2
  have hlt0 : w.heap.size < w1.heap.size := by omega
  have hn1 : w.heap.size ≠ w1.heap.size := by omega
  have hn2 : w.heap.size + 1 ≠ w1.heap.size := by omega
  clear hs g1 hb1 hb2
  by_cases he : ec = 0
  · subst he
    have HSP1 := Lib.hid (HSP.out.trans (if_neg (by simp)))
    by_cases ho : op = 5
    · subst ho
      have HR := Lib.hid (HSP1.out.trans (if_pos rfl))
      go_wp2_with fail
      refine bodyPost_ret (v := .tuple #[.agg #[.int .i64 5, .slice A l.length c, .int .i64 0, .bool false, .bool false, .string ⟨#[]⟩, .int .i64 0, .string ⟨#[]⟩, .slice none 0 0, .slice none 0 0], .int .i64 0]) (by simp [results, Tryz.results50, go_sem, d0, d1, d2, d3, d4, d5, d6, d7, d8, d9, hn2, hlt1]) rfl ?_
      rw [HR.out]
      refine ⟨A, c, none, 0, 0, none, 0, 0, rfl, ?_, RdV.zero _ _, ?_⟩
      · exact (HS.out.gb (gb_alloc (set10_gb _ _ _ _ _ _ _ _ _ _ _ _) _) (fun k hk h => by cases h; omega)).mono (fun k hk _ => by show w.heap.size ≤ k; omega)
      · exact gb_new HG1.out (gb_alloc (set10_gb _ _ _ _ _ _ _ _ _ _ _ _) _) (by omega)
    · have ho5 : (op == 5) = false := by simpa using ho
      have HSP2 := Lib.hid (HSP1.out.trans (if_neg ho))
      clear ho
      go_wp2_with fail
      refine (HQ.out _ (gb_alloc HG1.out _)).mono ?_
      rintro e w2 ⟨vi, vn, rfl, hv, g2⟩
      obtain ⟨vA, vl, vc, uA, ul, uc, rfl, rfl⟩ := RdV.two hv
      have hb3 := gb_blk g2 (blk_new w1 _) (by simp)
      obtain ⟨d0, d1, d2, d3, d4, d5, d6, d7, d8, d9⟩ := blk10 hb3
      obtain ⟨z0, z1, z2, z3, z4, z5, z6, z7, z8, z9⟩ := frz10 hb3
      have HV := Lib.hid hv
      have HG12 := Lib.hid (gb_trans (World.grownBy_alloc w1 _ none) g2)
      have HB3 := Lib.hid hb3
      clear hv g2 hb3
      simp only [vcs]
      go_upto_region 8 with fail
      go_cut [5, 33] from 7 (fun s5 s33 wx => s5 = .int .i64 ev ∧ s33 = .bool (ev != 0) ∧ wx.heap[w1.heap.size]? = some (.cells #[.int .i64 op, .slice A l.length c, .int .i64 q.kind, .bool q.is, .bool q.num.down, .string (ba q.num.dig), .int .i64 q.num.exp, .string (ba q.text), .slice vA vl vc, .slice uA ul uc] 46 (0, 0)) ∧ wx.heap[w.heap.size + 1]? = some (.cells #[.int .i64 0, .slice none 0 0, .int .i64 0, .bool false, .bool false, .string ⟨#[]⟩, .int .i64 0, .string ⟨#[]⟩, .slice none 0 0, .slice none 0 0] 46 (0, 0)) ∧ w.grownBy wx none ∧
        SlN (fun k => w.heap.size + 2 ≤ k) wx l (.slice A l.length c) ∧ RdV (fun k => w.heap.size + 2 ≤ k) wx q (.slice vA vl vc) (.slice uA ul uc))
      case first =>
        go_wp2_with fail
        go_meet
        refine ⟨rfl, rfl, set8_at2_blk _ _ _ _ _ _ _ _ HB3.out, ?_, ?_, ?_, ?_⟩
        · exact gb_blk (gb_new HG12.out (set8_at2 _ _ _ _ _ _ _ _ _ _) (Nat.le_refl _)) HB2.out (by simp)
        · exact gb_trans HG1.out (gb_new HG12.out (set8_at2 _ _ _ _ _ _ _ _ _ _) (Nat.le_refl _))
        · exact HS.out.gb (gb_new HG12.out (set8_at2 _ _ _ _ _ _ _ _ _ _) (Nat.le_refl _)) (fun k _ h => by cases h)
        · exact (HV.out.gb (set8_at2 _ _ _ _ _ _ _ _ _ _) (fun k hk h => by cases h; simp at hk; omega)).mono (fun k hk _ => by simp at hk; show w.heap.size + 2 ≤ k; omega)
      case rest =>
        obtain ⟨rfl, rfl, ht, hz, hg, hsn, hrv⟩ := hcut
        obtain ⟨d0, d1, d2, d3, d4, d5, d6, d7, d8, d9⟩ := blk10 hz
        obtain ⟨z0, z1, z2, z3, z4, z5, z6, z7, z8, z9⟩ := frz10 hz
        obtain ⟨t0, t1, t2, t3, t4, t5, t6, t7, t8, t9⟩ := blk10 ht
        have hne3 : w1.heap.size ≠ w.heap.size + 1 := by omega
        have hne4 : w.heap.size + 1 ≠ w1.heap.size := by omega
        have HGX := Lib.hid hg
        have HSN := Lib.hid hsn
        have HRV := Lib.hid hrv
        clear ht hz hg hsn hrv
        by_cases hev : ev = 0
        · subst hev
          have HSP3 := Lib.hid (HSP2.out.trans (if_neg (by simp)))
          by_cases hk4 : q.kind = 4
          · have k4 : (q.kind == 4) = true := by simpa using hk4
            have HR := Lib.hid (HSP3.out.trans (if_pos (.inl hk4)))
            clear hk4
            go_wp2
            refine bodyPost_ret (v := .tuple #[.agg #[.int .i64 0, .slice none 0 0, .int .i64 0, .bool false, .bool false, .string ⟨#[]⟩, .int .i64 0, .string ⟨#[]⟩, .slice none 0 0, .slice none 0 0], .int .i64 36]) (by simp [results, Tryz.results50, go_sem, d0, d1, d2, d3, d4, d5, d6, d7, d8, d9]) rfl ?_
            rw [HR.out]
            exact TOut.zero rfl (gb_new HGX.out (set10_gb _ _ _ _ _ _ _ _ _ _ _ _) (by omega))
          · have k4 : (q.kind == 4) = false := by simpa using hk4
            by_cases hk5 : q.kind = 5
            · have k5 : (q.kind == 5) = true := by simpa using hk5
              have HR := Lib.hid (HSP3.out.trans (if_pos (.inr hk5)))
              clear hk4 hk5
              go_wp2
              refine bodyPost_ret (v := .tuple #[.agg #[.int .i64 0, .slice none 0 0, .int .i64 0, .bool false, .bool false, .string ⟨#[]⟩, .int .i64 0, .string ⟨#[]⟩, .slice none 0 0, .slice none 0 0], .int .i64 36]) (by simp [results, Tryz.results50, go_sem, d0, d1, d2, d3, d4, d5, d6, d7, d8, d9]) rfl ?_
              rw [HR.out]
              exact TOut.zero rfl (gb_new HGX.out (set10_gb _ _ _ _ _ _ _ _ _ _ _ _) (by omega))
            · have k5 : (q.kind == 5) = false := by simpa using hk5
              have HR := Lib.hid (HSP3.out.trans (if_neg (by rintro (h | h); exact hk4 h; exact hk5 h)))
              clear hk4 hk5
              go_wp2
              refine bodyPost_ret (v := .tuple #[.agg #[.int .i64 op, .slice A l.length c, .int .i64 q.kind, .bool q.is, .bool q.num.down, .string (ba q.num.dig), .int .i64 q.num.exp, .string (ba q.text), .slice vA vl vc, .slice uA ul uc], .int .i64 0]) (by simp [results, Tryz.results50, go_sem, d0, d1, d2, d3, d4, d5, d6, d7, d8, d9]) rfl ?_
              rw [HR.out]
              refine ⟨A, c, vA, vl, vc, uA, ul, uc, rfl, ?_, ?_, gb_new HGX.out (set10_gb _ _ _ _ _ _ _ _ _ _ _ _) (by omega)⟩
              · exact (HSN.out.gb (set10_gb _ _ _ _ _ _ _ _ _ _ _ _) (fun k hk h => by cases h; omega)).mono (fun k hk _ => by show w.heap.size ≤ k; omega)
              · exact (HRV.out.gb (set10_gb _ _ _ _ _ _ _ _ _ _ _ _) (fun k hk h => by cases h; omega)).mono (fun k hk _ => by show w.heap.size ≤ k; omega)
        · have hev1 : (ev != 0) = true := by simpa using hev
          have HR := Lib.hid (HSP2.out.trans (if_pos hev))
          clear hev
          go_wp2
          refine bodyPost_ret (v := .tuple #[.agg #[.int .i64 0, .slice none 0 0, .int .i64 0, .bool false, .bool false, .string ⟨#[]⟩, .int .i64 0, .string ⟨#[]⟩, .slice none 0 0, .slice none 0 0], .int .i64 ev]) (by simp [results, Tryz.results50, go_sem, d0, d1, d2, d3, d4, d5, d6, d7, d8, d9]) rfl ?_
          rw [HR.out]
          exact TOut.zero rfl (gb_new HGX.out (set10_gb _ _ _ _ _ _ _ _ _ _ _ _) (by omega))
  · have he1 : (ec != 0) = true := by simpa using he
    have HR := Lib.hid (HSP.out.trans (if_pos he))
    clear he
    go_wp2_with fail
    refine bodyPost_ret (v := .tuple #[.agg #[.int .i64 0, .slice none 0 0, .int .i64 0, .bool false, .bool false, .string ⟨#[]⟩, .int .i64 0, .string ⟨#[]⟩, .slice none 0 0, .slice none 0 0], .int .i64 ec]) (by simp [results, Tryz.results50, go_sem, d0, d1, d2, d3, d4, d5, d6, d7, d8, d9]) rfl ?_
    rw [HR.out]
    exact TOut.zero rfl (gb_new HG1.out (set10_gb _ _ _ _ _ _ _ _ _ _ _ _) (by omega))
end Go.Proofs.YtocjlbpehfpdoaaGreatDoor
