/- package json's reader: a sign behind a backslash and a u; an escape. · package json's reader: an escape. · package json's reader: a string. · package num: run, sign, digits, power, form. -/
import Derived.Test.YtocjlbpehfpdoaaGreatDoorK05
set_option linter.unusedVariables false
set_option linter.unusedSimpArgs false
namespace Go.Proofs.YtocjlbpehfpdoaaGreatDoor
open Go.RowKit

theorem hexv_range (b : UInt8) (x : Int) (h : Js.hexv b = some x) : 0 ≤ x ∧ x ≤ 15 := by
  unfold Js.hexv at h
  have hb := b.toNat_lt
  split at h
  · rename_i h1
    simp only [UInt8.le_iff_toNat_le] at h1
    simp at h h1
    omega
  · split at h
    · rename_i h1
      simp only [UInt8.le_iff_toNat_le] at h1
      simp at h h1
      omega
    · split at h
      · rename_i h1
        simp only [UInt8.le_iff_toNat_le] at h1
        simp at h h1
        omega
      · cases h
theorem hex4_range (s : Js.Bs) (x : Int) (h : Js.hex4 s = some x) : 0 ≤ x ∧ x ≤ 65535 := by
  match s with
  | [] | [_] | [_, _] | [_, _, _] => simp [Js.hex4] at h
  | a :: b :: c :: d :: t =>
    simp only [Js.hex4] at h
    cases ha : Js.hexv a <;> cases hb : Js.hexv b <;> cases hc : Js.hexv c <;> cases hd : Js.hexv d <;> simp [ha, hb, hc, hd] at h
    have := hexv_range a _ ha
    have := hexv_range b _ hb
    have := hexv_range c _ hc
    have := hexv_range d _ hd
    omega
theorem fourS_range (st : Js.St) : 0 ≤ (Js.fourS st).1 ∧ (Js.fourS st).1 ≤ 65535 := by
  unfold Js.fourS
  split
  · rename_i x h
    exact hex4_range _ _ h
  · simp
theorem encode_eq (r : Int) : Utf8.encode r = ba (Lib.encodeRune r) := by
  unfold ba
  by_cases h1 : 0 ≤ r ∧ r ≤ 127
  · have hv : Utf8.valid r = true := by simp [Utf8.valid]; omega
    rw [Lib.encodeRune, Lib.encodeRuneZ_one h1.1 h1.2]
    unfold Utf8.encode
    simp only [hv, if_true]
    rw [if_pos (by omega)]
    rfl
  · by_cases h2 : 128 ≤ r ∧ r ≤ 2047
    · have hv : Utf8.valid r = true := by simp [Utf8.valid]; omega
      rw [Lib.encodeRune, Lib.encodeRuneZ_two h2.1 h2.2]
      unfold Utf8.encode
      simp only [hv, if_true]
      rw [if_neg (by omega), if_pos (by omega)]
      have e1 : (192 + r / 64).toNat = 192 + r.toNat / 64 := by omega
      have e2 : (128 + r % 64).toNat = 128 + r.toNat % 64 := by omega
      simp [e1, e2, Nat.toUInt8]
    · by_cases h3 : (2048 ≤ r ∧ r < 55296) ∨ (57343 < r ∧ r ≤ 65535)
      · have hv : Utf8.valid r = true := by simp [Utf8.valid]; omega
        rw [Lib.encodeRune, Lib.encodeRuneZ_three h3]
        unfold Utf8.encode
        simp only [hv, if_true]
        rw [if_neg (by omega), if_neg (by omega), if_pos (by omega)]
        have e1 : (224 + r / 4096).toNat = 224 + r.toNat / 4096 := by omega
        have e2 : (128 + r / 64 % 64).toNat = 128 + r.toNat / 64 % 64 := by omega
        have e3 : (128 + r % 64).toNat = 128 + r.toNat % 64 := by omega
        simp [e1, e2, e3, Nat.toUInt8]
      · by_cases h4 : 65536 ≤ r ∧ r ≤ 1114111
        · have hv : Utf8.valid r = true := by simp [Utf8.valid]; omega
          rw [Lib.encodeRune, Lib.encodeRuneZ_four h4.1 h4.2]
          unfold Utf8.encode
          simp only [hv, if_true]
          rw [if_neg (by omega), if_neg (by omega), if_neg (by omega)]
          have e1 : (240 + r / 262144).toNat = 240 + r.toNat / 262144 := by omega
          have e2 : (128 + r / 4096 % 64).toNat = 128 + r.toNat / 4096 % 64 := by omega
          have e3 : (128 + r / 64 % 64).toNat = 128 + r.toNat / 64 % 64 := by omega
          have e4 : (128 + r % 64).toNat = 128 + r.toNat % 64 := by omega
          simp [e1, e2, e3, e4, Nat.toUInt8]
        · have hv : Utf8.valid r = false := by simp [Utf8.valid]; omega
          rw [Lib.encodeRune, Lib.encodeRuneZ_bad (by omega)]
          unfold Utf8.encode
          simp only [hv, Bool.false_eq_true, if_false]
          rfl
theorem ret_str {a b : ByteArray} (h : a = b) : Ending.returned (.string a) = .returned (.string b) := by rw [h]

/-- Where the sign is none of two halves. -/
theorem signS_one {st : Js.St} (h : (Js.fourS st).1 < 55296 ∨ 57343 < (Js.fourS st).1) : Js.signS st = (Lib.encodeRune (Js.fourS st).1, (Js.fourS st).2) := by
  unfold Js.signS
  simp only
  rw [if_pos h]
theorem signS_bad {st : Js.St} (h : ¬ ((Js.fourS st).1 < 55296 ∨ 57343 < (Js.fourS st).1)) (h2 : 56320 ≤ (Js.fourS st).1 ∨ ([92, 117] : Js.Bs).isPrefixOf (Js.fourS st).2.s = false) : Js.signS st = ([], Js.failS (Js.fourS st).2 11) := by
  unfold Js.signS
  simp only
  rw [if_neg h, if_pos h2]
theorem signS_two {st : Js.St} (h : ¬ ((Js.fourS st).1 < 55296 ∨ 57343 < (Js.fourS st).1)) (h2 : ¬ (56320 ≤ (Js.fourS st).1 ∨ ([92, 117] : Js.Bs).isPrefixOf (Js.fourS st).2.s = false)) (st2 : Js.St) (hst2 : st2 = { (Js.fourS st).2 with s := (Js.fourS st).2.s.drop 2 }) :
    Js.signS st = (Lib.encodeRune (65536 + ((Js.fourS st).1 - 55296) * 1024 + (Js.fourS st2).1 - 56320), if (Js.fourS st2).1 < 56320 ∨ 57343 < (Js.fourS st2).1 then Js.failS (Js.fourS st2).2 11 else (Js.fourS st2).2) := by
  subst hst2
  unfold Js.signS
  simp only
  rw [if_neg h, if_neg h2]

set_option maxHeartbeats 2000000 in
theorem json_sign (B r : Nat) (st : Js.St) (w : World) (h : RSt w r st) (hT : Tb B w) (hB : B ≤ r) :
    Calls Tryz.prog 265 #[.pointer (some ⟨r, 0, none⟩)] w (RDid w r (Js.signS st).2 (.string (ba (Js.signS st).1))) := by
  have hx := fourS_range st
  have hf := json_four B r st w h hT hB
  have hs1 := @signS_one st
  have hs2 := @signS_bad st
  have hs3 := @signS_two st
  obtain ⟨x, hx'⟩ : ∃ x, (Js.fourS st).1 = x := ⟨_, rfl⟩
  obtain ⟨st1, hst1⟩ : ∃ s, (Js.fourS st).2 = s := ⟨_, rfl⟩
  simp only [hx', hst1] at hx hf hs1 hs2 hs3
  have HF := Lib.hid hf
  have HT := Lib.hid hT
  clear hf hx' hst1 hT h
  by_cases h1 : x < 55296 ∨ 57343 < x
  · have H1 := Lib.hid (hs1 h1)
    clear hs1 hs2 hs3
    have e1 : (decide (x < 55296) || decide (57343 < x)) = true := by simp; omega
    rw [H1.out]
    clear H1
    rcases h1 with h1 | h1
    · go_enter Tryz.func265, Tryz.ntmps265
      go_wp2_with fail
      refine HF.out.mono ?_
      rintro e w1 ⟨rfl, k1, g1⟩
      have HG := Lib.hid g1
      clear g1
      go_wp2
      go_ret
      exact ⟨ret_str (encode_eq x), k1, HG.out⟩
    · go_enter Tryz.func265, Tryz.ntmps265
      go_wp2_with fail
      refine HF.out.mono ?_
      rintro e w1 ⟨rfl, k1, g1⟩
      have HG := Lib.hid g1
      clear g1
      go_wp2
      go_ret
      exact ⟨ret_str (encode_eq x), k1, HG.out⟩
  · have e1 : decide (x < 55296) = false := by simp; omega
    have e2 : decide (57343 < x) = false := by simp; omega
    by_cases h2 : 56320 ≤ x ∨ ([92, 117] : Js.Bs).isPrefixOf st1.s = false
    · have H1 := Lib.hid (hs2 h1 h2)
      clear hs1 hs2 hs3
      rw [H1.out]
      clear H1
      have H2 := Lib.hid h2
      clear h2
      go_enter Tryz.func265, Tryz.ntmps265
      go_wp2_with fail
      refine HF.out.mono ?_
      rintro e w1 ⟨rfl, k1, g1⟩
      have HG := Lib.hid g1
      have HK := Lib.hid k1
      obtain ⟨s, HS, HB, hl, c0, c1, c2, f0, f1, f2⟩ := k1.op
      clear g1 k1
      go_wp2_with fail
      refine (Tryz.strings_CutPrefix s ⟨#[92, 117]⟩ w1).mono ?_
      rintro e w2 ⟨rfl, rfl⟩
      by_cases h3 : 56320 ≤ x
      · have e3 : decide (56320 ≤ x) = true := by simpa using h3
        clear H2
        go_wp2_with fail
        all_goals
          refine (json_fail r st1 11 _ HK.out).mono ?_
          rintro e w2 ⟨rfl, k2, g2⟩
          have HG2 := Lib.hid g2
          clear g2
          go_wp2
          go_ret
          exact ⟨rfl, k2, gb_trans HG.out HG2.out⟩
      · have e3 : decide (56320 ≤ x) = false := by simpa using h3
        have hpre : Lib.hasPrefix s.data.toList [92, 117] = false := by
          rw [HS.out]
          rcases H2.out with h | h
          · exact absurd h h3
          · exact h
        rw [show (⟨#[92, 117]⟩ : ByteArray).data.toList = [92, 117] from rfl, hpre]
        clear H2
        go_wp2_with fail
        refine (json_fail r st1 11 _ HK.out).mono ?_
        rintro e w2 ⟨rfl, k2, g2⟩
        have HG2 := Lib.hid g2
        clear g2
        go_wp2
        go_ret
        exact ⟨rfl, k2, gb_trans HG.out HG2.out⟩
    · have hs3' := hs3 h1 h2 _ rfl
      obtain ⟨st2, hst2⟩ : ∃ s2 : Js.St, ({ st1 with s := st1.s.drop 2 } : Js.St) = s2 := ⟨_, rfl⟩
      rw [hst2] at hs3'
      have hy := fourS_range st2
      have hpre : Lib.hasPrefix st1.s [92, 117] = true := by
        exact eq_true_of_ne_false (fun h => h2 (.inr h))
      have h3 : x < 56320 := by omega
      have e3 : decide (56320 ≤ x) = false := by simp; omega
      obtain ⟨y, hy'⟩ : ∃ y, (Js.fourS st2).1 = y := ⟨_, rfl⟩
      obtain ⟨st3, hst3⟩ : ∃ s, (Js.fourS st2).2 = s := ⟨_, rfl⟩
      have hf2 := fun (W : World) (h : RSt W r st2) (hT : Tb B W) => json_four B r st2 W h hT hB
      rw [hst3, hy'] at hf2 hs3'
      rw [hy'] at hy
      obtain ⟨st4, hst4⟩ : ∃ s : Js.St, (if y < 56320 ∨ 57343 < y then Js.failS st3 11 else st3) = s := ⟨_, rfl⟩
      rw [hst4] at hs3'
      have H4 := Lib.hid hst4
      clear hst4
      have HS3 := Lib.hid hs3'
      have HF2 := Lib.hid hf2
      have HST := Lib.hid hst2
      have HP := Lib.hid hpre
      clear hs1 hs2 hs3 hs3' hf2 hst2 hst3 hy' hpre h2
      rw [HS3.out]
      go_enter Tryz.func265, Tryz.ntmps265
      go_wp2_with fail
      refine HF.out.mono ?_
      rintro e w1 ⟨rfl, k1, g1⟩
      have HG := Lib.hid g1
      have HK := Lib.hid k1
      obtain ⟨s, HS, HB, hl, c0, c1, c2, f0, f1, f2⟩ := k1.op
      clear g1 k1
      go_wp2_with fail
      refine (Tryz.strings_CutPrefix s ⟨#[92, 117]⟩ w1).mono ?_
      rintro e w2 ⟨rfl, rfl⟩
      rw [show (⟨#[92, 117]⟩ : ByteArray).data.toList = [92, 117] from rfl, show Lib.hasPrefix s.data.toList [92, 117] = true by rw [HS.out]; exact HP.out]
      have hcut : Lib.trimPrefix s.data.toList [92, 117] = st1.s.drop 2 := by
        rw [HS.out, Lib.trimPrefix, show Lib.hasPrefix st1.s [92, 117] = true from HP.out]; rfl
      have HCUT := Lib.hid hcut
      clear hcut
      go_wp2_with fail
      have k2 : RSt (w2.setCell ⟨r, 0, none⟩ (.string ⟨(Lib.trimPrefix s.data.toList [92, 117]).toArray⟩)) r st2 := by
        refine RSt.of (ba (Lib.trimPrefix s.data.toList [92, 117])) (by rw [ba_list, HCUT.out, ← HST.out]) ?_ ?_
        · exact blk_eq (blk_set' HB.out 0 _) (by simp [ba, ← HST.out])
        · rw [sz_ba, HCUT.out, List.length_drop, ← HS.out, sz_of]; omega
      have g2 := gb_set (gb_refl w2 (some r)) (p := ⟨r, 0, none⟩) (.inr rfl) (.string ⟨(Lib.trimPrefix s.data.toList [92, 117]).toArray⟩)
      have hT2 := ((HT.out.gb HG.out (fun k e => by cases e; exact hB))).gb g2 (fun k e => by cases e; exact hB)
      refine (HF2.out _ k2 hT2).mono ?_
      rintro e w4 ⟨rfl, k3, g3⟩
      have HG3 := Lib.hid (gb_trans HG.out (gb_trans g2 g3))
      clear g3 g2 hT2 k2 c0 c1 c2 f0 f1 f2
      by_cases h4 : y < 56320 ∨ 57343 < y
      · have HIF := Lib.hid ((H4.out).symm.trans (if_pos h4))
        have HK3 := Lib.hid k3
        clear k3
        rcases h4 with h4 | h4
        all_goals
          go_wp2_with fail
          refine (json_fail r st3 11 _ HK3.out).mono ?_
          rintro e w3 ⟨rfl, k4, g4⟩
          have HG4 := Lib.hid g4
          clear g4
          go_wp2
          go_ret
          exact ⟨ret_str (encode_eq _), by rw [HIF.out]; exact k4, gb_trans HG3.out HG4.out⟩
      · have HIF := Lib.hid ((H4.out).symm.trans (if_neg h4))
        have e5 : decide (y < 56320) = false := by simp; omega
        have e6 : decide (57343 < y) = false := by simp; omega
        go_wp2
        go_ret
        exact ⟨ret_str (encode_eq _), by rw [HIF.out]; exact k3, HG3.out⟩
end Go.Proofs.YtocjlbpehfpdoaaGreatDoor

set_option linter.unusedVariables false
set_option linter.unusedSimpArgs false
namespace Go.Proofs.YtocjlbpehfpdoaaGreatDoor
open Go.RowKit

/-- Where a sign stands among those that stand behind a backslash. -/
theorem esc_some (c x : UInt8) (h : Js.esc c = some x) : ∃ i : Nat, i < 8 ∧ Lib.indexByte [34, 92, 47, 98, 102, 110, 114, 116] c = (i : Int) ∧ (⟨#[34, 92, 47, 8, 12, 10, 13, 9]⟩ : ByteArray).extract i (i + 1) = ba [x] := by
  unfold Js.esc at h
  split at h
  · cases h; subst_vars; exact ⟨0, by omega, by decide +kernel, by decide +kernel⟩
  split at h
  · cases h; subst_vars; exact ⟨1, by omega, by decide +kernel, by decide +kernel⟩
  split at h
  · cases h; subst_vars; exact ⟨2, by omega, by decide +kernel, by decide +kernel⟩
  split at h
  · cases h; subst_vars; exact ⟨3, by omega, by decide +kernel, by decide +kernel⟩
  split at h
  · cases h; subst_vars; exact ⟨4, by omega, by decide +kernel, by decide +kernel⟩
  split at h
  · cases h; subst_vars; exact ⟨5, by omega, by decide +kernel, by decide +kernel⟩
  split at h
  · cases h; subst_vars; exact ⟨6, by omega, by decide +kernel, by decide +kernel⟩
  split at h
  · cases h; subst_vars; exact ⟨7, by omega, by decide +kernel, by decide +kernel⟩
  · cases h
theorem esc_none (c : UInt8) (h : Js.esc c = none) : Lib.indexByte [34, 92, 47, 98, 102, 110, 114, 116] c = -1 := by
  refine indexByte_none _ _ (fun b hb e => ?_)
  subst e
  revert h
  simp only [List.mem_cons, List.not_mem_nil, or_false] at hb
  rcases hb with rfl | rfl | rfl | rfl | rfl | rfl | rfl | rfl <;> decide +kernel

theorem escape_nil {st : Js.St} (h : st.s = []) : Js.escapeS st = ([], Js.failS st 11) := by simp [Js.escapeS, h]
theorem escape_u {st : Js.St} {r : Js.Bs} (h : st.s = 117 :: r) : Js.escapeS st = Js.signS ⟨r, st.o, st.e⟩ := by simp [Js.escapeS, h]
theorem escape_c {st : Js.St} {c : UInt8} {r : Js.Bs} (h : st.s = c :: r) (hc : c ≠ 117) : Js.escapeS st = (match Js.esc c with | some x => ([x], ⟨r, st.o, st.e⟩) | none => ([], Js.failS ⟨r, st.o, st.e⟩ 11)) := by
  simp only [Js.escapeS, h]
  rw [if_neg hc]
  cases Js.esc c <;> rfl

set_option maxHeartbeats 2000000 in
theorem json_escape (B r : Nat) (st : Js.St) (w : World) (h : RSt w r st) (hT : Tb B w) (hB : B ≤ r) :
    Calls Tryz.prog 224 #[.pointer (some ⟨r, 0, none⟩)] w (RDid w r (Js.escapeS st).2 (.string (ba (Js.escapeS st).1))) := by
  have HR := Lib.hid h
  have HT := Lib.hid hT
  obtain ⟨s, HS, HB, hl, c0, c1, c2, f0, f1, f2⟩ := h.op
  clear h hT
  cases hss : st.s with
  | nil =>
    have hs : s = ⟨#[]⟩ := ba_of (by rw [HS.out, hss])
    subst hs
    have HE := Lib.hid (escape_nil hss)
    clear hss
    rw [HE.out]
    go_enter Tryz.func224, Tryz.ntmps224
    go_wp2_with fail
    refine (json_fail r st 11 _ HR.out).mono ?_
    rintro e w2 ⟨rfl, k2, g2⟩
    have HG2 := Lib.hid g2
    clear g2
    go_wp2
    go_ret
    exact ⟨rfl, k2, HG2.out⟩
  | cons c rest =>
    have hsl : s.data.toList = c :: rest := by rw [HS.out, hss]
    have hsz : s.size = rest.length + 1 := by rw [← sz_of, hsl]; rfl
    have hne : s.toList.isEmpty = false := by rw [ByteArray.toList_eq, hsl]; rfl
    have hc0 : s[0]'(by omega) = c := by
      have : s.data.toList[0]'(by rw [hsl]; simp) = c := by simp [hsl]
      simpa [ByteArray.getElem_eq_getElem_data] using this
    have ix : ∀ W, (Instr.index 9 (.string s) (.int .i64 0)).run Tryz.prog W = .ok (.int .u8 (c.toNat:Int)) W := fun W => run_idx s 0 (by omega) c.toNat (by rw [hc0]) W
    have hext : (s.extract 1 s.size).data.toList = rest := by rw [Lib.extract_to_end, hsl]; rfl
    have hext2 : (s.extract 1 s.size).size = rest.length := by rw [ByteArray.size_extract]; omega
    have hszi : 1 ≤ s.size := by omega
    have k1 : RSt (w.setCell ⟨r, 0, none⟩ (.string (s.extract 1 s.size))) r ⟨rest, st.o, st.e⟩ :=
      RSt.of _ hext (blk_set' HB.out 0 _) (by omega)
    have g1 := gb_set (gb_refl w (some r)) (p := ⟨r, 0, none⟩) (.inr rfl) (.string (s.extract 1 s.size))
    have HK1 := Lib.hid k1
    have HG1 := Lib.hid g1
    have HT1 := Lib.hid (HT.out.gb g1 (fun k e => by cases e; exact hB))
    have HSS := Lib.hid hss
    clear hc0 hext hext2 k1 g1 hss hsl hsz
    by_cases h117 : c = 117
    · subst h117
      have HE := Lib.hid (escape_u HSS.out)
      rw [HE.out]
      have hcall := json_sign B r ⟨rest, st.o, st.e⟩ _ HK1.out HT1.out hB
      have HC := Lib.hid hcall
      clear hcall
      go_enter Tryz.func224, Tryz.ntmps224
      go_wp2_with fail
      refine HC.out.mono ?_
      rintro e w2 ⟨rfl, k2, g2⟩
      have HG2 := Lib.hid g2
      clear g2
      go_wp2
      go_ret
      exact ⟨rfl, k2, gb_trans HG1.out HG2.out⟩
    · have HE := Lib.hid (escape_c HSS.out h117)
      have e1 : ((c.toNat : Int) == 117) = false := by
        rw [beq_eq_false_iff_ne]
        intro h
        exact h117 (UInt8.toNat_inj.1 (by simpa using (show c.toNat = 117 by omega)))
      have hIB : ∀ W, Calls Tryz.prog 266 #[.string ⟨#[34, 92, 47, 98, 102, 110, 114, 116]⟩, .int .u8 (c.toNat : Int)] W fun e w' => e = .returned (.int .i64 (Lib.indexByte [34, 92, 47, 98, 102, 110, 114, 116] c)) ∧ w' = W := by
        intro W
        have h := Tryz.strings_IndexByte ⟨#[34, 92, 47, 98, 102, 110, 114, 116]⟩ (c.toNat : Int) W
        rwa [Int.toNat_natCast, show c.toNat.toUInt8 = c by simp] at h
      rw [HE.out]
      cases hec : Js.esc c with
      | none =>
        simp only
        have hi := esc_none c hec
        rw [hi] at hIB
        have HIB := Lib.hid hIB
        clear hi hIB hec h117
        go_enter Tryz.func224, Tryz.ntmps224
        go_wp2_with fail
        refine (HIB.out _).mono ?_
        rintro e w2 ⟨rfl, rfl⟩
        go_wp2_with fail
        refine (json_fail r ⟨rest, st.o, st.e⟩ 11 _ HK1.out).mono ?_
        rintro e w2 ⟨rfl, k2, g2⟩
        have HG2 := Lib.hid g2
        clear g2
        go_wp2
        go_ret
        exact ⟨rfl, k2, gb_trans HG1.out HG2.out⟩
      | some x =>
        simp only
        obtain ⟨i, hi8, hi, hx⟩ := esc_some c x hec
        rw [hi] at hIB
        have HIB := Lib.hid hIB
        have a1 : IntKind.i64.wrap ((i : Int) + 1) = (i : Int) + 1 := IntWalk.i64_in _ (by omega)
        have sl : ∀ W, (Instr.slice 9 (.string ⟨#[34, 92, 47, 8, 12, 10, 13, 9]⟩) (some (.int .i64 (i : Int))) (some (.int .i64 ((i : Int) + 1))) none).run Tryz.prog W = .ok (.string (ba [x])) W := by
          intro W
          have := run_slice_string W 9 ⟨#[34, 92, 47, 8, 12, 10, 13, 9]⟩ .i64 .i64 (i : Int) ((i : Int) + 1) Tryz.underlying9 (by omega) (by omega) (by show (i : Int) + 1 ≤ ((8 : Nat) : Int); omega)
          rw [this, Int.toNat_natCast, show ((i : Int) + 1).toNat = i + 1 by omega, hx]
        have e2 : decide ((i : Int) < 0) = false := by simp
        clear hi hIB hec h117 hx
        go_enter Tryz.func224, Tryz.ntmps224
        go_wp2_with fail
        refine (HIB.out _).mono ?_
        rintro e w2 ⟨rfl, rfl⟩
        go_wp2
        go_ret
        exact ⟨rfl, HK1.out, HG1.out⟩
end Go.Proofs.YtocjlbpehfpdoaaGreatDoor

set_option linter.unusedVariables false
set_option linter.unusedSimpArgs false
namespace Go.Proofs.YtocjlbpehfpdoaaGreatDoor
open Go.RowKit

/-! ### lengths -/
theorem fail_s (st : Js.St) (e : Int) : (Js.failS st e).s = st.s := by unfold Js.failS; split <;> rfl
theorem fail_o (st : Js.St) (e : Int) : (Js.failS st e).o = st.o := by unfold Js.failS; split <;> rfl
theorem four_len (st : Js.St) : (Js.fourS st).2.s.length ≤ st.s.length := by
  unfold Js.fourS
  split
  · simp
  · rw [fail_s]; exact Nat.le_refl _
theorem sign_len (st : Js.St) : (Js.signS st).2.s.length ≤ st.s.length ∧ (Js.signS st).1.length ≤ 4 := by
  have h1 := four_len st
  have he : ∀ r, (Lib.encodeRune r).length ≤ 4 := fun r => by unfold Lib.encodeRune; simp [(Lib.encodeRuneZ_length r).2]
  unfold Js.signS
  simp only
  split
  · exact ⟨h1, he _⟩
  · split
    · rw [fail_s]; exact ⟨h1, by simp⟩
    · have h2 := four_len { (Js.fourS st).2 with s := (Js.fourS st).2.s.drop 2 }
      simp only [List.length_drop] at h2
      refine ⟨?_, he _⟩
      show (if _ then _ else _ : Js.St).s.length ≤ _
      split
      · rw [fail_s]; omega
      · omega
theorem esc_len (st : Js.St) : (Js.escapeS st).2.s.length ≤ st.s.length ∧ (Js.escapeS st).1.length ≤ 4 := by
  unfold Js.escapeS
  split
  · rw [fail_s]; simp
  · rename_i c r h
    simp only
    split
    · have := sign_len ⟨r, st.o, st.e⟩
      simp only at this
      rw [h]
      simp only [List.length_cons]
      omega
    · split
      · simp [h]
      · rw [fail_s]; simp [h]
theorem decode_q (s : Js.Bs) (h : s ≠ []) (hd : (Lib.decodeL s).1 = 34 ∨ (Lib.decodeL s).1 = 92) : s.getD 0 0 = 34 ∨ s.getD 0 0 = 92 := by
  cases s with
  | nil => exact absurd rfl h
  | cons b t =>
    by_cases ha : b.toNat < 128
    · rw [Lib.decodeL_ascii b t ha] at hd
      simp only [List.getD_cons_zero]
      rcases hd with hd | hd
      · exact .inl (UInt8.toNat_inj.1 hd)
      · exact .inr (UInt8.toNat_inj.1 hd)
    · exfalso
      have h2 := decode_far b t (by omega)
      omega
theorem plain_facts : ∀ (n : Nat) (s : Js.Bs), s.length ≤ n → (Js.plain s).1 ≤ s.length ∧ ((Js.plain s).2 = true → (Js.plain s).1 < s.length ∧ (s.getD (Js.plain s).1 0 = 34 ∨ s.getD (Js.plain s).1 0 = 92))
  | 0, s, h => by
    have : s = [] := List.length_eq_zero_iff.1 (by omega)
    subst this
    simp [plain_nil]
  | n + 1, s, h => by
    by_cases hs : s = []
    · subst hs; simp [plain_nil]
    · rw [plain_step s hs]
      have hlen : 0 < s.length := List.length_pos_iff.2 hs
      by_cases h1 : (Lib.decodeL s).1 = 34 ∨ (Lib.decodeL s).1 = 92
      · rw [if_pos h1]
        exact ⟨Nat.zero_le _, fun _ => ⟨hlen, decode_q s hs h1⟩⟩
      · rw [if_neg h1]
        by_cases h2 : (Lib.decodeL s).1 < 32
        · rw [if_pos h2]; simp
        · rw [if_neg h2]
          by_cases h3 : (Lib.decodeL s).1 = 65533 ∧ (Lib.decodeL s).2 < 2
          · rw [if_pos h3]; simp
          · rw [if_neg h3]
            have hw := Lib.decodeL_width s
            have hle := Lib.decodeL_le s hs
            have ih := plain_facts n (s.drop (Lib.decodeL s).2) (by rw [List.length_drop]; omega)
            rw [List.length_drop] at ih
            refine ⟨by simp only; omega, fun ht => ?_⟩
            have ih2 := ih.2 ht
            refine ⟨by simp only; omega, ?_⟩
            simpa [List.getD_eq_getElem?_getD, List.getElem?_drop] using ih2.2
/-- A builder of the call's own is kept by what turns an elder row. -/
theorem bld_kept {T e : TypeId} {B b r : Nat} {bs : List Value} {w w' : World} (h : Lib.IsBuilderF T e B b bs w) (hg : w.grownBy w' (some r)) (hr : r < B) : Lib.IsBuilderF T e B b bs w' := by
  have key : ∀ p, Lib.BuilderAtF T e B b p bs w → Lib.BuilderAtF T e B b p bs w' := by
    rintro p ⟨hB, v, hb, hown, hne⟩
    refine ⟨hB, v, gb_blk hg hb (by simp; omega), hown.kept hg (.inr fun e => ?_), hne⟩
    have := hown.lt r e
    omega
  exact h.elim (fun x => .inl (key _ x)) (fun x => .inr (key _ x))
theorem bld_gbn {T e : TypeId} {B b : Nat} {bs : List Value} {w w' : World} (h : Lib.IsBuilderF T e B b bs w) (hg : w.grownBy w' none) : Lib.IsBuilderF T e B b bs w' := by
  have key : ∀ p, Lib.BuilderAtF T e B b p bs w → Lib.BuilderAtF T e B b p bs w' := by
    rintro p ⟨hB, v, hb, hown, hne⟩
    refine ⟨hB, v, gb_blk hg hb (by simp), hown.kept hg ?_, hne⟩
    cases ho : v.ownBlock
    · exact .inl rfl
    · exact .inr (by simp)
  exact h.elim (fun x => .inl (key _ x)) (fun x => .inr (key _ x))
theorem bld_new (w : World) : Lib.IsBuilderF 214 5 w.heap.size w.heap.size (Lib.byteCells []) (w.alloc (.cells #[.pointer none, .slice none 0 0] 214 (0, 0))) :=
  .inl ⟨Nat.le_refl _, .slice none 0 0, blk_new w _, World.ownsRowF_nil _ _ _ _, by simp [Value.ownBlock]⟩
/-- Below the size of an elder world: nothing has turned. -/
theorem gb_bel {a b c : World} {row : Option Nat} (h : a.grownBy b row) (k : Below a.heap.size b c) : a.grownBy c row :=
  ⟨k.os.trans h.os, k.tape.trans h.tape, k.output.trans h.output, Nat.le_trans h.size k.size, fun i hi hr => (k.block i hi).trans (h.block i hi hr)⟩
theorem RSt.bel {w w' : World} {r B : Nat} {st : Js.St} (h : RSt w r st) (hg : Below B w w') (hr : r < B) : RSt w' r st := by
  obtain ⟨⟨s, hs, hb⟩, hl⟩ := h
  exact ⟨⟨s, hs, (hg.block r hr).trans hb⟩, hl⟩
theorem Tb.bel {B C : Nat} {w w' : World} (h : Tb B w) (hg : Below C w w') (hB : B ≤ C) : Tb B w' :=
  h.below ⟨hg.os, hg.tape, hg.output, hg.size, fun k hk => hg.block k (by omega)⟩
theorem byteCells_str (l : Js.Bs) (s : ByteArray) (m : Js.Bs) (h : s.data.toList = m) : Lib.byteCells l ++ Lib.strCells s = Lib.byteCells (l ++ m) := by
  subst h
  simp [Lib.byteCells, Lib.strCells]
end Go.Proofs.YtocjlbpehfpdoaaGreatDoor

set_option linter.unusedVariables false
set_option linter.unusedSimpArgs false
namespace Go.Proofs.YtocjlbpehfpdoaaGreatDoor
open Go.RowKit

theorem trimL (s : Js.Bs) (cs : ByteArray) (hcs : cs.size < 4294967281) (hb : cs.data.toList.all (fun b => decide (b.toNat < 128)) = true) (w : World) :
    Calls Tryz.prog 112 #[.string (ba s), .string cs] w fun e w' => e = .returned (.string (ba (Lib.trimLeftS s cs.data.toList))) ∧ w.grownBy w' none :=
  (Tryz.strings_TrimLeft_set (ba s) cs w hcs (ascii_of_all hb)).mono (fun e w' h => ⟨h.1, gb_below h.2⟩)
theorem trimR (s : Js.Bs) (hs : s.length ≤ 9223372036854775807) (cs : ByteArray) (hcs : cs.size < 4294967281) (hb : cs.data.toList.all (fun b => decide (b.toNat < 128)) = true) (w : World) :
    Calls Tryz.prog 271 #[.string (ba s), .string cs] w fun e w' => e = .returned (.string (ba (Lib.trimRightS s cs.data.toList))) ∧ w.grownBy w' none :=
  (Tryz.strings_TrimRight_set (ba s) cs w (by rw [sz_ba]; exact hs) hcs (ascii_of_all hb)).mono (fun e w' h => ⟨h.1, gb_below h.2⟩)
theorem ba_ext (s : Js.Bs) (k : Nat) : (ba s).extract 0 k = ba (s.take k) := by
  apply ba_of
  rw [ext_list, ba_list]
  simp
theorem ba_extl (s : Js.Bs) (k : Nat) : (ba s).extract k (ba s).size = ba (s.drop k) := by
  apply ba_of
  rw [Lib.extract_to_end, ba_list]

theorem trimR_len (l cs : Js.Bs) : (Lib.trimRightS l cs).length ≤ l.length := by
  unfold Lib.trimRightS
  rw [List.length_reverse]
  have := (List.dropWhile_sublist (l := l.reverse) (cs.contains ·)).length_le
  rwa [List.length_reverse] at this

set_option maxHeartbeats 2000000 in
theorem num_run (s : Js.Bs) (w : World) (hs : s.length ≤ 100000) :
    Calls Tryz.prog 205 #[.string (ba s)] w fun e w' => e = .returned (.tuple #[.string (ba (Js.run s).1), .string (ba (Js.run s).2)]) ∧ w.grownBy w' none := by
  have hL := trim_len s Js.digits10
  have e1 : Js.run s = (s.take (s.length - (Lib.trimLeftS s Js.digits10).length), Lib.trimLeftS s Js.digits10) := rfl
  obtain ⟨t, ht⟩ : ∃ t, Lib.trimLeftS s Js.digits10 = t := ⟨_, rfl⟩
  rw [ht] at e1 hL
  have hcall := fun W => trimL s ⟨#[48, 49, 50, 51, 52, 53, 54, 55, 56, 57]⟩ (by decide) (by decide) W
  rw [show (⟨#[48, 49, 50, 51, 52, 53, 54, 55, 56, 57]⟩ : ByteArray).data.toList = Js.digits10 from rfl, ht] at hcall
  have HC := Lib.hid hcall
  have E1 := Lib.hid e1
  have z1 := sz_ba s
  have z2 := sz_ba t
  have a1 : IntKind.i64.wrap (((ba s).size : Int) - (ba t).size) = ((ba s).size : Int) - (ba t).size := IntWalk.i64_in _ (by omega)
  have sl : ∀ W, (Instr.slice 9 (.string (ba s)) none (some (.int .i64 (((ba s).size : Int) - (ba t).size))) none).run Tryz.prog W = .ok (.string (ba (s.take (s.length - t.length)))) W := by
    intro W
    rw [run_slice_string_h (w := W) (h := ((ba s).size : Int) - (ba t).size) (ht := Tryz.underlying9) (h0 := by omega) (h2 := by omega), ← ba_ext, show (((ba s).size : Int) - (ba t).size).toNat = s.length - t.length by omega]
  clear e1 hcall ht z1 z2 hL
  go_enter Tryz.func205, Tryz.ntmps205
  go_wp2_with fail
  refine (HC.out _).mono ?_
  rintro e w1 ⟨rfl, g1⟩
  have HG := Lib.hid g1
  clear g1
  go_wp2
  go_ret2
  rw [E1.out]
  exact ⟨rfl, HG.out⟩

/-- A reader of a number: what is left, whether something is bad. -/
def NSt (w : World) (g : Nat) (s : Js.Bs) (bad : Bool) : Prop := w.heap[g]? = some (.cells #[.string (ba s), .bool bad] 281 (0, 0)) ∧ s.length ≤ 100000

theorem NSt.op {w : World} {g : Nat} {s : Js.Bs} {bad : Bool} (h : NSt w g s bad) : w.cell? ⟨g, 0, none⟩ = some (.string (ba s)) ∧ w.cell? ⟨g, 1, none⟩ = some (.bool bad) ∧ w.frozen? ⟨g, 0, none⟩ = false ∧ w.frozen? ⟨g, 1, none⟩ = false :=
  ⟨by rw [blk_c h.1]; rfl, by rw [blk_c h.1]; rfl, blk_f h.1 0, blk_f h.1 1⟩
theorem NSt.gb {w w' : World} {g : Nat} {s : Js.Bs} {bad : Bool} {row : Option Nat} (h : NSt w g s bad) (hg : w.grownBy w' row) (hne : some g ≠ row) : NSt w' g s bad := ⟨gb_blk hg h.1 hne, h.2⟩

theorem index_ge (l : Js.Bs) (c : UInt8) : -1 ≤ Lib.indexByte l c := by
  induction l with
  | nil => simp [Lib.indexByte]
  | cons b l ih =>
    rw [Lib.indexByte]
    split
    · omega
    · split <;> omega
theorem contains_index (l : Js.Bs) (c : UInt8) : decide (0 ≤ Lib.indexByte l c) = l.contains c := by
  induction l with
  | nil => rfl
  | cons b l ih =>
    rw [Lib.indexByte, List.contains_cons]
    have hge := index_ge l c
    by_cases hb : b = c
    · subst hb; simp
    · have h1 : (b == c) = false := by simpa using hb
      have h2 : (c == b) = false := by simpa using fun h => hb h.symm
      rw [h1, h2, Bool.false_or, ← ih]
      simp only [Bool.false_eq_true, if_false, beq_iff_eq]
      split
      · rename_i h
        rw [h]
      · rename_i h
        rw [decide_eq_decide]
        omega

set_option maxHeartbeats 2000000 in
theorem num_sign (g : Nat) (s : Js.Bs) (bad : Bool) (l : ByteArray) (w : World) (h : NSt w g s bad) :
    Calls Tryz.prog 234 #[.pointer (some ⟨g, 0, none⟩), .string l] w fun e w' => e = .returned (.string (ba (Js.nsign l.data.toList s).1)) ∧ NSt w' g (Js.nsign l.data.toList s).2 bad ∧ w.grownBy w' (some g) := by
  obtain ⟨c0, c1, f0, f1⟩ := h.op
  have HN := Lib.hid h
  cases s with
  | nil =>
    have e1 : (ba []).toList.isEmpty = true := by rw [ByteArray.toList_eq]; rfl
    clear h
    go_enter Tryz.func234, Tryz.ntmps234
    go_wp2
    go_ret
    exact ⟨rfl, HN.out, gb_refl _ _⟩
  | cons c r =>
    have e1 : (ba (c :: r)).toList.isEmpty = false := by rw [ByteArray.toList_eq]; rfl
    have hz := sz_ba (c :: r)
    have hx : (ba (c :: r)).extract 0 1 = ⟨#[c]⟩ := by rw [ba_ext]; rfl
    have hszi : 1 ≤ (ba (c :: r)).size := by rw [hz]; simp
    have sl1 : ∀ W, (Instr.slice 9 (.string (ba (c :: r))) none (some (.int .i64 1)) none).run Tryz.prog W = .ok (.string ⟨#[c]⟩) W := by
      intro W
      rw [run_slice_string_h (w := W) (h := 1) (ht := Tryz.underlying9) (h0 := by omega) (h2 := by omega)]
      exact congrArg (fun x => Result.ok (Value.string x) W) hx
    have sl2 : ∀ W, (Instr.slice 9 (.string (ba (c :: r))) (some (.int .i64 1)) none none).run Tryz.prog W = .ok (.string (ba r)) W := by
      intro W
      rw [run_slice_string_l (w := W) (l := 1) (ht := Tryz.underlying9) (h0 := by omega) (h1 := by omega)]
      exact congrArg (fun x => Result.ok (Value.string x) W) (ba_extl (c :: r) 1)
    have hcall := fun W => Tryz.strings_Contains_one l c W
    rw [contains_index] at hcall
    have hl := h.2
    clear h hz hx
    cases hc : l.data.toList.contains c
    · rw [hc] at hcall
      have HC := Lib.hid hcall
      have HE := Lib.hid (show Js.nsign l.data.toList (c :: r) = ([], c :: r) by simp [Js.nsign]; simpa using hc)
      clear hc hcall
      rw [HE.out]
      go_enter Tryz.func234, Tryz.ntmps234
      go_wp2_with fail
      refine (HC.out _).mono ?_
      rintro e w1 ⟨rfl, rfl⟩
      go_wp2
      go_ret
      exact ⟨rfl, HN.out, gb_refl _ _⟩
    · rw [hc] at hcall
      have HC := Lib.hid hcall
      have HE := Lib.hid (show Js.nsign l.data.toList (c :: r) = ([c], r) by simp [Js.nsign]; simpa using hc)
      clear hc hcall
      rw [HE.out]
      go_enter Tryz.func234, Tryz.ntmps234
      go_wp2_with fail
      refine (HC.out _).mono ?_
      rintro e w1 ⟨rfl, rfl⟩
      go_wp2
      go_ret
      refine ⟨rfl, ⟨?_, ?_⟩, gb_set (gb_refl _ _) (.inr rfl) _⟩
      · exact blk_eq (blk_set' HN.out.1 0 _) rfl
      · simp only [List.length_cons] at hl; omega

set_option maxHeartbeats 2000000 in
theorem num_digits (g : Nat) (s : Js.Bs) (bad : Bool) (w : World) (h : NSt w g s bad) :
    Calls Tryz.prog 236 #[.pointer (some ⟨g, 0, none⟩)] w fun e w' => e = .returned (.string (ba (Js.run s).1)) ∧ NSt w' g (Js.run s).2 (bad || (Js.run s).1 == []) ∧ w.grownBy w' (some g) := by
  have hlen : (Js.run s).2.length ≤ 100000 := Nat.le_trans (trim_len s Js.digits10) h.2
  have hcall := num_run s w h.2
  obtain ⟨c0, c1, f0, f1⟩ := h.op
  obtain ⟨a, b, hab⟩ : ∃ a b, Js.run s = (a, b) := ⟨_, _, rfl⟩
  rw [hab] at hcall hlen ⊢
  simp only at hcall hlen ⊢
  have HC := Lib.hid hcall
  have HN := Lib.hid h
  have ea : (ba a).toList.isEmpty = (a == []) := by
    rw [ByteArray.toList_eq, ba_list]
    cases a <;> rfl
  clear hcall h hab f0 f1
  rcases (show bad = false ∨ bad = true by cases bad <;> simp) with hbad | hbad
  all_goals
    rw [hbad] at c1
    have HBAD := Lib.hid hbad
    clear hbad
    go_enter Tryz.func236, Tryz.ntmps236
    go_wp2_with fail
    refine HC.out.mono ?_
    rintro e w1 ⟨rfl, g1⟩
    have hb1 := gb_blk g1 HN.out.1 (by simp)
    have HB1 := Lib.hid hb1
    have HG := Lib.hid g1
    have k0 : w1.cell? ⟨g, 0, none⟩ = some (.string (ba s)) := by rw [blk_c hb1]; rfl
    have k1 : w1.cell? ⟨g, 1, none⟩ = some (.bool bad) := by rw [blk_c hb1]; rfl
    rw [HBAD.out] at k1
    have q0 := blk_f hb1 0
    have q1 := blk_f hb1 1
    clear g1 hb1 c0 c1
    go_wp2
    go_ret
    refine ⟨rfl, ⟨?_, hlen⟩, ?_⟩
    · exact blk_eq (blk_set' (blk_set' HB1.out 0 _) 1 _) (by simp [ea, HBAD.out])
    · exact gb_set (gb_set (gb_any HG.out) (p := ⟨g, 0, none⟩) (.inr rfl) _) (p := ⟨g, 1, none⟩) (.inr rfl) _
end Go.Proofs.YtocjlbpehfpdoaaGreatDoor
