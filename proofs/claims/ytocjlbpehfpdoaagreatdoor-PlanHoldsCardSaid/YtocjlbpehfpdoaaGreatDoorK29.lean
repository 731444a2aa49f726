/- The statement PlanHoldsCardSaid: over the program as it was laid, with the listed variables as the program's text lays them, the function PlanHolds of package rubricatorlaw20 returns true at every input, and each argument reads behind the call as it did before. Conditions: those of the given row and card alone. -/
import Derived.Test.YtocjlbpehfpdoaaGreatDoorK15
import Derived.Test.YtocjlbpehfpdoaaGreatDoorK28
set_option linter.unusedVariables false
set_option linter.unusedSimpArgs false
namespace Go.Proofs.YtocjlbpehfpdoaaGreatDoor
open Go.ChangeShapes Go.WideShapes Go.ChangeAt Go.WideMaps Go.WideElems Go.RowKit Go.Lib

abbrev laidL : List (String × DataW Unit) := Rows.planHoldsRow.laid
/-- What the condition gives. -/
theorem of_laidL {W : World} (h : laidMetH Tryz.prog laidL W) : Tabs W ∧ Knd W.heap.size W := by
  rw [MakeChecks.laidMetH_plain _ _ _ (by kernel_rfl)] at h
  have hm : laidMet Tryz.prog laidL W := h
  have e : laidL = [("unicode/utf8.acceptRanges", Rows.laid_unicode_utf8_acceptRanges), ("rubricator/order.kinds", Rows.laid_rubricator_order_kinds), ("unicode.CaseRanges", Rows.laid_unicode_CaseRanges), ("unicode/utf8.first", Rows.laid_unicode_utf8_first)] := rfl
  exact ⟨tabs_of_reads (laidMet.reads hm (e ▸ .tail _ (.tail _ (.tail _ (.head _))))) (laidMet.reads hm (e ▸ .head _)) (laidMet.reads hm (e ▸ .tail _ (.tail _ (.head _)))), kinds_of_reads (laidMet.reads hm (e ▸ .tail _ (.head _)))⟩
set_option maxRecDepth 100000 in
theorem planHolds_lifted (os : Os) (started : os.Started) (H : Type) (enc : TypeId × Value → H) :
    ReturnsInHanded {} Tryz.checked os 3 .any (fun w args => (Rows.planHoldsSpec.pre enc Tryz.prog Tryz.f3 [] false w args ∧ laidMetH Tryz.prog laidL w) ∧ sizedMet enc Tryz.prog Tryz.f3 (OpenSpec.ofChange Rows.planHoldsSpec) false w args)
      (Rows.planHoldsSpec.post enc Tryz.prog Tryz.f3 false true false false) := by
  refine returnsInHanded_of_calls knob started (by kernel_rfl)
    (ChangeSpec.witness_shaped (enc := enc) (C := Tryz.checked) (os := os) (X := fun w _ => laidMetH Tryz.prog laidL w) false (World.laidAll Tryz.prog os laidL) #[.int .i64 0, .string ⟨#[]⟩, .string ⟨#[]⟩, .slice none 0 0] 8 (World.laidAll_os _ _ _)
      (World.shaped_of_ZipB (by kernel_rfl) (by kernel_rfl)) (by kernel_rfl) (by kernel_rfl) (by kernel_rfl)
      (by rw [MakeChecks.laidMetH_plain _ _ _ (by kernel_rfl)]; exact laidMet_laidAll _ (by kernel_rfl) (by kernel_rfl))) ?_
  intro w tape i _ hsh _ hok hpre _
  obtain ⟨_, _, _, fn', hfn', _, _, _, _, hval0⟩ := hok
  obtain rfl : fn' = Tryz.f3 := Option.some.inj (hfn'.symm.trans Tryz.func3)
  obtain ⟨⟨⟨ds, gs, before, hw, hc⟩, hx⟩, hz⟩ := hpre
  have hW := DataW.Whole.of_heap (w' := w.forCall tape i) (by rfl) hw
  have hL : laidMetH Tryz.prog laidL (w.forCall tape i) := hx.of_heap (by rfl)
  obtain ⟨W, hWd⟩ : ∃ W, w.forCall tape i = W := ⟨_, rfl⟩
  obtain ⟨args, hA⟩ : ∃ a, i.args = a := ⟨_, rfl⟩
  have hval : ∀ (j : Nat) t v, Tryz.f3.params[j]? = some t → args[j]? = some v → Value.okWide Tryz.prog W .any w.heap.size t v := by rw [← hWd, ← hA]; exact hval0
  rw [hWd] at hsh hW hL ⊢
  rw [hA] at hW ⊢
  refine Calls.mono (R := fun e W' => ∃ v, e = .returned v ∧ Rows.planHoldsSpec.post enc Tryz.prog Tryz.f3 false true false false W args v W') ?_ (fun e W' ⟨v, he, hp⟩ => by subst he; exact ChangeSpec.post_blind hp)
  have hW' := hW
  obtain ⟨p, q, hA0, hV, rfl, hfz, hnd⟩ := hW
  have hAll : DataW.TrodAll enc Tryz.prog W 0 (fun _ => true) true Tryz.f3.params.toList args.toList ds p := hA0
  rw [Tryz.params3] at hAll hval
  obtain ⟨v0, v1, v2, v3, d0, d1, d2, d3, p0, p1, p2, p3, rfl, rfl, rfl, h0, h1, h2, h3⟩ := trodAll_four hAll
  obtain ⟨rfl, rfl⟩ := trodVars_none hV
  have h3k := h3
  have hv3 := hval 3 22 v3 rfl rfl
  obtain ⟨n, rfl, rfl, rfl, hwn⟩ := open_int Tryz.underlying3 (hval 0 3 v0 rfl rfl) h0
  obtain ⟨s, rfl, rfl, rfl, hss⟩ := Go.ChangeMaps.open_string Tryz.underlying9 (hval 1 9 v1 rfl rfl) h1
  obtain ⟨t, rfl, rfl, rfl, hts⟩ := Go.ChangeMaps.open_string Tryz.underlying9 (hval 2 9 v2 rfl rfl) h2
  obtain ⟨l, hl⟩ := bytes_in hv3 h3
  obtain ⟨hT, hK⟩ := of_laidL hL
  have hc := law_holds n s.data.toList t.data.toList l v3 W.heap.size W hT hK (mx_of_shaped hsh) hl
  rw [← ba_of (s := s) rfl, ← ba_of (s := t) rfl] at hc
  refine hc.mono fun e W' ⟨he, hg⟩ => ?_
  subst he
  have hb := below_gb hg
  have hlt : ∀ x ∈ p3, x.block < W.heap.size := fun x hx => by simpa using hW'.lt x (by simpa using hx)
  refine ⟨_, rfl, _, _, _, [], p3, [], hW', ?_, ?_, ?_, Below.frame hb _, fun h => by cases h⟩
  · exact trodAll_mk1 (shut_bool Tryz.underlying4 true)
  · exact trodAll_mk4 (shut_int Tryz.underlying3 hwn) (Go.ChangeMaps.shut_string Tryz.underlying9 hss) (Go.ChangeMaps.shut_string Tryz.underlying9 hts) (Below.trod laidOutK (by kernel_rfl) (of_decide_eq_true (by kernel_rfl)) h3k hb hlt)
  · rfl
end Go.Proofs.YtocjlbpehfpdoaaGreatDoor
