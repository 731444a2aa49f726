/- package rubricatorlaw20: PlanHolds. -/
import Derived.Test.YtocjlbpehfpdoaaGreatDoorK27
set_option linter.unusedVariables false
set_option linter.unusedSimpArgs false
namespace Go.Proofs.YtocjlbpehfpdoaaGreatDoor
open Go.RowKit

theorem ba_size20 (l : Js.Bs) : (ba l).size = l.length := by simp [ba, ByteArray.size]
theorem v_eta (v : Js.V) : (⟨v.kind, v.is, ⟨v.num.down, v.num.dig, v.num.exp⟩, v.text, v.items, v.names⟩ : Js.V) = v := by cases v; rfl
theorem SlN.one {F : Nat → Prop} {w : World} {n : Js.Bs} {A : Option Addr} {c : Nat} (h : SlN F w [n] (.slice A 1 c)) : ∃ sb so, A = some ⟨sb, so, none⟩ ∧ 1 ≤ c ∧ F sb ∧ sb < w.heap.size ∧ w.cell? ⟨sb, so, none⟩ = some (.string (ba n)) := by
  obtain ⟨A', c', e, h1, h2, h3⟩ := h
  cases e
  rcases h3 with h3 | ⟨b, o, rfl, hb, hf, hc⟩
  · cases h3
  · exact ⟨b, o, rfl, h1, hf, hb, hc 0 _ rfl⟩
/-- What stands in memory where the law compares. -/
def PhS (fb db ib nb sb so : Nat) (x8 f1 : Array Value) (l1 l2 : Js.Bs) (u1 u2 : Value) (W : World) : Prop :=
  W.heap[ib]? = some (.cells x8 29 (0, 0)) ∧ W.heap[nb]? = some (.cells #[.string (ba [97])] 9 (0, 0)) ∧ W.cell? ⟨sb, so, none⟩ = some (.string (ba [97])) ∧ sb < W.heap.size ∧ W.heap[fb]? = some (.cells f1 108 (0, 0)) ∧
  W.heap[db]? = some (.cells #[.int .i64 5, .bool false, .bool false, .string ⟨#[]⟩, .int .i64 0, .string ⟨#[]⟩, .slice (some ⟨ib, 0, none⟩) 1 1, .slice (some ⟨nb, 0, none⟩) 1 1] 29 (0, 0)) ∧ SlB (fun _ => True) W l1 u1 ∧ SlB (fun _ => True) W l2 u2
theorem PhS.gb {fb db ib nb sb so : Nat} {x8 f1 : Array Value} {l1 l2 : Js.Bs} {u1 u2 : Value} {W W' : World} (h : PhS fb db ib nb sb so x8 f1 l1 l2 u1 u2 W) (hg : W.grownBy W' none) : PhS fb db ib nb sb so x8 f1 l1 l2 u1 u2 W' := by
  obtain ⟨h1, h2, h3, h4, h5, h6, h7, h8⟩ := h
  exact ⟨gb_blk hg h1 (by simp), gb_blk hg h2 (by simp), hg.cell h3 (by simp), Nat.lt_of_lt_of_le h4 hg.size, gb_blk hg h5 (by simp), gb_blk hg h6 (by simp), h7.gbn hg, h8.gbn hg⟩
set_option maxRecDepth 100000 in
set_option maxHeartbeats 32000000 in
theorem law_holds (op : Int) (s t more : Js.Bs) (mv : Value) (B : Nat) (w : World) (hT : Tabs w) (hK : Knd B w) (hM : Mx B w) (hmo : SlB (fun _ => True) w more mv) :
    Calls Tryz.prog 3 #[.int .i64 op, .string (ba s), .string (ba t), mv] w (BlOut w true) := by
  obtain ⟨mA, mc, rfl, _, _, _⟩ := hmo.reads
  have HAW := Lib.hid (law_awake B w hT hK)
  by_cases hs : s.length ≤ 300
  rotate_left
  · have e1 : (ba s).size > 300 := by rw [ba_size20]; omega
    have hl : (300 : Int) < ((ba s).size : Int) := by omega
    clear hT hK hM hmo
    go_enter Tryz.func3, Tryz.ntmps3
    go_wp2_with fail
    refine HAW.out.mono ?_
    rintro e w1 ⟨rfl, g1⟩
    have HGZ := Lib.hid g1
    clear g1
    go_wp2_with fail
    go_ret
    exact ⟨rfl, HGZ.out⟩

  by_cases ht : t.length ≤ 300
  rotate_left
  · have e1 : (ba s).size ≤ 300 := by rw [ba_size20]; omega
    have hl : ¬ (300 : Int) < ((ba s).size : Int) := by omega
    have e2 : (ba t).size > 300 := by rw [ba_size20]; omega
    have hl2 : (300 : Int) < ((ba t).size : Int) := by omega
    clear hT hK hM hmo
    go_enter Tryz.func3, Tryz.ntmps3
    go_wp2_with fail
    refine HAW.out.mono ?_
    rintro e w1 ⟨rfl, g1⟩
    have HGZ := Lib.hid g1
    clear g1
    go_wp2_with fail
    go_ret
    exact ⟨rfl, HGZ.out⟩

  have e1 : (ba s).size ≤ 300 := by rw [ba_size20]; omega
  have hl : ¬ (300 : Int) < ((ba s).size : Int) := by omega
  have e2 : (ba t).size ≤ 300 := by rw [ba_size20]; omega
  have hl2 : ¬ (300 : Int) < ((ba t).size : Int) := by omega
  by_cases hm : more.length ≤ 20
  rotate_left
  · have hl3 : (20 : Int) < (more.length : Int) := by omega
    clear hT hK hM hmo
    go_enter Tryz.func3, Tryz.ntmps3
    go_wp2_with fail
    refine HAW.out.mono ?_
    rintro e w1 ⟨rfl, g1⟩
    have HGZ := Lib.hid g1
    clear g1
    go_wp2_with fail
    go_ret
    exact ⟨rfl, HGZ.out⟩

  have hl3 : ¬ (20 : Int) < (more.length : Int) := by omega
  obtain ⟨q, ev, hq⟩ : ∃ q ev, Js.parse t = (q, ev) := ⟨_, _, rfl⟩
  obtain ⟨x, es, hx⟩ : ∃ x es, Js.parse s = (x, es) := ⟨_, _, rfl⟩
  have fq : Fine 4096 q := by have := parse_fine t (by omega); rw [hq] at this; exact this
  have fx : Fine 4096 x := by have := parse_fine s (by omega); rw [hx] at this; exact this
  have HPT := Lib.hid (fun W (hg : w.grownBy W none) => hq ▸ (show Calls Tryz.prog 13 #[.string (ba t)] W (VErr W (Js.parse t).1 (Js.parse t).2) from json_parse (ba t) W (hT.below (below_gb hg))))
  have HPS := Lib.hid (fun W (hg : w.grownBy W none) => hx ▸ (show Calls Tryz.prog 13 #[.string (ba s)] W (VErr W (Js.parse s).1 (Js.parse s).2) from json_parse (ba s) W (hT.below (below_gb hg))))
  have HC := Lib.hid (fun W tb (hg : w.grownBy W none) hb => flt_compile op [97] t B tb W hb (hM.gbn hg) (hT.below (below_gb hg)) (by simp))
  have hfa := fun h h4 => fcomp_a op t h h4
  rw [hq] at hfa
  obtain ⟨R, hR⟩ : ∃ R, fcomp op [97] t = R := ⟨_, rfl⟩
  rw [hR] at hfa HC
  obtain ⟨⟨op', l, q'⟩, ec⟩ := R
  simp only at hfa HC
  have HFA := Lib.hid hfa
  have HK := Lib.hid hK
  have HFQ := Lib.hid fq
  have HFX := Lib.hid fx
  have HMO := Lib.hid hmo
  obtain ⟨K, ko, hko⟩ : ∃ K ko, Js.okey x = (K, ko) := ⟨_, _, rfl⟩
  have HKO := Lib.hid hko
  clear hT hK hM hmo hs ht hm hq hx fq fx hfa hR hko
  go_enter Tryz.func3, Tryz.ntmps3
  go_wp2_with fail
  refine HAW.out.mono ?_
  rintro e w1 ⟨rfl, g1⟩
  have HG1 := Lib.hid g1
  clear g1
  go_wp2_with fail
  refine (HPT.out _ HG1.out).mono ?_
  rintro e w2 ⟨si, sn, rfl, hv, g2⟩
  obtain ⟨cA, cl, cc, dA, dl, dc, rfl, rfl⟩ := RdV.two hv
  simp only [vcs]
  have HG2 := Lib.hid (gb_alloc (gb_trans HG1.out g2) (.cells #[.int .i64 q.kind, .bool q.is, .bool q.num.down, .string (ba q.num.dig), .int .i64 q.num.exp, .string (ba q.text), .slice cA cl cc, .slice dA dl dc] 29 (0, 0)))
  clear hv g2
  go_wp2_with fail
  refine (HPS.out _ HG2.out).mono ?_
  rintro e w3 ⟨si, sn, rfl, hv, g3⟩
  obtain ⟨aA, al, ac, zA, zl, zc, rfl, rfl⟩ := RdV.two hv
  simp only [vcs]
  have HG3 := Lib.hid (gb_alloc (gb_trans HG2.out g3) (.cells #[.int .i64 x.kind, .bool x.is, .bool x.num.down, .string (ba x.num.dig), .int .i64 x.num.exp, .string (ba x.text), .slice aA al ac, .slice zA zl zc] 29 (0, 0)))
  have HX3 := Lib.hid (blk_new w3 (.cells #[.int .i64 x.kind, .bool x.is, .bool x.num.down, .string (ba x.num.dig), .int .i64 x.num.exp, .string (ba x.text), .slice aA al ac, .slice zA zl zc] 29 (0, 0)))
  have HKY := Lib.hid (ord_key x.is x.num.down x.num.dig x.text x.num.exp aA zA al ac zl zc _ x.kind B (HK.out.gbn HG3.out) HFX.out.1 HFX.out.2.1 HFX.out.2.2.1.w HFX.out.2.2.2 x.items x.names)
  clear hv g3
  go_wp2_with fail
  refine HKY.out.mono ?_
  rw [show Js.okey ⟨x.kind, x.is, ⟨x.num.down, x.num.dig, x.num.exp⟩, x.text, x.items, x.names⟩ = (K, ko) from HKO.out]
  rintro e w4 ⟨r, rfl, hr, g4⟩
  obtain ⟨rA, rc, rfl, _, _, _⟩ := hr.reads
  have HG4 := Lib.hid (gb_trans HG3.out g4)
  have HX4 := Lib.hid (gb_blk g4 HX3.out (by simp))
  have ag := World.grownBy_alloc w4 (.cells #[.int .i64 op, .string ⟨#[97]⟩, .string (ba t)] 39 (0, 0)) none
  have HG5 := Lib.hid (gb_trans HG4.out ag)
  have HX5 := Lib.hid (gb_blk ag HX4.out (by simp))
  have HR5 := Lib.hid (hr.gbn ag)
  have hxl : w3.heap.size < w4.heap.size := blk_lt' HX4.out
  have HTB := Lib.hid (blk_new w4 (.cells #[.int .i64 op, .string ⟨#[97]⟩, .string (ba t)] 39 (0, 0)))
  clear hr g4 ag
  go_wp2_with fail
  refine (HC.out _ _ HG5.out HTB.out).mono ?_
  intro e w5 hco
  by_cases hbad : ev ≠ 0 ∨ es ≠ 0 ∨ ko ≠ 0 ∨ ec ≠ 0 ∨ 4 < op
  · obtain ⟨pv, rfl, g5⟩ : ∃ pv, e = .returned (.tuple #[.pointer pv, .int .i64 ec]) ∧ (w4.alloc (.cells #[.int .i64 op, .string ⟨#[97]⟩, .string (ba t)] 39 (0, 0))).grownBy w5 none := by
      rcases hco with ⟨_, rfl, g⟩ | ⟨h0, fb, A, c, vA, vl, vc, uA, ul, uc, rfl, _, _, _, g⟩
      · exact ⟨_, rfl, g⟩
      · exact ⟨_, by rw [h0], g⟩
    have HGZ := Lib.hid (gb_trans HG5.out g5)
    clear hco g5
    by_cases h1 : ev = 0
    rotate_left
    · have h1' : (ev != 0) = true := by simpa using h1
      clear h1 hbad
      go_wp2_with fail
      go_ret
      exact ⟨rfl, HGZ.out⟩

    subst h1
    by_cases h2 : es = 0
    rotate_left
    · have h1' : (es != 0) = true := by simpa using h2
      clear h2 hbad
      go_wp2_with fail
      go_ret
      exact ⟨rfl, HGZ.out⟩

    subst h2
    by_cases h3 : ko = 0
    rotate_left
    · have h1' : (ko != 0) = true := by simpa using h3
      clear h3 hbad
      go_wp2_with fail
      go_ret
      exact ⟨rfl, HGZ.out⟩

    subst h3
    by_cases h4 : ec = 0
    rotate_left
    · have h1' : (ec != 0) = true := by simpa using h4
      clear h4 hbad
      go_wp2_with fail
      go_ret
      exact ⟨rfl, HGZ.out⟩

    subst h4
    have h5 : (4 : Int) < op := by simpa using hbad
    clear hbad
    go_wp2_with fail
    go_ret
    exact ⟨rfl, HGZ.out⟩

  have h1 : ev = 0 := by omega
  have h2 : es = 0 := by omega
  have h3 : ko = 0 := by omega
  have h4 : ec = 0 := by omega
  have h5 : op ≤ 4 := by omega
  subst h1 h2 h3 h4
  clear hbad
  rcases hco with ⟨h0, _⟩ | ⟨_, fb, A, c, fA, fl, fc, kA, kl, kc, rfl, hfb, hsn, hrv, g5⟩
  · exact absurd rfl h0
  obtain ⟨hop0, heq, hq4, hq5⟩ := HFA.out rfl h5
  simp only [Prod.mk.injEq] at heq
  obtain ⟨i1, i2, i3⟩ := heq
  have i1 := i1.symm
  have i2 := i2.symm
  have i3 := i3.symm
  subst i1 i2 i3
  obtain ⟨sb, so, rfl, hsc, hsF, hsl, hcell⟩ := hsn.one
  simp only [List.length_cons, List.length_nil, Nat.zero_add] at hfb
  have h5' : ¬ (4 : Int) < op := by omega
  have h5O : op ≤ 4 := h5
  have HG6 := Lib.hid (gb_trans HG5.out g5)
  have HX6 := Lib.hid (gb_blk g5 HX5.out (by simp))
  have HR6 := Lib.hid (HR5.out.gbn g5)
  have HFB := Lib.hid hfb
  have HCL := Lib.hid (And.intro hcell hsl)
  have HMU := Lib.hid (flt_Musts [97] op fb sb so c q.kind q.is q.num.down q.num.dig q.text q.num.exp fA kA fl fc kl kc w5 hcell hfb)
  clear hfb hsn hrv g5 hcell hxl hsF hsl h5
  go_wp2_with fail
  refine HMU.out.mono ?_
  rintro e w6 ⟨tb, g, cap, rfl, htb, hg, hwg, hgl, hcap, g6⟩
  obtain ⟨y0, y1, y2, y3, y4, y5, y6, y7, y8, y9⟩ := blk10 htb
  have HG7 := Lib.hid (gb_trans HG6.out g6)
  have HX7 := Lib.hid (gb_blk g6 HX6.out (by simp))
  have HR7 := Lib.hid (HR6.out.gbn g6)
  have HFB7 := Lib.hid (gb_blk g6 HFB.out (by simp))
  have HCL7 := Lib.hid (And.intro (g6.cell HCL.out.1 (by simp)) (Nat.lt_of_lt_of_le HCL.out.2 g6.size))
  have HBO := Lib.hid (plan_bounds op q.kind q.is q.num.down q.num.dig q.text q.num.exp (some ⟨g, 0, none⟩) fA kA 1 cap fl fc kl kc w6 B (HK.out.gbn HG7.out) HFQ.out.1 HFQ.out.2.1 HFQ.out.2.2.1.w HFQ.out.2.2.2 q.items q.names)
  clear htb hg hwg hgl g6
  go_wp2_with fail
  refine HBO.out.mono ?_
  intro e w7 hbo
  have hpx := okey_plain HFX.out (by rw [HKO.out])
  have hbs := Js.holds_bounds op hop0 h5O x q hpx ⟨HFQ.out.1, by have := HFQ.out.2.1; omega, HFQ.out.2.2.1.ok⟩ more
  rw [HKO.out] at hbs
  have ex : (⟨x.kind, x.is, ⟨x.num.down, x.num.dig, x.num.exp⟩, x.text, x.items, x.names⟩ : Js.V) = x := v_eta x
  have eq : (⟨q.kind, q.is, ⟨q.num.down, q.num.dig, q.num.exp⟩, q.text, q.items, q.names⟩ : Js.V) = q := v_eta q
  obtain ⟨l1, l2, bb, hbd⟩ : ∃ l1 l2 bb, Js.bounds op q = (l1, l2, bb) := ⟨_, _, _, rfl⟩
  rw [eq, hbd] at hbo
  rw [hbd] at hbs
  simp only at hbs hbo
  obtain ⟨rfl, hps⟩ := hbs
  obtain ⟨r1, r2, rfl, hr1, hr2, g7⟩ := hbo
  obtain ⟨pA, pc, rfl, _, _, _⟩ := hr1.reads
  obtain ⟨sA, sc, rfl, _, _, _⟩ := hr2.reads
  have hx8 := gb_blk g7 HX7.out (by simp)
  obtain ⟨⟨x0, x1, x2, x3, x4, x5, x6, x7⟩, _⟩ := blk8 hx8
  have hl8 : w3.heap.size < w7.heap.size := blk_lt' hx8
  have hn8 : w3.heap.size ≠ w7.heap.size := by omega
  have hkl := okey_len x HFX.out.2.2.1.w HFX.out.2.2.2
  rw [HKO.out] at hkl
  have hcat : (ba K).size + (ba more).size ≤ 9223372036854775807 := by rw [ba_size20, ba_size20]; simp only at hkl; omega
  have t1 : (ba K ++ ba more).toList = K ++ more := by rw [ba_app, ByteArray.toList_eq]; rfl
  have t2 : (ba l1).toList = l1 := by rw [ByteArray.toList_eq]; rfl
  have t3 : (ba l2).toList = l2 := by rw [ByteArray.toList_eq]; rfl
  have v1 : Sem.run Tryz.prog (convert 22 9 (.slice rA K.length rc)) w7 = .ok (.string (ba K)) w7 := conv_str (HR7.out.gbn g7)
  have v2 : Sem.run Tryz.prog (convert 22 9 (.slice mA more.length mc)) w7 = .ok (.string (ba more)) w7 := conv_str (HMO.out.gbn (gb_trans HG7.out g7))
  obtain ⟨oX, hoX⟩ : ∃ o, o = Obj.cells #[.string ⟨#[97]⟩] 9 (0, 0) := ⟨_, rfl⟩
  obtain ⟨oY, hoY⟩ : ∃ o, o = Obj.cells #[.int .i64 x.kind, .bool x.is, .bool x.num.down, .string (ba x.num.dig), .int .i64 x.num.exp, .string (ba x.text), .slice aA al ac, .slice zA zl zc] 29 (0, 0) := ⟨_, rfl⟩
  obtain ⟨oZ, hoZ⟩ : ∃ o, o = Obj.cells #[.int .i64 5, .bool false, .bool false, .string ⟨#[]⟩, .int .i64 0, .string ⟨#[]⟩, .slice (some ⟨w7.heap.size + 1, 0, none⟩) 1 1, .slice (some ⟨w7.heap.size, 0, none⟩) 1 1] 29 (0, 0) := ⟨_, rfl⟩
  have b0 := allocs_at [oX, oY, oZ] w7 0 _ rfl
  have b1 := allocs_at [oX, oY, oZ] w7 1 _ rfl
  have b2 := allocs_at [oX, oY, oZ] w7 2 _ rfl
  have bg := allocs_gb [oX, oY, oZ] w7
  subst hoX hoY hoZ
  simp only [allocs, Nat.add_zero] at b0 b1 b2 bg
  have HGZ := Lib.hid (gb_trans (gb_trans HG7.out g7) bg)
  have HSS := Lib.hid (show PhS fb (w7.heap.size + 1 + 1) (w7.heap.size + 1) w7.heap.size sb so #[.int .i64 x.kind, .bool x.is, .bool x.num.down, .string (ba x.num.dig), .int .i64 x.num.exp, .string (ba x.text), .slice aA al ac, .slice zA zl zc] #[.iface 46 (.agg #[.int .i64 op, .slice (some ⟨sb, so, none⟩) 1 c, .int .i64 q.kind, .bool q.is, .bool q.num.down, .string (ba q.num.dig), .int .i64 q.num.exp, .string (ba q.text), .slice fA fl fc, .slice kA kl kc])] l1 l2 (.slice pA l1.length pc) (.slice sA l2.length sc) _ from
    ⟨b1, b0, bg.cell (g7.cell HCL7.out.1 (by simp)) (by simp), Nat.lt_of_lt_of_le (Nat.lt_of_lt_of_le HCL7.out.2 g7.size) bg.size, gb_blk (gb_trans g7 bg) HFB7.out (by simp), b2, (hr1.gbn bg).mono (fun _ _ _ => trivial), (hr2.gbn bg).mono (fun _ _ _ => trivial)⟩)
  have hmt := (fun W (h : PhS fb (w7.heap.size + 1 + 1) (w7.heap.size + 1) w7.heap.size sb so #[.int .i64 x.kind, .bool x.is, .bool x.num.down, .string (ba x.num.dig), .int .i64 x.num.exp, .string (ba x.text), .slice aA al ac, .slice zA zl zc] #[.iface 46 (.agg #[.int .i64 op, .slice (some ⟨sb, so, none⟩) 1 c, .int .i64 q.kind, .bool q.is, .bool q.num.down, .string (ba q.num.dig), .int .i64 q.num.exp, .string (ba q.text), .slice fA fl fc, .slice kA kl kc])] l1 l2 (.slice pA l1.length pc) (.slice sA l2.length sc) W) => flt_match fb (w7.heap.size + 1) w7.heap.size sb so c [97] op x.kind q.kind x.is q.is x.num.down q.num.down x.num.dig q.num.dig x.text q.text x.num.exp q.num.exp aA zA fA kA al ac zl zc fl fc kl kc x.items q.items x.names q.names W h.2.2.2.2.1 ⟨h.1, h.2.1, h.2.2.1, h.2.2.2.1, gb_refl _ _⟩ hsc (by have := hpx.2.1; omega) HFX.out.1 HFX.out.2.1 (fun e => hpx.2.1) HFX.out.2.2.1.c HFQ.out.2.2.1.c)
  rw [ex, eq, hps] at hmt
  have HMT := Lib.hid hmt
  clear b0 b1 b2 bg hr1 hr2 g7 hx8 hbd hps hq4 hq5 hop0 h5O y0 y1 y2 y3 y4 y5 y6 y7 y8 y9 hsc hmt hpx ex eq
  go_wp2_with fail
  clear v1 v2 x0 x1 x2 x3 x4 x5 x6 x7 hl8 hn8 hcat hkl
  obtain ⟨w0, hw0⟩ : ∃ w0, (((w7.alloc (.cells #[.string ⟨#[97]⟩] 9 (0, 0))).alloc (.cells #[.int .i64 x.kind, .bool x.is, .bool x.num.down, .string (ba x.num.dig), .int .i64 x.num.exp, .string (ba x.text), .slice aA al ac, .slice zA zl zc] 29 (0, 0))).alloc (.cells #[.int .i64 5, .bool false, .bool false, .string ⟨#[]⟩, .int .i64 0, .string ⟨#[]⟩, .slice (some ⟨w7.heap.size + 1, 0, none⟩) 1 1, .slice (some ⟨w7.heap.size, 0, none⟩) 1 1] 29 (0, 0))) = w0 := ⟨_, rfl⟩
  rw [hw0] at HSS HGZ ⊢
  clear hw0
  have hHeld : PhS fb (w7.heap.size + 1 + 1) (w7.heap.size + 1) w7.heap.size sb so #[.int .i64 x.kind, .bool x.is, .bool x.num.down, .string (ba x.num.dig), .int .i64 x.num.exp, .string (ba x.text), .slice aA al ac, .slice zA zl zc] #[.iface 46 (.agg #[.int .i64 op, .slice (some ⟨sb, so, none⟩) 1 c, .int .i64 q.kind, .bool q.is, .bool q.num.down, .string (ba q.num.dig), .int .i64 q.num.exp, .string (ba q.text), .slice fA fl fc, .slice kA kl kc])] l1 l2 (.slice pA l1.length pc) (.slice sA l2.length sc) w0.drew := HSS.out.gb (gb_drew (gb_refl _ _))
  cases hA : Op.bytesLess (K ++ more) l1 <;> cases hB : Op.bytesLess (K ++ more) l2
  all_goals rw [hA, hB] at HMT
  ·
    refine wp_region_T 17 (fun W => PhS fb (w7.heap.size + 1 + 1) (w7.heap.size + 1) w7.heap.size sb so #[.int .i64 x.kind, .bool x.is, .bool x.num.down, .string (ba x.num.dig), .int .i64 x.num.exp, .string (ba x.text), .slice aA al ac, .slice zA zl zc] #[.iface 46 (.agg #[.int .i64 op, .slice (some ⟨sb, so, none⟩) 1 c, .int .i64 q.kind, .bool q.is, .bool q.num.down, .string (ba q.num.dig), .int .i64 q.num.exp, .string (ba q.text), .slice fA fl fc, .slice kA kl kc])] l1 l2 (.slice pA l1.length pc) (.slice sA l2.length sc) W) (by kernel_rfl) hHeld ?_
    refine T_take (i := 0) (v := ?_) rfl (by kernel_rfl) (fun _ _ _ h => h) (Or.inl ⟨by rfl, ?_⟩) hHeld ?_
    rotate_left
    ·
      intro W hW
      clear hW
      go_simp
      all_goals with_reducible rfl
    try simp only [Act.put, List.setIfInBounds_toArray, List.set_cons_zero, List.set_cons_succ]
    refine T_take (i := 1) (v := ?_) rfl (by kernel_rfl) (fun _ _ _ h => h) (Or.inl ⟨by rfl, ?_⟩) hHeld ?_
    rotate_left
    ·
      intro W hW
      clear hW
      go_simp
      all_goals with_reducible rfl
    try simp only [Act.put, List.setIfInBounds_toArray, List.set_cons_zero, List.set_cons_succ]
    refine T_take (i := 2) (v := ?_) rfl (by kernel_rfl) (fun _ _ _ h => h) (Or.inl ⟨by rfl, ?_⟩) hHeld ?_
    rotate_left
    ·
      intro W hW
      clear hW
      go_simp
      all_goals with_reducible rfl
    try simp only [Act.put, List.setIfInBounds_toArray, List.set_cons_zero, List.set_cons_succ]
    refine T_take (i := 3) (v := ?_) rfl (by kernel_rfl) (fun _ _ _ h => h) (Or.inl ⟨by rfl, ?_⟩) hHeld ?_
    rotate_left
    ·
      intro W hW
      obtain ⟨⟨d0, d1, d2, d3, d4, d5, d6, d7⟩, _⟩ := blk8 hW.2.2.2.2.2.1
      clear hW
      go_simp
      all_goals with_reducible rfl
    try simp only [Act.put, List.setIfInBounds_toArray, List.set_cons_zero, List.set_cons_succ]
    refine T_take (i := 5) (v := ?_) rfl (by kernel_rfl) (fun _ _ _ h => h) (Or.inl ⟨by rfl, ?_⟩) hHeld ?_
    rotate_left
    ·
      intro W hW
      clear hW
      go_simp
      all_goals with_reducible rfl
    try simp only [Act.put, List.setIfInBounds_toArray, List.set_cons_zero, List.set_cons_succ]
    refine T_take (i := 6) (v := ?_) rfl (by kernel_rfl) (fun _ _ _ h => h) (Or.inl ⟨by rfl, ?_⟩) hHeld ?_
    rotate_left
    ·
      intro W hW
      clear hW
      go_simp
      all_goals with_reducible rfl
    try simp only [Act.put, List.setIfInBounds_toArray, List.set_cons_zero, List.set_cons_succ]
    refine T_take (i := 7) (v := ?_) rfl (by kernel_rfl) (fun _ _ _ h => h) (Or.inl ⟨by rfl, ?_⟩) hHeld ?_
    rotate_left
    ·
      intro W hW
      have c1 := conv_str hW.2.2.2.2.2.2.1
      clear hW
      go_simp
      all_goals with_reducible rfl
    try simp only [Act.put, List.setIfInBounds_toArray, List.set_cons_zero, List.set_cons_succ]
    refine T_take (i := 8) (v := ?_) rfl (by kernel_rfl) (fun _ _ _ h => h) (Or.inl ⟨by rfl, ?_⟩) hHeld ?_
    rotate_left
    ·
      intro W hW
      clear hW
      go_simp
      all_goals with_reducible rfl
    try simp only [Act.put, List.setIfInBounds_toArray, List.set_cons_zero, List.set_cons_succ]
    refine wpAnyT_ready (rs := [4]) (by kernel_rfl) (by simp) ?_
    refine T_cons rfl (fun KK hK => ?_) AllReadyT.nil
    go_simp
    go_at_call 18
    refine (HMT.out _ hHeld).mono ?_
    rintro e w8 ⟨rfl, g8⟩
    have hHeld1 : PhS fb (w7.heap.size + 1 + 1) (w7.heap.size + 1) w7.heap.size sb so #[.int .i64 x.kind, .bool x.is, .bool x.num.down, .string (ba x.num.dig), .int .i64 x.num.exp, .string (ba x.text), .slice aA al ac, .slice zA zl zc] #[.iface 46 (.agg #[.int .i64 op, .slice (some ⟨sb, so, none⟩) 1 c, .int .i64 q.kind, .bool q.is, .bool q.num.down, .string (ba q.num.dig), .int .i64 q.num.exp, .string (ba q.text), .slice fA fl fc, .slice kA kl kc])] l1 l2 (.slice pA l1.length pc) (.slice sA l2.length sc) w8 := hHeld.gb g8
    have HGY := Lib.hid (gb_trans (gb_drew HGZ.out) g8)
    clear g8
    try go_wp2_with fail
    refine hK.out _ _ (fun _ => hHeld1) (fun _ => ?_)
    clear hK
    try simp only [Act.put, List.setIfInBounds_toArray, List.set_cons_zero, List.set_cons_succ]
    refine T_take (i := 9) (v := ?_) rfl (by kernel_rfl) (fun _ _ _ h => h) (Or.inl ⟨by rfl, ?_⟩) hHeld1 ?_
    rotate_left
    ·
      intro W hW
      clear hW
      go_simp
      all_goals with_reducible rfl
    try simp only [Act.put, List.setIfInBounds_toArray, List.set_cons_zero, List.set_cons_succ]
    refine T_take (i := 10) (v := ?_) rfl (by kernel_rfl) (fun _ _ _ h => h) (Or.inl ⟨by rfl, ?_⟩) hHeld1 ?_
    rotate_left
    ·
      intro W hW
      clear hW
      go_simp
      all_goals with_reducible rfl
    try simp only [Act.put, List.setIfInBounds_toArray, List.set_cons_zero, List.set_cons_succ]
    refine T_take (i := 11) (v := ?_) rfl (by kernel_rfl) (fun _ _ _ h => h) (Or.inl ⟨by rfl, ?_⟩) hHeld1 ?_
    rotate_left
    ·
      intro W hW
      clear hW
      go_simp
      all_goals with_reducible rfl
    try simp only [Act.put, List.setIfInBounds_toArray, List.set_cons_zero, List.set_cons_succ]
    refine T_take (i := 12) (v := ?_) rfl (by kernel_rfl) (fun _ _ _ h => h) (Or.inl ⟨by rfl, ?_⟩) hHeld1 ?_
    rotate_left
    ·
      intro W hW
      have c2 := conv_str hW.2.2.2.2.2.2.2
      clear hW
      go_simp
      all_goals with_reducible rfl
    try simp only [Act.put, List.setIfInBounds_toArray, List.set_cons_zero, List.set_cons_succ]
    refine T_take (i := 13) (v := ?_) rfl (by kernel_rfl) (fun _ _ _ h => h) (Or.inl ⟨by rfl, ?_⟩) hHeld1 ?_
    rotate_left
    ·
      intro W hW
      clear hW
      go_simp
      all_goals with_reducible rfl
    try simp only [Act.put, List.setIfInBounds_toArray, List.set_cons_zero, List.set_cons_succ]
    refine T_take (i := 14) (v := ?_) rfl (by kernel_rfl) (fun _ _ _ h => h) (Or.inl ⟨by rfl, ?_⟩) hHeld1 ?_
    rotate_left
    ·
      intro W hW
      clear hW
      go_simp
      all_goals with_reducible rfl
    try simp only [Act.put, List.setIfInBounds_toArray, List.set_cons_zero, List.set_cons_succ]
    refine T_take (i := 15) (v := ?_) rfl (by kernel_rfl) (fun _ _ _ h => h) (Or.inl ⟨by rfl, ?_⟩) hHeld1 ?_
    rotate_left
    ·
      intro W hW
      clear hW
      go_simp
      all_goals with_reducible rfl
    try simp only [Act.put, List.setIfInBounds_toArray, List.set_cons_zero, List.set_cons_succ]
    refine T_take (i := 16) (v := ?_) rfl (by kernel_rfl) (fun _ _ _ h => h) (Or.inl ⟨by rfl, ?_⟩) hHeld1 ?_
    rotate_left
    ·
      intro W hW
      clear hW
      go_simp
      all_goals with_reducible rfl
    try simp only [Act.put, List.setIfInBounds_toArray, List.set_cons_zero, List.set_cons_succ]
    refine T_tail 17 rfl rfl (by omega) (by kernel_rfl) ?_
    clear hHeld hHeld1
    go_wp2_with fail
    go_ret
    exact ⟨rfl, HGY.out⟩
  ·
    refine wp_region_T 17 (fun W => PhS fb (w7.heap.size + 1 + 1) (w7.heap.size + 1) w7.heap.size sb so #[.int .i64 x.kind, .bool x.is, .bool x.num.down, .string (ba x.num.dig), .int .i64 x.num.exp, .string (ba x.text), .slice aA al ac, .slice zA zl zc] #[.iface 46 (.agg #[.int .i64 op, .slice (some ⟨sb, so, none⟩) 1 c, .int .i64 q.kind, .bool q.is, .bool q.num.down, .string (ba q.num.dig), .int .i64 q.num.exp, .string (ba q.text), .slice fA fl fc, .slice kA kl kc])] l1 l2 (.slice pA l1.length pc) (.slice sA l2.length sc) W) (by kernel_rfl) hHeld ?_
    refine T_take (i := 0) (v := ?_) rfl (by kernel_rfl) (fun _ _ _ h => h) (Or.inl ⟨by rfl, ?_⟩) hHeld ?_
    rotate_left
    ·
      intro W hW
      clear hW
      go_simp
      all_goals with_reducible rfl
    try simp only [Act.put, List.setIfInBounds_toArray, List.set_cons_zero, List.set_cons_succ]
    refine T_take (i := 1) (v := ?_) rfl (by kernel_rfl) (fun _ _ _ h => h) (Or.inl ⟨by rfl, ?_⟩) hHeld ?_
    rotate_left
    ·
      intro W hW
      clear hW
      go_simp
      all_goals with_reducible rfl
    try simp only [Act.put, List.setIfInBounds_toArray, List.set_cons_zero, List.set_cons_succ]
    refine T_take (i := 2) (v := ?_) rfl (by kernel_rfl) (fun _ _ _ h => h) (Or.inl ⟨by rfl, ?_⟩) hHeld ?_
    rotate_left
    ·
      intro W hW
      clear hW
      go_simp
      all_goals with_reducible rfl
    try simp only [Act.put, List.setIfInBounds_toArray, List.set_cons_zero, List.set_cons_succ]
    refine T_take (i := 3) (v := ?_) rfl (by kernel_rfl) (fun _ _ _ h => h) (Or.inl ⟨by rfl, ?_⟩) hHeld ?_
    rotate_left
    ·
      intro W hW
      obtain ⟨⟨d0, d1, d2, d3, d4, d5, d6, d7⟩, _⟩ := blk8 hW.2.2.2.2.2.1
      clear hW
      go_simp
      all_goals with_reducible rfl
    try simp only [Act.put, List.setIfInBounds_toArray, List.set_cons_zero, List.set_cons_succ]
    refine T_take (i := 5) (v := ?_) rfl (by kernel_rfl) (fun _ _ _ h => h) (Or.inl ⟨by rfl, ?_⟩) hHeld ?_
    rotate_left
    ·
      intro W hW
      clear hW
      go_simp
      all_goals with_reducible rfl
    try simp only [Act.put, List.setIfInBounds_toArray, List.set_cons_zero, List.set_cons_succ]
    refine T_take (i := 6) (v := ?_) rfl (by kernel_rfl) (fun _ _ _ h => h) (Or.inl ⟨by rfl, ?_⟩) hHeld ?_
    rotate_left
    ·
      intro W hW
      clear hW
      go_simp
      all_goals with_reducible rfl
    try simp only [Act.put, List.setIfInBounds_toArray, List.set_cons_zero, List.set_cons_succ]
    refine T_take (i := 7) (v := ?_) rfl (by kernel_rfl) (fun _ _ _ h => h) (Or.inl ⟨by rfl, ?_⟩) hHeld ?_
    rotate_left
    ·
      intro W hW
      have c1 := conv_str hW.2.2.2.2.2.2.1
      clear hW
      go_simp
      all_goals with_reducible rfl
    try simp only [Act.put, List.setIfInBounds_toArray, List.set_cons_zero, List.set_cons_succ]
    refine T_take (i := 8) (v := ?_) rfl (by kernel_rfl) (fun _ _ _ h => h) (Or.inl ⟨by rfl, ?_⟩) hHeld ?_
    rotate_left
    ·
      intro W hW
      clear hW
      go_simp
      all_goals with_reducible rfl
    try simp only [Act.put, List.setIfInBounds_toArray, List.set_cons_zero, List.set_cons_succ]
    refine wpAnyT_ready (rs := [4]) (by kernel_rfl) (by simp) ?_
    refine T_cons rfl (fun KK hK => ?_) AllReadyT.nil
    go_simp
    go_at_call 18
    refine (HMT.out _ hHeld).mono ?_
    rintro e w8 ⟨rfl, g8⟩
    have hHeld1 : PhS fb (w7.heap.size + 1 + 1) (w7.heap.size + 1) w7.heap.size sb so #[.int .i64 x.kind, .bool x.is, .bool x.num.down, .string (ba x.num.dig), .int .i64 x.num.exp, .string (ba x.text), .slice aA al ac, .slice zA zl zc] #[.iface 46 (.agg #[.int .i64 op, .slice (some ⟨sb, so, none⟩) 1 c, .int .i64 q.kind, .bool q.is, .bool q.num.down, .string (ba q.num.dig), .int .i64 q.num.exp, .string (ba q.text), .slice fA fl fc, .slice kA kl kc])] l1 l2 (.slice pA l1.length pc) (.slice sA l2.length sc) w8 := hHeld.gb g8
    have HGY := Lib.hid (gb_trans (gb_drew HGZ.out) g8)
    clear g8
    try go_wp2_with fail
    refine hK.out _ _ (fun _ => hHeld1) (fun _ => ?_)
    clear hK
    try simp only [Act.put, List.setIfInBounds_toArray, List.set_cons_zero, List.set_cons_succ]
    refine T_take (i := 9) (v := ?_) rfl (by kernel_rfl) (fun _ _ _ h => h) (Or.inl ⟨by rfl, ?_⟩) hHeld1 ?_
    rotate_left
    ·
      intro W hW
      clear hW
      go_simp
      all_goals with_reducible rfl
    try simp only [Act.put, List.setIfInBounds_toArray, List.set_cons_zero, List.set_cons_succ]
    refine T_take (i := 10) (v := ?_) rfl (by kernel_rfl) (fun _ _ _ h => h) (Or.inl ⟨by rfl, ?_⟩) hHeld1 ?_
    rotate_left
    ·
      intro W hW
      clear hW
      go_simp
      all_goals with_reducible rfl
    try simp only [Act.put, List.setIfInBounds_toArray, List.set_cons_zero, List.set_cons_succ]
    refine T_take (i := 11) (v := ?_) rfl (by kernel_rfl) (fun _ _ _ h => h) (Or.inl ⟨by rfl, ?_⟩) hHeld1 ?_
    rotate_left
    ·
      intro W hW
      clear hW
      go_simp
      all_goals with_reducible rfl
    try simp only [Act.put, List.setIfInBounds_toArray, List.set_cons_zero, List.set_cons_succ]
    refine T_take (i := 12) (v := ?_) rfl (by kernel_rfl) (fun _ _ _ h => h) (Or.inl ⟨by rfl, ?_⟩) hHeld1 ?_
    rotate_left
    ·
      intro W hW
      have c2 := conv_str hW.2.2.2.2.2.2.2
      clear hW
      go_simp
      all_goals with_reducible rfl
    try simp only [Act.put, List.setIfInBounds_toArray, List.set_cons_zero, List.set_cons_succ]
    refine T_take (i := 13) (v := ?_) rfl (by kernel_rfl) (fun _ _ _ h => h) (Or.inl ⟨by rfl, ?_⟩) hHeld1 ?_
    rotate_left
    ·
      intro W hW
      clear hW
      go_simp
      all_goals with_reducible rfl
    try simp only [Act.put, List.setIfInBounds_toArray, List.set_cons_zero, List.set_cons_succ]
    refine T_take (i := 14) (v := ?_) rfl (by kernel_rfl) (fun _ _ _ h => h) (Or.inl ⟨by rfl, ?_⟩) hHeld1 ?_
    rotate_left
    ·
      intro W hW
      clear hW
      go_simp
      all_goals with_reducible rfl
    try simp only [Act.put, List.setIfInBounds_toArray, List.set_cons_zero, List.set_cons_succ]
    refine T_take (i := 15) (v := ?_) rfl (by kernel_rfl) (fun _ _ _ h => h) (Or.inl ⟨by rfl, ?_⟩) hHeld1 ?_
    rotate_left
    ·
      intro W hW
      clear hW
      go_simp
      all_goals with_reducible rfl
    try simp only [Act.put, List.setIfInBounds_toArray, List.set_cons_zero, List.set_cons_succ]
    refine T_take (i := 16) (v := ?_) rfl (by kernel_rfl) (fun _ _ _ h => h) (Or.inl ⟨by rfl, ?_⟩) hHeld1 ?_
    rotate_left
    ·
      intro W hW
      clear hW
      go_simp
      all_goals with_reducible rfl
    try simp only [Act.put, List.setIfInBounds_toArray, List.set_cons_zero, List.set_cons_succ]
    refine T_tail 17 rfl rfl (by omega) (by kernel_rfl) ?_
    clear hHeld hHeld1
    go_wp2_with fail
    go_ret
    exact ⟨rfl, HGY.out⟩
  ·
    refine wp_region_T 17 (fun W => PhS fb (w7.heap.size + 1 + 1) (w7.heap.size + 1) w7.heap.size sb so #[.int .i64 x.kind, .bool x.is, .bool x.num.down, .string (ba x.num.dig), .int .i64 x.num.exp, .string (ba x.text), .slice aA al ac, .slice zA zl zc] #[.iface 46 (.agg #[.int .i64 op, .slice (some ⟨sb, so, none⟩) 1 c, .int .i64 q.kind, .bool q.is, .bool q.num.down, .string (ba q.num.dig), .int .i64 q.num.exp, .string (ba q.text), .slice fA fl fc, .slice kA kl kc])] l1 l2 (.slice pA l1.length pc) (.slice sA l2.length sc) W) (by kernel_rfl) hHeld ?_
    refine T_take (i := 0) (v := ?_) rfl (by kernel_rfl) (fun _ _ _ h => h) (Or.inl ⟨by rfl, ?_⟩) hHeld ?_
    rotate_left
    ·
      intro W hW
      clear hW
      go_simp
      all_goals with_reducible rfl
    try simp only [Act.put, List.setIfInBounds_toArray, List.set_cons_zero, List.set_cons_succ]
    refine T_take (i := 1) (v := ?_) rfl (by kernel_rfl) (fun _ _ _ h => h) (Or.inl ⟨by rfl, ?_⟩) hHeld ?_
    rotate_left
    ·
      intro W hW
      clear hW
      go_simp
      all_goals with_reducible rfl
    try simp only [Act.put, List.setIfInBounds_toArray, List.set_cons_zero, List.set_cons_succ]
    refine T_take (i := 2) (v := ?_) rfl (by kernel_rfl) (fun _ _ _ h => h) (Or.inl ⟨by rfl, ?_⟩) hHeld ?_
    rotate_left
    ·
      intro W hW
      clear hW
      go_simp
      all_goals with_reducible rfl
    try simp only [Act.put, List.setIfInBounds_toArray, List.set_cons_zero, List.set_cons_succ]
    refine T_take (i := 3) (v := ?_) rfl (by kernel_rfl) (fun _ _ _ h => h) (Or.inl ⟨by rfl, ?_⟩) hHeld ?_
    rotate_left
    ·
      intro W hW
      obtain ⟨⟨d0, d1, d2, d3, d4, d5, d6, d7⟩, _⟩ := blk8 hW.2.2.2.2.2.1
      clear hW
      go_simp
      all_goals with_reducible rfl
    try simp only [Act.put, List.setIfInBounds_toArray, List.set_cons_zero, List.set_cons_succ]
    refine T_take (i := 5) (v := ?_) rfl (by kernel_rfl) (fun _ _ _ h => h) (Or.inl ⟨by rfl, ?_⟩) hHeld ?_
    rotate_left
    ·
      intro W hW
      clear hW
      go_simp
      all_goals with_reducible rfl
    try simp only [Act.put, List.setIfInBounds_toArray, List.set_cons_zero, List.set_cons_succ]
    refine T_take (i := 6) (v := ?_) rfl (by kernel_rfl) (fun _ _ _ h => h) (Or.inl ⟨by rfl, ?_⟩) hHeld ?_
    rotate_left
    ·
      intro W hW
      clear hW
      go_simp
      all_goals with_reducible rfl
    try simp only [Act.put, List.setIfInBounds_toArray, List.set_cons_zero, List.set_cons_succ]
    refine T_take (i := 7) (v := ?_) rfl (by kernel_rfl) (fun _ _ _ h => h) (Or.inl ⟨by rfl, ?_⟩) hHeld ?_
    rotate_left
    ·
      intro W hW
      have c1 := conv_str hW.2.2.2.2.2.2.1
      clear hW
      go_simp
      all_goals with_reducible rfl
    try simp only [Act.put, List.setIfInBounds_toArray, List.set_cons_zero, List.set_cons_succ]
    refine T_take (i := 8) (v := ?_) rfl (by kernel_rfl) (fun _ _ _ h => h) (Or.inl ⟨by rfl, ?_⟩) hHeld ?_
    rotate_left
    ·
      intro W hW
      clear hW
      go_simp
      all_goals with_reducible rfl
    try simp only [Act.put, List.setIfInBounds_toArray, List.set_cons_zero, List.set_cons_succ]
    refine wpAnyT_ready (rs := [4]) (by kernel_rfl) (by simp) ?_
    refine T_cons rfl (fun KK hK => ?_) AllReadyT.nil
    go_simp
    go_at_call 18
    refine (HMT.out _ hHeld).mono ?_
    rintro e w8 ⟨rfl, g8⟩
    have hHeld1 : PhS fb (w7.heap.size + 1 + 1) (w7.heap.size + 1) w7.heap.size sb so #[.int .i64 x.kind, .bool x.is, .bool x.num.down, .string (ba x.num.dig), .int .i64 x.num.exp, .string (ba x.text), .slice aA al ac, .slice zA zl zc] #[.iface 46 (.agg #[.int .i64 op, .slice (some ⟨sb, so, none⟩) 1 c, .int .i64 q.kind, .bool q.is, .bool q.num.down, .string (ba q.num.dig), .int .i64 q.num.exp, .string (ba q.text), .slice fA fl fc, .slice kA kl kc])] l1 l2 (.slice pA l1.length pc) (.slice sA l2.length sc) w8 := hHeld.gb g8
    have HGY := Lib.hid (gb_trans (gb_drew HGZ.out) g8)
    clear g8
    try go_wp2_with fail
    refine hK.out _ _ (fun _ => hHeld1) (fun _ => ?_)
    clear hK
    try simp only [Act.put, List.setIfInBounds_toArray, List.set_cons_zero, List.set_cons_succ]
    refine T_take (i := 9) (v := ?_) rfl (by kernel_rfl) (fun _ _ _ h => h) (Or.inl ⟨by rfl, ?_⟩) hHeld1 ?_
    rotate_left
    ·
      intro W hW
      clear hW
      go_simp
      all_goals with_reducible rfl
    try simp only [Act.put, List.setIfInBounds_toArray, List.set_cons_zero, List.set_cons_succ]
    refine T_take (i := 10) (v := undef) rfl (by kernel_rfl) (fun _ _ _ h => h) (Or.inr ⟨by rfl, rfl⟩) hHeld1 ?_
    try simp only [Act.put, List.setIfInBounds_toArray, List.set_cons_zero, List.set_cons_succ]
    refine T_take (i := 11) (v := undef) rfl (by kernel_rfl) (fun _ _ _ h => h) (Or.inr ⟨by rfl, rfl⟩) hHeld1 ?_
    try simp only [Act.put, List.setIfInBounds_toArray, List.set_cons_zero, List.set_cons_succ]
    refine T_take (i := 12) (v := undef) rfl (by kernel_rfl) (fun _ _ _ h => h) (Or.inr ⟨by rfl, rfl⟩) hHeld1 ?_
    try simp only [Act.put, List.setIfInBounds_toArray, List.set_cons_zero, List.set_cons_succ]
    refine T_take (i := 13) (v := undef) rfl (by kernel_rfl) (fun _ _ _ h => h) (Or.inr ⟨by rfl, rfl⟩) hHeld1 ?_
    try simp only [Act.put, List.setIfInBounds_toArray, List.set_cons_zero, List.set_cons_succ]
    refine T_take (i := 14) (v := ?_) rfl (by kernel_rfl) (fun _ _ _ h => h) (Or.inl ⟨by rfl, ?_⟩) hHeld1 ?_
    rotate_left
    ·
      intro W hW
      clear hW
      go_simp
      all_goals with_reducible rfl
    try simp only [Act.put, List.setIfInBounds_toArray, List.set_cons_zero, List.set_cons_succ]
    refine T_take (i := 15) (v := ?_) rfl (by kernel_rfl) (fun _ _ _ h => h) (Or.inl ⟨by rfl, ?_⟩) hHeld1 ?_
    rotate_left
    ·
      intro W hW
      clear hW
      go_simp
      all_goals with_reducible rfl
    try simp only [Act.put, List.setIfInBounds_toArray, List.set_cons_zero, List.set_cons_succ]
    refine T_take (i := 16) (v := ?_) rfl (by kernel_rfl) (fun _ _ _ h => h) (Or.inl ⟨by rfl, ?_⟩) hHeld1 ?_
    rotate_left
    ·
      intro W hW
      clear hW
      go_simp
      all_goals with_reducible rfl
    try simp only [Act.put, List.setIfInBounds_toArray, List.set_cons_zero, List.set_cons_succ]
    refine T_tail 17 rfl rfl (by omega) (by kernel_rfl) ?_
    clear hHeld hHeld1
    go_wp2_with fail
    go_ret
    exact ⟨rfl, HGY.out⟩
  ·
    refine wp_region_T 17 (fun W => PhS fb (w7.heap.size + 1 + 1) (w7.heap.size + 1) w7.heap.size sb so #[.int .i64 x.kind, .bool x.is, .bool x.num.down, .string (ba x.num.dig), .int .i64 x.num.exp, .string (ba x.text), .slice aA al ac, .slice zA zl zc] #[.iface 46 (.agg #[.int .i64 op, .slice (some ⟨sb, so, none⟩) 1 c, .int .i64 q.kind, .bool q.is, .bool q.num.down, .string (ba q.num.dig), .int .i64 q.num.exp, .string (ba q.text), .slice fA fl fc, .slice kA kl kc])] l1 l2 (.slice pA l1.length pc) (.slice sA l2.length sc) W) (by kernel_rfl) hHeld ?_
    refine T_take (i := 0) (v := ?_) rfl (by kernel_rfl) (fun _ _ _ h => h) (Or.inl ⟨by rfl, ?_⟩) hHeld ?_
    rotate_left
    ·
      intro W hW
      clear hW
      go_simp
      all_goals with_reducible rfl
    try simp only [Act.put, List.setIfInBounds_toArray, List.set_cons_zero, List.set_cons_succ]
    refine T_take (i := 1) (v := ?_) rfl (by kernel_rfl) (fun _ _ _ h => h) (Or.inl ⟨by rfl, ?_⟩) hHeld ?_
    rotate_left
    ·
      intro W hW
      clear hW
      go_simp
      all_goals with_reducible rfl
    try simp only [Act.put, List.setIfInBounds_toArray, List.set_cons_zero, List.set_cons_succ]
    refine T_take (i := 2) (v := ?_) rfl (by kernel_rfl) (fun _ _ _ h => h) (Or.inl ⟨by rfl, ?_⟩) hHeld ?_
    rotate_left
    ·
      intro W hW
      clear hW
      go_simp
      all_goals with_reducible rfl
    try simp only [Act.put, List.setIfInBounds_toArray, List.set_cons_zero, List.set_cons_succ]
    refine T_take (i := 3) (v := ?_) rfl (by kernel_rfl) (fun _ _ _ h => h) (Or.inl ⟨by rfl, ?_⟩) hHeld ?_
    rotate_left
    ·
      intro W hW
      obtain ⟨⟨d0, d1, d2, d3, d4, d5, d6, d7⟩, _⟩ := blk8 hW.2.2.2.2.2.1
      clear hW
      go_simp
      all_goals with_reducible rfl
    try simp only [Act.put, List.setIfInBounds_toArray, List.set_cons_zero, List.set_cons_succ]
    refine T_take (i := 5) (v := ?_) rfl (by kernel_rfl) (fun _ _ _ h => h) (Or.inl ⟨by rfl, ?_⟩) hHeld ?_
    rotate_left
    ·
      intro W hW
      clear hW
      go_simp
      all_goals with_reducible rfl
    try simp only [Act.put, List.setIfInBounds_toArray, List.set_cons_zero, List.set_cons_succ]
    refine T_take (i := 6) (v := ?_) rfl (by kernel_rfl) (fun _ _ _ h => h) (Or.inl ⟨by rfl, ?_⟩) hHeld ?_
    rotate_left
    ·
      intro W hW
      clear hW
      go_simp
      all_goals with_reducible rfl
    try simp only [Act.put, List.setIfInBounds_toArray, List.set_cons_zero, List.set_cons_succ]
    refine T_take (i := 7) (v := ?_) rfl (by kernel_rfl) (fun _ _ _ h => h) (Or.inl ⟨by rfl, ?_⟩) hHeld ?_
    rotate_left
    ·
      intro W hW
      have c1 := conv_str hW.2.2.2.2.2.2.1
      clear hW
      go_simp
      all_goals with_reducible rfl
    try simp only [Act.put, List.setIfInBounds_toArray, List.set_cons_zero, List.set_cons_succ]
    refine T_take (i := 8) (v := ?_) rfl (by kernel_rfl) (fun _ _ _ h => h) (Or.inl ⟨by rfl, ?_⟩) hHeld ?_
    rotate_left
    ·
      intro W hW
      clear hW
      go_simp
      all_goals with_reducible rfl
    try simp only [Act.put, List.setIfInBounds_toArray, List.set_cons_zero, List.set_cons_succ]
    refine wpAnyT_ready (rs := [4]) (by kernel_rfl) (by simp) ?_
    refine T_cons rfl (fun KK hK => ?_) AllReadyT.nil
    go_simp
    go_at_call 18
    refine (HMT.out _ hHeld).mono ?_
    rintro e w8 ⟨rfl, g8⟩
    have hHeld1 : PhS fb (w7.heap.size + 1 + 1) (w7.heap.size + 1) w7.heap.size sb so #[.int .i64 x.kind, .bool x.is, .bool x.num.down, .string (ba x.num.dig), .int .i64 x.num.exp, .string (ba x.text), .slice aA al ac, .slice zA zl zc] #[.iface 46 (.agg #[.int .i64 op, .slice (some ⟨sb, so, none⟩) 1 c, .int .i64 q.kind, .bool q.is, .bool q.num.down, .string (ba q.num.dig), .int .i64 q.num.exp, .string (ba q.text), .slice fA fl fc, .slice kA kl kc])] l1 l2 (.slice pA l1.length pc) (.slice sA l2.length sc) w8 := hHeld.gb g8
    have HGY := Lib.hid (gb_trans (gb_drew HGZ.out) g8)
    clear g8
    try go_wp2_with fail
    refine hK.out _ _ (fun _ => hHeld1) (fun _ => ?_)
    clear hK
    try simp only [Act.put, List.setIfInBounds_toArray, List.set_cons_zero, List.set_cons_succ]
    refine T_take (i := 9) (v := ?_) rfl (by kernel_rfl) (fun _ _ _ h => h) (Or.inl ⟨by rfl, ?_⟩) hHeld1 ?_
    rotate_left
    ·
      intro W hW
      clear hW
      go_simp
      all_goals with_reducible rfl
    try simp only [Act.put, List.setIfInBounds_toArray, List.set_cons_zero, List.set_cons_succ]
    refine T_take (i := 10) (v := undef) rfl (by kernel_rfl) (fun _ _ _ h => h) (Or.inr ⟨by rfl, rfl⟩) hHeld1 ?_
    try simp only [Act.put, List.setIfInBounds_toArray, List.set_cons_zero, List.set_cons_succ]
    refine T_take (i := 11) (v := undef) rfl (by kernel_rfl) (fun _ _ _ h => h) (Or.inr ⟨by rfl, rfl⟩) hHeld1 ?_
    try simp only [Act.put, List.setIfInBounds_toArray, List.set_cons_zero, List.set_cons_succ]
    refine T_take (i := 12) (v := undef) rfl (by kernel_rfl) (fun _ _ _ h => h) (Or.inr ⟨by rfl, rfl⟩) hHeld1 ?_
    try simp only [Act.put, List.setIfInBounds_toArray, List.set_cons_zero, List.set_cons_succ]
    refine T_take (i := 13) (v := undef) rfl (by kernel_rfl) (fun _ _ _ h => h) (Or.inr ⟨by rfl, rfl⟩) hHeld1 ?_
    try simp only [Act.put, List.setIfInBounds_toArray, List.set_cons_zero, List.set_cons_succ]
    refine T_take (i := 14) (v := ?_) rfl (by kernel_rfl) (fun _ _ _ h => h) (Or.inl ⟨by rfl, ?_⟩) hHeld1 ?_
    rotate_left
    ·
      intro W hW
      clear hW
      go_simp
      all_goals with_reducible rfl
    try simp only [Act.put, List.setIfInBounds_toArray, List.set_cons_zero, List.set_cons_succ]
    refine T_take (i := 15) (v := ?_) rfl (by kernel_rfl) (fun _ _ _ h => h) (Or.inl ⟨by rfl, ?_⟩) hHeld1 ?_
    rotate_left
    ·
      intro W hW
      clear hW
      go_simp
      all_goals with_reducible rfl
    try simp only [Act.put, List.setIfInBounds_toArray, List.set_cons_zero, List.set_cons_succ]
    refine T_take (i := 16) (v := ?_) rfl (by kernel_rfl) (fun _ _ _ h => h) (Or.inl ⟨by rfl, ?_⟩) hHeld1 ?_
    rotate_left
    ·
      intro W hW
      clear hW
      go_simp
      all_goals with_reducible rfl
    try simp only [Act.put, List.setIfInBounds_toArray, List.set_cons_zero, List.set_cons_succ]
    refine T_tail 17 rfl rfl (by omega) (by kernel_rfl) ?_
    clear hHeld hHeld1
    go_wp2_with fail
    go_ret
    exact ⟨rfl, HGY.out⟩
end Go.Proofs.YtocjlbpehfpdoaaGreatDoor
