/- package path: Parse. · What the rows' condition on the listed variables gives the walks: the library's tables, package order's kinds, bytealg's bound. · package json's reader: a string: the walk. · package json's reader: yes, no, text, enter. -/
import Derived.Test.YtocjlbpehfpdoaaGreatDoorK14
import Derived.Test.YtocjlbpehfpdoaaGreatDoorRows
import Derived.ProofKit
import Derived.LaidMore
import Derived.OpenShut
import Derived.Stop.Joined
import Derived.Lay
import Derived.Carry
import Derived.PinnedBridge
import Derived.Lib.LaidU8
import Derived.Lib.LaidCase
import Derived.Test.YtocjlbpehfpdoaaGreatDoorK06
import Derived.Test.YtocjlbpehfpdoaaGreatDoorK04
set_option linter.unusedVariables false
set_option linter.unusedSimpArgs false
namespace Go.Proofs.YtocjlbpehfpdoaaGreatDoor
open Go.RowKit

theorem dot_none : ∀ (pre cur : Js.Bs), (∀ c ∈ pre, c ≠ 46) → Js.splitDot cur pre = [cur ++ pre]
  | [], cur, _ => by simp [Js.splitDot]
  | c :: pre, cur, h => by
    unfold Js.splitDot
    rw [if_neg (h c (by simp)), dot_none pre _ (fun d hd => h d (by simp [hd]))]
    simp
theorem dot_hit : ∀ (pre cur rest : Js.Bs), (∀ c ∈ pre, c ≠ 46) → Js.splitDot cur (pre ++ 46 :: rest) = (cur ++ pre) :: Js.splitDot [] rest
  | [], cur, rest, _ => by simp [Js.splitDot]
  | c :: pre, cur, rest, h => by
    rw [List.cons_append]
    conv => lhs; unfold Js.splitDot
    rw [if_neg (h c (by simp)), dot_hit pre _ rest (fun d hd => h d (by simp [hd]))]
    simp
theorem occ_one (s : Js.Bs) (j : Nat) (h : Lib.occAt s [46] j = false) (hj : j < s.length) : s[j] ≠ 46 := by
  intro e
  have : Lib.occAt s [46] j = true := by
    unfold Lib.occAt
    rw [List.drop_eq_getElem_cons hj, e]
    simp
  rw [h] at this
  cases this
theorem split_dot : ∀ (n : Nat) (s : Js.Bs), s.length ≤ n → Lib.split s [46] = Js.splitDot [] s
  | n, s, hn => by
    rcases Lib.index_spec s [46] with ⟨h, hno⟩ | ⟨i, h, hi, hoc, hno⟩
    · have hne : ∀ c ∈ s, c ≠ 46 := by
        intro c hc
        obtain ⟨j, hj, rfl⟩ := List.getElem_of_mem hc
        exact occ_one s j (hno j (by omega)) hj
      rw [dot_none s [] hne]
      unfold Lib.split
      rw [Lib.count_miss h]
      rfl
    · have hr := Lib.index_room s [46] (by omega)
      rw [h] at hr
      simp only [List.length_cons, List.length_nil] at hr
      have hil : i < s.length := by omega
      have hsi : s[i] = 46 := by
        have := Lib.occAt_head (c := 46) (t := []) rfl hoc
        rw [List.getElem?_eq_getElem hil] at this
        simpa using this
      have hs : s = s.take i ++ 46 :: s.drop (i + 1) := by
        rw [← hsi, ← List.drop_eq_getElem_cons hil, List.take_append_drop]
      have hne : ∀ c ∈ s.take i, c ≠ 46 := by
        intro c hc
        obtain ⟨j, hj, rfl⟩ := List.getElem_of_mem hc
        rw [List.length_take] at hj
        rw [List.getElem_take]
        exact occ_one s j (hno j (by omega)) (by omega)
      have hd := dot_hit (s.take i) [] (s.drop (i + 1)) hne
      rw [← hs, List.nil_append] at hd
      rw [hd]
      cases n with
      | zero => omega
      | succ n =>
        have ih := split_dot n (s.drop (i + 1)) (by rw [List.length_drop]; omega)
        unfold Lib.split
        rw [Lib.count_hit (by simp) h, Nat.add_comm 1]
        unfold Lib.splitK
        rw [if_neg (by rw [h]; simp), h]
        simp only [Int.toNat_natCast, Nat.add_zero, List.length_cons, List.length_nil, Nat.zero_add]
        rw [← ih]
        rfl

/-- bytealg's variable MaxLen holds a number: below B. -/
def Mx (B : Nat) (w : World) : Prop := 1 < B ∧ B ≤ w.heap.size ∧ ∃ m, w.cell? ⟨1, 0, none⟩ = some (.int .i64 m)
theorem Mx.gb {B : Nat} {w w' : World} {row : Option Nat} (h : Mx B w) (hg : w.grownBy w' row) (hr : ∀ k, row = some k → B ≤ k) : Mx B w' := by
  obtain ⟨h0, h1, m, h2⟩ := h
  exact ⟨h0, Nat.le_trans h1 hg.size, m, (World.cell?_of_block (a := ⟨1, 0, none⟩) (hg.block 1 (by omega) (fun e => by have := hr 1 e.symm; omega))).trans h2⟩
theorem Mx.gbn {B : Nat} {w w' : World} (h : Mx B w) (hg : w.grownBy w' none) : Mx B w' := h.gb hg (fun _ e => by cases e)
theorem split_dots (s : Js.Bs) (B : Nat) (w : World) (hM : Mx B w) (hs : s.length ≤ 100000) :
    Calls Tryz.prog 54 #[.string (ba s), .string ⟨#[46]⟩] w fun e w' => e = .returned (.slice (some ⟨w.heap.size, 0, none⟩) (Js.splitDot [] s).length (Js.splitDot [] s).length) ∧ w' = w.alloc (.cells (strs (Js.splitDot [] s)).toArray 9 (0, 0)) := by
  obtain ⟨_, _, m, hm⟩ := hM
  refine (Tryz.strings_Split (ba s) ⟨#[46]⟩ m w (by rw [sz_ba]; omega) hm (by decide)).mono ?_
  rintro e w' ⟨rfl, rfl⟩
  have h1 : (Lib.splitB ⟨#[46]⟩ 0 (Lib.countB (ba s) ⟨#[46]⟩) (ba s)).map (·.data.toList) = Js.splitDot [] s := by
    rw [Lib.splitB_data]
    exact split_dot _ s (Nat.le_refl _)
  have h2 : (Lib.splitB ⟨#[46]⟩ 0 (Lib.countB (ba s) ⟨#[46]⟩) (ba s)) = (Js.splitDot [] s).map ba := by
    rw [← h1, List.map_map]
    conv => lhs; rw [← List.map_id (Lib.splitB _ _ _ _)]
    refine List.map_congr_left (fun x _ => ?_)
    exact ba_of rfl
  have h3 : Lib.countB (ba s) ⟨#[46]⟩ + 1 = (Js.splitDot [] s).length := by
    rw [← Lib.splitB_all ⟨#[46]⟩ (by decide) 0 _ (ba s) rfl, h2, List.length_map]
  rw [h2, h3]
  refine ⟨rfl, ?_⟩
  unfold strs
  rw [List.map_map]
  rfl

theorem trim_signs (x : Js.Bs) (w : World) (hx : x.length ≤ 100000) :
    Calls Tryz.prog 55 #[.string (ba x), .string ⟨#[65, 66, 67, 68, 69, 70, 71, 72, 73, 74, 75, 76, 77, 78, 79, 80, 81, 82, 83, 84, 85, 86, 87, 88, 89, 90, 97, 98, 99, 100, 101, 102, 103, 104, 105, 106, 107, 108, 109, 110, 111, 112, 113, 114, 115, 116, 117, 118, 119, 120, 121, 122, 48, 49, 50, 51, 52, 53, 54, 55, 56, 57, 95, 45]⟩] w fun e w' => e = .returned (.string (ba (Lib.trimS x Js.signs))) ∧ w.grownBy w' none := by
  refine (Tryz.strings_Trim_set (ba x) ⟨#[65, 66, 67, 68, 69, 70, 71, 72, 73, 74, 75, 76, 77, 78, 79, 80, 81, 82, 83, 84, 85, 86, 87, 88, 89, 90, 97, 98, 99, 100, 101, 102, 103, 104, 105, 106, 107, 108, 109, 110, 111, 112, 113, 114, 115, 116, 117, 118, 119, 120, 121, 122, 48, 49, 50, 51, 52, 53, 54, 55, 56, 57, 95, 45]⟩ w (by rw [sz_ba]; omega) (by decide) (by
    intro j b hb
    have : ∀ b ∈ Js.signs, b.toNat < 128 := by decide
    exact this b (List.mem_of_getElem? hb))).mono ?_
  rintro e w' ⟨rfl, hb⟩
  exact ⟨rfl, gb_below hb⟩

/-- Names and an error's number handed back, in new memory. -/
def NOut (w : World) (l : List Js.Bs) (ec : Int) (e : Ending) (w' : World) : Prop := ∃ A c, e = .returned (.tuple #[.slice A l.length c, .int .i64 ec]) ∧ SlN (fun k => w.heap.size ≤ k) w' l (.slice A l.length c) ∧ w.grownBy w' none
theorem wparse_eq (s : Js.Bs) (l : List Js.Bs) (hl : Js.splitDot [] s = l) : Js.wparse s = if 8 < l.length then ([], 33) else if l.all Js.wayOk then (l, 0) else ([], 33) := by
  subst hl; rfl

set_option maxRecDepth 100000 in
set_option maxHeartbeats 8000000 in
theorem path_parse (s : Js.Bs) (B : Nat) (w : World) (hM : Mx B w) (hs : s.length ≤ 10000) : Calls Tryz.prog 20 #[.string (ba s)] w (NOut w (Js.wparse s).1 (Js.wparse s).2) := by
  have hsp := split_dots s B w hM (by omega)
  have hlen : ∀ (s cur : Js.Bs), ∀ x ∈ Js.splitDot cur s, x.length ≤ cur.length + s.length := by
    intro s
    induction s with
    | nil => intro cur x hx; simp [Js.splitDot] at hx; rw [hx]; simp
    | cons c s ih =>
      intro cur x hx
      unfold Js.splitDot at hx
      split at hx
      · rcases List.mem_cons.1 hx with rfl | hx
        · simp
        · have := ih [] x hx; simp at this ⊢; omega
      · have := ih _ x hx; simp at this ⊢; omega
  have hlen' := hlen s []
  obtain ⟨l, hl⟩ : ∃ l, Js.splitDot [] s = l := ⟨_, rfl⟩
  have hwp := wparse_eq s l hl
  rw [hl] at hsp hlen'
  obtain ⟨R, hR⟩ : ∃ R, Js.wparse s = R := ⟨_, rfl⟩
  rw [hR] at hwp ⊢
  have HSP := Lib.hid hsp
  have HWP := Lib.hid hwp
  have HLEN := Lib.hid (fun x (hx : x ∈ l) => show x.length ≤ 100000 by have := hlen' x hx; simp at this; omega)
  clear hsp hwp hlen hlen' hl hR hM hs
  obtain ⟨N, hN⟩ : ∃ N, l.length = N := ⟨_, rfl⟩
  have HN := Lib.hid hN
  rw [hN] at HSP
  by_cases hbig : 8 < N
  · have HR : Hid (R = ([], 33)) := Lib.hid (HWP.out.trans (by rw [if_pos (by rw [hN]; exact hbig)]))
    have hb : (8 : Int) < (N : Int) := by omega
    clear HWP hN hbig
    go_enter Tryz.func20, Tryz.ntmps20
    go_wp2_with fail
    refine HSP.out.mono ?_
    rintro e w1 ⟨rfl, rfl⟩
    go_wp2_with fail
    go_ret2
    rw [HR.out]
    exact ⟨none, 0, rfl, SlN.nil _ _, World.grownBy_alloc w _ none⟩
  · have HWP2 : Hid (R = if l.all Js.wayOk then (l, 0) else ([], 33)) := Lib.hid (HWP.out.trans (by rw [if_neg (by rw [hN]; exact hbig)]))
    have hb : ¬ (8 : Int) < (N : Int) := by omega
    have hN8 : N ≤ 8 := by omega
    clear HWP hN hbig
    go_enter Tryz.func20, Tryz.ntmps20
    go_wp2_with fail
    refine HSP.out.mono ?_
    rintro e w1 ⟨rfl, hw1⟩
    have HW1 := Lib.hid hw1
    have hg1 : w.grownBy w1 none := by rw [hw1]; exact World.grownBy_alloc w _ none
    have hblk : w1.heap[w.heap.size]? = some (.cells (strs l).toArray 9 (0, 0)) := by rw [hw1]; exact blk_new w _
    have HG1 := Lib.hid hg1
    have HBLK := Lib.hid hblk
    clear hw1 hg1 hblk
    go_wp2_with fail
    go_loopw [14] (fun s14 wr => ∃ i : Nat, i ≤ N ∧ s14 = .int .i64 i ∧ w1.grownBy wr none ∧ (l.take i).all Js.wayOk = true) (fun s14 _ => N - (intOf s14).toNat)
    case atStart => exact ⟨0, Nat.zero_le _, rfl, gb_refl _ _, rfl⟩
    case round =>
      obtain ⟨i, hin, rfl, hg, hall⟩ := hrel
      have HG := Lib.hid hg
      have HALL := Lib.hid hall
      have HB := Lib.hid (gb_blk hg HBLK.out (by simp))
      clear hg hall
      by_cases hlt : i < N
      · have hil : i < l.length := by rw [HN.out]; exact hlt
        obtain ⟨x, hx⟩ : ∃ x, l[i] = x := ⟨_, rfl⟩
        have hcell : wr.cell? ⟨w.heap.size, i, none⟩ = some (.string (ba x)) := by
          rw [blk_c HB.out, ← Array.getElem?_toList]
          simp [strs, List.getElem?_eq_getElem hil, hx]
        have hxl : x.length ≤ 100000 := HLEN.out x (hx ▸ List.getElem_mem hil)
        have HT := Lib.hid (fun W => trim_signs x W hxl)
        have HSZ := Lib.hid (sz_ba x)
        obtain ⟨n, hn⟩ : ∃ n, x.length = n := ⟨_, rfl⟩
        have hsz : (ba x).size = n := by rw [sz_ba]; exact hn
        have hii : (i : Int) < N := by omega
        have HX := Lib.hid (show (l.take (i + 1)).all Js.wayOk = Js.wayOk x by
          rw [List.take_succ_eq_append_getElem hil, List.all_append, HALL.out, hx]; simp)
        have HOKX := Lib.hid (show Js.wayOk x = (decide (1 ≤ n) && decide (n ≤ 24) && Lib.trimS x Js.signs == []) by unfold Js.wayOk; rw [hn])
        have HBAD := Lib.hid (fun (h : Js.wayOk x = false) => show l.all Js.wayOk = false by
          rw [List.all_eq_false]
          exact ⟨x, hx ▸ List.getElem_mem hil, by rw [h]; simp⟩)
        clear hx hn hil
        by_cases h1 : n < 1
        · have hi1 : (n : Int) < 1 := by omega
          have HR : Hid (R = ([], 33)) := Lib.hid (HWP2.out.trans (by rw [HBAD.out (by rw [HOKX.out, decide_eq_false (by omega)]; rfl)]; rfl))
          clear h1
          go_wp2_with fail
          go_ret2
          rw [HR.out]
          exact ⟨none, 0, rfl, SlN.nil _ _, gb_trans HG1.out HG.out⟩
        · by_cases h2 : 24 < n
          · have hi1 : ¬ (n : Int) < 1 := by omega
            have hi2 : (24 : Int) < (n : Int) := by omega
            have HR : Hid (R = ([], 33)) := Lib.hid (HWP2.out.trans (by rw [HBAD.out (by rw [HOKX.out, decide_eq_true (show 1 ≤ n by omega), decide_eq_false (show ¬ n ≤ 24 by omega)]; rfl)]; rfl))
            clear h1 h2
            go_wp2_with fail
            go_ret2
            rw [HR.out]
            exact ⟨none, 0, rfl, SlN.nil _ _, gb_trans HG1.out HG.out⟩
          · have hi1 : ¬ (n : Int) < 1 := by omega
            have hi2 : ¬ (24 : Int) < (n : Int) := by omega
            have HD := Lib.hid (show (decide (1 ≤ n) && decide (n ≤ 24)) = true by rw [decide_eq_true (show 1 ≤ n by omega), decide_eq_true (show n ≤ 24 by omega)]; rfl)
            clear h1 h2
            obtain ⟨tr, htr⟩ : ∃ t, Lib.trimS x Js.signs = t := ⟨_, rfl⟩
            rw [htr] at HT HOKX
            have hem : (ba tr).toList.isEmpty = (tr == []) := is_empty tr
            obtain ⟨tb, htb⟩ : ∃ b, (tr == []) = b := ⟨_, rfl⟩
            rw [htb] at hem HOKX
            clear htr htb
            cases tb
            · have HR : Hid (R = ([], 33)) := Lib.hid (HWP2.out.trans (by rw [HBAD.out (by rw [HOKX.out, Bool.and_false])]; rfl))
              go_wp2_with fail
              refine (HT.out _).mono ?_
              rintro e w2 ⟨rfl, g2⟩
              have HG2 := Lib.hid (gb_trans (gb_trans HG1.out HG.out) g2)
              clear g2
              go_wp2_with fail
              go_ret2
              rw [HR.out]
              exact ⟨none, 0, rfl, SlN.nil _ _, HG2.out⟩
            · have HX2 : Hid ((l.take (i + 1)).all Js.wayOk = true) := Lib.hid (by rw [HX.out, HOKX.out, Bool.and_true]; exact HD.out)
              go_wp2_with fail
              refine (HT.out _).mono ?_
              rintro e w2 ⟨rfl, g2⟩
              have HG2 := Lib.hid (gb_trans HG.out g2)
              clear g2
              go_wp2_with fail
              go_roundw
              case rel => exact ⟨i + 1, by omega, by go_num, HG2.out, HX2.out⟩
              case measure => simp [intOf]; omega
      · have hie : i = N := by omega
        subst hie
        have HR : Hid (R = (l, 0)) := Lib.hid (HWP2.out.trans (by
          have := HALL.out
          rw [List.take_of_length_le (by rw [HN.out]; exact Nat.le_refl _)] at this
          rw [this]; rfl))
        go_wp2_with fail
        go_ret2
        rw [HR.out, ← HN.out]
        refine ⟨_, _, rfl, ?_, gb_trans HG1.out HG.out⟩
        exact ⟨_, _, rfl, Nat.le_refl _, by unfold maxLen; rw [HN.out]; omega, .inr ⟨w.heap.size, 0, rfl, blk_lt' HB.out, Nat.le_refl _, fun j u hj => by rw [Nat.zero_add, blk_c HB.out, ← Array.getElem?_toList]; exact hj⟩⟩
end Go.Proofs.YtocjlbpehfpdoaaGreatDoor

set_option linter.unusedVariables false
set_option linter.unusedSimpArgs false
namespace Go.Proofs.YtocjlbpehfpdoaaGreatDoor
open Go.ChangeShapes Go.WideShapes Go.ChangeAt Go.WideMaps Go.WideElems Go.RowKit Go.Lib

theorem knob : ownKnob Tryz.prog.godebug = none := by kernel_rfl
theorem laidOutK : laidOutB Tryz.prog = true := by kernel_rfl
theorem c5K : Tryz.prog.cellsOf 5 = 1 := by kernel_rfl
theorem u8X : U8Extra Tryz.prog Tryz.lays260_ren := ⟨by kernel_rfl, by kernel_rfl, by kernel_rfl, by kernel_rfl, by kernel_rfl, by kernel_rfl, by kernel_rfl⟩
/-- The renaming of the library's text on cases. -/
def caseRen : Go.Shelf.Ren := ⟨fun | 274 => 304 | n => n, fun | 21 => 21 | 162 => 324 | 160 => 325 | 3 => 3 | 4 => 4 | 46 => 220 | 0 => 0 | 208 => 331 | 51 => 77 | 206 => 329 | n => n, fun | 13 => 7 | n => n⟩
theorem caseLays : Go.Proofs.Lays.n274 Tryz.prog caseRen := {
  mixed := by kernel_rfl
  f274 := Tryz.func304.trans (congrArg some (by kernel_rfl))
  t0 := Tryz.underlying0
  a0 := Tryz.isAgg0
  z0 := Tryz.sizeOf0
  v0 := Tryz.zeroValue0
  t3 := Tryz.underlying3
  a3 := Tryz.isAgg3
  z3 := Tryz.sizeOf3
  v3 := Tryz.zeroValue3
  t4 := Tryz.underlying4
  a4 := Tryz.isAgg4
  z4 := Tryz.sizeOf4
  v4 := Tryz.zeroValue4
  t21 := Tryz.underlying21
  a21 := Tryz.isAgg21
  z21 := Tryz.sizeOf21
  v21 := Tryz.zeroValue21
  t46 := Tryz.underlying220
  a46 := Tryz.isAgg220
  z46 := Tryz.sizeOf220
  v46 := Tryz.zeroValue220
  t51 := Tryz.underlying77
  a51 := Tryz.isAgg77
  z51 := Tryz.sizeOf77
  v51 := Tryz.zeroValue77
  t160 := Tryz.underlying325
  a160 := Tryz.isAgg325
  z160 := Tryz.sizeOf325
  v160 := Tryz.zeroValue325
  t162 := Tryz.underlying324
  a162 := Tryz.isAgg324
  z162 := Tryz.sizeOf324
  v162 := Tryz.zeroValue324
  t208 := Tryz.underlying331
  a208 := Tryz.isAgg331
  z208 := Tryz.sizeOf331
  v208 := Tryz.zeroValue331 }
theorem caseX : CaseExtra Tryz.prog caseRen := ⟨by kernel_rfl, by kernel_rfl, by kernel_rfl, by kernel_rfl, by kernel_rfl, by kernel_rfl⟩
theorem acceptK : (Rows.laid_unicode_utf8_acceptRanges : DataW Unit) = acceptData := by kernel_rfl
/-- The tables. -/
theorem tabs_of_reads {w : World} (h1 : VarReads Tryz.prog w "unicode/utf8.first" Rows.laid_unicode_utf8_first) (h2 : VarReads Tryz.prog w "unicode/utf8.acceptRanges" Rows.laid_unicode_utf8_acceptRanges) (h3 : VarReads Tryz.prog w "unicode.CaseRanges" Rows.laid_unicode_CaseRanges) : Tabs w := by
  rw [show Rows.laid_unicode_utf8_first = firstData from Pinned.utf8First_eq] at h1
  rw [acceptK] at h2
  rw [show Rows.laid_unicode_CaseRanges = caseData from Pinned.caseRanges_eq] at h3
  exact ⟨utf8Tabs_of_reads Tryz.lays260 u8X h1 h2, caseVar_of_reads caseLays Tryz.underlying329 caseX h3⟩
theorem gKinds : Tryz.prog.globalNamed "rubricator/order.kinds" = some 0 := by kernel_rfl
theorem tKinds : (Tryz.prog.globals[0]?).map (·.type) = some 179 := by kernel_rfl
theorem c178K : Tryz.prog.cellsOf 178 = 2 := by kernel_rfl
/-- Package order's kinds. -/
theorem kinds_of_reads {w : World} (h : VarReads Tryz.prog w "rubricator/order.kinds" Rows.laid_rubricator_order_kinds) : Knd w.heap.size w := by
  obtain ⟨g, t, cs, fuel, p, hg, hty, hvar, hd⟩ := h
  obtain rfl := Option.some.inj (gKinds.symm.trans hg)
  obtain rfl := Option.some.inj (tKinds.symm.trans hty)
  have row : ∀ (i : Nat) (a b : Int), i < 6 → ([DataW.agg [.lit (.int .u8 1), .lit (.int .u8 2)], .agg [.lit (.int .u8 2), .lit (.int .u8 4)], .agg [.lit (.int .u8 4), .lit (.int .u8 5)], .agg [.lit (.int .u8 5), .lit (.int .u8 6)], .agg [.lit (.int .u8 6), .lit (.int .u8 7)], .agg [.lit (.int .u8 6), .lit (.int .u8 7)]] : List (DataW Unit))[i]? = some (tabData .u8 [a, b]) →
      w.cell? ⟨0, i * 2, none⟩ = some (.int .u8 a) ∧ w.cell? ⟨0, i * 2 + 1, none⟩ = some (.int .u8 b) := by
    intro i a b hi hab
    obtain ⟨fuel', d, q, hdi, he⟩ := array_elem Tryz.underlying179 hd i hi
    obtain rfl := Option.some.inj (hdi.symm.trans hab)
    rw [c178K] at he
    have hcs := cells_of_tab Tryz.underlying178 Tryz.underlying5 c5K c178K he
    have e0 := congrArg (·[0]?) hcs
    have e1 := congrArg (·[1]?) hcs
    simp only [List.getElem?_take, List.getElem?_drop] at e0 e1
    constructor
    · rw [World.var?_cell hg hvar (i * 2), ← Array.getElem?_toList]
      simpa using e0
    · rw [World.var?_cell hg hvar (i * 2 + 1), ← Array.getElem?_toList]
      simpa using e1
  have r0 := row 0 1 2 (by omega) rfl
  have r1 := row 1 2 4 (by omega) rfl
  have r2 := row 2 4 5 (by omega) rfl
  have r3 := row 3 5 6 (by omega) rfl
  have r4 := row 4 6 7 (by omega) rfl
  have r5 := row 5 6 7 (by omega) rfl
  have hpos : 0 < w.heap.size := World.block_lt_of_cell? w ⟨0, 0 * 2, none⟩ r0.1
  refine ⟨hpos, Nat.le_refl _, fun j x hj => ?_⟩
  match j, hj with
  | 0, hj => cases hj; exact r0.1
  | 1, hj => cases hj; exact r0.2
  | 2, hj => cases hj; exact r1.1
  | 3, hj => cases hj; exact r1.2
  | 4, hj => cases hj; exact r2.1
  | 5, hj => cases hj; exact r2.2
  | 6, hj => cases hj; exact r3.1
  | 7, hj => cases hj; exact r3.2
  | 8, hj => cases hj; exact r4.1
  | 9, hj => cases hj; exact r4.2
  | 10, hj => cases hj; exact r5.1
  | 11, hj => cases hj; exact r5.2
  | j + 12, hj => simp [kindsL] at hj
/-- Bytealg's bound holds some integer. -/
theorem mx_of_shaped {w : World} (h : w.ShapedOpen Tryz.prog) : Mx w.heap.size w := by
  obtain ⟨m, hm⟩ := Go.Proofs.cell_of_shapedOpen_int (g := 1) (zero := #[.int .i64 0]) (t := 3) h (of_decide_eq_true (by kernel_rfl)) (by kernel_rfl) rfl (by kernel_rfl) (by kernel_rfl) Tryz.underlying3
  exact ⟨World.block_lt_of_cell? w ⟨1, 0, none⟩ hm, Nat.le_refl _, m, hm⟩
set_option maxRecDepth 100000 in
/-- A slice of bytes that came in. -/
theorem bytes_in {H : Type} {enc : TypeId × Value → H} {W : World} {base : Nat} {v : Value} {d : DataW H} {p : List MemPlace} (hval : Value.okWide Tryz.prog W .any base 22 v) (h : DataW.Trod enc Tryz.prog W 0 (fun _ => true) true 22 v d p) :
    ∃ l : Js.Bs, SlB (fun _ => True) W l v := by
  obtain ⟨a1, len, cap, rfl⟩ := okWide_slice Tryz.underlying22 hval
  obtain ⟨fuel, hf⟩ := h
  rcases open_ints Tryz.underlying22 Tryz.underlying5 c5K hf with ⟨hcs, hx⟩ | ⟨a, len', cap', zs, hcs, _, hl, hm, hz, hx, hcell, hwz⟩
  · simp [Value.cells] at hcs
    obtain ⟨rfl, rfl, rfl⟩ := hcs
    exact ⟨[], none, 0, rfl, Nat.le_refl _, Nat.zero_le _, .inl rfl⟩
  · simp [Value.cells] at hcs
    obtain ⟨rfl, rfl, rfl⟩ := hcs
    simp only [if_true] at hz
    have hlen : ((zs.take len).map fun n => UInt8.ofNat n.toNat).length = len := by simp; omega
    refine ⟨(zs.take len).map fun n => UInt8.ofNat n.toNat, some a, cap, by rw [hlen], by rw [hlen]; exact hl, hm, ?_⟩
    by_cases h0 : len = 0
    · subst h0; exact .inl (by simp)
    · right
      obtain ⟨ab, ao, spot⟩ := a
      have hspot : spot = none := by simpa [Addr.add] using World.cell?_spot (hcell 0 (by omega))
      subst hspot
      refine ⟨ab, ao, rfl, ?_, trivial, ?_⟩
      · have := hcell 0 (by omega)
        rw [Addr.add_lit] at this
        exact World.block_lt_of_cell? W ⟨ab, ao + 0, none⟩ this
      · intro j u hu
        have hj : j < len := by
          have := (List.getElem?_eq_some_iff.1 hu).1
          rw [bc_len, hlen] at this
          exact this
        have hcj := hcell j (by omega)
        rw [Addr.add_lit] at hcj
        rw [hcj, ← hu]
        have hb := range_u8 hwz j
        rw [bc_get _ j (by rw [hlen]; exact hj)]
        simp only [List.getElem_map, List.getElem_take]
        have e : zs.getD j 0 = zs[j]'(by omega) := by simp [List.getD, List.getElem?_eq_getElem (show j < zs.length by omega)]
        rw [← List.getD_eq_getElem?_getD, e] at hb
        rw [e]
        congr 2
        simp only [UInt8.toNat_ofNat']
        omega
end Go.Proofs.YtocjlbpehfpdoaaGreatDoor

set_option linter.unusedVariables false
set_option linter.unusedSimpArgs false
namespace Go.Proofs.YtocjlbpehfpdoaaGreatDoor
open Go.RowKit

theorem getD_get (l : Js.Bs) (p : Nat) (h : p < l.length) : l.getD p 0 = l[p]'h := by
  simp [List.getD_eq_getElem?_getD, List.getElem?_eq_getElem h]
def cellLen : Option Value → Nat
  | some (.string s) => s.size
  | _ => 0
theorem strLoop_end {f : Nat} {out : Js.Bs} {st : Js.St} (h : st.e ≠ 0) : Js.strLoop (f + 1) out st = (out, st) := by
  rw [Js.strLoop, if_pos h]
theorem strLoop_bad {f : Nat} {out : Js.Bs} {st : Js.St} (h : st.e = 0) (h2 : (Js.plain st.s).2 = false) : Js.strLoop (f + 1) out st = (out ++ st.s.take (Js.plain st.s).1, Js.failS st 11) := by
  rw [Js.strLoop, if_neg (by simp [h])]
  simp [h2]
theorem strLoop_quote {f : Nat} {out : Js.Bs} {st : Js.St} (h : st.e = 0) (h2 : (Js.plain st.s).2 = true) (h3 : st.s.getD (Js.plain st.s).1 0 = 34) :
    Js.strLoop (f + 1) out st = (out ++ st.s.take (Js.plain st.s).1, { st with s := st.s.drop ((Js.plain st.s).1 + 1) }) := by
  rw [Js.strLoop, if_neg (by simp [h])]
  simp only
  rw [if_neg (by simp [h2]), if_pos h3]
theorem strLoop_on {f : Nat} {out : Js.Bs} {st : Js.St} (h : st.e = 0) (h2 : (Js.plain st.s).2 = true) (h3 : st.s.getD (Js.plain st.s).1 0 ≠ 34) (st' : Js.St) (hst : st' = { st with s := st.s.drop ((Js.plain st.s).1 + 1) }) :
    Js.strLoop (f + 1) out st = Js.strLoop f (out ++ st.s.take (Js.plain st.s).1 ++ (Js.escapeS st').1) (Js.escapeS st').2 := by
  subst hst
  rw [Js.strLoop, if_neg (by simp [h])]
  simp only
  rw [if_neg (by simp [h2]), if_neg h3]

set_option maxHeartbeats 4000000 in
theorem json_str (B r : Nat) (st : Js.St) (w : World) (h : RSt w r st) (hT : Tb B w) (hB : B ≤ r) (hne : st.s ≠ []) :
    Calls Tryz.prog 172 #[.pointer (some ⟨r, 0, none⟩)] w (RDid w r (Js.strS st).2 (.string (ba (Js.strS st).1))) := by
  have hr := h.lt
  have HT := Lib.hid hT
  obtain ⟨s, HS, HB, hl, c0, c1, c2, f0, f1, f2⟩ := h.op
  have hsz : 1 ≤ s.size := by
    rw [← sz_of, HS.out]
    exact List.length_pos_iff.2 hne
  have hs1 : (s.extract 1 s.size).data.toList = st.s.drop 1 := by rw [Lib.extract_to_end, HS.out]
  have hs2 : (s.extract 1 s.size).size + 1 = s.size := by rw [ByteArray.size_extract]; omega
  have k1 : RSt (w.setCell ⟨r, 0, none⟩ (.string (s.extract 1 s.size))) r ⟨st.s.drop 1, st.o, st.e⟩ := RSt.of _ hs1 (blk_set' HB.out 0 _) (by omega)
  have g1 := gb_set (gb_refl w (some r)) (p := ⟨r, 0, none⟩) (.inr rfl) (.string (s.extract 1 s.size))
  have hst : Js.strS st = Js.strLoop (st.s.length + 1) [] ⟨st.s.drop 1, st.o, st.e⟩ := rfl
  obtain ⟨A, hA⟩ : ∃ A, Js.strS st = A := ⟨_, rfl⟩
  rw [hA] at hst ⊢
  have HA := Lib.hid hst
  have HK1 := Lib.hid k1
  have HG1 := Lib.hid g1
  have hlen1 : st.s.length ≤ 4096 := by rw [← HS.out, sz_of]; exact hl
  have HL := Lib.hid (show (st.s.drop 1).length + 1 ≤ st.s.length + 1 by simp)
  clear h hT hs1 hs2 k1 g1 hst hA hne c1 c2 f1 f2
  go_enter Tryz.func172, Tryz.ntmps172
  go_wp2_with fail
  go_loopw [4, 5, 6] (fun s4 s5 s6 wr => ∃ (f : Nat) (out : Js.Bs) (st' : Js.St), RSt wr r st' ∧ w.grownBy wr (some r) ∧ Lib.IsBuilderF 214 5 w.heap.size w.heap.size (Lib.byteCells out) wr ∧ st'.s.length + 1 ≤ f ∧ out.length + 4 * st'.s.length ≤ 16384 ∧ Js.strLoop f out st' = A) (fun s4 s5 s6 wr => cellLen (wr.cell? ⟨r, 0, none⟩))
  case atStart =>
    refine ⟨st.s.length + 1, [], ⟨st.s.drop 1, st.o, st.e⟩, ?_, ?_, ?_, ?_, ?_, HA.out.symm⟩
    · exact HK1.out.gb (World.grownBy_alloc _ _ none) (by simp)
    · exact gb_alloc HG1.out _
    · have := bld_new (w.setCell ⟨r, 0, none⟩ (.string (s.extract 1 s.size)))
      simpa [World.setCell] using this
    · simp
    · simp; omega
  case round =>
    obtain ⟨f, out, st', hk, hg, hbd, hf, hol, hrel⟩ := hrel
    have HK := Lib.hid hk
    have HG := Lib.hid hg
    have HBD := Lib.hid hbd
    have HR := Lib.hid hrel
    have HTr := Lib.hid (HT.out.gb hg (fun k e => by cases e; exact hB))
    obtain ⟨s', HS', HB', hl', d0, d1, d2, q0, q1, q2⟩ := hk.op
    have hlen : s'.size = st'.s.length := by rw [← sz_of, HS'.out]
    have hbw : w.heap.size ≤ wr.heap.size := hg.size
    have HM := Lib.hid (show cellLen (wr.cell? ⟨r, 0, none⟩) = s'.size by rw [d0]; rfl)
    obtain ⟨f', rfl⟩ : ∃ f', f = f' + 1 := ⟨f - 1, by omega⟩
    clear hk hg hbd hrel
    by_cases he : st'.e = 0
    · rw [he] at d2
      have HE := Lib.hid he
      clear he
      obtain ⟨p, ok, hpl⟩ : ∃ p ok, Js.plain st'.s = (p, ok) := ⟨_, _, rfl⟩
      have hpf := plain_facts _ st'.s (Nat.le_refl _)
      rw [hpl] at hpf
      simp only at hpf
      have hcall := json_plain B s' wr (by omega) HTr.out
      rw [HS'.out, hpl] at hcall
      have HC := Lib.hid hcall
      have hp1 := hpf.1
      have hext : (s'.extract 0 p).data.toList = st'.s.take p := by rw [ext_list, HS'.out]; simp
      have hextz : (s'.extract 0 p).size = p := by rw [ByteArray.size_extract]; omega
      have HX := Lib.hid hext
      have HXZ := Lib.hid hextz
      have HPL := Lib.hid hpl
      have HLEN := Lib.hid hlen
      have hps : (p : Int) ≤ s'.size := by omega
      clear hcall hext hextz hpl hlen
      go_wp2_with fail
      refine HC.out.mono ?_
      rintro e w1 ⟨rfl, hw1⟩
      have HW1 := Lib.hid hw1
      have hb1 := gb_blk hw1 HB'.out (by simp)
      have k0 : w1.cell? ⟨r, 0, none⟩ = some (.string s') := by rw [blk_c hb1]; rfl
      have HB1 := Lib.hid hb1
      have hs1 := hw1.size
      clear d0 d1 d2 q0 q1 q2 hw1 hb1
      go_wp2_with fail
      refine (Tryz.Builder_WriteString_k w.heap.size w.heap.size (Lib.byteCells out) (s'.extract 0 p) w1 (bld_gbn HBD.out HW1.out) (by rw [Lib.byteCells_length, HXZ.out]; omega) (by omega)).mono ?_
      rintro e w2 ⟨rfl, hb2, hw2, ho2⟩
      rw [byteCells_str _ _ _ HX.out] at hb2
      have hbr : w2.heap[r]? = w1.heap[r]? := hw2.block r hr
      have hb2r := hbr.trans HB1.out
      have k0' : w2.cell? ⟨r, 0, none⟩ = some (.string s') := by rw [blk_c hb2r]; rfl
      have kf' := blk_f hb2r 0
      have HB2 := Lib.hid hb2r
      have HBD2 := Lib.hid hb2
      have hg2 := gb_bel (gb_trans HG.out (gb_any HW1.out)) hw2
      have HG2 := Lib.hid hg2
      have hT2 := HTr.out.gbn HW1.out
      have HT2 := Lib.hid (hT2.bel hw2 (by have := HT.out.le; omega))
      have hk2 := (HK.out.gb HW1.out (by simp)).bel hw2 hr
      have HK2 := Lib.hid hk2
      have hs2 := hw2.size
      clear hb2 hbr hb2r hg2 hT2 hk2 hw2 ho2 k0
      cases ok
      · have HA2 := Lib.hid (strLoop_bad (f := f') (out := out) HE.out (show (Js.plain st'.s).2 = false by rw [HPL.out]))
        go_wp2_with fail
        refine (json_fail r st' 11 _ HK2.out).mono ?_
        rintro e w3 ⟨rfl, k3, g3⟩
        have HG3 := Lib.hid g3
        have HBD3 := Lib.hid (bld_kept (.inr HBD2.out) g3 hr)
        have hs3 := g3.size
        clear g3
        go_wp2_with fail
        refine (Tryz.Builder_String_any_k w.heap.size w.heap.size _ _ HBD3.out (by omega)).mono ?_
        rintro e w4 ⟨rfl, hb4, hw4, ho4⟩
        have HW4 := Lib.hid hw4
        clear hb4 hw4 ho4
        go_wp2
        go_ret
        have hfin : A = (out ++ st'.s.take p, Js.failS st' 11) := by rw [← HR.out, HA2.out, HPL.out]
        rw [hfin]
        exact ⟨rfl, k3.bel HW4.out hr, gb_bel (gb_trans HG2.out HG3.out) HW4.out⟩
      · have hpf2 := hpf.2 rfl
        have hpn := hpf2.1
        have hp3 : p < s'.size := by rw [HLEN.out]; exact hpn
        obtain ⟨y, hy⟩ : ∃ y, (s'[p]'hp3).toNat = y := ⟨_, rfl⟩
        have hyb : st'.s.getD p 0 = s'[p]'hp3 := by
          rw [getD_get _ _ hpn]
          simp only [ByteArray.getElem_eq_getElem_data, ← HS'.out, Array.getElem_toList]
        have ix := run_idx s' p hp3 y hy
        have a1 : IntKind.i64.wrap ((p : Int) + 1) = (p : Int) + 1 := IntWalk.i64_in _ (by omega)
        have a2 : 0 ≤ (p : Int) + 1 := by omega
        have a3 : ((p : Int) + 1).toNat = p + 1 := by omega
        have a4 := run_slL s' ((p : Int) + 1) (p + 1) a3 a2 (by omega)
        have hx1 : (s'.extract (p + 1) s'.size).data.toList = st'.s.drop (p + 1) := by rw [Lib.extract_to_end, HS'.out]
        have hx2 : (s'.extract (p + 1) s'.size).size = st'.s.length - (p + 1) := by rw [ByteArray.size_extract, HLEN.out]; omega
        have hk3 : RSt (w2.setCell ⟨r, 0, none⟩ (.string (s'.extract (p + 1) s'.size))) r ⟨st'.s.drop (p + 1), st'.o, st'.e⟩ := RSt.of _ hx1 (blk_set' HB2.out 0 _) (by omega)
        have hg3 := gb_set (gb_refl w2 (some r)) (p := ⟨r, 0, none⟩) (.inr rfl) (.string (s'.extract (p + 1) s'.size))
        have HK3 := Lib.hid hk3
        have HG3 := Lib.hid hg3
        have HT3 := Lib.hid (HT2.out.gb hg3 (fun k e => by cases e; exact hB))
        have HBD3 := Lib.hid (bld_kept (.inr HBD2.out) hg3 hr)
        have hs3 := hg3.size
        have HYB := Lib.hid hyb
        have HY := Lib.hid hy
        clear hx1 hx2 hk3 hg3 hyb hy hpf hpf2
        by_cases hq : y = 34
        · have e1 : ((y : Int) == 34) = true := by simp [hq]
          have HA2 := Lib.hid (strLoop_quote (f := f') (out := out) HE.out (show (Js.plain st'.s).2 = true by rw [HPL.out]) (by rw [HPL.out]; simp only; rw [HYB.out]; exact UInt8.toNat_inj.1 (HY.out.trans hq)))
          clear hq
          go_wp2_with fail
          refine (Tryz.Builder_String_any_k w.heap.size w.heap.size _ _ HBD3.out (by omega)).mono ?_
          rintro e w4 ⟨rfl, hb4, hw4, ho4⟩
          have HW4 := Lib.hid hw4
          clear hb4 hw4 ho4
          go_wp2
          go_ret
          have hfin : A = (out ++ st'.s.take p, ⟨st'.s.drop (p + 1), st'.o, st'.e⟩) := by rw [← HR.out, HA2.out, HPL.out]
          rw [hfin]
          exact ⟨rfl, HK3.out.bel HW4.out hr, gb_bel (gb_trans HG2.out HG3.out) HW4.out⟩
        · have e1 : ((y : Int) == 34) = false := by simp; omega
          have hq' : st'.s.getD p 0 ≠ 34 := by
            rw [HYB.out]
            intro h
            exact hq (HY.out.symm.trans (congrArg UInt8.toNat h))
          have HA2 := Lib.hid (strLoop_on (f := f') (out := out) HE.out (show (Js.plain st'.s).2 = true by rw [HPL.out]) (by rw [HPL.out]; exact hq') ⟨st'.s.drop (p + 1), st'.o, st'.e⟩ (by rw [HPL.out]))
          have hcall := json_escape B r ⟨st'.s.drop (p + 1), st'.o, st'.e⟩ _ HK3.out HT3.out hB
          have hel := esc_len ⟨st'.s.drop (p + 1), st'.o, st'.e⟩
          simp only [List.length_drop] at hel
          have HC2 := Lib.hid hcall
          obtain ⟨es, hes⟩ : ∃ es, Js.escapeS ⟨st'.s.drop (p + 1), st'.o, st'.e⟩ = es := ⟨_, rfl⟩
          rw [hes] at HC2 HA2 hel
          clear hq hq' hcall hes
          go_wp2_with fail
          refine HC2.out.mono ?_
          rintro e w4 ⟨rfl, k4, g4⟩
          have hg4 := gb_trans HG2.out (gb_trans HG3.out g4)
          have HG4 := Lib.hid hg4
          have HBD4 := Lib.hid (bld_kept HBD3.out g4 hr)
          have HK4 := Lib.hid k4
          have hs4 := g4.size
          clear g4 k4 hg4
          go_wp2_with fail
          refine (Tryz.Builder_WriteString_k w.heap.size w.heap.size _ (ba es.1) w4 HBD4.out (by rw [Lib.byteCells_length, sz_ba, List.length_append, List.length_take]; omega) (by omega)).mono ?_
          rintro e w5 ⟨rfl, hb5, hw5, ho5⟩
          rw [byteCells_str _ _ _ (ba_list _)] at hb5
          have HW5 := Lib.hid hw5
          have HB5 := Lib.hid hb5
          clear hw5 hb5 ho5
          go_wp2
          refine ⟨⟨f', _, es.2, HK4.out.bel HW5.out hr, gb_bel HG4.out HW5.out, .inr HB5.out, by omega, ?_, ?_⟩, ?_⟩
          · simp only [List.length_append, List.length_take]; omega
          · rw [← HR.out, HA2.out, HPL.out]
          · obtain ⟨s5, h5, b5, l5, e50, _⟩ := (HK4.out.bel HW5.out hr).op
            have hz5 : s5.size = es.2.s.length := by rw [← sz_of, h5.out]
            rw [HM.out, e50]
            show s5.size < s'.size
            have := HLEN.out
            omega
    · have e0 : (st'.e == 0) = false := by simpa using he
      have HA2 := Lib.hid (strLoop_end (f := f') (out := out) he)
      clear he
      go_wp2_with fail
      refine (Tryz.Builder_String_any_k w.heap.size w.heap.size _ _ HBD.out (by omega)).mono ?_
      rintro e w4 ⟨rfl, hb4, hw4, ho4⟩
      have HW4 := Lib.hid hw4
      clear hb4 hw4 ho4
      go_wp2
      go_ret
      have hfin : A = (out, st') := by rw [← HR.out, HA2.out]
      rw [hfin]
      exact ⟨rfl, HK.out.bel HW4.out hr, gb_bel HG.out HW4.out⟩
end Go.Proofs.YtocjlbpehfpdoaaGreatDoor

set_option linter.unusedVariables false
set_option linter.unusedSimpArgs false
namespace Go.Proofs.YtocjlbpehfpdoaaGreatDoor
open Go.RowKit

theorem RSt.al {w : World} {r : Nat} {st : Js.St} (h : RSt w r st) (o : Obj) : RSt (w.alloc o) r st := h.gb (World.grownBy_alloc w o none) (by simp)

set_option maxHeartbeats 800000 in
theorem json_yes (r : Nat) (st : Js.St) (w : World) (h : RSt w r st) :
    Calls Tryz.prog 106 #[.pointer (some ⟨r, 0, none⟩)] w (VDid w r { Js.V.zero with kind := 1, is := true } (Js.needS [116, 114, 117, 101] st)) := by
  have hr := h.lt
  have H := Lib.hid (h.al (.cells #[.int .i64 0, .bool false, .bool false, .string ⟨#[]⟩, .int .i64 0, .string ⟨#[]⟩, .slice none 0 0, .slice none 0 0] 29 (0, 0)))
  clear h
  go_enter Tryz.func106, Tryz.ntmps106
  go_wp2_with fail
  refine (json_need r st ⟨#[116, 114, 117, 101]⟩ _ H.out).mono ?_
  rintro e w1 ⟨rfl, h1, g1⟩
  have hb := gb_blk g1 (blk_new w _) (by simp; omega)
  obtain ⟨⟨c0, c1, c2, c3, c4, c5, c6, c7⟩, f0, f1, f2, f3, f4, f5, f6, f7⟩ := blk8 hb
  have HG := Lib.hid g1
  clear g1 hb H
  go_wp2
  refine bodyPost_ret (v := .agg #[.int .i64 1, .bool true, .bool false, .string ⟨#[]⟩, .int .i64 0, .string ⟨#[]⟩, .slice none 0 0, .slice none 0 0]) (by simp [results, Tryz.results106, go_sem, c0, c1, c2, c3, c4, c5, c6, c7]) rfl ?_
  refine VDid.done (b0 := w.heap.size) (si := .slice none 0 0) (sn := .slice none 0 0) rfl h1 (World.grownBy_alloc w _ none) HG.out ?_ (Nat.le_refl _) hr (RdV.bare _ _ _ _ _ _)
  iterate 8 refine gb_set ?_ (.inr rfl) _
  exact gb_refl _ _

set_option maxHeartbeats 800000 in
theorem json_no (r : Nat) (st : Js.St) (w : World) (h : RSt w r st) :
    Calls Tryz.prog 107 #[.pointer (some ⟨r, 0, none⟩)] w (VDid w r { Js.V.zero with kind := 1 } (Js.needS [102, 97, 108, 115, 101] st)) := by
  have hr := h.lt
  have H := Lib.hid (h.al (.cells #[.int .i64 0, .bool false, .bool false, .string ⟨#[]⟩, .int .i64 0, .string ⟨#[]⟩, .slice none 0 0, .slice none 0 0] 29 (0, 0)))
  clear h
  go_enter Tryz.func107, Tryz.ntmps107
  go_wp2_with fail
  refine (json_need r st ⟨#[102, 97, 108, 115, 101]⟩ _ H.out).mono ?_
  rintro e w1 ⟨rfl, h1, g1⟩
  have hb := gb_blk g1 (blk_new w _) (by simp; omega)
  obtain ⟨⟨c0, c1, c2, c3, c4, c5, c6, c7⟩, f0, f1, f2, f3, f4, f5, f6, f7⟩ := blk8 hb
  have HG := Lib.hid g1
  clear g1 hb H
  go_wp2
  refine bodyPost_ret (v := .agg #[.int .i64 1, .bool false, .bool false, .string ⟨#[]⟩, .int .i64 0, .string ⟨#[]⟩, .slice none 0 0, .slice none 0 0]) (by simp [results, Tryz.results107, go_sem, c0, c1, c2, c3, c4, c5, c6, c7]) rfl ?_
  refine VDid.done (b0 := w.heap.size) (si := .slice none 0 0) (sn := .slice none 0 0) rfl h1 (World.grownBy_alloc w _ none) HG.out ?_ (Nat.le_refl _) hr (RdV.bare _ _ _ _ _ _)
  iterate 8 refine gb_set ?_ (.inr rfl) _
  exact gb_refl _ _

set_option maxHeartbeats 800000 in
theorem json_text (B r : Nat) (st : Js.St) (w : World) (h : RSt w r st) (hT : Tb B w) (hB : B ≤ r) (hne : st.s ≠ []) :
    Calls Tryz.prog 108 #[.pointer (some ⟨r, 0, none⟩)] w (VDid w r { Js.V.zero with kind := 3, text := (Js.strS st).1 } (Js.strS st).2) := by
  have hr := h.lt
  have hcall := json_str B r st _ (h.al (.cells #[.int .i64 0, .bool false, .bool false, .string ⟨#[]⟩, .int .i64 0, .string ⟨#[]⟩, .slice none 0 0, .slice none 0 0] 29 (0, 0))) (hT.gbn (World.grownBy_alloc w _ none)) hB hne
  have HC := Lib.hid hcall
  clear h hcall hT hne
  go_enter Tryz.func108, Tryz.ntmps108
  go_wp2_with fail
  refine HC.out.mono ?_
  rintro e w1 ⟨rfl, h1, g1⟩
  have hb := gb_blk g1 (blk_new w _) (by simp; omega)
  obtain ⟨⟨c0, c1, c2, c3, c4, c5, c6, c7⟩, f0, f1, f2, f3, f4, f5, f6, f7⟩ := blk8 hb
  have HG := Lib.hid g1
  clear g1 hb HC
  go_wp2
  refine bodyPost_ret (v := .agg #[.int .i64 3, .bool false, .bool false, .string ⟨#[]⟩, .int .i64 0, .string (ba (Js.strS st).1), .slice none 0 0, .slice none 0 0]) (by simp [results, Tryz.results108, go_sem, c0, c1, c2, c3, c4, c5, c6, c7]) rfl ?_
  refine VDid.done (b0 := w.heap.size) (si := .slice none 0 0) (sn := .slice none 0 0) rfl h1 (World.grownBy_alloc w _ none) HG.out ?_ (Nat.le_refl _) hr (RdV.bare _ _ _ _ _ _)
  iterate 8 refine gb_set ?_ (.inr rfl) _
  exact gb_refl _ _

/-- What enter does, written out. -/
theorem enterS_ok {st : Js.St} (h1 : st.o ≠ 16) (h2 : st.e = 0) : Js.enterS st = ⟨st.s.drop 1, st.o + 1, 0⟩ := by simp [Js.enterS, h1, h2]
theorem enterS_bad {st : Js.St} (h1 : st.o ≠ 16) (h2 : st.e ≠ 0) : Js.enterS st = ⟨st.s, st.o + 1, st.e⟩ := by simp [Js.enterS, h1, h2]
theorem enterS_deep {st : Js.St} (h1 : st.o = 16) : Js.enterS st = ⟨st.s, st.o + 1, (Js.failS st 35).e⟩ := by
  by_cases h : st.e = 0 <;> simp [Js.enterS, Js.failS, h1, h]

set_option maxHeartbeats 800000 in
theorem json_enter (r : Nat) (st : Js.St) (w : World) (h : RSt w r st) (hne : st.e = 0 → st.s ≠ []) (ho : 0 ≤ st.o) (ho2 : st.o ≤ 16) :
    Calls Tryz.prog 225 #[.pointer (some ⟨r, 0, none⟩)] w (RDid w r (Js.enterS st) (.tuple #[])) := by
  obtain ⟨s, HS, HB, hl, c0, c1, c2, f0, f1, f2⟩ := h.op
  have a1 : IntKind.i64.wrap (st.o + 1) = st.o + 1 := IntWalk.i64_in _ (by omega)
  by_cases h1 : st.o = 16
  · have HF := Lib.hid (json_fail r st 35 w h)
    have HE := Lib.hid (enterS_deep h1)
    have e1 : (st.o == 16) = true := by simp [h1]
    have hfe : ((Js.failS st 35).e == 0) = false := by
      unfold Js.failS
      by_cases h0 : st.e = 0 <;> simp [h0]
    have HFS := Lib.hid (fail_s st 35)
    have HFO := Lib.hid (fail_o st 35)
    have H1 := Lib.hid h1
    clear h h1 hne
    rw [HE.out]
    go_enter Tryz.func225, Tryz.ntmps225
    go_wp2_with fail
    refine HF.out.mono ?_
    rintro e w1 ⟨rfl, k1, g1⟩
    have HG := Lib.hid g1
    clear c0 c1 c2 f0 f1 f2
    obtain ⟨s', HS', HB', hl', c0, c1, c2, f0, f1, f2⟩ := k1.op
    rw [HFO.out] at c1
    clear g1 k1
    go_wp2
    go_end0
    refine RDid.mk' rfl s' (by rw [HS'.out, HFS.out]) (blk_eq (blk_set' HB'.out 1 _) rfl) hl' (gb_set HG.out (p := ⟨r, 1, none⟩) (.inr rfl) _)
  · have e1 : (st.o == 16) = false := by simpa using h1
    by_cases h0 : st.e = 0
    · have HE := Lib.hid (enterS_ok h1 h0)
      rw [h0] at c2
      have hsz : 1 ≤ s.size := by
        rw [← sz_of, HS.out]
        exact List.length_pos_iff.2 (hne h0)
      have hs1 : (s.extract 1 s.size).data.toList = st.s.drop 1 := by rw [Lib.extract_to_end, HS.out]
      have hs2 : (s.extract 1 s.size).size ≤ 4096 := by rw [ByteArray.size_extract]; omega
      have H1 := Lib.hid hs1
      have H0 := Lib.hid h0
      clear h h1 hne h0 hs1
      rw [HE.out]
      go_enter Tryz.func225, Tryz.ntmps225
      go_wp2
      go_end0
      refine RDid.mk' rfl (s.extract 1 s.size) H1.out ?_ hs2 (gb_set (gb_set (gb_refl w _) (p := ⟨r, 1, none⟩) (.inr rfl) _) (p := ⟨r, 0, none⟩) (.inr rfl) _)
      exact blk_eq (blk_set' (blk_set' HB.out 1 _) 0 _) (by simp [H0.out])
    · have e2 : (st.e == 0) = false := by simpa using h0
      have HE := Lib.hid (enterS_bad h1 h0)
      clear h h1 hne h0
      rw [HE.out]
      go_enter Tryz.func225, Tryz.ntmps225
      go_wp2
      go_end0
      refine RDid.mk' rfl s HS.out (blk_eq (blk_set' HB.out 1 _) rfl) hl (gb_set (gb_refl w _) (p := ⟨r, 1, none⟩) (.inr rfl) _)
end Go.Proofs.YtocjlbpehfpdoaaGreatDoor
