/- package num: side, Compare. · package json: Compare, of what is no array and no object. -/
import Derived.Test.YtocjlbpehfpdoaaGreatDoorK13
set_option linter.unusedVariables false
set_option linter.unusedSimpArgs false
namespace Go.Proofs.YtocjlbpehfpdoaaGreatDoor
open Go.RowKit

/-- A number handed back; memory has grown at most. -/
def IOut (w : World) (x : Int) (e : Ending) (w' : World) : Prop := e = .returned (.int .i64 x) ∧ w.grownBy w' none
theorem num_side (dn : Bool) (dig : Js.Bs) (ex : Int) (w : World) : Calls Tryz.prog 130 #[.agg #[.bool dn, .string (ba dig), .int .i64 ex]] w (IOut w (Js.nside ⟨dn, dig, ex⟩)) := by
  by_cases hd : dig = []
  · have he : (ba dig).toList.isEmpty = true := by rw [is_empty, hd]; rfl
    rw [show Js.nside ⟨dn, dig, ex⟩ = 0 by simp [Js.nside, hd]]
    clear hd
    go_enter Tryz.func130, Tryz.ntmps130
    go_wp2
    go_ret
    exact ⟨rfl, World.grownBy_alloc w _ none⟩
  · have he : (ba dig).toList.isEmpty = false := by rw [is_empty]; simpa using hd
    rw [show Js.nside ⟨dn, dig, ex⟩ = if dn then -1 else 1 by simp [Js.nside, hd]]
    clear hd
    cases dn
    · go_enter Tryz.func130, Tryz.ntmps130
      go_wp2
      go_ret
      exact ⟨rfl, World.grownBy_alloc w _ none⟩
    · go_enter Tryz.func130, Tryz.ntmps130
      go_wp2
      go_ret
      exact ⟨rfl, World.grownBy_alloc w _ none⟩
def orI (x y : Int) : Int := if x ≠ 0 then x else y
theorem cmp_or (b : Nat) (x y : Int) (w : World) (h : w.heap[b]? = some (.cells #[.int .i64 x, .int .i64 y] 3 (0, 0))) : Calls Tryz.prog 64 #[.slice (some ⟨b, 0, none⟩) 2 2] w (IOut w (orI x y)) := by
  have c0 := blk_c h 0
  have c1 := blk_c h 1
  simp at c0 c1
  clear h
  have HG := Lib.hid (gb_refl w none)
  by_cases hx : x = 0
  · rw [show orI x y = y by simp [orI, hx]]
    subst hx
    by_cases hy : y = 0
    · subst hy
      go_enter Tryz.func64, Tryz.ntmps64
      go_wp2
      go_loop [8] (fun s8 => ∃ i : Nat, (i = 0 ∨ i = 1 ∨ i = 2) ∧ s8 = .int .i64 i) (fun s8 => 2 - (intOf s8).toNat)
      case atStart => exact ⟨0, .inl rfl, rfl⟩
      case round =>
        obtain ⟨i, hi, rfl⟩ := hrel
        rcases hi with rfl | rfl | rfl
        · go_wp2
          go_round
          case rel => exact ⟨1, by omega, by go_num⟩
          case measure => simp [intOf]
        · go_wp2
          go_round
          case rel => exact ⟨2, by omega, by go_num⟩
          case measure => simp [intOf]
        · go_wp2
          go_ret
          exact ⟨rfl, HG.out⟩
    · have hy' : (y != 0) = true := by simpa using hy
      clear hy
      go_enter Tryz.func64, Tryz.ntmps64
      go_wp2
      go_loop [8] (fun s8 => ∃ i : Nat, (i = 0 ∨ i = 1) ∧ s8 = .int .i64 i) (fun s8 => 2 - (intOf s8).toNat)
      case atStart => exact ⟨0, .inl rfl, rfl⟩
      case round =>
        obtain ⟨i, hi, rfl⟩ := hrel
        rcases hi with rfl | rfl
        · go_wp2
          go_round
          case rel => exact ⟨1, by omega, by go_num⟩
          case measure => simp [intOf]
        · go_wp2
          go_ret
          exact ⟨rfl, HG.out⟩
  · rw [show orI x y = x by simp [orI, hx]]
    have hx' : (x != 0) = true := by simpa using hx
    clear hx
    go_enter Tryz.func64, Tryz.ntmps64
    go_wp2
    go_loop [8] (fun s8 => s8 = .int .i64 0) (fun _ => 0)
    case atStart => rfl
    case round =>
      subst hrel
      go_wp2
      go_ret
      exact ⟨rfl, HG.out⟩

theorem cmp_int (x y : Int) (w : World) : Calls Tryz.prog 59 #[.int .i64 x, .int .i64 y] w (IOut w (Js.cmpI x y)) := by
  refine (Tryz.cmp_Compare_int x y w).mono ?_
  rintro e w' ⟨rfl, rfl⟩
  exact ⟨rfl, gb_refl _ _⟩
theorem cmp_str (x y : Js.Bs) (w : World) : Calls Tryz.prog 62 #[.string (ba x), .string (ba y)] w (IOut w (Js.cmpB x y)) := by
  refine (Tryz.strings_Compare (ba x) (ba y) w).mono ?_
  rintro e w' ⟨rfl, rfl⟩
  exact ⟨rfl, gb_refl _ _⟩
theorem ncmp_eq (a b : Js.Nm) (x : Int) (hx : Js.cmpI (Js.nside a) (Js.nside b) = x) : Js.ncmp a b = if x ≠ 0 ∨ Js.nside a = 0 then x else Js.nside a * orI (Js.cmpI (a.dig.length + a.exp) (b.dig.length + b.exp)) (Js.cmpB a.dig b.dig) := by
  subst hx; rfl
theorem cmpI_range (a b : Int) : -1 ≤ Js.cmpI a b ∧ Js.cmpI a b ≤ 1 := by
  unfold Js.cmpI
  repeat' split
  all_goals omega
theorem cmpB_range : ∀ a b : Js.Bs, -1 ≤ Js.cmpB a b ∧ Js.cmpB a b ≤ 1
  | [], [] => by simp [Js.cmpB, Lib.compareBytes]
  | [], _ :: _ => by simp [Js.cmpB, Lib.compareBytes]
  | _ :: _, [] => by simp [Js.cmpB, Lib.compareBytes]
  | u :: a, v :: b => by
    have h := cmpB_range a b
    rcases Js.tri8 u v with h1 | h1 | h1
    · rw [Js.cmpB_lt h1]; omega
    · subst h1; rw [Js.cmpB_eq]; exact h
    · rw [Js.cmpB_gt h1]; omega
theorem nside_range (n : Js.Nm) : -1 ≤ Js.nside n ∧ Js.nside n ≤ 1 := by
  unfold Js.nside
  repeat' split
  all_goals omega
/-- The two boxes of num.Compare's arguments. -/
def Two (w : World) (o1 o2 : Obj) (W : World) : Prop := W.heap[w.heap.size]? = some o1 ∧ W.heap[w.heap.size + 1]? = some o2
theorem Two.gb {w W W' : World} {o1 o2 : Obj} (h : Two w o1 o2 W) (g : W.grownBy W' none) : Two w o1 o2 W' := ⟨gb_blk g h.1 (by simp), gb_blk g h.2 (by simp)⟩

section
variable (dn dm : Bool) (dig dih : Js.Bs) (ex ey : Int) (w : World)
set_option maxRecDepth 100000 in
set_option maxHeartbeats 8000000 in
theorem num_compare (h1 : dig.length ≤ 100) (h2 : dih.length ≤ 100) (h3 : -10000 ≤ ex) (h4 : ex ≤ 10000) (h5 : -10000 ≤ ey) (h6 : ey ≤ 10000) :
    Calls Tryz.prog 61 #[.agg #[.bool dn, .string (ba dig), .int .i64 ex], .agg #[.bool dm, .string (ba dih), .int .i64 ey]] w (IOut w (Js.ncmp ⟨dn, dig, ex⟩ ⟨dm, dih, ey⟩)) := by
  obtain ⟨sa, hsa⟩ : ∃ s, Js.nside ⟨dn, dig, ex⟩ = s := ⟨_, rfl⟩
  obtain ⟨sb, hsb⟩ : ∃ s, Js.nside ⟨dm, dih, ey⟩ = s := ⟨_, rfl⟩
  obtain ⟨x, hx⟩ : ∃ x, Js.cmpI sa sb = x := ⟨_, rfl⟩
  have hsp := ncmp_eq ⟨dn, dig, ex⟩ ⟨dm, dih, ey⟩ x (by rw [hsa, hsb]; exact hx)
  rw [hsa] at hsp
  obtain ⟨R, hR⟩ : ∃ R, Js.ncmp ⟨dn, dig, ex⟩ ⟨dm, dih, ey⟩ = R := ⟨_, rfl⟩
  rw [hR] at hsp ⊢
  have HSP := Lib.hid hsp
  have HS1 := Lib.hid (fun W => hsa ▸ num_side dn dig ex W)
  have HS2 := Lib.hid (fun W => hsb ▸ num_side dm dih ey W)
  have HX := Lib.hid (fun W => hx ▸ cmp_int sa sb W)
  have hsr := nside_range ⟨dn, dig, ex⟩
  rw [hsa] at hsr
  have hsr1 := hsr.1
  have hsr2 := hsr.2
  have hl1 : (ba dig).size = dig.length := sz_ba _
  have hl2 : (ba dih).size = dih.length := sz_ba _
  obtain ⟨L1, hL1⟩ : ∃ L, dig.length = L := ⟨_, rfl⟩
  obtain ⟨L2, hL2⟩ : ∃ L, dih.length = L := ⟨_, rfl⟩
  rw [hL1] at hl1 h1
  rw [hL2] at hl2 h2
  have HL1 := Lib.hid hL1
  have HL2 := Lib.hid hL2
  have ag := gb_alloc (World.grownBy_alloc w (.cells #[.bool dn, .string (ba dig), .int .i64 ex] 25 (0, 0)) none) (.cells #[.bool dm, .string (ba dih), .int .i64 ey] 25 (0, 0))
  have hh : Two w (.cells #[.bool dn, .string (ba dig), .int .i64 ex] 25 (0, 0)) (.cells #[.bool dm, .string (ba dih), .int .i64 ey] 25 (0, 0)) ((w.alloc (.cells #[.bool dn, .string (ba dig), .int .i64 ex] 25 (0, 0))).alloc (.cells #[.bool dm, .string (ba dih), .int .i64 ey] 25 (0, 0))) := ⟨blk_alloc (blk_new w _) _, by have := blk_new (w.alloc (.cells #[.bool dn, .string (ba dig), .int .i64 ex] 25 (0, 0))) (.cells #[.bool dm, .string (ba dih), .int .i64 ey] 25 (0, 0)); simpa using this⟩
  have HAG := Lib.hid ag
  have HH0 := Lib.hid hh
  clear hsp hsa hsb hx hR hsr hL1 hL2 ag hh
  go_enter Tryz.func61, Tryz.ntmps61
  go_wp2_with fail
  obtain ⟨w0, hw0⟩ : ∃ w0, ((w.alloc (.cells #[.bool dn, .string (ba dig), .int .i64 ex] 25 (0, 0))).alloc (.cells #[.bool dm, .string (ba dih), .int .i64 ey] 25 (0, 0))) = w0 := ⟨_, rfl⟩
  rw [hw0] at HAG HH0 ⊢
  clear hw0
  have hHeld : Two w (.cells #[.bool dn, .string (ba dig), .int .i64 ex] 25 (0, 0)) (.cells #[.bool dm, .string (ba dih), .int .i64 ey] 25 (0, 0)) w0.drew := HH0.out
  refine wp_region_T 5 (fun W => Two w (.cells #[.bool dn, .string (ba dig), .int .i64 ex] 25 (0, 0)) (.cells #[.bool dm, .string (ba dih), .int .i64 ey] 25 (0, 0)) W) (by kernel_rfl) hHeld ?_
  refine T_take (i := 0) (v := ?_) rfl (by kernel_rfl) (fun _ _ _ h => h) (Or.inl ⟨by rfl, ?_⟩) hHeld ?_
  rotate_left
  ·
    intro W hW
    have a0 := blk_c hW.1 0
    have a1 := blk_c hW.1 1
    have a2 := blk_c hW.1 2
    have b0 := blk_c hW.2 0
    have b1 := blk_c hW.2 1
    have b2 := blk_c hW.2 2
    clear hW
    go_simp
    all_goals with_reducible rfl
  try simp only [Act.put, List.setIfInBounds_toArray, List.set_cons_zero, List.set_cons_succ]
  refine T_take (i := 2) (v := ?_) rfl (by kernel_rfl) (fun _ _ _ h => h) (Or.inl ⟨by rfl, ?_⟩) hHeld ?_
  rotate_left
  ·
    intro W hW
    have a0 := blk_c hW.1 0
    have a1 := blk_c hW.1 1
    have a2 := blk_c hW.1 2
    have b0 := blk_c hW.2 0
    have b1 := blk_c hW.2 1
    have b2 := blk_c hW.2 2
    clear hW
    go_simp
    all_goals with_reducible rfl
  try simp only [Act.put, List.setIfInBounds_toArray, List.set_cons_zero, List.set_cons_succ]
  refine wpAnyT_ready (rs := [1]) (by kernel_rfl) (by simp) ?_
  refine T_cons rfl (fun K hK => ?_) AllReadyT.nil
  go_simp
  go_at_call 130
  refine (HS1.out _).mono ?_
  rintro e w1 ⟨rfl, gw1⟩
  have hHeld1 := Two.gb hHeld gw1
  have Hw1 := Lib.hid (gb_trans (gb_drew HAG.out) gw1)
  clear gw1
  try go_wp2_with fail
  refine hK.out _ _ (fun _ => hHeld1) (fun _ => ?_)
  clear hK K
  try simp only [Act.put, List.setIfInBounds_toArray, List.set_cons_zero, List.set_cons_succ]
  refine wpAnyT_ready (rs := [3]) (by kernel_rfl) (by simp) ?_
  refine T_cons rfl (fun K hK => ?_) AllReadyT.nil
  go_simp
  go_at_call 130
  refine (HS2.out _).mono ?_
  rintro e w2 ⟨rfl, gw2⟩
  have hHeld2 := Two.gb hHeld1 gw2
  have Hw2 := Lib.hid (gb_trans Hw1.out gw2)
  clear gw2
  try go_wp2_with fail
  refine hK.out _ _ (fun _ => hHeld2) (fun _ => ?_)
  clear hK K
  try simp only [Act.put, List.setIfInBounds_toArray, List.set_cons_zero, List.set_cons_succ]
  refine wpAnyT_ready (rs := [4]) (by kernel_rfl) (by simp) ?_
  refine T_cons rfl (fun K hK => ?_) AllReadyT.nil
  go_simp
  go_at_call 59
  refine (HX.out _).mono ?_
  rintro e w3 ⟨rfl, gw3⟩
  have hHeld3 := Two.gb hHeld2 gw3
  have Hw3 := Lib.hid (gb_trans Hw2.out gw3)
  clear gw3
  try go_wp2_with fail
  refine hK.out _ _ (fun _ => hHeld3) (fun _ => ?_)
  clear hK K
  try simp only [Act.put, List.setIfInBounds_toArray, List.set_cons_zero, List.set_cons_succ]
  refine T_tail 5 rfl rfl (by omega) (by kernel_rfl) ?_
  have HT3 := Lib.hid hHeld3
  have a0 := blk_c hHeld3.1 0
  have a1 := blk_c hHeld3.1 1
  have a2 := blk_c hHeld3.1 2
  have b0 := blk_c hHeld3.2 0
  have b1 := blk_c hHeld3.2 1
  have b2 := blk_c hHeld3.2 2
  clear hHeld hHeld1 hHeld2 hHeld3 HX HH0 HS2
  by_cases hx0 : x = 0
  · subst hx0
    by_cases hs0 : sa = 0
    · subst hs0
      have HR : Hid (R = 0) := Lib.hid (HSP.out.trans (by simp))
      go_wp2_with fail
      refine (HS1.out _).mono ?_
      rintro e w4 ⟨rfl, g4⟩
      have HG4 := Lib.hid (gb_trans Hw3.out g4)
      clear g4
      go_wp2_with fail
      go_ret
      exact ⟨by rw [HR.out]; rfl, HG4.out⟩
    · have hs1 : (sa == 0) = false := by simpa using hs0
      have HR : Hid (R = sa * orI (Js.cmpI (L1 + ex) (L2 + ey)) (Js.cmpB dig dih)) := Lib.hid (HSP.out.trans (by rw [if_neg (by rintro (h | h); exact h rfl; exact hs0 h), ← HL1.out, ← HL2.out]))
      clear hs0 HSP
      go_wp2_with fail
      refine (HS1.out _).mono ?_
      rintro e w4 ⟨rfl, g4⟩
      have hT4 := HT3.out.gb g4
      have c0 := blk_c hT4.1 0
      have c1 := blk_c hT4.1 1
      have c2 := blk_c hT4.1 2
      have e0 := blk_c hT4.2 0
      have e1 := blk_c hT4.2 1
      have e2 := blk_c hT4.2 2
      have HT4 := Lib.hid hT4
      have HG4 := Lib.hid (gb_trans Hw3.out g4)
      clear g4 hT4 a0 a1 a2 b0 b1 b2
      go_wp2_with fail
      obtain ⟨hi, hhi⟩ : ∃ h, Js.cmpI (L1 + ex) (L2 + ey) = h := ⟨_, rfl⟩
      have HCI := Lib.hid (fun W => hhi ▸ cmp_int (L1 + ex) (L2 + ey) W)
      rw [hhi] at HR
      refine (HCI.out _).mono ?_
      rintro e w5 ⟨rfl, g5⟩
      have hT5 := HT4.out.gb g5
      have HT5 := Lib.hid hT5
      have HG5 := Lib.hid (gb_trans HG4.out g5)
      obtain ⟨cb, hcb⟩ : ∃ c, Js.cmpB dig dih = c := ⟨_, rfl⟩
      have HCB := Lib.hid (fun W => hcb ▸ cmp_str dig dih W)
      rw [hcb] at HR
      have hcr := cmpB_range dig dih
      rw [hcb] at hcr
      have hir := cmpI_range (L1 + ex) (L2 + ey)
      rw [hhi] at hir
      have hor : -1 ≤ orI hi cb ∧ orI hi cb ≤ 1 := by unfold orI; split <;> omega
      obtain ⟨oo, hoo⟩ : ∃ o, orI hi cb = o := ⟨_, rfl⟩
      have HOO := Lib.hid (fun (b : Nat) (W : World) (h : W.heap[b]? = some (.cells #[.int .i64 hi, .int .i64 cb] 3 (0, 0))) => hoo ▸ cmp_or b hi cb W h)
      rw [hoo] at HR hor
      have hmul : IntKind.i64.wrap (sa * oo) = sa * oo := by
        have h0 : sa = -1 ∨ sa = 0 ∨ sa = 1 := by omega
        rcases h0 with rfl | rfl | rfl
        · exact IntWalk.i64_in _ (by omega)
        · exact IntWalk.i64_in _ (by omega)
        · exact IntWalk.i64_in _ (by omega)
      clear g5 hT5 c0 c1 c2 e0 e1 e2 hhi hcb hcr hir hor hoo
      go_wp2_with fail
      have hHeld : Two w (.cells #[.bool dn, .string (ba dig), .int .i64 ex] 25 (0, 0)) (.cells #[.bool dm, .string (ba dih), .int .i64 ey] 25 (0, 0)) w5.drew := HT5.out
      refine wp_region_T 11 (fun W => Two w (.cells #[.bool dn, .string (ba dig), .int .i64 ex] 25 (0, 0)) (.cells #[.bool dm, .string (ba dih), .int .i64 ey] 25 (0, 0)) W) (by kernel_rfl) hHeld ?_
      refine T_take (i := 0) (v := ?_) rfl (by kernel_rfl) (fun _ _ _ h => h) (Or.inl ⟨by rfl, ?_⟩) hHeld ?_
      rotate_left
      ·
        intro W hW
        have a0 := blk_c hW.1 0
        have a1 := blk_c hW.1 1
        have a2 := blk_c hW.1 2
        have b0 := blk_c hW.2 0
        have b1 := blk_c hW.2 1
        have b2 := blk_c hW.2 2
        clear hW
        go_simp
        all_goals with_reducible rfl
      try simp only [Act.put, List.setIfInBounds_toArray, List.set_cons_zero, List.set_cons_succ]
      refine T_take (i := 2) (v := ?_) rfl (by kernel_rfl) (fun _ _ _ h => h) (Or.inl ⟨by rfl, ?_⟩) hHeld ?_
      rotate_left
      ·
        intro W hW
        have a0 := blk_c hW.1 0
        have a1 := blk_c hW.1 1
        have a2 := blk_c hW.1 2
        have b0 := blk_c hW.2 0
        have b1 := blk_c hW.2 1
        have b2 := blk_c hW.2 2
        clear hW
        go_simp
        all_goals with_reducible rfl
      try simp only [Act.put, List.setIfInBounds_toArray, List.set_cons_zero, List.set_cons_succ]
      refine T_take (i := 3) (v := ?_) rfl (by kernel_rfl) (fun _ _ _ h => h) (Or.inl ⟨by rfl, ?_⟩) hHeld ?_
      rotate_left
      ·
        intro W hW
        have a0 := blk_c hW.1 0
        have a1 := blk_c hW.1 1
        have a2 := blk_c hW.1 2
        have b0 := blk_c hW.2 0
        have b1 := blk_c hW.2 1
        have b2 := blk_c hW.2 2
        clear hW
        go_simp
        all_goals with_reducible rfl
      try simp only [Act.put, List.setIfInBounds_toArray, List.set_cons_zero, List.set_cons_succ]
      refine T_take (i := 4) (v := ?_) rfl (by kernel_rfl) (fun _ _ _ h => h) (Or.inl ⟨by rfl, ?_⟩) hHeld ?_
      rotate_left
      ·
        intro W hW
        have a0 := blk_c hW.1 0
        have a1 := blk_c hW.1 1
        have a2 := blk_c hW.1 2
        have b0 := blk_c hW.2 0
        have b1 := blk_c hW.2 1
        have b2 := blk_c hW.2 2
        clear hW
        go_simp
        all_goals with_reducible rfl
      try simp only [Act.put, List.setIfInBounds_toArray, List.set_cons_zero, List.set_cons_succ]
      refine T_take (i := 5) (v := ?_) rfl (by kernel_rfl) (fun _ _ _ h => h) (Or.inl ⟨by rfl, ?_⟩) hHeld ?_
      rotate_left
      ·
        intro W hW
        have a0 := blk_c hW.1 0
        have a1 := blk_c hW.1 1
        have a2 := blk_c hW.1 2
        have b0 := blk_c hW.2 0
        have b1 := blk_c hW.2 1
        have b2 := blk_c hW.2 2
        clear hW
        go_simp
        all_goals with_reducible rfl
      try simp only [Act.put, List.setIfInBounds_toArray, List.set_cons_zero, List.set_cons_succ]
      refine T_take (i := 6) (v := ?_) rfl (by kernel_rfl) (fun _ _ _ h => h) (Or.inl ⟨by rfl, ?_⟩) hHeld ?_
      rotate_left
      ·
        intro W hW
        have a0 := blk_c hW.1 0
        have a1 := blk_c hW.1 1
        have a2 := blk_c hW.1 2
        have b0 := blk_c hW.2 0
        have b1 := blk_c hW.2 1
        have b2 := blk_c hW.2 2
        clear hW
        go_simp
        all_goals with_reducible rfl
      try simp only [Act.put, List.setIfInBounds_toArray, List.set_cons_zero, List.set_cons_succ]
      refine wpAnyT_ready (rs := [1]) (by kernel_rfl) (by simp) ?_
      refine T_cons rfl (fun K hK => ?_) AllReadyT.nil
      go_simp
      go_at_call 130
      refine (HS1.out _).mono ?_
      rintro e w6 ⟨rfl, gw6⟩
      have hHeld6 := Two.gb hHeld gw6
      have Hw6 := Lib.hid (gb_trans (gb_drew HG5.out) gw6)
      clear gw6
      try go_wp2_with fail
      refine hK.out _ _ (fun _ => hHeld6) (fun _ => ?_)
      clear hK K
      try simp only [Act.put, List.setIfInBounds_toArray, List.set_cons_zero, List.set_cons_succ]
      refine wpAnyT_ready (rs := [7]) (by kernel_rfl) (by simp) ?_
      refine T_cons rfl (fun K hK => ?_) AllReadyT.nil
      go_simp
      go_at_call 62
      refine (HCB.out _).mono ?_
      rintro e w7 ⟨rfl, gw7⟩
      have hHeld7 := Two.gb hHeld6 gw7
      have Hw7 := Lib.hid (gb_trans Hw6.out gw7)
      clear gw7
      try go_wp2_with fail
      refine hK.out _ _ (fun _ => hHeld7) (fun _ => ?_)
      clear hK K
      try simp only [Act.put, List.setIfInBounds_toArray, List.set_cons_zero, List.set_cons_succ]
      refine wpAnyT_ready (rs := [8]) (by kernel_rfl) (by simp) ?_
      refine T_cons rfl (fun K hK => ?_) AllReadyT.nil
      go_simp
      have hHeld8 := Two.gb hHeld7 (World.grownBy_alloc w7 (.cells #[.int .i64 hi, .int .i64 cb] 3 (0, 0)) none)
      have HN8 := Lib.hid (blk_new w7 (.cells #[.int .i64 hi, .int .i64 cb] 3 (0, 0)))
      refine hK.out _ _ (fun _ => hHeld8) (fun _ => ?_)
      clear hK K
      try simp only [Act.put, List.setIfInBounds_toArray, List.set_cons_zero, List.set_cons_succ]
      refine wpAnyT_ready (rs := [9]) (by kernel_rfl) (by simp) ?_
      refine T_cons rfl (fun K hK => ?_) AllReadyT.nil
      go_simp
      go_at_call 64
      refine (HOO.out _ _ HN8.out).mono ?_
      rintro e w9 ⟨rfl, gw9⟩
      have hHeld9 := Two.gb hHeld8 gw9
      have Hw9 := Lib.hid (gb_trans (gb_alloc Hw7.out _) gw9)
      clear gw9
      try go_wp2_with fail
      refine hK.out _ _ (fun _ => hHeld9) (fun _ => ?_)
      clear hK K
      try simp only [Act.put, List.setIfInBounds_toArray, List.set_cons_zero, List.set_cons_succ]
      refine T_take (i := 10) (v := ?_) rfl (by kernel_rfl) (fun _ _ _ h => h) (Or.inl ⟨by rfl, ?_⟩) hHeld9 ?_
      rotate_left
      ·
        intro W hW
        clear hW
        go_simp
        all_goals with_reducible rfl
      try simp only [Act.put, List.setIfInBounds_toArray, List.set_cons_zero, List.set_cons_succ]
      refine T_tail 11 rfl rfl (by omega) (by kernel_rfl) ?_
      clear hHeld hHeld6 hHeld7 hHeld8 hHeld9
      go_wp2_with fail
      go_ret
      exact ⟨by rw [HR.out]; rfl, Hw9.out⟩
  · have hx1 : (x != 0) = true := by simpa using hx0
    have HR : Hid (R = x) := Lib.hid (HSP.out.trans (if_pos (.inl hx0)))
    clear hx0 HSP
    go_wp2_with fail
    go_ret
    exact ⟨by rw [HR.out]; rfl, Hw3.out⟩
end
end Go.Proofs.YtocjlbpehfpdoaaGreatDoor

set_option linter.unusedVariables false
set_option linter.unusedSimpArgs false
namespace Go.Proofs.YtocjlbpehfpdoaaGreatDoor
open Go.RowKit

theorem json_told (b : Bool) (w : World) : Calls Tryz.prog 60 #[.bool b] w (IOut w (Js.told b)) := by
  have HG := Lib.hid (gb_refl w none)
  cases b
  · go_enter Tryz.func60, Tryz.ntmps60
    go_wp2
    go_ret
    exact ⟨rfl, HG.out⟩
  · go_enter Tryz.func60, Tryz.ntmps60
    go_wp2
    go_ret
    exact ⟨rfl, HG.out⟩
/-- What num.Compare asks of a number. -/
def NumC (n : Js.Nm) : Prop := n.dig.length ≤ 100 ∧ -10000 ≤ n.exp ∧ n.exp ≤ 10000

section
variable (k1 k2 : Int) (is1 is2 dn1 dn2 : Bool) (dig1 dig2 t1 t2 : Js.Bs) (ex1 ex2 : Int) (vA1 uA1 vA2 uA2 : Option Addr) (vl1 vc1 ul1 uc1 vl2 vc2 ul2 uc2 : Nat) (items1 items2 : List Js.V) (names1 names2 : List Js.Bs) (w : World)

set_option maxRecDepth 100000 in
set_option maxHeartbeats 8000000 in
theorem jcmp_kinds (h : k1 ≠ k2) : Calls Tryz.prog 23 #[.agg #[.int .i64 k1, .bool is1, .bool dn1, .string (ba dig1), .int .i64 ex1, .string (ba t1), .slice vA1 vl1 vc1, .slice uA1 ul1 uc1], .agg #[.int .i64 k2, .bool is2, .bool dn2, .string (ba dig2), .int .i64 ex2, .string (ba t2), .slice vA2 vl2 vc2, .slice uA2 ul2 uc2]] w (IOut w (Js.cmpI k1 k2)) := by
  have hne : (k1 != k2) = true := by simpa using h
  have ag := gb_alloc (World.grownBy_alloc w (.cells #[.int .i64 k1, .bool is1, .bool dn1, .string (ba dig1), .int .i64 ex1, .string (ba t1), .slice vA1 vl1 vc1, .slice uA1 ul1 uc1] 29 (0, 0)) none) (.cells #[.int .i64 k2, .bool is2, .bool dn2, .string (ba dig2), .int .i64 ex2, .string (ba t2), .slice vA2 vl2 vc2, .slice uA2 ul2 uc2] 29 (0, 0))
  have hh : Two w (.cells #[.int .i64 k1, .bool is1, .bool dn1, .string (ba dig1), .int .i64 ex1, .string (ba t1), .slice vA1 vl1 vc1, .slice uA1 ul1 uc1] 29 (0, 0)) (.cells #[.int .i64 k2, .bool is2, .bool dn2, .string (ba dig2), .int .i64 ex2, .string (ba t2), .slice vA2 vl2 vc2, .slice uA2 ul2 uc2] 29 (0, 0)) ((w.alloc (.cells #[.int .i64 k1, .bool is1, .bool dn1, .string (ba dig1), .int .i64 ex1, .string (ba t1), .slice vA1 vl1 vc1, .slice uA1 ul1 uc1] 29 (0, 0))).alloc (.cells #[.int .i64 k2, .bool is2, .bool dn2, .string (ba dig2), .int .i64 ex2, .string (ba t2), .slice vA2 vl2 vc2, .slice uA2 ul2 uc2] 29 (0, 0))) := ⟨blk_alloc (blk_new w _) _, by have := blk_new (w.alloc (.cells #[.int .i64 k1, .bool is1, .bool dn1, .string (ba dig1), .int .i64 ex1, .string (ba t1), .slice vA1 vl1 vc1, .slice uA1 ul1 uc1] 29 (0, 0))) (.cells #[.int .i64 k2, .bool is2, .bool dn2, .string (ba dig2), .int .i64 ex2, .string (ba t2), .slice vA2 vl2 vc2, .slice uA2 ul2 uc2] 29 (0, 0)); simpa using this⟩
  have HAG := Lib.hid ag
  have HH0 := Lib.hid hh
  clear ag hh
  have HC := Lib.hid (fun W => cmp_int k1 k2 W)
  clear h
  go_enter Tryz.func23, Tryz.ntmps23
  go_wp2_with fail
  refine (HC.out _).mono ?_
  rintro e w1 ⟨rfl, g1⟩
  have HG := Lib.hid (gb_trans HAG.out g1)
  clear g1
  go_wp2_with fail
  go_ret
  exact ⟨rfl, HG.out⟩
set_option maxRecDepth 100000 in
set_option maxHeartbeats 8000000 in
theorem jcmp_0 : Calls Tryz.prog 23 #[.agg #[.int .i64 0, .bool is1, .bool dn1, .string (ba dig1), .int .i64 ex1, .string (ba t1), .slice vA1 vl1 vc1, .slice uA1 ul1 uc1], .agg #[.int .i64 0, .bool is2, .bool dn2, .string (ba dig2), .int .i64 ex2, .string (ba t2), .slice vA2 vl2 vc2, .slice uA2 ul2 uc2]] w (IOut w 0) := by
  have ag := gb_alloc (World.grownBy_alloc w (.cells #[.int .i64 0, .bool is1, .bool dn1, .string (ba dig1), .int .i64 ex1, .string (ba t1), .slice vA1 vl1 vc1, .slice uA1 ul1 uc1] 29 (0, 0)) none) (.cells #[.int .i64 0, .bool is2, .bool dn2, .string (ba dig2), .int .i64 ex2, .string (ba t2), .slice vA2 vl2 vc2, .slice uA2 ul2 uc2] 29 (0, 0))
  have hh : Two w (.cells #[.int .i64 0, .bool is1, .bool dn1, .string (ba dig1), .int .i64 ex1, .string (ba t1), .slice vA1 vl1 vc1, .slice uA1 ul1 uc1] 29 (0, 0)) (.cells #[.int .i64 0, .bool is2, .bool dn2, .string (ba dig2), .int .i64 ex2, .string (ba t2), .slice vA2 vl2 vc2, .slice uA2 ul2 uc2] 29 (0, 0)) ((w.alloc (.cells #[.int .i64 0, .bool is1, .bool dn1, .string (ba dig1), .int .i64 ex1, .string (ba t1), .slice vA1 vl1 vc1, .slice uA1 ul1 uc1] 29 (0, 0))).alloc (.cells #[.int .i64 0, .bool is2, .bool dn2, .string (ba dig2), .int .i64 ex2, .string (ba t2), .slice vA2 vl2 vc2, .slice uA2 ul2 uc2] 29 (0, 0))) := ⟨blk_alloc (blk_new w _) _, by have := blk_new (w.alloc (.cells #[.int .i64 0, .bool is1, .bool dn1, .string (ba dig1), .int .i64 ex1, .string (ba t1), .slice vA1 vl1 vc1, .slice uA1 ul1 uc1] 29 (0, 0))) (.cells #[.int .i64 0, .bool is2, .bool dn2, .string (ba dig2), .int .i64 ex2, .string (ba t2), .slice vA2 vl2 vc2, .slice uA2 ul2 uc2] 29 (0, 0)); simpa using this⟩
  have HAG := Lib.hid ag
  have HH0 := Lib.hid hh
  clear ag hh
  go_enter Tryz.func23, Tryz.ntmps23
  go_wp2_with fail
  go_ret
  exact ⟨rfl, HAG.out⟩

set_option maxRecDepth 100000 in
set_option maxHeartbeats 8000000 in
theorem jcmp_2 (h1 : NumC ⟨dn1, dig1, ex1⟩) (h2 : NumC ⟨dn2, dig2, ex2⟩) : Calls Tryz.prog 23 #[.agg #[.int .i64 2, .bool is1, .bool dn1, .string (ba dig1), .int .i64 ex1, .string (ba t1), .slice vA1 vl1 vc1, .slice uA1 ul1 uc1], .agg #[.int .i64 2, .bool is2, .bool dn2, .string (ba dig2), .int .i64 ex2, .string (ba t2), .slice vA2 vl2 vc2, .slice uA2 ul2 uc2]] w (IOut w (Js.ncmp ⟨dn1, dig1, ex1⟩ ⟨dn2, dig2, ex2⟩)) := by
  have ag := gb_alloc (World.grownBy_alloc w (.cells #[.int .i64 2, .bool is1, .bool dn1, .string (ba dig1), .int .i64 ex1, .string (ba t1), .slice vA1 vl1 vc1, .slice uA1 ul1 uc1] 29 (0, 0)) none) (.cells #[.int .i64 2, .bool is2, .bool dn2, .string (ba dig2), .int .i64 ex2, .string (ba t2), .slice vA2 vl2 vc2, .slice uA2 ul2 uc2] 29 (0, 0))
  have hh : Two w (.cells #[.int .i64 2, .bool is1, .bool dn1, .string (ba dig1), .int .i64 ex1, .string (ba t1), .slice vA1 vl1 vc1, .slice uA1 ul1 uc1] 29 (0, 0)) (.cells #[.int .i64 2, .bool is2, .bool dn2, .string (ba dig2), .int .i64 ex2, .string (ba t2), .slice vA2 vl2 vc2, .slice uA2 ul2 uc2] 29 (0, 0)) ((w.alloc (.cells #[.int .i64 2, .bool is1, .bool dn1, .string (ba dig1), .int .i64 ex1, .string (ba t1), .slice vA1 vl1 vc1, .slice uA1 ul1 uc1] 29 (0, 0))).alloc (.cells #[.int .i64 2, .bool is2, .bool dn2, .string (ba dig2), .int .i64 ex2, .string (ba t2), .slice vA2 vl2 vc2, .slice uA2 ul2 uc2] 29 (0, 0))) := ⟨blk_alloc (blk_new w _) _, by have := blk_new (w.alloc (.cells #[.int .i64 2, .bool is1, .bool dn1, .string (ba dig1), .int .i64 ex1, .string (ba t1), .slice vA1 vl1 vc1, .slice uA1 ul1 uc1] 29 (0, 0))) (.cells #[.int .i64 2, .bool is2, .bool dn2, .string (ba dig2), .int .i64 ex2, .string (ba t2), .slice vA2 vl2 vc2, .slice uA2 ul2 uc2] 29 (0, 0)); simpa using this⟩
  have HAG := Lib.hid ag
  have HH0 := Lib.hid hh
  clear ag hh
  have HC := Lib.hid (fun (W : World) => num_compare dn1 dn2 dig1 dig2 ex1 ex2 W h1.1 h2.1 h1.2.1 h1.2.2 h2.2.1 h2.2.2)
  obtain ⟨R, hR⟩ : ∃ R, Js.ncmp ⟨dn1, dig1, ex1⟩ ⟨dn2, dig2, ex2⟩ = R := ⟨_, rfl⟩
  rw [hR] at HC ⊢
  clear hR
  go_enter Tryz.func23, Tryz.ntmps23
  go_wp2_with fail
  refine (HC.out _).mono ?_
  rintro e w1 ⟨rfl, g1⟩
  have HG := Lib.hid (gb_trans HAG.out g1)
  clear g1
  go_wp2_with fail
  go_ret
  exact ⟨rfl, HG.out⟩

set_option maxRecDepth 100000 in
set_option maxHeartbeats 8000000 in
theorem jcmp_3 : Calls Tryz.prog 23 #[.agg #[.int .i64 3, .bool is1, .bool dn1, .string (ba dig1), .int .i64 ex1, .string (ba t1), .slice vA1 vl1 vc1, .slice uA1 ul1 uc1], .agg #[.int .i64 3, .bool is2, .bool dn2, .string (ba dig2), .int .i64 ex2, .string (ba t2), .slice vA2 vl2 vc2, .slice uA2 ul2 uc2]] w (IOut w (Js.cmpB t1 t2)) := by
  have ag := gb_alloc (World.grownBy_alloc w (.cells #[.int .i64 3, .bool is1, .bool dn1, .string (ba dig1), .int .i64 ex1, .string (ba t1), .slice vA1 vl1 vc1, .slice uA1 ul1 uc1] 29 (0, 0)) none) (.cells #[.int .i64 3, .bool is2, .bool dn2, .string (ba dig2), .int .i64 ex2, .string (ba t2), .slice vA2 vl2 vc2, .slice uA2 ul2 uc2] 29 (0, 0))
  have hh : Two w (.cells #[.int .i64 3, .bool is1, .bool dn1, .string (ba dig1), .int .i64 ex1, .string (ba t1), .slice vA1 vl1 vc1, .slice uA1 ul1 uc1] 29 (0, 0)) (.cells #[.int .i64 3, .bool is2, .bool dn2, .string (ba dig2), .int .i64 ex2, .string (ba t2), .slice vA2 vl2 vc2, .slice uA2 ul2 uc2] 29 (0, 0)) ((w.alloc (.cells #[.int .i64 3, .bool is1, .bool dn1, .string (ba dig1), .int .i64 ex1, .string (ba t1), .slice vA1 vl1 vc1, .slice uA1 ul1 uc1] 29 (0, 0))).alloc (.cells #[.int .i64 3, .bool is2, .bool dn2, .string (ba dig2), .int .i64 ex2, .string (ba t2), .slice vA2 vl2 vc2, .slice uA2 ul2 uc2] 29 (0, 0))) := ⟨blk_alloc (blk_new w _) _, by have := blk_new (w.alloc (.cells #[.int .i64 3, .bool is1, .bool dn1, .string (ba dig1), .int .i64 ex1, .string (ba t1), .slice vA1 vl1 vc1, .slice uA1 ul1 uc1] 29 (0, 0))) (.cells #[.int .i64 3, .bool is2, .bool dn2, .string (ba dig2), .int .i64 ex2, .string (ba t2), .slice vA2 vl2 vc2, .slice uA2 ul2 uc2] 29 (0, 0)); simpa using this⟩
  have HAG := Lib.hid ag
  have HH0 := Lib.hid hh
  clear ag hh
  have HC := Lib.hid (fun (W : World) => cmp_str t1 t2 W)
  obtain ⟨R, hR⟩ : ∃ R, Js.cmpB t1 t2 = R := ⟨_, rfl⟩
  rw [hR] at HC ⊢
  clear hR
  go_enter Tryz.func23, Tryz.ntmps23
  go_wp2_with fail
  refine (HC.out _).mono ?_
  rintro e w1 ⟨rfl, g1⟩
  have HG := Lib.hid (gb_trans HAG.out g1)
  clear g1
  go_wp2_with fail
  go_ret
  exact ⟨rfl, HG.out⟩

set_option maxRecDepth 100000 in
set_option maxHeartbeats 8000000 in
theorem jcmp_1 : Calls Tryz.prog 23 #[.agg #[.int .i64 1, .bool is1, .bool dn1, .string (ba dig1), .int .i64 ex1, .string (ba t1), .slice vA1 vl1 vc1, .slice uA1 ul1 uc1], .agg #[.int .i64 1, .bool is2, .bool dn2, .string (ba dig2), .int .i64 ex2, .string (ba t2), .slice vA2 vl2 vc2, .slice uA2 ul2 uc2]] w (IOut w (Js.told is1 - Js.told is2)) := by
  have ag := gb_alloc (World.grownBy_alloc w (.cells #[.int .i64 1, .bool is1, .bool dn1, .string (ba dig1), .int .i64 ex1, .string (ba t1), .slice vA1 vl1 vc1, .slice uA1 ul1 uc1] 29 (0, 0)) none) (.cells #[.int .i64 1, .bool is2, .bool dn2, .string (ba dig2), .int .i64 ex2, .string (ba t2), .slice vA2 vl2 vc2, .slice uA2 ul2 uc2] 29 (0, 0))
  have hh : Two w (.cells #[.int .i64 1, .bool is1, .bool dn1, .string (ba dig1), .int .i64 ex1, .string (ba t1), .slice vA1 vl1 vc1, .slice uA1 ul1 uc1] 29 (0, 0)) (.cells #[.int .i64 1, .bool is2, .bool dn2, .string (ba dig2), .int .i64 ex2, .string (ba t2), .slice vA2 vl2 vc2, .slice uA2 ul2 uc2] 29 (0, 0)) ((w.alloc (.cells #[.int .i64 1, .bool is1, .bool dn1, .string (ba dig1), .int .i64 ex1, .string (ba t1), .slice vA1 vl1 vc1, .slice uA1 ul1 uc1] 29 (0, 0))).alloc (.cells #[.int .i64 1, .bool is2, .bool dn2, .string (ba dig2), .int .i64 ex2, .string (ba t2), .slice vA2 vl2 vc2, .slice uA2 ul2 uc2] 29 (0, 0))) := ⟨blk_alloc (blk_new w _) _, by have := blk_new (w.alloc (.cells #[.int .i64 1, .bool is1, .bool dn1, .string (ba dig1), .int .i64 ex1, .string (ba t1), .slice vA1 vl1 vc1, .slice uA1 ul1 uc1] 29 (0, 0))) (.cells #[.int .i64 1, .bool is2, .bool dn2, .string (ba dig2), .int .i64 ex2, .string (ba t2), .slice vA2 vl2 vc2, .slice uA2 ul2 uc2] 29 (0, 0)); simpa using this⟩
  have HAG := Lib.hid ag
  have HH0 := Lib.hid hh
  clear ag hh
  have HT1 := Lib.hid (fun W => json_told is1 W)
  have HT2 := Lib.hid (fun W => json_told is2 W)
  have hr : ∀ b, 0 ≤ Js.told b ∧ Js.told b ≤ 1 := fun b => by cases b <;> decide
  have hr1 := hr is1
  have hr2 := hr is2
  obtain ⟨x1, hx1⟩ : ∃ x, Js.told is1 = x := ⟨_, rfl⟩
  obtain ⟨x2, hx2⟩ : ∃ x, Js.told is2 = x := ⟨_, rfl⟩
  rw [hx1] at HT1 hr1 ⊢
  rw [hx2] at HT2 hr2 ⊢
  have hsub : IntKind.i64.wrap (x1 - x2) = x1 - x2 := IntWalk.i64_in _ (by omega)
  clear hx1 hx2 hr hr1 hr2
  go_enter Tryz.func23, Tryz.ntmps23
  go_wp2_with fail
  obtain ⟨w0, hw0⟩ : ∃ w0, ((w.alloc (.cells #[.int .i64 1, .bool is1, .bool dn1, .string (ba dig1), .int .i64 ex1, .string (ba t1), .slice vA1 vl1 vc1, .slice uA1 ul1 uc1] 29 (0, 0))).alloc (.cells #[.int .i64 1, .bool is2, .bool dn2, .string (ba dig2), .int .i64 ex2, .string (ba t2), .slice vA2 vl2 vc2, .slice uA2 ul2 uc2] 29 (0, 0))) = w0 := ⟨_, rfl⟩
  rw [hw0] at HAG HH0 ⊢
  clear hw0
  have hHeld : Two w (.cells #[.int .i64 1, .bool is1, .bool dn1, .string (ba dig1), .int .i64 ex1, .string (ba t1), .slice vA1 vl1 vc1, .slice uA1 ul1 uc1] 29 (0, 0)) (.cells #[.int .i64 1, .bool is2, .bool dn2, .string (ba dig2), .int .i64 ex2, .string (ba t2), .slice vA2 vl2 vc2, .slice uA2 ul2 uc2] 29 (0, 0)) w0.drew := HH0.out
  refine wp_region_T 7 (fun W => Two w (.cells #[.int .i64 1, .bool is1, .bool dn1, .string (ba dig1), .int .i64 ex1, .string (ba t1), .slice vA1 vl1 vc1, .slice uA1 ul1 uc1] 29 (0, 0)) (.cells #[.int .i64 1, .bool is2, .bool dn2, .string (ba dig2), .int .i64 ex2, .string (ba t2), .slice vA2 vl2 vc2, .slice uA2 ul2 uc2] 29 (0, 0)) W) (by kernel_rfl) hHeld ?_
  refine T_take (i := 0) (v := ?_) rfl (by kernel_rfl) (fun _ _ _ h => h) (Or.inl ⟨by rfl, ?_⟩) hHeld ?_
  rotate_left
  ·
    intro W hW
    have a1 := blk_c hW.1 1
    have b1 := blk_c hW.2 1
    clear hW
    go_simp
    all_goals with_reducible rfl
  try simp only [Act.put, List.setIfInBounds_toArray, List.set_cons_zero, List.set_cons_succ]
  refine T_take (i := 1) (v := ?_) rfl (by kernel_rfl) (fun _ _ _ h => h) (Or.inl ⟨by rfl, ?_⟩) hHeld ?_
  rotate_left
  ·
    intro W hW
    have a1 := blk_c hW.1 1
    have b1 := blk_c hW.2 1
    clear hW
    go_simp
    all_goals with_reducible rfl
  try simp only [Act.put, List.setIfInBounds_toArray, List.set_cons_zero, List.set_cons_succ]
  refine T_take (i := 3) (v := ?_) rfl (by kernel_rfl) (fun _ _ _ h => h) (Or.inl ⟨by rfl, ?_⟩) hHeld ?_
  rotate_left
  ·
    intro W hW
    have a1 := blk_c hW.1 1
    have b1 := blk_c hW.2 1
    clear hW
    go_simp
    all_goals with_reducible rfl
  try simp only [Act.put, List.setIfInBounds_toArray, List.set_cons_zero, List.set_cons_succ]
  refine T_take (i := 4) (v := ?_) rfl (by kernel_rfl) (fun _ _ _ h => h) (Or.inl ⟨by rfl, ?_⟩) hHeld ?_
  rotate_left
  ·
    intro W hW
    have a1 := blk_c hW.1 1
    have b1 := blk_c hW.2 1
    clear hW
    go_simp
    all_goals with_reducible rfl
  try simp only [Act.put, List.setIfInBounds_toArray, List.set_cons_zero, List.set_cons_succ]
  refine wpAnyT_ready (rs := [2]) (by kernel_rfl) (by simp) ?_
  refine T_cons rfl (fun K hK => ?_) AllReadyT.nil
  go_simp
  go_at_call 60
  refine (HT1.out _).mono ?_
  rintro e w1 ⟨rfl, gw1⟩
  have hHeld1 := Two.gb hHeld gw1
  have Hw1 := Lib.hid (gb_trans (gb_drew HAG.out) gw1)
  clear gw1
  try go_wp2_with fail
  refine hK.out _ _ (fun _ => hHeld1) (fun _ => ?_)
  clear hK K
  try simp only [Act.put, List.setIfInBounds_toArray, List.set_cons_zero, List.set_cons_succ]
  refine wpAnyT_ready (rs := [5]) (by kernel_rfl) (by simp) ?_
  refine T_cons rfl (fun K hK => ?_) AllReadyT.nil
  go_simp
  go_at_call 60
  refine (HT2.out _).mono ?_
  rintro e w2 ⟨rfl, gw2⟩
  have hHeld2 := Two.gb hHeld1 gw2
  have Hw2 := Lib.hid (gb_trans Hw1.out gw2)
  clear gw2
  try go_wp2_with fail
  refine hK.out _ _ (fun _ => hHeld2) (fun _ => ?_)
  clear hK K
  try simp only [Act.put, List.setIfInBounds_toArray, List.set_cons_zero, List.set_cons_succ]
  refine T_take (i := 6) (v := ?_) rfl (by kernel_rfl) (fun _ _ _ h => h) (Or.inl ⟨by rfl, ?_⟩) hHeld2 ?_
  rotate_left
  ·
    intro W hW
    clear hW
    go_simp
    all_goals with_reducible rfl
  try simp only [Act.put, List.setIfInBounds_toArray, List.set_cons_zero, List.set_cons_succ]
  refine T_tail 7 rfl rfl (by omega) (by kernel_rfl) ?_
  clear hHeld hHeld1 hHeld2
  go_wp2_with fail
  go_ret
  exact ⟨rfl, Hw2.out⟩

theorem json_compare (h10 : 0 ≤ k1) (h15 : k1 ≤ 5) (hk : k1 = k2 → k1 ≤ 3) (h1 : NumC ⟨dn1, dig1, ex1⟩) (h2 : NumC ⟨dn2, dig2, ex2⟩) :
    Calls Tryz.prog 23 #[.agg #[.int .i64 k1, .bool is1, .bool dn1, .string (ba dig1), .int .i64 ex1, .string (ba t1), .slice vA1 vl1 vc1, .slice uA1 ul1 uc1], .agg #[.int .i64 k2, .bool is2, .bool dn2, .string (ba dig2), .int .i64 ex2, .string (ba t2), .slice vA2 vl2 vc2, .slice uA2 ul2 uc2]] w (IOut w (Js.cmpV ⟨k1, is1, ⟨dn1, dig1, ex1⟩, t1, items1, names1⟩ ⟨k2, is2, ⟨dn2, dig2, ex2⟩, t2, items2, names2⟩)) := by
  by_cases he : k1 = k2
  · subst he
    have h3 := hk rfl
    have h4 : k1 = 0 ∨ k1 = 1 ∨ k1 = 2 ∨ k1 = 3 := by omega
    rcases h4 with rfl | rfl | rfl | rfl
    · rw [show Js.cmpV ⟨0, is1, ⟨dn1, dig1, ex1⟩, t1, items1, names1⟩ ⟨0, is2, ⟨dn2, dig2, ex2⟩, t2, items2, names2⟩ = 0 by simp [Js.cmpV]]
      exact jcmp_0 is1 is2 dn1 dn2 dig1 dig2 t1 t2 ex1 ex2 vA1 uA1 vA2 uA2 vl1 vc1 ul1 uc1 vl2 vc2 ul2 uc2 w
    · rw [show Js.cmpV ⟨1, is1, ⟨dn1, dig1, ex1⟩, t1, items1, names1⟩ ⟨1, is2, ⟨dn2, dig2, ex2⟩, t2, items2, names2⟩ = Js.told is1 - Js.told is2 by simp [Js.cmpV]]
      exact jcmp_1 is1 is2 dn1 dn2 dig1 dig2 t1 t2 ex1 ex2 vA1 uA1 vA2 uA2 vl1 vc1 ul1 uc1 vl2 vc2 ul2 uc2 w
    · rw [show Js.cmpV ⟨2, is1, ⟨dn1, dig1, ex1⟩, t1, items1, names1⟩ ⟨2, is2, ⟨dn2, dig2, ex2⟩, t2, items2, names2⟩ = Js.ncmp ⟨dn1, dig1, ex1⟩ ⟨dn2, dig2, ex2⟩ by simp [Js.cmpV]]
      exact jcmp_2 is1 is2 dn1 dn2 dig1 dig2 t1 t2 ex1 ex2 vA1 uA1 vA2 uA2 vl1 vc1 ul1 uc1 vl2 vc2 ul2 uc2 w h1 h2
    · rw [show Js.cmpV ⟨3, is1, ⟨dn1, dig1, ex1⟩, t1, items1, names1⟩ ⟨3, is2, ⟨dn2, dig2, ex2⟩, t2, items2, names2⟩ = Js.cmpB t1 t2 by simp [Js.cmpV]]
      exact jcmp_3 is1 is2 dn1 dn2 dig1 dig2 t1 t2 ex1 ex2 vA1 uA1 vA2 uA2 vl1 vc1 ul1 uc1 vl2 vc2 ul2 uc2 w
  · rw [show Js.cmpV ⟨k1, is1, ⟨dn1, dig1, ex1⟩, t1, items1, names1⟩ ⟨k2, is2, ⟨dn2, dig2, ex2⟩, t2, items2, names2⟩ = Js.cmpI k1 k2 by simp [Js.cmpV, he]]
    exact jcmp_kinds k1 k2 is1 is2 dn1 dn2 dig1 dig2 t1 t2 ex1 ex2 vA1 uA1 vA2 uA2 vl1 vc1 ul1 uc1 vl2 vc2 ul2 uc2 w he
end
end Go.Proofs.YtocjlbpehfpdoaaGreatDoor
