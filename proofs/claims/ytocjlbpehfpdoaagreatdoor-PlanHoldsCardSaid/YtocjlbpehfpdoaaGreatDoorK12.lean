/- package order: Key. · package plan: Behind. -/
import Derived.Test.YtocjlbpehfpdoaaGreatDoorK11
set_option linter.unusedVariables false
set_option linter.unusedSimpArgs false
namespace Go.Proofs.YtocjlbpehfpdoaaGreatDoor
open Go.RowKit

/-- Bytes and an error's number handed back, in new memory. -/
def KOut (w : World) (l : Js.Bs) (ec : Int) (e : Ending) (w' : World) : Prop := ∃ r, e = .returned (.tuple #[r, .int .i64 ec]) ∧ SlB (fun k => w.heap.size ≤ k) w' l r ∧ w.grownBy w' none
/-- A number whose bytes can be put. -/
def NumW (n : Js.Nm) : Prop := n.dig = [] ∨ (n.dig.length ≤ 100 ∧ 0 ≤ n.dig.length + n.exp + 2000 ∧ n.dig.length + n.exp + 2000 < 65536)

section
variable (is dn : Bool) (dig t : Js.Bs) (ex : Int) (vA uA : Option Addr) (vl vc ul uc : Nat) (w : World)
theorem ord_number (k : Int) (h : NumW ⟨dn, dig, ex⟩) : Calls Tryz.prog 47 #[.agg #[.int .i64 k, .bool is, .bool dn, .string (ba dig), .int .i64 ex, .string (ba t), .slice vA vl vc, .slice uA ul uc]] w (BOut w (Js.onumber ⟨dn, dig, ex⟩)) := by
  by_cases hd : dig = []
  · have := ord_number_zero k is dn dig t ex vA uA vl vc ul uc w hd
    rwa [show Js.onumber ⟨dn, dig, ex⟩ = [1] by simp [Js.onumber, hd]]
  · rcases h with h | ⟨h1, h2, h3⟩
    · exact absurd h hd
    · exact ord_number_some k is dn dig t ex vA uA vl vc ul uc w hd h1 h2 h3

set_option maxRecDepth 100000 in
set_option maxHeartbeats 8000000 in
theorem ord_key_0 (B : Nat) (h : Knd B w) : Calls Tryz.prog 14 #[.agg #[.int .i64 0, .bool is, .bool dn, .string (ba dig), .int .i64 ex, .string (ba t), .slice vA vl vc, .slice uA ul uc]] w (KOut w [1] 0) := by
  have HK := Lib.hid (fun W (hg : w.grownBy W none) => ord_kind is dn dig t ex vA uA vl vc ul uc W 0 (by omega) (by omega) B (h.gbn hg))
  have ag := World.grownBy_alloc w (.cells #[.int .i64 0, .bool is, .bool dn, .string (ba dig), .int .i64 ex, .string (ba t), .slice vA vl vc, .slice uA ul uc] 29 (0, 0)) none
  have HB0 := Lib.hid (blk_new w (.cells #[.int .i64 0, .bool is, .bool dn, .string (ba dig), .int .i64 ex, .string (ba t), .slice vA vl vc, .slice uA ul uc] 29 (0, 0)))
  have HAG := Lib.hid ag
  clear h ag
  go_enter Tryz.func14, Tryz.ntmps14
  go_wp2_with fail
  refine (HK.out _ HAG.out).mono ?_
  rw [show Js.kind2 0 = _ from rfl]
  rintro e w1 ⟨rfl, g1⟩
  have hb1 := gb_blk g1 HB0.out (by simp)
  obtain ⟨⟨d0, d1, d2, d3, d4, d5, d6, d7⟩, _⟩ := blk8 hb1
  have hlt1 : w.heap.size < w1.heap.size := blk_lt' hb1
  have hne1 : w.heap.size ≠ w1.heap.size := by omega
  have HG1 := Lib.hid (gb_trans HAG.out g1)
  clear hb1 g1
  go_wp2
  go_ret2
  exact ⟨_, rfl, (bytes_new' w1 [1] w.heap.size _ 1 rfl rfl HG1.out.size (by simp)).slb (Nat.le_refl _), gb_alloc HG1.out _⟩

set_option maxRecDepth 100000 in
set_option maxHeartbeats 8000000 in
theorem ord_key_1t (B : Nat) (h : Knd B w) : Calls Tryz.prog 14 #[.agg #[.int .i64 1, .bool true, .bool dn, .string (ba dig), .int .i64 ex, .string (ba t), .slice vA vl vc, .slice uA ul uc]] w (KOut w [3] 0) := by
  have HK := Lib.hid (fun W (hg : w.grownBy W none) => ord_kind true dn dig t ex vA uA vl vc ul uc W 1 (by omega) (by omega) B (h.gbn hg))
  have ag := World.grownBy_alloc w (.cells #[.int .i64 1, .bool true, .bool dn, .string (ba dig), .int .i64 ex, .string (ba t), .slice vA vl vc, .slice uA ul uc] 29 (0, 0)) none
  have HB0 := Lib.hid (blk_new w (.cells #[.int .i64 1, .bool true, .bool dn, .string (ba dig), .int .i64 ex, .string (ba t), .slice vA vl vc, .slice uA ul uc] 29 (0, 0)))
  have HAG := Lib.hid ag
  clear h ag
  go_enter Tryz.func14, Tryz.ntmps14
  go_wp2_with fail
  refine (HK.out _ HAG.out).mono ?_
  rw [show Js.kind2 1 = _ from rfl]
  rintro e w1 ⟨rfl, g1⟩
  have hb1 := gb_blk g1 HB0.out (by simp)
  obtain ⟨⟨d0, d1, d2, d3, d4, d5, d6, d7⟩, _⟩ := blk8 hb1
  have hlt1 : w.heap.size < w1.heap.size := blk_lt' hb1
  have hne1 : w.heap.size ≠ w1.heap.size := by omega
  have HG1 := Lib.hid (gb_trans HAG.out g1)
  clear hb1 g1
  go_wp2
  go_ret2
  exact ⟨_, rfl, (bytes_new' w1 [3] w.heap.size _ 1 rfl rfl HG1.out.size (by simp)).slb (Nat.le_refl _), gb_alloc HG1.out _⟩

set_option maxRecDepth 100000 in
set_option maxHeartbeats 8000000 in
theorem ord_key_1f (B : Nat) (h : Knd B w) : Calls Tryz.prog 14 #[.agg #[.int .i64 1, .bool false, .bool dn, .string (ba dig), .int .i64 ex, .string (ba t), .slice vA vl vc, .slice uA ul uc]] w (KOut w [2] 0) := by
  have HK := Lib.hid (fun W (hg : w.grownBy W none) => ord_kind false dn dig t ex vA uA vl vc ul uc W 1 (by omega) (by omega) B (h.gbn hg))
  have ag := World.grownBy_alloc w (.cells #[.int .i64 1, .bool false, .bool dn, .string (ba dig), .int .i64 ex, .string (ba t), .slice vA vl vc, .slice uA ul uc] 29 (0, 0)) none
  have HB0 := Lib.hid (blk_new w (.cells #[.int .i64 1, .bool false, .bool dn, .string (ba dig), .int .i64 ex, .string (ba t), .slice vA vl vc, .slice uA ul uc] 29 (0, 0)))
  have HAG := Lib.hid ag
  clear h ag
  go_enter Tryz.func14, Tryz.ntmps14
  go_wp2_with fail
  refine (HK.out _ HAG.out).mono ?_
  rw [show Js.kind2 1 = _ from rfl]
  rintro e w1 ⟨rfl, g1⟩
  have hb1 := gb_blk g1 HB0.out (by simp)
  obtain ⟨⟨d0, d1, d2, d3, d4, d5, d6, d7⟩, _⟩ := blk8 hb1
  have hlt1 : w.heap.size < w1.heap.size := blk_lt' hb1
  have hne1 : w.heap.size ≠ w1.heap.size := by omega
  have HG1 := Lib.hid (gb_trans HAG.out g1)
  clear hb1 g1
  go_wp2
  go_ret2
  exact ⟨_, rfl, (bytes_new' w1 [2] w.heap.size _ 1 rfl rfl HG1.out.size (by simp)).slb (Nat.le_refl _), gb_alloc HG1.out _⟩

set_option maxRecDepth 100000 in
set_option maxHeartbeats 8000000 in
theorem ord_key_4 (B : Nat) (h : Knd B w) : Calls Tryz.prog 14 #[.agg #[.int .i64 4, .bool is, .bool dn, .string (ba dig), .int .i64 ex, .string (ba t), .slice vA vl vc, .slice uA ul uc]] w (KOut w [] 36) := by
  have HK := Lib.hid (fun W (hg : w.grownBy W none) => ord_kind is dn dig t ex vA uA vl vc ul uc W 4 (by omega) (by omega) B (h.gbn hg))
  have ag := World.grownBy_alloc w (.cells #[.int .i64 4, .bool is, .bool dn, .string (ba dig), .int .i64 ex, .string (ba t), .slice vA vl vc, .slice uA ul uc] 29 (0, 0)) none
  have HB0 := Lib.hid (blk_new w (.cells #[.int .i64 4, .bool is, .bool dn, .string (ba dig), .int .i64 ex, .string (ba t), .slice vA vl vc, .slice uA ul uc] 29 (0, 0)))
  have HAG := Lib.hid ag
  clear h ag
  go_enter Tryz.func14, Tryz.ntmps14
  go_wp2_with fail
  refine (HK.out _ HAG.out).mono ?_
  rw [show Js.kind2 4 = _ from rfl]
  rintro e w1 ⟨rfl, g1⟩
  have hb1 := gb_blk g1 HB0.out (by simp)
  obtain ⟨⟨d0, d1, d2, d3, d4, d5, d6, d7⟩, _⟩ := blk8 hb1
  have hlt1 : w.heap.size < w1.heap.size := blk_lt' hb1
  have hne1 : w.heap.size ≠ w1.heap.size := by omega
  have HG1 := Lib.hid (gb_trans HAG.out g1)
  clear hb1 g1
  go_wp2
  go_ret2
  exact ⟨_, rfl, SlB.nil _ _, HG1.out⟩

set_option maxRecDepth 100000 in
set_option maxHeartbeats 8000000 in
theorem ord_key_5 (B : Nat) (h : Knd B w) : Calls Tryz.prog 14 #[.agg #[.int .i64 5, .bool is, .bool dn, .string (ba dig), .int .i64 ex, .string (ba t), .slice vA vl vc, .slice uA ul uc]] w (KOut w [] 36) := by
  have HK := Lib.hid (fun W (hg : w.grownBy W none) => ord_kind is dn dig t ex vA uA vl vc ul uc W 5 (by omega) (by omega) B (h.gbn hg))
  have ag := World.grownBy_alloc w (.cells #[.int .i64 5, .bool is, .bool dn, .string (ba dig), .int .i64 ex, .string (ba t), .slice vA vl vc, .slice uA ul uc] 29 (0, 0)) none
  have HB0 := Lib.hid (blk_new w (.cells #[.int .i64 5, .bool is, .bool dn, .string (ba dig), .int .i64 ex, .string (ba t), .slice vA vl vc, .slice uA ul uc] 29 (0, 0)))
  have HAG := Lib.hid ag
  clear h ag
  go_enter Tryz.func14, Tryz.ntmps14
  go_wp2_with fail
  refine (HK.out _ HAG.out).mono ?_
  rw [show Js.kind2 5 = _ from rfl]
  rintro e w1 ⟨rfl, g1⟩
  have hb1 := gb_blk g1 HB0.out (by simp)
  obtain ⟨⟨d0, d1, d2, d3, d4, d5, d6, d7⟩, _⟩ := blk8 hb1
  have hlt1 : w.heap.size < w1.heap.size := blk_lt' hb1
  have hne1 : w.heap.size ≠ w1.heap.size := by omega
  have HG1 := Lib.hid (gb_trans HAG.out g1)
  clear hb1 g1
  go_wp2
  go_ret2
  exact ⟨_, rfl, SlB.nil _ _, HG1.out⟩

theorem onum_len (n : Js.Nm) (h : NumW n) : (Js.onumber n).length ≤ 1000 := by
  unfold Js.onumber
  split
  · simp
  · rename_i hd
    rcases h with h | ⟨h, _⟩
    · exact absurd h hd
    · have : (Js.onumPos n).length = n.dig.length + 3 := by simp [Js.onumPos]
      split
      · rw [List.length_cons, List.length_map, this]; omega
      · rw [List.length_cons, this]; omega
theorem otext_len : ∀ l : Js.Bs, (Js.otext l).length ≤ 2 * l.length + 2
  | [] => by simp [Js.otext]
  | c :: l => by
    have h := otext_len l
    unfold Js.otext at *
    rw [List.flatMap_cons, List.append_assoc, List.length_append, List.length_cons]
    have : (Js.otextB c).length ≤ 2 := by unfold Js.otextB; split <;> simp
    omega

set_option maxRecDepth 100000 in
set_option maxHeartbeats 8000000 in
theorem ord_key_2 (B : Nat) (h : Knd B w) (hn : NumW ⟨dn, dig, ex⟩) : Calls Tryz.prog 14 #[.agg #[.int .i64 2, .bool is, .bool dn, .string (ba dig), .int .i64 ex, .string (ba t), .slice vA vl vc, .slice uA ul uc]] w (KOut w (4 :: Js.onumber ⟨dn, dig, ex⟩) 0) := by
  have HK := Lib.hid (fun W (hg : w.grownBy W none) => ord_kind is dn dig t ex vA uA vl vc ul uc W 2 (by omega) (by omega) B (h.gbn hg))
  have ag := World.grownBy_alloc w (.cells #[.int .i64 2, .bool is, .bool dn, .string (ba dig), .int .i64 ex, .string (ba t), .slice vA vl vc, .slice uA ul uc] 29 (0, 0)) none
  have HB0 := Lib.hid (blk_new w (.cells #[.int .i64 2, .bool is, .bool dn, .string (ba dig), .int .i64 ex, .string (ba t), .slice vA vl vc, .slice uA ul uc] 29 (0, 0)))
  have HAG := Lib.hid ag
  have HN := Lib.hid hn
  have HLEN := Lib.hid (show (Js.onumber ⟨dn, dig, ex⟩).length ≤ 100000 from Nat.le_trans (onum_len _ hn) (by omega))
  obtain ⟨P, hP⟩ : ∃ P, Js.onumber ⟨dn, dig, ex⟩ = P := ⟨_, rfl⟩
  clear h ag hn hP
  go_enter Tryz.func14, Tryz.ntmps14
  go_wp2_with fail
  refine (HK.out _ HAG.out).mono ?_
  rw [show Js.kind2 2 = _ from rfl]
  rintro e w1 ⟨rfl, g1⟩
  have hb1 := gb_blk g1 HB0.out (by simp)
  obtain ⟨⟨d0, d1, d2, d3, d4, d5, d6, d7⟩, _⟩ := blk8 hb1
  have hlt1 : w.heap.size < w1.heap.size := blk_lt' hb1
  have hne1 : w.heap.size ≠ w1.heap.size := by omega
  have HG1 := Lib.hid (gb_trans HAG.out g1)
  clear hb1 g1
  have HO1 := Lib.hid (bytes_new' w1 [4] w.heap.size w1.heap.size 1 rfl rfl HG1.out.size (by simp))
  have hs1 := HG1.out.size
  go_wp2_with fail
  refine (ord_number is dn dig t ex vA uA vl vc ul uc _ 2 HN.out).mono ?_
  rintro e w2 ⟨r, rfl, hr, g2⟩
  obtain ⟨rA, rc, rfl, _, _, hrd⟩ := hr.reads
  have HRD := Lib.hid hrd
  have HO2 := Lib.hid (OwB.kept HO1.out g2 (.inl rfl))
  have HG2 := Lib.hid (gb_trans (gb_alloc HG1.out _) g2)
  have hs2 := HG2.out.size
  clear hr g2 hrd
  go_wp2_with (first
    | (at_builtin
       refine wpList_appB (w0 := w) rfl (.tmp 24) (.tmp 26) rfl w.heap.size 1 _ rc w2.heap.size [4] _ (some ⟨w1.heap.size, 0, none⟩) rA 1 (by rfl) HO2.out (by rfl) rfl HRD.out (by simp) HLEN.out hs2 (Nat.le_refl _) HG2.out ?_
       intro vA3 vc3 w3 ho3 hg3
       have HO3 := Lib.hid ho3
       have HG3 := Lib.hid hg3
       clear ho3 hg3))
  go_ret2
  exact ⟨_, rfl, HO3.out.slb (Nat.le_refl _), HG3.out⟩

set_option maxRecDepth 100000 in
set_option maxHeartbeats 8000000 in
theorem ord_key_3 (B : Nat) (h : Knd B w) (ht : t.length ≤ 4096) : Calls Tryz.prog 14 #[.agg #[.int .i64 3, .bool is, .bool dn, .string (ba dig), .int .i64 ex, .string (ba t), .slice vA vl vc, .slice uA ul uc]] w (KOut w (5 :: Js.otext t) 0) := by
  have HK := Lib.hid (fun W (hg : w.grownBy W none) => ord_kind is dn dig t ex vA uA vl vc ul uc W 3 (by omega) (by omega) B (h.gbn hg))
  have ag := World.grownBy_alloc w (.cells #[.int .i64 3, .bool is, .bool dn, .string (ba dig), .int .i64 ex, .string (ba t), .slice vA vl vc, .slice uA ul uc] 29 (0, 0)) none
  have HB0 := Lib.hid (blk_new w (.cells #[.int .i64 3, .bool is, .bool dn, .string (ba dig), .int .i64 ex, .string (ba t), .slice vA vl vc, .slice uA ul uc] 29 (0, 0)))
  have HAG := Lib.hid ag
  have HT := Lib.hid ht
  have HLEN := Lib.hid (show (Js.otext t).length ≤ 100000 from Nat.le_trans (otext_len t) (by omega))
  clear h ag ht
  go_enter Tryz.func14, Tryz.ntmps14
  go_wp2_with fail
  refine (HK.out _ HAG.out).mono ?_
  rw [show Js.kind2 3 = _ from rfl]
  rintro e w1 ⟨rfl, g1⟩
  have hb1 := gb_blk g1 HB0.out (by simp)
  obtain ⟨⟨d0, d1, d2, d3, d4, d5, d6, d7⟩, _⟩ := blk8 hb1
  have hlt1 : w.heap.size < w1.heap.size := blk_lt' hb1
  have hne1 : w.heap.size ≠ w1.heap.size := by omega
  have HG1 := Lib.hid (gb_trans HAG.out g1)
  clear hb1 g1
  have HO1 := Lib.hid (bytes_new' w1 [5] w.heap.size w1.heap.size 1 rfl rfl HG1.out.size (by simp))
  have hs1 := HG1.out.size
  go_wp2_with fail
  refine (ord_text t _ HT.out).mono ?_
  rintro e w2 ⟨r, rfl, hr, g2⟩
  obtain ⟨rA, rc, rfl, _, _, hrd⟩ := hr.reads
  have HRD := Lib.hid hrd
  have HO2 := Lib.hid (OwB.kept HO1.out g2 (.inl rfl))
  have HG2 := Lib.hid (gb_trans (gb_alloc HG1.out _) g2)
  have hs2 := HG2.out.size
  clear hr g2 hrd
  go_wp2_with (first
    | (at_builtin
       refine wpList_appB (w0 := w) rfl (.tmp 31) (.tmp 34) rfl w.heap.size 1 _ rc w2.heap.size [5] _ (some ⟨w1.heap.size, 0, none⟩) rA 1 (by rfl) HO2.out (by rfl) rfl HRD.out (by simp) HLEN.out hs2 (Nat.le_refl _) HG2.out ?_
       intro vA3 vc3 w3 ho3 hg3
       have HO3 := Lib.hid ho3
       have HG3 := Lib.hid hg3
       clear ho3 hg3))
  go_ret2
  exact ⟨_, rfl, HO3.out.slb (Nat.le_refl _), HG3.out⟩

theorem ord_key (k : Int) (B : Nat) (h : Knd B w) (h0 : 0 ≤ k) (h5 : k ≤ 5) (hn : NumW ⟨dn, dig, ex⟩) (ht : t.length ≤ 4096) (items : List Js.V) (names : List Js.Bs) :
    Calls Tryz.prog 14 #[.agg #[.int .i64 k, .bool is, .bool dn, .string (ba dig), .int .i64 ex, .string (ba t), .slice vA vl vc, .slice uA ul uc]] w (KOut w (Js.okey ⟨k, is, ⟨dn, dig, ex⟩, t, items, names⟩).1 (Js.okey ⟨k, is, ⟨dn, dig, ex⟩, t, items, names⟩).2) := by
  have hk : k = 0 ∨ k = 1 ∨ k = 2 ∨ k = 3 ∨ k = 4 ∨ k = 5 := by omega
  rcases hk with rfl | rfl | rfl | rfl | rfl | rfl
  · exact ord_key_0 is dn dig t ex vA uA vl vc ul uc w B h
  · cases is
    · exact ord_key_1f dn dig t ex vA uA vl vc ul uc w B h
    · exact ord_key_1t dn dig t ex vA uA vl vc ul uc w B h
  · exact ord_key_2 is dn dig t ex vA uA vl vc ul uc w B h hn
  · exact ord_key_3 is dn dig t ex vA uA vl vc ul uc w B h ht
  · exact ord_key_4 is dn dig t ex vA uA vl vc ul uc w B h
  · exact ord_key_5 is dn dig t ex vA uA vl vc ul uc w B h
end
end Go.Proofs.YtocjlbpehfpdoaaGreatDoor

set_option linter.unusedVariables false
set_option linter.unusedSimpArgs false
namespace Go.Proofs.YtocjlbpehfpdoaaGreatDoor
open Go.RowKit

def cellN : Value → Nat
  | .slice _ n _ => n
  | _ => 0
theorem behind_nil : Js.behind [] = [] := rfl
theorem behind_255 (l : Js.Bs) : Js.behind (l ++ [255]) = Js.behind l := by simp [Js.behind, Js.behindR]
theorem behind_less (l : Js.Bs) (c : UInt8) (h : c ≠ 255) : Js.behind (l ++ [c]) = l ++ [c + 1] := by simp [Js.behind, Js.behindR, h]
/-- A byte of an own row turned. -/
theorem own_last {w : World} {base g cap : Nat} {l : Js.Bs} {c d : UInt8} (h : OwB w base (l ++ [c]) (.slice (some ⟨g, 0, none⟩) (l.length + 1) cap)) :
    OwB (w.setCell ⟨g, l.length, none⟩ (.int .u8 (d.toNat : Int))) base (l ++ [d]) (.slice (some ⟨g, 0, none⟩) (l.length + 1) cap) ∧
    OwB (w.setCell ⟨g, l.length, none⟩ (.int .u8 (d.toNat : Int))) base l (.slice (some ⟨g, 0, none⟩) l.length cap) := by
  rcases h.2 with ⟨e, _⟩ | ⟨g', cap', cur, e, hb, hg, h1, h2, hc, ht⟩
  · cases e
  · injection e with e1 e2 e3
    cases e1
    subst e3
    clear e2
    have hl : (l ++ [c]).length = l.length + 1 := by simp
    have hcl : l.length < cur.size := by rw [hc]; omega
    have ht' : cur.toList.take (l.length + 1) = bc l ++ [.int .u8 (c.toNat : Int)] := by
      have := ht
      rw [hl, Nat.mul_one, ← bc_app] at this
      exact this
    have htl : cur.toList.take l.length = bc l := by
      have := congrArg (List.take l.length) ht'
      rw [List.take_take, Nat.min_eq_left (by omega), List.take_left' (bc_len l)] at this
      exact this
    have hset := blk_set' hg l.length (.int .u8 (d.toNat : Int))
    have hsz : (cur.setIfInBounds l.length (.int .u8 (d.toNat : Int))).size = cap * 1 := by simp [hc]
    have hts : (cur.setIfInBounds l.length (.int .u8 (d.toNat : Int))).toList.take (l.length + 1) = bc l ++ [.int .u8 (d.toNat : Int)] := by
      rw [Array.toList_setIfInBounds, List.take_succ_eq_append_getElem (by simpa using hcl)]
      congr 1
      · rw [List.take_set, List.set_eq_of_length_le (by rw [List.length_take]; omega)]; exact htl
      · simp
    refine ⟨⟨by rw [bc_len]; omega, .inr ⟨g, cap, _, by rw [List.length_append]; rfl, hb, hset, by rw [List.length_append]; rw [List.length_append] at h1; exact h1, h2, hsz, ?_⟩⟩, ⟨by rw [bc_len]; omega, .inr ⟨g, cap, _, rfl, hb, hset, by omega, h2, hsz, ?_⟩⟩⟩
    · rw [List.length_append, Nat.mul_one, ← bc_app]
      exact hts
    · rw [Nat.mul_one]
      have := congrArg (List.take l.length) hts
      rw [List.take_take, Nat.min_eq_left (by omega), List.take_left' (bc_len l)] at this
      exact this

set_option maxRecDepth 100000 in
set_option maxHeartbeats 8000000 in
theorem plan_behind (F : Nat → Prop) (l : Js.Bs) (s : Value) (w : World) (h : SlB F w l s) (hl : l.length ≤ 10000) : Calls Tryz.prog 42 #[s] w (BOut w (Js.behind l)) := by
  have hcl := clone_bytes F l s w h (by omega)
  have HCL := Lib.hid hcl
  obtain ⟨A, c, rfl, _, _, _⟩ := h.reads
  obtain ⟨P, hP⟩ : ∃ P, Js.behind l = P := ⟨_, rfl⟩
  rw [hP]
  have HP := Lib.hid hP
  clear hcl h hP
  go_enter Tryz.func42, Tryz.ntmps42
  go_wp2_with fail
  refine HCL.out.mono ?_
  rintro e w1 ⟨v, rfl, ho, g1⟩
  have HO := Lib.hid ho
  have HG1 := Lib.hid g1
  clear ho g1
  go_wp2_with fail
  go_loopw [3] (fun s3 wr => ∃ (cur : Js.Bs) (n : Nat) (A : Option Addr) (c : Nat), n = cur.length ∧ n ≤ 10000 ∧ s3 = .slice A n c ∧ OwB wr w.heap.size cur (.slice A n c) ∧ w.grownBy wr none ∧ Js.behind cur = P) (fun s3 _ => cellN s3)
  case atStart =>
    obtain ⟨A', c', rfl, _, _⟩ := HO.out.form
    exact ⟨l, _, A', c', rfl, hl, rfl, HO.out, HG1.out, HP.out⟩
  case round =>
    obtain ⟨cur, n, A', c', hn, hnb, rfl, hown, hgr, hb⟩ := hrel
    have HOW := Lib.hid hown
    have HGR := Lib.hid hgr
    have HB := Lib.hid hb
    clear hown hgr hb
    rcases List.eq_nil_or_concat cur with rfl | ⟨l0, ch, rfl⟩
    · have h0 : n = 0 := hn
      subst h0
      have HB2 : Hid (P = []) := Lib.hid (by rw [← HB.out, behind_nil])
      clear hn
      go_wp2
      go_ret
      exact ⟨_, rfl, HB2.out ▸ SlB.nil _ _, HGR.out⟩
    · rw [List.concat_eq_append] at *
      obtain ⟨N, hN⟩ : ∃ N, l0.length = N := ⟨_, rfl⟩
      have hn1 : n = N + 1 := by rw [hn, List.length_append, hN]; rfl
      subst hn1
      have HN := Lib.hid hN
      obtain ⟨g, cap, hform, _, _⟩ := World.ownsRow.form HOW.out (by rw [List.length_append]; simp)
      injection hform with e1 e2 e3
      subst e1 e3
      have HOW2 : Hid (OwB wr w.heap.size (l0 ++ [ch]) (.slice (some ⟨g, 0, none⟩) (l0.length + 1) c')) := Lib.hid (by rw [hN]; exact HOW.out)
      have hln : (l0 ++ [ch]).length = N + 1 := by rw [List.length_append, hN]; rfl
      have HOW3 : wr.ownsRow w.heap.size 5 1 (.slice (some ⟨g, 0, none⟩) (N + 1) c') (N + 1) (bc (l0 ++ [ch])) := by
        have := HOW.out
        unfold OwB at this
        rw [hln] at this
        exact this
      have hcell : wr.cell? ⟨g, N, none⟩ = some (.int .u8 (ch.toNat : Int)) := by
        rw [World.ownsRow.cellAt HOW3 N (by omega), bc_get _ N (by omega)]
        have : (l0 ++ [ch])[N]'(by omega) = ch := by
          subst hN
          simp
        rw [this]
      have hfr : wr.frozen? ⟨g, N, none⟩ = false := World.ownsRow.frozenAt HOW3 N
      have hgb : w.heap.size ≤ g := (World.ownsRow.lt HOW3 g rfl).1
      obtain ⟨d, hd⟩ : ∃ d, ch + 1 = d := ⟨_, rfl⟩
      have q1 : IntKind.u8.wrap ((ch.toNat : Int) + 1) = (d.toNat : Int) := by rw [← hd]; exact u8add ch 1
      have hw1 : IntKind.i64.wrap ((N : Int) + 1 - 1) = N := by rw [IntWalk.i64_in _ (by omega)]; omega
      have hN0 : (0 : Int) < (N : Int) + 1 := by omega
      have hNN : (N : Int) < (N : Int) + 1 := by omega
      have HS := own_last (d := d) HOW2.out
      rw [hN] at HS
      have HS1 := Lib.hid HS.1
      have HS2 := Lib.hid HS.2
      have hcap : (N : Int) ≤ (c' : Int) := by
        obtain ⟨_, _, e, hle, _⟩ := HOW.out.form
        injection e with e1 e2 e3
        rw [hln] at hle
        omega
      have hcap2 : N ≤ c' := by omega
      clear hn e2 HS hN HOW2 HOW3 hln
      by_cases hc : ch = 255
      · have hdz : d = 0 := by rw [← hd, hc]; rfl
        have HB2 : Hid (Js.behind l0 = P) := Lib.hid (by rw [← HB.out, hc, behind_255])
        subst hdz
        clear hd hc
        go_wp2
        go_roundw
        case rel => exact ⟨l0, N, _, _, HN.out.symm, by omega, rfl, HS2.out, gb_new HGR.out (gb_set (gb_refl _ _) (.inr rfl) _) hgb, HB2.out⟩
        case measure => simp [cellN]
      · have hpos : (0 : Int) < (d.toNat : Int) := by
          have := Js.succ_lt hc
          rw [hd, UInt8.lt_iff_toNat_lt] at this
          omega
        have HB2 : Hid (l0 ++ [d] = P) := Lib.hid (by rw [← HB.out, behind_less l0 ch hc, hd])
        clear hd hc
        go_wp2
        go_ret
        exact ⟨_, rfl, HB2.out ▸ HS1.out.slb (Nat.le_refl _), gb_new HGR.out (gb_set (gb_refl _ _) (.inr rfl) _) hgb⟩
end Go.Proofs.YtocjlbpehfpdoaaGreatDoor
