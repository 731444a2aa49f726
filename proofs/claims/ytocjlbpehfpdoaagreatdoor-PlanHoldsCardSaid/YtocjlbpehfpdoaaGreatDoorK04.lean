/- Slices that read as lists; slices of bytes. · A region that draws its order: its first operations may read what its last ones write. · package json's reader: fail, skip, took, need, enter, null, yes, no: what each does to the reader's block. · package json's reader: null, yes, no: values without depth. · Tables of the library's, as they were laid; a string's iterator. -/
import Derived.Test.YtocjlbpehfpdoaaGreatDoorK02
import Derived.Test.YtocjlbpehfpdoaaGreatDoorK03
import Derived.Maps.AppendAt
import Derived.Deep.AppendLies
import Derived.Deep.Draws
import Derived.RegionTactic
import Derived.OwnWalk
import Derived.Laws.OwnMore
import Derived.Laws.IdiomStrings
import Derived.Deep.RegionHeld
import Derived.StillTail
set_option linter.unusedVariables false
set_option linter.unusedSimpArgs false
namespace Go.Proofs.YtocjlbpehfpdoaaGreatDoor
open Go.RowKit

theorem block_of_add (a : Addr) (n : Nat) : (a.add n).block = a.block := by unfold Addr.add; split <;> rfl
theorem add_of_add (a : Addr) (i j : Nat) : (a.add i).add j = a.add (i + j) := by
  unfold Addr.add
  by_cases hi : i = 0 <;> by_cases hj : j = 0 <;> simp [hi, hj, Nat.add_assoc]

def Reads (w : World) (B size : Nat) (A : Option Addr) (n : Nat) (xs : List Value) : Prop :=
  xs.length = n * size ∧ (0 < n → ∃ ad, A = some ad ∧ ad.block < B ∧ ∀ j u, xs[j]? = some u → w.cell? (ad.add j) = some u)

section
variable {w w' : World} {B B' size n : Nat} {A : Option Addr} {xs : List Value}
theorem Reads.none_ : Reads w B size A 0 [] := ⟨by simp, fun h => absurd h (by omega)⟩
theorem Reads.at_ {k : Nat} (h : Reads w B 1 A n xs) (hk : k < n) : ∃ ad u, A = some ad ∧ ad.block < B ∧ xs[k]? = some u ∧ w.cell? (ad.add k) = some u := by
  obtain ⟨ad, e, hb, hc⟩ := h.2 (by omega)
  have hl : k < xs.length := by have := h.1; omega
  exact ⟨ad, xs[k], e, hb, List.getElem?_eq_getElem hl, hc k _ (List.getElem?_eq_getElem hl)⟩
theorem Reads.keep (h : Reads w B size A n xs) (hk : ∀ p : Addr, p.block < B → w'.cell? p = w.cell? p) : Reads w' B size A n xs :=
  ⟨h.1, fun hn => by
    obtain ⟨ad, e, hb, hc⟩ := h.2 hn
    exact ⟨ad, e, hb, fun j u hu => (hk _ (by rw [block_of_add]; exact hb)).trans (hc j u hu)⟩⟩
theorem Reads.more (h : Reads w B size A n xs) (hB : B ≤ B') : Reads w B' size A n xs :=
  ⟨h.1, fun hn => by
    obtain ⟨ad, e, hb, hc⟩ := h.2 hn
    exact ⟨ad, e, by omega, hc⟩⟩
theorem Reads.below (h : Reads w B size A n xs) (hb : Below B w w') : Reads w' B size A n xs := h.keep fun _ hp => hb.cell hp
theorem Reads.drew (h : Reads w B size A n xs) : Reads w.drew B size A n xs := h
theorem Reads.drewN (h : Reads w B size A n xs) (k : Nat) : Reads (w.drewN k) B size A n xs := h
theorem Reads.alloc (h : Reads w B size A n xs) (hB : B ≤ w.heap.size) (o : Obj) : Reads (w.alloc o) B size A n xs := h.keep fun p hp => World.cell?_alloc_lt w o p (by omega)
theorem Reads.setCell (h : Reads w B size A n xs) {p : Addr} (hB : B ≤ p.block) (u : Value) : Reads (w.setCell p u) B size A n xs :=
  h.keep fun q hq => World.cell?_setCell_other w p q u (fun e => by subst e; omega)
theorem Reads.grown (h : Reads w B size A n xs) {row : Option Nat} (hg : w.grownBy w' row) (hB : B ≤ w.heap.size) (hr : ∀ g, row = some g → B ≤ g) : Reads w' B size A n xs :=
  h.keep fun p hp => World.cell?_of_block (hg.block p.block (by omega) (fun e => by have := hr _ e.symm; omega))
theorem Reads.cut (h : Reads w B size A n xs) {k cap : Nat} (hk : k ≤ n) (hc : n ≤ cap) :
    Reads w B size (if cap = k then A else A.map (·.add (k * size))) (n - k) (xs.drop (k * size)) := by
  refine ⟨by rw [List.length_drop, h.1, Nat.sub_mul], fun hn => ?_⟩
  obtain ⟨ad, rfl, hb, hcell⟩ := h.2 (by omega)
  rw [if_neg (by omega)]
  refine ⟨ad.add (k * size), rfl, by rw [block_of_add]; exact hb, fun j u hu => ?_⟩
  rw [add_of_add]
  exact hcell _ u (by rw [← hu, List.getElem?_drop])
theorem Reads.of_own {base : Nat} {e : TypeId} {c : Nat} (h : w.ownsRow base e size (.slice A n c) n xs) : Reads w w.heap.size size A n xs := by
  refine ⟨h.1, fun hn => ?_⟩
  obtain ⟨g, cap, hv, _, hlt⟩ := h.form hn
  have hA : A = some ⟨g, 0, none⟩ := by injection hv
  subst hA
  exact ⟨_, rfl, hlt, h.cells (g := g) rfl⟩
end

section
variable {P : Program} (w : World)

theorem run_append_of_nil (base : Nat) (t ty e : TypeId) (i : TypeInfo) (size : Nat) (ht : P.underlying t = some (.slice e)) (hi : P.info? e = some i)
    (v : Value) (n : Nat) (xs : List Value) (hown : w.ownsRow base e size v n xs) (c : Nat) : (Builtin.append_ #[t, t] ty #[v, .slice none 0 c]).run P w = .ok v w := by
  rcases hown.2 with ⟨rfl, rfl⟩ | ⟨g, cap, cur, rfl, _, _, hnc, _⟩
  · simp [Builtin.append_, run_underlying ht, sizeOf, typeInfo, hi, Builtin.lenOf, Builtin.firstCells]
  · simp [Builtin.append_, run_underlying ht, sizeOf, typeInfo, hi, Builtin.lenOf, Builtin.firstCells, hnc, storeCells]

theorem run_append_any (base : Nat) (t ty e : TypeId) (i : TypeInfo) (z : Value) (size bytes : Nat) (ht : P.underlying t = some (.slice e)) (hi : P.info? e = some i) (hz : i.zero = some z)
    (hsize : i.size = size) (hby : i.bytes = bytes) (hzs : z.cells.size = size) (hsz : 0 < size)
    (v : Value) (n : Nat) (xs : List Value) (hown : w.ownsRow base e size v n xs)
    (B : Nat) (A : Option Addr) (m c : Nat) (news : List Value) (hr : Reads w B size A m news) (h1 : ∀ u ∈ news, u.oneCell' = true)
    (h63 : n + m ≤ maxLen) (hbytes : (n + m) * bytes ≤ 140737488355328) (hbase : base ≤ w.heap.size) :
    ∃ v' w', (Builtin.append_ #[t, t] ty #[v, .slice A m c]).run P w = .ok v' w' ∧ w'.ownsRow base e size v' (n + m) (xs ++ news) ∧ w.grownBy w' v.ownBlock ∧
      (v'.ownBlock = v.ownBlock ∨ v'.ownBlock = some w.heap.size) := by
  rcases A with _ | ad
  · have hm : m = 0 := by
      rcases Nat.eq_zero_or_pos m with h0 | h0
      · exact h0
      · obtain ⟨ad, h, _⟩ := hr.2 h0
        cases h
    subst hm
    have hn : news = [] := List.eq_nil_of_length_eq_zero (by simpa using hr.1)
    subst hn
    exact ⟨v, w, run_append_of_nil w base t ty e i size ht hi v n xs hown c, by simpa using hown, World.grownBy.refl w _, .inl rfl⟩
  · have hcells : ∀ j u, news[j]? = some u → w.cell? (ad.add j) = some u := by
      intro j u hu
      rcases Nat.eq_zero_or_pos m with h0 | h0
      · subst h0
        have hn : news = [] := List.eq_nil_of_length_eq_zero (by simpa using hr.1)
        subst hn
        simp at hu
      · obtain ⟨ad', h, _, hc⟩ := hr.2 h0
        injection h with h
        subst h
        exact hc j u hu
    obtain ⟨v', w', hrun, h2, h3, _, h5⟩ := run_append_own_at (P := P) w base t ty e i z size bytes ht hi hz hsize hby hzs hsz v n xs hown ad m c news hr.1 hcells h1 h63 hbytes hbase
    exact ⟨v', w', hrun, h2, h3, h5⟩

theorem wp_append_any {o : Oper} {a : Act} {K : Act → World → Prop} {Q : Exit → Act → World → Prop} (s x : Operand) (t : TypeId)
    (ho : o.op = .call { callee := .builtin .append, args := #[s, x], argTypes := #[t, t] })
    (base : Nat) (e : TypeId) (i : TypeInfo) (z : Value) (size bytes : Nat) (ht : P.underlying t = some (.slice e)) (hi : P.info? e = some i) (hz : i.zero = some z)
    (hsize : i.size = size) (hby : i.bytes = bytes) (hzs : z.cells.size = size) (hsz : 0 < size)
    (v : Value) (n : Nat) (xs : List Value) (hs : a.eval s = v) (hown : w.ownsRow base e size v n xs)
    (B : Nat) (A : Option Addr) (m c : Nat) (news : List Value) (hx : a.eval x = .slice A m c) (hr : Reads w B size A m news) (h1 : ∀ u ∈ news, u.oneCell' = true)
    (h63 : n + m ≤ maxLen) (hbytes : (n + m) * bytes ≤ 140737488355328) (hbase : base ≤ w.heap.size)
    (h : ∀ v' w', w'.ownsRow base e size v' (n + m) (xs ++ news) → w.grownBy w' v.ownBlock → (v'.ownBlock = v.ownBlock ∨ v'.ownBlock = some w.heap.size) → K (a.put o.dst v') w') : o.wp P a w K Q := by
  obtain ⟨v', w', hrun, h2, h3, h4⟩ := run_append_any (P := P) w base t o.type e i z size bytes ht hi hz hsize hby hzs hsz v n xs hown B A m c news hr h1 h63 hbytes hbase
  unfold Oper.wp execOp
  simp only [ho, resolve, invoke, builtin, Sem.run_bind, Sem.run_pure, Result.andThen_ok, List.map_toArray, List.map_cons, List.map_nil, hs, hx, hrun]
  exact h v' w' h2 h3 h4

theorem wpList_append_any {ops : Array Oper} {rest : List Oper} {o : Oper} {a : Act} {Q : Exit → Act → World → Prop} (hgd : o.guard = none) (s x : Operand) (t : TypeId)
    (ho : o.op = .call { callee := .builtin .append, args := #[s, x], argTypes := #[t, t] })
    (base : Nat) (e : TypeId) (i : TypeInfo) (z : Value) (size bytes : Nat) (ht : P.underlying t = some (.slice e)) (hi : P.info? e = some i) (hz : i.zero = some z)
    (hsize : i.size = size) (hby : i.bytes = bytes) (hzs : z.cells.size = size) (hsz : 0 < size)
    (v : Value) (n : Nat) (xs : List Value) (hs : a.eval s = v) (hown : w.ownsRow base e size v n xs)
    (B : Nat) (A : Option Addr) (m c : Nat) (news : List Value) (hx : a.eval x = .slice A m c) (hr : Reads w B size A m news) (h1 : ∀ u ∈ news, u.oneCell' = true)
    (h63 : n + m ≤ maxLen) (hbytes : (n + m) * bytes ≤ 140737488355328) (hbase : base ≤ w.heap.size)
    (h : ∀ v' w', w'.ownsRow base e size v' (n + m) (xs ++ news) → w.grownBy w' v.ownBlock → (v'.ownBlock = v.ownBlock ∨ v'.ownBlock = some w.heap.size) → wpList P ops Q rest (a.put o.dst v') w') : wpList P ops Q (o :: rest) a w :=
  wpList_plain hgd fun _ hK => wp_append_any w s x t ho base e i z size bytes ht hi hz hsize hby hzs hsz v n xs hs hown B A m c news hx hr h1 h63 hbytes hbase fun v' w' h2 h3 h4 => hK _ _ (h v' w' h2 h3 h4)

theorem step_append_any {ops : Array Oper} {o : Oper} {a : Act} {K : Act → World → Prop} {Q : Exit → Act → World → Prop} {E : Prop} (hgd : o.guard = none) (s x : Operand) (t : TypeId)
    (ho : o.op = .call { callee := .builtin .append, args := #[s, x], argTypes := #[t, t] })
    (base : Nat) (e : TypeId) (i : TypeInfo) (z : Value) (size bytes : Nat) (ht : P.underlying t = some (.slice e)) (hi : P.info? e = some i) (hz : i.zero = some z)
    (hsize : i.size = size) (hby : i.bytes = bytes) (hzs : z.cells.size = size) (hsz : 0 < size)
    (v : Value) (n : Nat) (xs : List Value) (hs : a.eval s = v) (hown : w.ownsRow base e size v n xs)
    (B : Nat) (A : Option Addr) (m c : Nat) (news : List Value) (hx : a.eval x = .slice A m c) (hr : Reads w B size A m news) (h1 : ∀ u ∈ news, u.oneCell' = true)
    (h63 : n + m ≤ maxLen) (hbytes : (n + m) * bytes ≤ 140737488355328) (hbase : base ≤ w.heap.size)
    (h : ∀ v' w', w'.ownsRow base e size v' (n + m) (xs ++ news) → w.grownBy w' v.ownBlock → (v'.ownBlock = v.ownBlock ∨ v'.ownBlock = some w.heap.size) → K (a.put o.dst v') w') :
    if Region.wanted o (yielded ops a.tmps) = true then Oper.wp P o a w K Q else E := by
  have hw : Region.wanted o (yielded ops a.tmps) = true := by simp [Region.wanted, hgd]
  rw [if_pos hw]
  exact wp_append_any w s x t ho base e i z size bytes ht hi hz hsize hby hzs hsz v n xs hs hown B A m c news hx hr h1 h63 hbytes hbase h
end

/-! ### bytes -/
abbrev bc (l : Js.Bs) : List Value := Lib.byteCells l
theorem bc_len (l : Js.Bs) : (bc l).length = l.length := by simp [bc, Lib.byteCells]
theorem bc_one (l : Js.Bs) : ∀ u ∈ bc l, u.oneCell' = true := by
  intro v hv
  simp only [bc, Lib.byteCells, List.mem_map] at hv
  obtain ⟨x, _, rfl⟩ := hv
  rfl
theorem bc_app (a b : Js.Bs) : bc a ++ bc b = bc (a ++ b) := by simp [bc, Lib.byteCells]
theorem bc_get (l : Js.Bs) (j : Nat) (h : j < l.length) : (bc l)[j]? = some (.int .u8 (l[j].toNat : Int)) := by simp [bc, Lib.byteCells, h]
/-- A slice of bytes, whose block is one of F's. -/
def SlB (F : Nat → Prop) (w : World) (l : Js.Bs) (s : Value) : Prop :=
  ∃ A c, s = .slice A l.length c ∧ l.length ≤ c ∧ c ≤ maxLen ∧ (l = [] ∨ ∃ b o, A = some ⟨b, o, none⟩ ∧ b < w.heap.size ∧ F b ∧ CellsAt w b o (bc l))
theorem SlB.move {F F' : Nat → Prop} {w w' : World} {l : Js.Bs} {s : Value} (h : SlB F w l s) (hF : ∀ k, F k → k < w.heap.size → F' k) (hs : w.heap.size ≤ w'.heap.size) (hm : ∀ k, F k → k < w.heap.size → w'.heap[k]? = w.heap[k]?) : SlB F' w' l s := by
  obtain ⟨A, c, h1, h2, h3, h4⟩ := h
  refine ⟨A, c, h1, h2, h3, ?_⟩
  rcases h4 with h4 | ⟨b, o, e, hb, hf, hc⟩
  · exact .inl h4
  · exact .inr ⟨b, o, e, by omega, hF b hf hb, hc.move (hm b hf hb)⟩
theorem SlB.gb {F : Nat → Prop} {w w' : World} {l : Js.Bs} {s : Value} {row : Option Nat} (h : SlB F w l s) (hg : w.grownBy w' row) (hne : ∀ k, F k → some k ≠ row) : SlB F w' l s :=
  h.move (fun _ hk _ => hk) hg.size (fun k hk hl => hg.block k hl (hne k hk))
theorem SlB.gbn {F : Nat → Prop} {w w' : World} {l : Js.Bs} {s : Value} (h : SlB F w l s) (hg : w.grownBy w' none) : SlB F w' l s := h.gb hg (fun _ _ => by simp)
theorem SlB.mono {F F' : Nat → Prop} {w : World} {l : Js.Bs} {s : Value} (h : SlB F w l s) (hF : ∀ k, F k → k < w.heap.size → F' k) : SlB F' w l s := h.move hF (Nat.le_refl _) (fun _ _ _ => rfl)
theorem SlB.nil (F : Nat → Prop) (w : World) : SlB F w [] (.slice none 0 0) := ⟨none, 0, rfl, Nat.le_refl _, Nat.zero_le _, .inl rfl⟩
theorem add_eq (b o j : Nat) : (⟨b, o, none⟩ : Addr).add j = ⟨b, o + j, none⟩ := by
  unfold Addr.add
  split
  · rename_i h; rw [h]; rfl
  · rfl
/-- As the kit's laws on append read it. -/
theorem SlB.reads {F : Nat → Prop} {w : World} {l : Js.Bs} {s : Value} (h : SlB F w l s) : ∃ A c, s = .slice A l.length c ∧ l.length ≤ c ∧ c ≤ maxLen ∧ Reads w w.heap.size 1 A l.length (bc l) := by
  obtain ⟨A, c, h1, h2, h3, h4⟩ := h
  refine ⟨A, c, h1, h2, h3, by rw [bc_len]; omega, fun hn => ?_⟩
  rcases h4 with h4 | ⟨b, o, e, hb, hf, hc⟩
  · subst h4; exact absurd hn (by simp)
  · exact ⟨⟨b, o, none⟩, e, hb, fun j u hu => by rw [add_eq]; exact hc j u hu⟩
/-- A row of bytes of the call's own. -/
def OwB (w : World) (base : Nat) (l : Js.Bs) (s : Value) : Prop := w.ownsRow base 5 1 s l.length (bc l)
theorem OwB.nil (w : World) (base : Nat) : OwB w base [] (.slice none 0 0) := ⟨by simp [bc, Lib.byteCells], .inl ⟨rfl, rfl⟩⟩
theorem OwB.form {w : World} {base : Nat} {l : Js.Bs} {s : Value} (h : OwB w base l s) : ∃ A c, s = .slice A l.length c ∧ l.length ≤ c ∧ c ≤ maxLen := by
  rcases h.2 with ⟨rfl, h0⟩ | ⟨g, cap, cur, rfl, _, _, h1, h2, _⟩
  · exact ⟨none, 0, by rw [h0], by omega, Nat.zero_le _⟩
  · exact ⟨_, cap, rfl, h1, h2⟩
theorem OwB.slb {w : World} {base lo : Nat} {l : Js.Bs} {s : Value} (h : OwB w base l s) (hl : lo ≤ base) : SlB (fun k => lo ≤ k) w l s := by
  rcases h.2 with ⟨rfl, h0⟩ | ⟨g, cap, cur, rfl, hb, hg, h1, h2, hc, ht⟩
  · have : l = [] := List.length_eq_zero_iff.1 h0
    subst this
    exact SlB.nil _ _
  · refine ⟨some ⟨g, 0, none⟩, cap, rfl, h1, h2, .inr ⟨g, 0, rfl, blk_lt' hg, Nat.le_trans hl hb, fun j u hj => ?_⟩⟩
    rw [Nat.zero_add, blk_c hg, ← Array.getElem?_toList]
    rw [← ht, List.getElem?_take] at hj
    split at hj
    · exact hj
    · cases hj
theorem OwB.reads {w : World} {base : Nat} {l : Js.Bs} {A : Option Addr} {n c : Nat} (h : OwB w base l (.slice A n c)) : Reads w w.heap.size 1 A l.length (bc l) := by
  obtain ⟨A', c', e, h1, h2, h3⟩ := (h.slb (Nat.le_refl _)).reads
  cases e
  exact h3
theorem OwB.kept {w w' : World} {base : Nat} {l : Js.Bs} {s : Value} {row : Option Nat} (h : OwB w base l s) (hg : w.grownBy w' row) (hne : row = none ∨ s.ownBlock ≠ row) : OwB w' base l s := by
  refine World.ownsRow.kept h hg ?_
  rcases hne with rfl | hne
  · cases hs : s.ownBlock with
    | none => exact .inl rfl
    | some k => exact .inr (by simp)
  · exact .inr hne
/-- A slice's bytes as a string. -/
theorem conv_str {F : Nat → Prop} {w : World} {l : Js.Bs} {A : Option Addr} {n c : Nat} (h : SlB F w l (.slice A n c)) : (convert 22 9 (.slice A n c)).run Tryz.prog w = .ok (.string (ba l)) w := by
  obtain ⟨A', c', e, h2, h3, h4⟩ := h
  cases e
  rcases h4 with rfl | ⟨b, o, rfl, hb, hf, hc⟩
  · cases A with
    | none =>
      rw [run_convert_bytes_string w 22 9 5 _ _ _ Tryz.underlying22 Tryz.underlying5 Tryz.underlying9]
      rfl
    | some a => exact run_convert_bytes_back w 22 9 5 a c [] Tryz.underlying22 Tryz.underlying5 Tryz.underlying9 (fun j hj => absurd hj (by simp))
  · exact run_convert_bytes_back w 22 9 5 _ c l Tryz.underlying22 Tryz.underlying5 Tryz.underlying9 (fun j hj => by rw [add_eq]; exact hc j _ (bc_get l j hj))
theorem info5 : (Tryz.prog.info? 5).map (fun i => (i.zero, i.size, i.bytes)) = some (some (.int .u8 0), 1, 1) := by kernel_rfl
end Go.Proofs.YtocjlbpehfpdoaaGreatDoor

set_option linter.unusedVariables false
set_option linter.unusedSimpArgs false
namespace Go.Proofs.YtocjlbpehfpdoaaGreatDoor
open Go

section
variable {P : Program} {ops : Array Oper} {Q : Exit → Act → World → Prop} {md : Region.Mode} {S : World → Prop} {n : Nat}

/-- Whatever order is picked from here on, and S holds behind each of the first n operations. -/
def wpAnyT (P : Program) (md : Region.Mode) (ops : Array Oper) (Q : Exit → Act → World → Prop) (S : World → Prop) (n : Nat) : Nat → Array Bool → Act → World → Prop
  | 0, listed, a, w => Region.ready md ops listed = [] ∧ Q .normal a w
  | fuel + 1, listed, a, w =>
    (Region.ready md ops listed = [] → Q .normal a w) ∧
    ∀ i ∈ Region.ready md ops listed, wpOp P ops Q i (fun a' w' => (i < n → S w') ∧ wpAnyT P md ops Q S n fuel (listed.setIfInBounds i true) a' w') a w

theorem wpAny_of_T : ∀ (fuel : Nat) (listed : Array Bool) (a : Act) (w : World), wpAnyT P md ops Q S n fuel listed a w → wpAny P md ops Q fuel listed a w
  | 0, _, _, _, h => h
  | fuel + 1, _, _, _, h => ⟨h.1, fun i hi => wpOp_mono (fun a' w' h' => wpAny_of_T fuel _ a' w' h'.2) (h.2 i hi)⟩

theorem wpAnyT_first {i : Nat} {oi : Oper} {v : Value} (hi : ops[i]? = some oi) (hsel : ∀ (j : Nat) (o : Oper) cs b, ops[j]? = some o → o.op ≠ .select cs b)
    (hs : Region.sinkB md ops n = true) (hc : Region.chainB md ops n = true) (hn : n < ops.size) (hin : i < n)
    (hQ : ∀ c a w, Q (.panic c) (a.put oi.dst v) w → Q (.panic c) a w) :
    ∀ (fuel : Nat) (listed : Array Bool) (a : Act) (w : World), HeadInv md ops n listed →
      (∀ j oj, ops[j]? = some oj → j ≠ i → listed.getD j true = false → (∀ e ∈ oj.after, Region.binds md e = true → e.on ≠ i) → oi.apart ops oj = true) →
      i ∈ Region.ready md ops listed → YieldsIf P ops S oi v a → S w →
      wpAnyT P md ops Q S n fuel (listed.setIfInBounds i true) (a.put oi.dst v) w → wpAnyT P md ops Q S n (fuel + 1) listed a w := by
  intro fuel
  induction fuel with
  | zero =>
    intro listed a w inv _ hr hy hS H
    refine ⟨fun h => (by rw [h] at hr; cases hr), fun j hj => ?_⟩
    by_cases hji : j = i
    · subst hji; exact hy.wpOp hi hS ⟨fun _ => hS, H⟩
    · have := ready_mono hj hji
      rw [H.1] at this
      cases this
  | succ fuel ih =>
    intro listed a w inv hfree hr hy hS H
    have hun := (mem_ready.1 hr).1
    refine ⟨fun h => (by rw [h] at hr; cases hr), fun j hj => ?_⟩
    have hjn : j < n := by
      rcases Nat.lt_or_ge j n with h | h
      · exact h
      · exact absurd hj (tail_waits hs hc hn inv _ i rfl hin hun j h)
    by_cases hji : j = i
    · subst hji; exact hy.wpOp hi hS ⟨fun _ => hS, H⟩
    · have h1 := H.2 j (ready_mono hj hji)
      obtain ⟨hjun, oj, hoj, hall⟩ := mem_ready.1 hj
      have hnot : ∀ e ∈ oj.after, Region.binds md e = true → e.on ≠ i := fun e he hb heq => by
        have h1 := hall e he hb
        rw [heq, getD_both hun] at h1
        cases h1
      have h2 := wpOp_putIf hoj (hfree j oj hoj hji hjun hnot) (fun cs b => hsel i oi cs b hi) (fun cs b => hsel j oj cs b hoj) hQ hy h1
      have hfree' : ∀ k ok, ops[k]? = some ok → k ≠ i → (listed.setIfInBounds j true).getD k true = false →
          (∀ e ∈ ok.after, Region.binds md e = true → e.on ≠ i) → oi.apart ops ok = true := fun k ok hk hki hun hno => by
        refine hfree k ok hk hki ?_ hno
        by_cases hjk : j = k
        · subst hjk; exact hjun
        · rw [getD_set_ne true hjk] at hun; exact hun
      refine wpOp_mono (fun a' w' h3 => ⟨h3.2.1, ih (listed.setIfInBounds j true) a' w' (inv.set hj hjn) hfree' (ready_mono hr (Ne.symm hji)) h3.1 (h3.2.1 hjn) ?_⟩) h2
      rw [Array.setIfInBounds_comm _ _ hji]
      exact h3.2.2

/-- That a row of marks is one of the walk's: what is marked waited for marked ones alone, and none of the tail is. -/
def headInvB (md : Region.Mode) (ops : Array Oper) (n : Nat) (listed : Array Bool) : Bool :=
  listed.size == ops.size && (List.range ops.size).all (fun j => !listed.getD j false || ((ops[j]?).map (fun o => o.after.all fun e => !Region.binds md e || listed.getD e.on false)).getD true) &&
    (List.range ops.size).all (fun t => decide (t < n) || !listed.getD t true)
theorem headInvB_spec {listed : Array Bool} (h : headInvB md ops n listed = true) : HeadInv md ops n listed := by
  simp only [headInvB, Bool.and_eq_true, beq_iff_eq] at h
  obtain ⟨⟨h1, h2⟩, h3⟩ := h
  refine ⟨h1, fun j oj hj hl e he hb => ?_, fun t ht ht' => ?_⟩
  · have hjs : j < ops.size := (Array.getElem?_eq_some_iff.1 hj).1
    have h4 := List.all_eq_true.1 h2 j (List.mem_range.2 hjs)
    simp only [hl, hj, Option.map_some, Option.getD_some, Bool.not_true, Bool.false_or] at h4
    have h5 := Array.all_eq_true'.1 h4 e he
    simpa [hb] using h5
  · have h4 := List.all_eq_true.1 h3 t (List.mem_range.2 ht')
    have h5 : ¬ t < n := by omega
    simpa [h5] using h4

def takeB (md : Region.Mode) (ops : Array Oper) (n : Nat) (listed : Array Bool) (i : Nat) : Bool :=
  Region.noSelect ops && Region.free md ops listed i && (Region.ready md ops listed).contains i && decide (i < n) && decide (n < ops.size) && headInvB md ops n listed && Region.sinkB md ops n && Region.chainB md ops n
/-- Number i first. -/
theorem wpAnyT_take {i : Nat} {oi : Oper} {v : Value} {fuel : Nat} {listed : Array Bool} {a : Act} {w : World} (hi : ops[i]? = some oi) (hB : takeB md ops n listed i = true)
    (hQ : ∀ c a w, Q (.panic c) (a.put oi.dst v) w → Q (.panic c) a w) (hy : YieldsIf P ops S oi v a) (hS : S w)
    (h : wpAnyT P md ops Q S n fuel (listed.setIfInBounds i true) (a.put oi.dst v) w) : wpAnyT P md ops Q S n (fuel + 1) listed a w := by
  simp only [takeB, Bool.and_eq_true, decide_eq_true_eq] at hB
  obtain ⟨⟨⟨⟨⟨⟨⟨b1, b2⟩, b3⟩, b4⟩, b5⟩, b6⟩, b7⟩, b8⟩ := hB
  exact wpAnyT_first hi (Region.noSelect_spec b1) b7 b8 b5 b4 hQ fuel listed a w (headInvB_spec b6) (Region.free_spec hi b2) (by simpa using b3) hy hS h

def AllReadyT (P : Program) (md : Region.Mode) (ops : Array Oper) (Q : Exit → Act → World → Prop) (S : World → Prop) (n : Nat) (fuel : Nat) (listed : Array Bool) (a : Act) (w : World) (rs : List Nat) : Prop :=
  ∀ i ∈ rs, wpOp P ops Q i (fun a' w' => (i < n → S w') ∧ wpAnyT P md ops Q S n fuel (listed.setIfInBounds i true) a' w') a w
theorem AllReadyT.nil {fuel : Nat} {listed : Array Bool} {a : Act} {w : World} : AllReadyT P md ops Q S n fuel listed a w [] := fun _ h => by cases h
theorem AllReadyT.cons {fuel : Nat} {listed : Array Bool} {a : Act} {w : World} {i : Nat} {o : Oper} {rs : List Nat} (ho : ops[i]? = some o)
    (h : ∀ K' : Act → World → Prop, Shut (∀ a w, (i < n → S w) → ((i < n → S w) → wpAnyT P md ops Q S n fuel (listed.setIfInBounds i true) a w) → K' a w) → if Region.wanted o (yielded ops a.tmps) = true then Oper.wp P o a w K' Q else K' (a.put o.dst undef) w)
    (hs : AllReadyT P md ops Q S n fuel listed a w rs) : AllReadyT P md ops Q S n fuel listed a w (i :: rs) := fun j hj => by
  rcases List.mem_cons.1 hj with rfl | hj
  · exact wpOp_step ho (fun K' hK => h K' (fun a w hS hW => hK a w ⟨hS, hW hS⟩))
  · exact hs j hj
theorem wpAnyT_ready {rs : List Nat} {fuel : Nat} {listed : Array Bool} {a : Act} {w : World} (hr : Region.ready md ops listed = rs) (hne : rs ≠ [])
    (h : AllReadyT P md ops Q S n fuel listed a w rs) : wpAnyT P md ops Q S n (fuel + 1) listed a w := ⟨fun h0 => absurd (hr ▸ h0) hne, hr ▸ h⟩
theorem wpAnyT_done {listed : Array Bool} {a : Act} {w : World} (hr : Region.ready md ops listed = []) (h : Q .normal a w) :
    ∀ fuel, wpAnyT P md ops Q S n fuel listed a w
  | 0 => ⟨hr, h⟩
  | _ + 1 => ⟨fun _ => h, by rw [hr]; simp⟩
theorem wp_region_T {id : Nat} {a : Act} {w : World} (n : Nat) (S : World → Prop) (hm : P.follows .mixedOrders = true) (hS : S w.drew)
    (h : wpAnyT P .any ops Q S n ops.size (Array.replicate ops.size false) a w.drew) : (Code.region id ops true).wp P Q a w :=
  wp_region_any hm (wpAny_of_T _ _ _ _ h)
/-- The tail: the operations from number k on, one behind the other. -/
theorem wpAnyT_tail (l : List Oper) (k : Nat) {listed : Array Bool} {a : Act} {w : World} (hl : ∀ j, l[j]? = ops[k + j]?) (hk : n ≤ k)
    (hB : Region.seqB md ops l.length k listed = true) (h : wpList P ops Q l a w) : wpAnyT P md ops Q S n l.length listed a w := by
  induction l generalizing k listed a w with
  | nil => exact ⟨by simpa [Region.seqB] using hB, h⟩
  | cons o l ih =>
    have h0 : ops[k]? = some o := by simpa using (hl 0).symm
    simp only [List.length_cons, Region.seqB, Bool.and_eq_true, decide_eq_true_eq] at hB
    refine ⟨fun h1 => (by rw [hB.1] at h1; cases h1), fun i hi => ?_⟩
    rw [hB.1] at hi
    have hik : i = k := by simpa using hi
    subst hik
    have hw : wpOp P ops Q i (wpList P ops Q l) a w := by unfold wpOp; simp only [h0]; exact h
    exact wpOp_mono (fun a' w' h' => ⟨fun h => by omega, ih (i + 1) (fun j => by have := hl (j + 1); simpa [Nat.add_assoc, Nat.add_comm 1 j] using this) (by omega) hB.2 h'⟩) hw
end
/-! ### the moves, over a region that is written out -/
/-- Number i of a list that is written out: it comes out written out. -/
def pick : List Oper → Nat → Option Oper
  | [], _ => none
  | o :: _, 0 => some o
  | _ :: l, i + 1 => pick l i
theorem pick_eq : ∀ (l : List Oper) (i : Nat), pick l i = l.toArray[i]?
  | [], i => by simp [pick]
  | o :: l, 0 => by simp [pick]
  | o :: l, i + 1 => by simpa [pick] using pick_eq l i
section
variable {P : Program} {l : List Oper} {Q : Exit → Act → World → Prop} {md : Region.Mode} {S : World → Prop} {n : Nat}
theorem T_take {i : Nat} {oi : Oper} {v : Value} {fuel : Nat} {listed : Array Bool} {a : Act} {w : World} (hi : pick l i = some oi) (hB : takeB md l.toArray n listed i = true)
    (hQ : ∀ c a w, Q (.panic c) (a.put oi.dst v) w → Q (.panic c) a w) (hy : YieldsIf P l.toArray S oi v a) (hS : S w)
    (h : wpAnyT P md l.toArray Q S n fuel (listed.setIfInBounds i true) (a.put oi.dst v) w) : wpAnyT P md l.toArray Q S n (fuel + 1) listed a w :=
  wpAnyT_take ((pick_eq l i).symm.trans hi) hB hQ hy hS h
theorem T_cons {fuel : Nat} {listed : Array Bool} {a : Act} {w : World} {i : Nat} {o : Oper} {rs : List Nat} (ho : pick l i = some o)
    (h : ∀ K' : Act → World → Prop, Shut (∀ a w, (i < n → S w) → ((i < n → S w) → wpAnyT P md l.toArray Q S n fuel (listed.setIfInBounds i true) a w) → K' a w) → if Region.wanted o (yielded l.toArray a.tmps) = true then Oper.wp P o a w K' Q else K' (a.put o.dst undef) w)
    (hs : AllReadyT P md l.toArray Q S n fuel listed a w rs) : AllReadyT P md l.toArray Q S n fuel listed a w (i :: rs) := AllReadyT.cons ((pick_eq l i).symm.trans ho) h hs
/-- A list from number k on, written out. -/
def rest : List Oper → Nat → Option (List Oper)
  | l, 0 => some l
  | _ :: l, k + 1 => rest l k
  | [], _ + 1 => none
theorem rest_eq : ∀ (l l' : List Oper) (k : Nat), rest l k = some l' → l' = l.drop k
  | l, l', 0, h => by simpa [rest] using h.symm
  | _ :: l, l', k + 1, h => by simpa using rest_eq l l' k h
  | [], l', k + 1, h => by cases h
theorem T_tail (k : Nat) {l' : List Oper} {fuel : Nat} {listed : Array Bool} {a : Act} {w : World} (hl : rest l k = some l') (hf : fuel = l'.length) (hk : n ≤ k)
    (hB : Region.seqB md l.toArray l'.length k listed = true) (h : wpList P l.toArray Q l' a w) : wpAnyT P md l.toArray Q S n fuel listed a w := by
  subst hf
  have := rest_eq l l' k hl
  subst this
  exact wpAnyT_tail (l.drop k) k (fun j => by simp [List.getElem?_drop]) hk hB h
end
end Go.Proofs.YtocjlbpehfpdoaaGreatDoor

set_option linter.unusedVariables false
set_option linter.unusedSimpArgs false
namespace Go.Proofs.YtocjlbpehfpdoaaGreatDoor
open Go.RowKit

set_option maxHeartbeats 400000 in
theorem json_fail (r : Nat) (st : Js.St) (e : Int) (w : World) (h : RSt w r st) :
    Calls Tryz.prog 45 #[.pointer (some ⟨r, 0, none⟩), .int .i64 e] w (RDid w r (Js.failS st e) (.tuple #[])) := by
  obtain ⟨s, HS, HB, hl, c0, c1, c2, f0, f1, f2⟩ := h.op
  clear h
  by_cases h0 : st.e = 0
  · rw [h0] at c2
    have H3 := Lib.hid (show Js.failS st e = ⟨st.s, st.o, e⟩ by simp [Js.failS, h0])
    clear h0
    go_enter Tryz.func45, Tryz.ntmps45
    go_wp2
    go_end0
    rw [H3.out]
    exact RDid.mk' rfl s HS.out (blk_set' HB.out 2 (.int .i64 e)) hl (gb_set (gb_refl _ _) (.inr rfl) _)
  · have h1 : (st.e == 0) = false := by simpa using h0
    have H3 := Lib.hid (show Js.failS st e = st by simp [Js.failS, h0])
    clear h0
    go_enter Tryz.func45, Tryz.ntmps45
    go_wp2
    go_end0
    rw [H3.out]
    exact RDid.mk' rfl s HS.out HB.out hl (gb_refl _ _)

theorem trim_len (l cs : Js.Bs) : (Lib.trimLeftS l cs).length ≤ l.length := by
  unfold Lib.trimLeftS
  exact (List.dropWhile_sublist _).length_le

set_option maxHeartbeats 400000 in
theorem json_skip (r : Nat) (st : Js.St) (w : World) (h : RSt w r st) :
    Calls Tryz.prog 44 #[.pointer (some ⟨r, 0, none⟩)] w (RDid w r (Js.skipS st) (.tuple #[])) := by
  obtain ⟨s, HS, HB, hl, c0, c1, c2, f0, f1, f2⟩ := h.op
  clear h c1 c2 f1 f2
  go_enter Tryz.func44, Tryz.ntmps44
  go_wp2_with fail
  refine (Tryz.strings_TrimLeft_set s ⟨#[32, 9, 10, 13]⟩ w (by decide) (ascii_of_all (by decide))).mono ?_
  rintro e w1 ⟨rfl, hw1⟩
  have hg := gb_below hw1
  have hb1 := gb_blk hg HB.out (by simp)
  have k0 : w1.cell? ⟨r, 0, none⟩ = some (.string s) := by rw [blk_c hb1]; rfl
  have kf := blk_f hb1 0
  have HB1 := Lib.hid hb1
  have HG := Lib.hid hg
  clear hb1 hg hw1
  go_wp2
  go_end0
  exact RDid.mk' rfl (ba (Lib.trimLeftS s.data.toList Js.blanks)) (by rw [ba_list, HS.out]; rfl) (blk_set' HB1.out 0 _) (by rw [sz_ba]; exact Nat.le_trans (trim_len _ _) (by rw [sz_of]; exact hl)) (gb_set (gb_any HG.out) (.inr rfl) _)

/-- Behind a call on the reader: it laid open again. -/
theorem RDid.op {w w' : World} {r : Nat} {st' : Js.St} {v : Value} {e : Ending} (h : RDid w r st' v e w') : e = .returned v ∧ RSt w' r st' ∧ w.grownBy w' (some r) := h

theorem took_yes {t : Js.Bs} {st : Js.St} (hp : t.isPrefixOf (Js.skipS st).s = true) (he : st.e = 0) : Js.tookS t st = (true, ⟨(Js.skipS st).s.drop t.length, st.o, 0⟩) := by
  have : (Js.skipS st).e = 0 := he
  simp only [Js.tookS, hp, this]
  simp [Js.skipS]
theorem took_no {t : Js.Bs} {st : Js.St} (h : t.isPrefixOf (Js.skipS st).s = false ∨ st.e ≠ 0) : Js.tookS t st = (false, Js.skipS st) := by
  rcases h with h | h
  · simp [Js.tookS, h]
  · have : ((Js.skipS st).e == 0) = false := by simpa [Js.skipS] using h
    simp [Js.tookS, this]

set_option maxHeartbeats 800000 in
theorem json_took (r : Nat) (st : Js.St) (t : ByteArray) (w : World) (h : RSt w r st) :
    Calls Tryz.prog 222 #[.pointer (some ⟨r, 0, none⟩), .string t] w (RDid w r (Js.tookS t.data.toList st).2 (.bool (Js.tookS t.data.toList st).1)) := by
  cases hp : t.data.toList.isPrefixOf (Js.skipS st).s
  · have H3 := Lib.hid (took_no (t := t.data.toList) (.inl hp))
    have HP := Lib.hid hp
    clear hp
    rw [H3.out]
    go_enter Tryz.func222, Tryz.ntmps222
    go_wp2_with fail
    refine (json_skip r st w h).mono ?_
    rintro e w1 ⟨rfl, h1, g1⟩
    have HG := Lib.hid g1
    obtain ⟨s, HS, HB, hl, c0, c1, c2, f0, f1, f2⟩ := h1.op
    clear h h1 g1 c1 f1 f2
    go_wp2_with fail
    refine (Tryz.strings_CutPrefix s t w1).mono ?_
    rintro e w2 ⟨rfl, rfl⟩
    rw [show Lib.hasPrefix s.data.toList t.data.toList = false by rw [HS.out]; exact HP.out]
    go_wp2
    go_ret
    exact RDid.mk' rfl s HS.out HB.out hl HG.out
  · by_cases he : st.e = 0
    · have H3 := Lib.hid (took_yes hp he)
      rw [H3.out]
      have HE := Lib.hid he
      have HP := Lib.hid hp
      clear he hp
      go_enter Tryz.func222, Tryz.ntmps222
      go_wp2_with fail
      refine (json_skip r st w h).mono ?_
      rintro e w1 ⟨rfl, h1, g1⟩
      have HG := Lib.hid g1
      obtain ⟨s, HS, HB, hl, c0, c1, c2, f0, f1, f2⟩ := h1.op
      rw [show (Js.skipS st).e = 0 from HE.out] at c2
      clear h h1 g1 c1 f1 f2
      go_wp2_with fail
      refine (Tryz.strings_CutPrefix s t w1).mono ?_
      rintro e w2 ⟨rfl, rfl⟩
      rw [show Lib.hasPrefix s.data.toList t.data.toList = true by rw [HS.out]; exact HP.out]
      go_wp2
      go_ret
      have hd : Lib.trimPrefix s.data.toList t.data.toList = (Js.skipS st).s.drop t.data.toList.length := by
        rw [HS.out, Lib.trimPrefix, show Lib.hasPrefix (Js.skipS st).s t.data.toList = true from HP.out]; rfl
      refine RDid.mk' rfl (ba (Lib.trimPrefix s.data.toList t.data.toList)) ?_ ?_ ?_ (gb_set HG.out (.inr rfl) _)
      · rw [ba_list, hd]
      · exact blk_eq (blk_set' HB.out 0 _) (by simp [ba, Js.skipS, HE.out])
      · rw [sz_ba, hd, List.length_drop, ← HS.out, sz_of]; omega
    · have H3 := Lib.hid (took_no (t := t.data.toList) (.inr he))
      have he' : ((Js.skipS st).e == 0) = false := by simpa [Js.skipS] using he
      have HP := Lib.hid hp
      clear hp he
      rw [H3.out]
      go_enter Tryz.func222, Tryz.ntmps222
      go_wp2_with fail
      refine (json_skip r st w h).mono ?_
      rintro e w1 ⟨rfl, h1, g1⟩
      have HG := Lib.hid g1
      obtain ⟨s, HS, HB, hl, c0, c1, c2, f0, f1, f2⟩ := h1.op
      clear h h1 g1 c1 f1 f2
      go_wp2_with fail
      refine (Tryz.strings_CutPrefix s t w1).mono ?_
      rintro e w2 ⟨rfl, rfl⟩
      rw [show Lib.hasPrefix s.data.toList t.data.toList = true by rw [HS.out]; exact HP.out]
      go_wp2
      go_ret
      exact RDid.mk' rfl s HS.out HB.out hl HG.out

set_option maxHeartbeats 800000 in
theorem json_need (r : Nat) (st : Js.St) (t : ByteArray) (w : World) (h : RSt w r st) :
    Calls Tryz.prog 171 #[.pointer (some ⟨r, 0, none⟩), .string t] w (RDid w r (Js.needS t.data.toList st) (.tuple #[])) := by
  have ht := json_took r st t w h
  cases hb : (Js.tookS t.data.toList st).1
  · rw [hb] at ht
    have H3 := Lib.hid (show Js.needS t.data.toList st = Js.failS (Js.tookS t.data.toList st).2 11 by simp [Js.needS, hb])
    rw [H3.out]
    clear hb h
    have HT := Lib.hid ht
    clear ht
    go_enter Tryz.func171, Tryz.ntmps171
    go_wp2_with fail
    refine (HT.out).mono ?_
    rintro e w1 ⟨rfl, h1, g1⟩
    have HG := Lib.hid g1
    clear g1
    go_wp2_with fail
    refine (json_fail r _ 11 w1 h1).mono ?_
    rintro e w2 ⟨rfl, h2, g2⟩
    have HG2 := Lib.hid g2
    clear g2
    go_wp2
    go_end0
    exact ⟨rfl, h2, gb_trans HG.out HG2.out⟩
  · rw [hb] at ht
    have H3 := Lib.hid (show Js.needS t.data.toList st = (Js.tookS t.data.toList st).2 by simp [Js.needS, hb])
    rw [H3.out]
    clear hb h
    have HT := Lib.hid ht
    clear ht
    go_enter Tryz.func171, Tryz.ntmps171
    go_wp2_with fail
    refine (HT.out).mono ?_
    rintro e w1 ⟨rfl, h1, g1⟩
    have HG := Lib.hid g1
    clear g1
    go_wp2
    go_end0
    exact ⟨rfl, h1, HG.out⟩
end Go.Proofs.YtocjlbpehfpdoaaGreatDoor

set_option linter.unusedVariables false
set_option linter.unusedSimpArgs false
namespace Go.Proofs.YtocjlbpehfpdoaaGreatDoor
open Go.RowKit

set_option maxHeartbeats 800000 in
theorem json_null (r : Nat) (st : Js.St) (w : World) (h : RSt w r st) :
    Calls Tryz.prog 105 #[.pointer (some ⟨r, 0, none⟩)] w (VDid w r Js.V.zero (Js.needS [110, 117, 108, 108] st)) := by
  have hr := h.lt
  have H := Lib.hid (h.gb (World.grownBy_alloc w (.cells #[.int .i64 0, .bool false, .bool false, .string ⟨#[]⟩, .int .i64 0, .string ⟨#[]⟩, .slice none 0 0, .slice none 0 0] 29 (0, 0)) none) (by simp))
  clear h
  go_enter Tryz.func105, Tryz.ntmps105
  go_wp2_with fail
  refine (json_need r st ⟨#[110, 117, 108, 108]⟩ _ H.out).mono ?_
  rintro e w1 ⟨rfl, h1, g1⟩
  have hb := gb_blk g1 (blk_new w _) (by simp; omega)
  obtain ⟨⟨c0, c1, c2, c3, c4, c5, c6, c7⟩, f0, f1, f2, f3, f4, f5, f6, f7⟩ := blk8 hb
  have HG := Lib.hid g1
  clear g1 hb H
  go_wp2
  refine bodyPost_ret (v := .agg #[.int .i64 0, .bool false, .bool false, .string ⟨#[]⟩, .int .i64 0, .string ⟨#[]⟩, .slice none 0 0, .slice none 0 0]) (by simp [results, Tryz.results105, go_sem, c0, c1, c2, c3, c4, c5, c6, c7]) rfl ?_
  refine VDid.done (b0 := w.heap.size) (si := .slice none 0 0) (sn := .slice none 0 0) rfl h1 (World.grownBy_alloc w _ none) HG.out ?_ (Nat.le_refl _) hr (RdV.bare _ _ _ _ _ _)
  iterate 8 refine gb_set ?_ (.inr rfl) _
  exact gb_refl _ _
end Go.Proofs.YtocjlbpehfpdoaaGreatDoor

set_option linter.unusedVariables false
set_option linter.unusedSimpArgs false
namespace Go.Proofs.YtocjlbpehfpdoaaGreatDoor
open Go.RowKit Go.Lib

/-- What json's reader asks of the library's variables: package utf8's tables, unicode's cases. -/
structure Tabs (w : World) : Prop where
  u8 : Lib.Utf8Tabs 2 3 w
  cr : CaseVar 7 caseA w
/-- The tables lie below B. -/
def Tb (B : Nat) (w : World) : Prop := ∃ w0 : World, w0.heap.size = B ∧ Tabs w0 ∧ Below B w0 w
theorem Tabs.below {w w' : World} (h : Tabs w) (hb : Below w.heap.size w w') : Tabs w' := ⟨Utf8Tabs_below h.u8 hb, CaseVar_below h.cr hb⟩
theorem Tb.tabs {B : Nat} {w : World} (h : Tb B w) : Tabs w := by
  obtain ⟨w0, rfl, ht, hb⟩ := h
  exact ht.below hb
theorem Tb.le {B : Nat} {w : World} (h : Tb B w) : B ≤ w.heap.size := by
  obtain ⟨w0, rfl, ht, hb⟩ := h
  exact hb.size
theorem Tb.gb {B : Nat} {w w' : World} {row : Option Nat} (h : Tb B w) (hg : w.grownBy w' row) (hr : ∀ k, row = some k → B ≤ k) : Tb B w' := by
  obtain ⟨w0, hB, ht, hb⟩ := h
  exact ⟨w0, hB, ht, hb.grown hg (by have := hb.size; omega) hr⟩
theorem Tb.gbn {B : Nat} {w w' : World} (h : Tb B w) (hg : w.grownBy w' none) : Tb B w' := h.gb hg (fun _ e => by cases e)
theorem Tb.below {B : Nat} {w w' : World} (h : Tb B w) (hb' : Below B w w') : Tb B w' := by
  obtain ⟨w0, hB, ht, hb⟩ := h
  exact ⟨w0, hB, ht, hb.trans hb'⟩
theorem Tb.of {w : World} (h : Tabs w) : Tb w.heap.size w := ⟨w, rfl, h, Below.refl _ _⟩

theorem decode_drop (s : ByteArray) (pos : Nat) (h : pos < s.size) : Utf8.decode s pos = Lib.decodeL (s.data.toList.drop pos) := by
  unfold Lib.decodeL
  have hg : ∀ k, (⟨(s.data.toList.drop pos).toArray⟩ : ByteArray).get! (0 + k) = s.get! (pos + k) := by
    intro k
    simp only [ByteArray.get!, Nat.zero_add]
    simp [Array.getElem!_eq_getD, Array.getD_eq_getD_getElem?]
  have hs : ∀ k, decide (0 + k < (⟨(s.data.toList.drop pos).toArray⟩ : ByteArray).size) = decide (pos + k < s.size) := by
    intro k
    have : (⟨(s.data.toList.drop pos).toArray⟩ : ByteArray).size = s.size - pos := by
      show (s.data.toList.drop pos).toArray.size = _
      rw [List.size_toArray, List.length_drop, sz_of]
    rw [this, decide_eq_decide]
    omega
  unfold Utf8.decode
  simp only [hg, hs]

theorem gb_iter {a w : World} {row : Option Nat} (h : a.grownBy w row) {k : Nat} (hk : a.heap.size ≤ k) (s : ByteArray) (pos : Nat) : a.grownBy (w.iterAt k s pos) row :=
  ⟨h.os, h.tape, h.output, by rw [Lib.iterAt_size]; exact h.size, fun i hi hr => (Lib.iterAt_other w k i s pos (by omega)).trans (h.block i hi hr)⟩
end Go.Proofs.YtocjlbpehfpdoaaGreatDoor
