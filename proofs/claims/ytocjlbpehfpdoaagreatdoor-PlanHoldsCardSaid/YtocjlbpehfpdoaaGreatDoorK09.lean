/- Plain law of package plan: a value passes a test just if its bytes lie within the test's bounds. -/
import Derived.Test.YtocjlbpehfpdoaaGreatDoorK02
set_option linter.unusedVariables false
set_option linter.unusedSimpArgs false
namespace Go.Proofs.YtocjlbpehfpdoaaGreatDoor
namespace Js

/-! ### the mirror of packages order and plan -/
def kind2 (k : Int) : UInt8 × UInt8 := if k = 0 then (1, 2) else if k = 1 then (2, 4) else if k = 2 then (4, 5) else if k = 3 then (5, 6) else (6, 7)
def high (n : Nm) : Nat := (n.dig.length + n.exp + 2000).toNat
def onumPos (n : Nm) : Bs := UInt8.ofNat (high n / 256) :: UInt8.ofNat (high n) :: (n.dig.map (fun c => c - 48 + 1) ++ [0])
def onumber (n : Nm) : Bs :=
  if n.dig = [] then [1] else if n.down then 0 :: (onumPos n).map (fun c => ~~~c) else 2 :: onumPos n
def otextB (c : UInt8) : Bs := if c = 0 then [0, 255] else [c]
def otext (s : Bs) : Bs := s.flatMap otextB ++ [0, 0]
def okey (v : V) : Bs × Int :=
  if v.kind = 0 then ([1], 0) else if v.kind = 1 then ([if v.is then 3 else 2], 0) else if v.kind = 2 then (4 :: onumber v.num, 0)
  else if v.kind = 3 then (5 :: otext v.text, 0) else ([], 36)
def behindR : Bs → Bs
  | [] => []
  | c :: r => if c = 255 then behindR r else (c + 1) :: r
def behind (b : Bs) : Bs := (behindR b.reverse).reverse
def bounds (op : Int) (v : V) : Bs × Bs × Bool :=
  let k := okey v
  if k.2 ≠ 0 then ([], [], false)
  else if op = 0 then (k.1, behind k.1, true)
  else if op = 1 then ([(kind2 v.kind).1], k.1, true)
  else if op = 2 then ([(kind2 v.kind).1], behind k.1, true)
  else if op = 3 then (behind k.1, [(kind2 v.kind).2], true)
  else if op = 4 then (k.1, [(kind2 v.kind).2], true)
  else ([], [], false)
/-- Whether a value passes a test. -/
def passes (op : Int) (x y : V) : Bool :=
  let c := cmpV x y
  if op = 5 then true else if x.kind ≠ y.kind then false else if op = 0 then decide (c = 0) else if op = 1 then decide (c < 0) else if op = 2 then decide (c ≤ 0)
  else if op = 3 then decide (c > 0) else decide (c ≥ 0)

/-! ### below, by a byte that both have -/
def Lt (a b : Bs) : Prop := ∃ p u v s t, a = p ++ u :: s ∧ b = p ++ v :: t ∧ u < v
theorem Lt.head {u v : UInt8} (h : u < v) (s t : Bs) : Lt (u :: s) (v :: t) := ⟨[], u, v, s, t, rfl, rfl, h⟩
theorem Lt.cons {a b : Bs} (c : UInt8) (h : Lt a b) : Lt (c :: a) (c :: b) := by
  obtain ⟨p, u, v, s, t, rfl, rfl, h⟩ := h
  exact ⟨c :: p, u, v, s, t, rfl, rfl, h⟩
theorem Lt.pre {a b : Bs} (p : Bs) (h : Lt a b) : Lt (p ++ a) (p ++ b) := by
  induction p with
  | nil => exact h
  | cons c p ih => exact ih.cons c
theorem Lt.map {a b : Bs} (f : UInt8 → UInt8) (hf : ∀ u v, u < v → f v < f u) (h : Lt a b) : Lt (b.map f) (a.map f) := by
  obtain ⟨p, u, v, s, t, rfl, rfl, h⟩ := h
  exact ⟨p.map f, f v, f u, t.map f, s.map f, by simp, by simp, hf _ _ h⟩
theorem less_irrefl : ∀ a : Bs, Op.bytesLess a a = false
  | [] => rfl
  | c :: a => by simp [Op.bytesLess, less_irrefl a, UInt8.lt_irrefl]
theorem less_ext : ∀ (a m : Bs), Op.bytesLess (a ++ m) a = false
  | [], m => by cases m <;> rfl
  | c :: a, m => by simp [Op.bytesLess, less_ext a m, UInt8.lt_irrefl]
theorem lt_asymm8 {u v : UInt8} (h : u < v) : ¬ v < u := by
  rw [UInt8.lt_iff_toNat_lt] at *
  omega
theorem lt_ne8 {u v : UInt8} (h : u < v) : (u == v) = false ∧ (v == u) = false := by
  rw [UInt8.lt_iff_toNat_lt] at h
  constructor <;> (rw [beq_eq_false_iff_ne]; intro e; subst e; omega)
theorem Lt.less {a b : Bs} (h : Lt a b) (m n : Bs) : Op.bytesLess (a ++ m) (b ++ n) = true ∧ Op.bytesLess (b ++ n) (a ++ m) = false := by
  obtain ⟨p, u, v, s, t, rfl, rfl, h⟩ := h
  induction p with
  | nil => simp [Op.bytesLess, h, lt_asymm8 h, lt_ne8 h]
  | cons c p ih => simpa [Op.bytesLess, UInt8.lt_irrefl] using ih
theorem Lt.less1 {a b : Bs} (h : Lt a b) (m : Bs) : Op.bytesLess (a ++ m) b = true ∧ Op.bytesLess b (a ++ m) = false := by
  have := h.less m []
  simpa using this
theorem Lt.less2 {a b : Bs} (h : Lt a b) (m : Bs) : Op.bytesLess a (b ++ m) = true ∧ Op.bytesLess (b ++ m) a = false := by
  have := h.less [] m
  simpa using this

/-! ### what is behind all that begin so -/
theorem behindR_spec : ∀ r : Bs, (∃ c ∈ r, c ≠ 255) → ∃ (k : Nat) (c : UInt8) (t : Bs), r = List.replicate k 255 ++ c :: t ∧ c ≠ 255 ∧ behindR r = (c + 1) :: t
  | [], h => by obtain ⟨c, hc, _⟩ := h; cases hc
  | c :: r, h => by
    by_cases hc : c = 255
    · subst hc
      obtain ⟨d, hd, hne⟩ := h
      have : ∃ c ∈ r, c ≠ 255 := by
        rcases List.mem_cons.1 hd with rfl | hd
        · exact absurd rfl hne
        · exact ⟨d, hd, hne⟩
      obtain ⟨k, e, t, h1, h2, h3⟩ := behindR_spec r this
      exact ⟨k + 1, e, t, by rw [h1]; rfl, h2, by simpa [behindR] using h3⟩
    · exact ⟨0, c, r, rfl, hc, by simp [behindR, hc]⟩
theorem behind_spec (b : Bs) (h : ∃ c ∈ b, c ≠ 255) : ∃ (t : Bs) (c : UInt8) (k : Nat), b = t ++ c :: List.replicate k 255 ∧ c ≠ 255 ∧ behind b = t ++ [c + 1] := by
  obtain ⟨k, c, t, h1, h2, h3⟩ := behindR_spec b.reverse (by obtain ⟨c, hc, hn⟩ := h; exact ⟨c, List.mem_reverse.2 hc, hn⟩)
  refine ⟨t.reverse, c, k, ?_, h2, ?_⟩
  · rw [← List.reverse_reverse b, h1]; simp
  · unfold behind; rw [h3]; simp
theorem succ_lt {c : UInt8} (h : c ≠ 255) : c < c + 1 := by
  have h1 : c.toNat ≠ 255 := fun e => h (by rw [← UInt8.toNat_inj]; exact e)
  have h2 := c.toNat_lt
  rw [UInt8.lt_iff_toNat_lt, UInt8.toNat_add]
  have : (1 : UInt8).toNat = 1 := rfl
  rw [this]
  omega
/-- Whatever begins with the bytes is below what is behind them. -/
theorem behind_up (b m : Bs) (h : ∃ c ∈ b, c ≠ 255) : Op.bytesLess (b ++ m) (behind b) = true := by
  obtain ⟨t, c, k, h1, h2, h3⟩ := behind_spec b h
  rw [h3]
  exact (Lt.less1 (a := b) ⟨t, c, c + 1, _, [], h1, rfl, succ_lt h2⟩ m).1
theorem lt_succ_cases {v c : UInt8} (h : c < v) (hc : c ≠ 255) : v = c + 1 ∨ c + 1 < v := by
  have h1 : c.toNat ≠ 255 := fun e => hc (by rw [← UInt8.toNat_inj]; exact e)
  have h2 := c.toNat_lt
  have h3 : (c + 1).toNat = c.toNat + 1 := by
    rw [UInt8.toNat_add]
    have : (1 : UInt8).toNat = 1 := rfl
    rw [this]; omega
  rw [UInt8.lt_iff_toNat_lt] at h
  by_cases e : v.toNat = c.toNat + 1
  · exact .inl (by rw [← UInt8.toNat_inj, h3, e])
  · exact .inr (by rw [UInt8.lt_iff_toNat_lt, h3]; omega)
theorem rep_lt {k : Nat} {p : Bs} {u v : UInt8} {s : Bs} (h : List.replicate k 255 = p ++ u :: s) (huv : u < v) : False := by
  have hu : u = 255 := by
    have : u ∈ List.replicate k (255 : UInt8) := by rw [h]; simp
    exact List.eq_of_mem_replicate this
  subst hu
  have := v.toNat_lt
  rw [UInt8.lt_iff_toNat_lt] at huv
  have e : (255 : UInt8).toNat = 255 := rfl
  omega
/-- What is above the bytes by a byte that both have is not below what is behind them. -/
theorem behind_down (b x m : Bs) (h : ∃ c ∈ b, c ≠ 255) (hx : Lt b x) : Op.bytesLess (x ++ m) (behind b) = false := by
  obtain ⟨t, c, k, h1, h2, h3⟩ := behind_spec b h
  obtain ⟨p, u, v, s, q, e1, rfl, huv⟩ := hx
  rw [h3]
  rw [h1] at e1
  rcases List.append_eq_append_iff.1 e1 with ⟨l, h4, h5⟩ | ⟨l, h4, h5⟩
  · -- t is a beginning of p
    cases l with
    | nil =>
      simp only [List.append_nil] at h4
      subst h4
      simp only [List.nil_append, List.cons.injEq] at h5
      obtain ⟨rfl, _⟩ := h5
      rcases lt_succ_cases huv h2 with h | h
      · subst h
        have := less_ext (p ++ [c + 1]) (q ++ m)
        simpa using this
      · have := (Lt.less2 (a := p ++ [c + 1]) (b := p ++ v :: q) ⟨p, c + 1, v, [], q, rfl, rfl, h⟩ m).2
        exact this
    | cons d l =>
      simp only [List.cons_append, List.cons.injEq] at h5
      obtain ⟨rfl, h5⟩ := h5
      exact (rep_lt h5 huv).elim
  · -- p is a true beginning of t
    cases l with
    | nil =>
      simp only [List.append_nil] at h4
      subst h4
      simp only [List.nil_append, List.cons.injEq] at h5
      obtain ⟨rfl, _⟩ := h5
      rcases lt_succ_cases huv h2 with h | h
      · subst h
        have := less_ext (t ++ [u + 1]) (q ++ m)
        simpa using this
      · have := (Lt.less2 (a := t ++ [u + 1]) (b := t ++ v :: q) ⟨t, u + 1, v, [], q, rfl, rfl, h⟩ m).2
        exact this
    | cons d l =>
      simp only [List.cons_append, List.cons.injEq] at h5
      obtain ⟨rfl, h5⟩ := h5
      subst h4
      have := (Lt.less2 (a := p ++ (u :: l ++ [c + 1])) (b := p ++ v :: q) ⟨p, u, v, l ++ [c + 1], q, by simp, rfl, huv⟩ m).2
      simpa using this

/-! ### texts -/
theorem cmpB_lt {u v : UInt8} (h : u < v) (a b : Bs) : cmpB (u :: a) (v :: b) = -1 := by simp [cmpB, Lib.compareBytes, h]
theorem cmpB_gt {u v : UInt8} (h : v < u) (a b : Bs) : cmpB (u :: a) (v :: b) = 1 := by simp [cmpB, Lib.compareBytes, h, lt_asymm8 h]
theorem cmpB_eq (u : UInt8) (a b : Bs) : cmpB (u :: a) (u :: b) = cmpB a b := by simp [cmpB, Lib.compareBytes, UInt8.lt_irrefl]
theorem tri8 (u v : UInt8) : u < v ∨ u = v ∨ v < u := by
  rw [UInt8.lt_iff_toNat_lt, UInt8.lt_iff_toNat_lt, ← UInt8.toNat_inj]
  omega
/-- How two keys stand by how two things do. -/
def Stand (c : Int) (a b : Bs) : Prop := (c = -1 ∧ Lt a b) ∨ (c = 0 ∧ a = b) ∨ (c = 1 ∧ Lt b a)
theorem Stand.cons {c : Int} {a b : Bs} (u : UInt8) (h : Stand c a b) : Stand c (u :: a) (u :: b) := by
  rcases h with ⟨h, k⟩ | ⟨h, k⟩ | ⟨h, k⟩
  · exact .inl ⟨h, k.cons u⟩
  · exact .inr (.inl ⟨h, by rw [k]⟩)
  · exact .inr (.inr ⟨h, k.cons u⟩)
theorem Stand.pre {c : Int} {a b : Bs} (p : Bs) (h : Stand c a b) : Stand c (p ++ a) (p ++ b) := by
  induction p with
  | nil => exact h
  | cons u p ih => exact ih.cons u
theorem otextB_lt {u v : UInt8} (h : u < v) (a b : Bs) : Lt (otextB u ++ a) (otextB v ++ b) := by
  have hv : v ≠ 0 := by
    rintro rfl
    rw [UInt8.lt_iff_toNat_lt] at h
    have : (0 : UInt8).toNat = 0 := rfl
    omega
  by_cases hu : u = 0
  · subst hu
    simp only [otextB, hv, if_true, if_false]
    exact Lt.head h _ _
  · simp only [otextB, hu, hv, if_false]
    exact Lt.head h _ _
theorem pos8 {c : UInt8} (h : c ≠ 0) : (0 : UInt8) < c := by
  rcases tri8 0 c with h1 | h1 | h1
  · exact h1
  · exact absurd h1.symm h
  · rw [UInt8.lt_iff_toNat_lt] at h1
    have : (0 : UInt8).toNat = 0 := rfl
    omega
theorem otext_nil_lt (c : UInt8) (r : Bs) : Lt ([0, 0] : Bs) (otextB c ++ r) := by
  by_cases hc : c = 0
  · subst hc
    exact (Lt.head (show (0 : UInt8) < 255 by decide) [] r).cons 0
  · simp only [otextB, hc, if_false]
    exact Lt.head (pos8 hc) _ _
theorem stand_text : ∀ (a b : Bs), Stand (cmpB a b) (otext a) (otext b)
  | [], [] => .inr (.inl ⟨rfl, rfl⟩)
  | [], v :: b => .inl ⟨rfl, by simpa [otext] using otext_nil_lt v (b.flatMap otextB ++ [0, 0])⟩
  | u :: a, [] => .inr (.inr ⟨rfl, by simpa [otext] using otext_nil_lt u (a.flatMap otextB ++ [0, 0])⟩)
  | u :: a, v :: b => by
    have e : ∀ (c : UInt8) (r : Bs), otext (c :: r) = otextB c ++ otext r := fun c r => by simp [otext]
    rw [e, e]
    rcases tri8 u v with h | h | h
    · exact .inl ⟨cmpB_lt h _ _, otextB_lt h _ _⟩
    · subst h
      rw [cmpB_eq]
      exact (stand_text a b).pre _
    · exact .inr (.inr ⟨cmpB_gt h _ _, otextB_lt h _ _⟩)

/-! ### numbers -/
def IsD (s : Bs) : Prop := ∀ c ∈ s, 48 ≤ c.toNat ∧ c.toNat ≤ 57
theorem dig_lt {u v : UInt8} (hu : 48 ≤ u.toNat ∧ u.toNat ≤ 57) (hv : 48 ≤ v.toNat ∧ v.toNat ≤ 57) (h : u < v) : u - 48 + 1 < v - 48 + 1 := by
  have e : ∀ c : UInt8, 48 ≤ c.toNat → c.toNat ≤ 57 → (c - 48 + 1).toNat = c.toNat - 47 := by
    intro c h1 h2
    rw [UInt8.toNat_add, UInt8.toNat_sub]
    have a : (48 : UInt8).toNat = 48 := rfl
    have b : (1 : UInt8).toNat = 1 := rfl
    rw [a, b]
    omega
  rw [UInt8.lt_iff_toNat_lt] at *
  rw [e u hu.1 hu.2, e v hv.1 hv.2]
  omega
theorem dig_pos {u : UInt8} (hu : 48 ≤ u.toNat ∧ u.toNat ≤ 57) : 0 < u - 48 + 1 := by
  rw [UInt8.lt_iff_toNat_lt, UInt8.toNat_add, UInt8.toNat_sub]
  have a : (48 : UInt8).toNat = 48 := rfl
  have b : (1 : UInt8).toNat = 1 := rfl
  have c : (0 : UInt8).toNat = 0 := rfl
  rw [a, b, c]
  omega
def odig (s : Bs) : Bs := s.map (fun c => c - 48 + 1) ++ [0]
theorem stand_dig : ∀ (a b : Bs), IsD a → IsD b → Stand (cmpB a b) (odig a) (odig b)
  | [], [], _, _ => .inr (.inl ⟨rfl, rfl⟩)
  | [], v :: b, _, hb => .inl ⟨rfl, Lt.head (dig_pos (hb v (by simp))) _ _⟩
  | u :: a, [], ha, _ => .inr (.inr ⟨rfl, Lt.head (dig_pos (ha u (by simp))) _ _⟩)
  | u :: a, v :: b, ha, hb => by
    rcases tri8 u v with h | h | h
    · exact .inl ⟨cmpB_lt h _ _, Lt.head (dig_lt (ha u (by simp)) (hb v (by simp)) h) _ _⟩
    · subst h
      rw [cmpB_eq]
      exact (stand_dig a b (fun c hc => ha c (by simp [hc])) (fun c hc => hb c (by simp [hc]))).cons _
    · exact .inr (.inr ⟨cmpB_gt h _ _, Lt.head (dig_lt (hb v (by simp)) (ha u (by simp)) h) _ _⟩)
theorem compl_lt (u v : UInt8) (h : u < v) : ~~~v < ~~~u := by
  rw [UInt8.lt_iff_toNat_lt] at *
  rw [UInt8.toNat_not, UInt8.toNat_not]
  have := v.toNat_lt
  have e : UInt8.size = 256 := rfl
  omega
/-- A number that may be: its height fits two bytes. -/
def NumOk (n : Nm) : Prop := IsD n.dig ∧ 0 ≤ n.dig.length + n.exp + 2000 ∧ n.dig.length + n.exp + 2000 < 65536 ∧ (n.dig = [] → n = Nm.zero)
theorem onumPos_eq (n : Nm) : onumPos n = UInt8.ofNat (high n / 256) :: UInt8.ofNat (high n) :: odig n.dig := rfl
theorem two_lt {a b : Nat} (h : a < b) (hb : b < 65536) (s t : Bs) : Lt (UInt8.ofNat (a / 256) :: UInt8.ofNat a :: s) (UInt8.ofNat (b / 256) :: UInt8.ofNat b :: t) := by
  have e : ∀ n : Nat, (UInt8.ofNat n).toNat = n % 256 := fun n => UInt8.toNat_ofNat'
  by_cases h1 : a / 256 = b / 256
  · rw [h1]
    refine (Lt.head ?_ _ _).cons _
    rw [UInt8.lt_iff_toNat_lt, e, e]
    omega
  · refine Lt.head ?_ _ _
    rw [UInt8.lt_iff_toNat_lt, e, e]
    omega
theorem stand_pos (a b : Nm) (ha : NumOk a) (hb : NumOk b) : Stand (let high := cmpI (a.dig.length + a.exp) (b.dig.length + b.exp); if high ≠ 0 then high else cmpB a.dig b.dig) (onumPos a) (onumPos b) := by
  rw [onumPos_eq, onumPos_eq]
  have h1 := ha.2.1
  have h2 := hb.2.1
  have h3 := ha.2.2.1
  have h4 := hb.2.2.1
  simp only [cmpI]
  by_cases e1 : (a.dig.length + a.exp : Int) < b.dig.length + b.exp
  · simp only [e1, if_true]
    exact .inl ⟨rfl, two_lt (by unfold high; omega) (by unfold high; omega) _ _⟩
  · by_cases e2 : (a.dig.length + a.exp : Int) > b.dig.length + b.exp
    · simp only [e1, e2, if_false, if_true]
      exact .inr (.inr ⟨rfl, two_lt (by unfold high; omega) (by unfold high; omega) _ _⟩)
    · simp only [e1, e2, if_false]
      have : high a = high b := by unfold high; omega
      rw [this]
      exact ((stand_dig _ _ ha.1 hb.1).cons _).cons _
theorem Stand.down {c : Int} {a b : Bs} (h : Stand c a b) : Stand (-1 * c) (a.map (fun c => ~~~c)) (b.map (fun c => ~~~c)) := by
  rcases h with ⟨rfl, k⟩ | ⟨rfl, k⟩ | ⟨rfl, k⟩
  · exact .inr (.inr ⟨rfl, k.map _ compl_lt⟩)
  · exact .inr (.inl ⟨rfl, by rw [k]⟩)
  · exact .inl ⟨rfl, k.map _ compl_lt⟩
theorem stand_num (a b : Nm) (ha : NumOk a) (hb : NumOk b) : Stand (ncmp a b) (onumber a) (onumber b) := by
  have hp := stand_pos a b ha hb
  obtain ⟨q, hq⟩ : ∃ q, (let high := cmpI (a.dig.length + a.exp) (b.dig.length + b.exp); if high ≠ 0 then high else cmpB a.dig b.dig) = q := ⟨_, rfl⟩
  rw [hq] at hp
  unfold ncmp
  simp only at hq
  simp only [hq]
  unfold nside onumber
  by_cases da : a.dig = [] <;> by_cases db : b.dig = []
  · simp only [da, db, if_true]
    exact .inr (.inl ⟨by simp [cmpI], rfl⟩)
  · cases ed : b.down
    · simp only [da, db, ed, if_true, if_false, Bool.false_eq_true]
      exact .inl ⟨by simp [cmpI], Lt.head (by decide) _ _⟩
    · simp only [da, db, ed, if_true, if_false]
      exact .inr (.inr ⟨by simp [cmpI], Lt.head (by decide) _ _⟩)
  · cases ed : a.down
    · simp only [da, db, ed, if_true, if_false, Bool.false_eq_true]
      exact .inr (.inr ⟨by simp [cmpI], Lt.head (by decide) _ _⟩)
    · simp only [da, db, ed, if_true, if_false]
      exact .inl ⟨by simp [cmpI], Lt.head (by decide) _ _⟩
  · cases ea : a.down <;> cases eb : b.down
    · simp only [da, db, if_false, Bool.false_eq_true]
      have : (if (cmpI 1 1 ≠ 0) ∨ (1 : Int) = 0 then cmpI 1 1 else 1 * q) = q := by simp [cmpI]
      rw [this]
      exact hp.cons 2
    · simp only [da, db, if_false, if_true, Bool.false_eq_true]
      exact .inr (.inr ⟨by simp [cmpI], Lt.head (by decide) _ _⟩)
    · simp only [da, db, if_false, if_true, Bool.false_eq_true]
      exact .inl ⟨by simp [cmpI], Lt.head (by decide) _ _⟩
    · simp only [da, db, if_false, if_true]
      have : (if (cmpI (-1) (-1) ≠ 0) ∨ (-1 : Int) = 0 then cmpI (-1) (-1) else -1 * q) = -1 * q := by simp [cmpI]
      rw [this]
      exact hp.down.cons 0

/-! ### values of one kind, and of two -/
/-- A value that has a key. -/
def Plain (v : V) : Prop := 0 ≤ v.kind ∧ v.kind ≤ 3 ∧ NumOk v.num
theorem okey_head (v : V) (h : Plain v) : ∃ c r, (okey v).1 = c :: r ∧ (okey v).2 = 0 ∧ (kind2 v.kind).1 ≤ c ∧ c < (kind2 v.kind).2 ∧ c ≠ 255 := by
  obtain ⟨h0, h3, _⟩ := h
  have : v.kind = 0 ∨ v.kind = 1 ∨ v.kind = 2 ∨ v.kind = 3 := by omega
  rcases this with e | e | e | e
  · exact ⟨1, [], by simp [okey, e], by simp [okey, e], by simp [kind2, e], by simp [kind2, e] <;> decide, by decide⟩
  · cases hi : v.is
    · exact ⟨2, [], by simp [okey, e, hi], by simp [okey, e], by simp [kind2, e], by simp [kind2, e] <;> decide, by decide⟩
    · exact ⟨3, [], by simp [okey, e, hi], by simp [okey, e], by simp [kind2, e] <;> decide, by simp [kind2, e] <;> decide, by decide⟩
  · exact ⟨4, onumber v.num, by simp [okey, e], by simp [okey, e], by simp [kind2, e], by simp [kind2, e] <;> decide, by decide⟩
  · exact ⟨5, otext v.text, by simp [okey, e], by simp [okey, e], by simp [kind2, e], by simp [kind2, e] <;> decide, by decide⟩
theorem stand_same (x y : V) (hx : Plain x) (hy : Plain y) (h : x.kind = y.kind) : Stand (cmpV x y) (okey x).1 (okey y).1 := by
  obtain ⟨k, is, n, t, items, names⟩ := x
  obtain ⟨k', is', n', t', items', names'⟩ := y
  simp only at h
  subst h
  obtain ⟨h0, h3, hn⟩ := hx
  obtain ⟨_, _, hn'⟩ := hy
  simp only at h0 h3 hn hn'
  have : k = 0 ∨ k = 1 ∨ k = 2 ∨ k = 3 := by omega
  rcases this with e | e | e | e <;> subst e
  · exact .inr (.inl ⟨by simp [cmpV], by simp [okey]⟩)
  · cases is <;> cases is'
    · exact .inr (.inl ⟨by simp [cmpV], by simp [okey]⟩)
    · exact .inl ⟨by simp [cmpV, told], by simpa [okey] using Lt.head (show (2 : UInt8) < 3 by decide) [] []⟩
    · exact .inr (.inr ⟨by simp [cmpV, told], by simpa [okey] using Lt.head (show (2 : UInt8) < 3 by decide) [] []⟩)
    · exact .inr (.inl ⟨by simp [cmpV], by simp [okey]⟩)
  · have := (stand_num n n' hn hn').cons 4
    simpa [cmpV, okey] using this
  · have := (stand_text t t').cons 5
    simpa [cmpV, okey] using this
theorem kinds_apart {j k : Int} (h0 : 0 ≤ j) (h : j < k) (h3 : k ≤ 3) : (kind2 j).2 ≤ (kind2 k).1 := by
  have : (j = 0 ∧ k = 1) ∨ (j = 0 ∧ k = 2) ∨ (j = 0 ∧ k = 3) ∨ (j = 1 ∧ k = 2) ∨ (j = 1 ∧ k = 3) ∨ (j = 2 ∧ k = 3) := by omega
  rcases this with ⟨rfl, rfl⟩ | ⟨rfl, rfl⟩ | ⟨rfl, rfl⟩ | ⟨rfl, rfl⟩ | ⟨rfl, rfl⟩ | ⟨rfl, rfl⟩ <;> decide
theorem lt_le8 {a b c : UInt8} (h : a < b) (k : b ≤ c) : a < c := by
  rw [UInt8.lt_iff_toNat_lt] at *; rw [UInt8.le_iff_toNat_le] at k; omega
theorem not_lt_of_le8 {a b : UInt8} (h : a ≤ b) : ¬ b < a := by
  rw [UInt8.lt_iff_toNat_lt]; rw [UInt8.le_iff_toNat_le] at h; omega
/-- One byte against a text. -/
theorem less_one_r (c d : UInt8) (r : Bs) : Op.bytesLess (c :: r) [d] = decide (c < d) := by
  cases r <;> simp [Op.bytesLess]

/-- **A value passes a test just if its bytes, with whatever behind them, lie within the test's bounds.** -/
theorem holds_bounds (op : Int) (h0 : 0 ≤ op) (h4 : op ≤ 4) (x y : V) (hx : Plain x) (hy : Plain y) (more : Bs) :
    (bounds op y).2.2 = true ∧ passes op x y = (!Op.bytesLess ((okey x).1 ++ more) (bounds op y).1 && Op.bytesLess ((okey x).1 ++ more) (bounds op y).2.1) := by
  obtain ⟨cx, rx, ex, ex2, lx, ux, nx⟩ := okey_head x hx
  obtain ⟨cy, ry, ey, ey2, ly, uy, ny⟩ := okey_head y hy
  have hny : ∃ c ∈ (okey y).1, c ≠ 255 := ⟨cy, by rw [ey]; simp, ny⟩
  have hop : op = 0 ∨ op = 1 ∨ op = 2 ∨ op = 3 ∨ op = 4 := by omega
  -- what stands against what
  have facts : ((x.kind = y.kind ∧ cmpV x y = -1 ∧ Lt (okey x).1 (okey y).1) ∨ (x.kind = y.kind ∧ cmpV x y = 0 ∧ (okey x).1 = (okey y).1) ∨ (x.kind = y.kind ∧ cmpV x y = 1 ∧ Lt (okey y).1 (okey x).1) ∨
      (x.kind ≠ y.kind ∧ cx < (kind2 y.kind).1 ∧ Lt (okey x).1 (okey y).1) ∨ (x.kind ≠ y.kind ∧ (kind2 y.kind).2 ≤ cx ∧ Lt (okey y).1 (okey x).1)) := by
    by_cases hk : x.kind = y.kind
    · rcases stand_same x y hx hy hk with ⟨h, k⟩ | ⟨h, k⟩ | ⟨h, k⟩
      · exact .inl ⟨hk, h, k⟩
      · exact .inr (.inl ⟨hk, h, k⟩)
      · exact .inr (.inr (.inl ⟨hk, h, k⟩))
    · rcases Int.lt_or_gt_of_ne hk with h | h
      · have ha := kinds_apart hx.1 h hy.2.1
        have h1 := lt_le8 ux ha
        exact .inr (.inr (.inr (.inl ⟨hk, h1, by rw [ex, ey]; exact Lt.head (lt_le8 h1 ly) _ _⟩)))
      · have ha := kinds_apart hy.1 h hx.2.1
        have h1 : (kind2 y.kind).2 ≤ cx := UInt8.le_trans ha lx
        exact .inr (.inr (.inr (.inr ⟨hk, h1, by rw [ex, ey]; exact Lt.head (lt_le8 uy h1) _ _⟩)))
  obtain ⟨kx, hkx⟩ : ∃ k, (okey x).1 = k := ⟨_, rfl⟩
  obtain ⟨ky, hky⟩ : ∃ k, (okey y).1 = k := ⟨_, rfl⟩
  have hb : ∀ o, bounds o y = if o = 0 then (ky, behind ky, true) else if o = 1 then ([(kind2 y.kind).1], ky, true) else if o = 2 then ([(kind2 y.kind).1], behind ky, true)
      else if o = 3 then (behind ky, [(kind2 y.kind).2], true) else if o = 4 then (ky, [(kind2 y.kind).2], true) else ([], [], false) := by
    intro o
    simp only [bounds, ey2, hky, ne_eq, not_true_eq_false, if_false]
  -- the first byte against the kind's
  have f1 : x.kind = y.kind → Op.bytesLess (kx ++ more) [(kind2 y.kind).1] = false := fun e => by
    rw [← hkx, ex, List.cons_append, less_one_r, decide_eq_false_iff_not, ← e]
    exact not_lt_of_le8 lx
  have f2 : x.kind = y.kind → Op.bytesLess (kx ++ more) [(kind2 y.kind).2] = true := fun e => by
    rw [← hkx, ex, List.cons_append, less_one_r, decide_eq_true_eq, ← e]
    exact ux
  have f3 : cx < (kind2 y.kind).1 → Op.bytesLess (kx ++ more) [(kind2 y.kind).1] = true := fun e => by
    rw [← hkx, ex, List.cons_append, less_one_r, decide_eq_true_eq]
    exact e
  have f4 : (kind2 y.kind).2 ≤ cx → Op.bytesLess (kx ++ more) [(kind2 y.kind).2] = false := fun e => by
    rw [← hkx, ex, List.cons_append, less_one_r, decide_eq_false_iff_not]
    exact not_lt_of_le8 e
  rw [hkx, hky] at facts
  rw [hky] at hny
  rw [hb, hkx]
  have hlt : Lt kx ky → Op.bytesLess (kx ++ more) (behind ky) = true := fun h => by
    -- below the bytes, so below what is behind them
    obtain ⟨t, c, k, h1, h2, h3⟩ := behind_spec ky hny
    obtain ⟨p, u, v, s, q, e1, e2, huv⟩ := h
    rw [h3, e1]
    rw [e2] at h1
    rcases List.append_eq_append_iff.1 h1 with ⟨l, h4, h5⟩ | ⟨l, h4, h5⟩
    · cases l with
      | nil =>
        simp only [List.append_nil] at h4
        subst h4
        simp only [List.nil_append, List.cons.injEq] at h5
        obtain ⟨rfl, _⟩ := h5
        exact (Lt.less1 (a := t ++ u :: s) ⟨t, u, v + 1, s, [], rfl, rfl, lt_le8 huv (UInt8.le_of_lt (succ_lt h2))⟩ more).1
      | cons d l =>
        simp only [List.cons_append, List.cons.injEq] at h5
        obtain ⟨rfl, h5⟩ := h5
        rw [h4]
        exact (Lt.less1 (a := p ++ u :: s) (b := p ++ v :: (l ++ [c + 1])) ⟨p, u, v, s, _, rfl, rfl, huv⟩ more).1 |> (by simpa using ·)
    · cases l with
      | nil =>
        simp only [List.append_nil] at h4
        subst h4
        simp only [List.nil_append, List.cons.injEq] at h5
        obtain ⟨rfl, _⟩ := h5
        exact (Lt.less1 (a := p ++ u :: s) ⟨p, u, c + 1, s, [], rfl, rfl, lt_le8 huv (UInt8.le_of_lt (succ_lt h2))⟩ more).1
      | cons d l =>
        simp only [List.cons_append, List.cons.injEq] at h5
        obtain ⟨rfl, h5⟩ := h5
        -- p = t ++ c :: l, behind it 255s
        rw [h4]
        exact (Lt.less1 (a := t ++ c :: (l ++ u :: s)) (b := t ++ [c + 1]) ⟨t, c, c + 1, _, [], rfl, rfl, succ_lt h2⟩ more).1 |> (by simpa using ·)
  rcases hop with rfl | rfl | rfl | rfl | rfl
  · refine ⟨by simp, ?_⟩
    simp only [if_true]
    rcases facts with ⟨e, hc, k⟩ | ⟨e, hc, k⟩ | ⟨e, hc, k⟩ | ⟨e, hc, k⟩ | ⟨e, hc, k⟩
    · simp [passes, e, hc, (k.less1 more).1]
    · subst k; simp [passes, e, hc, less_ext, behind_up _ more hny]
    · simp [passes, e, hc, behind_down _ _ more hny k]
    · simp [passes, e, (k.less1 more).1]
    · simp [passes, e, behind_down _ _ more hny k]
  · refine ⟨by simp, ?_⟩
    simp only [show (1 : Int) = 0 ↔ False by decide, if_true, if_false]
    rcases facts with ⟨e, hc, k⟩ | ⟨e, hc, k⟩ | ⟨e, hc, k⟩ | ⟨e, hc, k⟩ | ⟨e, hc, k⟩
    · simp [passes, e, hc, (k.less1 more).1, f1 e]
    · subst k; simp [passes, e, hc, less_ext, f1 e]
    · simp [passes, e, hc, (k.less2 more).2]
    · simp [passes, e, f3 hc]
    · simp [passes, e, (k.less2 more).2]
  · refine ⟨by simp, ?_⟩
    simp only [show (2 : Int) = 0 ↔ False by decide, show (2 : Int) = 1 ↔ False by decide, if_true, if_false]
    rcases facts with ⟨e, hc, k⟩ | ⟨e, hc, k⟩ | ⟨e, hc, k⟩ | ⟨e, hc, k⟩ | ⟨e, hc, k⟩
    · simp [passes, e, hc, hlt k, f1 e]
    · subst k; simp [passes, e, hc, behind_up _ more hny, f1 e]
    · simp [passes, e, hc, behind_down _ _ more hny k]
    · simp [passes, e, f3 hc]
    · simp [passes, e, behind_down _ _ more hny k]
  · refine ⟨by simp, ?_⟩
    simp only [show (3 : Int) = 0 ↔ False by decide, show (3 : Int) = 1 ↔ False by decide, show (3 : Int) = 2 ↔ False by decide, if_true, if_false]
    rcases facts with ⟨e, hc, k⟩ | ⟨e, hc, k⟩ | ⟨e, hc, k⟩ | ⟨e, hc, k⟩ | ⟨e, hc, k⟩
    · simp [passes, e, hc, hlt k]
    · subst k; simp [passes, e, hc, behind_up _ more hny]
    · simp [passes, e, hc, behind_down _ _ more hny k, f2 e]
    · simp [passes, e, hlt k]
    · simp [passes, e, f4 hc]
  · refine ⟨by simp, ?_⟩
    simp only [show (4 : Int) = 0 ↔ False by decide, show (4 : Int) = 1 ↔ False by decide, show (4 : Int) = 2 ↔ False by decide, show (4 : Int) = 3 ↔ False by decide, if_true, if_false]
    rcases facts with ⟨e, hc, k⟩ | ⟨e, hc, k⟩ | ⟨e, hc, k⟩ | ⟨e, hc, k⟩ | ⟨e, hc, k⟩
    · simp [passes, e, hc, (k.less1 more).1]
    · subst k; simp [passes, e, hc, less_ext, f2 e]
    · simp [passes, e, hc, (k.less2 more).2, f2 e]
    · simp [passes, e, (k.less1 more).1]
    · simp [passes, e, f4 hc]
end Js
end Go.Proofs.YtocjlbpehfpdoaaGreatDoor
