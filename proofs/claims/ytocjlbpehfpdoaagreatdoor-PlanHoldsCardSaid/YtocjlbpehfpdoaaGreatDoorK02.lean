/- contracts of the library at this program · Plain functions that mirror packages num and json of the given program, over lists of bytes: no Go in it. · What the walks share: worlds that grow, a reader's block, a value's cells. · A JSON value's cells; what they lead to; footprints. -/
import Derived.Test.YtocjlbpehfpdoaaGreatDoorK01
import Derived.Lib.SlTrimSet
import Derived.Lib.SpaceU
import Derived.Lib.RuneBytes
import Derived.Lib.ValidU
import Derived.Lib.Join
import Derived.Lib.ItoaNum
import Derived.Lib.Bytealg
import GoSem.Op.String
import Derived.WalkKit
import Derived.WalkSpells
import Derived.WalkLawsBesides
import Derived.WalkSmall
import Derived.Lib.Hide
import Derived.Below
import Derived.KernelRfl
-- hand-laid: (*strings.Builder).copyCheck, WriteByte, WriteString at this dump
namespace Go.Proofs
open Go.Shelf Go.RowKit
def Tryz.laysB_ren : Go.Shelf.Ren := ⟨fun | 156 => 81 | 165 => 154 | 166 => 152 | 167 => 151 | 168 => 298 | 169 => 153 | 240 => 199 | 241 => 200 | 276 => 251 | 277 => 252 | n => n, fun | 31 => 27 | 9 => 9 | 3 => 3 | 4 => 4 | 0 => 0 | 20 => 20 | 72 => 214 | 76 => 218 | 70 => 212 | 37 => 22 | 75 => 216 | 127 => 249 | 164 => 287 | 5 => 5 | 80 => 199 | 21 => 21 | 46 => 76 | 51 => 77 | 105 => 243 | n => n, fun | n => n⟩
theorem Tryz.laysB166 : Go.Proofs.Lays.n166 Tryz.prog Tryz.laysB_ren := {
  mixed := by kernel_rfl
  f166 := Tryz.func152.trans (congrArg some (by kernel_rfl))
  f240 := Tryz.func199.trans (congrArg some (by kernel_rfl))
  f276 := Tryz.func251.trans (congrArg some (by kernel_rfl))
  t0 := Tryz.underlying0
  a0 := Tryz.isAgg0
  z0 := Tryz.sizeOf0
  v0 := Tryz.zeroValue0
  t3 := Tryz.underlying3
  a3 := Tryz.isAgg3
  z3 := Tryz.sizeOf3
  v3 := Tryz.zeroValue3
  t4 := Tryz.underlying4
  a4 := Tryz.isAgg4
  z4 := Tryz.sizeOf4
  v4 := Tryz.zeroValue4
  t9 := Tryz.underlying9
  a9 := Tryz.isAgg9
  z9 := Tryz.sizeOf9
  v9 := Tryz.zeroValue9
  t20 := Tryz.underlying20
  a20 := Tryz.isAgg20
  z20 := Tryz.sizeOf20
  v20 := Tryz.zeroValue20
  t37 := Tryz.underlying22
  a37 := Tryz.isAgg22
  z37 := Tryz.sizeOf22
  v37 := Tryz.zeroValue22
  t70 := Tryz.underlying212
  a70 := Tryz.isAgg212
  z70 := Tryz.sizeOf212
  v70 := Tryz.zeroValue212
  t72 := Tryz.underlying214
  a72 := Tryz.isAgg214
  z72 := Tryz.sizeOf214
  v72 := Tryz.zeroValue214
  t75 := Tryz.underlying216
  a75 := Tryz.isAgg216
  z75 := Tryz.sizeOf216
  v75 := Tryz.zeroValue216
  t164 := Tryz.underlying287
  a164 := Tryz.isAgg287
  z164 := Tryz.sizeOf287
  v164 := Tryz.zeroValue287 }
theorem Tryz.laysB167 : Go.Proofs.Lays.n167 Tryz.prog Tryz.laysB_ren := {
  mixed := by kernel_rfl
  f167 := Tryz.func151.trans (congrArg some (by kernel_rfl))
  f240 := Tryz.func199.trans (congrArg some (by kernel_rfl))
  f276 := Tryz.func251.trans (congrArg some (by kernel_rfl))
  t0 := Tryz.underlying0
  a0 := Tryz.isAgg0
  z0 := Tryz.sizeOf0
  v0 := Tryz.zeroValue0
  t4 := Tryz.underlying4
  a4 := Tryz.isAgg4
  z4 := Tryz.sizeOf4
  v4 := Tryz.zeroValue4
  t5 := Tryz.underlying5
  a5 := Tryz.isAgg5
  z5 := Tryz.sizeOf5
  v5 := Tryz.zeroValue5
  t9 := Tryz.underlying9
  a9 := Tryz.isAgg9
  z9 := Tryz.sizeOf9
  v9 := Tryz.zeroValue9
  t20 := Tryz.underlying20
  a20 := Tryz.isAgg20
  z20 := Tryz.sizeOf20
  v20 := Tryz.zeroValue20
  t37 := Tryz.underlying22
  a37 := Tryz.isAgg22
  z37 := Tryz.sizeOf22
  v37 := Tryz.zeroValue22
  t70 := Tryz.underlying212
  a70 := Tryz.isAgg212
  z70 := Tryz.sizeOf212
  v70 := Tryz.zeroValue212
  t72 := Tryz.underlying214
  a72 := Tryz.isAgg214
  z72 := Tryz.sizeOf214
  v72 := Tryz.zeroValue214
  t75 := Tryz.underlying216
  a75 := Tryz.isAgg216
  z75 := Tryz.sizeOf216
  v75 := Tryz.zeroValue216
  t164 := Tryz.underlying287
  a164 := Tryz.isAgg287
  z164 := Tryz.sizeOf287
  v164 := Tryz.zeroValue287 }
theorem Tryz.laysB_Extra : Builder.Extra Tryz.prog Tryz.laysB_ren := {
  sizeBuilder := by kernel_rfl
  liesBuilder := by kernel_rfl
  t5 := Tryz.underlying5
  a5 := Tryz.isAgg5
  z5 := Tryz.sizeOf5
  v5 := Tryz.zeroValue5
  infoByte := by kernel_rfl
  cellsByte := by kernel_rfl
  sizeByte := by kernel_rfl
  neB5 := by decide }
theorem Tryz.Builder_WriteByte_k (B b : Nat) (bs : List Value) (c : Int) (w : World) (h : Lib.IsBuilderF 214 5 B b bs w) (hlen : bs.length + 1 ≤ 140737488355328) (hBw : B ≤ w.heap.size) :
    Calls Tryz.prog 151 #[.pointer (some ⟨b, 0, none⟩), .int .u8 c] w fun e w' => e = .returned .nilIface ∧ (Lib.BuilderAtF 214 5 B b (.pointer (some ⟨b, 0, none⟩)) (bs ++ [.int .u8 c]) w' ∧ Below B w w' ∧ Lib.OthersKept 5 (some b) w w') := Any.Builder_WriteByte_k Tryz.laysB167 Tryz.laysB_Extra B b bs c w h hlen hBw
theorem Tryz.Builder_WriteString_k (B b : Nat) (bs : List Value) (s : ByteArray) (w : World) (h : Lib.IsBuilderF 214 5 B b bs w) (hlen : bs.length + s.size ≤ 140737488355328) (hBw : B ≤ w.heap.size) :
    Calls Tryz.prog 152 #[.pointer (some ⟨b, 0, none⟩), .string s] w fun e w' => e = .returned (.tuple #[.int .i64 s.size, .nilIface]) ∧ (Lib.BuilderAtF 214 5 B b (.pointer (some ⟨b, 0, none⟩)) (bs ++ Lib.strCells s) w' ∧ Below B w w' ∧ Lib.OthersKept 5 (some b) w w') := Any.Builder_WriteString_k Tryz.laysB166 Tryz.laysB_Extra B b bs s w h hlen hBw
end Go.Proofs

set_option linter.unusedVariables false
namespace Go.Proofs.YtocjlbpehfpdoaaGreatDoor
namespace Js

abbrev Bs := List UInt8

/-! ### numbers -/
structure Nm where
  down : Bool
  dig : Bs
  exp : Int

def Nm.zero : Nm := ⟨false, [], 0⟩

def digits10 : Bs := [48, 49, 50, 51, 52, 53, 54, 55, 56, 57]
def numeral : Bs := [48, 49, 50, 51, 52, 53, 54, 55, 56, 57, 43, 45, 46, 101, 69]
def blanks : Bs := [32, 9, 10, 13]

/-- What a text begins with, out of a set; and the rest. -/
def span (cs s : Bs) : Bs × Bs := (s.take (s.length - (Lib.trimLeftS s cs).length), Lib.trimLeftS s cs)
def run (s : Bs) : Bs × Bs := span digits10 s

def nform (down : Bool) (s : Bs) (exp : Int) : Nm :=
  let t := Lib.trimLeftS s [48]
  let short := Lib.trimRightS t [48]
  if short = [] then Nm.zero else ⟨down, short, exp + t.length - short.length⟩

/-- One sign of some, if it is next. -/
def nsign (l s : Bs) : Bs × Bs :=
  match s with
  | [] => ([], [])
  | c :: r => if l.contains c then ([c], r) else ([], c :: r)

def dval (s : Bs) : Int := s.foldl (fun n c => 10 * n + ((c.toNat : Int) - 48)) 0
def power (s : Bs) : Int :=
  let t := Lib.trimLeftS s [48]
  if t.length > 10 then 1099511627776 else dval t

def nright (n : Nm) : Bool :=
  match n.dig with
  | [] => (!n.down) && n.exp == 0
  | c :: r => (run (c :: r)).2 == [] && c != 48 && (c :: r).getLastD 0 != 48 && (c :: r).length ≤ 40 && decide (-999 ≤ n.exp) && decide (n.exp ≤ 999)

/-- The parts of a number's text: its sign, its whole digits, those behind the point, less, the exponent's, what is left, whether something is bad. -/
structure NParts where
  down : Bool
  whole : Bs
  part : Bs
  less : Bool
  ex : Bs
  rest : Bs
  bad : Bool

def nparts (s : Bs) : NParts :=
  let (g, s1) := nsign [45] s
  let (whole, s2) := run s1
  let bad2 := whole == [] || (decide (1 < whole.length) && whole.headD 0 == 48)
  let (pt, s3) := nsign [46] s2
  let (part, s4) := if pt != [] then run s3 else ([], s3)
  let bad4 := bad2 || (pt != [] && part == [])
  let (ee, s5) := nsign [101, 69] s4
  let (sg, s6) := if ee != [] then nsign [43, 45] s5 else ([], s5)
  let (ex, s7) := if ee != [] then run s6 else ([], s6)
  ⟨g != [], whole, part, sg == [45], ex, s7, bad4 || (ee != [] && ex == [])⟩

def nparse (s : Bs) : Nm × Int :=
  let p := nparts s
  if p.bad || p.rest != [] then (Nm.zero, 11)
  else
    let e := power p.ex
    let e := if p.less then -e else e
    let n := nform p.down (p.whole ++ p.part) (e - p.part.length)
    if nright n then (n, 0) else (Nm.zero, 13)


def itoa (i : Int) : Bs := Lib.itoa i

def ntext (n : Nm) : Bs :=
  if n.dig = [] then [48]
  else (if n.down then [45] else []) ++ n.dig ++ (if n.exp ≠ 0 then 101 :: itoa n.exp else [])

def nside (n : Nm) : Int := if n.dig = [] then 0 else if n.down then -1 else 1
def cmpI (a b : Int) : Int := if a < b then -1 else if a > b then 1 else 0
def cmpB (a b : Bs) : Int := Lib.compareBytes a b
def ncmp (a b : Nm) : Int :=
  let x := cmpI (nside a) (nside b)
  if x ≠ 0 ∨ nside a = 0 then x
  else
    let high := cmpI (a.dig.length + a.exp) (b.dig.length + b.exp)
    nside a * (if high ≠ 0 then high else cmpB a.dig b.dig)

/-! ### values -/
structure V where
  kind : Int
  is : Bool
  num : Nm
  text : Bs
  items : List V
  names : List Bs

def V.zero : V := ⟨0, false, Nm.zero, [], [], []⟩

/-- A reader: what is left, how many are open, the first error. -/
structure St where
  s : Bs
  o : Int
  e : Int

def failS (st : St) (e : Int) : St := if st.e = 0 then { st with e := e } else st
def skipS (st : St) : St := { st with s := Lib.trimLeftS st.s blanks }
def tookS (t : Bs) (st : St) : Bool × St :=
  let st := skipS st
  if t.isPrefixOf st.s && st.e == 0 then (true, { st with s := st.s.drop t.length }) else (false, st)
def needS (t : Bs) (st : St) : St :=
  let r := tookS t st
  if r.1 then r.2 else failS r.2 11
def enterS (st : St) : St :=
  let st := if st.o = 16 then failS st 35 else st
  let st := { st with o := st.o + 1 }
  if st.e = 0 then { st with s := st.s.drop 1 } else st

def numberS (st : St) : V × St :=
  let p := span numeral st.s
  let r := nparse p.1
  let st := if r.2 ≠ 0 then failS st r.2 else st
  ({ V.zero with kind := 2, num := r.1 }, { st with s := p.2 })

def hexv (c : UInt8) : Option Int :=
  if 48 ≤ c ∧ c ≤ 57 then some ((c.toNat : Int) - 48)
  else if 97 ≤ c ∧ c ≤ 102 then some ((c.toNat : Int) - 87)
  else if 65 ≤ c ∧ c ≤ 70 then some ((c.toNat : Int) - 55)
  else none
def hex4 (s : Bs) : Option Int :=
  match s with
  | a :: b :: c :: d :: _ =>
    match hexv a, hexv b, hexv c, hexv d with
    | some a, some b, some c, some d => some (((a * 16 + b) * 16 + c) * 16 + d)
    | _, _, _, _ => none
  | _ => none
def fourS (st : St) : Int × St :=
  match hex4 st.s with
  | some x => (x, { st with s := st.s.drop 4 })
  | none => (0, failS st 11)

def signS (st : St) : Bs × St :=
  let (x, st) := fourS st
  if x < 55296 ∨ 57343 < x then (Lib.encodeRune x, st)
  else if 56320 ≤ x ∨ ([92, 117] : Bs).isPrefixOf st.s = false then ([], failS st 11)
  else
    let (y, st) := fourS { st with s := st.s.drop 2 }
    let st := if y < 56320 ∨ 57343 < y then failS st 11 else st
    (Lib.encodeRune (65536 + (x - 55296) * 1024 + y - 56320), st)

/-- What stands for a sign behind a backslash. -/
def esc (c : UInt8) : Option UInt8 :=
  if c = 34 then some 34 else if c = 92 then some 92 else if c = 47 then some 47 else if c = 98 then some 8
  else if c = 102 then some 12 else if c = 110 then some 10 else if c = 114 then some 13 else if c = 116 then some 9 else none

def escapeS (st : St) : Bs × St :=
  match st.s with
  | [] => ([], failS st 11)
  | c :: r =>
    let st := { st with s := r }
    if c = 117 then signS st
    else match esc c with
      | some x => ([x], st)
      | none => ([], failS st 11)

/-- How many bytes are a string's as they are; false: one of them may not be. -/
def plainN : Nat → Bs → Nat × Bool
  | 0, s => (0, false)
  | f + 1, s =>
    if s = [] then (0, false)
    else
      let d := Lib.decodeL s
      if d.1 = 34 ∨ d.1 = 92 then (0, true)
      else if d.1 < 32 then (0, false)
      else if d.1 = 65533 ∧ d.2 < 2 then (0, false)
      else let r := plainN f (s.drop d.2); (d.2 + r.1, r.2)
def plain (s : Bs) : Nat × Bool := plainN s.length s

def strLoop : Nat → Bs → St → Bs × St
  | 0, out, st => (out, st)
  | f + 1, out, st =>
    if st.e ≠ 0 then (out, st)
    else
      let p := plain st.s
      let out := out ++ st.s.take p.1
      if p.2 = false then (out, failS st 11)
      else
        let st' := { st with s := st.s.drop (p.1 + 1) }
        if st.s.getD p.1 0 = 34 then (out, st')
        else
          let r := escapeS st'
          strLoop f (out ++ r.1) r.2
def strS (st : St) : Bs × St := strLoop (st.s.length + 1) [] { st with s := st.s.drop 1 }

/-- Go on, while a comma comes. -/
def moreS {σ : Type} (thing : σ → St → σ × St) : Nat → σ → St → σ × St
  | 0, a, st => (a, st)
  | f + 1, a, st =>
    let r := tookS [44] st
    if r.1 then
      let q := thing a r.2
      moreS thing f q.1 q.2
    else (a, r.2)
def listS {σ : Type} (thing : σ → St → σ × St) (endc : Bs) (a : σ) (st : St) : σ × St :=
  let r := tookS endc (enterS st)
  if r.1 then (a, { r.2 with o := r.2.o - 1 })
  else
    let q := thing a r.2
    let m := moreS thing (q.2.s.length + 1) q.1 q.2
    let st := needS endc m.2
    (m.1, { st with o := st.o - 1 })

def arrThing (f : St → V × St) (a : List V) (st : St) : List V × St :=
  let r := f st
  (a ++ [r.1], r.2)

/-- The library's own search: where a name stands, or would stand; whether it is there. -/
def bs (less : Nat → Bool) : Nat → Nat → Nat → Nat
  | 0, i, _ => i
  | f + 1, i, j => if i < j then (if less ((i + j) / 2) then bs less f ((i + j) / 2 + 1) j else bs less f i ((i + j) / 2)) else i
def search (names : List Bs) (x : Bs) : Nat × Bool :=
  let i := bs (fun t => Op.bytesLess (names.getD t []) x) names.length 0 names.length
  (i, decide (i < names.length) && names.getD i [] == x)

def insertAt {α : Type} (l : List α) (i : Nat) (x : α) : List α := l.take i ++ x :: l.drop i

def objThing (f : St → V × St) (a : List V × List Bs) (st : St) : (List V × List Bs) × St :=
  let st := skipS st
  if ([34] : Bs).isPrefixOf st.s = false then (a, failS st 11)
  else
    let n := strS st
    let k := search a.2 n.1
    let st := if k.2 then failS n.2 31 else n.2
    let st := needS [58] st
    let r := f st
    ((insertAt a.1 k.1 r.1, insertAt a.2 k.1 n.1), r.2)

def value : Nat → St → V × St
  | 0, st => (V.zero, skipS st)
  | d + 1, st =>
    let st := skipS st
    if st.e ≠ 0 then (V.zero, st)
    else match st.s with
      | [] => (V.zero, failS st 11)
      | c :: _ =>
        if c = 110 then (V.zero, needS [110, 117, 108, 108] st)
        else if c = 116 then ({ V.zero with kind := 1, is := true }, needS [116, 114, 117, 101] st)
        else if c = 102 then ({ V.zero with kind := 1 }, needS [102, 97, 108, 115, 101] st)
        else if c = 34 then let r := strS st; ({ V.zero with kind := 3, text := r.1 }, r.2)
        else if c = 91 then let r := listS (arrThing (value d)) [93] [] st; ({ V.zero with kind := 4, items := r.1 }, r.2)
        else if c = 123 then let r := listS (objThing (value d)) [125] ([], []) st; ({ V.zero with kind := 5, items := r.1.1, names := r.1.2 }, r.2)
        else if c = 45 ∨ (48 ≤ c ∧ c ≤ 57) then numberS st
        else (V.zero, failS st 11)

def parse (s : Bs) : V × Int :=
  if s.length > 4096 then (V.zero, 13)
  else
    let r := value 17 ⟨s, 0, 0⟩
    let st := skipS r.2
    let st := if st.s ≠ [] then failS st 11 else st
    if st.e ≠ 0 then (V.zero, st.e) else (r.1, 0)

/-! ### texts of values -/
def hexd (n : Nat) : UInt8 := UInt8.ofNat (if n < 10 then 48 + n else 87 + n)
def quoteB (c : UInt8) : Bs :=
  if c = 34 ∨ c = 92 then [92, c] else if c < 32 then [92, 117, 48, 48, hexd (c.toNat / 16), hexd (c.toNat % 16)] else [c]
def quote (s : Bs) : Bs := [34] ++ s.flatMap quoteB ++ [34]

/-- Each member's text: its name's, and its value's. -/
def members : List Bs → List Bs → List Bs
  | _, [] => []
  | [], x :: l => (quote [] ++ [58] ++ x) :: members [] l
  | n :: ns, x :: l => (quote n ++ [58] ++ x) :: members ns l

mutual
def text : V → Bs
  | ⟨k, is, n, t, items, names⟩ =>
    if k = 1 then (if is then [116, 114, 117, 101] else [102, 97, 108, 115, 101])
    else if k = 2 then ntext n
    else if k = 3 then quote t
    else if k = 4 then [91] ++ Lib.join (texts items) [44] ++ [93]
    else if k = 5 then [123] ++ Lib.join (members names (texts items)) [44] ++ [125]
    else [110, 117, 108, 108]
def texts : List V → List Bs
  | [] => []
  | v :: l => text v :: texts l
end

/-! ### how two stand -/
def told (b : Bool) : Int := if b then 1 else 0

mutual
def cmpV : V → V → Int
  | ⟨k, is, n, t, items, names⟩, b =>
    if k ≠ b.kind then cmpI k b.kind
    else if k = 1 then told is - told b.is
    else if k = 2 then ncmp n b.num
    else if k = 3 then cmpB t b.text
    else if k = 4 then cmpL items b.items
    else if k = 5 then
      let c := cmpM items names b.items b.names
      if c ≠ 0 then c else cmpI names.length b.names.length
    else 0
def cmpL : List V → List V → Int
  | [], [] => 0
  | [], _ :: _ => -1
  | _ :: _, [] => 1
  | a :: x, b :: y => let c := cmpV a b; if c ≠ 0 then c else cmpL x y
/-- Of members that both have a place for: the first that differs. -/
def cmpM : List V → List Bs → List V → List Bs → Int
  | a :: x, n :: ns, b :: y, m :: ms =>
    let c := cmpB n m
    let d := cmpV a b
    let e := if c ≠ 0 then c else d
    if e ≠ 0 then e else cmpM x ns y ms
  | _, _, _, _ => 0
end

/-! ### ways -/
def find (v : V) (name : Bs) : Nat × Bool := if v.kind = 5 then search v.names name else (0, false)
def signs : Bs := [65, 66, 67, 68, 69, 70, 71, 72, 73, 74, 75, 76, 77, 78, 79, 80, 81, 82, 83, 84, 85, 86, 87, 88, 89, 90, 97, 98, 99, 100, 101, 102, 103, 104, 105, 106, 107, 108, 109, 110, 111, 112, 113, 114, 115, 116, 117, 118, 119, 120, 121, 122, 48, 49, 50, 51, 52, 53, 54, 55, 56, 57, 95, 45]
def place (s : Bs) : Int :=
  if s = [] ∨ 9 < s.length ∨ Lib.trimS s digits10 ≠ [] ∨ (1 < s.length ∧ s.headD 0 = 48) then -1 else dval s
/-- Where a value has a member, by a step; whether it has it. -/
def pfind (v : V) (s : Bs) : Int × Bool :=
  if v.kind = 4 then (place s, decide (0 ≤ place s) && decide (place s < v.items.length)) else (((find v s).1 : Int), (find v s).2)

def get : V → List Bs → V × Bool
  | v, [] => (v, true)
  | v, s :: l => let r := pfind v s; if r.2 then get (v.items.getD r.1.toNat V.zero) l else (V.zero, false)

def all : List Bs → V → List V
  | [], v => if v.kind = 4 then v.items else [v]
  | s :: l, v =>
    if (pfind v s).2 then all l (v.items.getD (pfind v s).1.toNat V.zero)
    else if v.kind = 4 ∧ place s < 0 then
      v.items.flatMap fun x => if x.kind = 5 then (if (pfind x s).2 then all l (x.items.getD (pfind x s).1.toNat V.zero) else []) else []
    else []

/-- A value of which a member is another one. -/
def withS (v : V) (s : Bs) (change : V → V × Int) : V × Int :=
  let r := pfind v s
  if v.kind = 4 ∧ r.1 < 0 then (V.zero, 36)
  else if v.kind = 4 ∧ r.1 > v.items.length then (V.zero, 15)
  else if v.kind ≠ 4 ∧ v.kind ≠ 5 then (V.zero, 36)
  else
    let c := change (if r.2 then v.items.getD r.1.toNat V.zero else { V.zero with kind := 5 })
    if c.2 ≠ 0 then (V.zero, c.2)
    else if r.2 then ({ v with items := v.items.set r.1.toNat c.1 }, 0)
    else ({ v with items := insertAt v.items r.1.toNat c.1, names := if v.kind = 5 then insertAt v.names r.1.toNat s else v.names }, 0)

def set : List Bs → V → V → V × Int
  | [], _, x => (x, 0)
  | s :: l, v, x => withS v s fun was => set l was x

def cut : List Bs → V → V × Int
  | [], _ => (V.zero, 30)
  | s :: l, v =>
    if (get v (s :: l)).2 = false then (V.zero, 30)
    else if l ≠ [] then withS v s fun was => cut l was
    else
      let i := (pfind v s).1.toNat
      ({ v with items := v.items.eraseIdx i, names := if v.kind = 5 then v.names.eraseIdx i else v.names }, 0)

/-- A text, cut at each point. -/
def splitDot : Bs → Bs → List Bs
  | cur, [] => [cur]
  | cur, c :: r => if c = 46 then cur :: splitDot [] r else splitDot (cur ++ [c]) r
def wayOk (x : Bs) : Bool := decide (1 ≤ x.length) && decide (x.length ≤ 24) && Lib.trimS x signs == []
def wparse (s : Bs) : List Bs × Int :=
  let l := splitDot [] s
  if 8 < l.length then ([], 33) else if l.all wayOk then (l, 0) else ([], 33)

end Js
end Go.Proofs.YtocjlbpehfpdoaaGreatDoor

set_option linter.unusedVariables false
set_option linter.unusedSimpArgs false
namespace Go.Proofs.YtocjlbpehfpdoaaGreatDoor
open Go.RowKit

/-! ### worlds that grow -/
theorem gb_refl (w : World) (row : Option Nat) : w.grownBy w row := World.grownBy.refl w row
theorem gb_trans {a b c : World} {row : Option Nat} (h : a.grownBy b row) (k : b.grownBy c row) : a.grownBy c row :=
  ⟨k.os.trans h.os, k.tape.trans h.tape, k.output.trans h.output, Nat.le_trans h.size k.size,
   fun i hi hr => (k.block i (Nat.lt_of_lt_of_le hi h.size) hr).trans (h.block i hi hr)⟩
/-- What has turned no elder block has turned none but row. -/
theorem gb_any {a b : World} {row : Option Nat} (h : a.grownBy b none) : a.grownBy b row :=
  ⟨h.os, h.tape, h.output, h.size, fun i hi _ => h.block i hi (by simp)⟩
/-- A row that is new since a is none of a's. -/
theorem gb_new {a b c : World} {g : Nat} (h : a.grownBy b none) (k : b.grownBy c (some g)) (hg : a.heap.size ≤ g) : a.grownBy c none :=
  ⟨k.os.trans h.os, k.tape.trans h.tape, k.output.trans h.output, Nat.le_trans h.size k.size,
   fun i hi hr => (k.block i (Nat.lt_of_lt_of_le hi h.size) (by simp; omega)).trans (h.block i hi hr)⟩
theorem gb_new' {a b c : World} {row : Option Nat} {g : Nat} (h : a.grownBy b row) (k : b.grownBy c (some g)) (hg : a.heap.size ≤ g) : a.grownBy c row :=
  ⟨k.os.trans h.os, k.tape.trans h.tape, k.output.trans h.output, Nat.le_trans h.size k.size,
   fun i hi hr => (k.block i (Nat.lt_of_lt_of_le hi h.size) (by simp; omega)).trans (h.block i hi hr)⟩
theorem gb_below {a b : World} (h : Below a.heap.size a b) : a.grownBy b none := ⟨h.os, h.tape, h.output, h.size, fun i hi _ => h.block i hi⟩
theorem below_gb {a b : World} (h : a.grownBy b none) : Below a.heap.size a b := ⟨h.os, h.tape, h.output, h.size, fun i hi => h.block i hi (by simp)⟩
theorem gb_alloc {a b : World} {row : Option Nat} (h : a.grownBy b row) (o : Obj) : a.grownBy (b.alloc o) row := gb_trans h (World.grownBy_alloc b o row)
theorem gb_drew {a b : World} {row : Option Nat} (h : a.grownBy b row) : a.grownBy b.drew row := ⟨h.os, h.tape, h.output, h.size, h.block⟩
theorem gb_drewN {a b : World} {row : Option Nat} (h : a.grownBy b row) (n : Nat) : a.grownBy (b.drewN n) row := ⟨h.os, h.tape, h.output, h.size, h.block⟩
/-- A store into a block that is new, or into the row. -/
theorem gb_set {a b : World} {row : Option Nat} (h : a.grownBy b row) {p : Addr} (hp : a.heap.size ≤ p.block ∨ row = some p.block) (v : Value) : a.grownBy (b.setCell p v) row :=
  ⟨h.os, h.tape, h.output, by simpa [World.setCell] using h.size, fun i hi hr => by
    rw [Below.heap_setCell _ _ _ _ ?_]
    · exact h.block i hi hr
    · rintro rfl
      rcases hp with hp | hp
      · omega
      · exact hr hp.symm⟩
theorem gb_blk {a b : World} {row : Option Nat} {g : Nat} {o : Obj} (h : a.grownBy b row) (hb : a.heap[g]? = some o) (hne : some g ≠ row) : b.heap[g]? = some o :=
  (h.block g (Array.getElem?_eq_some_iff.1 hb).1 hne).trans hb
theorem blk_lt' {w : World} {g : Nat} {o : Obj} (h : w.heap[g]? = some o) : g < w.heap.size := (Array.getElem?_eq_some_iff.1 h).1
theorem blk_c {w : World} {g : Nat} {cs : Array Value} {t : TypeId} (h : w.heap[g]? = some (.cells cs t (0, 0))) (i : Nat) : w.cell? ⟨g, i, none⟩ = cs[i]? := by simp [World.cell?, h]
theorem blk_f {w : World} {g : Nat} {cs : Array Value} {t : TypeId} (h : w.heap[g]? = some (.cells cs t (0, 0))) (i : Nat) : w.frozen? ⟨g, i, none⟩ = false := by simp [World.frozen?, h]
theorem blk_set' {w : World} {g : Nat} {t : TypeId} {cs : Array Value} (h : w.heap[g]? = some (.cells cs t (0, 0))) (i : Nat) (u : Value) : (w.setCell ⟨g, i, none⟩ u).heap[g]? = some (.cells (cs.setIfInBounds i u) t (0, 0)) := by
  simp [World.setCell, Array.getElem?_modify, h]
theorem blk_far' {w : World} {g : Nat} {o : Obj} (h : w.heap[g]? = some o) {p : Addr} (hp : g ≠ p.block) (u : Value) : (w.setCell p u).heap[g]? = some o := (Below.heap_setCell w p u g hp).trans h
theorem blk_alloc {w : World} {g : Nat} {o : Obj} (h : w.heap[g]? = some o) (x : Obj) : (w.alloc x).heap[g]? = some o := (Below.heap_alloc w x g (blk_lt' h)).trans h
theorem blk_drew {w : World} {g : Nat} {o : Obj} (h : w.heap[g]? = some o) : w.drew.heap[g]? = some o := h
theorem blk_drewN {w : World} {g : Nat} {o : Obj} (h : w.heap[g]? = some o) (n : Nat) : (w.drewN n).heap[g]? = some o := h
theorem blk_new (w : World) (x : Obj) : (w.alloc x).heap[w.heap.size]? = some x := heap_alloc_new w x

/-! ### strings -/
def ba (l : Js.Bs) : ByteArray := ⟨l.toArray⟩
theorem ba_list (l : Js.Bs) : (ba l).data.toList = l := rfl
theorem ba_of {s : ByteArray} {l : Js.Bs} (h : s.data.toList = l) : s = ba l := by
  subst h
  rfl
theorem sz_of (s : ByteArray) : s.data.toList.length = s.size := by rw [Array.length_toList]; rfl
theorem sz_ba (l : Js.Bs) : (ba l).size = l.length := by rw [← sz_of, ba_list]

/-! ### a reader of json -/
/-- The block of a reader: what it holds. -/
structure RSt (w : World) (r : Nat) (st : Js.St) : Prop where
  mk ::
  ex : ∃ s : ByteArray, s.data.toList = st.s ∧ w.heap[r]? = some (.cells #[.string s, .int .i64 st.o, .int .i64 st.e] 89 (0, 0))
  short : st.s.length ≤ 4096
theorem RSt.gb {w w' : World} {r : Nat} {st : Js.St} {row : Option Nat} (h : RSt w r st) (hg : w.grownBy w' row) (hne : some r ≠ row) : RSt w' r st := by
  obtain ⟨⟨s, hs, hb⟩, hl⟩ := h
  exact ⟨⟨s, hs, gb_blk hg hb hne⟩, hl⟩
theorem RSt.lt {w : World} {r : Nat} {st : Js.St} (h : RSt w r st) : r < w.heap.size := by
  obtain ⟨⟨s, hs, hb⟩, hl⟩ := h
  exact blk_lt' hb

/-- The reader laid open for a walk: its text's variable, its cells. -/
theorem RSt.op {w : World} {r : Nat} {st : Js.St} (h : RSt w r st) : ∃ s : ByteArray, Hid (s.data.toList = st.s) ∧ Hid (w.heap[r]? = some (.cells #[.string s, .int .i64 st.o, .int .i64 st.e] 89 (0, 0))) ∧ s.size ≤ 4096 ∧
    w.cell? ⟨r, 0, none⟩ = some (.string s) ∧ w.cell? ⟨r, 1, none⟩ = some (.int .i64 st.o) ∧ w.cell? ⟨r, 2, none⟩ = some (.int .i64 st.e) ∧
    w.frozen? ⟨r, 0, none⟩ = false ∧ w.frozen? ⟨r, 1, none⟩ = false ∧ w.frozen? ⟨r, 2, none⟩ = false := by
  obtain ⟨⟨s, hs, hb⟩, hl⟩ := h
  exact ⟨s, Lib.hid hs, Lib.hid hb, by rw [← sz_of, hs]; exact hl, by rw [blk_c hb]; rfl, by rw [blk_c hb]; rfl, by rw [blk_c hb]; rfl, blk_f hb 0, blk_f hb 1, blk_f hb 2⟩
theorem RSt.of {w : World} {r : Nat} {st : Js.St} (s : ByteArray) (hs : s.data.toList = st.s) (hb : w.heap[r]? = some (.cells #[.string s, .int .i64 st.o, .int .i64 st.e] 89 (0, 0))) (hl : s.size ≤ 4096) : RSt w r st :=
  ⟨⟨s, hs, hb⟩, by rw [← hs, sz_of]; exact hl⟩
/-- A call on the reader at block r: it hands back v; the reader stands as st'; nothing else that was there has turned. -/
def RDid (w : World) (r : Nat) (st' : Js.St) (v : Value) (e : Ending) (w' : World) : Prop := e = .returned v ∧ RSt w' r st' ∧ w.grownBy w' (some r)
theorem RDid.mk' {w w' : World} {r : Nat} {st' : Js.St} {v : Value} {e : Ending} (h1 : e = .returned v) (s : ByteArray) (hs : s.data.toList = st'.s) (hb : w'.heap[r]? = some (.cells #[.string s, .int .i64 st'.o, .int .i64 st'.e] 89 (0, 0))) (hl : s.size ≤ 4096) (hg : w.grownBy w' (some r)) : RDid w r st' v e w' :=
  ⟨h1, RSt.of s hs hb hl, hg⟩
theorem blk_eq {w : World} {r : Nat} {a b : Array Value} {t : TypeId} (h : w.heap[r]? = some (.cells a t (0, 0))) (e : a = b) : w.heap[r]? = some (.cells b t (0, 0)) := e ▸ h

end Go.Proofs.YtocjlbpehfpdoaaGreatDoor

set_option linter.unusedVariables false
set_option linter.unusedSimpArgs false
namespace Go.Proofs.YtocjlbpehfpdoaaGreatDoor
open Go.RowKit

def CellsAt (w : World) (b o : Nat) (cs : List Value) : Prop := ∀ (j : Nat) u, cs[j]? = some u → w.cell? ⟨b, o + j, none⟩ = some u
def strs (l : List Js.Bs) : List Value := l.map fun x => .string (ba x)
/-- A slice of names. -/
def SlN (F : Nat → Prop) (w : World) (l : List Js.Bs) (s : Value) : Prop :=
  ∃ A c, s = .slice A l.length c ∧ l.length ≤ c ∧ c ≤ maxLen ∧ (l = [] ∨ ∃ b o, A = some ⟨b, o, none⟩ ∧ b < w.heap.size ∧ F b ∧ CellsAt w b o (strs l))
/-- A value's cells. -/
def vcs (v : Js.V) (si sn : Value) : List Value :=
  [.int .i64 v.kind, .bool v.is, .bool v.num.down, .string (ba v.num.dig), .int .i64 v.num.exp, .string (ba v.text), si, sn]
mutual
/-- What a value's two slices lead to is the value's items and names, in blocks of F. -/
def RdV (F : Nat → Prop) (w : World) : Js.V → Value → Value → Prop
  | ⟨_, _, _, _, items, names⟩, si, sn =>
    (∃ A c, si = .slice A items.length c ∧ items.length ≤ c ∧ c ≤ maxLen ∧ (items = [] ∨ ∃ b o cs, A = some ⟨b, o, none⟩ ∧ b < w.heap.size ∧ F b ∧ CellsAt w b o cs ∧ Els F w items cs)) ∧ SlN F w names sn
/-- A row's cells are those of a list of values. -/
def Els (F : Nat → Prop) (w : World) : List Js.V → List Value → Prop
  | [], cs => cs = []
  | v :: l, cs => ∃ si sn rest, cs = vcs v si sn ++ rest ∧ RdV F w v si sn ∧ Els F w l rest
end
/-- A slice of values. -/
def SlI (F : Nat → Prop) (w : World) (items : List Js.V) (s : Value) : Prop :=
  ∃ A c, s = .slice A items.length c ∧ items.length ≤ c ∧ c ≤ maxLen ∧ (items = [] ∨ ∃ b o cs, A = some ⟨b, o, none⟩ ∧ b < w.heap.size ∧ F b ∧ CellsAt w b o cs ∧ Els F w items cs)
theorem RdV_eq (F : Nat → Prop) (w : World) (v : Js.V) (si sn : Value) : RdV F w v si sn ↔ SlI F w v.items si ∧ SlN F w v.names sn := by
  cases v
  simp only [RdV, SlI]

theorem CellsAt.move {w w' : World} {b o : Nat} {cs : List Value} (h : CellsAt w b o cs) (hb : w'.heap[b]? = w.heap[b]?) : CellsAt w' b o cs :=
  fun j u hu => (World.cell?_of_block (a := ⟨b, o + j, none⟩) hb).trans (h j u hu)
theorem SlN.move {F F' : Nat → Prop} {w w' : World} {l : List Js.Bs} {s : Value} (h : SlN F w l s) (hF : ∀ k, F k → k < w.heap.size → F' k) (hs : w.heap.size ≤ w'.heap.size) (hm : ∀ k, F k → k < w.heap.size → w'.heap[k]? = w.heap[k]?) : SlN F' w' l s := by
  obtain ⟨A, c, h1, h2, h3, h4⟩ := h
  refine ⟨A, c, h1, h2, h3, ?_⟩
  rcases h4 with h4 | ⟨b, o, e, hb, hf, hc⟩
  · exact .inl h4
  · exact .inr ⟨b, o, e, by omega, hF b hf hb, hc.move (hm b hf hb)⟩
mutual
theorem RdV.move {F F' : Nat → Prop} {w w' : World} (hF : ∀ k, F k → k < w.heap.size → F' k) (hs : w.heap.size ≤ w'.heap.size) (hm : ∀ k, F k → k < w.heap.size → w'.heap[k]? = w.heap[k]?) :
    ∀ (v : Js.V) (si sn : Value), RdV F w v si sn → RdV F' w' v si sn
  | ⟨_, _, _, _, items, names⟩, si, sn, h => by
    simp only [RdV] at h ⊢
    obtain ⟨⟨A, c, h1, h2, h3, h4⟩, hn⟩ := h
    refine ⟨⟨A, c, h1, h2, h3, ?_⟩, hn.move hF hs hm⟩
    rcases h4 with h4 | ⟨b, o, cs, e, hb, hf, hc, he⟩
    · exact .inl h4
    · exact .inr ⟨b, o, cs, e, by omega, hF b hf hb, hc.move (hm b hf hb), Els.move hF hs hm items cs he⟩
theorem Els.move {F F' : Nat → Prop} {w w' : World} (hF : ∀ k, F k → k < w.heap.size → F' k) (hs : w.heap.size ≤ w'.heap.size) (hm : ∀ k, F k → k < w.heap.size → w'.heap[k]? = w.heap[k]?) :
    ∀ (l : List Js.V) (cs : List Value), Els F w l cs → Els F' w' l cs
  | [], cs, h => by simpa [Els] using h
  | v :: l, cs, h => by
    simp only [Els] at h ⊢
    obtain ⟨si, sn, rest, e, hv, hr⟩ := h
    exact ⟨si, sn, rest, e, RdV.move hF hs hm v si sn hv, Els.move hF hs hm l rest hr⟩
end
/-- Through a change that turns one elder block at most, which is none of F's. -/
theorem RdV.gb {F : Nat → Prop} {w w' : World} {v : Js.V} {si sn : Value} {row : Option Nat} (h : RdV F w v si sn) (hg : w.grownBy w' row) (hne : ∀ k, F k → some k ≠ row) : RdV F w' v si sn :=
  RdV.move (fun _ hk _ => hk) hg.size (fun k hk hl => hg.block k hl (hne k hk)) v si sn h
theorem RdV.mono {F F' : Nat → Prop} {w : World} {v : Js.V} {si sn : Value} (h : RdV F w v si sn) (hF : ∀ k, F k → k < w.heap.size → F' k) : RdV F' w v si sn :=
  RdV.move hF (Nat.le_refl _) (fun _ _ _ => rfl) v si sn h
theorem SlI.move {F F' : Nat → Prop} {w w' : World} {l : List Js.V} {s : Value} (h : SlI F w l s) (hF : ∀ k, F k → k < w.heap.size → F' k) (hs : w.heap.size ≤ w'.heap.size) (hm : ∀ k, F k → k < w.heap.size → w'.heap[k]? = w.heap[k]?) : SlI F' w' l s := by
  obtain ⟨A, c, h1, h2, h3, h4⟩ := h
  refine ⟨A, c, h1, h2, h3, ?_⟩
  rcases h4 with h4 | ⟨b, o, cs, e, hb, hf, hc, he⟩
  · exact .inl h4
  · exact .inr ⟨b, o, cs, e, by omega, hF b hf hb, hc.move (hm b hf hb), Els.move hF hs hm l cs he⟩
theorem SlN.nil (F : Nat → Prop) (w : World) : SlN F w [] (.slice none 0 0) := ⟨none, 0, rfl, Nat.le_refl _, Nat.zero_le _, .inl rfl⟩
theorem SlI.nil (F : Nat → Prop) (w : World) : SlI F w [] (.slice none 0 0) := ⟨none, 0, rfl, Nat.le_refl _, Nat.zero_le _, .inl rfl⟩
theorem RdV.bare (F : Nat → Prop) (w : World) (k : Int) (is : Bool) (n : Js.Nm) (t : Js.Bs) : RdV F w ⟨k, is, n, t, [], []⟩ (.slice none 0 0) (.slice none 0 0) :=
  (RdV_eq _ _ _ _ _).2 ⟨SlI.nil F w, SlN.nil F w⟩

/-- A value's own reader has read v: it hands it back, in new memory; the reader stands as st'. -/
def VDid (w : World) (r : Nat) (v : Js.V) (st' : Js.St) (e : Ending) (w' : World) : Prop :=
  ∃ si sn, e = .returned (.agg (vcs v si sn).toArray) ∧ RdV (fun k => w.heap.size ≤ k) w' v si sn ∧ RSt w' r st' ∧ w.grownBy w' (some r)

/-- A block of eight cells: each read; none frozen. -/
theorem blk8 {w : World} {g : Nat} {t : TypeId} {c0 c1 c2 c3 c4 c5 c6 c7 : Value} (h : w.heap[g]? = some (.cells #[c0, c1, c2, c3, c4, c5, c6, c7] t (0, 0))) :
    (w.cell? ⟨g, 0, none⟩ = some c0 ∧ w.cell? ⟨g, 1, none⟩ = some c1 ∧ w.cell? ⟨g, 2, none⟩ = some c2 ∧ w.cell? ⟨g, 3, none⟩ = some c3 ∧ w.cell? ⟨g, 4, none⟩ = some c4 ∧ w.cell? ⟨g, 5, none⟩ = some c5 ∧ w.cell? ⟨g, 6, none⟩ = some c6 ∧ w.cell? ⟨g, 7, none⟩ = some c7) ∧
    (w.frozen? ⟨g, 0, none⟩ = false ∧ w.frozen? ⟨g, 1, none⟩ = false ∧ w.frozen? ⟨g, 2, none⟩ = false ∧ w.frozen? ⟨g, 3, none⟩ = false ∧ w.frozen? ⟨g, 4, none⟩ = false ∧ w.frozen? ⟨g, 5, none⟩ = false ∧ w.frozen? ⟨g, 6, none⟩ = false ∧ w.frozen? ⟨g, 7, none⟩ = false) :=
  ⟨⟨by rw [blk_c h]; rfl, by rw [blk_c h]; rfl, by rw [blk_c h]; rfl, by rw [blk_c h]; rfl, by rw [blk_c h]; rfl, by rw [blk_c h]; rfl, by rw [blk_c h]; rfl, by rw [blk_c h]; rfl⟩,
    blk_f h 0, blk_f h 1, blk_f h 2, blk_f h 3, blk_f h 4, blk_f h 5, blk_f h 6, blk_f h 7⟩
/-- A value's reader's end: behind its last call (w1), its result's block b0 has been written. -/
theorem VDid.done {w w0 w1 wf : World} {r b0 : Nat} {v : Js.V} {st' : Js.St} {si sn : Value} {e : Ending} (he : e = .returned (.agg (vcs v si sn).toArray)) (h1 : RSt w1 r st')
    (g0 : w.grownBy w0 none) (g1 : w0.grownBy w1 (some r)) (gf : w1.grownBy wf (some b0)) (hb : w.heap.size ≤ b0) (hr : r < w.heap.size) (hv : RdV (fun k => w.heap.size ≤ k) wf v si sn) : VDid w r v st' e wf :=
  ⟨si, sn, he, hv, h1.gb gf (by simp; omega), gb_new' (gb_trans (gb_any g0) g1) gf hb⟩

end Go.Proofs.YtocjlbpehfpdoaaGreatDoor
