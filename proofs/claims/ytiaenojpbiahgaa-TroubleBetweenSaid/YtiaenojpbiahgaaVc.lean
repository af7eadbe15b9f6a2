
/- Operations over abstract data: what each does. No program in sight. -/
import Derived.Test.YtiaenojpbiahgaaVb
namespace Go.Proofs.Ytiaenojpbiahgaa
open Go
set_option linter.unusedVariables false

inductive Opd where
  | t (n : Nat)
  | c (d : D)
def Opd.ev (F : Fr) : Opd → D
  | .t n => F n
  | .c d => d
inductive K where
  | mv (x : Opd)
  | pick (c a b : Opd)
  | new (z : List D)
  | box (sz : Nat) (x : Opd)
  | bld (z : List D) (ps : List (Nat × Nat × Opd))
  | bsl (sz n : Nat) (z : List D) (ps : List (Nat × Opd))
  | ld (sz : Nat) (ag : Bool) (x : Opd)
  | st (sz : Nat) (x y : Opd)
  | nck (x : Opd)
  | bin (op : BinOp) (x y : Opd)
  | beq (ng : Bool) (x y : Opd)
  | eqa (ng : Bool) (ks : List Nat) (x y : Opd)
  | bts (x : Opd)
  | not (x : Opd)
  | neg (x : Opd)
  | cvi (k : IntKind) (x : Opd)
  | fa (off : Nat) (x : Opd)
  | iaA (n sz : Nat) (x i : Opd)
  | iaS (sz : Nat) (x i : Opd)
  | fld (off sz : Nat) (ag : Bool) (x : Opd)
  | ixA (n sz : Nat) (ag : Bool) (x i : Opd)
  | ixS (x i : Opd)
  | ext (x : Opd) (i : Nat)
  | mkf (f : FuncId) (fs cs : List Opd)
  | len (x : Opd)
  | lenS (x : Opd)
  | app (sz bytes : Nat) (x y : Opd)
  | mks (sz bytes : Nat) (z : List D) (n : Opd)
  | slc (sz : Nat) (x : Opd) (lo hi : Option Opd)
  | mnx (mx : Bool) (x y : Opd)
  | call (f : FuncId) (args : List Opd)
  | callv (x : Opd) (args : List Opd)

/-- What an operation asks for, which names it reads, what it yields, which name it writes. -/
structure Out where
  cond : Prop
  rs : List Nm
  v : D
  ws : Option (Nm × En)
def Hp.puto (H : Hp) : Option (Nm × En) → Hp
  | Option.none => H
  | some (i, e) => H.put i e
/-- The cells of data that fill cells. -/
def D.cells : D → Option (List D)
  | .agg cs => some cs
  | .tup _ => Option.none
  | .any => Option.none
  | .v x => if one x = true then some [.v x] else Option.none
  | d => some [d]
/-- A row in which some cells are others. -/
def put1 (row : List D) (c : Nat) (ds : List D) : List D :=
  match ds with
  | [d] => row.set c d
  | _ => row.take c ++ ds ++ row.drop (c + ds.length)
def cellsAt (row : List D) (c sz : Nat) (ag : Bool) : D := if ag = true then .agg ((row.drop c).take sz) else row.getD c .any
def fillD (F : Fr) : List (Nat × Nat × Opd) → List D → Option (List D)
  | [], z => some z
  | (off, sz, x) :: ps, z =>
    match (x.ev F).cells with
    | some ds => if ds.length = sz ∧ off + sz ≤ z.length then fillD F ps (put1 z off ds) else Option.none
    | Option.none => Option.none
def fillR (F : Fr) (sz : Nat) : List (Nat × Opd) → List (List D) → Option (List (List D))
  | [], z => some z
  | (i, x) :: ps, z =>
    match (x.ev F).cells with
    | some ds => if ds.length = sz ∧ i < z.length then fillR F sz ps (z.set i ds) else Option.none
    | Option.none => Option.none
def D.nat : D → Option Int
  | .v (.int _ n) => some n
  | _ => Option.none
/-- The elements of a slice: names read, rows. -/
def rowsOf (H : Hp) : D → Option (List Nm × List (List D))
  | .sl l => some ([], l)
  | .mt => some ([], [])
  | .own i g off n =>
    match H i with
    | some e => if e.g = g ∧ off + n ≤ e.rows.length then some ([i], (e.rows.drop off).take n) else Option.none
    | Option.none => Option.none
  | _ => Option.none
def lenOf : D → Option Nat
  | .sl l => some l.length
  | .mt => some 0
  | .own _ _ _ n => some n
  | _ => Option.none
def cmpI (op : BinOp) (x y : Int) : Option Bool :=
  match op with
  | .eql => some (x == y)
  | .neq => some (x != y)
  | .lss => some (decide (x < y))
  | .leq => some (decide (x ≤ y))
  | .gtr => some (decide (x > y))
  | .geq => some (decide (x ≥ y))
  | _ => Option.none
def binI (op : BinOp) (k : IntKind) (x y : Int) : Option (Prop × Value) :=
  match op with
  | .add => some (True, .int k (k.wrap (x + y)))
  | .sub => some (True, .int k (k.wrap (x - y)))
  | .mul => some (True, .int k (k.wrap (x * y)))
  | .quo => some (y ≠ 0, .int k (k.wrap (x.tdiv y)))
  | .rem => some (y ≠ 0, .int k (x.tmod y))
  | .shl => some (0 ≤ y, .int k (k.wrap (x * 2 ^ (min y.toNat k.bits))))
  | .shr => some (0 ≤ y, .int k (x.fdiv (2 ^ (min y.toNat k.bits))))
  | .and => some (True, .int k (k.wrap (BitVec.ofInt k.bits x &&& BitVec.ofInt k.bits y).toNat))
  | .or => some (True, .int k (k.wrap (BitVec.ofInt k.bits x ||| BitVec.ofInt k.bits y).toNat))
  | _ =>
    match cmpI op x y with
    | some b => some (True, .bool b)
    | Option.none => Option.none
def binD (op : BinOp) : Value → Value → Option (Prop × Value)
  | .int k x, .int k' y => if k = k' ∨ op = .shl ∨ op = .shr then binI op k x y else Option.none
  | .bool x, .bool y => Option.none
  | .string x, .string y =>
    match op with
    | .eql => some (True, .bool (x.toList == y.toList))
    | .neq => some (True, .bool !(x.toList == y.toList))
    | .add => some (((x.size + y.size : Nat) : Int) ≤ 9223372036854775807, .string (x ++ y))
    | _ => Option.none
  | _, _ => Option.none
/-- Are two cells equal? 0: numbers, 1: Booleans, 2: strings. -/
def eqOne : Nat → D → D → Option Bool
  | 0, .v (.int k a), .v (.int k' b) => if k = k' then some (a == b) else Option.none
  | 1, .v (.bool a), .v (.bool b) => some (a == b)
  | 2, .v (.string a), .v (.string b) => some (a.toList == b.toList)
  | _, _, _ => Option.none
def eqL : List Nat → List D → List D → Option Bool
  | [], [], [] => some true
  | k :: ks, a :: as, b :: bs =>
    match eqOne k a b, eqL ks as bs with
    | some x, some y => some (x && y)
    | _, _ => Option.none
  | _, _, _ => Option.none
/-- Bytes out of cells. -/
def bytesD : List (List D) → Option (List Int)
  | [] => some []
  | [.v (.int .u8 n)] :: l =>
    match bytesD l with
    | some ns => some (n :: ns)
    | Option.none => Option.none
  | _ => Option.none
def strOf (ns : List Int) : ByteArray := ns.foldl (fun r n => r.push (UInt8.ofNat n.toNat)) ByteArray.empty
/-- A bound of a slice expression. -/
def bnd (F : Fr) (o : Option Opd) (n : Int) : Option Int :=
  match o with
  | some y => (y.ev F).nat
  | Option.none => some n
def mapEv (F : Fr) : List Opd → List D
  | [] => []
  | x :: xs => x.ev F :: mapEv F xs
def Out.pure (d : D) : Option Out := some ⟨True, [], d, Option.none⟩
/-- What the operation does. nm: the name of what it makes. -/
def eff (nm : Nm) (F : Fr) (H : Hp) : K → Option Out
  | .mv x => Out.pure (x.ev F)
  | .pick c a b =>
    match c.ev F with
    | .v (.bool t) => Out.pure (if t = true then a.ev F else b.ev F)
    | _ => Option.none
  | .new z =>
    match H nm with
    | Option.none => some ⟨True, [nm], .ptr nm 0 0 0, some (nm, ⟨0, z.length, [z]⟩)⟩
    | some _ => Option.none
  | .box sz x =>
    match H nm, (x.ev F).cells with
    | Option.none, some ds => some ⟨ds.length = sz, [nm], .ptr nm 0 0 0, some (nm, ⟨0, sz, [ds]⟩)⟩
    | _, _ => Option.none
  | .bld z ps =>
    match fillD F ps z with
    | some cs => Out.pure (.agg cs)
    | Option.none => Option.none
  | .bsl sz n z ps =>
    match H nm, fillR F sz ps (List.replicate n z) with
    | Option.none, some rows => some ⟨True, [nm], .own nm 0 0 n, some (nm, ⟨0, sz, rows⟩)⟩
    | _, _ => Option.none
  | .ld sz ag x =>
    match x.ev F with
    | .ptr i g r c =>
      match H i with
      | some e => if e.g = g then some ⟨r < e.rows.length ∧ c + sz ≤ (e.rows.getD r []).length, [i], cellsAt (e.rows.getD r []) c sz ag, Option.none⟩ else Option.none
      | Option.none => Option.none
    | .ip f => some ⟨sz ≤ f.length, [], cellsAt f 0 sz ag, Option.none⟩
    | _ => Option.none
  | .st sz x y =>
    match x.ev F, (y.ev F).cells with
    | .ptr i g r c, some ds =>
      match H i with
      | some e => if e.g = g then some ⟨ds.length = sz ∧ r < e.rows.length ∧ c + sz ≤ (e.rows.getD r []).length, [i], .any, some (i, ⟨e.g, e.sz, e.rows.set r (put1 (e.rows.getD r []) c ds)⟩)⟩ else Option.none
      | Option.none => Option.none
    | _, _ => Option.none
  | .nck x =>
    match x.ev F with
    | .ptr i g r c =>
      match H i with
      | some e => if e.g = g then some ⟨True, [i], .ptr i g r c, Option.none⟩ else Option.none
      | Option.none => Option.none
    | .ip f => Out.pure (.ip f)
    | .clo f fs cs => Out.pure (.clo f fs cs)
    | _ => Option.none
  | .bin op x y =>
    match x.ev F, y.ev F with
    | .v a, .v b =>
      match binD op a b with
      | some (c, r) => some ⟨c, [], .v r, Option.none⟩
      | Option.none => Option.none
    | _, _ => Option.none
  | .beq ng x y =>
    match x.ev F, y.ev F with
    | .v (.bool a), .v (.bool b) => Out.pure (.v (.bool (if ng = true then !(a == b) else (a == b))))
    | _, _ => Option.none
  | .eqa ng ks x y =>
    match x.ev F, y.ev F with
    | .agg as, .agg bs =>
      match eqL ks as bs with
      | some b => Out.pure (.v (.bool (if ng = true then !b else b)))
      | Option.none => Option.none
    | _, _ => Option.none
  | .bts x =>
    match rowsOf H (x.ev F) with
    | some (ys, l) =>
      match bytesD l with
      | some ns => some ⟨∀ r ∈ l, r.length = 1, ys, .v (.string (strOf ns)), Option.none⟩
      | Option.none => Option.none
    | Option.none => Option.none
  | .not x =>
    match x.ev F with
    | .v (.bool b) => Out.pure (.v (.bool (!b)))
    | _ => Option.none
  | .neg x =>
    match x.ev F with
    | .v (.int k n) => Out.pure (.v (.int k (k.wrap (0 - n))))
    | _ => Option.none
  | .cvi k x =>
    match x.ev F with
    | .v (.int _ n) => Out.pure (.v (.int k (k.wrap n)))
    | _ => Option.none
  | .fa off x =>
    match x.ev F with
    | .ptr i g r c =>
      match H i with
      | some e => if e.g = g then some ⟨True, [i], .ptr i g r (c + off), Option.none⟩ else Option.none
      | Option.none => Option.none
    | .ip f => Out.pure (.ip (f.drop off))
    | _ => Option.none
  | .iaA n sz x i =>
    match x.ev F, (i.ev F).nat with
    | .ptr j g r c, some k =>
      match H j with
      | some e => if e.g = g then some ⟨0 ≤ k ∧ k < n, [j], .ptr j g r (c + k.toNat * sz), Option.none⟩ else Option.none
      | Option.none => Option.none
    | .ip f, some k => some ⟨0 ≤ k ∧ k < n, [], .ip (f.drop (k.toNat * sz)), Option.none⟩
    | _, _ => Option.none
  | .iaS sz x i =>
    match x.ev F, (i.ev F).nat with
    | .sl l, some k => some ⟨0 ≤ k ∧ k < l.length ∧ (l.getD k.toNat []).length = sz, [], .ip (l.getD k.toNat []), Option.none⟩
    | .own j g off n, some k =>
      match H j with
      | some e => if e.g = g then some ⟨0 ≤ k ∧ k < n ∧ e.sz = sz, [j], .ptr j g (off + k.toNat) 0, Option.none⟩ else Option.none
      | Option.none => Option.none
    | _, _ => Option.none
  | .fld off sz ag x =>
    match x.ev F with
    | .agg cs => some ⟨off + sz ≤ cs.length, [], cellsAt cs off sz ag, Option.none⟩
    | _ => Option.none
  | .ixA n sz ag x i =>
    match x.ev F, (i.ev F).nat with
    | .agg cs, some k => some ⟨0 ≤ k ∧ k < n ∧ k.toNat * sz + sz ≤ cs.length, [], cellsAt cs (k.toNat * sz) sz ag, Option.none⟩
    | _, _ => Option.none
  | .ixS x i =>
    match x.ev F, (i.ev F).nat with
    | .v (.string s), some k => some ⟨0 ≤ k ∧ k < s.size, [], .v (.int .u8 (s.data.getD k.toNat 0).toNat), Option.none⟩
    | _, _ => Option.none
  | .ext x i =>
    match x.ev F with
    | .tup cs => some ⟨i < cs.length, [], cs.getD i .any, Option.none⟩
    | _ => Option.none
  | .mkf f fs cs => Out.pure (.clo f (mapEv F fs) (mapEv F cs))
  | .len x =>
    match lenOf (x.ev F) with
    | some n => Out.pure (.v (.int .i64 n))
    | Option.none => Option.none
  | .lenS x =>
    match x.ev F with
    | .v (.string s) => Out.pure (.v (.int .i64 s.size))
    | _ => Option.none
  | .app sz bytes x y =>
    match rowsOf H (y.ev F), x.ev F with
    | some (ys, l), .mt =>
      match H nm with
      | Option.none => some ⟨(∀ r ∈ l, r.length = sz) ∧ l.length * bytes ≤ 140737488355328 ∧ l.length ≤ 4611686018427387904, nm :: ys, .own nm 0 0 l.length, some (nm, ⟨0, sz, l⟩)⟩
      | some _ => Option.none
    | some (ys, l), .own i g off n =>
      match H i with
      | some e =>
        if e.g = g ∧ e.sz = sz ∧ off + n = e.rows.length then
          some ⟨(∀ r ∈ l, r.length = sz) ∧ (n + l.length) * bytes ≤ 140737488355328 ∧ n + l.length ≤ 4611686018427387904 ∧ (off = 0 ∨ 0 < n + l.length), i :: ys, .own i (g + 1) 0 (n + l.length), some (i, ⟨g + 1, sz, e.rows.drop off ++ l⟩)⟩
        else Option.none
      | Option.none => Option.none
    | _, _ => Option.none
  | .mks sz bytes z n =>
    match H nm, (n.ev F).nat with
    | Option.none, some k => some ⟨0 ≤ k ∧ bytes * k ≤ 281474976710656 ∧ k ≤ 4611686018427387904, [nm], .own nm 0 0 k.toNat, some (nm, ⟨0, sz, List.replicate k.toNat z⟩)⟩
    | _, _ => Option.none
  | .slc sz x lo hi =>
    match x.ev F, bnd F lo 0 with
    | .sl l, some a =>
      match bnd F hi (l.length : Int) with
      | some b => some ⟨0 ≤ a ∧ a ≤ b ∧ b ≤ l.length ∧ (a = 0 ∨ (l.getD 0 []).length = sz), [], .sl ((l.drop a.toNat).take (b.toNat - a.toNat)), Option.none⟩
      | Option.none => Option.none
    | .own i g off n, some a =>
      match bnd F hi (n : Int) with
      | some b =>
        match H i with
        | some e => if e.g = g then some ⟨0 ≤ a ∧ a ≤ b ∧ b ≤ n ∧ (a = 0 ∨ e.sz = sz), [i], .own i g (off + a.toNat) (b.toNat - a.toNat), Option.none⟩ else Option.none
        | Option.none => Option.none
      | Option.none => Option.none
    | .mt, some a =>
      match bnd F hi (0 : Int) with
      | some b => some ⟨a = 0 ∧ b = 0, [], .mt, Option.none⟩
      | Option.none => Option.none
    | _, _ => Option.none
  | .mnx mx x y =>
    match x.ev F, y.ev F with
    | .v (.int k a), .v (.int k' b) => Out.pure (.v (.int k (if mx = true then (if b > a then b else a) else (if b < a then b else a))))
    | _, _ => Option.none
  | .call _ _ => Option.none
  | .callv _ _ => Option.none
/-- The function that is called, and its arguments. -/
def callee (F : Fr) : K → Option (FuncId × List D)
  | .call f args => some (f, mapEv F args)
  | .callv x args =>
    match x.ev F with
    | .clo f fs cs => some (f, fs ++ mapEv F args ++ cs)
    | _ => Option.none
  | _ => Option.none
end Go.Proofs.Ytiaenojpbiahgaa
