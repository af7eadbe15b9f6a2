
/- Abstract data over memory: values without addresses, and the relation between them and the model's values. No program in sight. -/
import Derived.WalkKit
import Derived.Lib.Hide
namespace Go.Proofs.Ytiaenojpbiahgaa
open Go
set_option linter.unusedVariables false

/-- The name of a piece of memory that a call owns. -/
abbrev Nm := Nat × Nat
/-- Data without addresses. -/
inductive D where
  | v (x : Value)
  | any
  | agg (cs : List D)
  | tup (cs : List D)
  | sl (l : List (List D))
  | ip (f : List D)
  | mt
  | own (i : Nm) (g off n : Nat)
  | ptr (i : Nm) (g r c : Nat)
  | clo (f : FuncId) (fs cs : List D)
/-- A piece of memory: how often it has moved, its rows and their length. -/
structure En where
  g : Nat
  sz : Nat
  rows : List (List D)
/-- What a call owns. -/
abbrev Hp := Nm → Option En
def Hp.none : Hp := fun _ => Option.none
def Hp.put (H : Hp) (i : Nm) (e : En) : Hp := fun j => if j = i then some e else H j
def one : Value → Bool
  | .agg _ => false
  | .tuple _ => false
  | _ => true
/-- A cell of a heap. -/
def hc (h : Array Obj) (b o : Nat) : Option Value :=
  match h[b]? with
  | some (.cells c _ _) => c[o]?
  | _ => Option.none
theorem hc_cell (w : World) (b o : Nat) : w.cell? ⟨b, o, Option.none⟩ = hc w.heap b o := by
  unfold World.cell? hc
  cases w.heap[b]? with
  | none => rfl
  | some x => cases x <;> rfl
theorem hc_of {h h' : Array Obj} {b : Nat} (e : h'[b]? = h[b]?) (o : Nat) : hc h' b o = hc h b o := by
  unfold hc
  rw [e]

/-- Plain data: they lie in memory that nobody writes (the blocks Im). -/
inductive RelP (Im : Nat → Prop) (h : Array Obj) : D → Value → Prop where
  | v (x : Value) : RelP Im h (.v x) x
  | any (x : Value) : RelP Im h .any x
  | mt (a : Option Addr) : RelP Im h .mt (.slice a 0 0)
  | sl0 (a : Option Addr) (cap : Nat) : RelP Im h (.sl []) (.slice a 0 cap)
  | sl1 (l : List (List D)) (b o n cap sz : Nat) (u : Nat → Nat → Value) (hl : l.length = n) (hn : n ≤ cap) (hsz : ∀ r ∈ l, r.length = sz) (him : Im b)
      (hcell : ∀ i j, i < n → j < sz → hc h b (o + i * sz + j) = some (u i j) ∧ one (u i j) = true)
      (hrel : ∀ i j (hi : i < l.length) (hj : j < l[i].length), RelP Im h l[i][j] (u i j)) : RelP Im h (.sl l) (.slice (some ⟨b, o, Option.none⟩) n cap)
theorem RelP.mono {Im Im' : Nat → Prop} {h h' : Array Obj} (hi : ∀ b, Im b → Im' b) (hb : ∀ b, Im b → h'[b]? = h[b]?) {d : D} {x : Value} (r : RelP Im h d x) : RelP Im' h' d x := by
  induction r with
  | v x => exact .v x
  | any x => exact .any x
  | mt a => exact .mt a
  | sl0 a cap => exact .sl0 a cap
  | sl1 l b o n cap sz u hl hn hsz him hcell hrel ih =>
    exact .sl1 l b o n cap sz u hl hn hsz (hi b him) (fun i j h1 h2 => by rw [hc_of (hb b him)]; exact hcell i j h1 h2) ih

/-- Block and first cell of what a name names. -/
abbrev Pl := Nm → Nat × Nat
/-- Data of a call, and the model's value. -/
inductive Rel (Im : Nat → Prop) (p : Pl) (H : Hp) (h : Array Obj) : D → Value → Prop where
  | p {d : D} {x : Value} (r : RelP Im h d x) : Rel Im p H h d x
  | agg (cs : List D) (us : Array Value) (hl : cs.length = us.size) (h1 : ∀ (j : Nat) (u : Value), us[j]? = some u → one u = true) (hr : ∀ (j : Nat) (d : D) (u : Value), cs[j]? = some d → us[j]? = some u → Rel Im p H h d u) : Rel Im p H h (.agg cs) (.agg us)
  | tup (cs : List D) (us : Array Value) (hl : cs.length = us.size) (hr : ∀ (j : Nat) (d : D) (u : Value), cs[j]? = some d → us[j]? = some u → Rel Im p H h d u) : Rel Im p H h (.tup cs) (.tuple us)
  | ip (f : List D) (b o : Nat) (u : Nat → Value) (him : Im b) (hcell : ∀ j, j < f.length → hc h b (o + j) = some (u j) ∧ one (u j) = true) (hr : ∀ (j : Nat) (d : D), f[j]? = some d → RelP Im h d (u j)) : Rel Im p H h (.ip f) (.pointer (some ⟨b, o, Option.none⟩))
  | own (i : Nm) (g off n : Nat) (a : Option Addr) (cap : Nat) (e : En) (hH : H i = some e) (hg : g ≤ e.g) (hn : n ≤ cap)
      (hl : g = e.g → 0 < cap → a = some ⟨(p i).1, (p i).2 + off * e.sz, Option.none⟩ ∧ e.rows ≠ [] ∧ ∃ c t, h[(p i).1]? = some (.cells c t (0, 0)) ∧ (p i).2 + (off + cap) * e.sz ≤ c.size) : Rel Im p H h (.own i g off n) (.slice a n cap)
  | ptr (i : Nm) (g r c : Nat) (x : Value) (h1 : one x = true) (e : En) (hH : H i = some e) (hg : g ≤ e.g) (hx : g = e.g → x = .pointer (some ⟨(p i).1, (p i).2 + r * e.sz + c, Option.none⟩)) : Rel Im p H h (.ptr i g r c) x
  | clo (f : FuncId) (fs cs : List D) (us vs : Array Value) (hl : fs.length = us.size) (hl' : cs.length = vs.size)
      (hr : ∀ (j : Nat) (d : D) (u : Value), fs[j]? = some d → us[j]? = some u → Rel Im p H h d u) (hr' : ∀ (j : Nat) (d : D) (u : Value), cs[j]? = some d → vs[j]? = some u → Rel Im p H h d u) : Rel Im p H h (.clo f fs cs) (.func (.func f) us vs)
/-- What may happen to memory between two looks: nothing that is claimed breaks. -/
structure Grows (Im : Nat → Prop) (p : Pl) (H : Hp) (h : Array Obj) (Im' : Nat → Prop) (p' : Pl) (H' : Hp) (h' : Array Obj) : Prop where
  im : ∀ b, Im b → Im' b
  blk : ∀ b, Im b → h'[b]? = h[b]?
  ids : ∀ i e, H i = some e → ∃ e', H' i = some e' ∧ e.g ≤ e'.g ∧ (e.g = e'.g → p' i = p i ∧ e'.sz = e.sz ∧ (e.rows ≠ [] → e'.rows ≠ [] ∧ ∀ c t, h[(p i).1]? = some (.cells c t (0, 0)) → ∃ c', h'[(p i).1]? = some (.cells c' t (0, 0)) ∧ c'.size = c.size))
theorem Rel.mono {Im Im' : Nat → Prop} {p p' : Pl} {H H' : Hp} {h h' : Array Obj} (G : Grows Im p H h Im' p' H' h') {d : D} {x : Value} (r : Rel Im p H h d x) : Rel Im' p' H' h' d x := by
  induction r with
  | p r => exact .p (r.mono G.im G.blk)
  | agg cs us hl h1 hr ih => exact .agg cs us hl h1 ih
  | tup cs us hl hr ih => exact .tup cs us hl ih
  | ip f b o u him hcell hr => exact .ip f b o u (G.im b him) (fun j hj => by rw [hc_of (G.blk b him)]; exact hcell j hj) (fun j d hj => (hr j d hj).mono G.im G.blk)
  | own i g off n a cap e hH hg hn hl =>
    obtain ⟨e2, h2, hg2, hk⟩ := G.ids i e hH
    refine .own i g off n a cap e2 h2 (Nat.le_trans hg hg2) hn fun ee hcap => ?_
    obtain ⟨k1, k0, k2⟩ := hk (by omega)
    obtain ⟨q1, q2, c, t, q3, q4⟩ := hl (by omega) hcap
    obtain ⟨k3, k4⟩ := k2 q2
    obtain ⟨c', k5, k6⟩ := k4 c t q3
    rw [k1, k0]
    exact ⟨q1, k3, c', t, k5, by omega⟩
  | ptr i g r c x h1 e hH hg hx =>
    obtain ⟨e2, h2, hg2, hk⟩ := G.ids i e hH
    refine .ptr i g r c x h1 e2 h2 (Nat.le_trans hg hg2) fun ee => ?_
    obtain ⟨k1, k0, _⟩ := hk (by omega)
    rw [k1, k0]
    exact hx (by omega)
  | clo f fs cs us vs hl hl' hr hr' ih ih' => exact .clo f fs cs us vs hl hl' ih ih'
theorem Grows.refl (Im : Nat → Prop) (p : Pl) (H : Hp) (h : Array Obj) : Grows Im p H h Im p H h :=
  ⟨fun _ h => h, fun _ _ => rfl, fun i e he => ⟨e, he, Nat.le_refl _, fun _ => ⟨rfl, rfl, fun hn => ⟨hn, fun c t hc => ⟨c, hc, rfl⟩⟩⟩⟩⟩

/-- The rows of a name's block. -/
structure RowsAt (Im : Nat → Prop) (p : Pl) (H : Hp) (h : Array Obj) (c : Array Value) (s sz : Nat) (rows : List (List D)) : Prop where
  len : ∀ r ∈ rows, r.length = sz
  le : s + rows.length * sz ≤ c.size
  cell : ∀ (r j : Nat) (row : List D) (d : D), rows[r]? = some row → row[j]? = some d → ∃ u, c[s + r * sz + j]? = some u ∧ Rel Im p H h d u ∧ one u = true
/-- What a call owns lies in memory, each piece in a block of its own, apart from all plain data. -/
structure RelH (Im : Nat → Prop) (p : Pl) (H : Hp) (h : Array Obj) : Prop where
  cell : ∀ i e, H i = some e → e.rows ≠ [] → ∃ c t, h[(p i).1]? = some (.cells c t (0, 0)) ∧ ¬ Im (p i).1 ∧ RowsAt Im p H h c (p i).2 e.sz e.rows
  inj : ∀ i j e e', H i = some e → H j = some e' → e.rows ≠ [] → e'.rows ≠ [] → i ≠ j → (p i).1 ≠ (p j).1
  im : ∀ b, Im b → b < h.size
/-- Where a call began: the world, the plain blocks, the blocks that it may write, the number of temporaries. -/
structure Ent where
  w : World
  Im : Nat → Prop
  B : Nat → Prop
  n : Nat
  p : Pl
  H : Hp
structure RelE (E : Ent) (Im : Nat → Prop) (p : Pl) (H : Hp) (w : World) : Prop where
  os : w.os = E.w.os
  tape : w.tape = E.w.tape
  output : w.output = E.w.output
  size : E.w.heap.size ≤ w.heap.size
  block : ∀ b, b < E.w.heap.size → ¬ E.B b → w.heap[b]? = E.w.heap[b]?
  im : ∀ b, E.Im b → Im b
  im' : ∀ b, Im b → E.Im b ∨ E.B b ∨ E.w.heap.size ≤ b
  ids : ∀ i e, H i = some e → e.rows ≠ [] → E.B (p i).1 ∨ E.w.heap.size ≤ (p i).1
/-- The temporaries. -/
abbrev Fr := Nat → D
structure St where
  F : Fr
  H : Hp
structure RelS (E : Ent) (Im : Nat → Prop) (p : Pl) (s : St) (a : Act) (w : World) : Prop where
  sz : a.tmps.size = E.n
  fr : ∀ t, Rel Im p s.H w.heap (s.F t) (a.tmps.getD t undef)
  hp : RelH Im p s.H w.heap
  en : RelE E Im p s.H w
  gr : Grows E.Im E.p E.H E.w.heap Im p s.H w.heap
  df : a.defers = []
end Go.Proofs.Ytiaenojpbiahgaa
