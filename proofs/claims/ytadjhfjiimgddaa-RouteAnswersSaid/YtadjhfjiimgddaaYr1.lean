/- RouteAnswers: V1. -/
import Derived.WalkKit
import Derived.Lib.Hide
import Derived.Deep.MidRow
import Derived.Laws.CopyRow
import Derived.Laws.MakeOwn
import Derived.Deep.AppendSrc
set_option linter.unusedSimpArgs false
set_option linter.unusedVariables false

/- Abstract data over memory: values without addresses, and the relation between them and the model's values. No program in sight. -/
namespace Go.Proofs.Ytadjhfjiimgddaa
open Go
abbrev Nm := Nat × Nat
inductive D where
 | v (x : Value)
 | any
 | agg (cs : List D)
 | tup (cs : List D)
 | sl (l : List (List D))
 | ip (f : List D)
 | mt
 | own (i : Nm) (g off n : Nat)
 | ptr (i : Nm) (g r c : Nat)
 | clo (f : FuncId) (fs cs : List D)
structure En where
 g : Nat
 sz : Nat
 rows : List (List D)
abbrev Hp := Nm → Option En
def Hp.none : Hp := fun _ => Option.none
def Hp.put (H : Hp) (i : Nm) (e : En) : Hp := fun j => if j = i then some e else H j
def one : Value → Bool
 | .agg _ => false
 | .tuple _ => false
 | _ => true
def hc (h : Array Obj) (b o : Nat) : Option Value :=
 match h[b]? with
 | some (.cells c _ _) => c[o]?
 | _ => Option.none
theorem hc_cell (w : World) (b o : Nat) : w.cell? ⟨b, o, Option.none⟩ = hc w.heap b o := by
 unfold World.cell? hc
 cases w.heap[b]? with
 | none => rfl
 | some x => cases x <;> rfl
theorem hc_of {h h' : Array Obj} {b : Nat} (e : h'[b]? = h[b]?) (o : Nat) : hc h' b o = hc h b o := by
 unfold hc
 rw [e]
inductive RelP (Im : Nat → Prop) (h : Array Obj) : D → Value → Prop where
 | v (x : Value) : RelP Im h (.v x) x
 | any (x : Value) : RelP Im h .any x
 | mt (a : Option Addr) : RelP Im h .mt (.slice a 0 0)
 | sl0 (a : Option Addr) (cap : Nat) : RelP Im h (.sl []) (.slice a 0 cap)
 | sl1 (l : List (List D)) (b o n cap sz : Nat) (u : Nat → Nat → Value) (hl : l.length = n) (hn : n ≤ cap) (hsz : ∀ r ∈ l, r.length = sz) (him : Im b)
   (hcell : ∀ i j, i < n → j < sz → hc h b (o + i * sz + j) = some (u i j) ∧ one (u i j) = true)
   (hrel : ∀ i j (hi : i < l.length) (hj : j < l[i].length), RelP Im h l[i][j] (u i j)) : RelP Im h (.sl l) (.slice (some ⟨b, o, Option.none⟩) n cap)
theorem RelP.mono {Im Im' : Nat → Prop} {h h' : Array Obj} (hi : ∀ b, Im b → Im' b) (hb : ∀ b, Im b → h'[b]? = h[b]?) {d : D} {x : Value} (r : RelP Im h d x) : RelP Im' h' d x := by
 induction r with
 | v x => exact .v x
 | any x => exact .any x
 | mt a => exact .mt a
 | sl0 a cap => exact .sl0 a cap
 | sl1 l b o n cap sz u hl hn hsz him hcell hrel ih =>
  exact .sl1 l b o n cap sz u hl hn hsz (hi b him) (fun i j h1 h2 => by rw [hc_of (hb b him)]; exact hcell i j h1 h2) ih
abbrev Pl := Nm → Nat × Nat
inductive Rel (Im : Nat → Prop) (p : Pl) (H : Hp) (h : Array Obj) : D → Value → Prop where
 | p {d : D} {x : Value} (r : RelP Im h d x) : Rel Im p H h d x
 | agg (cs : List D) (us : Array Value) (hl : cs.length = us.size) (h1 : ∀ (j : Nat) (u : Value), us[j]? = some u → one u = true) (hr : ∀ (j : Nat) (d : D) (u : Value), cs[j]? = some d → us[j]? = some u → Rel Im p H h d u) : Rel Im p H h (.agg cs) (.agg us)
 | tup (cs : List D) (us : Array Value) (hl : cs.length = us.size) (hr : ∀ (j : Nat) (d : D) (u : Value), cs[j]? = some d → us[j]? = some u → Rel Im p H h d u) : Rel Im p H h (.tup cs) (.tuple us)
 | ip (f : List D) (b o : Nat) (u : Nat → Value) (him : Im b) (hcell : ∀ j, j < f.length → hc h b (o + j) = some (u j) ∧ one (u j) = true) (hr : ∀ (j : Nat) (d : D), f[j]? = some d → RelP Im h d (u j)) : Rel Im p H h (.ip f) (.pointer (some ⟨b, o, Option.none⟩))
 | own (i : Nm) (g off n : Nat) (a : Option Addr) (cap : Nat) (e : En) (hH : H i = some e) (hg : g ≤ e.g) (hn : n ≤ cap)
   (hl : g = e.g → 0 < cap → a = some ⟨(p i).1, (p i).2 + off * e.sz, Option.none⟩ ∧ e.rows ≠ [] ∧ ∃ c t, h[(p i).1]? = some (.cells c t (0, 0)) ∧ (p i).2 + (off + cap) * e.sz ≤ c.size) : Rel Im p H h (.own i g off n) (.slice a n cap)
 | ptr (i : Nm) (g r c : Nat) (x : Value) (h1 : one x = true) (e : En) (hH : H i = some e) (hg : g ≤ e.g) (hx : g = e.g → x = .pointer (some ⟨(p i).1, (p i).2 + r * e.sz + c, Option.none⟩)) : Rel Im p H h (.ptr i g r c) x
 | clo (f : FuncId) (fs cs : List D) (us vs : Array Value) (hl : fs.length = us.size) (hl' : cs.length = vs.size)
   (hr : ∀ (j : Nat) (d : D) (u : Value), fs[j]? = some d → us[j]? = some u → Rel Im p H h d u) (hr' : ∀ (j : Nat) (d : D) (u : Value), cs[j]? = some d → vs[j]? = some u → Rel Im p H h d u) : Rel Im p H h (.clo f fs cs) (.func (.func f) us vs)
structure Grows (Im : Nat → Prop) (p : Pl) (H : Hp) (h : Array Obj) (Im' : Nat → Prop) (p' : Pl) (H' : Hp) (h' : Array Obj) : Prop where
 im : ∀ b, Im b → Im' b
 blk : ∀ b, Im b → h'[b]? = h[b]?
 ids : ∀ i e, H i = some e → ∃ e', H' i = some e' ∧ e.g ≤ e'.g ∧ (e.g = e'.g → p' i = p i ∧ e'.sz = e.sz ∧ (e.rows ≠ [] → e'.rows ≠ [] ∧ ∀ c t, h[(p i).1]? = some (.cells c t (0, 0)) → ∃ c', h'[(p i).1]? = some (.cells c' t (0, 0)) ∧ c'.size = c.size))
theorem Rel.mono {Im Im' : Nat → Prop} {p p' : Pl} {H H' : Hp} {h h' : Array Obj} (G : Grows Im p H h Im' p' H' h') {d : D} {x : Value} (r : Rel Im p H h d x) : Rel Im' p' H' h' d x := by
 induction r with
 | p r => exact .p (r.mono G.im G.blk)
 | agg cs us hl h1 hr ih => exact .agg cs us hl h1 ih
 | tup cs us hl hr ih => exact .tup cs us hl ih
 | ip f b o u him hcell hr => exact .ip f b o u (G.im b him) (fun j hj => by rw [hc_of (G.blk b him)]; exact hcell j hj) (fun j d hj => (hr j d hj).mono G.im G.blk)
 | own i g off n a cap e hH hg hn hl =>
  obtain ⟨e2, h2, hg2, hk⟩ := G.ids i e hH
  refine .own i g off n a cap e2 h2 (Nat.le_trans hg hg2) hn fun ee hcap => ?_
  obtain ⟨k1, k0, k2⟩ := hk (by omega)
  obtain ⟨q1, q2, c, t, q3, q4⟩ := hl (by omega) hcap
  obtain ⟨k3, k4⟩ := k2 q2
  obtain ⟨c', k5, k6⟩ := k4 c t q3
  rw [k1, k0]
  exact ⟨q1, k3, c', t, k5, by omega⟩
 | ptr i g r c x h1 e hH hg hx =>
  obtain ⟨e2, h2, hg2, hk⟩ := G.ids i e hH
  refine .ptr i g r c x h1 e2 h2 (Nat.le_trans hg hg2) fun ee => ?_
  obtain ⟨k1, k0, _⟩ := hk (by omega)
  rw [k1, k0]
  exact hx (by omega)
 | clo f fs cs us vs hl hl' hr hr' ih ih' => exact .clo f fs cs us vs hl hl' ih ih'
theorem Grows.refl (Im : Nat → Prop) (p : Pl) (H : Hp) (h : Array Obj) : Grows Im p H h Im p H h :=
 ⟨fun _ h => h, fun _ _ => rfl, fun i e he => ⟨e, he, Nat.le_refl _, fun _ => ⟨rfl, rfl, fun hn => ⟨hn, fun c t hc => ⟨c, hc, rfl⟩⟩⟩⟩⟩
structure RowsAt (Im : Nat → Prop) (p : Pl) (H : Hp) (h : Array Obj) (c : Array Value) (s sz : Nat) (rows : List (List D)) : Prop where
 len : ∀ r ∈ rows, r.length = sz
 le : s + rows.length * sz ≤ c.size
 cell : ∀ (r j : Nat) (row : List D) (d : D), rows[r]? = some row → row[j]? = some d → ∃ u, c[s + r * sz + j]? = some u ∧ Rel Im p H h d u ∧ one u = true
structure RelH (Im : Nat → Prop) (p : Pl) (H : Hp) (h : Array Obj) : Prop where
 cell : ∀ i e, H i = some e → e.rows ≠ [] → ∃ c t, h[(p i).1]? = some (.cells c t (0, 0)) ∧ ¬ Im (p i).1 ∧ RowsAt Im p H h c (p i).2 e.sz e.rows
 inj : ∀ i j e e', H i = some e → H j = some e' → e.rows ≠ [] → e'.rows ≠ [] → i ≠ j → (p i).1 ≠ (p j).1
 im : ∀ b, Im b → b < h.size
structure Ent where
 w : World
 Im : Nat → Prop
 B : Nat → Prop
 n : Nat
 p : Pl
 H : Hp
structure RelE (E : Ent) (Im : Nat → Prop) (p : Pl) (H : Hp) (w : World) : Prop where
 os : w.os = E.w.os
 tape : w.tape = E.w.tape
 output : w.output = E.w.output
 size : E.w.heap.size ≤ w.heap.size
 block : ∀ b, b < E.w.heap.size → ¬ E.B b → w.heap[b]? = E.w.heap[b]?
 im : ∀ b, E.Im b → Im b
 im' : ∀ b, Im b → E.Im b ∨ E.B b ∨ E.w.heap.size ≤ b
 ids : ∀ i e, H i = some e → e.rows ≠ [] → E.B (p i).1 ∨ E.w.heap.size ≤ (p i).1
abbrev Fr := Nat → D
structure St where
 F : Fr
 H : Hp
def GL : List (Nat × List D) := []
def glAt (g : Nat) : List (Nat × List D) → Option (List D)
 | [] => Option.none
 | (k, f) :: l => if k = g then some f else glAt g l
def GlOk (Im : Nat → Prop) (h : Array Obj) : Prop := ∀ (g : Nat) (f : List D), glAt g GL = some f → Im g ∧ ∃ u : Nat → Value, (∀ j, j < f.length → hc h g j = some (u j) ∧ one (u j) = true) ∧ ∀ (j : Nat) (d : D), f[j]? = some d → RelP Im h d (u j)
theorem GlOk.mono {Im Im' : Nat → Prop} {h h' : Array Obj} (hi : ∀ b, Im b → Im' b) (hb : ∀ b, Im b → h'[b]? = h[b]?) (G : GlOk Im h) : GlOk Im' h' := fun g f hg => by
 obtain ⟨h1, u, h2, h3⟩ := G g f hg
 exact ⟨hi g h1, u, fun j hj => by rw [hc_of (hb g h1)]; exact h2 j hj, fun j d hd => (h3 j d hd).mono hi hb⟩
structure RelS (E : Ent) (Im : Nat → Prop) (p : Pl) (s : St) (a : Act) (w : World) : Prop where
 sz : a.tmps.size = E.n
 fr : ∀ t, Rel Im p s.H w.heap (s.F t) (a.tmps.getD t undef)
 hp : RelH Im p s.H w.heap
 en : RelE E Im p s.H w
 gr : Grows E.Im E.p E.H E.w.heap Im p s.H w.heap
 df : a.defers = [] ∧ GlOk E.Im E.w.heap
theorem RelS.gl {E : Ent} {Im : Nat → Prop} {p : Pl} {s : St} {a : Act} {w : World} (h : RelS E Im p s a w) : GlOk Im w.heap := h.df.2.mono h.gr.im h.gr.blk
def Pl.put (p : Pl) (i : Nm) (q : Nat × Nat) : Pl := fun j => if j = i then q else p j
theorem Hp.put_same (H : Hp) (i : Nm) (e : En) : H.put i e i = some e := by simp [Hp.put]
theorem Hp.put_other (H : Hp) {i j : Nm} (h : j ≠ i) (e : En) : H.put i e j = H j := by simp [Hp.put, h]
theorem Pl.put_same (p : Pl) (i : Nm) (q : Nat × Nat) : p.put i q i = q := by simp [Pl.put]
theorem Pl.put_other (p : Pl) {i j : Nm} (h : j ≠ i) (q : Nat × Nat) : p.put i q j = p j := by simp [Pl.put, h]
theorem lt_of_some {h : Array Obj} {b : Nat} {x : Obj} (e : h[b]? = some x) : b < h.size := by
 rcases Nat.lt_or_ge b h.size with hl | hl
 ·exact hl
 ·rw [Array.getElem?_eq_none hl] at e; cases e
def OldEn (H : Hp) (i : Nm) (e : En) : Prop := H i = some e ∨ (H i = Option.none ∧ e.rows = [])
structure Turn (Im : Nat → Prop) (p : Pl) (H : Hp) (h : Array Obj) (i : Nm) (e e' : En) (q : Nat × Nat) (h' : Array Obj) : Prop where
 old : OldEn H i e
 gen : H i = Option.none ∨ e.g < e'.g ∨ (e.g = e'.g ∧ q = p i ∧ e'.sz = e.sz ∧ (e.rows ≠ [] → e'.rows ≠ [] ∧ ∃ c t c', h[(p i).1]? = some (.cells c t (0, 0)) ∧ h'[(p i).1]? = some (.cells c' t (0, 0)) ∧ c'.size = c.size))
 blk : ∀ b, b < h.size → (e.rows = [] ∨ b ≠ (p i).1) → h'[b]? = h[b]?
 size : h.size ≤ h'.size
 place : e'.rows ≠ [] → (e.rows ≠ [] ∧ q.1 = (p i).1) ∨ h.size ≤ q.1
 new : e'.rows ≠ [] → ∃ c t, h'[q.1]? = some (.cells c t (0, 0)) ∧ RowsAt Im p H h c q.2 e'.sz e'.rows
theorem OldEn.some {H : Hp} {i : Nm} {e : En} (h : OldEn H i e) (hn : e.rows ≠ []) : H i = some e := h.elim id (fun k => absurd k.2 hn)
theorem Turn.grows {Im : Nat → Prop} {p : Pl} {H : Hp} {h : Array Obj} {i : Nm} {e e' : En} {q : Nat × Nat} {h' : Array Obj} (T : Turn Im p H h i e e' q h') (R : RelH Im p H h) :
  Grows Im p H h Im (p.put i q) (H.put i e') h' := by
 refine ⟨fun _ hb => hb, fun b hb => T.blk b (R.im b hb) ?_, fun j ej hj => ?_⟩
 ·by_cases hn : e.rows = []
  ·exact .inl hn
  ·refine .inr fun eb => ?_
   obtain ⟨c, t, _, hni, _⟩ := R.cell i e (T.old.some hn) hn
   exact hni (eb ▸ hb)
 ·by_cases hji : j = i
  ·subst hji
   rw [Hp.put_same, Pl.put_same]
   obtain rfl : ej = e := by
    rcases T.old with ho | ⟨ho, _⟩
    ·rw [ho] at hj; exact (Option.some.inj hj).symm
    ·rw [ho] at hj; cases hj
   rcases T.gen with g | g | ⟨g, hq, hs, hk⟩
   ·rw [g] at hj; cases hj
   ·exact ⟨e', rfl, by omega, fun he => absurd he (by omega)⟩
   ·refine ⟨e', rfl, by omega, fun _ => ⟨hq, hs, fun hn => ⟨(hk hn).1, fun c t hc => ?_⟩⟩⟩
    obtain ⟨_, c1, t1, c1', k1, k2, k3⟩ := hk hn
    rw [k1] at hc
    injection hc with hc
    injection hc with e1 e2 _
    subst e1 e2
    exact ⟨c1', k2, k3⟩
  ·rw [Hp.put_other _ hji, Pl.put_other _ hji]
   refine ⟨ej, hj, Nat.le_refl _, fun _ => ⟨rfl, rfl, fun hn => ⟨hn, fun c t hc => ⟨c, ?_, rfl⟩⟩⟩⟩
   rw [T.blk _ (lt_of_some hc) ?_]
   ·exact hc
   ·by_cases hn' : e.rows = []
    ·exact .inl hn'
    ·exact .inr (R.inj j i ej e hj (T.old.some hn') hn hn' hji)
theorem RowsAt.mono {Im Im' : Nat → Prop} {p p' : Pl} {H H' : Hp} {h h' : Array Obj} (G : Grows Im p H h Im' p' H' h') {c : Array Value} {s sz : Nat} {rows : List (List D)} (r : RowsAt Im p H h c s sz rows) : RowsAt Im' p' H' h' c s sz rows :=
 ⟨r.len, r.le, fun a b row d h1 h2 => let ⟨u, k1, k2, k3⟩ := r.cell a b row d h1 h2; ⟨u, k1, k2.mono G, k3⟩⟩
theorem Turn.relH {Im : Nat → Prop} {p : Pl} {H : Hp} {h : Array Obj} {i : Nm} {e e' : En} {q : Nat × Nat} {h' : Array Obj} (T : Turn Im p H h i e e' q h') (R : RelH Im p H h) :
  RelH Im (p.put i q) (H.put i e') h' := by
 have G := T.grows R
 refine ⟨fun j ej hj hn => ?_, fun j k ej ek hj hk nj nk hjk => ?_, fun b hb => Nat.lt_of_lt_of_le (R.im b hb) T.size⟩
 ·by_cases hji : j = i
  ·subst hji
   rw [Hp.put_same] at hj
   obtain rfl := Option.some.inj hj
   rw [Pl.put_same]
   obtain ⟨c, t, k1, k2⟩ := T.new hn
   refine ⟨c, t, k1, fun hb => ?_, k2.mono G⟩
   rcases T.place hn with ⟨hn', hq⟩ | hq
   ·obtain ⟨_, _, _, hni, _⟩ := R.cell j e (T.old.some hn') hn'
    exact hni (hq ▸ hb)
   ·exact absurd (R.im _ hb) (by omega)
  ·rw [Hp.put_other _ hji] at hj
   rw [Pl.put_other _ hji]
   obtain ⟨c, t, k1, k2, k3⟩ := R.cell j ej hj hn
   refine ⟨c, t, ?_, k2, k3.mono G⟩
   rw [T.blk _ (lt_of_some k1) ?_]
   ·exact k1
   ·by_cases hn' : e.rows = []
    ·exact .inl hn'
    ·exact .inr (R.inj j i ej e hj (T.old.some hn') hn hn' hji)
 ·have key : ∀ k ek, k ≠ i → H k = some ek → ek.rows ≠ [] → e'.rows ≠ [] → q.1 ≠ (p k).1 := fun k ek hki hk nk ne => by
   obtain ⟨c, t, k1, _⟩ := R.cell k ek hk nk
   rcases T.place ne with ⟨hn', hq⟩ | hq
   ·rw [hq]; exact R.inj i k e ek (T.old.some hn') hk hn' nk (Ne.symm hki)
   ·have := lt_of_some k1; omega
  by_cases hji : j = i
  ·subst hji
   have hki : k ≠ j := Ne.symm hjk
   rw [Hp.put_same] at hj
   rw [Hp.put_other _ hki] at hk
   rw [Pl.put_same, Pl.put_other _ hki]
   obtain rfl := Option.some.inj hj
   exact key k ek hki hk nk nj
  ·rw [Hp.put_other _ hji] at hj
   rw [Pl.put_other _ hji]
   by_cases hki : k = i
   ·subst hki
    rw [Hp.put_same] at hk
    rw [Pl.put_same]
    obtain rfl := Option.some.inj hk
    exact (key j ej hji hj nj nk).symm
   ·rw [Hp.put_other _ hki] at hk
    rw [Pl.put_other _ hki]
    exact R.inj j k ej ek hj hk nj nk hjk
theorem Turn.relE {E : Ent} {Im : Nat → Prop} {p : Pl} {H : Hp} {w w' : World} {i : Nm} {e e' : En} {q : Nat × Nat} (T : Turn Im p H w.heap i e e' q w'.heap) (R : RelH Im p H w.heap) (X : RelE E Im p H w)
  (h1 : w'.os = w.os) (h2 : w'.tape = w.tape) (h3 : w'.output = w.output) : RelE E Im (p.put i q) (H.put i e') w' := by
 have hown : e.rows ≠ [] → E.B (p i).1 ∨ E.w.heap.size ≤ (p i).1 := fun hn => X.ids i e (T.old.some hn) hn
 refine ⟨h1.trans X.os, h2.trans X.tape, h3.trans X.output, Nat.le_trans X.size T.size, fun b hb hB => ?_, X.im, X.im', fun j ej hj hn => ?_⟩
 ·rw [T.blk b (Nat.lt_of_lt_of_le hb X.size) ?_]
  ·exact X.block b hb hB
  ·by_cases hn : e.rows = []
   ·exact .inl hn
   ·refine .inr fun eb => ?_
    rcases hown hn with h | h
    ·exact hB (eb ▸ h)
    ·omega
 ·by_cases hji : j = i
  ·subst hji
   rw [Hp.put_same] at hj
   obtain rfl := Option.some.inj hj
   rw [Pl.put_same]
   rcases T.place hn with ⟨hn', hq⟩ | hq
   ·rw [hq]; exact hown hn'
   ·exact .inr (Nat.le_trans X.size hq)
  ·rw [Hp.put_other _ hji] at hj
   rw [Pl.put_other _ hji]
   exact X.ids j ej hj hn
def D.plain : D → Bool
 | .v _ => true
 | .any => true
 | .sl _ => true
 | .mt => true
 | _ => false
theorem Rel.plain {Im : Nat → Prop} {p : Pl} {H : Hp} {h : Array Obj} {d : D} {x : Value} (r : Rel Im p H h d x) (hd : d.plain = true) : RelP Im h d x := by
 cases r with
 | p r => exact r
 | _ => simp [D.plain] at hd
theorem RelH.kill {Im : Nat → Prop} {p : Pl} {H : Hp} {h : Array Obj} (R : RelH Im p H h) {i : Nm} {e : En} (hi : H i = some e) :
  ∃ Im' : Nat → Prop, Grows Im p H h Im' p (H.put i ⟨e.g + 1, e.sz, []⟩) h ∧ RelH Im' p (H.put i ⟨e.g + 1, e.sz, []⟩) h ∧ (∀ b, Im' b ↔ Im b ∨ (e.rows ≠ [] ∧ b = (p i).1)) := by
 refine ⟨fun b => Im b ∨ (e.rows ≠ [] ∧ b = (p i).1), ?_⟩
 have G : Grows Im p H h (fun b => Im b ∨ (e.rows ≠ [] ∧ b = (p i).1)) p (H.put i ⟨e.g + 1, e.sz, []⟩) h := by
  refine ⟨fun b hb => .inl hb, fun _ _ => rfl, fun j ej hj => ?_⟩
  by_cases hji : j = i
  ·subst hji
   rw [hi] at hj
   obtain rfl := Option.some.inj hj
   rw [Hp.put_same]
   exact ⟨_, rfl, by dsimp only; omega, fun he => absurd he (by dsimp only; omega)⟩
  ·rw [Hp.put_other _ hji]
   exact ⟨ej, hj, Nat.le_refl _, fun _ => ⟨rfl, rfl, fun hn => ⟨hn, fun c t hc => ⟨c, hc, rfl⟩⟩⟩⟩
 refine ⟨G, ⟨fun j ej hj hn => ?_, fun j k ej ek hj hk nj nk hjk => ?_, fun b hb => ?_⟩, fun b => Iff.rfl⟩
 ·by_cases hji : j = i
  ·subst hji
   rw [Hp.put_same] at hj
   obtain rfl := Option.some.inj hj
   exact absurd rfl hn
  ·rw [Hp.put_other _ hji] at hj
   obtain ⟨c, t, k1, k2, k3⟩ := R.cell j ej hj hn
   exact ⟨c, t, k1, fun hb => hb.elim k2 fun ⟨hn', hb⟩ => R.inj j i ej e hj hi hn hn' hji hb, k3.mono G⟩
 ·have other : ∀ j ej, (H.put i ⟨e.g + 1, e.sz, []⟩) j = some ej → ej.rows ≠ [] → H j = some ej := fun j ej hj hn => by
   by_cases hji : j = i
   ·subst hji
    rw [Hp.put_same] at hj
    obtain rfl := Option.some.inj hj
    exact absurd rfl hn
   ·rwa [Hp.put_other _ hji] at hj
  exact R.inj j k ej ek (other j ej hj nj) (other k ek hk nk) nj nk hjk
 ·rcases hb with hb | ⟨hn, rfl⟩
  ·exact R.im b hb
  ·obtain ⟨c, t, k1, _⟩ := R.cell i e hi hn
   exact lt_of_some k1
theorem RelE.kill {E : Ent} {Im Im' : Nat → Prop} {p : Pl} {H : Hp} {w : World} (X : RelE E Im p H w) {i : Nm} {e : En} (hi : H i = some e) (h : ∀ b, Im' b ↔ Im b ∨ (e.rows ≠ [] ∧ b = (p i).1)) : RelE E Im' p (H.put i ⟨e.g + 1, e.sz, []⟩) w := by
 refine ⟨X.os, X.tape, X.output, X.size, X.block, fun b hb => (h b).2 (.inl (X.im b hb)), fun b hb => ?_, fun j ej hj hn => ?_⟩
 ·rcases (h b).1 hb with hb | ⟨hn, rfl⟩
  ·exact X.im' b hb
  ·exact .inr (X.ids i e hi hn)
 ·by_cases hji : j = i
  ·subst hji
   rw [Hp.put_same] at hj
   obtain rfl := Option.some.inj hj
   exact absurd rfl hn
  ·rw [Hp.put_other _ hji] at hj
   exact X.ids j ej hj hn
theorem rows_plain {Im Im' : Nat → Prop} {p : Pl} {H : Hp} {h : Array Obj} (R : RelH Im p H h) {i : Nm} {e : En} (hi : H i = some e) (h' : ∀ b, Im' b ↔ Im b ∨ (e.rows ≠ [] ∧ b = (p i).1))
  {g off n : Nat} (hp : ∀ r ∈ e.rows, ∀ d ∈ r, d.plain = true) (hg : g = e.g) (hn : off + n ≤ e.rows.length) {x : Value} (r : Rel Im p H h (.own i g off n) x) : RelP Im' h (.sl ((e.rows.drop off).take n)) x := by
 cases r with
 | p r => cases r
 | own _ _ _ _ a cap e' hH hg' hnc hl =>
  rw [hi] at hH
  obtain rfl := Option.some.inj hH
  rcases Nat.eq_zero_or_pos n with rfl | hpos
  ·rw [List.take_zero]
   exact .sl0 a cap
  ·obtain ⟨rfl, hne, c, t, k1, k2⟩ := hl hg (by omega)
   obtain ⟨c2, t2, q1, q2, q3⟩ := R.cell i e hi hne
   rw [k1] at q1
   injection q1 with q1
   injection q1 with e1 e2 _
   subst e1 e2
   have hlen : ((e.rows.drop off).take n).length = n := by rw [List.length_take, List.length_drop]; omega
   have hget : ∀ a, a < n → ((e.rows.drop off).take n)[a]? = e.rows[off + a]? := fun a ha => by rw [List.getElem?_take, if_pos ha, List.getElem?_drop]
   have himp : ∀ b, Im b → Im' b := fun b hb => (h' b).2 (.inl hb)
   have cellAt : ∀ a j row d, e.rows[off + a]? = some row → row[j]? = some d → ∃ u, hc h (p i).1 ((p i).2 + off * e.sz + a * e.sz + j) = some u ∧ RelP Im' h d u ∧ one u = true := fun a j row d h1 h2 => by
    obtain ⟨u, u1, u2, u3⟩ := q3.cell _ _ _ _ h1 h2
    refine ⟨u, ?_, (u2.plain (hp row (List.mem_of_getElem? h1) d (List.mem_of_getElem? h2))).mono himp (fun _ _ => rfl), u3⟩
    unfold hc
    rw [k1]
    dsimp only
    rw [← u1]
    congr 1
    rw [Nat.add_mul]
    omega
   refine .sl1 _ _ _ n cap e.sz (fun a j => (hc h (p i).1 ((p i).2 + off * e.sz + a * e.sz + j)).getD undef) hlen hnc (fun r hr => q3.len r (List.mem_of_mem_drop (List.mem_of_mem_take hr))) ((h' _).2 (.inr ⟨hne, rfl⟩)) (fun a j ha hj => ?_) (fun a j ha hj => ?_)
   ·have hr : off + a < e.rows.length := by omega
    have hrow : e.rows[off + a]? = some e.rows[off + a] := List.getElem?_eq_getElem hr
    have hlr : e.rows[off + a].length = e.sz := q3.len _ (List.getElem_mem hr)
    obtain ⟨u, u1, u2, u3⟩ := cellAt a j _ _ hrow (List.getElem?_eq_getElem (by omega))
    rw [u1]
    exact ⟨rfl, u3⟩
   ·have han : a < n := by omega
    have hrow : e.rows[off + a]? = some (((e.rows.drop off).take n)[a]) := by rw [← hget a han]; exact List.getElem?_eq_getElem ha
    obtain ⟨u, u1, u2, u3⟩ := cellAt a j _ _ hrow (List.getElem?_eq_getElem hj)
    rw [u1]
    exact u2
inductive Opd where
 | t (n : Nat)
 | c (d : D)
def Opd.ev (F : Fr) : Opd → D
 | .t n => F n
 | .c d => d
inductive K where
 | mv (x : Opd)
 | pick (c a b : Opd)
 | new (z : List D)
 | box (sz : Nat) (x : Opd)
 | bld (z : List D) (ps : List (Nat × Nat × Opd))
 | bsl (sz n : Nat) (z : List D) (ps : List (Nat × Opd))
 | ld (sz : Nat) (ag : Bool) (x : Opd)
 | st (sz : Nat) (x y : Opd)
 | nck (x : Opd)
 | bin (op : BinOp) (x y : Opd)
 | beq (ng : Bool) (x y : Opd)
 | eqa (ng : Bool) (ks : List Nat) (x y : Opd)
 | bts (x : Opd)
 | not (x : Opd)
 | neg (x : Opd)
 | cvi (k : IntKind) (x : Opd)
 | fa (off : Nat) (x : Opd)
 | iaA (n sz : Nat) (x i : Opd)
 | iaS (sz : Nat) (x i : Opd)
 | fld (off sz : Nat) (ag : Bool) (x : Opd)
 | ixA (n sz : Nat) (ag : Bool) (x i : Opd)
 | ixS (x i : Opd)
 | ext (x : Opd) (i : Nat)
 | mkf (f : FuncId) (fs cs : List Opd)
 | len (x : Opd)
 | lenS (x : Opd)
 | app (sz bytes : Nat) (x y : Opd)
 | mks (sz bytes : Nat) (z : List D) (n : Opd)
 | slc (sz : Nat) (x : Opd) (lo hi : Option Opd)
 | slc3 (sz : Nat) (x : Opd) (lo : Option Opd) (hi mx : Opd)
 | mnx (mx : Bool) (x y : Opd)
 | cpy (sz : Nat) (x y : Opd)
 | isn (ng : Bool) (x : Opd)
 | stk
 | call (f : FuncId) (args : List Opd)
 | callv (x : Opd) (args : List Opd)
structure Out where
 cond : Prop
 rs : List Nm
 v : D
 ws : Option (Nm × En)
def Hp.puto (H : Hp) : Option (Nm × En) → Hp
 | Option.none => H
 | some (i, e) => H.put i e
def D.cells : D → Option (List D)
 | .agg cs => some cs
 | .tup _ => Option.none
 | .any => Option.none
 | .v x => if one x = true then some [.v x] else Option.none
 | d => some [d]
def put1 (row : List D) (c : Nat) (ds : List D) : List D :=
 match ds with
 | [d] => row.set c d
 | _ => row.take c ++ ds ++ row.drop (c + ds.length)
def cellsAt (row : List D) (c sz : Nat) (ag : Bool) : D := if ag = true then .agg ((row.drop c).take sz) else row.getD c .any
def fillD (F : Fr) : List (Nat × Nat × Opd) → List D → Option (List D)
 | [], z => some z
 | (off, sz, x) :: ps, z =>
  match (x.ev F).cells with
  | some ds => if ds.length = sz ∧ off + sz ≤ z.length then fillD F ps (put1 z off ds) else Option.none
  | Option.none => Option.none
def fillR (F : Fr) (sz : Nat) : List (Nat × Opd) → List (List D) → Option (List (List D))
 | [], z => some z
 | (i, x) :: ps, z =>
  match (x.ev F).cells with
  | some ds => if ds.length = sz ∧ i < z.length then fillR F sz ps (z.set i ds) else Option.none
  | Option.none => Option.none
def D.nat : D → Option Int
 | .v (.int _ n) => some n
 | _ => Option.none
def rowsOf (H : Hp) : D → Option (List Nm × List (List D))
 | .sl l => some ([], l)
 | .mt => some ([], [])
 | .own i g off n =>
  match H i with
  | some e => if e.g = g ∧ off + n ≤ e.rows.length then some ([i], (e.rows.drop off).take n) else Option.none
  | Option.none => Option.none
 | _ => Option.none
def lenOf : D → Option Nat
 | .sl l => some l.length
 | .mt => some 0
 | .own _ _ _ n => some n
 | _ => Option.none
def cmpI (op : BinOp) (x y : Int) : Option Bool :=
 match op with
 | .eql => some (x == y)
 | .neq => some (x != y)
 | .lss => some (decide (x < y))
 | .leq => some (decide (x ≤ y))
 | .gtr => some (decide (x > y))
 | .geq => some (decide (x ≥ y))
 | _ => Option.none
def binI (op : BinOp) (k : IntKind) (x y : Int) : Option (Prop × Value) :=
 match op with
 | .add => some (True, .int k (k.wrap (x + y)))
 | .sub => some (True, .int k (k.wrap (x - y)))
 | .mul => some (True, .int k (k.wrap (x * y)))
 | .quo => some (y ≠ 0, .int k (k.wrap (x.tdiv y)))
 | .rem => some (y ≠ 0, .int k (x.tmod y))
 | .shl => some (0 ≤ y, .int k (k.wrap (x * 2 ^ (min y.toNat k.bits))))
 | .shr => some (0 ≤ y, .int k (x.fdiv (2 ^ (min y.toNat k.bits))))
 | .and => some (True, .int k (k.wrap (BitVec.ofInt k.bits x &&& BitVec.ofInt k.bits y).toNat))
 | .or => some (True, .int k (k.wrap (BitVec.ofInt k.bits x ||| BitVec.ofInt k.bits y).toNat))
 | _ =>
  match cmpI op x y with
  | some b => some (True, .bool b)
  | Option.none => Option.none
def binD (op : BinOp) : Value → Value → Option (Prop × Value)
 | .int k x, .int k' y => if k = k' ∨ op = .shl ∨ op = .shr then binI op k x y else Option.none
 | .bool x, .bool y => Option.none
 | .string x, .string y =>
  match op with
  | .eql => some (True, .bool (x.toList == y.toList))
  | .neq => some (True, .bool !(x.toList == y.toList))
  | .add => some (((x.size + y.size : Nat) : Int) ≤ 9223372036854775807, .string (x ++ y))
  | _ => Option.none
 | _, _ => Option.none
def eqOne : Nat → D → D → Option Bool
 | 0, .v (.int k a), .v (.int k' b) => if k = k' then some (a == b) else Option.none
 | 1, .v (.bool a), .v (.bool b) => some (a == b)
 | 2, .v (.string a), .v (.string b) => some (a.toList == b.toList)
 | _, _, _ => Option.none
def eqL : List Nat → List D → List D → Option Bool
 | [], [], [] => some true
 | k :: ks, a :: as, b :: bs =>
  match eqOne k a b, eqL ks as bs with
  | some x, some y => some (x && y)
  | _, _ => Option.none
 | _, _, _ => Option.none
def bytesD : List (List D) → Option (List Int)
 | [] => some []
 | [.v (.int .u8 n)] :: l =>
  match bytesD l with
  | some ns => some (n :: ns)
  | Option.none => Option.none
 | _ => Option.none
def strOf (ns : List Int) : ByteArray := ns.foldl (fun r n => r.push (UInt8.ofNat n.toNat)) ByteArray.empty
def bnd (F : Fr) (o : Option Opd) (n : Int) : Option Int :=
 match o with
 | some y => (y.ev F).nat
 | Option.none => some n
def mapEv (F : Fr) : List Opd → List D
 | [] => []
 | x :: xs => x.ev F :: mapEv F xs
def Out.pure (d : D) : Option Out := some ⟨True, [], d, Option.none⟩
def eff (nm : Nm) (F : Fr) (H : Hp) : K → Option Out
 | .mv x => Out.pure (x.ev F)
 | .pick c a b =>
  match c.ev F with
  | .v (.bool t) => Out.pure (if t = true then a.ev F else b.ev F)
  | _ => Option.none
 | .new z =>
  match H nm with
  | Option.none => some ⟨True, [nm], .ptr nm 0 0 0, some (nm, ⟨0, z.length, [z]⟩)⟩
  | some _ => Option.none
 | .box sz x =>
  match H nm, (x.ev F).cells with
  | Option.none, some ds => some ⟨ds.length = sz, [nm], .ptr nm 0 0 0, some (nm, ⟨0, sz, [ds]⟩)⟩
  | _, _ => Option.none
 | .bld z ps =>
  match fillD F ps z with
  | some cs => Out.pure (.agg cs)
  | Option.none => Option.none
 | .bsl sz n z ps =>
  match H nm, fillR F sz ps (List.replicate n z) with
  | Option.none, some rows => some ⟨True, [nm], .own nm 0 0 n, some (nm, ⟨0, sz, rows⟩)⟩
  | _, _ => Option.none
 | .ld sz ag x =>
  match x.ev F with
  | .ptr i g r c =>
   match H i with
   | some e => if e.g = g then some ⟨r < e.rows.length ∧ c + sz ≤ (e.rows.getD r []).length, [i], cellsAt (e.rows.getD r []) c sz ag, Option.none⟩ else Option.none
   | Option.none => Option.none
  | .ip f => some ⟨sz ≤ f.length, [], cellsAt f 0 sz ag, Option.none⟩
  | _ => Option.none
 | .st sz x y =>
  match x.ev F, (y.ev F).cells with
  | .ptr i g r c, some ds =>
   match H i with
   | some e => if e.g = g then some ⟨ds.length = sz ∧ r < e.rows.length ∧ c + sz ≤ (e.rows.getD r []).length, [i], .any, some (i, ⟨e.g, e.sz, e.rows.set r (put1 (e.rows.getD r []) c ds)⟩)⟩ else Option.none
   | Option.none => Option.none
  | _, _ => Option.none
 | .nck x =>
  match x.ev F with
  | .ptr i g r c =>
   match H i with
   | some e => if e.g = g then some ⟨True, [i], .ptr i g r c, Option.none⟩ else Option.none
   | Option.none => Option.none
  | .ip f => Out.pure (.ip f)
  | .clo f fs cs => Out.pure (.clo f fs cs)
  | _ => Option.none
 | .bin op x y =>
  match x.ev F, y.ev F with
  | .v a, .v b =>
   match binD op a b with
   | some (c, r) => some ⟨c, [], .v r, Option.none⟩
   | Option.none => Option.none
  | _, _ => Option.none
 | .beq ng x y =>
  match x.ev F, y.ev F with
  | .v (.bool a), .v (.bool b) => Out.pure (.v (.bool (if ng = true then !(a == b) else (a == b))))
  | _, _ => Option.none
 | .eqa ng ks x y =>
  match x.ev F, y.ev F with
  | .agg as, .agg bs =>
   match eqL ks as bs with
   | some b => Out.pure (.v (.bool (if ng = true then !b else b)))
   | Option.none => Option.none
  | _, _ => Option.none
 | .bts x =>
  match rowsOf H (x.ev F) with
  | some (ys, l) =>
   match bytesD l with
   | some ns => some ⟨∀ r ∈ l, r.length = 1, ys, .v (.string (strOf ns)), Option.none⟩
   | Option.none => Option.none
  | Option.none => Option.none
 | .not x =>
  match x.ev F with
  | .v (.bool b) => Out.pure (.v (.bool (!b)))
  | _ => Option.none
 | .neg x =>
  match x.ev F with
  | .v (.int k n) => Out.pure (.v (.int k (k.wrap (0 - n))))
  | _ => Option.none
 | .cvi k x =>
  match x.ev F with
  | .v (.int _ n) => Out.pure (.v (.int k (k.wrap n)))
  | _ => Option.none
 | .fa off x =>
  match x.ev F with
  | .ptr i g r c =>
   match H i with
   | some e => if e.g = g then some ⟨True, [i], .ptr i g r (c + off), Option.none⟩ else Option.none
   | Option.none => Option.none
  | .ip f => Out.pure (.ip (f.drop off))
  | _ => Option.none
 | .iaA n sz x i =>
  match x.ev F, (i.ev F).nat with
  | .ptr j g r c, some k =>
   match H j with
   | some e => if e.g = g then some ⟨0 ≤ k ∧ k < n, [j], .ptr j g r (c + k.toNat * sz), Option.none⟩ else Option.none
   | Option.none => Option.none
  | .ip f, some k => some ⟨0 ≤ k ∧ k < n, [], .ip (f.drop (k.toNat * sz)), Option.none⟩
  | _, _ => Option.none
 | .iaS sz x i =>
  match x.ev F, (i.ev F).nat with
  | .sl l, some k => some ⟨0 ≤ k ∧ k < l.length ∧ (l.getD k.toNat []).length = sz, [], .ip (l.getD k.toNat []), Option.none⟩
  | .own j g off n, some k =>
   match H j with
   | some e => if e.g = g then some ⟨0 ≤ k ∧ k < n ∧ e.sz = sz, [j], .ptr j g (off + k.toNat) 0, Option.none⟩ else Option.none
   | Option.none => Option.none
  | _, _ => Option.none
 | .fld off sz ag x =>
  match x.ev F with
  | .agg cs => some ⟨off + sz ≤ cs.length, [], cellsAt cs off sz ag, Option.none⟩
  | _ => Option.none
 | .ixA n sz ag x i =>
  match x.ev F, (i.ev F).nat with
  | .agg cs, some k => some ⟨0 ≤ k ∧ k < n ∧ k.toNat * sz + sz ≤ cs.length, [], cellsAt cs (k.toNat * sz) sz ag, Option.none⟩
  | _, _ => Option.none
 | .ixS x i =>
  match x.ev F, (i.ev F).nat with
  | .v (.string s), some k => some ⟨0 ≤ k ∧ k < s.size, [], .v (.int .u8 (s.data.getD k.toNat 0).toNat), Option.none⟩
  | _, _ => Option.none
 | .ext x i =>
  match x.ev F with
  | .tup cs => some ⟨i < cs.length, [], cs.getD i .any, Option.none⟩
  | _ => Option.none
 | .mkf f fs cs => Out.pure (.clo f (mapEv F fs) (mapEv F cs))
 | .len x =>
  match lenOf (x.ev F) with
  | some n => Out.pure (.v (.int .i64 n))
  | Option.none => Option.none
 | .lenS x =>
  match x.ev F with
  | .v (.string s) => Out.pure (.v (.int .i64 s.size))
  | _ => Option.none
 | .app sz bytes x y =>
  match rowsOf H (y.ev F), x.ev F with
  | some (ys, l), .mt =>
   match H nm with
   | Option.none => some ⟨(∀ r ∈ l, r.length = sz) ∧ l.length * bytes ≤ 140737488355328 ∧ l.length ≤ 4611686018427387904, nm :: ys, .own nm 0 0 l.length, some (nm, ⟨0, sz, l⟩)⟩
   | some _ => Option.none
  | some (ys, l), .own i g off n =>
   match H i with
   | some e =>
    if e.g = g ∧ e.sz = sz ∧ off + n = e.rows.length then
     some ⟨(∀ r ∈ l, r.length = sz) ∧ (n + l.length) * bytes ≤ 140737488355328 ∧ n + l.length ≤ 4611686018427387904 ∧ (off = 0 ∨ 0 < n + l.length), i :: ys, .own i (g + 1) 0 (n + l.length), some (i, ⟨g + 1, sz, e.rows.drop off ++ l⟩)⟩
    else Option.none
   | Option.none => Option.none
  | _, _ => Option.none
 | .mks sz bytes z n =>
  match H nm, (n.ev F).nat with
  | Option.none, some k => some ⟨0 ≤ k ∧ bytes * k ≤ 281474976710656 ∧ k ≤ 4611686018427387904, [nm], .own nm 0 0 k.toNat, some (nm, ⟨0, sz, List.replicate k.toNat z⟩)⟩
  | _, _ => Option.none
 | .slc sz x lo hi =>
  match x.ev F, bnd F lo 0 with
  | .sl l, some a =>
   match bnd F hi (l.length : Int) with
   | some b => some ⟨0 ≤ a ∧ a ≤ b ∧ b ≤ l.length ∧ (a = 0 ∨ (l.getD 0 []).length = sz), [], .sl ((l.drop a.toNat).take (b.toNat - a.toNat)), Option.none⟩
   | Option.none => Option.none
  | .own i g off n, some a =>
   match bnd F hi (n : Int) with
   | some b =>
    match H i with
    | some e => if e.g = g then some ⟨0 ≤ a ∧ a ≤ b ∧ b ≤ n ∧ (a = 0 ∨ e.sz = sz), [i], .own i g (off + a.toNat) (b.toNat - a.toNat), Option.none⟩ else Option.none
    | Option.none => Option.none
   | Option.none => Option.none
  | .mt, some a =>
   match bnd F hi (0 : Int) with
   | some b => some ⟨a = 0 ∧ b = 0, [], .mt, Option.none⟩
   | Option.none => Option.none
  | _, _ => Option.none
 | .slc3 sz x lo hi mx =>
  match x.ev F, bnd F lo 0 with
  | .sl l, some a =>
   match (hi.ev F).nat, (mx.ev F).nat with
   | some b, some m => some ⟨0 ≤ a ∧ a ≤ b ∧ b ≤ m ∧ m ≤ l.length ∧ (a = 0 ∨ (l.getD 0 []).length = sz), [], .sl ((l.drop a.toNat).take (b.toNat - a.toNat)), Option.none⟩
   | _, _ => Option.none
  | .own i g off n, some a =>
   match (hi.ev F).nat, (mx.ev F).nat with
   | some b, some m =>
    match H i with
    | some e => if e.g = g then some ⟨0 ≤ a ∧ a ≤ b ∧ b ≤ m ∧ m ≤ n ∧ (a = 0 ∨ e.sz = sz), [i], .own i g (off + a.toNat) (b.toNat - a.toNat), Option.none⟩ else Option.none
    | Option.none => Option.none
   | _, _ => Option.none
  | _, _ => Option.none
 | .mnx mx x y =>
  match x.ev F, y.ev F with
  | .v (.int k a), .v (.int k' b) => Out.pure (.v (.int k (if mx = true then (if b > a then b else a) else (if b < a then b else a))))
  | _, _ => Option.none
 | .cpy sz x y =>
  match x.ev F, rowsOf H (y.ev F) with
  | .own i g off n, some (ys, l) =>
   match H i with
   | some e =>
    if e.g = g ∧ e.sz = sz then
     some ⟨(∀ r ∈ l, r.length = sz) ∧ off + n ≤ e.rows.length, i :: ys, .v (.int .i64 ((min l.length n : Nat) : Int)), some (i, ⟨e.g, e.sz, e.rows.take off ++ l.take (min l.length n) ++ e.rows.drop (off + min l.length n)⟩)⟩
    else Option.none
   | Option.none => Option.none
  | _, _ => Option.none
 | .isn ng x =>
  match x.ev F with
  | .sl l => some ⟨0 < l.length, [], .v (.bool ng), Option.none⟩
  | .own i g off n =>
   match H i with
   | some e => if e.g = g then some ⟨0 < n, [i], .v (.bool ng), Option.none⟩ else Option.none
   | Option.none => Option.none
  | _ => Option.none
 | .stk => Option.none
 | .call _ _ => Option.none
 | .callv _ _ => Option.none
def callee (F : Fr) : K → Option (FuncId × List D)
 | .call f args => some (f, mapEv F args)
 | .callv x args =>
  match x.ev F with
  | .clo f fs cs => some (f, fs ++ mapEv F args ++ cs)
  | _ => Option.none
 | _ => Option.none
theorem one_eq (u : Value) : u.oneCell' = one u := by cases u <;> rfl
structure RelL (Im : Nat → Prop) (p : Pl) (H : Hp) (h : Array Obj) (ds : List D) (us : List Value) : Prop where
 len : ds.length = us.length
 cell : ∀ (j : Nat) (d : D) (u : Value), ds[j]? = some d → us[j]? = some u → Rel Im p H h d u ∧ one u = true
section
variable {Im : Nat → Prop} {p : Pl} {H : Hp} {h : Array Obj}
theorem RelL.nil : RelL Im p H h [] [] := ⟨rfl, fun j d u h => by cases h⟩
theorem RelL.one {us : List Value} {ds : List D} (r : RelL Im p H h ds us) : ∀ u ∈ us, u.oneCell' = true := fun u hu => by
 obtain ⟨j, hj⟩ := List.mem_iff_getElem?.1 hu
 have hlt : j < ds.length := by rw [r.len]; exact (List.getElem?_eq_some_iff.1 hj).1
 rw [one_eq]
 exact (r.cell j _ u (List.getElem?_eq_getElem hlt) hj).2
theorem RelL.single {d : D} {u : Value} (r : Rel Im p H h d u) (h1 : Go.Proofs.Ytadjhfjiimgddaa.one u = true) : RelL Im p H h [d] [u] := by
 refine ⟨rfl, fun j d' u' hd hu => ?_⟩
 cases j with
 | zero => cases hd; cases hu; exact ⟨r, h1⟩
 | succ j => cases hd
theorem RelL.append {ds ds' : List D} {us us' : List Value} (r : RelL Im p H h ds us) (r' : RelL Im p H h ds' us') : RelL Im p H h (ds ++ ds') (us ++ us') := by
 refine ⟨by rw [List.length_append, List.length_append, r.len, r'.len], fun j d u hd hu => ?_⟩
 by_cases hj : j < ds.length
 ·rw [List.getElem?_append_left hj] at hd
  rw [List.getElem?_append_left (by rw [← r.len]; exact hj)] at hu
  exact r.cell j d u hd hu
 ·rw [List.getElem?_append_right (by omega)] at hd
  rw [List.getElem?_append_right (by rw [← r.len]; omega), ← r.len] at hu
  exact r'.cell _ d u hd hu
theorem RelL.take {ds : List D} {us : List Value} (r : RelL Im p H h ds us) (n : Nat) : RelL Im p H h (ds.take n) (us.take n) := by
 refine ⟨by rw [List.length_take, List.length_take, r.len], fun j d u hd hu => ?_⟩
 rw [List.getElem?_take] at hd hu
 split at hd
 ·rename_i hj
  rw [if_pos hj] at hu
  exact r.cell j d u hd hu
 ·cases hd
theorem RelL.drop {ds : List D} {us : List Value} (r : RelL Im p H h ds us) (n : Nat) : RelL Im p H h (ds.drop n) (us.drop n) := by
 refine ⟨by rw [List.length_drop, List.length_drop, r.len], fun j d u hd hu => ?_⟩
 rw [List.getElem?_drop] at hd hu
 exact r.cell _ d u hd hu
theorem put1_eq (row : List D) (c : Nat) (ds : List D) (hc : c + ds.length ≤ row.length) : put1 row c ds = row.take c ++ ds ++ row.drop (c + ds.length) := by
 unfold put1
 split
 ·rename_i d
  have hc' : c < row.length := by rw [List.length_singleton] at hc; omega
  rw [List.set_eq_take_append_cons_drop, if_pos hc']
  simp
 ·rfl
theorem RelL.put1 {row ds : List D} {us vs : List Value} (r : RelL Im p H h row us) (r' : RelL Im p H h ds vs) {c : Nat} (hc : c + ds.length ≤ row.length) : RelL Im p H h (put1 row c ds) (us.take c ++ vs ++ us.drop (c + vs.length)) := by
 rw [put1_eq row c ds hc, ← r'.len]
 exact ((r.take c).append r').append (r.drop _)
theorem length_put1 {row ds : List D} {c : Nat} (hc : c + ds.length ≤ row.length) : (Go.Proofs.Ytadjhfjiimgddaa.put1 row c ds).length = row.length := by
 rw [put1_eq row c ds hc]
 simp only [List.length_append, List.length_take, List.length_drop]
 omega
theorem RelL.rel {ds : List D} {us : List Value} (r : RelL Im p H h ds us) : Rel Im p H h (.agg ds) (.agg us.toArray) := by
 refine .agg ds us.toArray (by rw [r.len]; simp) (fun j u hu => ?_) (fun j d u hd hu => (r.cell j d u hd (by simpa using hu)).1)
 have hu' : us[j]? = some u := by simpa using hu
 have hlt : j < ds.length := by rw [r.len]; exact (List.getElem?_eq_some_iff.1 hu').1
 exact (r.cell j _ u (List.getElem?_eq_getElem hlt) hu').2
theorem RelL.of_agg {ds : List D} {u : Value} (r : Rel Im p H h (.agg ds) u) : ∃ us : Array Value, u = .agg us ∧ RelL Im p H h ds us.toList := by
 cases r with
 | p r => cases r
 | agg _ us hl h1 hr => exact ⟨us, rfl, by rw [hl]; simp, fun j d u hd hu => ⟨hr j d u hd (by simpa using hu), h1 j u (by simpa using hu)⟩⟩
theorem one_of_scal {d : D} {u : Value} (r : Rel Im p H h d u) {ds : List D} (hc : d.cells = some ds) (hn : ∀ cs, d ≠ .agg cs) : ds = [d] ∧ Go.Proofs.Ytadjhfjiimgddaa.one u = true := by
 cases r with
 | p r =>
  cases r with
  | v x =>
   simp only [D.cells] at hc
   split at hc
   ·cases hc; exact ⟨rfl, ‹_›⟩
   ·cases hc
  | any x => cases hc
  | mt a => cases hc; exact ⟨rfl, rfl⟩
  | sl0 a cap => cases hc; exact ⟨rfl, rfl⟩
  | sl1 => cases hc; exact ⟨rfl, rfl⟩
 | agg cs => exact absurd rfl (hn cs)
 | tup => cases hc
 | ip => cases hc; exact ⟨rfl, rfl⟩
 | own => cases hc; exact ⟨rfl, rfl⟩
 | ptr i g r c x h1 => cases hc; exact ⟨rfl, h1⟩
 | clo => cases hc; exact ⟨rfl, rfl⟩
theorem RelL.cells {d : D} {u : Value} (r : Rel Im p H h d u) {ds : List D} (hc : d.cells = some ds) : RelL Im p H h ds u.cells.toList := by
 by_cases hn : ∀ cs, d ≠ .agg cs
 ·obtain ⟨rfl, h1⟩ := one_of_scal r hc hn
  have : u.cells = #[u] := by cases u <;> first | rfl | (simp [Go.Proofs.Ytadjhfjiimgddaa.one] at h1)
  rw [this]
  exact RelL.single r h1
 ·have hn' : ∃ cs, d = .agg cs := by
   cases d <;> first | exact ⟨_, rfl⟩ | (exact absurd (fun cs e => by cases e) hn)
  obtain ⟨cs, rfl⟩ := hn'
  cases hc
  obtain ⟨us, rfl, k⟩ := RelL.of_agg r
  exact k
theorem RelL.at {ds : List D} {us : List Value} (r : RelL Im p H h ds us) {c sz : Nat} (hc : c + sz ≤ ds.length) (ag : Bool) (h1 : ag = false → sz = 1) :
  ∃ u, (if ag = true then Value.agg ((us.drop c).take sz).toArray else us.getD c undef) = u ∧ Rel Im p H h (cellsAt ds c sz ag) u := by
 refine ⟨_, rfl, ?_⟩
 unfold cellsAt
 cases ag with
 | true => rw [if_pos rfl, if_pos rfl]; exact ((r.drop c).take sz).rel
 | false =>
  have h2 := h1 rfl
  have hlt : c < ds.length := by omega
  have hlt' : c < us.length := by rw [← r.len]; exact hlt
  rw [if_neg Bool.false_ne_true, if_neg Bool.false_ne_true]
  rw [List.getD_eq_getElem?_getD, List.getD_eq_getElem?_getD, List.getElem?_eq_getElem hlt, List.getElem?_eq_getElem hlt']
  exact (r.cell c _ _ (List.getElem?_eq_getElem hlt) (List.getElem?_eq_getElem hlt')).1
theorem RelL.mono {Im' : Nat → Prop} {p' : Pl} {H' : Hp} {h' : Array Obj} (G : Grows Im p H h Im' p' H' h') {ds : List D} {us : List Value} (r : RelL Im p H h ds us) : RelL Im' p' H' h' ds us :=
 ⟨r.len, fun j d u hd hu => let ⟨k1, k2⟩ := r.cell j d u hd hu; ⟨k1.mono G, k2⟩⟩
theorem RowsAt.row {c : Array Value} {s sz : Nat} {rows : List (List D)} (R : RowsAt Im p H h c s sz rows) {r : Nat} (hr : r < rows.length) : RelL Im p H h (rows.getD r []) ((c.toList.drop (s + r * sz)).take sz) ∧ (rows.getD r []).length = sz ∧ s + r * sz + sz ≤ c.size := by
 have hg : rows[r]? = some (rows.getD r []) := by rw [List.getD_eq_getElem?_getD, List.getElem?_eq_getElem hr]; rfl
 have hl : (rows.getD r []).length = sz := R.len _ (List.mem_of_getElem? hg)
 have hle : s + r * sz + sz ≤ c.size := by
  have h1 := R.le
  have h2 : (r + 1) * sz ≤ rows.length * sz := Nat.mul_le_mul_right _ hr
  rw [Nat.add_mul, Nat.one_mul] at h2
  omega
 refine ⟨⟨by rw [hl, List.length_take, List.length_drop, Array.length_toList]; omega, fun j d u hd hu => ?_⟩, hl, hle⟩
 have hj : j < sz := by rw [← hl]; exact (List.getElem?_eq_some_iff.1 hd).1
 rw [List.getElem?_take, if_pos hj, List.getElem?_drop] at hu
 obtain ⟨u', k1, k2, k3⟩ := R.cell r j _ d hg hd
 have : some u' = some u := by rw [← k1, ← hu]; simp
 cases this
 exact ⟨k2, k3⟩
theorem RowsAt.of {c : Array Value} {s sz : Nat} {rows : List (List D)} (h1 : ∀ r ∈ rows, r.length = sz) (h2 : s + rows.length * sz ≤ c.size) (h3 : ∀ r, r < rows.length → RelL Im p H h (rows.getD r []) ((c.toList.drop (s + r * sz)).take sz)) : RowsAt Im p H h c s sz rows := by
 refine ⟨h1, h2, fun r j row d hr hd => ?_⟩
 have hlt : r < rows.length := (List.getElem?_eq_some_iff.1 hr).1
 have e : rows.getD r [] = row := by rw [List.getD_eq_getElem?_getD, hr]; rfl
 have k := h3 r hlt
 rw [e] at k
 have hj : j < sz := by rw [← h1 row (List.mem_of_getElem? hr)]; exact (List.getElem?_eq_some_iff.1 hd).1
 have hle : (r + 1) * sz ≤ rows.length * sz := Nat.mul_le_mul_right _ hlt
 rw [Nat.add_mul, Nat.one_mul] at hle
 have hb : s + r * sz + j < c.size := by omega
 have hu : ((c.toList.drop (s + r * sz)).take sz)[j]? = some c[s + r * sz + j] := by rw [List.getElem?_take, if_pos hj, List.getElem?_drop]; simp [hb]
 obtain ⟨k1, k2⟩ := k.cell j d _ hd hu
 exact ⟨_, by simp [hb], k1, k2⟩
end
def SoundK (P : Program) (op : Op) (k : K) : Prop :=
 ∀ (E : Ent) (Im : Nat → Prop) (p : Pl) (s : St) (a : Act) (w : World) (nm : Nm) (o : Out) (d : Oper), d.op = op → RelS E Im p s a w → eff nm s.F s.H k = some o → o.cond →
  ∃ r u w' p', (execOp a.eval d).run P w = .ok r w' ∧ (r = .value u ∨ (r = .skip ∧ u = undef)) ∧ Grows Im p s.H w.heap Im p' (s.H.puto o.ws) w'.heap ∧ RelH Im p' (s.H.puto o.ws) w'.heap ∧ RelE E Im p' (s.H.puto o.ws) w' ∧ Rel Im p' (s.H.puto o.ws) w'.heap o.v u
def OpdOk (x : Operand) (y : Opd) : Prop := ∀ (E : Ent) (Im : Nat → Prop) (p : Pl) (s : St) (a : Act) (w : World), RelS E Im p s a w → Rel Im p s.H w.heap (y.ev s.F) (a.eval x)
theorem OpdOk.t (n : Nat) : OpdOk (.tmp n) (.t n) := fun E Im p s a w h => h.fr n
def ofC : Value → D
 | .slice Option.none 0 0 => .mt
 | x => .v x
theorem relP_ofC (Im : Nat → Prop) (h : Array Obj) (v : Value) : RelP Im h (ofC v) v := by
 unfold ofC
 split
 ·exact .mt _
 ·exact .v _
def ofV : Value → D
 | .agg us => if us.toList.all one = true then .agg (us.toList.map ofC) else .any
 | x => ofC x
theorem rel_ofV (Im : Nat → Prop) (p : Pl) (H : Hp) (h : Array Obj) (v : Value) : Rel Im p H h (ofV v) v := by
 unfold ofV
 split
 ·rename_i us
  split
  ·rename_i h1
   refine .agg _ us (by simp) (fun j u hu => ?_) (fun j d u hd hu => ?_)
   ·exact List.all_eq_true.1 h1 u (List.mem_of_getElem? (by simpa using hu))
   ·rw [List.getElem?_map] at hd
    have : us.toList[j]? = some u := by simpa using hu
    rw [this] at hd
    cases hd
    exact .p (relP_ofC _ _ _)
  ·exact .p (.any _)
 ·exact .p (relP_ofC _ _ _)
def copd : Operand → Option Opd
 | .tmp t => some (.t t)
 | .const v => some (.c (ofV v))
 | .func f => some (.c (.clo f [] []))
 | .global g => (glAt g GL).map fun f => .c (.ip f)
theorem copd_ok {x : Operand} {y : Opd} (h : copd x = some y) : OpdOk x y := by
 cases x with
 | tmp t => cases h; exact OpdOk.t t
 | const v => cases h; exact fun E Im p s a w _ => rel_ofV _ _ _ _ _
 | func f => cases h; exact fun E Im p s a w _ => .clo f [] [] #[] #[] rfl rfl (fun j d u hd => by cases hd) (fun j d u hd => by cases hd)
 | global g =>
  have h : (glAt g GL).map (fun f => Opd.c (.ip f)) = some y := h
  cases hg : glAt g GL with
  | none => rw [hg] at h; cases h
  | some f =>
   rw [hg] at h
   cases h
   intro E Im p s a w hR
   obtain ⟨h1, u, h2, h3⟩ := hR.gl g f hg
   have e : a.eval (.global g) = .pointer (some ⟨g, 0, Option.none⟩) := rfl
   rw [e]
   exact .ip f g 0 u h1 (fun j hj => by rw [Nat.zero_add]; exact h2 j hj) h3
theorem sound_pure {P : Program} {E : Ent} {Im : Nat → Prop} {p : Pl} {s : St} {a : Act} {w : World} {d : Oper} {o : Out} {u : Value} (hR : RelS E Im p s a w) (hr : (execOp a.eval d).run P w = .ok (.value u) w) (hw : o.ws = Option.none) (hv : Rel Im p s.H w.heap o.v u) :
  ∃ r u w' p', (execOp a.eval d).run P w = .ok r w' ∧ (r = .value u ∨ (r = .skip ∧ u = undef)) ∧ Grows Im p s.H w.heap Im p' (s.H.puto o.ws) w'.heap ∧ RelH Im p' (s.H.puto o.ws) w'.heap ∧ RelE E Im p' (s.H.puto o.ws) w' ∧ Rel Im p' (s.H.puto o.ws) w'.heap o.v u := by
 rw [hw]
 exact ⟨_, u, w, p, hr, .inl rfl, Grows.refl _ _ _ _, hR.hp, hR.en, hv⟩
section
variable {P : Program}
theorem snd_mv {x : Operand} {y : Opd} (hx : OpdOk x y) : SoundK P (.move x) (.mv y) := fun E Im p s a w nm o d ho hR he hc => by
 cases he
 exact sound_pure hR (by unfold execOp; simp [ho]) rfl (hx _ _ _ _ _ _ hR)
theorem snd_as {x : Operand} {y : Opd} (hx : OpdOk x y) : SoundK P (.assign x) (.mv y) := fun E Im p s a w nm o d ho hR he hc => by
 cases he
 exact sound_pure hR (by unfold execOp; simp [ho]) rfl (hx _ _ _ _ _ _ hR)
theorem rel_v {Im : Nat → Prop} {p : Pl} {H : Hp} {h : Array Obj} {x u : Value} (r : Rel Im p H h (.v x) u) : u = x := by
 cases r with
 | p r => cases r; rfl
theorem snd_pick {c x y : Operand} {c' x' y' : Opd} (hc : OpdOk c c') (hx : OpdOk x x') (hy : OpdOk y y') : SoundK P (.pick c x y) (.pick c' x' y') := fun E Im p s a w nm o d ho hR he hcd => by
 have r := hc _ _ _ _ _ _ hR
 simp only [eff] at he
 split at he
 ·rename_i t ht
  rw [ht] at r
  have e := rel_v r
  cases he
  cases t with
  | true => exact sound_pure hR (u := a.eval x) (by unfold execOp; simp [ho, e, asBool]) rfl (by simpa using hx _ _ _ _ _ _ hR)
  | false => exact sound_pure hR (u := a.eval y) (by unfold execOp; simp [ho, e, asBool]) rfl (by simpa using hy _ _ _ _ _ _ hR)
 ·cases he
theorem snd_ext {x : Operand} {x' : Opd} {i : Nat} (hx : OpdOk x x') : SoundK P (.extract x i) (.ext x' i) := fun E Im p s a w nm o d ho hR he hcd => by
 have r := hx _ _ _ _ _ _ hR
 simp only [eff] at he
 split at he
 ·rename_i cs hs
  rw [hs] at r
  cases he
  dsimp only at hcd
  generalize hu : a.eval x = u at r
  cases r with
  | p r => cases r
  | tup _ us hl hr =>
   have hi : i < us.size := by rw [← hl]; exact hcd
   refine sound_pure hR (u := us[i]) (by unfold execOp; simp [ho, hu, Instr.extract, Array.getElem?_eq_getElem hi]) rfl ?_
   dsimp only
   rw [List.getD_eq_getElem?_getD, List.getElem?_eq_getElem hcd]
   exact hr i _ _ (List.getElem?_eq_getElem hcd) (Array.getElem?_eq_getElem hi)
 ·cases he
theorem snd_not {t : TypeId} {x : Operand} {x' : Opd} (hx : OpdOk x x') : SoundK P (.unOp .not t x) (.not x') := fun E Im p s a w nm o d ho hR he hcd => by
 have r := hx _ _ _ _ _ _ hR
 simp only [eff] at he
 split at he
 ·rename_i b hs
  rw [hs] at r
  cases he
  exact sound_pure hR (by unfold execOp; simp [ho, rel_v r, Op.unary]) rfl (.p (.v _))
 ·cases he
theorem snd_neg {t : TypeId} {x : Operand} {x' : Opd} (hx : OpdOk x x') : SoundK P (.unOp .neg t x) (.neg x') := fun E Im p s a w nm o d ho hR he hcd => by
 have r := hx _ _ _ _ _ _ hR
 simp only [eff] at he
 split at he
 ·rename_i b hs
  rw [hs] at r
  cases he
  exact sound_pure hR (by unfold execOp; simp [ho, rel_v r, Op.unary, Op.intArith]) rfl (.p (.v _))
 ·cases he
theorem snd_cvi {src dst : TypeId} {k : IntKind} {x : Operand} {x' : Opd} (hx : OpdOk x x') (hs : (P.underlying src).isSome = true) (hd : P.underlying dst = some (.int k)) : SoundK P (.convert src dst x) (.cvi k x') := fun E Im p s a w nm o d ho hR he hcd => by
 have r := hx _ _ _ _ _ _ hR
 simp only [eff] at he
 split at he
 ·rename_i k' n hs'
  rw [hs'] at r
  cases he
  obtain ⟨ds, hds⟩ := Option.isSome_iff_exists.1 hs
  refine sound_pure hR (u := .int k (k.wrap n)) ?_ rfl (.p (.v _))
  unfold execOp
  simp only [ho, rel_v r, Sem.run_bind]
  have : (convert src dst (.int k' n)).run P w = .ok (.int k (k.wrap n)) w := by
   unfold convert
   simp only [Sem.run_bind, run_underlying hds, run_underlying hd, Result.andThen_ok, Conv.intToInt]
   rfl
  rw [this]
  rfl
 ·cases he
theorem rel_args {Im : Nat → Prop} {p : Pl} {H : Hp} {h : Array Obj} {F : Fr} {a : Act} {xs : Array Operand} {ys : List Opd} (hl : ys.length = xs.size) (hr : ∀ (j : Nat) (x : Operand) (y : Opd), xs[j]? = some x → ys[j]? = some y → Rel Im p H h (y.ev F) (a.eval x)) :
  (mapEv F ys).length = (xs.map a.eval).size ∧ ∀ (j : Nat) (d : D) (u : Value), (mapEv F ys)[j]? = some d → (xs.map a.eval)[j]? = some u → Rel Im p H h d u := by
 have e : ∀ ys : List Opd, mapEv F ys = ys.map (·.ev F) := fun ys => by induction ys with
  | nil => rfl
  | cons y ys ih => rw [mapEv, ih]; rfl
 rw [e]
 refine ⟨by simp [hl], fun j d u hd hu => ?_⟩
 rw [List.getElem?_map] at hd
 rw [Array.getElem?_map] at hu
 cases hx : xs[j]? with
 | none => rw [hx] at hu; cases hu
 | some x =>
  cases hy : ys[j]? with
  | none => rw [hy] at hd; cases hd
  | some y =>
   rw [hx] at hu
   rw [hy] at hd
   cases hu
   cases hd
   exact hr j x y hx hy
def OpdsOk (xs : Array Operand) (ys : List Opd) : Prop := ys.length = xs.size ∧ ∀ (j : Nat) (x : Operand) (y : Opd), xs[j]? = some x → ys[j]? = some y → OpdOk x y
theorem snd_mkf {f : FuncId} {fs cs : Array Operand} {fs' cs' : List Opd} (h1 : OpdsOk fs fs') (h2 : OpdsOk cs cs') : SoundK P (.makeFunc (.func f) fs cs) (.mkf f fs' cs') := fun E Im p s a w nm o d ho hR he hcd => by
 cases he
 obtain ⟨k1, k2⟩ := rel_args (a := a) (F := s.F) (Im := Im) (p := p) (H := s.H) (h := w.heap) h1.1 (fun j x y hx hy => h1.2 j x y hx hy _ _ _ _ _ _ hR)
 obtain ⟨k3, k4⟩ := rel_args (a := a) (F := s.F) (Im := Im) (p := p) (H := s.H) (h := w.heap) h2.1 (fun j x y hx hy => h2.2 j x y hx hy _ _ _ _ _ _ hR)
 exact sound_pure hR (u := .func (.func f) (fs.map a.eval) (cs.map a.eval)) (by unfold execOp; simp [ho, Instr.makeFunc]) rfl (.clo f _ _ _ _ k1 k3 k2 k4)
theorem snd_mn {t1 t2 ty : TypeId} {x y : Operand} {x' y' : Opd} (hx : OpdOk x x') (hy : OpdOk y y') : SoundK P (.call { callee := .builtin .min, args := #[x, y], argTypes := #[t1, t2] }) (.mnx false x' y') := fun E Im p s a w nm o d ho hR he hcd => by
 have r := hx _ _ _ _ _ _ hR
 have r' := hy _ _ _ _ _ _ hR
 simp only [eff] at he
 split at he
 ·rename_i k n k' n' hs hs'
  rw [hs] at r
  rw [hs'] at r'
  cases he
  refine sound_pure hR ?_ rfl (.p (.v _))
  unfold execOp
  simp [ho, resolve, invoke, builtin, rel_v r, rel_v r', Builtin.min_, Builtin.min2]
 ·cases he
theorem snd_mx {t1 t2 ty : TypeId} {x y : Operand} {x' y' : Opd} (hx : OpdOk x x') (hy : OpdOk y y') : SoundK P (.call { callee := .builtin .max, args := #[x, y], argTypes := #[t1, t2] }) (.mnx true x' y') := fun E Im p s a w nm o d ho hR he hcd => by
 have r := hx _ _ _ _ _ _ hR
 have r' := hy _ _ _ _ _ _ hR
 simp only [eff] at he
 split at he
 ·rename_i k n k' n' hs hs'
  rw [hs] at r
  rw [hs'] at r'
  cases he
  refine sound_pure hR ?_ rfl (.p (.v _))
  unfold execOp
  simp [ho, resolve, invoke, builtin, rel_v r, rel_v r', Builtin.max_, Builtin.max2]
 ·cases he
theorem snd_bin {op : BinOp} {t t' : TypeId} {x y : Operand} {x' y' : Opd} (hx : OpdOk x x') (hy : OpdOk y y') : SoundK P (.binOp op t x y t') (.bin op x' y') := fun E Im p s a w nm o d ho hR he hcd => by
 have r := hx _ _ _ _ _ _ hR
 have r' := hy _ _ _ _ _ _ hR
 simp only [eff] at he
 split at he
 ·rename_i u v hs hs'
  rw [hs] at r
  rw [hs'] at r'
  split at he
  ·rename_i c res hb
   cases he
   dsimp only at hcd
   have key : (do eqGuard op t x y u v; binOp op t u v : Sem Value).run P w = .ok res w := by
    unfold binD at hb
    split at hb
    ·rename_i k m k' n
     rw [eqGuard_at_int]
     split at hb
     ·rename_i hk
      cases op <;> simp only [binI, cmpI, Option.some.injEq, Prod.mk.injEq, reduceCtorEq] at hb
      all_goals
       obtain ⟨rfl, rfl⟩ := hb
       first
        | (
          obtain rfl : k = k' := by simpa using hk
          first
           | (simp [binOp, Op.intArith]; done)
           | (simp [binOp, Op.intDiv, hcd]; done)
           | (simp [binOp, Op.intBits]; done)
           | (simp [binOp, Op.intCmp]; done))
        | (
          have : ¬ n < 0 := by omega
          simp [binOp, Op.shift, this]; done)
     ·cases hb
    ·cases hb
    ·rw [eqGuard_at_string]
     cases op <;> simp only [Option.some.injEq, Prod.mk.injEq, reduceCtorEq] at hb
     all_goals
      obtain ⟨rfl, rfl⟩ := hb
      first
       | (simp [binOp, Op.stringOp]; done)
       | (
         simp only [binOp, Op.stringOp, IntKind.max_i64]
         rw [if_neg (by omega)]
         rfl)
    ·cases hb
   refine sound_pure hR (u := res) ?_ rfl (.p (.v _))
   unfold execOp
   simp only [ho, rel_v r, rel_v r']
   rw [Sem.run_bind, key]
   rfl
  ·cases he
 ·cases he
theorem snd_beq {ng : Bool} {t t' : TypeId} {x y : Operand} {x' y' : Opd} (hx : OpdOk x x') (hy : OpdOk y y') (ht : P.underlying t = some .bool) : SoundK P (.binOp (if ng = true then .neq else .eql) t x y t') (.beq ng x' y') := fun E Im p s a w nm o d ho hR he hcd => by
 have r := hx _ _ _ _ _ _ hR
 have r' := hy _ _ _ _ _ _ hR
 simp only [eff] at he
 split at he
 ·rename_i u v hs hs'
  rw [hs] at r
  rw [hs'] at r'
  cases he
  have k : (Op.equal t (.bool u) (.bool v)).run P w = .ok (u == v) w := by
   unfold Op.equal Op.maxDepth
   rw [Op.equalIn]
   simp [run_underlying ht]
  refine sound_pure hR (u := .bool (if ng = true then !(u == v) else (u == v))) ?_ rfl (.p (.v _))
  unfold execOp
  simp only [ho, rel_v r, rel_v r', eqGuard_at_bool]
  cases ng <;> simp [binOp, k]
 ·cases he
end
theorem push_lt {h : Array Obj} {b : Nat} (x : Obj) (hb : b < h.size) : (h.push x)[b]? = h[b]? := by
 rw [Array.getElem?_push, if_neg (by omega)]
theorem push_at (h : Array Obj) (x : Obj) : (h.push x)[h.size]? = some x := by simp
theorem Turn.fresh {Im : Nat → Prop} {p : Pl} {H : Hp} {h : Array Obj} {nm : Nm} {e : En} {us : Array Value} {t : TypeId} (hn : H nm = Option.none) (R : RowsAt Im p H h us 0 e.sz e.rows) : Turn Im p H h nm ⟨0, 0, []⟩ e (h.size, 0) (h.push (.cells us t)) :=
 ⟨.inr ⟨hn, rfl⟩, .inl hn, fun b hb _ => push_lt _ hb, by simp, fun _ => .inr (Nat.le_refl _), fun _ => ⟨us, t, push_at _ _, R⟩⟩
section
variable {P : Program}
theorem rel_ptr {Im : Nat → Prop} {p : Pl} {H : Hp} {h : Array Obj} {i : Nm} {g r c : Nat} {u : Value} (k : Rel Im p H h (.ptr i g r c) u) {e : En} (hi : H i = some e) (hg : e.g = g) : u = .pointer (some ⟨(p i).1, (p i).2 + r * e.sz + c, Option.none⟩) := by
 cases k with
 | p k => cases k
 | ptr _ _ _ _ _ h1 e' hH hg' hx =>
  rw [hi] at hH
  cases hH
  exact hx hg.symm
theorem rel_own {Im : Nat → Prop} {p : Pl} {H : Hp} {h : Array Obj} {i : Nm} {g off n : Nat} {u : Value} (k : Rel Im p H h (.own i g off n) u) {e : En} (hi : H i = some e) (hg : e.g = g) :
  ∃ a cap, u = .slice a n cap ∧ n ≤ cap ∧ (0 < cap → a = some ⟨(p i).1, (p i).2 + off * e.sz, Option.none⟩ ∧ e.rows ≠ [] ∧ ∃ c t, h[(p i).1]? = some (.cells c t (0, 0)) ∧ (p i).2 + (off + cap) * e.sz ≤ c.size) := by
 cases k with
 | p k => cases k
 | own _ _ _ _ a cap e' hH hg' hn hl =>
  rw [hi] at hH
  cases hH
  exact ⟨a, cap, rfl, hn, hl hg.symm⟩
theorem cells_at {Im : Nat → Prop} {p : Pl} {H : Hp} {w : World} (R : RelH Im p H w.heap) {i : Nm} {e : En} (hi : H i = some e) {r c sz : Nat} (hr : r < e.rows.length) (hcc : c + sz ≤ (e.rows.getD r []).length) :
  ∃ blk t us, w.heap[(p i).1]? = some (.cells blk t (0, 0)) ∧ ¬ Im (p i).1 ∧ RowsAt Im p H w.heap blk (p i).2 e.sz e.rows ∧ us = (blk.toList.drop ((p i).2 + r * e.sz)).take e.sz ∧ RelL Im p H w.heap (e.rows.getD r []) us ∧ (e.rows.getD r []).length = e.sz ∧ (p i).2 + r * e.sz + e.sz ≤ blk.size ∧ w.rangeAt (p i).1 ((p i).2 + r * e.sz + c) ((us.drop c).take sz) ∧ ((us.drop c).take sz).length = sz := by
 obtain ⟨blk, t, k1, k2, k3⟩ := R.cell i e hi (by intro h; rw [h] at hr; exact absurd hr (Nat.not_lt_zero _))
 obtain ⟨q1, q2, q3⟩ := k3.row hr
 have hlen : ((blk.toList.drop ((p i).2 + r * e.sz)).take e.sz).length = e.sz := by rw [← q1.len, q2]
 refine ⟨blk, t, _, k1, k2, k3, rfl, q1, q2, q3, fun j v hv => ?_, by rw [List.length_take, List.length_drop, hlen]; omega⟩
 rw [hc_cell]
 have hj : j < sz := by
  have := (List.getElem?_eq_some_iff.1 hv).1
  rw [List.length_take] at this
  omega
 rw [List.getElem?_take, if_pos hj, List.getElem?_drop, List.getElem?_take, if_pos (by omega), List.getElem?_drop] at hv
 unfold hc
 rw [k1]
 dsimp only
 rw [← hv]
 simp [Nat.add_assoc]
theorem snd_new {e : TypeId} {i : TypeInfo} {z : Value} {z' : List D} (hi : P.info? e = some i) (hz : i.zero = some z) (hz' : z' = z.cells.toList.map ofC) (h1 : z.cells.toList.all one = true) : SoundK P (.alloc e) (.new z') := fun E Im p s a w nm o d ho hR he hcd => by
 simp only [eff] at he
 split at he
 ·rename_i hn
  cases he
  dsimp only
  have RL : RelL Im p s.H w.heap z' z.cells.toList := by
   subst hz'
   refine ⟨by simp, fun j d u hd hu => ?_⟩
   rw [List.getElem?_map, hu] at hd
   cases hd
   exact ⟨.p (relP_ofC _ _ _), List.all_eq_true.1 h1 u (List.mem_of_getElem? hu)⟩
  have T : Turn Im p s.H w.heap nm ⟨0, 0, []⟩ ⟨0, z'.length, [z']⟩ (w.heap.size, 0) (w.heap.push (.cells z.cells e)) := by
   refine Turn.fresh hn (RowsAt.of (fun r hr => ?_) ?_ fun r hr => ?_)
   ·cases hr with
    | head => rfl
    | tail _ hr => cases hr
   ·rw [RL.len]; simp
   ·cases r with
    | zero =>
     have e1 : (z.cells.toList.drop (0 + 0 * z'.length)).take z'.length = z.cells.toList := by rw [Nat.zero_mul, Nat.add_zero, List.drop_zero, RL.len, List.take_length]
     dsimp only
     rw [e1]
     exact RL
    | succ r => simp at hr
  refine ⟨.value (.pointer (some ⟨w.heap.size, 0, Option.none⟩)), _, w.alloc (.cells z.cells e), p.put nm (w.heap.size, 0), ?_, .inl rfl, T.grows hR.hp, T.relH hR.hp, T.relE hR.hp hR.en rfl rfl rfl, ?_⟩
  ·unfold execOp
   simp [ho, Instr.alloc, zeroValue, typeInfo, hi, hz, newVar, newRow]
  ·exact .ptr nm 0 0 0 _ rfl _ (Hp.put_same _ _ _) (Nat.le_refl _) (fun _ => by rw [Pl.put_same]; simp)
 ·cases he
theorem snd_box {e : TypeId} {x : Operand} {x' : Opd} {sz : Nat} (hx : OpdOk x x') : SoundK P (.box e x) (.box sz x') := fun E Im p s a w nm o d ho hR he hcd => by
 have r := hx _ _ _ _ _ _ hR
 simp only [eff] at he
 split at he
 ·rename_i ds hn hs
  cases he
  dsimp only at hcd ⊢
  have RL := RelL.cells r hs
  have T : Turn Im p s.H w.heap nm ⟨0, 0, []⟩ ⟨0, sz, [ds]⟩ (w.heap.size, 0) (w.heap.push (.cells (a.eval x).cells e)) := by
   refine Turn.fresh hn (RowsAt.of (fun r hr => ?_) ?_ fun r hr => ?_)
   ·cases hr with
    | head => exact hcd
    | tail _ hr => cases hr
   ·have := RL.len; simp at this ⊢; omega
   ·cases r with
    | zero =>
     have e1 : ((a.eval x).cells.toList.drop (0 + 0 * sz)).take sz = (a.eval x).cells.toList := by rw [Nat.zero_mul, Nat.add_zero, List.drop_zero, ← hcd, RL.len, List.take_length]
     dsimp only
     rw [e1]
     exact RL
    | succ r => simp at hr
  refine ⟨.value (.pointer (some ⟨w.heap.size, 0, Option.none⟩)), _, w.alloc (.cells (a.eval x).cells e), p.put nm (w.heap.size, 0), ?_, .inl rfl, T.grows hR.hp, T.relH hR.hp, T.relE hR.hp hR.en rfl rfl rfl, ?_⟩
  ·unfold execOp
   simp [ho, Instr.box, newVar, newRow]
  ·exact .ptr nm 0 0 0 _ rfl _ (Hp.put_same _ _ _) (Nat.le_refl _) (fun _ => by rw [Pl.put_same]; simp)
 ·cases he
theorem ld_direct {t : TypeId} {x : Operand} {x' : Opd} {sz : Nat} {ag : Bool} {dsc : TypeDesc} (hx : OpdOk x x') (hs : (P.info? t).map (·.size) = some sz) (hu : P.underlying t = some dsc) (ha : dsc.isRow = ag) (h1 : ag = false → sz = 1) {E : Ent} {Im : Nat → Prop} {p : Pl} {s : St} {a : Act} {w : World} {nm : Nm} {o : Out} (hR : RelS E Im p s a w) (he : eff nm s.F s.H (.ld sz ag x') = some o) (hcd : o.cond) :
  ∃ u ad, a.eval x = .pointer (some ad) ∧ (Instr.loadAt t (a.eval x)).run P w = .ok u w ∧ Rel Im p s.H w.heap o.v u ∧ o.ws = Option.none := by
 have r := hx _ _ _ _ _ _ hR
 simp only [eff] at he
 have fin : ∀ (b off : Nat) (us : List Value) (ds : List D) (v : D), v = cellsAt ds 0 sz ag → RelL Im p s.H w.heap ds us → ds.length = sz → a.eval x = .pointer (some ⟨b, off, Option.none⟩) → w.rangeAt b off us → ∃ u ad, a.eval x = .pointer (some ad) ∧ (Instr.loadAt t (a.eval x)).run P w = .ok u w ∧ Rel Im p s.H w.heap v u := fun b off us ds v hv RL hl ex hra => by
  subst hv
  obtain ⟨u, e1, e2⟩ := RL.at (c := 0) (sz := sz) (by omega) ag h1
  refine ⟨u, _, ex, ?_, e2⟩
  subst e1
  have hul : us.length = sz := by rw [← RL.len, hl]
  cases ag with
  | true =>
   have := run_loadAt_mid (P := P) w b off t us dsc hra hu ha (by rw [hs, hul])
   have e3 : us.take sz = us := by rw [← hul, List.take_length]
   simp [ex, this, e3]
  | false =>
   obtain ⟨y, rfl⟩ : ∃ y, us = [y] := by
    have := h1 rfl
    match us, hul with
    | [y], _ => exact ⟨y, rfl⟩
    | [], h => simp at h; omega
    | _ :: _ :: _, h => simp at h; omega
   have hcell := hra 0 y rfl
   have hag : (isAgg t).run P w = .ok false w := by
    unfold isAgg
    rw [Sem.run_bind, run_underlying hu w]
    cases dsc <;> simp_all
   simp only [Nat.add_zero] at hcell
   simp [ex, Instr.loadAt, Instr.sureAddr, loadVar, Sem.run_bind, hag, hcell]
 split at he
 ·rename_i i g r' c hs'
  rw [hs'] at r
  split at he
  ·rename_i e hi
   split at he
   ·rename_i hg
    cases he
    dsimp only at hcd
    obtain ⟨blk, t', us, k1, k2, k3, k4, k5, k6, k7, k8, k9⟩ := cells_at hR.hp hi hcd.1 hcd.2
    have RL := (k5.drop c).take sz
    obtain ⟨u, ad, q0, q1, q2⟩ := fin _ _ _ _ (cellsAt (e.rows.getD r' []) c sz ag) (by
     unfold cellsAt
     cases ag with
     | true => simp [List.take_take]
     | false => simp [List.getD_eq_getElem?_getD, List.getElem?_take, h1 rfl]) RL (by rw [RL.len, k9]) (rel_ptr r hi hg) k8
    exact ⟨u, ad, q0, q1, q2, rfl⟩
   ·cases he
  ·cases he
 ·rename_i f hs'
  rw [hs'] at r
  cases he
  dsimp only at hcd
  generalize hux : a.eval x = ux at r
  cases r with
  | p r => cases r
  | ip _ b off u him hcell hr =>
   have RL : RelL Im p s.H w.heap f ((List.range f.length).map u) := by
    refine ⟨by simp, fun j d u' hd hu' => ?_⟩
    have hj : j < f.length := (List.getElem?_eq_some_iff.1 hd).1
    rw [List.getElem?_map, List.getElem?_range hj] at hu'
    cases hu'
    exact ⟨.p (hr j d hd), (hcell j hj).2⟩
   obtain ⟨u', ad, q0, q1, q2⟩ := fin b off (((List.range f.length).map u).take sz) (f.take sz) (cellsAt f 0 sz ag) (by
     unfold cellsAt
     cases ag with
     | true => simp [List.take_take]
     | false => simp [List.getD_eq_getElem?_getD, List.getElem?_take, h1 rfl]) (RL.take sz) (by rw [List.length_take]; omega) hux (fun j v hv => by
      have hj : j < sz := by have := (List.getElem?_eq_some_iff.1 hv).1; rw [List.length_take] at this; omega
      rw [List.getElem?_take, if_pos hj, List.getElem?_map, List.getElem?_range (by omega)] at hv
      cases hv
      rw [hc_cell]
      exact (hcell j (by omega)).1)
   exact ⟨u', ad, hux.symm ▸ q0, by first | exact q1 | (rw [hux] at q1; exact q1), q2, rfl⟩
 ·cases he
theorem snd_ld {t : TypeId} {x : Operand} {x' : Opd} {sz : Nat} {ag : Bool} {dsc : TypeDesc} (hx : OpdOk x x') (hs : (P.info? t).map (·.size) = some sz) (hu : P.underlying t = some dsc) (ha : dsc.isRow = ag) (h1 : ag = false → sz = 1) : SoundK P (.load t x) (.ld sz ag x') := fun E Im p s a w nm o d ho hR he hcd => by
 obtain ⟨u, ad, q0, q1, q2, q3⟩ := ld_direct hx hs hu ha h1 hR he hcd
 refine sound_pure hR ?_ q3 q2
 unfold execOp
 simp only [ho, Sem.run_bind, q1, Result.andThen_ok]
 rfl
theorem snd_st {t : TypeId} {x y : Operand} {x' y' : Opd} {sz : Nat} (hx : OpdOk x x') (hy : OpdOk y y') (hs : (P.info? t).map (·.size) = some sz) : SoundK P (.store t x y) (.st sz x' y') := fun E Im p s a w nm o d ho hR he hcd => by
 have r := hx _ _ _ _ _ _ hR
 have r' := hy _ _ _ _ _ _ hR
 simp only [eff] at he
 split at he
 ·rename_i i g r0 c ds hs' hds
  rw [hs'] at r
  split at he
  ·rename_i e hi
   split at he
   ·rename_i hg
    cases he
    dsimp only at hcd ⊢
    obtain ⟨hl, hr0, hc⟩ := hcd
    obtain ⟨blk, t', us, k1, k2, k3, k4, k5, k6, k7, k8, k9⟩ := cells_at hR.hp hi hr0 hc
    have ex := rel_ptr r hi hg
    have RL := RelL.cells r' hds
    have hvl : (a.eval y).cells.toList.length = sz := by rw [← RL.len, hl]
    have hst := run_storeCells_at P (p i).1 ((p i).2 + r0 * e.sz + c) t' (a.eval y).cells.toList 0 blk w k1 (by rw [hvl]; omega) RL.one
    simp only [Nat.add_zero] at hst
    have hne : e.rows ≠ [] := by intro h; rw [h] at hr0; exact absurd hr0 (Nat.not_lt_zero _)
    generalize hvs : (a.eval y).cells.toList = vs at RL hst hvl
    generalize hO : (p i).2 + r0 * e.sz + c = O at hst
    have hOle : O + vs.length ≤ blk.size := by omega
    have hsz' : (blk.toList.take O ++ vs ++ blk.toList.drop (O + vs.length)).length = blk.size := by simp only [List.length_append, List.length_take, List.length_drop, Array.length_toList]; omega
    have hblk' : (w.setRow (p i).1 (blk.toList.take O ++ vs ++ blk.toList.drop (O + vs.length)).toArray).heap[(p i).1]? = some (.cells (blk.toList.take O ++ vs ++ blk.toList.drop (O + vs.length)).toArray t' (0, 0)) := setRow_heap w _ blk _ t' _ k1
    have T : Turn Im p s.H w.heap i e ⟨e.g, e.sz, e.rows.set r0 (put1 (e.rows.getD r0 []) c ds)⟩ (p i) (w.setRow (p i).1 (blk.toList.take O ++ vs ++ blk.toList.drop (O + vs.length)).toArray).heap := by
     refine ⟨.inl hi, .inr (.inr ⟨rfl, rfl, rfl, fun _ => ⟨?_, blk, t', _, k1, hblk', by simpa using hsz'⟩⟩), fun b hb hbo => ?_, by simp, fun _ => .inl ⟨hne, rfl⟩, fun _ => ⟨_, t', hblk', RowsAt.of (fun row hrow => ?_) ?_ fun k hk => ?_⟩⟩
     ·intro h
      have := congrArg List.length h
      simp at this
      exact hne this
     ·rcases hbo with h | h
      ·exact absurd h hne
      ·exact setRow_other w _ _ _ h
     ·dsimp only at hrow ⊢
      rcases List.mem_or_eq_of_mem_set hrow with h | h
      ·exact k3.len _ h
      ·rw [h, length_put1 (by omega)]; exact k6
     ·dsimp only
      rw [List.length_set]
      have := k3.le
      simp only [List.size_toArray]
      omega
     ·dsimp only at hk ⊢
      rw [List.length_set] at hk
      obtain ⟨q1, q2, q3⟩ := k3.row hk
      have hsegA : ∀ m, ((blk.toList.take O ++ vs ++ blk.toList.drop (O + vs.length))[m]?) = if m < O then blk.toList[m]? else if m < O + vs.length then vs[m - O]? else blk.toList[m]? := fun m => by
       have hlt : (blk.toList.take O).length = O := by rw [List.length_take, Array.length_toList]; omega
       split
       ·rename_i hm
        rw [List.append_assoc, List.getElem?_append_left (by omega), List.getElem?_take, if_pos hm]
       ·split
        ·rename_i hm hm'
         rw [List.append_assoc, List.getElem?_append_right (by omega), hlt, List.getElem?_append_left (by omega)]
        ·rename_i hm hm'
         rw [List.append_assoc, List.getElem?_append_right (by omega), hlt, List.getElem?_append_right (by omega), List.getElem?_drop]
         congr 1
         omega
      by_cases hkr : k = r0
      ·subst hkr
       rw [List.getD_eq_getElem?_getD, List.getElem?_set_self hr0, Option.getD_some]
       have hput := k5.put1 RL (c := c) (by omega)
       rw [k4] at hput
       have hseg : (((blk.toList.take O ++ vs ++ blk.toList.drop (O + vs.length)).drop ((p i).2 + k * e.sz)).take e.sz) = ((blk.toList.drop ((p i).2 + k * e.sz)).take e.sz).take c ++ vs ++ ((blk.toList.drop ((p i).2 + k * e.sz)).take e.sz).drop (c + vs.length) := by
        refine List.ext_getElem? fun m => ?_
        have hl1 : (((blk.toList.drop ((p i).2 + k * e.sz)).take e.sz).take c).length = c := by rw [List.length_take, List.length_take, List.length_drop, Array.length_toList]; omega
        by_cases hm : m < e.sz
        ·rw [List.getElem?_take, if_pos hm, List.getElem?_drop, hsegA]
         by_cases h1 : m < c
         ·rw [if_pos (by omega), List.append_assoc, List.getElem?_append_left (by omega), List.getElem?_take, if_pos h1, List.getElem?_take, if_pos hm, List.getElem?_drop]
         ·by_cases h2 : m < c + vs.length
          ·rw [if_neg (by omega), if_pos (by omega), List.append_assoc, List.getElem?_append_right (by omega), hl1, List.getElem?_append_left (by omega)]
           congr 1
           omega
          ·rw [if_neg (by omega), if_neg (by omega), List.append_assoc, List.getElem?_append_right (by omega), hl1, List.getElem?_append_right (by omega), List.getElem?_drop, List.getElem?_take, if_pos (by omega), List.getElem?_drop]
           congr 1
           omega
        ·rw [List.getElem?_eq_none (by rw [List.length_take]; omega), List.getElem?_eq_none (by simp only [List.length_append, hl1, List.length_drop, List.length_take, Array.length_toList]; omega)]
       rw [hseg]
       exact hput
      ·rw [List.getD_eq_getElem?_getD, List.getElem?_set_ne (Ne.symm hkr), ← List.getD_eq_getElem?_getD]
       have hseg : (((blk.toList.take O ++ vs ++ blk.toList.drop (O + vs.length)).drop ((p i).2 + k * e.sz)).take e.sz) = (blk.toList.drop ((p i).2 + k * e.sz)).take e.sz := by
        refine List.ext_getElem? fun m => ?_
        by_cases hm : m < e.sz
        ·rw [List.getElem?_take, if_pos hm, List.getElem?_drop, hsegA, List.getElem?_take, if_pos hm, List.getElem?_drop]
         rcases Nat.lt_or_gt_of_ne hkr with h | h
         ·have : (k + 1) * e.sz ≤ r0 * e.sz := Nat.mul_le_mul_right _ h
          rw [Nat.add_mul, Nat.one_mul] at this
          rw [if_pos (by omega)]
         ·have : (r0 + 1) * e.sz ≤ k * e.sz := Nat.mul_le_mul_right _ h
          rw [Nat.add_mul, Nat.one_mul] at this
          rw [if_neg (by omega), if_neg (by omega)]
        ·rw [List.getElem?_take, if_neg hm, List.getElem?_take, if_neg hm]
       rw [hseg]
       exact q1
    refine ⟨.skip, undef, w.setRow (p i).1 (blk.toList.take O ++ vs ++ blk.toList.drop (O + vs.length)).toArray, p, ?_, .inr ⟨rfl, rfl⟩, ?_, ?_, ?_, .p (.any _)⟩
    ·unfold execOp
     cases hq : P.info? t with
     | none => rw [hq] at hs; cases hs
     | some ti =>
      have hts : ti.size = sz := by rw [hq] at hs; simpa using hs
      have hcs : (a.eval y).cells.size = sz := by rw [← hvl, ← hvs]; simp
      have hst' : (storeVar t ⟨(p i).1, O, Option.none⟩ (a.eval y)).run P w = .ok () (w.setRow (p i).1 (blk.toList.take O ++ vs ++ blk.toList.drop (O + vs.length)).toArray) := by
       rw [← hst]
       simp [storeVar, sizeOf, typeInfo, hq, hcs, hts, hvs]
      simp only [ho, ex, hO, Instr.storeAt, Instr.sureAddr, Sem.run_bind, Sem.run_pure, Result.andThen_ok, hst']
    ·have := T.grows hR.hp
     have ep : p.put i (p i) = p := by funext j; unfold Pl.put; split <;> simp_all
     rwa [ep] at this
    ·have := T.relH hR.hp
     have ep : p.put i (p i) = p := by funext j; unfold Pl.put; split <;> simp_all
     rwa [ep] at this
    ·have := T.relE hR.hp hR.en (w' := w.setRow (p i).1 (blk.toList.take O ++ vs ++ blk.toList.drop (O + vs.length)).toArray) rfl rfl rfl
     have ep : p.put i (p i) = p := by funext j; unfold Pl.put; split <;> simp_all
     rwa [ep] at this
   ·cases he
  ·cases he
 ·cases he
end
end Go.Proofs.Ytadjhfjiimgddaa
