
/- Abstract data over memory: what a store, an allocation, an append, the end of a name's life do. No program in sight. -/
import Derived.Test.YtiaenojpbiahgaaVa
namespace Go.Proofs.Ytiaenojpbiahgaa
open Go
set_option linter.unusedVariables false

def Pl.put (p : Pl) (i : Nm) (q : Nat × Nat) : Pl := fun j => if j = i then q else p j
theorem Hp.put_same (H : Hp) (i : Nm) (e : En) : H.put i e i = some e := by simp [Hp.put]
theorem Hp.put_other (H : Hp) {i j : Nm} (h : j ≠ i) (e : En) : H.put i e j = H j := by simp [Hp.put, h]
theorem Pl.put_same (p : Pl) (i : Nm) (q : Nat × Nat) : p.put i q i = q := by simp [Pl.put]
theorem Pl.put_other (p : Pl) {i j : Nm} (h : j ≠ i) (q : Nat × Nat) : p.put i q j = p j := by simp [Pl.put, h]
theorem lt_of_some {h : Array Obj} {b : Nat} {x : Obj} (e : h[b]? = some x) : b < h.size := by
  rcases Nat.lt_or_ge b h.size with hl | hl
  · exact hl
  · rw [Array.getElem?_eq_none hl] at e; cases e

/-- The old entry of a name that is there, or of one that is not. -/
def OldEn (H : Hp) (i : Nm) (e : En) : Prop := H i = some e ∨ (H i = Option.none ∧ e.rows = [])
/-- How a name's entry may turn, with the memory. -/
structure Turn (Im : Nat → Prop) (p : Pl) (H : Hp) (h : Array Obj) (i : Nm) (e e' : En) (q : Nat × Nat) (h' : Array Obj) : Prop where
  old : OldEn H i e
  gen : H i = Option.none ∨ e.g < e'.g ∨ (e.g = e'.g ∧ q = p i ∧ e'.sz = e.sz ∧ (e.rows ≠ [] → e'.rows ≠ [] ∧ ∃ c t c', h[(p i).1]? = some (.cells c t (0, 0)) ∧ h'[(p i).1]? = some (.cells c' t (0, 0)) ∧ c'.size = c.size))
  blk : ∀ b, b < h.size → (e.rows = [] ∨ b ≠ (p i).1) → h'[b]? = h[b]?
  size : h.size ≤ h'.size
  place : e'.rows ≠ [] → (e.rows ≠ [] ∧ q.1 = (p i).1) ∨ h.size ≤ q.1
  new : e'.rows ≠ [] → ∃ c t, h'[q.1]? = some (.cells c t (0, 0)) ∧ RowsAt Im p H h c q.2 e'.sz e'.rows
theorem OldEn.some {H : Hp} {i : Nm} {e : En} (h : OldEn H i e) (hn : e.rows ≠ []) : H i = some e := h.elim id (fun k => absurd k.2 hn)
theorem Turn.grows {Im : Nat → Prop} {p : Pl} {H : Hp} {h : Array Obj} {i : Nm} {e e' : En} {q : Nat × Nat} {h' : Array Obj} (T : Turn Im p H h i e e' q h') (R : RelH Im p H h) :
    Grows Im p H h Im (p.put i q) (H.put i e') h' := by
  refine ⟨fun _ hb => hb, fun b hb => T.blk b (R.im b hb) ?_, fun j ej hj => ?_⟩
  · by_cases hn : e.rows = []
    · exact .inl hn
    · refine .inr fun eb => ?_
      obtain ⟨c, t, _, hni, _⟩ := R.cell i e (T.old.some hn) hn
      exact hni (eb ▸ hb)
  · by_cases hji : j = i
    · subst hji
      rw [Hp.put_same, Pl.put_same]
      obtain rfl : ej = e := by
        rcases T.old with ho | ⟨ho, _⟩
        · rw [ho] at hj; exact (Option.some.inj hj).symm
        · rw [ho] at hj; cases hj
      rcases T.gen with g | g | ⟨g, hq, hs, hk⟩
      · rw [g] at hj; cases hj
      · exact ⟨e', rfl, by omega, fun he => absurd he (by omega)⟩
      · refine ⟨e', rfl, by omega, fun _ => ⟨hq, hs, fun hn => ⟨(hk hn).1, fun c t hc => ?_⟩⟩⟩
        obtain ⟨_, c1, t1, c1', k1, k2, k3⟩ := hk hn
        rw [k1] at hc
        injection hc with hc
        injection hc with e1 e2 _
        subst e1 e2
        exact ⟨c1', k2, k3⟩
    · rw [Hp.put_other _ hji, Pl.put_other _ hji]
      refine ⟨ej, hj, Nat.le_refl _, fun _ => ⟨rfl, rfl, fun hn => ⟨hn, fun c t hc => ⟨c, ?_, rfl⟩⟩⟩⟩
      rw [T.blk _ (lt_of_some hc) ?_]
      · exact hc
      · by_cases hn' : e.rows = []
        · exact .inl hn'
        · exact .inr (R.inj j i ej e hj (T.old.some hn') hn hn' hji)
theorem RowsAt.mono {Im Im' : Nat → Prop} {p p' : Pl} {H H' : Hp} {h h' : Array Obj} (G : Grows Im p H h Im' p' H' h') {c : Array Value} {s sz : Nat} {rows : List (List D)} (r : RowsAt Im p H h c s sz rows) : RowsAt Im' p' H' h' c s sz rows :=
  ⟨r.len, r.le, fun a b row d h1 h2 => let ⟨u, k1, k2, k3⟩ := r.cell a b row d h1 h2; ⟨u, k1, k2.mono G, k3⟩⟩
theorem Turn.relH {Im : Nat → Prop} {p : Pl} {H : Hp} {h : Array Obj} {i : Nm} {e e' : En} {q : Nat × Nat} {h' : Array Obj} (T : Turn Im p H h i e e' q h') (R : RelH Im p H h) :
    RelH Im (p.put i q) (H.put i e') h' := by
  have G := T.grows R
  refine ⟨fun j ej hj hn => ?_, fun j k ej ek hj hk nj nk hjk => ?_, fun b hb => Nat.lt_of_lt_of_le (R.im b hb) T.size⟩
  · by_cases hji : j = i
    · subst hji
      rw [Hp.put_same] at hj
      obtain rfl := Option.some.inj hj
      rw [Pl.put_same]
      obtain ⟨c, t, k1, k2⟩ := T.new hn
      refine ⟨c, t, k1, fun hb => ?_, k2.mono G⟩
      rcases T.place hn with ⟨hn', hq⟩ | hq
      · obtain ⟨_, _, _, hni, _⟩ := R.cell j e (T.old.some hn') hn'
        exact hni (hq ▸ hb)
      · exact absurd (R.im _ hb) (by omega)
    · rw [Hp.put_other _ hji] at hj
      rw [Pl.put_other _ hji]
      obtain ⟨c, t, k1, k2, k3⟩ := R.cell j ej hj hn
      refine ⟨c, t, ?_, k2, k3.mono G⟩
      rw [T.blk _ (lt_of_some k1) ?_]
      · exact k1
      · by_cases hn' : e.rows = []
        · exact .inl hn'
        · exact .inr (R.inj j i ej e hj (T.old.some hn') hn hn' hji)
  · have key : ∀ k ek, k ≠ i → H k = some ek → ek.rows ≠ [] → e'.rows ≠ [] → q.1 ≠ (p k).1 := fun k ek hki hk nk ne => by
      obtain ⟨c, t, k1, _⟩ := R.cell k ek hk nk
      rcases T.place ne with ⟨hn', hq⟩ | hq
      · rw [hq]; exact R.inj i k e ek (T.old.some hn') hk hn' nk (Ne.symm hki)
      · have := lt_of_some k1; omega
    by_cases hji : j = i
    · subst hji
      have hki : k ≠ j := Ne.symm hjk
      rw [Hp.put_same] at hj
      rw [Hp.put_other _ hki] at hk
      rw [Pl.put_same, Pl.put_other _ hki]
      obtain rfl := Option.some.inj hj
      exact key k ek hki hk nk nj
    · rw [Hp.put_other _ hji] at hj
      rw [Pl.put_other _ hji]
      by_cases hki : k = i
      · subst hki
        rw [Hp.put_same] at hk
        rw [Pl.put_same]
        obtain rfl := Option.some.inj hk
        exact (key j ej hji hj nj nk).symm
      · rw [Hp.put_other _ hki] at hk
        rw [Pl.put_other _ hki]
        exact R.inj j k ej ek hj hk nj nk hjk
theorem Turn.relE {E : Ent} {Im : Nat → Prop} {p : Pl} {H : Hp} {w w' : World} {i : Nm} {e e' : En} {q : Nat × Nat} (T : Turn Im p H w.heap i e e' q w'.heap) (R : RelH Im p H w.heap) (X : RelE E Im p H w)
    (h1 : w'.os = w.os) (h2 : w'.tape = w.tape) (h3 : w'.output = w.output) : RelE E Im (p.put i q) (H.put i e') w' := by
  have hown : e.rows ≠ [] → E.B (p i).1 ∨ E.w.heap.size ≤ (p i).1 := fun hn => X.ids i e (T.old.some hn) hn
  refine ⟨h1.trans X.os, h2.trans X.tape, h3.trans X.output, Nat.le_trans X.size T.size, fun b hb hB => ?_, X.im, X.im', fun j ej hj hn => ?_⟩
  · rw [T.blk b (Nat.lt_of_lt_of_le hb X.size) ?_]
    · exact X.block b hb hB
    · by_cases hn : e.rows = []
      · exact .inl hn
      · refine .inr fun eb => ?_
        rcases hown hn with h | h
        · exact hB (eb ▸ h)
        · omega
  · by_cases hji : j = i
    · subst hji
      rw [Hp.put_same] at hj
      obtain rfl := Option.some.inj hj
      rw [Pl.put_same]
      rcases T.place hn with ⟨hn', hq⟩ | hq
      · rw [hq]; exact hown hn'
      · exact .inr (Nat.le_trans X.size hq)
    · rw [Hp.put_other _ hji] at hj
      rw [Pl.put_other _ hji]
      exact X.ids j ej hj hn

/-- Cells that can be read as plain data. -/
def D.plain : D → Bool
  | .v _ => true
  | .any => true
  | .sl _ => true
  | .mt => true
  | _ => false
theorem Rel.plain {Im : Nat → Prop} {p : Pl} {H : Hp} {h : Array Obj} {d : D} {x : Value} (r : Rel Im p H h d x) (hd : d.plain = true) : RelP Im h d x := by
  cases r with
  | p r => exact r
  | _ => simp [D.plain] at hd

/-- A name ends: its rows are plain data from now on. -/
theorem RelH.kill {Im : Nat → Prop} {p : Pl} {H : Hp} {h : Array Obj} (R : RelH Im p H h) {i : Nm} {e : En} (hi : H i = some e) :
    ∃ Im' : Nat → Prop, Grows Im p H h Im' p (H.put i ⟨e.g + 1, e.sz, []⟩) h ∧ RelH Im' p (H.put i ⟨e.g + 1, e.sz, []⟩) h ∧ (∀ b, Im' b ↔ Im b ∨ (e.rows ≠ [] ∧ b = (p i).1)) := by
  refine ⟨fun b => Im b ∨ (e.rows ≠ [] ∧ b = (p i).1), ?_⟩
  have G : Grows Im p H h (fun b => Im b ∨ (e.rows ≠ [] ∧ b = (p i).1)) p (H.put i ⟨e.g + 1, e.sz, []⟩) h := by
    refine ⟨fun b hb => .inl hb, fun _ _ => rfl, fun j ej hj => ?_⟩
    by_cases hji : j = i
    · subst hji
      rw [hi] at hj
      obtain rfl := Option.some.inj hj
      rw [Hp.put_same]
      exact ⟨_, rfl, by dsimp only; omega, fun he => absurd he (by dsimp only; omega)⟩
    · rw [Hp.put_other _ hji]
      exact ⟨ej, hj, Nat.le_refl _, fun _ => ⟨rfl, rfl, fun hn => ⟨hn, fun c t hc => ⟨c, hc, rfl⟩⟩⟩⟩
  refine ⟨G, ⟨fun j ej hj hn => ?_, fun j k ej ek hj hk nj nk hjk => ?_, fun b hb => ?_⟩, fun b => Iff.rfl⟩
  · by_cases hji : j = i
    · subst hji
      rw [Hp.put_same] at hj
      obtain rfl := Option.some.inj hj
      exact absurd rfl hn
    · rw [Hp.put_other _ hji] at hj
      obtain ⟨c, t, k1, k2, k3⟩ := R.cell j ej hj hn
      exact ⟨c, t, k1, fun hb => hb.elim k2 fun ⟨hn', hb⟩ => R.inj j i ej e hj hi hn hn' hji hb, k3.mono G⟩
  · have other : ∀ j ej, (H.put i ⟨e.g + 1, e.sz, []⟩) j = some ej → ej.rows ≠ [] → H j = some ej := fun j ej hj hn => by
      by_cases hji : j = i
      · subst hji
        rw [Hp.put_same] at hj
        obtain rfl := Option.some.inj hj
        exact absurd rfl hn
      · rwa [Hp.put_other _ hji] at hj
    exact R.inj j k ej ek (other j ej hj nj) (other k ek hk nk) nj nk hjk
  · rcases hb with hb | ⟨hn, rfl⟩
    · exact R.im b hb
    · obtain ⟨c, t, k1, _⟩ := R.cell i e hi hn
      exact lt_of_some k1
theorem RelE.kill {E : Ent} {Im Im' : Nat → Prop} {p : Pl} {H : Hp} {w : World} (X : RelE E Im p H w) {i : Nm} {e : En} (hi : H i = some e) (h : ∀ b, Im' b ↔ Im b ∨ (e.rows ≠ [] ∧ b = (p i).1)) : RelE E Im' p (H.put i ⟨e.g + 1, e.sz, []⟩) w := by
  refine ⟨X.os, X.tape, X.output, X.size, X.block, fun b hb => (h b).2 (.inl (X.im b hb)), fun b hb => ?_, fun j ej hj hn => ?_⟩
  · rcases (h b).1 hb with hb | ⟨hn, rfl⟩
    · exact X.im' b hb
    · exact .inr (X.ids i e hi hn)
  · by_cases hji : j = i
    · subst hji
      rw [Hp.put_same] at hj
      obtain rfl := Option.some.inj hj
      exact absurd rfl hn
    · rw [Hp.put_other _ hji] at hj
      exact X.ids j ej hj hn
/-- What a name's rows were, as plain data: a slice of them. -/
theorem rows_plain {Im Im' : Nat → Prop} {p : Pl} {H : Hp} {h : Array Obj} (R : RelH Im p H h) {i : Nm} {e : En} (hi : H i = some e) (h' : ∀ b, Im' b ↔ Im b ∨ (e.rows ≠ [] ∧ b = (p i).1))
    {g off n : Nat} (hp : ∀ r ∈ e.rows, ∀ d ∈ r, d.plain = true) (hg : g = e.g) (hn : off + n ≤ e.rows.length) {x : Value} (r : Rel Im p H h (.own i g off n) x) : RelP Im' h (.sl ((e.rows.drop off).take n)) x := by
  cases r with
  | p r => cases r
  | own _ _ _ _ a cap e' hH hg' hnc hl =>
    rw [hi] at hH
    obtain rfl := Option.some.inj hH
    rcases Nat.eq_zero_or_pos n with rfl | hpos
    · rw [List.take_zero]
      exact .sl0 a cap
    · obtain ⟨rfl, hne, c, t, k1, k2⟩ := hl hg (by omega)
      obtain ⟨c2, t2, q1, q2, q3⟩ := R.cell i e hi hne
      rw [k1] at q1
      injection q1 with q1
      injection q1 with e1 e2 _
      subst e1 e2
      have hlen : ((e.rows.drop off).take n).length = n := by rw [List.length_take, List.length_drop]; omega
      have hget : ∀ a, a < n → ((e.rows.drop off).take n)[a]? = e.rows[off + a]? := fun a ha => by rw [List.getElem?_take, if_pos ha, List.getElem?_drop]
      have himp : ∀ b, Im b → Im' b := fun b hb => (h' b).2 (.inl hb)
      have cellAt : ∀ a j row d, e.rows[off + a]? = some row → row[j]? = some d → ∃ u, hc h (p i).1 ((p i).2 + off * e.sz + a * e.sz + j) = some u ∧ RelP Im' h d u ∧ one u = true := fun a j row d h1 h2 => by
        obtain ⟨u, u1, u2, u3⟩ := q3.cell _ _ _ _ h1 h2
        refine ⟨u, ?_, (u2.plain (hp row (List.mem_of_getElem? h1) d (List.mem_of_getElem? h2))).mono himp (fun _ _ => rfl), u3⟩
        unfold hc
        rw [k1]
        dsimp only
        rw [← u1]
        congr 1
        rw [Nat.add_mul]
        omega
      refine .sl1 _ _ _ n cap e.sz (fun a j => (hc h (p i).1 ((p i).2 + off * e.sz + a * e.sz + j)).getD undef) hlen hnc (fun r hr => q3.len r (List.mem_of_mem_drop (List.mem_of_mem_take hr))) ((h' _).2 (.inr ⟨hne, rfl⟩)) (fun a j ha hj => ?_) (fun a j ha hj => ?_)
      · have hr : off + a < e.rows.length := by omega
        have hrow : e.rows[off + a]? = some e.rows[off + a] := List.getElem?_eq_getElem hr
        have hlr : e.rows[off + a].length = e.sz := q3.len _ (List.getElem_mem hr)
        obtain ⟨u, u1, u2, u3⟩ := cellAt a j _ _ hrow (List.getElem?_eq_getElem (by omega))
        rw [u1]
        exact ⟨rfl, u3⟩
      · have han : a < n := by omega
        have hrow : e.rows[off + a]? = some (((e.rows.drop off).take n)[a]) := by rw [← hget a han]; exact List.getElem?_eq_getElem ha
        obtain ⟨u, u1, u2, u3⟩ := cellAt a j _ _ hrow (List.getElem?_eq_getElem hj)
        rw [u1]
        exact u2
end Go.Proofs.Ytiaenojpbiahgaa
