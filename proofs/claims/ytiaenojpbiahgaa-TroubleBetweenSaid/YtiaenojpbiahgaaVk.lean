
/- Calls over abstract data: what is handed to the callee, and what a contract says. -/
import Derived.Test.YtiaenojpbiahgaaVj
namespace Go.Proofs.Ytiaenojpbiahgaa
open Go
set_option linter.unusedVariables false
set_option linter.unusedSimpArgs false

theorem Grows.trans {Im Im' Im2 : Nat → Prop} {p p' p2 : Pl} {H H' H2 : Hp} {h h' h2 : Array Obj} (A : Grows Im p H h Im' p' H' h') (B : Grows Im' p' H' h' Im2 p2 H2 h2) : Grows Im p H h Im2 p2 H2 h2 := by
  refine ⟨fun b hb => B.im b (A.im b hb), fun b hb => (B.blk b (A.im b hb)).trans (A.blk b hb), fun i e hi => ?_⟩
  obtain ⟨e1, k1, k2, k3⟩ := A.ids i e hi
  obtain ⟨e2, q1, q2, q3⟩ := B.ids i e1 k1
  refine ⟨e2, q1, by omega, fun hg => ?_⟩
  obtain ⟨a1, a2, a3⟩ := k3 (by omega)
  obtain ⟨b1, b2, b3⟩ := q3 (by omega)
  refine ⟨b1.trans a1, b2.trans a2, fun hn => ?_⟩
  obtain ⟨a4, a5⟩ := a3 hn
  obtain ⟨b4, b5⟩ := b3 a4
  refine ⟨b4, fun c t hc => ?_⟩
  obtain ⟨c1, a6, a7⟩ := a5 c t hc
  rw [← a1] at a6
  obtain ⟨c2, b6, b7⟩ := b5 c1 t a6
  rw [a1] at b6
  exact ⟨c2, b6, by omega⟩

/-- A name ends. -/
def Hp.kill (H : Hp) (i : Nm) : Hp :=
  match H i with
  | some e => H.put i ⟨e.g + 1, e.sz, []⟩
  | Option.none => H
def Hp.kills (H : Hp) : List Nm → Hp
  | [] => H
  | i :: is => (H.kill i).kills is
theorem kills_spec {E : Ent} {p : Pl} {w : World} : ∀ (ks : List Nm) (Im : Nat → Prop) (H : Hp), RelH Im p H w.heap → RelE E Im p H w →
    ∃ Im', Grows Im p H w.heap Im' p (H.kills ks) w.heap ∧ RelH Im' p (H.kills ks) w.heap ∧ RelE E Im' p (H.kills ks) w ∧ ∀ i ∈ ks, ∀ e, H i = some e → e.rows ≠ [] → Im' (p i).1
  | [], Im, H, R, X => ⟨Im, Grows.refl _ _ _ _, R, X, fun i hi => by cases hi⟩
  | i :: is, Im, H, R, X => by
    cases hi : H i with
    | none =>
      obtain ⟨Im', k1, k2, k3, k4⟩ := kills_spec is Im H R X
      have e : H.kills (i :: is) = H.kills is := by simp only [Hp.kills, Hp.kill, hi]
      rw [e]
      refine ⟨Im', k1, k2, k3, fun j hj ej hej hn => ?_⟩
      cases hj with
      | head => rw [hi] at hej; cases hej
      | tail _ hj => exact k4 j hj ej hej hn
    | some e =>
      obtain ⟨Im1, g1, r1, b1⟩ := R.kill hi
      have x1 := X.kill hi b1
      have he : H.kills (i :: is) = (H.put i ⟨e.g + 1, e.sz, []⟩).kills is := by simp only [Hp.kills, Hp.kill, hi]
      rw [he]
      obtain ⟨Im', k1, k2, k3, k4⟩ := kills_spec is Im1 _ r1 x1
      refine ⟨Im', g1.trans k1, k2, k3, fun j hj ej hej hn => ?_⟩
      by_cases hji : j = i
      · subst hji
        rw [hi] at hej
        cases hej
        exact k1.im _ ((b1 _).2 (.inr ⟨hn, rfl⟩))
      · cases hj with
        | head => exact absurd rfl hji
        | tail _ hj => exact k4 j hj ej (by rw [Hp.put_other _ hji]; exact hej) hn
/-- What a name's rows were, as plain data. -/
theorem rows_plain' {Im Im' : Nat → Prop} {p : Pl} {H : Hp} {h : Array Obj} (R : RelH Im p H h) {i : Nm} {e : En} (hi : H i = some e) (h1 : ∀ b, Im b → Im' b) (h2 : e.rows ≠ [] → Im' (p i).1)
    {g off n : Nat} (hp : ∀ r ∈ e.rows, ∀ d ∈ r, d.plain = true) (hg : e.g = g) (hn : off + n ≤ e.rows.length) {x : Value} (r : Rel Im p H h (.own i g off n) x) : RelP Im' h (.sl ((e.rows.drop off).take n)) x := by
  have k := rows_plain (Im' := fun b => Im b ∨ (e.rows ≠ [] ∧ b = (p i).1)) R hi (fun b => Iff.rfl) hp hg.symm hn r
  exact k.mono (fun b hb => hb.elim (h1 b) fun ⟨q1, q2⟩ => q2 ▸ h2 q1) (fun _ _ => rfl)

/-- Data as they are handed to a callee: slices of one's own as plain data. -/
def lend1 (H : Hp) : D → D
  | .own i g off n =>
    match H i with
    | some e => if e.g = g then .sl ((e.rows.drop off).take n) else .any
    | Option.none => .any
  | .mt => .sl []
  | d => d
def lend (H : Hp) : D → D
  | .agg cs => .agg (cs.map (lend1 H))
  | d => lend1 H d
def lendNm1 (H : Hp) : D → List Nm
  | .own i g off n =>
    match H i with
    | some e => if e.g = g then [i] else []
    | Option.none => []
  | _ => []
def lendNm (H : Hp) : D → List Nm
  | .agg cs => cs.flatMap (lendNm1 H)
  | d => lendNm1 H d
def lendOk1 (H : Hp) : D → Prop
  | .own i g off n =>
    match H i with
    | some e => (∀ r ∈ e.rows, ∀ d ∈ r, d.plain = true) ∧ off + n ≤ e.rows.length
    | Option.none => True
  | _ => True
def lendOkL (H : Hp) : List D → Prop
  | [] => True
  | d :: ds => lendOk1 H d ∧ lendOkL H ds
def lendOk (H : Hp) : D → Prop
  | .agg cs => lendOkL H cs
  | d => lendOk1 H d
def lendOkL' (H : Hp) : List D → Prop
  | [] => True
  | d :: ds => lendOk H d ∧ lendOkL' H ds
theorem lendOkL'_mem {H : Hp} : ∀ {ds : List D}, lendOkL' H ds → ∀ d ∈ ds, lendOk H d
  | _ :: _, h, _, .head _ => h.1
  | _ :: _, h, d, .tail _ hd => lendOkL'_mem h.2 d hd
theorem lendOkL_mem {H : Hp} : ∀ {ds : List D}, lendOkL H ds → ∀ d ∈ ds, lendOk1 H d
  | _ :: _, h, _, .head _ => h.1
  | _ :: _, h, d, .tail _ hd => lendOkL_mem h.2 d hd
theorem lend1_rel {Im Im' : Nat → Prop} {p : Pl} {H H' : Hp} {h : Array Obj} (R : RelH Im p H h) (G : Grows Im p H h Im' p H' h) {d : D} {u : Value} (r : Rel Im p H h d u) (ok : lendOk1 H d) (hk : ∀ i ∈ lendNm1 H d, ∀ e, H i = some e → e.rows ≠ [] → Im' (p i).1) : Rel Im' p H' h (lend1 H d) u := by
  cases d with
  | own i g off n =>
    simp only [lend1, lendNm1, lendOk1] at *
    cases hi : H i with
    | none =>
      cases r with
      | p r => cases r
      | own _ _ _ _ a cap e hH => rw [hi] at hH; cases hH
    | some e =>
      rw [hi] at ok hk
      dsimp only at ok hk ⊢
      split
      · rename_i hg
        rw [if_pos hg] at hk
        exact .p (rows_plain' R hi G.im (fun hn => hk i (List.mem_cons_self ..) e hi hn) ok.1 hg ok.2 r)
      · exact .p (.any _)
  | mt =>
    obtain ⟨a, rfl⟩ := rel_mt r
    exact .p (.sl0 a 0)
  | _ => exact r.mono G
theorem lend_rel {Im Im' : Nat → Prop} {p : Pl} {H H' : Hp} {h : Array Obj} (R : RelH Im p H h) (G : Grows Im p H h Im' p H' h) {d : D} {u : Value} (r : Rel Im p H h d u) (ok : lendOk H d) (hk : ∀ i ∈ lendNm H d, ∀ e, H i = some e → e.rows ≠ [] → Im' (p i).1) : Rel Im' p H' h (lend H d) u := by
  cases d with
  | agg cs =>
    obtain ⟨us, rfl, RL⟩ := RelL.of_agg r
    have : RelL Im' p H' h (cs.map (lend1 H)) us.toList := by
      refine ⟨by rw [List.length_map, RL.len], fun j d u hd hu => ?_⟩
      rw [List.getElem?_map] at hd
      cases hc : cs[j]? with
      | none => rw [hc] at hd; cases hd
      | some c =>
        rw [hc] at hd
        cases hd
        obtain ⟨k1, k2⟩ := RL.cell j c u hc hu
        have hm := List.mem_of_getElem? hc
        exact ⟨lend1_rel R G k1 (lendOkL_mem ok c hm) (fun i hi => hk i (List.mem_flatMap.2 ⟨c, hm, hi⟩)), k2⟩
    have k := this.rel
    simp only [Array.toArray_toList] at k
    exact k
  | own => exact lend1_rel R G r ok hk
  | mt => exact lend1_rel R G r ok hk
  | v => exact lend1_rel R G r ok hk
  | any => exact lend1_rel R G r ok hk
  | tup => exact lend1_rel R G r ok hk
  | sl => exact lend1_rel R G r ok hk
  | ip => exact lend1_rel R G r ok hk
  | ptr => exact lend1_rel R G r ok hk
  | clo => exact lend1_rel R G r ok hk

/-- All names in data are among some. -/
def nmIn (i : Nm) : List Nm → Bool
  | [] => false
  | j :: js => if i = j then true else nmIn i js
theorem nmIn_iff {i : Nm} : ∀ {js : List Nm}, nmIn i js = true ↔ i ∈ js
  | [] => by simp [nmIn]
  | j :: js => by
    unfold nmIn
    split
    · rename_i h; simp [h]
    · rename_i h; rw [nmIn_iff]; simp [h]
mutual
def D.refsIn (js : List Nm) : D → Bool
  | .own i _ _ _ => nmIn i js
  | .ptr i _ _ _ => nmIn i js
  | .agg cs => refsInL js cs
  | .tup cs => refsInL js cs
  | .clo _ fs cs => refsInL js fs && refsInL js cs
  | .v _ => true
  | .any => true
  | .sl _ => true
  | .mt => true
  | .ip _ => true
def refsInL (js : List Nm) : List D → Bool
  | [] => true
  | d :: ds => d.refsIn js && refsInL js ds
end
theorem refsInL_get {js : List Nm} : ∀ {ds : List D}, refsInL js ds = true → ∀ (j : Nat) (d : D), ds[j]? = some d → d.refsIn js = true
  | [], _, j, d, hd => by cases hd
  | d0 :: ds, h, 0, d, hd => by cases hd; rw [refsInL, Bool.and_eq_true] at h; exact h.1
  | d0 :: ds, h, j + 1, d, hd => by rw [refsInL, Bool.and_eq_true] at h; exact refsInL_get h.2 j d (by simpa using hd)
/-- The part of what is owned that has some names. -/
def Hp.restr (H : Hp) : List Nm → Hp
  | [] => Hp.none
  | i :: is =>
    match H i with
    | some e => (H.restr is).put i e
    | Option.none => H.restr is
theorem restr_in {H : Hp} : ∀ {js : List Nm} {i : Nm}, i ∈ js → H.restr js i = H i
  | j :: js, i, h => by
    unfold Hp.restr
    by_cases hij : i = j
    · subst hij
      cases hi : H i with
      | some e => exact Hp.put_same _ _ _
      | none =>
        dsimp only
        by_cases hm : i ∈ js
        · rw [restr_in hm, hi]
        · have : ∀ {ks : List Nm}, i ∉ ks → H.restr ks i = Option.none := fun {ks} hk => by
            induction ks with
            | nil => rfl
            | cons k ks ih =>
              unfold Hp.restr
              have h1 : i ≠ k := fun h => hk (by simp [h])
              have h2 : i ∉ ks := fun h => hk (by simp [h])
              cases H k with
              | some e => dsimp only; rw [Hp.put_other _ h1]; exact ih h2
              | none => exact ih h2
          exact this hm
    · have hm : i ∈ js := by cases h with
        | head => exact absurd rfl hij
        | tail _ h => exact h
      cases H j with
      | some e => dsimp only; rw [Hp.put_other _ hij]; exact restr_in hm
      | none => exact restr_in hm
theorem restr_out {H : Hp} {i : Nm} : ∀ {js : List Nm}, i ∉ js → H.restr js i = Option.none
  | [], _ => rfl
  | k :: ks, hk => by
    unfold Hp.restr
    have h1 : i ≠ k := fun h => hk (by simp [h])
    have h2 : i ∉ ks := fun h => hk (by simp [h])
    cases H k with
    | some e => dsimp only; rw [Hp.put_other _ h1]; exact restr_out h2
    | none => exact restr_out h2
theorem restr_some {H : Hp} {js : List Nm} {i : Nm} {e : En} (h : H.restr js i = some e) : i ∈ js ∧ H i = some e := by
  by_cases hm : i ∈ js
  · exact ⟨hm, by rw [← restr_in (H := H) hm]; exact h⟩
  · rw [restr_out hm] at h; cases h
theorem Rel.restr {Im : Nat → Prop} {p : Pl} {H : Hp} {h : Array Obj} {js : List Nm} {d : D} {u : Value} (r : Rel Im p H h d u) : d.refsIn js = true → Rel Im p (H.restr js) h d u := by
  induction r with
  | p r => exact fun _ => .p r
  | agg cs us hl h1 hr ih => exact fun hd => .agg cs us hl h1 fun j d u h1 h2 => ih j d u h1 h2 (refsInL_get (by rw [← hd, D.refsIn]) j d h1)
  | tup cs us hl hr ih => exact fun hd => .tup cs us hl fun j d u h1 h2 => ih j d u h1 h2 (refsInL_get (by rw [← hd, D.refsIn]) j d h1)
  | ip f b o u him hcell hr => exact fun _ => .ip f b o u him hcell hr
  | own i g off n a cap e hH hg hn hl => exact fun hd => .own i g off n a cap e (by rw [restr_in (nmIn_iff.1 (by rw [← hd, D.refsIn]))]; exact hH) hg hn hl
  | ptr i g r c x h1 e hH hg hx => exact fun hd => .ptr i g r c x h1 e (by rw [restr_in (nmIn_iff.1 (by rw [← hd, D.refsIn]))]; exact hH) hg hx
  | clo f fs cs us vs hl hl' hr hr' ih ih' =>
    intro hd
    rw [D.refsIn, Bool.and_eq_true] at hd
    exact .clo f fs cs us vs hl hl' (fun j d u h1 h2 => ih j d u h1 h2 (refsInL_get hd.1 j d h1)) (fun j d u h1 h2 => ih' j d u h1 h2 (refsInL_get hd.2 j d h1))
/-- What is reached from the names js has names among js. -/
def ClosedH (H : Hp) (js : List Nm) : List Nm → Prop
  | [] => True
  | i :: is => (match H i with
    | some e => ∀ r ∈ e.rows, refsInL js r = true
    | Option.none => True) ∧ ClosedH H js is
theorem closedH_mem {H : Hp} {js : List Nm} : ∀ {is : List Nm}, ClosedH H js is → ∀ i ∈ is, ∀ e, H i = some e → ∀ r ∈ e.rows, refsInL js r = true
  | i :: is, h, _, .head _, e, he => by
    have := h.1
    rw [he] at this
    exact this
  | _ :: _, h, i, .tail _ hi, e, he => closedH_mem h.2 i hi e he
theorem RelH.restr {Im : Nat → Prop} {p : Pl} {H : Hp} {h : Array Obj} (R : RelH Im p H h) {js : List Nm} (hc : ClosedH H js js) : RelH Im p (H.restr js) h := by
  refine ⟨fun i e hi hn => ?_, fun i j e e' hi hj hn hn' hij => ?_, R.im⟩
  · obtain ⟨h1, h2⟩ := restr_some hi
    obtain ⟨c, t, k1, k2, k3⟩ := R.cell i e h2 hn
    refine ⟨c, t, k1, k2, k3.len, k3.le, fun r j row d hr hd => ?_⟩
    obtain ⟨u, q1, q2, q3⟩ := k3.cell r j row d hr hd
    exact ⟨u, q1, q2.restr (refsInL_get (closedH_mem hc i h1 e h2 row (List.mem_of_getElem? hr)) j d hd), q3⟩
  · exact R.inj i j e e' (restr_some hi).2 (restr_some hj).2 hn hn' hij

/-- The blocks of what is owned. -/
def BlkOf (p : Pl) (H : Hp) (b : Nat) : Prop := ∃ i e, H i = some e ∧ e.rows ≠ [] ∧ b = (p i).1
/-- What a call leaves. -/
structure Left (P : Program) (Hs : Hp) (nn : Nm) (R : D → Hp → Prop) (Im : Nat → Prop) (p : Pl) (w : World) (e : Ending) (w' : World) (Im' : Nat → Prop) (p' : Pl) (v : D) (H' : Hp) (u : Value) : Prop where
  end_ : e = .returned u
  post : R v H'
  rel : Rel Im' p' H' w'.heap v u
  relH : RelH Im' p' H' w'.heap
  grows : Grows Im p Hs w.heap Im' p' H' w'.heap
  relE : ∀ n, RelE ⟨w, Im, BlkOf p Hs, n, p, Hs⟩ Im' p' H' w'
  dom : ∀ i e, H' i = some e → (Hs i).isSome = true ∨ i = nn
/-- A function's contract: called with such data, it leaves such data. -/
def CallsA (P : Program) (f : FuncId) (args : List D) (Hs : Hp) (nn : Nm) (R : D → Hp → Prop) : Prop :=
  ∀ (w : World) (Im : Nat → Prop) (p : Pl) (us : Array Value), args.length = us.size → (∀ (j : Nat) (d : D) (u : Value), args[j]? = some d → us[j]? = some u → Rel Im p Hs w.heap d u) → RelH Im p Hs w.heap → Hs nn = Option.none →
    Calls P f us w fun e w' => ∃ Im' p' v H' u, Left P Hs nn R Im p w e w' Im' p' v H' u
theorem CallsA.mono {P : Program} {f : FuncId} {args : List D} {Hs : Hp} {nn : Nm} {R R' : D → Hp → Prop} (h : CallsA P f args Hs nn R) (hr : ∀ v H', R v H' → R' v H') : CallsA P f args Hs nn R' := fun w Im p us h1 h2 h3 h4 =>
  (h w Im p us h1 h2 h3 h4).mono fun e w' ⟨Im', p', v, H', u, k⟩ => ⟨Im', p', v, H', u, ⟨k.end_, hr _ _ k.post, k.rel, k.relH, k.grows, k.relE, k.dom⟩⟩
/-- What is owned behind a call. -/
def Hp.over (H : Hp) (H' : Hp) : List Nm → Hp
  | [] => H
  | i :: is =>
    match H' i with
    | some e => (H.over H' is).put i e
    | Option.none => H.over H' is
theorem over_some {H H' : Hp} : ∀ {js : List Nm} {i : Nm} {e : En}, i ∈ js → H' i = some e → H.over H' js i = some e
  | j :: js, i, e, hm, he => by
    unfold Hp.over
    by_cases hij : i = j
    · subst hij
      rw [he]
      exact Hp.put_same _ _ _
    · have hm' : i ∈ js := by cases hm with
        | head => exact absurd rfl hij
        | tail _ h => exact h
      cases H' j with
      | some e' => dsimp only; rw [Hp.put_other _ hij]; exact over_some hm' he
      | none => exact over_some hm' he
theorem over_other {H H' : Hp} : ∀ {js : List Nm} {i : Nm}, (i ∉ js ∨ H' i = Option.none) → H.over H' js i = H i
  | [], i, _ => rfl
  | j :: js, i, h => by
    unfold Hp.over
    by_cases hij : i = j
    · subst hij
      have hn : H' i = Option.none := h.resolve_left (by simp)
      rw [hn]
      exact over_other (.inr hn)
    · have h' : i ∉ js ∨ H' i = Option.none := h.imp (fun k hk => k (by simp [hk])) id
      cases H' j with
      | some e' => dsimp only; rw [Hp.put_other _ hij]; exact over_other h'
      | none => exact over_other h'

/-- A call, seen from the caller. -/
theorem call_sound {P : Program} {E : Ent} {Im : Nat → Prop} {p : Pl} {s : St} {a : Act} {w : World} (hR : RelS E Im p s a w) {f : FuncId} {ds : List D} {us : Array Value} (hl : ds.length = us.size) (hr : ∀ (j : Nat) (d : D) (u : Value), ds[j]? = some d → us[j]? = some u → Rel Im p s.H w.heap d u)
    (hok : ∀ d ∈ ds, lendOk s.H d) {ks js : List Nm} (hks : ks = ds.flatMap (lendNm s.H)) {nn : Nm} (hnn : s.H.kills ks nn = Option.none) (hjs : refsInL js (ds.map (lend s.H)) = true) (hcl : ClosedH (s.H.kills ks) js js) {R : D → Hp → Prop} (hC : CallsA P f (ds.map (lend s.H)) ((s.H.kills ks).restr js) nn R) :
    Calls P f us w fun e w' => ∃ v H' u Im' p', e = .returned u ∧ R v H' ∧ Rel Im' p' ((s.H.kills ks).over H' (nn :: js)) w'.heap v u ∧ Grows Im p s.H w.heap Im' p' ((s.H.kills ks).over H' (nn :: js)) w'.heap ∧ RelH Im' p' ((s.H.kills ks).over H' (nn :: js)) w'.heap ∧ RelE E Im' p' ((s.H.kills ks).over H' (nn :: js)) w' := by
  obtain ⟨Im1, g1, r1, x1, b1⟩ := kills_spec (E := E) (w := w) ks Im s.H hR.hp hR.en
  generalize hH1 : s.H.kills ks = H1 at *
  have hr1 : ∀ (j : Nat) (d : D) (u : Value), (ds.map (lend s.H))[j]? = some d → us[j]? = some u → Rel Im1 p (H1.restr js) w.heap d u := fun j d u hd hu => by
    have hd' := hd
    rw [List.getElem?_map] at hd
    cases hc : ds[j]? with
    | none => rw [hc] at hd; cases hd
    | some c =>
      rw [hc] at hd
      cases hd
      have hm := List.mem_of_getElem? hc
      exact (lend_rel hR.hp g1 (hr j c u hc hu) (hok c hm) (fun i hi e he hn => b1 i (by rw [hks]; exact List.mem_flatMap.2 ⟨c, hm, hi⟩) e he hn)).restr (refsInL_get hjs j _ hd')
  refine (hC w Im1 p us (by rw [List.length_map]; exact hl) hr1 (r1.restr hcl) (by
    by_cases hm : nn ∈ js
    · rw [restr_in hm]; exact hnn
    · exact restr_out hm)).mono fun e w' ⟨Im', p', v, H', u, L⟩ => ?_
  have X := L.relE 0
  have hdom : ∀ i ei, H' i = some ei → i ∈ nn :: js := fun i ei hi => by
    rcases L.dom i ei hi with h | h
    · obtain ⟨e0, he0⟩ := Option.isSome_iff_exists.1 h
      exact List.mem_cons_of_mem _ (restr_some he0).1
    · rw [h]; exact List.mem_cons_self ..
  have hnew : ∀ i ei, H' i = some ei → H1.over H' (nn :: js) i = some ei := fun i ei hi => over_some (hdom i ei hi) hi
  have hold : ∀ i, H' i = Option.none → H1.over H' (nn :: js) i = H1 i := fun i hi => over_other (.inr hi)
  have apart : ∀ i ei, H1 i = some ei → ei.rows ≠ [] → H' i = Option.none → ¬ BlkOf p (H1.restr js) (p i).1 := fun i ei hi hn hi' ⟨j, ej, hj, hnj, hb⟩ => by
    obtain ⟨hjm, hj1⟩ := restr_some hj
    have hij : i ≠ j := fun h => by
      subst h
      obtain ⟨e', k1, _⟩ := L.grows.ids i ej hj
      rw [hi'] at k1
      cases k1
    exact r1.inj i j ei ej hi hj1 hn hnj hij hb
  have hlt : ∀ i ei, H1 i = some ei → ei.rows ≠ [] → (p i).1 < w.heap.size := fun i ei hi hn => by
    obtain ⟨c, t, k1, _⟩ := r1.cell i ei hi hn
    exact lt_of_some k1
  have same : ∀ i ei, H1 i = some ei → ei.rows ≠ [] → H' i = Option.none → w'.heap[(p i).1]? = w.heap[(p i).1]? := fun i ei hi hn hi' => X.block _ (hlt i ei hi hn) (apart i ei hi hn hi')
  have hP : ∃ p2 : Pl, (∀ i ei, H' i = some ei → p2 i = p' i) ∧ ∀ i, H' i = Option.none → p2 i = p i := ⟨fun i => match H' i with | some _ => p' i | Option.none => p i, fun i ei hi => by dsimp only; rw [hi], fun i hi => by dsimp only; rw [hi]⟩
  obtain ⟨p2, hp1, hp2⟩ := hP
  have G' : Grows Im' p' H' w'.heap Im' p2 (H1.over H' (nn :: js)) w'.heap := ⟨fun _ h => h, fun _ _ => rfl, fun i ei hi => ⟨ei, hnew i ei hi, Nat.le_refl _, fun _ => ⟨hp1 i ei hi, rfl, fun hn => ⟨hn, fun c t hc => ⟨c, hc, rfl⟩⟩⟩⟩⟩
  have G1 : Grows Im1 p H1 w.heap Im' p2 (H1.over H' (nn :: js)) w'.heap := by
    refine ⟨L.grows.im, L.grows.blk, fun i ei hi => ?_⟩
    cases hi' : H' i with
    | some e' =>
      have hm : i ∈ js := by
        rcases List.mem_cons.1 (hdom i e' hi') with h | h
        · rw [h, hnn] at hi; cases hi
        · exact h
      obtain ⟨e2, k1, k2, k3⟩ := L.grows.ids i ei (by rw [restr_in hm]; exact hi)
      rw [hi'] at k1
      cases k1
      refine ⟨e', hnew i e' hi', k2, ?_⟩
      rw [hp1 i e' hi']
      exact k3
    | none =>
      refine ⟨ei, by rw [hold i hi']; exact hi, Nat.le_refl _, fun _ => ⟨hp2 i hi', rfl, fun hn => ⟨hn, fun c t hc => ⟨c, ?_, rfl⟩⟩⟩⟩
      rw [same i ei hi hn hi']
      exact hc
  refine ⟨v, H', u, Im', p2, L.end_, L.post, L.rel.mono G', g1.trans G1, ⟨fun i ei hi hn => ?_, fun i j ei ej hi hj hn hnj hij => ?_, L.relH.im⟩, ?_⟩
  · cases hi' : H' i with
    | some e' =>
      rw [hnew i e' hi'] at hi
      cases hi
      obtain ⟨c, t, k1, k2, k3⟩ := L.relH.cell i _ hi' hn
      rw [hp1 i _ hi']
      exact ⟨c, t, k1, k2, k3.mono G'⟩
    | none =>
      rw [hold i hi'] at hi
      obtain ⟨c, t, k1, k2, k3⟩ := r1.cell i ei hi hn
      rw [hp2 i hi']
      refine ⟨c, t, by rw [same i ei hi hn hi']; exact k1, fun hb => ?_, k3.mono G1⟩
      rcases X.im' _ hb with h | h | h
      · exact k2 h
      · exact apart i ei hi hn hi' h
      · have := hlt i ei hi hn
        dsimp only at h
        omega
  · have mixed : ∀ i j ei ej, H' i = some ei → ei.rows ≠ [] → H1 j = some ej → ej.rows ≠ [] → H' j = Option.none → (p' i).1 ≠ (p j).1 := fun i j ei ej hi hn hj hnj hj' hb => by
      rcases X.ids i ei hi hn with h | h
      · exact apart j ej hj hnj hj' (hb ▸ h)
      · have := hlt j ej hj hnj
        dsimp only at h
        omega
    cases hi' : H' i with
    | some e' =>
      rw [hnew i e' hi'] at hi
      cases hi
      rw [hp1 i _ hi']
      cases hj' : H' j with
      | some e2 =>
        rw [hnew j e2 hj'] at hj
        cases hj
        rw [hp1 j _ hj']
        exact L.relH.inj i j _ _ hi' hj' hn hnj hij
      | none =>
        rw [hold j hj'] at hj
        rw [hp2 j hj']
        exact mixed i j _ _ hi' hn hj hnj hj'
    | none =>
      rw [hold i hi'] at hi
      rw [hp2 i hi']
      cases hj' : H' j with
      | some e2 =>
        rw [hnew j e2 hj'] at hj
        cases hj
        rw [hp1 j _ hj']
        exact (mixed j i _ _ hj' hnj hi hn hi').symm
      | none =>
        rw [hold j hj'] at hj
        rw [hp2 j hj']
        exact r1.inj i j ei ej hi hj hn hnj hij
  · have hblk : ∀ b, BlkOf p (H1.restr js) b → E.B b ∨ E.w.heap.size ≤ b := fun b ⟨j, ej, hj, hnj, hb⟩ => by
      rw [hb]
      exact x1.ids j ej (restr_some hj).2 hnj
    refine ⟨X.os.trans x1.os, X.tape.trans x1.tape, X.output.trans x1.output, Nat.le_trans x1.size X.size, fun b hb hB => ?_, fun b hb => L.grows.im b (x1.im b hb), fun b hb => ?_, fun i ei hi hn => ?_⟩
    · rw [X.block b (Nat.lt_of_lt_of_le hb x1.size) (fun h => (hblk b h).elim hB (fun k => by omega))]
      exact x1.block b hb hB
    · rcases X.im' b hb with h | h | h
      · exact x1.im' b h
      · exact .inr (hblk b h)
      · exact .inr (.inr (Nat.le_trans x1.size h))
    · cases hi' : H' i with
      | some e' =>
        rw [hnew i e' hi'] at hi
        cases hi
        rw [hp1 i _ hi']
        rcases X.ids i _ hi' hn with h | h
        · exact hblk _ h
        · exact .inr (Nat.le_trans x1.size h)
      | none =>
        rw [hold i hi'] at hi
        rw [hp2 i hi']
        exact x1.ids i ei hi hn
mutual
/-- Data that name no memory. -/
def D.flat : D → Bool
  | .v _ => true
  | .agg cs => flatL cs
  | .tup cs => flatL cs
  | .any => true
  | _ => false
def flatL : List D → Bool
  | [] => true
  | d :: ds => d.flat && flatL ds
end
theorem flatL_mem : ∀ {ds : List D}, flatL ds = true → ∀ d ∈ ds, d.flat = true
  | d :: ds, h, x, hx => by
    rw [flatL, Bool.and_eq_true] at h
    cases hx with
    | head => exact h.1
    | tail _ hx => exact flatL_mem h.2 x hx
theorem flat_rel {Im Im' : Nat → Prop} {p p' : Pl} {H H' : Hp} {h h' : Array Obj} {d : D} {u : Value} (r : Rel Im p H h d u) (hf : d.flat = true) : Rel Im' p' H' h' d u := by
  induction r with
  | p r =>
    cases r with
    | v => exact .p (.v _)
    | any => exact .p (.any _)
    | mt => cases hf
    | sl0 => cases hf
    | sl1 => cases hf
  | agg cs us hl h1 hr ih => exact .agg cs us hl h1 fun j d u hd hu => ih j d u hd hu (flatL_mem hf d (List.mem_of_getElem? hd))
  | tup cs us hl hr ih => exact .tup cs us hl fun j d u hd hu => ih j d u hd hu (flatL_mem hf d (List.mem_of_getElem? hd))
  | ip => cases hf
  | own => cases hf
  | ptr => cases hf
  | clo => cases hf
/-- A call that gets no piece of one's own to write and hands back no memory: what was lent comes back. -/
theorem call_flat {P : Program} {E : Ent} {Im : Nat → Prop} {p : Pl} {s : St} {a : Act} {w : World} (hR : RelS E Im p s a w) {f : FuncId} {ds : List D} {us : Array Value} (hl : ds.length = us.size) (hr : ∀ (j : Nat) (d : D) (u : Value), ds[j]? = some d → us[j]? = some u → Rel Im p s.H w.heap d u)
    (hok : ∀ d ∈ ds, lendOk s.H d) {ks : List Nm} (hks : ks = ds.flatMap (lendNm s.H)) {nn : Nm} (hnn : s.H.kills ks nn = Option.none) (hjs : refsInL [] (ds.map (lend s.H)) = true) (hcl : ClosedH (s.H.kills ks) [] []) {R : D → Hp → Prop} (hC : CallsA P f (ds.map (lend s.H)) ((s.H.kills ks).restr []) nn R) :
    Calls P f us w fun e w' => ∃ v H' u, e = .returned u ∧ R v H' ∧ (v.flat = true → Rel Im p s.H w'.heap v u ∧ Grows Im p s.H w.heap Im p s.H w'.heap ∧ RelH Im p s.H w'.heap ∧ RelE E Im p s.H w') := by
  obtain ⟨Im1, g1, r1, x1, b1⟩ := kills_spec (E := E) (w := w) ks Im s.H hR.hp hR.en
  generalize hH1 : s.H.kills ks = H1 at *
  have hr1 : ∀ (j : Nat) (d : D) (u : Value), (ds.map (lend s.H))[j]? = some d → us[j]? = some u → Rel Im1 p (H1.restr []) w.heap d u := fun j d u hd hu => by
    have hd' := hd
    rw [List.getElem?_map] at hd
    cases hc : ds[j]? with
    | none => rw [hc] at hd; cases hd
    | some c =>
      rw [hc] at hd
      cases hd
      have hm := List.mem_of_getElem? hc
      exact (lend_rel hR.hp g1 (hr j c u hc hu) (hok c hm) (fun i hi e he hn => b1 i (by rw [hks]; exact List.mem_flatMap.2 ⟨c, hm, hi⟩) e he hn)).restr (refsInL_get hjs j _ hd')
  refine (hC w Im1 p us (by rw [List.length_map]; exact hl) hr1 (r1.restr hcl) (restr_out (by simp))).mono fun e w' ⟨Im', p', v, H', u, L⟩ => ?_
  have X := L.relE 0
  have same : ∀ b, b < w.heap.size → w'.heap[b]? = w.heap[b]? := fun b hb => X.block b hb fun ⟨j, ej, hj, _, _⟩ => by cases (restr_some hj).1
  have G : Grows Im p s.H w.heap Im p s.H w'.heap := ⟨fun _ h => h, fun b hb => same b (hR.hp.im b hb), fun i e he => ⟨e, he, Nat.le_refl _, fun _ => ⟨rfl, rfl, fun hn => ⟨hn, fun c t hc => ⟨c, by rw [same _ (lt_of_some hc)]; exact hc, rfl⟩⟩⟩⟩⟩
  refine ⟨v, H', u, L.end_, L.post, fun hf => ⟨flat_rel L.rel hf, G, ⟨fun i e hi hn => ?_, hR.hp.inj, fun b hb => Nat.lt_of_lt_of_le (hR.hp.im b hb) X.size⟩,
    ⟨X.os.trans hR.en.os, X.tape.trans hR.en.tape, X.output.trans hR.en.output, Nat.le_trans hR.en.size X.size, fun b hb hB => (same b (Nat.lt_of_lt_of_le hb hR.en.size)).trans (hR.en.block b hb hB), hR.en.im, hR.en.im', hR.en.ids⟩⟩⟩
  obtain ⟨c, t, k1, k2, k3⟩ := hR.hp.cell i e hi hn
  exact ⟨c, t, by rw [same _ (lt_of_some k1)]; exact k1, k2, k3.mono G⟩
end Go.Proofs.Ytiaenojpbiahgaa
