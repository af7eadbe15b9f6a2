
/- Functions over abstract data: a contract out of a body; what may be forgotten. -/
import Derived.Test.YtiaenojpbiahgaaVq
namespace Go.Proofs.Ytiaenojpbiahgaa
open Go
set_option linter.unusedVariables false
set_option linter.unusedSimpArgs false

def lendT (H : Hp) : D → D
  | .tup cs => .tup (cs.map (lend H))
  | d => lend H d
def lendNmT (H : Hp) : D → List Nm
  | .tup cs => cs.flatMap (lendNm H)
  | d => lendNm H d
def lendOkT (H : Hp) : D → Prop
  | .tup cs => lendOkL' H cs
  | d => lendOk H d
theorem lendT_rel {Im Im' : Nat → Prop} {p : Pl} {H H' : Hp} {h : Array Obj} (R : RelH Im p H h) (G : Grows Im p H h Im' p H' h) {d : D} {u : Value} (r : Rel Im p H h d u) (ok : lendOkT H d) (hk : ∀ i ∈ lendNmT H d, ∀ e, H i = some e → e.rows ≠ [] → Im' (p i).1) : Rel Im' p H' h (lendT H d) u := by
  cases d with
  | tup cs =>
    cases r with
    | p r => cases r
    | tup _ us hl hr =>
      refine .tup _ us (by rw [List.length_map, hl]) fun j d u hd hu => ?_
      rw [List.getElem?_map] at hd
      cases hc : cs[j]? with
      | none => rw [hc] at hd; cases hd
      | some c =>
        rw [hc] at hd
        cases hd
        have hm := List.mem_of_getElem? hc
        exact lend_rel R G (hr j c u hc hu) (lendOkL'_mem ok c hm) fun i hi => hk i (List.mem_flatMap.2 ⟨c, hm, hi⟩)
  | agg => exact lend_rel R G r ok hk
  | own => exact lend_rel R G r ok hk
  | mt => exact lend_rel R G r ok hk
  | v => exact lend_rel R G r ok hk
  | any => exact lend_rel R G r ok hk
  | sl => exact lend_rel R G r ok hk
  | ip => exact lend_rel R G r ok hk
  | ptr => exact lend_rel R G r ok hk
  | clo => exact lend_rel R G r ok hk
/-- What a function hands back. -/
def retB (js : List Nm) (R : D → Hp → Prop) (v' : D) (H1 : Hp) : Prop := v'.refsIn js = true ∧ ClosedH H1 js js ∧ R v' (H1.restr js)
def retA (js : List Nm) (kp : Bool) (R : D → Hp → Prop) (v : D) (H : Hp) : Prop :=
  if kp = true then retB js R v H else lendOkT H v ∧ retB js R (lendT H v) (H.kills (lendNmT H v))
def finQ (rvs : List RV) (js : List Nm) (kp : Bool) (R : D → Hp → Prop) : Ex → St → Prop
  | .exit _, _ => False
  | _, s =>
    match resL s rvs with
    | some (c, vs) => c ∧ retA js kp R (packD vs) s.H
    | Option.none => False
def argFrom (k : Nat) : List D → Fr
  | [] => fun _ => .v undef
  | d :: ds => fun t => if t = k then d else argFrom (k + 1) ds t
theorem argFrom_spec : ∀ (ds : List D) (k t : Nat), argFrom k ds t = if k ≤ t then ds.getD (t - k) (.v undef) else .v undef
  | [], k, t => by simp [argFrom]
  | d :: ds, k, t => by
    simp only [argFrom]
    by_cases h : t = k
    · subst h; simp
    · rw [if_neg h, argFrom_spec ds (k + 1) t]
      by_cases h1 : k + 1 ≤ t
      · rw [if_pos h1, if_pos (by omega), show t - k = (t - (k + 1)) + 1 by omega, List.getD_cons_succ]
      · rw [if_neg h1, if_neg (by omega)]
theorem RelE.restr {E : Ent} {Im : Nat → Prop} {p : Pl} {H : Hp} {w : World} (X : RelE E Im p H w) (js : List Nm) : RelE E Im p (H.restr js) w :=
  ⟨X.os, X.tape, X.output, X.size, X.block, X.im, X.im', fun i e hi hn => X.ids i e (restr_some hi).2 hn⟩
theorem RelE.num {E : Ent} {Im : Nat → Prop} {p : Pl} {H : Hp} {w : World} (X : RelE E Im p H w) (m : Nat) : RelE { E with n := m } Im p H w :=
  ⟨X.os, X.tape, X.output, X.size, X.block, X.im, X.im', X.ids⟩
/-- A contract out of a body. -/
theorem callsA_of {P : Program} {T : Tbl} (hT : TblOk P T) (hm : P.follows .mixedOrders = true) {N : Nat → Nm} {f : FuncId} {fn : Func} {code : Code} {c : C} {rvs : List RV} (hf : P.funcs[f]? = some fn) (hb : fn.body = some code) (hc : compC P fn.ntmps code = some c.strip) (hr : compRes P fn.results.toList = some rvs)
    {args : List D} {Hs : Hp} {nn : Nm} {R : D → Hp → Prop} (js : List Nm) (kp : Bool) (hjs1 : ∀ i e, Hs i = some e → i ∈ js) (hjs2 : ∀ i ∈ js, (Hs i).isSome = true ∨ i = nn) (ha : args.length ≤ fn.ntmps) (h : vc T N js c (finQ rvs js kp R) ⟨argFrom 0 args, Hs⟩) : CallsA P f args Hs nn R := by
  intro w Im p us hl hrel hH hnn
  refine calls_of_wp hf hb ?_
  have hR : RelS ⟨w, Im, BlkOf p Hs, fn.ntmps, p, Hs⟩ Im p ⟨argFrom 0 args, Hs⟩ { tmps := us ++ Array.replicate (fn.ntmps - us.size) undef, defers := [] } w := by
    refine ⟨by simp; omega, fun t => ?_, hH, ⟨rfl, rfl, rfl, Nat.le_refl _, fun _ _ _ => rfl, fun _ hb => hb, fun _ hb => .inl hb, fun i e hi hn => .inl ⟨i, e, hi, hn, rfl⟩⟩, Grows.refl _ _ _ _, rfl⟩
    dsimp only
    rw [argFrom_spec, if_pos (Nat.zero_le _), Nat.sub_zero, List.getD_eq_getElem?_getD, Array.getD_eq_getD_getElem?]
    by_cases ht : t < us.size
    · rw [Array.getElem?_append_left ht, List.getElem?_eq_getElem (by omega), Array.getElem?_eq_getElem ht]
      exact hrel t _ _ (List.getElem?_eq_getElem (by omega)) (Array.getElem?_eq_getElem ht)
    · rw [List.getElem?_eq_none (by omega), Array.getElem?_append_right (by omega)]
      have e : ((Array.replicate (fn.ntmps - us.size) undef)[t - us.size]?).getD undef = undef := by
        rw [Array.getElem?_replicate]
        split <;> rfl
      rw [e]
      exact .p (.v _)
  refine wp_mono (vc_sound hT hm (J := js) (E := ⟨w, Im, BlkOf p Hs, fn.ntmps, p, Hs⟩) hjs1 (codeRel_of hc) h hR) fun e a' w' hpost => ?_
  obtain ⟨x, s', Im', p', he, hq, hr'⟩ := hpost
  have fin : (match resL s' rvs with
    | some (c, vs) => c ∧ retA js kp R (packD vs) s'.H
    | Option.none => False) → a'.defers = [] ∧ ∃ v, (results fn a'.tmps).run P w' = .ok v w' ∧ ∃ Im2 p2 v2 H2 u, Left P Hs nn R Im p w (.returned v) w' Im2 p2 v2 H2 u := fun hfin => by
    refine ⟨hr'.df, ?_⟩
    split at hfin
    · rename_i c0 ds hds
      obtain ⟨h1, h2⟩ := hfin
      obtain ⟨vs, k1, k2, k3⟩ := resL_run hr' _ _ _ _ hr hds h1
      have hpack : ∃ u, (results fn a'.tmps).run P w' = .ok u w' ∧ Rel Im' p' s'.H w'.heap (packD ds) u := by
        rw [results_eq]
        have e1 : (fn.results.mapM (resV a'.tmps)).run P w' = .ok vs.toArray w' := by
          rw [Array.mapM_eq_mapM_toList]
          simp [k1]
        simp only [Sem.run_bind, e1, Result.andThen_ok]
        match ds, vs, k2, k3 with
        | [], [], _, k3 => exact ⟨.tuple #[], rfl, .tup [] #[] rfl fun j d u hd => by cases hd⟩
        | [d], [u], _, k3 => exact ⟨u, rfl, k3 0 d u rfl rfl⟩
        | d1 :: d2 :: ds, u1 :: u2 :: us, hlen, k3 =>
          refine ⟨.tuple (u1 :: u2 :: us).toArray, ?_, .tup _ _ (by simpa using hlen) fun j d u hd hu => k3 j d u hd (by simpa using hu)⟩
          have : ¬ ((u1 :: u2 :: us).toArray.size = 1) := by simp
          rw [dif_neg this]
          rfl
      obtain ⟨u, e1, e2⟩ := hpack
      refine ⟨u, e1, ?_⟩
      have key : ∀ (Im2 : Nat → Prop) (v2 : D) (H1 : Hp), RelH Im2 p' H1 w'.heap → RelE ⟨w, Im, BlkOf p Hs, fn.ntmps, p, Hs⟩ Im2 p' H1 w' → Grows Im p Hs w.heap Im2 p' H1 w'.heap → Rel Im2 p' H1 w'.heap v2 u → retB js R v2 H1 → ∃ Im2 p2 v2 H2 u', Left P Hs nn R Im p w (.returned u) w' Im2 p2 v2 H2 u' := fun Im2 v2 H1 r1 x1 g1 rv hb => by
        obtain ⟨b1, b2, b3⟩ := hb
        refine ⟨Im2, p', v2, H1.restr js, u, rfl, b3, rv.restr b1, r1.restr b2, ⟨g1.im, g1.blk, fun i ei hi => ?_⟩, fun m => (x1.restr js).num m, fun i ei hi => hjs2 i (restr_some hi).1⟩
        rw [restr_in (hjs1 i ei hi)]
        exact g1.ids i ei hi
      unfold retA at h2
      split at h2
      · exact key Im' _ _ hr'.hp hr'.en hr'.gr e2 h2
      · obtain ⟨h3, h4⟩ := h2
        obtain ⟨Im2, g1, r1, x1, b1⟩ := kills_spec (w := w') (lendNmT s'.H (packD ds)) Im' s'.H hr'.hp hr'.en
        exact key Im2 _ _ r1 x1 (hr'.gr.trans g1) (lendT_rel hr'.hp g1 e2 h3 b1) h4
    · exact hfin.elim
  cases e <;> simp only [exOf, Option.some.injEq, reduceCtorEq] at he
  · subst he; exact fin hq
  · subst he; exact hq.elim
  · subst he; exact fin hq

/-- A frame that is listed. -/
def fr : List (Nat × D) → Fr
  | [] => fun _ => .any
  | (k, d) :: l => fun t => if t = k then d else fr l t
def coverS (F : Fr) (H : Hp) (ks : List Nm) : List (Nat × D) → Prop
  | [] => True
  | (t, d) :: l => (F t = d ∨ (lend H (F t) = d ∧ lendOk H (F t) ∧ ∀ i ∈ lendNm H (F t), i ∈ ks)) ∧ coverS F H ks l
theorem coverS_at {F : Fr} {H : Hp} {ks : List Nm} : ∀ {l : List (Nat × D)}, coverS F H ks l → ∀ t, fr l t = .any ∨ F t = fr l t ∨ (lend H (F t) = fr l t ∧ lendOk H (F t) ∧ ∀ i ∈ lendNm H (F t), i ∈ ks)
  | [], _, t => .inl rfl
  | (k, d) :: l, h, t => by
    simp only [fr]
    by_cases ht : t = k
    · subst ht
      rw [if_pos rfl]
      exact .inr h.1
    · rw [if_neg ht]
      exact coverS_at h.2 t
def refsF (js : List Nm) : List (Nat × D) → Bool
  | [] => true
  | (_, d) :: l => d.refsIn js && refsF js l
theorem refsF_at {js : List Nm} : ∀ {l : List (Nat × D)}, refsF js l = true → ∀ t, (fr l t).refsIn js = true
  | [], _, t => by simp [fr, D.refsIn]
  | (k, d) :: l, h, t => by
    rw [refsF, Bool.and_eq_true] at h
    simp only [fr]
    split
    · exact h.1
    · exact refsF_at h.2 t
/-- Temporaries and names may be forgotten; slices of one's own may become plain data. -/
theorem weak_to {J : List Nm} {F : Fr} {H : Hp} (ks js : List Nm) (l : List (Nat × D)) (h1 : coverS F H ks l) (h2 : refsF js l = true) (h3 : ClosedH (H.kills ks) js js) (h4 : ∀ i ∈ J, i ∈ js) : Weak J ⟨F, H⟩ ⟨fr l, (H.kills ks).restr js⟩ := by
  intro E hE Im p a w hR
  obtain ⟨Im', g1, r1, x1, b1⟩ := kills_spec (E := E) (w := w) ks Im H hR.hp hR.en
  refine ⟨Im', p, hR.sz, fun t => ?_, r1.restr h3, x1.restr js, ?_, hR.df⟩
  · refine Rel.restr ?_ (refsF_at h2 t)
    rcases coverS_at h1 t with h | h | ⟨h, ok, hk⟩
    · dsimp only; rw [h]; exact .p (.any _)
    · dsimp only; rw [← h]; exact (hR.fr t).mono g1
    · dsimp only; rw [← h]; exact lend_rel hR.hp g1 (hR.fr t) ok fun i hi => b1 i (hk i hi)
  · have G := hR.gr.trans g1
    refine ⟨G.im, G.blk, fun i e hi => ?_⟩
    dsimp only
    rw [restr_in (h4 i (hE i e hi))]
    exact G.ids i e hi
/-- A nil slice is a slice of one's own. -/
theorem weak_own {J : List Nm} {F : Fr} {H : Hp} (t : Nat) (i : Nm) (sz : Nat) (h : F t = .mt) (hi : H i = Option.none) : Weak J ⟨F, H⟩ ⟨putF F (some t) (.own i 0 0 0), H.put i ⟨0, sz, []⟩⟩ := by
  intro E hE Im p a w hR
  have T : Turn Im p H w.heap i ⟨0, 0, []⟩ ⟨0, sz, []⟩ (0, 0) w.heap := ⟨.inr ⟨hi, rfl⟩, .inl hi, fun _ _ _ => rfl, Nat.le_refl _, fun h => absurd rfl h, fun h => absurd rfl h⟩
  have G := T.grows hR.hp
  refine ⟨Im, p.put i (0, 0), hR.sz, fun k => ?_, T.relH hR.hp, T.relE hR.hp hR.en rfl rfl rfl, hR.gr.trans G, hR.df⟩
  dsimp only [putF]
  by_cases hk : k = t
  · subst hk
    rw [if_pos rfl]
    have r := hR.fr k
    dsimp only at r
    rw [h] at r
    obtain ⟨ao, e⟩ := rel_mt r
    rw [e]
    exact .own i 0 0 0 _ 0 ⟨0, sz, []⟩ (Hp.put_same _ _ _) (Nat.le_refl _) (Nat.le_refl _) fun _ h => absurd h (Nat.lt_irrefl _)
  · rw [if_neg hk]
    exact (hR.fr k).mono G
end Go.Proofs.Ytiaenojpbiahgaa
