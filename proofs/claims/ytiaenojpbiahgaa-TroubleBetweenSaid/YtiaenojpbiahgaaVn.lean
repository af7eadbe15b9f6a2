
/- Regions over abstract data: what the model does. -/
import Derived.Test.YtiaenojpbiahgaaVm
import Derived.Orders
namespace Go.Proofs.Ytiaenojpbiahgaa
open Go
set_option linter.unusedVariables false
set_option linter.unusedSimpArgs false

/-- Operation j must come before operation i. -/
inductive Reach (ops : Array Oper) : Nat → Nat → Prop where
  | one {i : Nat} {o : Oper} {e : Edge} (ho : ops[i]? = some o) (he : e ∈ o.after) (hb : Region.binds .any e = true) : Reach ops e.on i
  | more {i j : Nat} {o : Oper} {e : Edge} (ho : ops[i]? = some o) (he : e ∈ o.after) (hb : Region.binds .any e = true) (h : Reach ops j e.on) : Reach ops j i
def SoundCall (P : Program) (op : Op) (k : K) : Prop :=
  ∀ (E : Ent) (Im : Nat → Prop) (p : Pl) (s : St) (a : Act) (w : World) (d : Oper) (f : FuncId) (args : List D), d.op = op → RelS E Im p s a w → callee s.F k = some (f, args) → fnOk P f = true →
    ∃ us, (execOp a.eval d).run P w = .ok (.enter f us) w ∧ args.length = us.size ∧ ∀ (j : Nat) (x : D) (u : Value), args[j]? = some x → us[j]? = some u → Rel Im p s.H w.heap x u
structure OpRel (P : Program) (n : Nat) (ops : Array Oper) (i : Nat) (o : Oper) (c : COp) : Prop where
  dst : c.dst = o.dst
  lt : ∀ t, o.dst = some t → t < n
  g : match o.guard with
    | Option.none => c.g = Option.none
    | some (j, b) => ∃ t, ((ops[j]?).bind (·.dst)) = some t ∧ c.g = some (t, b)
  k : SoundK P o.op c.k
  kc : SoundCall P o.op c.k
  after : ∀ j ∈ c.after, Reach ops j i
  back : ∀ e ∈ o.after, Region.binds .any e = true → e.on < i
structure RegRel (P : Program) (n : Nat) (ops : Array Oper) (cops : List COp) : Prop where
  len : cops.length = ops.size
  rel : ∀ (i : Nat) (o : Oper) (c : COp), ops[i]? = some o → cops[i]? = some c → OpRel P n ops i o c
theorem RelS.step {E : Ent} {Im Im' : Nat → Prop} {p p' : Pl} {s : St} {a : Act} {w w' : World} {H' : Hp} {v : D} {u : Value} {dst : Option Nat} (hR : RelS E Im p s a w) (G : Grows Im p s.H w.heap Im' p' H' w'.heap) (h1 : RelH Im' p' H' w'.heap) (h2 : RelE E Im' p' H' w') (hv : Rel Im' p' H' w'.heap v u) (hd : ∀ t, dst = some t → t < E.n) :
    RelS E Im' p' ⟨putF s.F dst v, H'⟩ (a.put dst u) w' := by
  cases dst with
  | none => exact ⟨hR.sz, fun t => (hR.fr t).mono G, h1, h2, hR.gr.trans G, hR.df⟩
  | some d =>
    have hlt := hd d rfl
    refine ⟨by simp [Act.put, hR.sz], fun t => ?_, h1, h2, hR.gr.trans G, hR.df⟩
    simp only [Act.put, putF]
    by_cases ht : t = d
    · subst ht
      rw [if_pos rfl]
      have hs : t < a.tmps.size := by rw [hR.sz]; exact hlt
      have : (a.tmps.setIfInBounds t u).getD t undef = u := by simp [Array.getD, hs]
      rw [this]
      exact hv
    · rw [if_neg ht]
      have : (a.tmps.setIfInBounds d u).getD t undef = a.tmps.getD t undef := by
        rw [Array.getD_eq_getD_getElem?, Array.getD_eq_getD_getElem?, Array.getElem?_setIfInBounds_ne (Ne.symm ht)]
      rw [this]
      exact (hR.fr t).mono G
def yv (n t : Nat) (v : Value) : Option Bool :=
  match v with
  | .bool b => if t < n then some b else Option.none
  | _ => Option.none
theorem yielded_of {ops : Array Oper} {tmps : Array Value} {j t : Nat} (h : ((ops[j]?).bind (·.dst)) = some t) {v : Value} (hv : tmps.getD t undef = v) : yielded ops tmps j = yv tmps.size t v := by
  unfold yielded yv
  rw [h]
  dsimp only [Option.bind_some]
  rw [Array.getD_eq_getD_getElem?] at hv
  by_cases ht : t < tmps.size
  · have e : tmps[t]? = some tmps[t] := Array.getElem?_eq_getElem ht
    rw [e] at hv ⊢
    simp only [Option.getD_some] at hv
    rw [hv]
    cases v <;> simp [ht]
  · have e : tmps[t]? = Option.none := Array.getElem?_eq_none (by omega)
    rw [e] at hv ⊢
    simp only [Option.getD_none] at hv
    subst hv
    rfl
theorem guard_rel {E : Ent} {Im : Nat → Prop} {p : Pl} {s : St} {a : Act} {w : World} (hR : RelS E Im p s a w) {P : Program} {ops : Array Oper} {i : Nat} {o : Oper} {c : COp} (R : OpRel P E.n ops i o c) {b : Bool} (hg : guardD s.F c.g = some b) : Region.wanted o (yielded ops a.tmps) = b := by
  have hgr := R.g
  unfold Region.wanted
  cases ho : o.guard with
  | none =>
    rw [ho] at hgr
    dsimp only at hgr
    rw [hgr] at hg
    cases hg
    rfl
  | some q =>
    obtain ⟨j, want⟩ := q
    rw [ho] at hgr
    obtain ⟨t, ht, hc⟩ := hgr
    rw [hc] at hg
    dsimp only
    have r := hR.fr t
    unfold guardD at hg
    dsimp only at hg
    split at hg
    · rename_i cc hF
      cases hg
      rw [hF] at r
      have e := rel_v r
      rw [yielded_of ht e, yv]
      have hts : t < a.tmps.size := by
        rcases Nat.lt_or_ge t a.tmps.size with h | h
        · exact h
        · rw [Array.getD_eq_getD_getElem?, Array.getElem?_eq_none h] at e
          cases e
      rw [if_pos hts]
      cases cc <;> cases want <;> rfl
    · rename_i l hF
      cases hg
      rw [hF] at r
      rw [yielded_of ht (rel_v r)]
      rfl
    · cases hg
/-- One operation of a region. -/
theorem op_step {P : Program} {T : Tbl} (hT : TblOk P T) {N : Nat → Nm} {E : Ent} {Im : Nat → Prop} {p : Pl} {s : St} {a : Act} {w : World} (hR : RelS E Im p s a w) {ops : Array Oper} {i : Nat} {o : Oper} {c : COp} (ho : ops[i]? = some o) (R : OpRel P E.n ops i o c)
    {Q : List Nm → List Nm → St → Prop} {K : Act → World → Prop} {Qx : Exit → Act → World → Prop} (h : run1 T N c s Q) (hK : ∀ rs ws s' Im' p' a' w', Q rs ws s' → RelS E Im' p' s' a' w' → K a' w') : wpOp P ops Qx i K a w := by
  unfold wpOp
  rw [ho]
  dsimp only
  have hdst : ∀ t, c.dst = some t → t < E.n := fun t ht => R.lt t (by rw [← R.dst]; exact ht)
  unfold run1 at h
  split at h
  · exact h.elim
  · rename_i b hg
    rw [guard_rel hR R hg]
    cases b with
    | false =>
      simp only [Bool.false_eq_true, if_false] at h ⊢
      refine hK _ _ _ Im p _ w h ?_
      rw [R.dst]
      exact hR.step (Grows.refl _ _ _ _) hR.hp hR.en (.p (.v _)) (fun t ht => R.lt t ht)
    | true =>
      simp only [if_true] at h ⊢
      refine .inl ?_
      unfold Oper.wp
      split at h
      · rename_i f args hc
        unfold callRun callRun1 callRun2 callRun3 at h
        obtain ⟨h1, h2, h3, h4, h5⟩ := h
        split at h5
        · exact h5.elim
        · rename_i pre RR hTT
          obtain ⟨hfn, hcon⟩ := hT _ _ _ _ _ _ hTT
          obtain ⟨us, e1, e2, e3⟩ := R.kc E Im p s a w o f args rfl hR hc hfn
          rw [e1, Oper.upon_enter]
          obtain ⟨h6, h7⟩ := h5
          split at h7
          · rename_i hbr
            rw [Bool.and_eq_true, List.isEmpty_iff] at hbr
            have hC := (hcon h6).2
            rw [hbr.2] at hC h2 h3
            refine (call_flat hR e2 e3 (lendOkL'_mem h1) rfl h4 h2 h3 hC).mono fun e w' ⟨v, H', u, k1, k2, k3⟩ => ?_
            subst k1
            dsimp only
            obtain ⟨hfl, hq⟩ := h7 v H' k2
            obtain ⟨k4, k5, k6, k7⟩ := k3 hfl
            refine hK _ _ _ Im p _ w' hq ?_
            rw [R.dst]
            exact hR.step k5 k6 k7 k4 (fun t ht => R.lt t ht)
          refine (call_sound hR e2 e3 (lendOkL'_mem h1) rfl h4 h2 h3 (hcon h6).2).mono fun e w' ⟨v, H', u, Im', p', k1, k2, k3, k4, k5, k6⟩ => ?_
          subst k1
          dsimp only
          refine hK _ _ _ Im' p' _ w' (h7 v H' k2) ?_
          rw [R.dst]
          exact hR.step k4 k5 k6 k3 (fun t ht => R.lt t ht)
      · rename_i hc
        split at h
        · exact h.elim
        · rename_i out he
          obtain ⟨r, u, w', p', k1, k2, k3, k4, k5, k6⟩ := R.k E Im p s a w (N c.nm) out o rfl hR he h.1
          rw [k1]
          have fin : K (a.put o.dst u) w' := by
            refine hK _ _ _ Im p' _ w' h.2 ?_
            rw [R.dst]
            exact hR.step k3 k4 k5 k6 (fun t ht => R.lt t ht)
          rcases k2 with rfl | ⟨rfl, rfl⟩
          · exact fin
          · exact fin
theorem ends_of {P : Program} {T : Tbl} (hT : TblOk P T) : Ends T := fun f args Hs nn pre R h hp => ((hT f args Hs nn pre R h).2 hp).1
/-- A region in the text's order. -/
def runL (T : Tbl) (N : Nat → Nm) (K : St → Prop) : List COp → St → Prop
  | [], s => K s
  | o :: os, s => run1 T N o s fun _ _ s' => runL T N K os s'
/-- A region in whatever order. -/
def runD (T : Tbl) (N : Nat → Nm) (K : St → Prop) : List COp → Nat → Past → St → Prop
  | [], _, _, s => K s
  | o :: os, k, l, s => run1 T N o s fun rs ws s' => chk o.after rs ws l = true ∧ runD T N K os (k + 1) (past k rs ws l) s'
theorem runU_of_runD {T : Tbl} {N : Nat → Nm} {cops : List COp} {K : St → Prop} : ∀ (cs : List COp) (k : Nat) (l : Past) (s : St), cops.drop k = cs → runD T N K cs k l s → runU T N cops K (List.range' k cs.length) l s
  | [], k, l, s, _, h => h
  | c :: cs, k, l, s, hd, h => by
    rw [List.length_cons, List.range'_succ, runU]
    have e : cops[k]? = some c := by
      have := congrArg (·[0]?) hd
      simpa [List.getElem?_drop] using this
    rw [e]
    dsimp only
    have hd' : cops.drop (k + 1) = cs := by
      have := congrArg (·.drop 1) hd
      simpa [List.drop_drop] using this
    exact run1_mono h fun rs ws s' ⟨h1, h2⟩ => ⟨h1, runU_of_runD cs (k + 1) _ s' hd' h2⟩
section
variable {P : Program} {T : Tbl} {N : Nat → Nm} {E : Ent} {ops : Array Oper} {cops : List COp} {K : St → Prop} {Qx : Exit → Act → World → Prop}
theorem wpOps_of_runL (hT : TblOk P T) (hRR : RegRel P E.n ops cops) (hK : ∀ s Im p a w, K s → RelS E Im p s a w → Qx .normal a w) : ∀ (cs : List COp) (k : Nat) (s : St) (Im : Nat → Prop) (p : Pl) (a : Act) (w : World), cops.drop k = cs → RelS E Im p s a w → runL T N K cs s → wpOps P ops Qx (List.range' k cs.length) a w
  | [], k, s, Im, p, a, w, _, hR, h => hK s Im p a w h hR
  | c :: cs, k, s, Im, p, a, w, hd, hR, h => by
    have e : cops[k]? = some c := by
      have := congrArg (·[0]?) hd
      simpa [List.getElem?_drop] using this
    have hlt : k < ops.size := by rw [← hRR.len]; exact (List.getElem?_eq_some_iff.1 e).1
    have hd' : cops.drop (k + 1) = cs := by
      have := congrArg (·.drop 1) hd
      simpa [List.drop_drop] using this
    rw [List.length_cons, List.range'_succ, wpOps_cons]
    have ho : ops[k]? = some ops[k] := Array.getElem?_eq_getElem hlt
    exact op_step hT hR ho (hRR.rel k _ c ho e) h fun rs ws s' Im' p' a' w' hq hR' => wpOps_of_runL hT hRR hK cs (k + 1) s' Im' p' a' w' hd' hR' hq
theorem reach_listed {listed : Array Bool} (hcl : ∀ i o, ops[i]? = some o → listed.getD i true = true → ∀ e ∈ o.after, Region.binds .any e = true → listed.getD e.on true = true) {j i : Nat} (h : Reach ops j i) : (∀ o, ops[i]? = some o → ∀ e ∈ o.after, Region.binds .any e = true → listed.getD e.on true = true) → listed.getD j true = true := by
  induction h with
  | one ho he hb => exact fun hi => hi _ ho _ he hb
  | more ho he hb hr ih =>
    intro hi
    refine ih fun o' ho' e' he' hb' => hcl _ o' ho' (hi _ ho _ he hb) e' he' hb'
theorem any_of_runU (hT : TblOk P T) (hRR : RegRel P E.n ops cops) (hst : ∀ i j ci cj, cops[i]? = some ci → cops[j]? = some cj → j < i → j ∈ ci.after ∨ apartC cj ci = true) (hK : ∀ s Im p a w, K s → RelS E Im p s a w → Qx .normal a w) :
    ∀ (fuel : Nat) (U : List Nat) (l : Past) (listed : Array Bool) (s : St) (Im : Nat → Prop) (p : Pl) (a : Act) (w : World), listed.size = ops.size → (∀ i, i ∈ U ↔ i < ops.size ∧ listed.getD i true = false) → U.Pairwise (· < ·) → (∀ i o, ops[i]? = some o → listed.getD i true = true → ∀ e ∈ o.after, Region.binds .any e = true → listed.getD e.on true = true) →
      U.length ≤ fuel → RelS E Im p s a w → runU T N cops K U l s → wpAny P .any ops Qx fuel listed a w := by
  have mem_rd : ∀ (listed : Array Bool) i, i ∈ Region.ready .any ops listed ↔ i < ops.size ∧ listed.getD i true = false ∧ ∃ o, ops[i]? = some o ∧ ∀ e ∈ o.after, Region.binds .any e = true → listed.getD e.on false = true := fun listed i => by
    unfold Region.ready
    rw [List.mem_filter, List.mem_range]
    constructor
    · rintro ⟨h1, h2⟩
      rw [Array.getElem?_eq_getElem h1] at h2
      simp only [Option.map_some, Option.getD_some, Bool.and_eq_true, Bool.not_eq_true', Array.all_eq_true_iff_forall_mem, Bool.or_eq_true] at h2
      exact ⟨h1, h2.1, _, Array.getElem?_eq_getElem h1, fun e he hb => (h2.2 e he).resolve_left (by rw [hb]; simp)⟩
    · rintro ⟨h1, h2, o, h3, h4⟩
      refine ⟨h1, ?_⟩
      rw [h3]
      simp only [Option.map_some, Option.getD_some, Bool.and_eq_true, Bool.not_eq_true', Array.all_eq_true_iff_forall_mem, Bool.or_eq_true]
      refine ⟨h2, fun e he => ?_⟩
      cases hb : Region.binds .any e with
      | false => exact .inl rfl
      | true => exact .inr (h4 e he hb)
  have ft : ∀ (listed : Array Bool) i, listed.getD i false = true → listed.getD i true = true := fun listed i h => by
    rw [Array.getD_eq_getD_getElem?] at h ⊢
    cases hi : listed[i]? with
    | none => rfl
    | some b => rw [hi] at h; exact h
  intro fuel
  induction fuel with
  | zero =>
    intro U l listed s Im p a w hls hU hsort hcl hlen hR h
    obtain rfl : U = [] := List.length_eq_zero_iff.1 (by omega)
    refine ⟨?_, hK s Im p a w h hR⟩
    rw [List.eq_nil_iff_forall_not_mem]
    intro i hi
    obtain ⟨h1, h2, _⟩ := (mem_rd listed i).1 hi
    exact absurd ((hU i).2 ⟨h1, h2⟩) (by simp)
  | succ fuel ih =>
    intro U l listed s Im p a w hls hU hsort hcl hlen hR h
    refine ⟨fun hr => ?_, fun i hi => ?_⟩
    · cases U with
      | nil => exact hK s Im p a w h hR
      | cons u U =>
        exfalso
        obtain ⟨h1, h2⟩ := (hU u).1 (List.mem_cons_self ..)
        have ho : ops[u]? = some ops[u] := Array.getElem?_eq_getElem h1
        have hc : cops[u]? = some (cops[u]'(by rw [hRR.len]; exact h1)) := List.getElem?_eq_getElem _
        have OR := hRR.rel u _ _ ho hc
        have : u ∈ Region.ready .any ops listed := (mem_rd listed u).2 ⟨h1, h2, _, ho, fun e he hb => by
          have hlt := OR.back e he hb
          have hnu : e.on ∉ u :: U := fun hm => by
            cases hm with
            | head => omega
            | tail _ hm => have := (List.pairwise_cons.1 hsort).1 _ hm; omega
          have hl : ¬ (listed.getD e.on true = false) := fun hf => hnu ((hU e.on).2 ⟨by omega, hf⟩)
          have hl' : listed.getD e.on true = true := by
            cases hb : listed.getD e.on true with
            | true => rfl
            | false => exact absurd hb hl
          rw [Array.getD_eq_getD_getElem?] at hl' ⊢
          have hes : e.on < listed.size := by omega
          rw [Array.getElem?_eq_getElem hes] at hl' ⊢
          exact hl'⟩
        rw [hr] at this
        cases this
    · obtain ⟨h1, h2, o, ho, hall⟩ := (mem_rd listed i).1 hi
      have hiU := (hU i).2 ⟨h1, h2⟩
      obtain ⟨U1, U2, rfl⟩ := List.append_of_mem hiU
      have hc : cops[i]? = some (cops[i]'(by rw [hRR.len]; exact h1)) := List.getElem?_eq_getElem _
      have OR := hRR.rel i o _ ho hc
      have hpre : ∀ j ∈ U1, j < i := fun j hj => (List.pairwise_append.1 hsort).2.2 j hj i (List.mem_cons_self ..)
      have hfront : ∀ j ∈ U1, j ∉ (cops[i]'(by rw [hRR.len]; exact h1)).after ∧ ∀ oj, cops[j]? = some oj → apartC oj (cops[i]'(by rw [hRR.len]; exact h1)) = true := fun j hj => by
        have hna : j ∉ (cops[i]'(by rw [hRR.len]; exact h1)).after := fun hm => by
          have hr := OR.after j hm
          have hl := reach_listed hcl hr fun o' ho' e he hb => by
            rw [ho] at ho'
            cases ho'
            exact ft listed _ (hall e he hb)
          have := ((hU j).1 (List.mem_append_left _ hj)).2
          rw [hl] at this
          cases this
        exact ⟨hna, fun oj hoj => (hst i j _ oj hc hoj (hpre j hj)).resolve_left hna⟩
      have h' := to_front (ends_of hT) hc U1 U2 l s hfront h
      rw [runU, hc] at h'
      dsimp only at h'
      refine op_step hT hR ho OR h' fun rs ws s' Im' p' a' w' hq hR' => ih (U1 ++ U2) _ _ s' Im' p' a' w' (by rw [Array.size_setIfInBounds]; exact hls) (fun k => ?_) ?_ (fun k ok hok hk e he hb => ?_) (by simp at hlen ⊢; omega) hR' hq.2
      · have hk := hU k
        rw [Array.getD_eq_getD_getElem?, Array.getElem?_setIfInBounds]
        by_cases hki : i = k
        · subst hki
          rw [if_pos rfl, if_pos (by omega)]
          simp only [Option.getD_some, Bool.true_eq_false, and_false, iff_false]
          intro hm
          have hs := List.pairwise_append.1 hsort
          rcases List.mem_append.1 hm with h3 | h3
          · have := hpre _ h3; omega
          · have := (List.pairwise_cons.1 hs.2.1).1 _ h3; omega
        · rw [if_neg hki, ← Array.getD_eq_getD_getElem?, ← hk]
          simp only [List.mem_append, List.mem_cons]
          constructor
          · rintro (h3 | h3)
            · exact .inl h3
            · exact .inr (.inr h3)
          · rintro (h3 | h3 | h3)
            · exact .inl h3
            · exact absurd h3.symm hki
            · exact .inr h3
      · have hs := List.pairwise_append.1 hsort
        exact List.pairwise_append.2 ⟨hs.1, (List.pairwise_cons.1 hs.2.1).2, fun x hx y hy => hs.2.2 x hx y (List.mem_cons_of_mem _ hy)⟩
      · have mono : ∀ x, listed.getD x true = true → (listed.setIfInBounds i true).getD x true = true := fun x hx => by
          rw [Array.getD_eq_getD_getElem?] at hx ⊢
          rw [Array.getElem?_setIfInBounds]
          split
          · split <;> rfl
          · exact hx
        by_cases hki : i = k
        · subst hki
          rw [ho] at hok
          cases hok
          exact mono _ (ft listed _ (hall e he hb))
        · refine mono _ (hcl k ok hok ?_ e he hb)
          rw [Array.getD_eq_getD_getElem?, Array.getElem?_setIfInBounds, if_neg hki, ← Array.getD_eq_getD_getElem?] at hk
          exact hk
end
end Go.Proofs.Ytiaenojpbiahgaa
