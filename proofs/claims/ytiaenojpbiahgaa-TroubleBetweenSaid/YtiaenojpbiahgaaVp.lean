
/- Code over abstract data: statements, loops, functions. -/
import Derived.Test.YtiaenojpbiahgaaVo
import Derived.Scope
namespace Go.Proofs.Ytiaenojpbiahgaa
open Go
set_option linter.unusedVariables false
set_option linter.unusedSimpArgs false

inductive C where
  | skip
  | ops (d : Bool) (l : List COp)
  | seq (a b : C)
  | cond (x : Opd) (a b : C)
  | block (id : Nat) (a : C)
  | loop (a : C)
  | weak (a : C)
  | exit (id : Nat)
  | ret
def cEdges : List Edge → List Nat
  | [] => []
  | e :: es => if Region.binds .any e = true then e.on :: cEdges es else cEdges es
theorem cEdges_spec {es : List Edge} {j : Nat} : j ∈ cEdges es ↔ ∃ e ∈ es, Region.binds .any e = true ∧ e.on = j := by
  induction es with
  | nil => simp [cEdges]
  | cons e es ih =>
    rw [cEdges]
    split
    · rename_i h
      rw [List.mem_cons, ih]
      constructor
      · rintro (h1 | ⟨e', h1, h2, h3⟩)
        · exact ⟨e, List.mem_cons_self .., h, h1.symm⟩
        · exact ⟨e', List.mem_cons_of_mem _ h1, h2, h3⟩
      · rintro ⟨e', h1, h2, h3⟩
        cases h1 with
        | head => exact .inl h3.symm
        | tail _ h1 => exact .inr ⟨e', h1, h2, h3⟩
    · rename_i h
      rw [ih]
      constructor
      · rintro ⟨e', h1, h2, h3⟩
        exact ⟨e', List.mem_cons_of_mem _ h1, h2, h3⟩
      · rintro ⟨e', h1, h2, h3⟩
        cases h1 with
        | head => exact absurd h2 h
        | tail _ h1 => exact ⟨e', h1, h2, h3⟩
def addNat (js : List Nat) : List Nat → List Nat
  | [] => js
  | i :: is => if js.contains i = true then addNat js is else addNat (i :: js) is
theorem addNat_mem {i : Nat} : ∀ {is js : List Nat}, i ∈ addNat js is → i ∈ js ∨ i ∈ is
  | [], js, h => .inl h
  | k :: is, js, h => by
    unfold addNat at h
    split at h
    · exact (addNat_mem h).imp id (List.mem_cons_of_mem _)
    · rcases addNat_mem h with h | h
      · cases h with
        | head => exact .inr (List.mem_cons_self ..)
        | tail _ h => exact .inl h
      · exact .inr (List.mem_cons_of_mem _ h)
def cClose (acc : List (List Nat)) (ds : List Nat) : List Nat := addNat (addNat [] ds) (ds.flatMap fun d => acc.getD d [])
def dstLt (n : Nat) : Option Nat → Bool
  | some t => decide (t < n)
  | Option.none => true
theorem exists_min {p : Nat → Prop} (h : ∃ k, p k) : ∃ k, p k ∧ ∀ m, p m → k ≤ m := by
  obtain ⟨k, hk⟩ := h
  induction k using Nat.strongRecOn with
  | _ k ih =>
    by_cases hm : ∃ m, m < k ∧ p m
    · obtain ⟨m, h1, h2⟩ := hm
      exact ih m h1 h2
    · refine ⟨k, hk, fun m hm' => ?_⟩
      rcases Nat.lt_or_ge m k with h | h
      · exact absurd ⟨m, h, hm'⟩ hm
      · exact h
section
variable (P : Program)
/-- Types whose values name no memory. -/
def flatTy : Nat → TypeId → Bool
  | 0, _ => false
  | k + 1, t =>
    match P.underlying t with
    | some .bool => true
    | some (.int _) => true
    | some .string => true
    | some (.struct fs) => fs.toList.all fun f => flatTy k f.type
    | some (.array _ e) => flatTy k e
    | _ => false
/-- Calls that hand back no memory. -/
def flatCall : Op → Bool
  | .call { callee := .value (.func f), .. } =>
    match P.funcs[f]? with
    | some fn => fn.resultTypes.toList.all fun t => flatTy P 6 t
    | Option.none => false
  | _ => false
def compOp (n : Nat) (ops : Array Oper) (d : Bool) (acc : List (List Nat)) (i : Nat) (o : Oper) : Option COp :=
  match comp P o.op with
  | some k =>
    if dstLt n o.dst = true ∧ (cEdges o.after.toList).all (fun j => decide (j < i)) = true then
      match o.guard with
      | Option.none => some ⟨o.dst, Option.none, k, o.dst.getD 0, if d = true then cClose acc (cEdges o.after.toList) else [], flatCall P o.op⟩
      | some (j, b) =>
        match ((ops[j]?).bind (·.dst)) with
        | some t => some ⟨o.dst, some (t, b), k, o.dst.getD 0, if d = true then cClose acc (cEdges o.after.toList) else [], flatCall P o.op⟩
        | Option.none => Option.none
    else Option.none
  | Option.none => Option.none
def compOps (n : Nat) (ops : Array Oper) (d : Bool) : List (List Nat) → Nat → List Oper → Option (List COp)
  | _, _, [] => some []
  | acc, i, o :: os =>
    match compOp P n ops d acc i o with
    | some c =>
      match compOps n ops d (acc ++ [c.after]) (i + 1) os with
      | some cs => some (c :: cs)
      | Option.none => Option.none
    | Option.none => Option.none
theorem compOp_rel {n : Nat} {ops : Array Oper} {d : Bool} {acc : List (List Nat)} {i : Nat} {o : Oper} {c : COp} (ho : ops[i]? = some o) (hacc : ∀ x, ∀ j ∈ acc.getD x [], Reach ops j x) (h : compOp P n ops d acc i o = some c) : OpRel P n ops i o c := by
  unfold compOp at h
  split at h
  · rename_i k hk
    split at h
    · rename_i hc
      obtain ⟨h1, h2⟩ := hc
      have hlt : ∀ t, o.dst = some t → t < n := fun t ht => by rw [ht] at h1; simpa [dstLt] using h1
      have haft : ∀ j ∈ (if d = true then cClose acc (cEdges o.after.toList) else []), Reach ops j i := fun j hj => by
        split at hj
        · rcases addNat_mem hj with hj | hj
          · rcases addNat_mem hj with hj | hj
            · cases hj
            · obtain ⟨e, he, hb, rfl⟩ := cEdges_spec.1 hj
              exact .one ho (by simpa using he) hb
          · obtain ⟨x, hx, hjx⟩ := List.mem_flatMap.1 hj
            obtain ⟨e, he, hb, rfl⟩ := cEdges_spec.1 hx
            exact .more ho (by simpa using he) hb (hacc _ j hjx)
        · cases hj
      have hback : ∀ e ∈ o.after, Region.binds .any e = true → e.on < i := fun e he hb => by
        have := List.all_eq_true.1 h2 e.on (cEdges_spec.2 ⟨e, by simpa using he, hb, rfl⟩)
        simpa using this
      obtain ⟨k1, k2⟩ := comp_ok P hk
      split at h
      · rename_i hg
        cases h
        exact ⟨rfl, hlt, by rw [hg], k1, k2, haft, hback⟩
      · rename_i j b hg
        split at h
        · rename_i t ht
          cases h
          exact ⟨rfl, hlt, by rw [hg]; exact ⟨t, ht, rfl⟩, k1, k2, haft, hback⟩
        · cases h
    · cases h
  · cases h
theorem compOps_rel {n : Nat} {ops : Array Oper} {d : Bool} : ∀ {os : List Oper} {acc : List (List Nat)} {i : Nat} {cs : List COp}, (∀ k o, os[k]? = some o → ops[i + k]? = some o) → acc.length = i → (∀ x, ∀ j ∈ acc.getD x [], Reach ops j x) → compOps P n ops d acc i os = some cs →
    cs.length = os.length ∧ ∀ (k : Nat) (o : Oper) (c : COp), os[k]? = some o → cs[k]? = some c → OpRel P n ops (i + k) o c
  | [], acc, i, cs, _, _, _, h => by cases h; exact ⟨rfl, fun k o c ho => by cases ho⟩
  | o :: os, acc, i, cs, hos, hi, hacc, h => by
    rw [compOps] at h
    split at h
    · rename_i c hc
      split at h
      · rename_i cs' hcs
        cases h
        have ho : ops[i]? = some o := by simpa using hos 0 o rfl
        have R := compOp_rel P ho hacc hc
        have hacc' : ∀ x, ∀ j ∈ (acc ++ [c.after]).getD x [], Reach ops j x := fun x j hj => by
          rw [List.getD_eq_getElem?_getD] at hj
          by_cases hx : x < acc.length
          · rw [List.getElem?_append_left hx, ← List.getD_eq_getElem?_getD] at hj
            exact hacc x j hj
          · rw [List.getElem?_append_right (by omega)] at hj
            by_cases hx' : x = acc.length
            · subst hx'
              rw [Nat.sub_self] at hj
              rw [hi]
              exact R.after j hj
            · rw [List.getElem?_eq_none (by simp; omega)] at hj
              cases hj
        obtain ⟨k1, k2⟩ := compOps_rel (os := os) (acc := acc ++ [c.after]) (i := i + 1) (fun k o' hk => by
          have := hos (k + 1) o' (by simpa using hk)
          rwa [show i + 1 + k = i + (k + 1) by omega]) (by simp [hi]) hacc' hcs
        refine ⟨by rw [List.length_cons, List.length_cons, k1], fun k o' c' ho' hc' => ?_⟩
        cases k with
        | zero => cases ho'; cases hc'; exact R
        | succ k =>
          have := k2 k o' c' (by simpa using ho') (by simpa using hc')
          rwa [show i + (k + 1) = i + 1 + k by omega]
      · cases h
    · cases h
def stOne (c : COp) : Nat → List COp → Bool
  | _, [] => true
  | j, b :: bs => (c.after.contains j || apartC b c) && stOne c (j + 1) bs
def stAll : List COp → List COp → Bool
  | _, [] => true
  | pre, c :: cs => stOne c 0 pre && stAll (pre ++ [c]) cs
theorem stOne_spec {c : COp} : ∀ {bs : List COp} {j : Nat}, stOne c j bs = true → ∀ k b, bs[k]? = some b → j + k ∈ c.after ∨ apartC b c = true
  | [], _, _, k, b, hb => by cases hb
  | b0 :: bs, j, h, k, b, hb => by
    rw [stOne, Bool.and_eq_true, Bool.or_eq_true, List.contains_iff_mem] at h
    cases k with
    | zero => cases hb; exact h.1
    | succ k =>
      have := stOne_spec h.2 k b (by simpa using hb)
      rwa [show j + (k + 1) = j + 1 + k by omega]
theorem stAll_spec : ∀ {cs pre : List COp}, stAll pre cs = true → ∀ i j ci cj, cs[i]? = some ci → (pre ++ cs)[j]? = some cj → j < pre.length + i → j ∈ ci.after ∨ apartC cj ci = true
  | [], _, _, i, j, ci, cj, hi, _, _ => by cases hi
  | c :: cs, pre, h, i, j, ci, cj, hi, hj, hlt => by
    rw [stAll, Bool.and_eq_true] at h
    cases i with
    | zero =>
      cases hi
      have := stOne_spec h.1 j cj (by rwa [List.getElem?_append_left (by simpa using hlt)] at hj)
      simpa using this
    | succ i => exact stAll_spec h.2 i j ci cj (by simpa using hi) (by simpa using hj) (by simp; omega)
def compR (n : Nat) (ops : Array Oper) (d : Bool) : Option (List COp) :=
  match compOps P n ops d [] 0 ops.toList with
  | some cs => if d = false ∨ stAll [] cs = true then some cs else Option.none
  | Option.none => Option.none
theorem compR_rel {n : Nat} {ops : Array Oper} {d : Bool} {cs : List COp} (h : compR P n ops d = some cs) : RegRel P n ops cs ∧ (d = true → ∀ i j ci cj, cs[i]? = some ci → cs[j]? = some cj → j < i → j ∈ ci.after ∨ apartC cj ci = true) := by
  unfold compR at h
  split at h
  · rename_i cs' hcs
    split at h
    · rename_i hd
      cases h
      obtain ⟨k1, k2⟩ := compOps_rel P (i := 0) (fun k o hk => by rw [Nat.zero_add]; simpa using hk) rfl (fun x j hj => by simp at hj) hcs
      refine ⟨⟨by rw [k1]; simp, fun i o c ho hc => ?_⟩, fun hdt i j ci cj hi hj hlt => ?_⟩
      · have := k2 i o c (by simpa using ho) hc
        rwa [Nat.zero_add] at this
      · have hs := hd.resolve_left (by rw [hdt]; simp)
        exact stAll_spec hs i j ci cj hi (by simpa using hj) (by simpa using hlt)
    · cases h
  · cases h
/-- Compiled code. -/
def compC (n : Nat) : Code → Option C
  | .skip => some .skip
  | .label _ => some .skip
  | .region _ ops d =>
    match compR P n ops d with
    | some l => some (.ops d l)
    | Option.none => Option.none
  | .seq a b =>
    match compC n a, compC n b with
    | some a', some b' => some (.seq a' b')
    | _, _ => Option.none
  | .cond c a b =>
    match copd c, compC n a, compC n b with
    | some c', some a', some b' => some (.cond c' a' b')
    | _, _, _ => Option.none
  | .block id a =>
    match compC n a with
    | some a' => some (.block id a')
    | Option.none => Option.none
  | .loop a =>
    match compC n a with
    | some a' => some (.loop a')
    | Option.none => Option.none
  | .exit id => some (.exit id)
  | .ret => some .ret
  | .scope a => compC n a
  | _ => Option.none
end
/-- How a piece of code is left. -/
inductive Ex where
  | nrm
  | exit (id : Nat)
  | ret
def exOf : Exit → Option Ex
  | .normal => some .nrm
  | .exit id => some (.exit id)
  | .ret => some .ret
  | _ => Option.none
def PostA (E : Ent) (Q : Ex → St → Prop) (e : Exit) (a : Act) (w : World) : Prop := ∃ x s Im p, exOf e = some x ∧ Q x s ∧ RelS E Im p s a w
/-- A state says no more than another one. -/
def Weak (J : List Nm) (s s' : St) : Prop := ∀ (E : Ent), (∀ i e, E.H i = some e → i ∈ J) → ∀ (Im : Nat → Prop) (p : Pl) (a : Act) (w : World), RelS E Im p s a w → ∃ Im' p', RelS E Im' p' s' a w
theorem Weak.refl (J : List Nm) (s : St) : Weak J s s := fun E _ Im p a w h => ⟨Im, p, h⟩
theorem Weak.trans {J : List Nm} {a b c : St} (h : Weak J a b) (k : Weak J b c) : Weak J a c := fun E hE Im p x w hr => let ⟨Im', p', h'⟩ := h E hE Im p x w hr; k E hE Im' p' x w h'
def thenQ (n : St → Prop) (Q : Ex → St → Prop) : Ex → St → Prop
  | .nrm, s => n s
  | .exit id, s => Q (.exit id) s
  | .ret, s => Q .ret s
def blockQ (id : Nat) (Q : Ex → St → Prop) : Ex → St → Prop
  | .nrm, s => Q .nrm s
  | .exit k, s => if k = id then Q .nrm s else Q (.exit k) s
  | .ret, s => Q .ret s
def loopQ (J : List Nm) (I : Nat → St → Prop) (k : Nat) (Q : Ex → St → Prop) : Ex → St → Prop
  | .nrm, s => ∃ k' s', k' < k ∧ Weak J s s' ∧ I k' s'
  | .exit id, s => Q (.exit id) s
  | .ret, s => Q .ret s
/-- What is to be shown of code. -/
def vc (T : Tbl) (N : Nat → Nm) (J : List Nm) : C → (Ex → St → Prop) → St → Prop
  | .skip, Q, s => Q .nrm s
  | .ops d l, Q, s => if d = true then runD T N (Q .nrm) l 0 [] s else runL T N (Q .nrm) l s
  | .seq a b, Q, s => vc T N J a (thenQ (vc T N J b Q) Q) s
  | .cond x a b, Q, s =>
    match x.ev s.F with
    | .v (.bool c) => if c = true then vc T N J a Q s else vc T N J b Q s
    | _ => False
  | .block id a, Q, s => vc T N J a (blockQ id Q) s
  | .weak a, Q, s => ∃ s', Weak J s s' ∧ vc T N J a Q s'
  | .loop a, Q, s => ∃ I : Nat → St → Prop, (∃ k s', Weak J s s' ∧ I k s') ∧ ∀ k s', I k s' → vc T N J a (loopQ J I k Q) s'
  | .exit id, Q, s => Q (.exit id) s
  | .ret, Q, s => Q .ret s
/-- Code without the places where something may be forgotten. -/
def C.strip : C → C
  | .seq a b => .seq a.strip b.strip
  | .cond x a b => .cond x a.strip b.strip
  | .block id a => .block id a.strip
  | .loop a => .loop a.strip
  | .weak a => a.strip
  | .skip => .skip
  | .ops d l => .ops d l
  | .exit id => .exit id
  | .ret => .ret
inductive CodeRel (P : Program) (n : Nat) : Code → C → Prop where
  | skip : CodeRel P n .skip .skip
  | label (l) : CodeRel P n (.label l) .skip
  | region (id ops d l) (h : compR P n ops d = some l) : CodeRel P n (.region id ops d) (.ops d l)
  | seq {x y a b} (h1 : CodeRel P n x a) (h2 : CodeRel P n y b) : CodeRel P n (.seq x y) (.seq a b)
  | cond {c c' x y a b} (h : copd c = some c') (h1 : CodeRel P n x a) (h2 : CodeRel P n y b) : CodeRel P n (.cond c x y) (.cond c' a b)
  | block {id x a} (h1 : CodeRel P n x a) : CodeRel P n (.block id x) (.block id a)
  | loop {x a} (h1 : CodeRel P n x a) : CodeRel P n (.loop x) (.loop a)
  | exit (id) : CodeRel P n (.exit id) (.exit id)
  | ret : CodeRel P n .ret .ret
  | scope {x a} (h1 : CodeRel P n x a) : CodeRel P n (.scope x) a
  | weak {x a} (h1 : CodeRel P n x a) : CodeRel P n x (.weak a)
theorem codeRel_of {P : Program} {n : Nat} : ∀ {code : Code} {c : C}, compC P n code = some c.strip → CodeRel P n code c := by
  intro code
  induction code with
  | skip =>
    intro c
    induction c with
    | weak a ih => intro h; exact .weak (ih h)
    | skip => intro h; exact .skip
    | _ => intro h; simp only [compC, C.strip] at h; cases h
  | label l =>
    intro c
    induction c with
    | weak a ih => intro h; exact .weak (ih h)
    | skip => intro h; exact .label l
    | _ => intro h; simp only [compC, C.strip] at h; cases h
  | region id ops d =>
    intro c
    induction c with
    | weak a ih => intro h; exact .weak (ih h)
    | ops d' l =>
      intro h
      simp only [compC, C.strip] at h
      split at h
      · rename_i l' hl
        cases h
        exact .region id ops d _ hl
      · cases h
    | _ => intro h; simp only [compC, C.strip] at h; split at h <;> cases h
  | seq x y ihx ihy =>
    intro c
    induction c with
    | weak a ih => intro h; exact .weak (ih h)
    | seq a b =>
      intro h
      simp only [compC, C.strip] at h
      split at h
      · rename_i x' y' hx hy
        cases h
        exact .seq (ihx hx) (ihy hy)
      · cases h
    | _ => intro h; simp only [compC, C.strip] at h; split at h <;> cases h
  | cond c0 x y ihx ihy =>
    intro c
    induction c with
    | weak a ih => intro h; exact .weak (ih h)
    | cond c1 a b =>
      intro h
      simp only [compC, C.strip] at h
      split at h
      · rename_i c' x' y' h1 hx hy
        cases h
        exact .cond h1 (ihx hx) (ihy hy)
      · cases h
    | _ => intro h; simp only [compC, C.strip] at h; split at h <;> cases h
  | block id x ih0 =>
    intro c
    induction c with
    | weak a ih => intro h; exact .weak (ih h)
    | block id' a =>
      intro h
      simp only [compC, C.strip] at h
      split at h
      · rename_i x' hx
        cases h
        exact .block (ih0 hx)
      · cases h
    | _ => intro h; simp only [compC, C.strip] at h; split at h <;> cases h
  | loop x ih0 =>
    intro c
    induction c with
    | weak a ih => intro h; exact .weak (ih h)
    | loop a =>
      intro h
      simp only [compC, C.strip] at h
      split at h
      · rename_i x' hx
        cases h
        exact .loop (ih0 hx)
      · cases h
    | _ => intro h; simp only [compC, C.strip] at h; split at h <;> cases h
  | exit id =>
    intro c
    induction c with
    | weak a ih => intro h; exact .weak (ih h)
    | exit id' => intro h; simp only [compC, C.strip] at h; cases h; exact .exit _
    | _ => intro h; simp only [compC, C.strip] at h; cases h
  | ret =>
    intro c
    induction c with
    | weak a ih => intro h; exact .weak (ih h)
    | ret => intro h; exact .ret
    | _ => intro h; simp only [compC, C.strip] at h; cases h
  | scope x ih => intro c h; exact .scope (ih h)
  | _ => intro c h; simp only [compC] at h; cases h
theorem vc_sound {P : Program} {T : Tbl} (hT : TblOk P T) (hm : P.follows .mixedOrders = true) {N : Nat → Nm} {J : List Nm} {E : Ent} (hE : ∀ i e, E.H i = some e → i ∈ J) : ∀ {code : Code} {c : C} {Q : Ex → St → Prop} {s : St} {Im : Nat → Prop} {p : Pl} {a : Act} {w : World}, CodeRel P E.n code c → vc T N J c Q s → RelS E Im p s a w → code.wp P (PostA E Q) a w := by
  intro code c Q s Im p a w hrel
  induction hrel generalizing Q s Im p a w with
  | skip => intro h hR; exact wp_skip ⟨.nrm, s, Im, p, rfl, h, hR⟩
  | label l => intro h hR; exact wp_label ⟨.nrm, s, Im, p, rfl, h, hR⟩
  | region id ops d l hl =>
    intro h hR
    · obtain ⟨RR, hst⟩ := compR_rel P hl
      have fin : ∀ s Im p a w, Q .nrm s → RelS E Im p s a w → PostA E Q .normal a w := fun s Im p a w hq hr => ⟨.nrm, s, Im, p, rfl, hq, hr⟩
      rw [vc] at h
      cases d with
      | false =>
        simp only [Bool.false_eq_true, if_false] at h
        refine wp_region ?_
        have := wpOps_of_runL hT RR fin l 0 s Im p a w rfl hR h
        rwa [RR.len, ← List.range_eq_range'] at this
      | true =>
        simp only [if_true] at h
        refine wp_region_any hm ?_
        have hR' : RelS E Im p s a { w with drawn := w.drawn + 1 } := ⟨hR.sz, hR.fr, hR.hp, ⟨hR.en.os, hR.en.tape, hR.en.output, hR.en.size, hR.en.block, hR.en.im, hR.en.im', hR.en.ids⟩, hR.gr, hR.df⟩
        have hu := runU_of_runD l 0 [] s rfl h
        rw [RR.len] at hu
        refine any_of_runU hT RR (hst rfl) fin ops.size (List.range' 0 ops.size) [] _ s Im p a _ (by simp) (fun i => ?_) List.pairwise_lt_range' (fun i o ho hl => ?_) (by simp) hR' hu
        · rw [List.mem_range'_1]
          by_cases hi : i < ops.size
          · simp [hi, Array.getD]
          · simp [hi]
        · have hi : i < ops.size := by
            rcases Nat.lt_or_ge i ops.size with h | h
            · exact h
            · rw [Array.getElem?_eq_none h] at ho; cases ho
          simp [hi, Array.getD] at hl
  | seq hx hy ihx ihy =>
    intro h hR
    · rw [vc] at h
      refine wp_seq (wp_mono (ihx h hR) fun e a' w' hpost => ?_)
      obtain ⟨ex, s', Im', p', he, hq, hr⟩ := hpost
      cases e <;> simp only [exOf, Option.some.injEq, reduceCtorEq] at he
      · subst he; exact ihy hq hr
      · subst he; exact ⟨_, s', Im', p', rfl, hq, hr⟩
      · subst he; exact ⟨_, s', Im', p', rfl, hq, hr⟩
  | cond h1 hx hy ihx ihy =>
    intro h hR
    · rw [vc] at h
      split at h
      · rename_i b hb
        have r := copd_ok h1 E Im p s a w hR
        rw [hb] at r
        have e := rel_v r
        refine wp_cond e ?_
        cases b with
        | true => simp only [if_true] at h ⊢; exact ihx h hR
        | false => simp only [Bool.false_eq_true, if_false] at h ⊢; exact ihy h hR
      · exact h.elim
  | block hx ih =>
    intro h hR
    · rw [vc] at h
      refine wp_block (wp_mono (ih h hR) fun e a' w' hpost => ?_)
      obtain ⟨ex, s', Im', p', he, hq, hr⟩ := hpost
      cases e <;> simp only [exOf, Option.some.injEq, reduceCtorEq] at he
      · subst he; exact ⟨_, s', Im', p', rfl, hq, hr⟩
      · rename_i k
        subst he
        simp only [blockQ] at hq
        simp only [Exit.inBlock]
        split
        · rename_i hk; rw [if_pos hk] at hq; exact ⟨_, s', Im', p', rfl, hq, hr⟩
        · rename_i hk; rw [if_neg hk] at hq; exact ⟨_, s', Im', p', rfl, hq, hr⟩
      · subst he; exact ⟨_, s', Im', p', rfl, hq, hr⟩
  | loop hx ih =>
    intro h hR
    · rw [vc] at h
      obtain ⟨I, ⟨k0, s0, hw0, hI0⟩, hround⟩ := h
      obtain ⟨Im0, p0, hR0⟩ := hw0 E hE Im p a w hR
      let J : Nat → Act → World → Prop := fun k a w => ∃ s Im p, I k s ∧ RelS E Im p s a w
      classical
      refine wp_loop (fun a w => ∃ k, J k a w) (fun a w => if h : ∃ k, J k a w then Classical.choose (exists_min h) else 0) ⟨k0, s0, Im0, p0, hI0, hR0⟩ fun a w hJ => ?_
      obtain ⟨⟨s', Im', p', hI, hr⟩, hle⟩ := Classical.choose_spec (exists_min hJ)
      refine wp_mono (ih (hround _ s' hI) hr) fun e a' w' hpost => ?_
      obtain ⟨ex, s2, Im2, p2, he, hq, hr2⟩ := hpost
      cases e <;> simp only [exOf, Option.some.injEq, reduceCtorEq] at he
      · subst he
        obtain ⟨k', s3, hlt, hw, hI'⟩ := hq
        obtain ⟨Im3, p3, hr3⟩ := hw E hE Im2 p2 a' w' hr2
        have hJ' : ∃ k, J k a' w' := ⟨k', s3, Im3, p3, hI', hr3⟩
        refine ⟨hJ', ?_⟩
        simp only [dif_pos hJ', dif_pos hJ]
        exact Nat.lt_of_le_of_lt ((Classical.choose_spec (exists_min hJ')).2 k' ⟨s3, Im3, p3, hI', hr3⟩) hlt
      · subst he; exact ⟨_, s2, Im2, p2, rfl, hq, hr2⟩
      · subst he; exact ⟨_, s2, Im2, p2, rfl, hq, hr2⟩
  | exit id => intro h hR; exact wp_exit ⟨_, s, Im, p, rfl, h, hR⟩
  | ret => intro h hR; exact wp_ret ⟨_, s, Im, p, rfl, h, hR⟩
  | weak hx ih =>
    intro h hR
    rw [vc] at h
    obtain ⟨s', hw, h⟩ := h
    obtain ⟨Im', p', hR'⟩ := hw E hE Im p a w hR
    exact ih h hR'
  | scope hx ih =>
    intro h hR
    refine wp_scope_straight (wp_mono (ih h hR) fun e a' w' hpost => ?_)
    obtain ⟨ex, s', Im', p', he, hq, hr⟩ := hpost
    cases e <;> simp only [exOf, Option.some.injEq, reduceCtorEq] at he <;> exact ⟨ex, s', Im', p', by subst he; rfl, hq, hr⟩
end Go.Proofs.Ytiaenojpbiahgaa
