
/- Functions over abstract data, run by the kernel: what a run yields is a contract. No program in sight. -/
import Derived.Test.YtiaenojpbiahgaaV3
namespace Go.Proofs.Ytiaenojpbiahgaa
open Go
set_option linter.unusedVariables false
set_option linter.unusedSimpArgs false

def lookF (b : Bool) (t : Nat) : List (Nat × D) → D
  | [] => bif b then .v undef else .any
  | (k, d) :: l => bif Nat.beq t k then d else lookF b t l
def frB (b : Bool) (l : List (Nat × D)) : Fr := fun t => lookF b t l
def nmEq (i j : Nm) : Bool := Nat.beq i.1 j.1 && Nat.beq i.2 j.2
theorem nmEq_iff (i j : Nm) : nmEq i j = true ↔ i = j := by
  obtain ⟨a, b⟩ := i
  obtain ⟨c, d⟩ := j
  simp [nmEq]
def lookH (i : Nm) : List (Nm × En) → Option En
  | [] => Option.none
  | (j, e) :: l => bif nmEq i j then some e else lookH i l
def hp (l : List (Nm × En)) : Hp := fun i => lookH i l
theorem hp_nil : hp [] = Hp.none := rfl
theorem hp_cons (i : Nm) (e : En) (l : List (Nm × En)) : hp ((i, e) :: l) = (hp l).put i e := by
  funext j
  simp only [hp, lookH, Hp.put]
  by_cases h : j = i
  · rw [(nmEq_iff j i).2 h, if_pos h]; rfl
  · rw [Bool.eq_false_iff.2 (fun k => h ((nmEq_iff j i).1 k)), if_neg h]; rfl
theorem frB_cons (b : Bool) (k : Nat) (d : D) (l : List (Nat × D)) : frB b ((k, d) :: l) = putF (frB b l) (some k) d := by
  funext t
  simp only [frB, lookF, putF]
  by_cases h : t = k
  · subst h; rw [if_pos rfl, Nat.beq_refl]; rfl
  · rw [if_neg h, Bool.eq_false_iff.2 (fun q => h (Nat.eq_of_beq_eq_true q))]; rfl
structure SL where
  b : Bool
  F : List (Nat × D)
  H : List (Nm × En)
def SL.st (s : SL) : St := ⟨frB s.b s.F, hp s.H⟩
def putL (F : List (Nat × D)) : Option Nat → D → List (Nat × D)
  | some t, d => (t, d) :: F
  | Option.none, _ => F
theorem putL_eq (b : Bool) (F : List (Nat × D)) (dst : Option Nat) (d : D) : frB b (putL F dst d) = putF (frB b F) dst d := by
  cases dst with
  | none => rfl
  | some t => exact frB_cons b t d F
def putoL (H : List (Nm × En)) : Option (Nm × En) → List (Nm × En)
  | some (i, e) => (i, e) :: H
  | Option.none => H
theorem putoL_eq (H : List (Nm × En)) (o : Option (Nm × En)) : hp (putoL H o) = (hp H).puto o := by
  cases o with
  | none => rfl
  | some q => exact hp_cons q.1 q.2 H
def restrL (H : Hp) : List Nm → List (Nm × En)
  | [] => []
  | i :: is =>
    match H i with
    | some e => (i, e) :: restrL H is
    | Option.none => restrL H is
theorem restrL_eq (H : Hp) : ∀ js, hp (restrL H js) = H.restr js
  | [] => rfl
  | i :: is => by
    unfold restrL Hp.restr
    cases H i with
    | none => exact restrL_eq H is
    | some e => dsimp only; rw [hp_cons, restrL_eq H is]
def killsL (H : List (Nm × En)) : List Nm → List (Nm × En)
  | [] => H
  | i :: is =>
    match lookH i H with
    | some e => killsL ((i, ⟨e.g + 1, e.sz, []⟩) :: H) is
    | Option.none => killsL H is
theorem killsL_eq : ∀ (js : List Nm) (H : List (Nm × En)), hp (killsL H js) = (hp H).kills js
  | [], H => rfl
  | i :: is, H => by
    unfold killsL Hp.kills Hp.kill
    have e : hp H i = lookH i H := rfl
    rw [e]
    cases lookH i H with
    | none => exact killsL_eq is H
    | some e => dsimp only; rw [killsL_eq is, hp_cons]
def overL (H : List (Nm × En)) (H' : Hp) : List Nm → List (Nm × En)
  | [] => H
  | i :: is =>
    match H' i with
    | some e => (i, e) :: overL H H' is
    | Option.none => overL H H' is
theorem overL_eq (H : List (Nm × En)) (H' : Hp) : ∀ js, hp (overL H H' js) = (hp H).over H' js
  | [] => rfl
  | i :: is => by
    unfold overL Hp.over
    cases H' i with
    | none => exact overL_eq H H' is
    | some e => dsimp only; rw [hp_cons, overL_eq H H' is]

def listB {α : Type} (p : α → Bool) : List α → Bool
  | [] => true
  | x :: xs => p x && listB p xs
theorem listB_iff {α : Type} {p : α → Bool} : ∀ {l : List α}, listB p l = true → ∀ x ∈ l, p x = true
  | x :: xs, h, y, hy => by
    rw [listB, Bool.and_eq_true] at h
    cases hy with
    | head => exact h.1
    | tail _ hy => exact listB_iff h.2 y hy
def lendOk1B (H : Hp) : D → Bool
  | .own i g off n =>
    match H i with
    | some e => listB (fun r => listB D.plain r) e.rows && decide (off + n ≤ e.rows.length)
    | Option.none => true
  | _ => true
theorem lendOk1B_ok {H : Hp} {d : D} (h : lendOk1B H d = true) : lendOk1 H d := by
  cases d with
  | own i g off n =>
    unfold lendOk1B at h
    unfold lendOk1
    dsimp only at h ⊢
    split
    · rename_i e he
      rw [he] at h
      dsimp only at h
      rw [Bool.and_eq_true] at h
      exact ⟨fun r hr d hd => listB_iff (listB_iff h.1 r hr) d hd, of_decide_eq_true h.2⟩
    · trivial
  | _ => exact trivial
def lendOkB (H : Hp) : D → Bool
  | .agg cs => listB (lendOk1B H) cs
  | d => lendOk1B H d
theorem lendOkL_of {H : Hp} : ∀ {cs : List D}, listB (lendOk1B H) cs = true → lendOkL H cs
  | [], _ => trivial
  | d :: ds, h => by
    rw [listB, Bool.and_eq_true] at h
    exact ⟨lendOk1B_ok h.1, lendOkL_of h.2⟩
theorem lendOkB_ok {H : Hp} {d : D} (h : lendOkB H d = true) : lendOk H d := by
  cases d with
  | agg cs => exact lendOkL_of h
  | v x => exact lendOk1B_ok (H := H) (d := .v x) h
  | any  => exact lendOk1B_ok (H := H) (d := .any ) h
  | tup cs => exact lendOk1B_ok (H := H) (d := .tup cs) h
  | sl l => exact lendOk1B_ok (H := H) (d := .sl l) h
  | ip f => exact lendOk1B_ok (H := H) (d := .ip f) h
  | mt  => exact lendOk1B_ok (H := H) (d := .mt ) h
  | own i g o n => exact lendOk1B_ok (H := H) (d := .own i g o n) h
  | ptr i g r c => exact lendOk1B_ok (H := H) (d := .ptr i g r c) h
  | clo f a b => exact lendOk1B_ok (H := H) (d := .clo f a b) h
theorem lendOkLB_ok {H : Hp} : ∀ {ds : List D}, listB (lendOkB H) ds = true → lendOkL' H ds
  | [], _ => trivial
  | d :: ds, h => by
    rw [listB, Bool.and_eq_true] at h
    exact ⟨lendOkB_ok h.1, lendOkLB_ok h.2⟩
def lendOkTB (H : Hp) : D → Bool
  | .tup cs => listB (lendOkB H) cs
  | d => lendOkB H d
theorem lendOkTB_ok {H : Hp} {d : D} (h : lendOkTB H d = true) : lendOkT H d := by
  cases d with
  | tup cs => exact lendOkLB_ok h
  | agg cs => exact lendOkB_ok (H := H) (d := .agg cs) h
  | v x => exact lendOkB_ok (H := H) (d := .v x) h
  | any  => exact lendOkB_ok (H := H) (d := .any ) h
  | sl l => exact lendOkB_ok (H := H) (d := .sl l) h
  | ip f => exact lendOkB_ok (H := H) (d := .ip f) h
  | mt  => exact lendOkB_ok (H := H) (d := .mt ) h
  | own i g o n => exact lendOkB_ok (H := H) (d := .own i g o n) h
  | ptr i g r c => exact lendOkB_ok (H := H) (d := .ptr i g r c) h
  | clo f a b => exact lendOkB_ok (H := H) (d := .clo f a b) h
def closedB (H : Hp) (js : List Nm) : List Nm → Bool
  | [] => true
  | i :: is => (match H i with
    | some e => listB (refsInL js) e.rows
    | Option.none => true) && closedB H js is
theorem closedB_ok {H : Hp} {js : List Nm} : ∀ {is : List Nm}, closedB H js is = true → ClosedH H js is
  | [], _ => trivial
  | i :: is, h => by
    rw [closedB, Bool.and_eq_true] at h
    refine ⟨?_, closedB_ok h.2⟩
    have h1 := h.1
    split
    · rename_i e he
      rw [he] at h1
      exact fun r hr => listB_iff h1 r hr
    · trivial
def subNm (js : List Nm) : List Nm → Bool
  | [] => true
  | i :: is => nmIn i js && subNm js is
theorem subNm_ok {js : List Nm} : ∀ {is : List Nm}, subNm js is = true → ∀ i ∈ is, i ∈ js
  | i :: is, h, j, hj => by
    rw [subNm, Bool.and_eq_true] at h
    cases hj with
    | head => exact nmIn_iff.1 h.1
    | tail _ hj => exact subNm_ok h.2 j hj
theorem addNm_sub : ∀ (is js : List Nm) (i : Nm), i ∈ js ∨ i ∈ is → i ∈ addNm js is
  | [], js, i, h => by
    rcases h with h | h
    · exact h
    · cases h
  | k :: is, js, i, h => by
    unfold addNm
    split
    · rename_i hk
      refine addNm_sub is js i ?_
      rcases h with h | h
      · exact .inl h
      · cases h with
        | head => exact .inl (nmIn_iff.1 hk)
        | tail _ h => exact .inr h
    · refine addNm_sub is _ i ?_
      rcases h with h | h
      · exact .inl (List.mem_append_left _ h)
      · cases h with
        | head => exact .inl (List.mem_append_right _ (List.mem_cons_self ..))
        | tail _ h => exact .inr h

/-- What a contract of a run asks: nothing is owned but what the arguments reach. -/
def Dom (Hs : Hp) (js : List Nm) : Prop := ∀ i e, Hs i = some e → i ∈ js
/-- Runs of functions. -/
abbrev TE := FuncId → List D → Hp → Nm → Option (D × Hp)
def TE.tbl (t : TE) : Tbl := fun f args Hs nn =>
  match t f args Hs nn with
  | some (v, H') => some (Dom Hs (reach Hs args), fun v' H'' => v' = v ∧ H'' = H')
  | Option.none => Option.none
theorem cellNms_congr {H H' : Hp} : ∀ {is : List Nm}, (∀ i ∈ is, H' i = H i) → cellNms H' is = cellNms H is
  | [], _ => rfl
  | i :: is, h => by
    unfold cellNms
    rw [h i (List.mem_cons_self ..), cellNms_congr fun j hj => h j (List.mem_cons_of_mem _ hj)]
theorem reach_restr (H : Hp) (ds : List D) : reach (H.restr (reach H ds)) ds = reach H ds := by
  have h : cellNms (H.restr (reach H ds)) (nmsL ds) = cellNms H (nmsL ds) := cellNms_congr fun i hi => restr_in (by
    unfold reach
    exact addNm_sub _ _ _ (.inl (addNm_sub _ _ _ (.inr hi))))
  unfold reach at h ⊢
  rw [h]
theorem dom_restr (H : Hp) (ds : List D) : Dom (H.restr (reach H ds)) (reach (H.restr (reach H ds)) ds) := by
  rw [reach_restr]
  exact fun i e h => (restr_some h).1
def callE (t : TE) (nn : Nm) (dst : Option Nat) (s : SL) (b : Bool) (f : FuncId) (args : List D) : Option (List Nm × List Nm × SL) :=
  bif listB (lendOkB (hp s.H)) args then
    (fun (ks : List Nm) (H1 : List (Nm × En)) (args' : List D) =>
      (fun (js : List Nm) =>
        bif refsInL js args' && (closedB (hp H1) js js && (lookH nn H1).isNone) then
          match t f args' (hp (restrL (hp H1) js)) nn with
          | some (v, H') =>
            bif b && js.isEmpty then
              bif v.flat then some (nmsL args, [nn], ⟨s.b, putL s.F dst v, s.H⟩) else Option.none
            else some (nmsL args, ks ++ nn :: js, ⟨s.b, putL s.F dst v, overL H1 H' (nn :: js)⟩)
          | Option.none => Option.none
        else Option.none) (reach (hp H1) args'))
      (args.flatMap (lendNm (hp s.H))) (killsL s.H (args.flatMap (lendNm (hp s.H)))) (args.map (lend (hp s.H)))
  else Option.none
theorem callE_ok {t : TE} {nn : Nm} {dst : Option Nat} {s : SL} {b : Bool} {f : FuncId} {args : List D} {rs ws : List Nm} {s' : SL} (h : callE t nn dst s b f args = some (rs, ws, s')) (Q : List Nm → List Nm → St → Prop) (hQ : Q rs ws s'.st) :
    callRun t.tbl nn dst s.st.F b s.st.H f args Q := by
  unfold callE at h
  cases h0 : listB (lendOkB (hp s.H)) args with
  | false => rw [h0] at h; cases h
  | true =>
    rw [h0] at h
    dsimp only [cond_true] at h
    refine ⟨lendOkLB_ok h0, ?_⟩
    unfold callRun1 callRun2 callRun3
    have e1 : s.st.H = hp s.H := rfl
    have e2 : s.st.F = frB s.b s.F := rfl
    rw [e1, e2, ← killsL_eq]
    generalize hH1 : killsL s.H (args.flatMap (lendNm (hp s.H))) = H1 at *
    generalize args.flatMap (lendNm (hp s.H)) = ks at *
    generalize args.map (lend (hp s.H)) = args' at *
    cases h1 : refsInL (reach (hp H1) args') args' && (closedB (hp H1) (reach (hp H1) args') (reach (hp H1) args') && (lookH nn H1).isNone) with
    | false => rw [h1] at h; cases h
    | true =>
      rw [h1] at h
      rw [Bool.and_eq_true, Bool.and_eq_true] at h1
      obtain ⟨a1, a2, a3⟩ := h1
      dsimp only [cond_true] at h
      refine ⟨a1, closedB_ok a2, Option.isNone_iff_eq_none.1 a3, ?_⟩
      rw [restrL_eq] at h
      unfold TE.tbl
      cases ht : t f args' ((hp H1).restr (reach (hp H1) args')) nn with
      | none => rw [ht] at h; cases h
      | some q =>
        obtain ⟨v, H'⟩ := q
        rw [ht] at h
        dsimp only at h ⊢
        refine ⟨dom_restr _ _, ?_⟩
        cases hb : b && (reach (hp H1) args').isEmpty with
        | true =>
          rw [hb] at h
          dsimp only [cond_true] at h
          rw [if_pos rfl]
          rintro v' H'' ⟨e3, e4⟩
          rw [e3]
          cases hv : v.flat with
          | false => rw [hv] at h; cases h
          | true =>
            rw [hv] at h
            cases h
            refine ⟨rfl, ?_⟩
            have := hQ
            simp only [SL.st, putL_eq] at this
            exact this
        | false =>
          rw [hb] at h
          dsimp only [cond_false] at h
          rw [if_neg (by simp)]
          rintro v' H'' ⟨e3, e4⟩
          rw [e3, e4]
          cases h
          have := hQ
          simp only [SL.st, putL_eq, overL_eq] at this
          exact this
end Go.Proofs.Ytiaenojpbiahgaa
