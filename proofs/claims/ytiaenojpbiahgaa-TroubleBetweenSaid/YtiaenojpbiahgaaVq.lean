
/- Functions over abstract data; what may be forgotten. -/
import Derived.Test.YtiaenojpbiahgaaVp
namespace Go.Proofs.Ytiaenojpbiahgaa
open Go
set_option linter.unusedVariables false
set_option linter.unusedSimpArgs false

/-- A result. -/
inductive RV where
  | tmp (t : Nat)
  | cell (t sz : Nat) (ag : Bool)
def compRes (P : Program) : List ResultVar → Option (List RV)
  | [] => some []
  | .tmp t :: rs =>
    match compRes P rs with
    | some l => some (.tmp t :: l)
    | Option.none => Option.none
  | .cell a t :: rs =>
    match P.info? t, P.underlying t, compRes P rs with
    | some i, some d, some l => if d.isRow = true ∨ i.size = 1 then some (.cell a i.size d.isRow :: l) else Option.none
    | _, _, _ => Option.none
def resD (s : St) : RV → Option (Prop × D)
  | .tmp t => some (True, s.F t)
  | .cell t sz ag =>
    match s.F t with
    | .ptr i g r c =>
      match s.H i with
      | some e => if e.g = g then some (r < e.rows.length ∧ c + sz ≤ (e.rows.getD r []).length, cellsAt (e.rows.getD r []) c sz ag) else Option.none
      | Option.none => Option.none
    | _ => Option.none
def resL (s : St) : List RV → Option (Prop × List D)
  | [] => some (True, [])
  | v :: vs =>
    match resD s v, resL s vs with
    | some (c, d), some (cs, ds) => some (c ∧ cs, d :: ds)
    | _, _ => Option.none
def packD : List D → D
  | [d] => d
  | ds => .tup ds
def resV (tmps : Array Value) : ResultVar → Sem Value
  | .tmp t => pure (tmps.getD t undef)
  | .cell a t => do loadVar t (← asAddr (tmps.getD a undef))
theorem results_eq (fn : Func) (tmps : Array Value) : results fn tmps = (do let vs ← fn.results.mapM (resV tmps); pure (if h : vs.size = 1 then vs[0] else .tuple vs)) := rfl
theorem resL_run {P : Program} {E : Ent} {Im : Nat → Prop} {p : Pl} {s : St} {a : Act} {w : World} (hR : RelS E Im p s a w) : ∀ (rs : List ResultVar) (rvs : List RV) (c : Prop) (ds : List D), compRes P rs = some rvs → resL s rvs = some (c, ds) → c →
    ∃ us : List Value, (rs.mapM (resV a.tmps)).run P w = .ok us w ∧ ds.length = us.length ∧ ∀ (j : Nat) (d : D) (u : Value), ds[j]? = some d → us[j]? = some u → Rel Im p s.H w.heap d u
  | [], rvs, c, ds, h1, h2, _ => by
    cases h1
    cases h2
    exact ⟨[], rfl, rfl, fun j d u hd => by cases hd⟩
  | r :: rs, rvs, c, ds, h1, h2, hc => by
    have fin : ∀ (rv : RV) (l : List RV), compRes P rs = some l → resL s (rv :: l) = some (c, ds) → (∀ c0 d0, resD s rv = some (c0, d0) → c0 → ∃ u, (resV a.tmps r).run P w = .ok u w ∧ Rel Im p s.H w.heap d0 u) →
        ∃ us : List Value, ((r :: rs).mapM (resV a.tmps)).run P w = .ok us w ∧ ds.length = us.length ∧ ∀ (j : Nat) (d : D) (u : Value), ds[j]? = some d → us[j]? = some u → Rel Im p s.H w.heap d u := fun rv l hl hres hone => by
      rw [resL] at hres
      split at hres
      · rename_i c0 d0 cs ds' e1 e2
        cases hres
        obtain ⟨u, k1, k2⟩ := hone c0 d0 e1 hc.1
        obtain ⟨us, q1, q2, q3⟩ := resL_run hR rs l cs ds' hl e2 hc.2
        refine ⟨u :: us, ?_, by rw [List.length_cons, List.length_cons, q2], fun j d x hd hx => ?_⟩
        · rw [List.mapM_cons]
          simp [k1, q1]
        · cases j with
          | zero => cases hd; cases hx; exact k2
          | succ j => exact q3 j d x (by simpa using hd) (by simpa using hx)
      · cases hres
    cases r with
    | tmp t =>
      rw [compRes] at h1
      split at h1
      · rename_i l hl
        cases h1
        exact fin _ l hl h2 fun c0 d0 e _ => by
          cases e
          exact ⟨_, rfl, hR.fr t⟩
      · cases h1
    | cell t ty =>
      rw [compRes] at h1
      split at h1
      · rename_i i d l hi hd hl
        split at h1
        · rename_i hsz
          cases h1
          refine fin _ l hl h2 fun c0 d0 e hc0 => ?_
          have heff : eff (0, 0) s.F s.H (.ld i.size d.isRow (.t t)) = some ⟨c0, (match s.F t with | .ptr i _ _ _ => [i] | _ => []), d0, Option.none⟩ := by
            unfold resD at e
            dsimp only at e
            simp only [eff, Opd.ev]
            split at e
            · rename_i j g r0 c1 hF
              simp only [hF]
              split at e
              · rename_i en hen
                simp only [hen]
                split at e
                · rename_i hg
                  cases e
                  simp only [hg, if_true]
                · cases e
              · cases e
            · cases e
          obtain ⟨u, ad, q0, q1, q2, q3⟩ := ld_direct (P := P) (OpdOk.t t) (by rw [hi]; rfl) hd rfl (fun hf => hsz.resolve_left (by rw [hf]; exact Bool.false_ne_true)) hR heff hc0
          refine ⟨u, ?_, q2⟩
          rw [q0] at q1
          have q0' : a.tmps.getD t undef = .pointer (some ad) := q0
          unfold resV
          simp only [q0', asAddr]
          exact q1
        · cases h1
      · cases h1
end Go.Proofs.Ytiaenojpbiahgaa
