
/- Functions over abstract data, run by the kernel: a program's functions, compiled where they are called. No program in sight. -/
import Derived.Test.YtiaenojpbiahgaaE3
namespace Go.Proofs.Ytiaenojpbiahgaa
open Go
set_option linter.unusedVariables false
set_option linter.unusedSimpArgs false

/-- For each loop, in the text's order: what lives on, what becomes plain data. -/
abbrev Lv := List (List Nat × List Nat)
def annot : C → Lv → Option (CE × Lv)
  | .skip, l => some (.skip, l)
  | .ops d os, l => some (.ops d os, l)
  | .seq a b, l =>
    match annot a l with
    | some (a', l1) =>
      match annot b l1 with
      | some (b', l2) => some (.seq a' b', l2)
      | Option.none => Option.none
    | Option.none => Option.none
  | .cond x a b, l =>
    match annot a l with
    | some (a', l1) =>
      match annot b l1 with
      | some (b', l2) => some (.cond x a' b', l2)
      | Option.none => Option.none
    | Option.none => Option.none
  | .block id a, l =>
    match annot a l with
    | some (a', l1) => some (.block id a', l1)
    | Option.none => Option.none
  | .loop a, [] => Option.none
  | .loop a, (v, z) :: l =>
    match annot a l with
    | some (a', l1) => some (.loop v z a', l1)
    | Option.none => Option.none
  | .weak _, _ => Option.none
  | .exit id, l => some (.exit id, l)
  | .ret, l => some (.ret, l)
theorem annot_toC : ∀ {c : C} {l l' : Lv} {e : CE}, annot c l = some (e, l') → e.toC = c
  | .skip, l, l', e, h => by cases h; rfl
  | .ops _ _, l, l', e, h => by cases h; rfl
  | .seq a b, l, l', e, h => by
    unfold annot at h
    split at h
    · rename_i h1
      split at h
      · rename_i h2
        cases h
        rw [CE.toC, annot_toC h1, annot_toC h2]
      · cases h
    · cases h
  | .cond x a b, l, l', e, h => by
    unfold annot at h
    split at h
    · rename_i h1
      split at h
      · rename_i h2
        cases h
        rw [CE.toC, annot_toC h1, annot_toC h2]
      · cases h
    · cases h
  | .block id a, l, l', e, h => by
    unfold annot at h
    split at h
    · rename_i h1
      cases h
      rw [CE.toC, annot_toC h1]
    · cases h
  | .loop a, [], l', e, h => by cases h
  | .loop a, (v, z) :: l, l', e, h => by
    unfold annot at h
    split at h
    · rename_i h1
      cases h
      rw [CE.toC, annot_toC h1]
    · cases h
  | .weak _, l, l', e, h => by cases h
  | .exit id, l, l', e, h => by cases h; rfl
  | .ret, l, l', e, h => by cases h; rfl
/-- What a run must know of a function, beyond its code: what lives on at its loops; the operations whose new memory it hands back. -/
structure Hint where
  lv : Lv
  kp : Bool
  new : List Nat
def findH (f : FuncId) : List (FuncId × Hint) → Hint
  | [] => ⟨[], false, []⟩
  | (g, h) :: l => bif Nat.beq f g then h else findH f l
def codesOf (P : Program) (hs : List (FuncId × Hint)) (f : FuncId) : Option FI :=
  match P.funcs[f]? with
  | Option.none => Option.none
  | some fn =>
    match fn.body with
    | Option.none => Option.none
    | some code =>
      match compC P fn.ntmps code with
      | Option.none => Option.none
      | some c =>
        match compRes P fn.results.toList with
        | Option.none => Option.none
        | some rvs =>
          match annot c (findH f hs).lv with
          | Option.none => Option.none
          | some (e, _) => bif fnOk P f then some ⟨e, rvs, fn.ntmps, (findH f hs).kp, (findH f hs).new⟩ else Option.none
theorem codesOf_ok (P : Program) (hs : List (FuncId × Hint)) : CodesOk P (codesOf P hs) := by
  intro f fi h
  unfold codesOf at h
  split at h
  · cases h
  · rename_i fn hfn
    split at h
    · cases h
    · rename_i code hcode
      split at h
      · cases h
      · rename_i c hc
        split at h
        · cases h
        · rename_i rvs hr
          split at h
          · cases h
          · rename_i e l he
            cases hk : fnOk P f with
            | false => rw [hk] at h; cases h
            | true =>
              rw [hk] at h
              cases h
              exact ⟨rfl, fn, code, hfn, hcode, by rw [annot_toC he]; exact hc, hr, Nat.le_refl _⟩
/-- A run of a program's function, as a contract. -/
theorem run_c {P : Program} (hm : P.follows .mixedOrders = true) (hs : List (FuncId × Hint)) (lf n : Nat) {f : FuncId} {args : List D} {nn : Nm} {v : D} (h : evF (codesOf P hs) lf n f args Hp.none nn = some (v, hp [])) : CallsA P f args Hp.none nn fun d h => d = v ∧ h = Hp.none :=
  evF_ok hm (codesOf_ok P hs) h
end Go.Proofs.Ytiaenojpbiahgaa
