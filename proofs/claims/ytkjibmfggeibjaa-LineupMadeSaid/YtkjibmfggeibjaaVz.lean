
/- Slices of one's own become plain data, also in the cells of boxes. -/
import Derived.Test.YtkjibmfggeibjaaE1
import Derived.Test.YtkjibmfggeibjaaVw
namespace Go.Proofs.Ytkjibmfggeibjaa
open Go
set_option linter.unusedVariables false
set_option linter.unusedSimpArgs false

theorem hp_at (i : Nm) (e : En) (l : List (Nm × En)) (j : Nm) : hp ((i, e) :: l) j = if j = i then some e else hp l j := by rw [hp_cons]; rfl
theorem hp_no (j : Nm) : hp [] j = Option.none := rfl
theorem weak_restr {J : List Nm} {F : Fr} {H : Hp} (js : List Nm) (h2 : ∀ t, (F t).refsIn js = true) (h3 : ClosedH H js js) (h4 : ∀ i ∈ J, i ∈ js) : Weak J ⟨F, H⟩ ⟨F, H.restr js⟩ := by
  intro E hE Im p a w hR
  refine ⟨Im, p, hR.sz, fun t => (hR.fr t).restr (h2 t), hR.hp.restr h3, hR.en.restr js, ⟨hR.gr.im, hR.gr.blk, fun i e hi => ?_⟩, hR.df⟩
  dsimp only
  rw [restr_in (h4 i (hE i e hi))]
  exact hR.gr.ids i e hi
/-- What is owned where some slices have become plain data. -/
def frzP (ks : List Nm) (H : Hp) : Hp := fun i => (H.kills ks i).map (frzRows ks H)
theorem frzP_at (ks : List Nm) (H : Hp) (i : Nm) : frzP ks H i = (H.kills ks i).map (frzRows ks H) := rfl
theorem frzP_eq (ks : List Nm) (h : List (Nm × En)) : hp (frzH ks (hp h) (killsL h ks)) = frzP ks (hp h) := by
  funext i
  rw [frzP_at, ← killsL_eq]
  exact frzH_at ks (hp h) i _
theorem weak_fz {J : List Nm} (ks js : List Nm) {l l' : List (Nat × D)} {h : List (Nm × En)} {H' : Hp} (c1 : listB (fun q => okKd ks (hp h) q.2) l = true) (c2 : listB (fun q => listB (fun r => listB (okK ks (hp h)) r) q.2.rows) h = true) (c3 : frzF ks (hp h) l = l')
    (c4 : (frzP ks (hp h)).restr js = H') (c5 : refsF js l' = true) (c6 : ClosedH (frzP ks (hp h)) js js) (c7 : ∀ i ∈ J, i ∈ js) : Weak J ⟨fr l, hp h⟩ ⟨fr l', H'⟩ := by
  have w := freeze_weak J ks ⟨false, l, h⟩
  have e1 : (⟨false, l, h⟩ : SL).st = ⟨fr l, hp h⟩ := by simp only [SL.st, frB_fr]
  have e2 : (freeze ks ⟨false, l, h⟩).st = ⟨fr l', frzP ks (hp h)⟩ := by
    unfold freeze
    dsimp only
    rw [c1, c2]
    simp only [Bool.and_self, cond_true, SL.st, frB_fr, c3, frzP_eq]
  rw [e1, e2] at w
  refine w.trans ?_
  rw [← c4]
  exact weak_restr js (fun t => refsF_at c5 t) c6 c7
theorem listB_m {α β : Type} (p : β → Bool) (f : α → β) (h : ∀ x, p (f x) = true) : ∀ l : List α, listB p (l.map f) = true
  | [] => rfl
  | x :: l => by rw [List.map_cons, listB, h x, listB_m p f h l]; rfl
/-- A row of numbers, Booleans .. alone. -/
def rowV (r : List D) : Bool := r.all fun d => match d with | .v _ => true | .sl _ => true | _ => false
theorem rowV_ok {r : List D} (h : rowV r = true) (ks : List Nm) (H : Hp) : listB D.plain r = true ∧ listB (okK ks H) r = true ∧ r.map (lendK ks H) = r := by
  induction r with
  | nil => exact ⟨rfl, rfl, rfl⟩
  | cons d r ih =>
    unfold rowV at h
    rw [List.all_cons, Bool.and_eq_true] at h
    obtain ⟨a, b, c⟩ := ih h.2
    cases d with
    | v x => exact ⟨by rw [listB, a]; rfl, by rw [listB, b]; rfl, by rw [List.map_cons, c]; rfl⟩
    | sl x => exact ⟨by rw [listB, a]; rfl, by rw [listB, b]; rfl, by rw [List.map_cons, c]; rfl⟩
    | _ => cases h.1
theorem rows_pl {α : Type} (f : α → List D) (h : ∀ x, rowV (f x) = true) (l : List α) : listB (fun r => listB D.plain r) (l.map f) = true := listB_m _ _ (fun x => (rowV_ok (h x) [] Hp.none).1) l
theorem rows_ok {α : Type} (f : α → List D) (h : ∀ x, rowV (f x) = true) (ks : List Nm) (H : Hp) (l : List α) : listB (fun r => listB (okK ks H) r) (l.map f) = true := listB_m _ _ (fun x => (rowV_ok (h x) ks H).2.1) l
theorem frzRows_at (ks : List Nm) (H : Hp) (g sz : Nat) (rows : List (List D)) : frzRows ks H ⟨g, sz, rows⟩ = ⟨g, sz, rows.map fun r => r.map (lendK ks H)⟩ := rfl
set_option linter.defProp false
def vz := And.intro @hp_at (And.intro @hp_no (And.intro @frzP_at @frzRows_at))
end Go.Proofs.Ytkjibmfggeibjaa
