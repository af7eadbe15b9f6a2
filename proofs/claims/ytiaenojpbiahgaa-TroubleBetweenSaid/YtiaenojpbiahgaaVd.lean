
/- Operations over abstract data: that the model does what 'eff' says: lists of cells, loads, stores, new blocks. -/
import Derived.Test.YtiaenojpbiahgaaVc
import Derived.Deep.MidRow
import Derived.Laws.CopyRow
import Derived.Laws.MakeOwn
import Derived.Deep.AppendSrc
namespace Go.Proofs.Ytiaenojpbiahgaa
open Go
set_option linter.unusedVariables false
set_option linter.unusedSimpArgs false

theorem one_eq (u : Value) : u.oneCell' = one u := by cases u <;> rfl
/-- Lists of cells. -/
structure RelL (Im : Nat → Prop) (p : Pl) (H : Hp) (h : Array Obj) (ds : List D) (us : List Value) : Prop where
  len : ds.length = us.length
  cell : ∀ (j : Nat) (d : D) (u : Value), ds[j]? = some d → us[j]? = some u → Rel Im p H h d u ∧ one u = true
section
variable {Im : Nat → Prop} {p : Pl} {H : Hp} {h : Array Obj}
theorem RelL.nil : RelL Im p H h [] [] := ⟨rfl, fun j d u h => by cases h⟩
theorem RelL.one {us : List Value} {ds : List D} (r : RelL Im p H h ds us) : ∀ u ∈ us, u.oneCell' = true := fun u hu => by
  obtain ⟨j, hj⟩ := List.mem_iff_getElem?.1 hu
  have hlt : j < ds.length := by rw [r.len]; exact (List.getElem?_eq_some_iff.1 hj).1
  rw [one_eq]
  exact (r.cell j _ u (List.getElem?_eq_getElem hlt) hj).2
theorem RelL.single {d : D} {u : Value} (r : Rel Im p H h d u) (h1 : Go.Proofs.Ytiaenojpbiahgaa.one u = true) : RelL Im p H h [d] [u] := by
  refine ⟨rfl, fun j d' u' hd hu => ?_⟩
  cases j with
  | zero => cases hd; cases hu; exact ⟨r, h1⟩
  | succ j => cases hd
theorem RelL.append {ds ds' : List D} {us us' : List Value} (r : RelL Im p H h ds us) (r' : RelL Im p H h ds' us') : RelL Im p H h (ds ++ ds') (us ++ us') := by
  refine ⟨by rw [List.length_append, List.length_append, r.len, r'.len], fun j d u hd hu => ?_⟩
  by_cases hj : j < ds.length
  · rw [List.getElem?_append_left hj] at hd
    rw [List.getElem?_append_left (by rw [← r.len]; exact hj)] at hu
    exact r.cell j d u hd hu
  · rw [List.getElem?_append_right (by omega)] at hd
    rw [List.getElem?_append_right (by rw [← r.len]; omega), ← r.len] at hu
    exact r'.cell _ d u hd hu
theorem RelL.take {ds : List D} {us : List Value} (r : RelL Im p H h ds us) (n : Nat) : RelL Im p H h (ds.take n) (us.take n) := by
  refine ⟨by rw [List.length_take, List.length_take, r.len], fun j d u hd hu => ?_⟩
  rw [List.getElem?_take] at hd hu
  split at hd
  · rename_i hj
    rw [if_pos hj] at hu
    exact r.cell j d u hd hu
  · cases hd
theorem RelL.drop {ds : List D} {us : List Value} (r : RelL Im p H h ds us) (n : Nat) : RelL Im p H h (ds.drop n) (us.drop n) := by
  refine ⟨by rw [List.length_drop, List.length_drop, r.len], fun j d u hd hu => ?_⟩
  rw [List.getElem?_drop] at hd hu
  exact r.cell _ d u hd hu
theorem put1_eq (row : List D) (c : Nat) (ds : List D) (hc : c + ds.length ≤ row.length) : put1 row c ds = row.take c ++ ds ++ row.drop (c + ds.length) := by
  unfold put1
  split
  · rename_i d
    have hc' : c < row.length := by rw [List.length_singleton] at hc; omega
    rw [List.set_eq_take_append_cons_drop, if_pos hc']
    simp
  · rfl
theorem RelL.put1 {row ds : List D} {us vs : List Value} (r : RelL Im p H h row us) (r' : RelL Im p H h ds vs) {c : Nat} (hc : c + ds.length ≤ row.length) : RelL Im p H h (put1 row c ds) (us.take c ++ vs ++ us.drop (c + vs.length)) := by
  rw [put1_eq row c ds hc, ← r'.len]
  exact ((r.take c).append r').append (r.drop _)
theorem length_put1 {row ds : List D} {c : Nat} (hc : c + ds.length ≤ row.length) : (Go.Proofs.Ytiaenojpbiahgaa.put1 row c ds).length = row.length := by
  rw [put1_eq row c ds hc]
  simp only [List.length_append, List.length_take, List.length_drop]
  omega
theorem RelL.rel {ds : List D} {us : List Value} (r : RelL Im p H h ds us) : Rel Im p H h (.agg ds) (.agg us.toArray) := by
  refine .agg ds us.toArray (by rw [r.len]; simp) (fun j u hu => ?_) (fun j d u hd hu => (r.cell j d u hd (by simpa using hu)).1)
  have hu' : us[j]? = some u := by simpa using hu
  have hlt : j < ds.length := by rw [r.len]; exact (List.getElem?_eq_some_iff.1 hu').1
  exact (r.cell j _ u (List.getElem?_eq_getElem hlt) hu').2
theorem RelL.of_agg {ds : List D} {u : Value} (r : Rel Im p H h (.agg ds) u) : ∃ us : Array Value, u = .agg us ∧ RelL Im p H h ds us.toList := by
  cases r with
  | p r => cases r
  | agg _ us hl h1 hr => exact ⟨us, rfl, by rw [hl]; simp, fun j d u hd hu => ⟨hr j d u hd (by simpa using hu), h1 j u (by simpa using hu)⟩⟩
theorem one_of_scal {d : D} {u : Value} (r : Rel Im p H h d u) {ds : List D} (hc : d.cells = some ds) (hn : ∀ cs, d ≠ .agg cs) : ds = [d] ∧ Go.Proofs.Ytiaenojpbiahgaa.one u = true := by
  cases r with
  | p r =>
    cases r with
    | v x =>
      simp only [D.cells] at hc
      split at hc
      · cases hc; exact ⟨rfl, ‹_›⟩
      · cases hc
    | any x => cases hc
    | mt a => cases hc; exact ⟨rfl, rfl⟩
    | sl0 a cap => cases hc; exact ⟨rfl, rfl⟩
    | sl1 => cases hc; exact ⟨rfl, rfl⟩
  | agg cs => exact absurd rfl (hn cs)
  | tup => cases hc
  | ip => cases hc; exact ⟨rfl, rfl⟩
  | own => cases hc; exact ⟨rfl, rfl⟩
  | ptr i g r c x h1 => cases hc; exact ⟨rfl, h1⟩
  | clo => cases hc; exact ⟨rfl, rfl⟩
theorem RelL.cells {d : D} {u : Value} (r : Rel Im p H h d u) {ds : List D} (hc : d.cells = some ds) : RelL Im p H h ds u.cells.toList := by
  by_cases hn : ∀ cs, d ≠ .agg cs
  · obtain ⟨rfl, h1⟩ := one_of_scal r hc hn
    have : u.cells = #[u] := by cases u <;> first | rfl | (simp [Go.Proofs.Ytiaenojpbiahgaa.one] at h1)
    rw [this]
    exact RelL.single r h1
  · have hn' : ∃ cs, d = .agg cs := by
      cases d <;> first | exact ⟨_, rfl⟩ | (exact absurd (fun cs e => by cases e) hn)
    obtain ⟨cs, rfl⟩ := hn'
    cases hc
    obtain ⟨us, rfl, k⟩ := RelL.of_agg r
    exact k
theorem RelL.at {ds : List D} {us : List Value} (r : RelL Im p H h ds us) {c sz : Nat} (hc : c + sz ≤ ds.length) (ag : Bool) (h1 : ag = false → sz = 1) :
    ∃ u, (if ag = true then Value.agg ((us.drop c).take sz).toArray else us.getD c undef) = u ∧ Rel Im p H h (cellsAt ds c sz ag) u := by
  refine ⟨_, rfl, ?_⟩
  unfold cellsAt
  cases ag with
  | true => rw [if_pos rfl, if_pos rfl]; exact ((r.drop c).take sz).rel
  | false =>
    have h2 := h1 rfl
    have hlt : c < ds.length := by omega
    have hlt' : c < us.length := by rw [← r.len]; exact hlt
    rw [if_neg Bool.false_ne_true, if_neg Bool.false_ne_true]
    rw [List.getD_eq_getElem?_getD, List.getD_eq_getElem?_getD, List.getElem?_eq_getElem hlt, List.getElem?_eq_getElem hlt']
    exact (r.cell c _ _ (List.getElem?_eq_getElem hlt) (List.getElem?_eq_getElem hlt')).1
theorem RelL.mono {Im' : Nat → Prop} {p' : Pl} {H' : Hp} {h' : Array Obj} (G : Grows Im p H h Im' p' H' h') {ds : List D} {us : List Value} (r : RelL Im p H h ds us) : RelL Im' p' H' h' ds us :=
  ⟨r.len, fun j d u hd hu => let ⟨k1, k2⟩ := r.cell j d u hd hu; ⟨k1.mono G, k2⟩⟩

/-- A row of a block, as a list of cells. -/
theorem RowsAt.row {c : Array Value} {s sz : Nat} {rows : List (List D)} (R : RowsAt Im p H h c s sz rows) {r : Nat} (hr : r < rows.length) : RelL Im p H h (rows.getD r []) ((c.toList.drop (s + r * sz)).take sz) ∧ (rows.getD r []).length = sz ∧ s + r * sz + sz ≤ c.size := by
  have hg : rows[r]? = some (rows.getD r []) := by rw [List.getD_eq_getElem?_getD, List.getElem?_eq_getElem hr]; rfl
  have hl : (rows.getD r []).length = sz := R.len _ (List.mem_of_getElem? hg)
  have hle : s + r * sz + sz ≤ c.size := by
    have h1 := R.le
    have h2 : (r + 1) * sz ≤ rows.length * sz := Nat.mul_le_mul_right _ hr
    rw [Nat.add_mul, Nat.one_mul] at h2
    omega
  refine ⟨⟨by rw [hl, List.length_take, List.length_drop, Array.length_toList]; omega, fun j d u hd hu => ?_⟩, hl, hle⟩
  have hj : j < sz := by rw [← hl]; exact (List.getElem?_eq_some_iff.1 hd).1
  rw [List.getElem?_take, if_pos hj, List.getElem?_drop] at hu
  obtain ⟨u', k1, k2, k3⟩ := R.cell r j _ d hg hd
  have : some u' = some u := by rw [← k1, ← hu]; simp
  cases this
  exact ⟨k2, k3⟩
/-- A block of rows, out of lists of cells. -/
theorem RowsAt.of {c : Array Value} {s sz : Nat} {rows : List (List D)} (h1 : ∀ r ∈ rows, r.length = sz) (h2 : s + rows.length * sz ≤ c.size) (h3 : ∀ r, r < rows.length → RelL Im p H h (rows.getD r []) ((c.toList.drop (s + r * sz)).take sz)) : RowsAt Im p H h c s sz rows := by
  refine ⟨h1, h2, fun r j row d hr hd => ?_⟩
  have hlt : r < rows.length := (List.getElem?_eq_some_iff.1 hr).1
  have e : rows.getD r [] = row := by rw [List.getD_eq_getElem?_getD, hr]; rfl
  have k := h3 r hlt
  rw [e] at k
  have hj : j < sz := by rw [← h1 row (List.mem_of_getElem? hr)]; exact (List.getElem?_eq_some_iff.1 hd).1
  have hle : (r + 1) * sz ≤ rows.length * sz := Nat.mul_le_mul_right _ hlt
  rw [Nat.add_mul, Nat.one_mul] at hle
  have hb : s + r * sz + j < c.size := by omega
  have hu : ((c.toList.drop (s + r * sz)).take sz)[j]? = some c[s + r * sz + j] := by rw [List.getElem?_take, if_pos hj, List.getElem?_drop]; simp [hb]
  obtain ⟨k1, k2⟩ := k.cell j d _ hd hu
  exact ⟨_, by simp [hb], k1, k2⟩
end
end Go.Proofs.Ytiaenojpbiahgaa
