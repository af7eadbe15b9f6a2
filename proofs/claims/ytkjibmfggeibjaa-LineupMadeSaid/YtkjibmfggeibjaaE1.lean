
/- Functions over abstract data, run by the kernel: what a run yields is a contract. No program in sight. -/
import Derived.Test.YtkjibmfggeibjaaV3
/- Functions over abstract data, run by the kernel: what a run yields is a contract. No program in sight. -/
namespace Go.Proofs.Ytkjibmfggeibjaa
open Go
set_option linter.unusedVariables false
set_option linter.unusedSimpArgs false

def lookF (b : Bool) (t : Nat) : List (Nat × D) → D
  | [] => bif b then .v undef else .any
  | (k, d) :: l => bif Nat.beq t k then d else lookF b t l
def frB (b : Bool) (l : List (Nat × D)) : Fr := fun t => lookF b t l
def nmEq (i j : Nm) : Bool := Nat.beq i.1 j.1 && Nat.beq i.2 j.2
theorem nmEq_iff (i j : Nm) : nmEq i j = true ↔ i = j := by
  obtain ⟨a, b⟩ := i
  obtain ⟨c, d⟩ := j
  simp [nmEq]
def lookH (i : Nm) : List (Nm × En) → Option En
  | [] => Option.none
  | (j, e) :: l => bif nmEq i j then some e else lookH i l
def hp (l : List (Nm × En)) : Hp := fun i => lookH i l
theorem hp_nil : hp [] = Hp.none := rfl
theorem hp_cons (i : Nm) (e : En) (l : List (Nm × En)) : hp ((i, e) :: l) = (hp l).put i e := by
  funext j
  simp only [hp, lookH, Hp.put]
  by_cases h : j = i
  · rw [(nmEq_iff j i).2 h, if_pos h]; rfl
  · rw [Bool.eq_false_iff.2 (fun k => h ((nmEq_iff j i).1 k)), if_neg h]; rfl
theorem frB_cons (b : Bool) (k : Nat) (d : D) (l : List (Nat × D)) : frB b ((k, d) :: l) = putF (frB b l) (some k) d := by
  funext t
  simp only [frB, lookF, putF]
  by_cases h : t = k
  · subst h; rw [if_pos rfl, Nat.beq_refl]; rfl
  · rw [if_neg h, Bool.eq_false_iff.2 (fun q => h (Nat.eq_of_beq_eq_true q))]; rfl
structure SL where
  b : Bool
  F : List (Nat × D)
  H : List (Nm × En)
def SL.st (s : SL) : St := ⟨frB s.b s.F, hp s.H⟩
def killsL (H : List (Nm × En)) : List Nm → List (Nm × En)
  | [] => H
  | i :: is =>
    match lookH i H with
    | some e => killsL ((i, ⟨e.g + 1, e.sz, []⟩) :: H) is
    | Option.none => killsL H is
theorem killsL_eq : ∀ (js : List Nm) (H : List (Nm × En)), hp (killsL H js) = (hp H).kills js
  | [], H => rfl
  | i :: is, H => by
    unfold killsL Hp.kills Hp.kill
    have e : hp H i = lookH i H := rfl
    rw [e]
    cases lookH i H with
    | none => exact killsL_eq is H
    | some e => dsimp only; rw [killsL_eq is, hp_cons]
def listB {α : Type} (p : α → Bool) : List α → Bool
  | [] => true
  | x :: xs => p x && listB p xs
theorem listB_iff {α : Type} {p : α → Bool} : ∀ {l : List α}, listB p l = true → ∀ x ∈ l, p x = true
  | x :: xs, h, y, hy => by
    rw [listB, Bool.and_eq_true] at h
    cases hy with
    | head => exact h.1
    | tail _ hy => exact listB_iff h.2 y hy
def lendOk1B (H : Hp) : D → Bool
  | .own i g off n =>
    match H i with
    | some e => listB (fun r => listB D.plain r) e.rows && decide (off + n ≤ e.rows.length)
    | Option.none => true
  | _ => true
theorem lendOk1B_ok {H : Hp} {d : D} (h : lendOk1B H d = true) : lendOk1 H d := by
  cases d with
  | own i g off n =>
    unfold lendOk1B at h
    unfold lendOk1
    dsimp only at h ⊢
    split
    · rename_i e he
      rw [he] at h
      dsimp only at h
      rw [Bool.and_eq_true] at h
      exact ⟨fun r hr d hd => listB_iff (listB_iff h.1 r hr) d hd, of_decide_eq_true h.2⟩
    · trivial
  | _ => exact trivial
end Go.Proofs.Ytkjibmfggeibjaa
/- Functions over abstract data, run by the kernel: single operations. No program in sight. -/
namespace Go.Proofs.Ytkjibmfggeibjaa
open Go
set_option linter.unusedVariables false
set_option linter.unusedSimpArgs false

end Go.Proofs.Ytkjibmfggeibjaa
/- Functions over abstract data, run by the kernel: code and functions. No program in sight. -/
namespace Go.Proofs.Ytkjibmfggeibjaa
open Go
set_option linter.unusedVariables false
set_option linter.unusedSimpArgs false

theorem frB_fr (l : List (Nat × D)) : frB false l = fr l := by
  funext t
  induction l with
  | nil => rfl
  | cons q l ih =>
    obtain ⟨k, d⟩ := q
    rw [frB_cons]
    simp only [putF, fr]
    split
    · rfl
    · exact ih
def lendK (ks : List Nm) (H : Hp) : D → D
  | .own i g o n => bif nmIn i ks then lend1 H (.own i g o n) else .own i g o n
  | d => d
def lendKd (ks : List Nm) (H : Hp) : D → D
  | .agg cs => .agg (cs.map (lendK ks H))
  | d => lendK ks H d
def okK (ks : List Nm) (H : Hp) : D → Bool
  | .own i g o n => bif nmIn i ks then lendOk1B H (.own i g o n) else true
  | _ => true
def okKd (ks : List Nm) (H : Hp) : D → Bool
  | .agg cs => listB (okK ks H) cs
  | d => okK ks H d
def frzRows (ks : List Nm) (H : Hp) (e : En) : En := ⟨e.g, e.sz, e.rows.map fun r => r.map (lendK ks H)⟩
def frzF (ks : List Nm) (H : Hp) : List (Nat × D) → List (Nat × D)
  | [] => []
  | (t, d) :: l => (t, lendKd ks H d) :: frzF ks H l
def frzH (ks : List Nm) (H : Hp) : List (Nm × En) → List (Nm × En)
  | [] => []
  | (i, e) :: l => (i, frzRows ks H e) :: frzH ks H l
/-- Slices in the cells of slices become plain data. -/
def freeze (ks : List Nm) (s : SL) : SL :=
  bif listB (fun q => okKd ks (hp s.H) q.2) s.F && listB (fun q => listB (fun r => listB (okK ks (hp s.H)) r) q.2.rows) s.H then
    ⟨s.b, frzF ks (hp s.H) s.F, frzH ks (hp s.H) (killsL s.H ks)⟩
  else s
theorem frzF_at (b : Bool) (ks : List Nm) (H : Hp) (t : Nat) : ∀ l : List (Nat × D), lookF b t (frzF ks H l) = lendKd ks H (lookF b t l)
  | [] => by cases b <;> rfl
  | (k, d) :: l => by
    simp only [frzF, lookF]
    cases Nat.beq t k with
    | true => rfl
    | false => exact frzF_at b ks H t l
theorem frzH_at (ks : List Nm) (H : Hp) (i : Nm) : ∀ l : List (Nm × En), lookH i (frzH ks H l) = (lookH i l).map (frzRows ks H)
  | [] => rfl
  | (k, d) :: l => by
    simp only [frzH, lookH]
    cases nmEq i k with
    | true => rfl
    | false => exact frzH_at ks H i l
theorem lookF_mem {b : Bool} {t : Nat} : ∀ {l : List (Nat × D)}, (∃ q ∈ l, q.2 = lookF b t l) ∨ lookF b t l = .v undef ∨ lookF b t l = .any
  | [] => by cases b <;> simp [lookF]
  | (k, d) :: l => by
    simp only [lookF]
    cases Nat.beq t k with
    | true => exact .inl ⟨_, List.mem_cons_self .., rfl⟩
    | false =>
      rcases @lookF_mem b t l with ⟨q, h1, h2⟩ | h
      · exact .inl ⟨q, List.mem_cons_of_mem _ h1, h2⟩
      · exact .inr h
theorem lookH_mem {i : Nm} {e : En} : ∀ {l : List (Nm × En)}, lookH i l = some e → ∃ q ∈ l, q.2 = e
  | (k, d) :: l, h => by
    simp only [lookH] at h
    cases hk : nmEq i k with
    | true => rw [hk] at h; cases h; exact ⟨_, List.mem_cons_self .., rfl⟩
    | false =>
      rw [hk] at h
      obtain ⟨q, h1, h2⟩ := lookH_mem h
      exact ⟨q, List.mem_cons_of_mem _ h1, h2⟩
theorem kill_other {H : Hp} {i j : Nm} (h : j ≠ i) : H.kill i j = H j := by
  unfold Hp.kill
  cases H i with
  | some e => exact Hp.put_other _ h _
  | none => rfl
theorem kill_rows {H : Hp} {i j : Nm} {e : En} (h : H.kill i j = some e) (hn : e.rows ≠ []) : H j = some e ∧ j ≠ i := by
  by_cases hj : j = i
  · subst hj
    cases hi : H j with
    | some e0 =>
      simp only [Hp.kill, hi, Hp.put_same, Option.some.injEq] at h
      rw [← h] at hn
      exact absurd rfl hn
    | none =>
      simp only [Hp.kill, hi] at h
      cases h
  · rw [kill_other hj] at h
    exact ⟨h, hj⟩
theorem kills_rows {j : Nm} {e : En} : ∀ {ks : List Nm} {H : Hp}, H.kills ks j = some e → e.rows ≠ [] → H j = some e ∧ j ∉ ks
  | [], H, h, hn => ⟨h, by simp⟩
  | k :: ks, H, h, hn => by
    rw [Hp.kills] at h
    obtain ⟨h1, h2⟩ := kills_rows (ks := ks) h hn
    obtain ⟨h3, h4⟩ := kill_rows h1 hn
    exact ⟨h3, by simp [h4, h2]⟩
theorem lendK_rel {Im Im' : Nat → Prop} {p : Pl} {H H' : Hp} {h : Array Obj} (R : RelH Im p H h) (G : Grows Im p H h Im' p H' h) {d : D} {u : Value} (r : Rel Im p H h d u) {ks : List Nm} (ok : okK ks H d = true) (hk : ∀ i ∈ ks, ∀ e, H i = some e → e.rows ≠ [] → Im' (p i).1) : Rel Im' p H' h (lendK ks H d) u := by
  cases d with
  | own i g o n =>
    unfold lendK
    unfold okK at ok
    dsimp only at ok ⊢
    cases hi : nmIn i ks with
    | false => exact r.mono G
    | true =>
      rw [hi] at ok
      refine lend1_rel R G r (lendOk1B_ok ok) fun j hj => ?_
      unfold lendNm1 at hj
      dsimp only at hj
      split at hj
      · split at hj
        · rw [List.mem_singleton.1 hj]; exact hk i (nmIn_iff.1 hi)
        · cases hj
      · cases hj
  | _ => exact r.mono G
theorem lendKd_rel {Im Im' : Nat → Prop} {p : Pl} {H H' : Hp} {h : Array Obj} (R : RelH Im p H h) (G : Grows Im p H h Im' p H' h) {d : D} {u : Value} (r : Rel Im p H h d u) {ks : List Nm} (ok : okKd ks H d = true) (hk : ∀ i ∈ ks, ∀ e, H i = some e → e.rows ≠ [] → Im' (p i).1) : Rel Im' p H' h (lendKd ks H d) u := by
  cases d with
  | agg cs =>
    obtain ⟨us, rfl, RL⟩ := RelL.of_agg r
    have : RelL Im' p H' h (cs.map (lendK ks H)) us.toList := by
      refine ⟨by rw [List.length_map, RL.len], fun j d u hd hu => ?_⟩
      rw [List.getElem?_map] at hd
      cases hc : cs[j]? with
      | none => rw [hc] at hd; cases hd
      | some c =>
        rw [hc] at hd
        cases hd
        obtain ⟨k1, k2⟩ := RL.cell j c u hc hu
        exact ⟨lendK_rel R G k1 (listB_iff ok c (List.mem_of_getElem? hc)) hk, k2⟩
    have k := this.rel
    simp only [Array.toArray_toList] at k
    exact k
  | v => exact lendK_rel R G r ok hk
  | any => exact lendK_rel R G r ok hk
  | tup => exact lendK_rel R G r ok hk
  | sl => exact lendK_rel R G r ok hk
  | ip => exact lendK_rel R G r ok hk
  | mt => exact lendK_rel R G r ok hk
  | own => exact lendK_rel R G r ok hk
  | ptr => exact lendK_rel R G r ok hk
  | clo => exact lendK_rel R G r ok hk
theorem freeze_weak (J ks : List Nm) (s : SL) : Weak J s.st (freeze ks s).st := by
  unfold freeze
  cases hc : listB (fun q => okKd ks (hp s.H) q.2) s.F && listB (fun q => listB (fun r => listB (okK ks (hp s.H)) r) q.2.rows) s.H with
  | false => exact Weak.refl _ _
  | true =>
    rw [Bool.and_eq_true] at hc
    obtain ⟨c1, c2⟩ := hc
    intro E hE Im p a w hR
    have hRp : RelH Im p (hp s.H) w.heap := hR.hp
    obtain ⟨Im', g1, r1, x1, b1⟩ := kills_spec (E := E) (w := w) ks Im (hp s.H) hRp hR.en
    have e2 : ∀ i, hp (frzH ks (hp s.H) (killsL s.H ks)) i = (((hp s.H).kills ks) i).map (frzRows ks (hp s.H)) := fun i => by
      rw [← killsL_eq]
      exact frzH_at ks (hp s.H) i _
    have g2 : Grows Im' p ((hp s.H).kills ks) w.heap Im' p (hp (frzH ks (hp s.H) (killsL s.H ks))) w.heap := by
      refine ⟨fun _ h => h, fun _ _ => rfl, fun i e hi => ⟨frzRows ks (hp s.H) e, by rw [e2, hi]; rfl, Nat.le_refl _, fun _ => ⟨rfl, rfl, fun hn => ⟨?_, fun c t hct => ⟨c, hct, rfl⟩⟩⟩⟩⟩
      intro k
      unfold frzRows at k
      exact hn (List.map_eq_nil_iff.1 k)
    have back : ∀ i e, hp (frzH ks (hp s.H) (killsL s.H ks)) i = some e → e.rows ≠ [] → ∃ e0, hp s.H i = some e0 ∧ e0.rows ≠ [] ∧ e = frzRows ks (hp s.H) e0 ∧ i ∉ ks ∧ ((hp s.H).kills ks) i = some e0 := fun i e hi hn => by
      rw [e2] at hi
      cases hk : ((hp s.H).kills ks) i with
      | none => rw [hk] at hi; cases hi
      | some e0 =>
        rw [hk] at hi
        cases hi
        have hn0 : e0.rows ≠ [] := fun k => hn (by unfold frzRows; rw [k]; rfl)
        obtain ⟨q1, q2⟩ := kills_rows hk hn0
        exact ⟨e0, q1, hn0, rfl, q2, rfl⟩
    refine ⟨Im', p, hR.sz, fun t => ?_, ⟨fun i e hi hn => ?_, fun i j e e' hi hj hn hn' hij => ?_, r1.im⟩, ⟨x1.os, x1.tape, x1.output, x1.size, x1.block, x1.im, x1.im', fun i e hi hn => ?_⟩, (hR.gr.trans g1).trans g2, hR.df⟩
    · have hf : okKd ks (hp s.H) (lookF s.b t s.F) = true := by
        rcases @lookF_mem s.b t s.F with ⟨q, h1, h2⟩ | h | h
        · rw [← h2]; exact listB_iff c1 q h1
        · rw [h]; rfl
        · rw [h]; rfl
      have := lendKd_rel hRp (g1.trans g2) (hR.fr t) hf b1
      show Rel Im' p _ w.heap (lookF s.b t (frzF ks (hp s.H) s.F)) _
      rw [frzF_at]
      exact this
    · obtain ⟨e0, q1, q2, rfl, q4, _⟩ := back i e hi hn
      obtain ⟨c, t, k1, k2, k3⟩ := hRp.cell i e0 q1 q2
      have hk1 := r1.cell i e0 (by assumption) q2
      obtain ⟨c', t', k1', k2', k3'⟩ := hk1
      refine ⟨c, t, k1, k2', fun r hr => ?_, ?_, fun r j row d hr hd => ?_⟩
      · obtain ⟨r0, hr0, rfl⟩ := List.mem_map.1 hr
        rw [List.length_map]
        exact k3.len r0 hr0
      · have := k3.le
        show (p i).2 + (e0.rows.map _).length * e0.sz ≤ c.size
        rw [List.length_map]
        exact this
      · have hr' : (e0.rows.map fun r => r.map (lendK ks (hp s.H)))[r]? = some row := hr
        rw [List.getElem?_map] at hr'
        cases h0 : e0.rows[r]? with
        | none => rw [h0] at hr'; cases hr'
        | some r0 =>
          rw [h0] at hr'
          cases hr'
          rw [List.getElem?_map] at hd
          cases h1 : r0[j]? with
          | none => rw [h1] at hd; cases hd
          | some d0 =>
            rw [h1] at hd
            cases hd
            obtain ⟨u, u1, u2, u3⟩ := k3.cell r j r0 d0 h0 h1
            obtain ⟨q, m1, m2⟩ := lookH_mem q1
            have ok0 := listB_iff (listB_iff (listB_iff c2 q m1) r0 (by rw [m2]; exact List.mem_of_getElem? h0)) d0 (List.mem_of_getElem? h1)
            exact ⟨u, u1, lendK_rel hRp (g1.trans g2) u2 ok0 b1, u3⟩
    · obtain ⟨e0, q1, q2, _, _, _⟩ := back i e hi hn
      obtain ⟨e0', q1', q2', _, _, _⟩ := back j e' hj hn'
      exact hRp.inj i j e0 e0' q1 q1' q2 q2' hij
    · obtain ⟨e0, q1, q2, _, _, q5⟩ := back i e hi hn
      exact x1.ids i e0 q5 q2
mutual
def D.owns : D → List Nm
  | .own i _ _ _ => [i]
  | .agg cs => ownsL cs
  | .tup cs => ownsL cs
  | .clo _ fs cs => ownsL fs ++ ownsL cs
  | _ => []
def ownsL : List D → List Nm
  | [] => []
  | d :: ds => d.owns ++ ownsL ds
end
end Go.Proofs.Ytkjibmfggeibjaa
/- Functions over abstract data, run by the kernel: a program's functions, compiled where they are called. No program in sight. -/
namespace Go.Proofs.Ytkjibmfggeibjaa
open Go
set_option linter.unusedVariables false
set_option linter.unusedSimpArgs false

end Go.Proofs.Ytkjibmfggeibjaa
