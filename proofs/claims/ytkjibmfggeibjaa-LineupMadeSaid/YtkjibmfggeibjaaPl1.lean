
/- Plans out of a source: plain laws. -/
import Derived.Test.YtkjibmfggeibjaaFl2
namespace Go.Proofs.Ytkjibmfggeibjaa
open Go
set_option linter.unusedVariables false
set_option linter.unusedSimpArgs false
set_option maxRecDepth 100000

theorem zip_at {α β : Type} : ∀ {l : List α} {m : List β} {x : α × β}, x ∈ l.zip m → ∃ k : Nat, l[k]? = some x.1 ∧ m[k]? = some x.2
  | [], m, x, h => by cases h
  | a :: l, [], x, h => by cases h
  | a :: l, b :: m, x, h => by
    rw [List.zip_cons_cons] at h
    rcases List.mem_cons.1 h with h | h
    · subst h; exact ⟨0, rfl, rfl⟩
    · obtain ⟨k, h1, h2⟩ := zip_at h
      exact ⟨k + 1, by simpa using h1, by simpa using h2⟩
theorem zip_of {α β : Type} : ∀ {l : List α} {m : List β} {k : Nat} {a : α} {b : β}, l[k]? = some a → m[k]? = some b → (a, b) ∈ l.zip m
  | [], m, k, a, b, h, _ => by simp at h
  | x :: l, [], k, a, b, _, h => by simp at h
  | x :: l, y :: m, 0, a, b, h1, h2 => by simp at h1 h2; subst h1; subst h2; exact List.mem_cons_self ..
  | x :: l, y :: m, k + 1, a, b, h1, h2 => List.mem_cons_of_mem _ (zip_of (by simpa using h1) (by simpa using h2))
theorem sum_set {α β γ : Type} (f : γ → Int) (g : α → β → γ) : ∀ (l : List α) (m : List β) (k : Nat) (a : α) (b y : β), l[k]? = some a → m[k]? = some b → sumI f (List.zipWith g l (m.set k y)) = sumI f (List.zipWith g l m) - f (g a b) + f (g a y)
  | [], m, k, a, b, y, h, _ => by simp at h
  | x :: l, [], k, a, b, y, _, h => by simp at h
  | x :: l, z :: m, 0, a, b, y, h1, h2 => by
    simp at h1 h2; subst h1; subst h2
    simp only [List.set_cons_zero, List.zipWith_cons_cons, sumI]
    omega
  | x :: l, z :: m, k + 1, a, b, y, h1, h2 => by
    have := sum_set f g l m k a b y (by simpa using h1) (by simpa using h2)
    simp only [List.set_cons_succ, List.zipWith_cons_cons, sumI]
    omega
theorem net_lin (v f t r d : Int) : netOf v (f, t, r + d) = netOf v (f, t, r) + netOf v (f, t, d) := by
  unfold netOf
  dsimp only
  split <;> split <;> omega
def minC (c : Int) : Int := if 1000 < c then 1000 else c
def RateIn (x : Seg × Int) : Prop := -(minC x.1.cap) ≤ x.2 ∧ x.2 ≤ minC x.1.cap
structure PR (n : Net) (R : List Int) : Prop where
  rl : R.length = n.segs.length
  rb : ∀ x ∈ n.segs.zip R, RateIn x
  up : ∀ x ∈ n.segs.zip R, UpOk x
def segD (n : Net) (rate : Int) (k : Nat) : Fl := match n.segs[k]? with
  | some s => (s.fr, s.to, if s.fr < s.to then rate else -rate)
  | none => (-1, -1, 0)
def bump (n : Net) (rate : Int) (R : List Int) (k : Nat) : List Int := R.set k (R.getD k 0 + (segD n rate k).2.2)
def absI (n : Int) : Int := if n < -n then -n else n
def Room (n : Net) (rate : Int) (R : List Int) (k : Nat) : Prop := ∃ s r, n.segs[k]? = some s ∧ R[k]? = some r ∧ s.fr ≠ s.to ∧ absI r + rate ≤ minC s.cap
theorem bump_one {n : Net} {rate : Int} {R : List Int} {k : Nat} (h : PR n R) (hr : Room n rate R k) (h1 : 1 ≤ rate) : PR n (bump n rate R k) ∧ (∀ v : Int, sumI (netOf v) (List.zipWith segFl n.segs (bump n rate R k)) = sumI (netOf v) (List.zipWith segFl n.segs R) + netOf v (segD n rate k)) ∧ ∀ j, j ≠ k → (bump n rate R k)[j]? = R[j]? := by
  obtain ⟨s, r, hs, hR, hne, hroom⟩ := hr
  have hd : segD n rate k = (s.fr, s.to, if s.fr < s.to then rate else -rate) := by unfold segD; rw [hs]
  have hg : R.getD k 0 = r := by rw [List.getD_eq_getElem?_getD, hR]; rfl
  have hb : bump n rate R k = R.set k (r + if s.fr < s.to then rate else -rate) := by unfold bump; rw [hg, hd]
  have hu := h.up (s, r) (zip_of hs hR)
  have hi := h.rb (s, r) (zip_of hs hR)
  unfold UpOk frOf toOf at hu
  unfold RateIn at hi
  dsimp only at hu hi
  rw [hb]
  have hother : ∀ j y, j ≠ k → (R.set k y)[j]? = R[j]? := fun j y hj => by rw [List.getElem?_set_ne (Ne.symm hj)]
  have mem : ∀ y x, x ∈ n.segs.zip (R.set k y) → x ∈ n.segs.zip R ∨ x = (s, y) := fun y x hx => by
    obtain ⟨j, j1, j2⟩ := zip_at hx
    by_cases e : j = k
    · subst e
      rw [hs] at j1
      rw [List.getElem?_set_self (by rcases Nat.lt_or_ge j R.length with h | h; exact h; rw [List.getElem?_eq_none h] at hR; cases hR)] at j2
      right
      obtain ⟨x1, x2⟩ := x
      cases j1; cases j2; rfl
    · rw [hother j y e] at j2
      exact .inl (zip_of j1 j2)
  refine ⟨⟨by rw [List.length_set]; exact h.rl, fun x hx => ?_, fun x hx => ?_⟩, fun v => ?_, fun j hj => hother j _ hj⟩
  · rcases mem _ x hx with hx | rfl
    · exact h.rb x hx
    · unfold RateIn
      dsimp only
      unfold absI at hroom
      split at hroom <;> split <;> omega
  · rcases mem _ x hx with hx | rfl
    · exact h.up x hx
    · unfold UpOk frOf toOf
      dsimp only
      intro hz
      by_cases h3 : s.fr < s.to
      · simp only [h3, if_true]
        have : 0 ≤ r := by
          rcases Int.lt_or_le r 0 with h4 | h4
          · have := hu (by omega); rw [if_pos h4, if_pos h4] at this; omega
          · exact h4
        rw [if_neg (by omega), if_neg (by omega)]
        exact h3
      · simp only [h3, if_false]
        have : r ≤ 0 := by
          rcases Int.lt_or_le 0 r with h4 | h4
          · have := hu (by omega); rw [if_neg (by omega), if_neg (by omega)] at this; omega
          · exact h4
        rw [if_pos (by omega), if_pos (by omega)]
        omega
  · rw [sum_set (netOf v) segFl n.segs R k s r _ hs hR, hd]
    unfold segFl
    rw [net_lin]
    omega
theorem bump_all {n : Net} {rate : Int} (h1 : 1 ≤ rate) : ∀ (W : List Nat) {R : List Int}, PR n R → W.Nodup → (∀ k ∈ W, Room n rate R k) → PR n (W.foldl (bump n rate) R) ∧ (∀ v : Int, sumI (netOf v) (List.zipWith segFl n.segs (W.foldl (bump n rate) R)) = sumI (netOf v) (List.zipWith segFl n.segs R) + sumI (fun k => netOf v (segD n rate k)) W)
  | [], R, h, _, _ => ⟨h, fun v => by simp [sumI]⟩
  | k :: W, R, h, hnd, hr => by
    obtain ⟨a, b, c⟩ := bump_one h (hr k (List.mem_cons_self ..)) h1
    have hnd := List.nodup_cons.1 hnd
    obtain ⟨d, e⟩ := bump_all h1 W a hnd.2 fun j hj => by
      obtain ⟨s, r, x1, x2, x3⟩ := hr j (List.mem_cons_of_mem _ hj)
      exact ⟨s, r, x1, by rw [c j fun e => hnd.1 (e ▸ hj)]; exact x2, x3⟩
    refine ⟨d, fun v => ?_⟩
    rw [List.foldl_cons, e v, b v, sumI]
    omega
structure Way (n : Net) (R : List Int) (rate at0 at' : Int) (W : List Nat) : Prop where
  room : ∀ k ∈ W, Room n rate R k
  low : ∀ k ∈ W, ∃ s, n.segs[k]? = some s ∧ (s.fr < at' ∨ s.to < at')  ∧ (s.fr < at' → s.to ≤ at') ∧ (s.to < at' → s.fr ≤ at')
  nd : W.Nodup
  net : ∀ v : Int, sumI (fun k => netOf v (segD n rate k)) W = (if at' = v then rate else 0) - (if at0 = v then rate else 0)
theorem Way.nil (n : Net) (R : List Int) (rate at0 : Int) : Way n R rate at0 at0 [] := ⟨fun k h => (by cases h), fun k h => (by cases h), List.nodup_nil, fun v => by rw [sumI]; omega⟩
theorem Way.add {n : Net} {R : List Int} {rate at0 at' : Int} {W : List Nat} (h : Way n R rate at0 at' W) {k : Nat} {s : Seg} {r : Int} (hs : n.segs[k]? = some s) (hR : R[k]? = some r) (he : s.fr = at' ∨ s.to = at') (hup : at' < s.fr + s.to - at') (hroom : absI r + rate ≤ minC s.cap) :
    Way n R rate at0 (s.fr + s.to - at') (W ++ [k]) := by
  have hk : k ∉ W := fun hk => by
    obtain ⟨s', h1, h2, h3, h4⟩ := h.low k hk
    rw [hs] at h1
    cases h1
    omega
  refine ⟨fun j hj => ?_, fun j hj => ?_, ?_, fun v => ?_⟩
  · rcases List.mem_append.1 hj with hj | hj
    · exact h.room j hj
    · rw [List.mem_singleton.1 hj]
      exact ⟨s, r, hs, hR, by omega, hroom⟩
  · rcases List.mem_append.1 hj with hj | hj
    · obtain ⟨s', h1, h2, h3, h4⟩ := h.low j hj
      exact ⟨s', h1, by omega, by omega, by omega⟩
    · rw [List.mem_singleton.1 hj]
      exact ⟨s, hs, by omega, by omega, by omega⟩
  · rw [List.nodup_append]
    exact ⟨h.nd, by simp, fun a ha b hb => by rw [List.mem_singleton.1 hb]; exact fun e => hk (e ▸ ha)⟩
  · rw [sumI_snoc, h.net v]
    unfold segD
    rw [hs]
    unfold netOf
    dsimp only
    have neg : ∀ (c : Prop) [Decidable c], (if c then -rate else 0) = -(if c then rate else 0) := fun c _ => by split <;> omega
    rcases he with he | he
    · subst he
      rw [if_pos (by omega : s.fr < s.to), show s.fr + s.to - s.fr = s.to by omega]
      omega
    · subst he
      rw [if_neg (by omega : ¬ s.fr < s.to), show s.fr + s.to - s.to = s.fr by omega, neg, neg]
      omega
structure PG (n : Net) (R Q : List Int) : Prop where
  pr : PR n R
  ql : Q.length = n.ports.length
  qb : ∀ r ∈ Q, -1000 ≤ r ∧ r ≤ 1000
  bal : ∀ v : Nat, sumI (netOf (v : Int)) (flowsOf n ⟨R, Q, []⟩) = 0
theorem pg_step {n : Net} {R Q : List Int} {rate at0 at' : Int} {W : List Nat} {a e : Nat} {x y : Port} {qa qe : Int} (h : PG n R Q) (hw : Way n R rate at0 at' W) (h1 : 1 ≤ rate) (ha : n.ports[a]? = some x) (he : n.ports[e]? = some y) (hne : a ≠ e) (hx : x.node = at0) (hy : y.node = at')
    (hqa : Q[a]? = some qa) (hqe : Q[e]? = some qe) (h2 : 0 ≤ qa) (h3 : qa + rate ≤ 1000) (h4 : qe ≤ 0) (h5 : -1000 ≤ qe - rate) : PG n (W.foldl (bump n rate) R) ((Q.set a (qa + rate)).set e (qe - rate)) := by
  obtain ⟨b1, b2⟩ := bump_all h1 W h.pr hw.nd hw.room
  refine ⟨b1, by rw [List.length_set, List.length_set]; exact h.ql, fun r hr => ?_, fun v => ?_⟩
  · rcases List.mem_or_eq_of_mem_set hr with hr | rfl
    · rcases List.mem_or_eq_of_mem_set hr with hr | rfl
      · exact h.qb r hr
      · omega
    · omega
  · have hb := h.bal v
    unfold flowsOf at hb ⊢
    rw [sumI_app] at hb ⊢
    dsimp only at hb ⊢
    have hqe' : (Q.set a (qa + rate))[e]? = some qe := by rw [List.getElem?_set_ne hne]; exact hqe
    rw [b2, sum_set (netOf v) portFl n.ports _ e y qe _ he hqe', sum_set (netOf v) portFl n.ports Q a x qa _ ha hqa, hw.net]
    have pf : ∀ (x : Port) (r : Int), portFl x r = (-1, x.node, r) := fun _ _ => rfl
    simp only [pf, hx, hy]
    rw [show qe - rate = qe + -rate by omega, net_lin, net_lin]
    unfold netOf at *
    dsimp only at *
    have : ¬ ((-1 : Int) = (v : Int)) := by omega
    simp only [this, if_false]
    have neg : ∀ (c : Prop) [Decidable c], (if c then -rate else 0) = -(if c then rate else 0) := fun c _ => by split <;> omega
    rw [neg]
    omega
/-- What a plan is that a source yields. -/
structure PlanOk (n : Net) (p : Pln) : Prop where
  rl : p.rates.length = n.segs.length
  ql : p.ports.length = n.ports.length
  ul : p.pumps.length = n.sts.length
  rb : ∀ x ∈ n.segs.zip p.rates, RateIn x
  qb : ∀ r ∈ p.ports, -1000 ≤ r ∧ r ≤ 1000
  bal : ∀ v : Nat, sumI (netOf (v : Int)) (flowsOf n p) = 0
  mono : (∀ x ∈ n.segs.zip p.rates, UpOk x) ∨ ∀ x ∈ n.segs.zip p.rates, DownOk x
theorem PG.ok {n : Net} {R Q : List Int} (h : PG n R Q) {U : List Bool} (hu : U.length = n.sts.length) : PlanOk n ⟨R, Q, U⟩ := ⟨h.pr.rl, h.ql, hu, h.pr.rb, h.qb, h.bal, .inl h.pr.up⟩
def negP (p : Pln) : Pln := ⟨p.rates.map (- ·), p.ports.map (- ·), p.pumps⟩
theorem sum_neg {α : Type} (v : Int) (g : α → Int → Fl) (hg : ∀ a r, netOf v (g a (-r)) = - netOf v (g a r)) : ∀ (l : List α) (m : List Int), sumI (netOf v) (List.zipWith g l (m.map (- ·))) = - sumI (netOf v) (List.zipWith g l m)
  | [], m => by simp [sumI]
  | a :: l, [] => by simp [sumI]
  | a :: l, r :: m => by
    have := sum_neg v g hg l m
    have := hg a r
    simp only [List.map_cons, List.zipWith_cons_cons, sumI]
    omega
theorem PlanOk.neg {n : Net} {p : Pln} (h : PlanOk n p) : PlanOk n (negP p) := by
  have mem : ∀ x, x ∈ n.segs.zip (p.rates.map (- ·)) → (x.1, -x.2) ∈ n.segs.zip p.rates := fun x hx => by
    obtain ⟨k, h1, h2⟩ := zip_at hx
    rw [List.getElem?_map] at h2
    cases e : p.rates[k]? with
    | none => rw [e] at h2; cases h2
    | some r =>
      rw [e] at h2
      have : x.2 = -r := by simp at h2; omega
      rw [this, Int.neg_neg]
      exact zip_of h1 e
  have tu : ∀ x, UpOk (x.1, -x.2) → DownOk x := fun x hx hz => by
    have := hx (by dsimp only; omega)
    unfold frOf toOf at this ⊢
    dsimp only at this
    split at this <;> split <;> omega
  have td : ∀ x, DownOk (x.1, -x.2) → UpOk x := fun x hx hz => by
    have := hx (by dsimp only; omega)
    unfold frOf toOf at this ⊢
    dsimp only at this
    split at this <;> split <;> omega
  refine ⟨by simp [negP]; exact h.rl, by simp [negP]; exact h.ql, h.ul, fun x hx => ?_, fun r hr => ?_, fun v => ?_, ?_⟩
  · have := h.rb _ (mem x hx)
    unfold RateIn at this ⊢
    dsimp only at this
    omega
  · obtain ⟨q, hq, rfl⟩ := List.mem_map.1 hr
    have := h.qb q hq
    omega
  · have := h.bal v
    unfold flowsOf at this ⊢
    rw [sumI_app] at this ⊢
    dsimp only [negP]
    rw [sum_neg v segFl (fun a r => by unfold segFl netOf; dsimp only; split <;> split <;> omega), sum_neg v portFl (fun a r => by unfold portFl netOf; dsimp only; split <;> split <;> omega)]
    omega
  · rcases h.mono with hm | hm
    · exact .inr fun x hx => tu x (hm _ (mem x hx))
    · exact .inl fun x hx => td x (hm _ (mem x hx))
end Go.Proofs.Ytkjibmfggeibjaa
