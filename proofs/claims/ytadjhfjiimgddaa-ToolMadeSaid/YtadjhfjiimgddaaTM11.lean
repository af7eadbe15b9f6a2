/- ToolMade: Pl1 CodePL Pl2. -/
import Derived.Test.YtadjhfjiimgddaaTM8
import Derived.Test.YtadjhfjiimgddaaTM3
import Derived.Test.YtadjhfjiimgddaaProg
import Derived.Test.YtadjhfjiimgddaaTM10
import Derived.Test.YtadjhfjiimgddaaTM7
set_option linter.unusedSimpArgs false
set_option linter.unusedVariables false
set_option maxRecDepth 100000

/- Plans out of a source: plain laws. -/
namespace Go.Proofs.Ytadjhfjiimgddaa
open Go
theorem zip_at {α β : Type} : ∀ {l : List α} {m : List β} {x : α × β}, x ∈ l.zip m → ∃ k : Nat, l[k]? = some x.1 ∧ m[k]? = some x.2
  | [], m, x, h => by cases h
  | a :: l, [], x, h => by cases h
  | a :: l, b :: m, x, h => by
    rw [List.zip_cons_cons] at h
    rcases List.mem_cons.1 h with h | h
    · subst h; exact ⟨0, rfl, rfl⟩
    · obtain ⟨k, h1, h2⟩ := zip_at h
      exact ⟨k + 1, by simpa using h1, by simpa using h2⟩
theorem zip_of {α β : Type} : ∀ {l : List α} {m : List β} {k : Nat} {a : α} {b : β}, l[k]? = some a → m[k]? = some b → (a, b) ∈ l.zip m
  | [], m, k, a, b, h, _ => by simp at h
  | x :: l, [], k, a, b, _, h => by simp at h
  | x :: l, y :: m, 0, a, b, h1, h2 => by simp at h1 h2; subst h1; subst h2; exact List.mem_cons_self ..
  | x :: l, y :: m, k + 1, a, b, h1, h2 => List.mem_cons_of_mem _ (zip_of (by simpa using h1) (by simpa using h2))
theorem sum_set {α β γ : Type} (f : γ → Int) (g : α → β → γ) : ∀ (l : List α) (m : List β) (k : Nat) (a : α) (b y : β), l[k]? = some a → m[k]? = some b → sumI f (List.zipWith g l (m.set k y)) = sumI f (List.zipWith g l m) - f (g a b) + f (g a y)
  | [], m, k, a, b, y, h, _ => by simp at h
  | x :: l, [], k, a, b, y, _, h => by simp at h
  | x :: l, z :: m, 0, a, b, y, h1, h2 => by
    simp at h1 h2; subst h1; subst h2
    simp only [List.set_cons_zero, List.zipWith_cons_cons, sumI]
    omega
  | x :: l, z :: m, k + 1, a, b, y, h1, h2 => by
    have := sum_set f g l m k a b y (by simpa using h1) (by simpa using h2)
    simp only [List.set_cons_succ, List.zipWith_cons_cons, sumI]
    omega
theorem net_lin (v f t r d : Int) : netOf v (f, t, r + d) = netOf v (f, t, r) + netOf v (f, t, d) := by
  unfold netOf
  dsimp only
  split <;> split <;> omega
def minC (c : Int) : Int := if 1000 < c then 1000 else c
def RateIn (x : Seg × Int) : Prop := -(minC x.1.cap) ≤ x.2 ∧ x.2 ≤ minC x.1.cap
structure PR (n : Net) (R : List Int) : Prop where
  rl : R.length = n.segs.length
  rb : ∀ x ∈ n.segs.zip R, RateIn x
  up : ∀ x ∈ n.segs.zip R, UpOk x
def segD (n : Net) (rate : Int) (k : Nat) : Fl := match n.segs[k]? with
  | some s => (s.fr, s.to, if s.fr < s.to then rate else -rate)
  | none => (-1, -1, 0)
def bump (n : Net) (rate : Int) (R : List Int) (k : Nat) : List Int := R.set k (R.getD k 0 + (segD n rate k).2.2)
def absI (n : Int) : Int := if n < -n then -n else n
def Room (n : Net) (rate : Int) (R : List Int) (k : Nat) : Prop := ∃ s r, n.segs[k]? = some s ∧ R[k]? = some r ∧ s.fr ≠ s.to ∧ absI r + rate ≤ minC s.cap
theorem bump_one {n : Net} {rate : Int} {R : List Int} {k : Nat} (h : PR n R) (hr : Room n rate R k) (h1 : 1 ≤ rate) : PR n (bump n rate R k) ∧ (∀ v : Int, sumI (netOf v) (List.zipWith segFl n.segs (bump n rate R k)) = sumI (netOf v) (List.zipWith segFl n.segs R) + netOf v (segD n rate k)) ∧ ∀ j, j ≠ k → (bump n rate R k)[j]? = R[j]? := by
  obtain ⟨s, r, hs, hR, hne, hroom⟩ := hr
  have hd : segD n rate k = (s.fr, s.to, if s.fr < s.to then rate else -rate) := by unfold segD; rw [hs]
  have hg : R.getD k 0 = r := by rw [List.getD_eq_getElem?_getD, hR]; rfl
  have hb : bump n rate R k = R.set k (r + if s.fr < s.to then rate else -rate) := by unfold bump; rw [hg, hd]
  have hu := h.up (s, r) (zip_of hs hR)
  have hi := h.rb (s, r) (zip_of hs hR)
  unfold UpOk frOf toOf at hu
  unfold RateIn at hi
  dsimp only at hu hi
  rw [hb]
  have hother : ∀ j y, j ≠ k → (R.set k y)[j]? = R[j]? := fun j y hj => by rw [List.getElem?_set_ne (Ne.symm hj)]
  have mem : ∀ y x, x ∈ n.segs.zip (R.set k y) → x ∈ n.segs.zip R ∨ x = (s, y) := fun y x hx => by
    obtain ⟨j, j1, j2⟩ := zip_at hx
    by_cases e : j = k
    · subst e
      rw [hs] at j1
      rw [List.getElem?_set_self (by rcases Nat.lt_or_ge j R.length with h | h; exact h; rw [List.getElem?_eq_none h] at hR; cases hR)] at j2
      right
      obtain ⟨x1, x2⟩ := x
      cases j1; cases j2; rfl
    · rw [hother j y e] at j2
      exact .inl (zip_of j1 j2)
  refine ⟨⟨by rw [List.length_set]; exact h.rl, fun x hx => ?_, fun x hx => ?_⟩, fun v => ?_, fun j hj => hother j _ hj⟩
  · rcases mem _ x hx with hx | rfl
    · exact h.rb x hx
    · unfold RateIn
      dsimp only
      unfold absI at hroom
      split at hroom <;> split <;> omega
  · rcases mem _ x hx with hx | rfl
    · exact h.up x hx
    · unfold UpOk frOf toOf
      dsimp only
      intro hz
      by_cases h3 : s.fr < s.to
      · simp only [h3, if_true]
        have : 0 ≤ r := by
          rcases Int.lt_or_le r 0 with h4 | h4
          · have := hu (by omega); rw [if_pos h4, if_pos h4] at this; omega
          · exact h4
        rw [if_neg (by omega), if_neg (by omega)]
        exact h3
      · simp only [h3, if_false]
        have : r ≤ 0 := by
          rcases Int.lt_or_le 0 r with h4 | h4
          · have := hu (by omega); rw [if_neg (by omega), if_neg (by omega)] at this; omega
          · exact h4
        rw [if_pos (by omega), if_pos (by omega)]
        omega
  · rw [sum_set (netOf v) segFl n.segs R k s r _ hs hR, hd]
    unfold segFl
    rw [net_lin]
    omega
theorem bump_all {n : Net} {rate : Int} (h1 : 1 ≤ rate) : ∀ (W : List Nat) {R : List Int}, PR n R → W.Nodup → (∀ k ∈ W, Room n rate R k) → PR n (W.foldl (bump n rate) R) ∧ (∀ v : Int, sumI (netOf v) (List.zipWith segFl n.segs (W.foldl (bump n rate) R)) = sumI (netOf v) (List.zipWith segFl n.segs R) + sumI (fun k => netOf v (segD n rate k)) W)
  | [], R, h, _, _ => ⟨h, fun v => by simp [sumI]⟩
  | k :: W, R, h, hnd, hr => by
    obtain ⟨a, b, c⟩ := bump_one h (hr k (List.mem_cons_self ..)) h1
    have hnd := List.nodup_cons.1 hnd
    obtain ⟨d, e⟩ := bump_all h1 W a hnd.2 fun j hj => by
      obtain ⟨s, r, x1, x2, x3⟩ := hr j (List.mem_cons_of_mem _ hj)
      exact ⟨s, r, x1, by rw [c j fun e => hnd.1 (e ▸ hj)]; exact x2, x3⟩
    refine ⟨d, fun v => ?_⟩
    rw [List.foldl_cons, e v, b v, sumI]
    omega
structure Way (n : Net) (R : List Int) (rate at0 at' : Int) (W : List Nat) : Prop where
  room : ∀ k ∈ W, Room n rate R k
  low : ∀ k ∈ W, ∃ s, n.segs[k]? = some s ∧ (s.fr < at' ∨ s.to < at')  ∧ (s.fr < at' → s.to ≤ at') ∧ (s.to < at' → s.fr ≤ at')
  nd : W.Nodup
  net : ∀ v : Int, sumI (fun k => netOf v (segD n rate k)) W = (if at' = v then rate else 0) - (if at0 = v then rate else 0)
theorem Way.nil (n : Net) (R : List Int) (rate at0 : Int) : Way n R rate at0 at0 [] := ⟨fun k h => (by cases h), fun k h => (by cases h), List.nodup_nil, fun v => by rw [sumI]; omega⟩
theorem Way.add {n : Net} {R : List Int} {rate at0 at' : Int} {W : List Nat} (h : Way n R rate at0 at' W) {k : Nat} {s : Seg} {r : Int} (hs : n.segs[k]? = some s) (hR : R[k]? = some r) (he : s.fr = at' ∨ s.to = at') (hup : at' < s.fr + s.to - at') (hroom : absI r + rate ≤ minC s.cap) :
    Way n R rate at0 (s.fr + s.to - at') (W ++ [k]) := by
  have hk : k ∉ W := fun hk => by
    obtain ⟨s', h1, h2, h3, h4⟩ := h.low k hk
    rw [hs] at h1
    cases h1
    omega
  refine ⟨fun j hj => ?_, fun j hj => ?_, ?_, fun v => ?_⟩
  · rcases List.mem_append.1 hj with hj | hj
    · exact h.room j hj
    · rw [List.mem_singleton.1 hj]
      exact ⟨s, r, hs, hR, by omega, hroom⟩
  · rcases List.mem_append.1 hj with hj | hj
    · obtain ⟨s', h1, h2, h3, h4⟩ := h.low j hj
      exact ⟨s', h1, by omega, by omega, by omega⟩
    · rw [List.mem_singleton.1 hj]
      exact ⟨s, hs, by omega, by omega, by omega⟩
  · rw [List.nodup_append]
    exact ⟨h.nd, by simp, fun a ha b hb => by rw [List.mem_singleton.1 hb]; exact fun e => hk (e ▸ ha)⟩
  · rw [sumI_snoc, h.net v]
    unfold segD
    rw [hs]
    unfold netOf
    dsimp only
    have neg : ∀ (c : Prop) [Decidable c], (if c then -rate else 0) = -(if c then rate else 0) := fun c _ => by split <;> omega
    rcases he with he | he
    · subst he
      rw [if_pos (by omega : s.fr < s.to), show s.fr + s.to - s.fr = s.to by omega]
      omega
    · subst he
      rw [if_neg (by omega : ¬ s.fr < s.to), show s.fr + s.to - s.to = s.fr by omega, neg, neg]
      omega
structure PG (n : Net) (R Q : List Int) : Prop where
  pr : PR n R
  ql : Q.length = n.ports.length
  qb : ∀ r ∈ Q, -1000 ≤ r ∧ r ≤ 1000
  bal : ∀ v : Nat, sumI (netOf (v : Int)) (flowsOf n ⟨R, Q, []⟩) = 0
theorem pg_step {n : Net} {R Q : List Int} {rate at0 at' : Int} {W : List Nat} {a e : Nat} {x y : Port} {qa qe : Int} (h : PG n R Q) (hw : Way n R rate at0 at' W) (h1 : 1 ≤ rate) (ha : n.ports[a]? = some x) (he : n.ports[e]? = some y) (hne : a ≠ e) (hx : x.node = at0) (hy : y.node = at')
    (hqa : Q[a]? = some qa) (hqe : Q[e]? = some qe) (h2 : 0 ≤ qa) (h3 : qa + rate ≤ 1000) (h4 : qe ≤ 0) (h5 : -1000 ≤ qe - rate) : PG n (W.foldl (bump n rate) R) ((Q.set a (qa + rate)).set e (qe - rate)) := by
  obtain ⟨b1, b2⟩ := bump_all h1 W h.pr hw.nd hw.room
  refine ⟨b1, by rw [List.length_set, List.length_set]; exact h.ql, fun r hr => ?_, fun v => ?_⟩
  · rcases List.mem_or_eq_of_mem_set hr with hr | rfl
    · rcases List.mem_or_eq_of_mem_set hr with hr | rfl
      · exact h.qb r hr
      · omega
    · omega
  · have hb := h.bal v
    unfold flowsOf at hb ⊢
    rw [sumI_app] at hb ⊢
    dsimp only at hb ⊢
    have hqe' : (Q.set a (qa + rate))[e]? = some qe := by rw [List.getElem?_set_ne hne]; exact hqe
    rw [b2, sum_set (netOf v) portFl n.ports _ e y qe _ he hqe', sum_set (netOf v) portFl n.ports Q a x qa _ ha hqa, hw.net]
    have pf : ∀ (x : Port) (r : Int), portFl x r = (-1, x.node, r) := fun _ _ => rfl
    simp only [pf, hx, hy]
    rw [show qe - rate = qe + -rate by omega, net_lin, net_lin]
    unfold netOf at *
    dsimp only at *
    have : ¬ ((-1 : Int) = (v : Int)) := by omega
    simp only [this, if_false]
    have neg : ∀ (c : Prop) [Decidable c], (if c then -rate else 0) = -(if c then rate else 0) := fun c _ => by split <;> omega
    rw [neg]
    omega
structure PlanOk (n : Net) (p : Pln) : Prop where
  rl : p.rates.length = n.segs.length
  ql : p.ports.length = n.ports.length
  ul : p.pumps.length = n.sts.length
  rb : ∀ x ∈ n.segs.zip p.rates, RateIn x
  qb : ∀ r ∈ p.ports, -1000 ≤ r ∧ r ≤ 1000
  bal : ∀ v : Nat, sumI (netOf (v : Int)) (flowsOf n p) = 0
  mono : (∀ x ∈ n.segs.zip p.rates, UpOk x) ∨ ∀ x ∈ n.segs.zip p.rates, DownOk x
theorem PG.ok {n : Net} {R Q : List Int} (h : PG n R Q) {U : List Bool} (hu : U.length = n.sts.length) : PlanOk n ⟨R, Q, U⟩ := ⟨h.pr.rl, h.ql, hu, h.pr.rb, h.qb, h.bal, .inl h.pr.up⟩
def negP (p : Pln) : Pln := ⟨p.rates.map (- ·), p.ports.map (- ·), p.pumps⟩
theorem sum_neg {α : Type} (v : Int) (g : α → Int → Fl) (hg : ∀ a r, netOf v (g a (-r)) = - netOf v (g a r)) : ∀ (l : List α) (m : List Int), sumI (netOf v) (List.zipWith g l (m.map (- ·))) = - sumI (netOf v) (List.zipWith g l m)
  | [], m => by simp [sumI]
  | a :: l, [] => by simp [sumI]
  | a :: l, r :: m => by
    have := sum_neg v g hg l m
    have := hg a r
    simp only [List.map_cons, List.zipWith_cons_cons, sumI]
    omega
theorem PlanOk.neg {n : Net} {p : Pln} (h : PlanOk n p) : PlanOk n (negP p) := by
  have mem : ∀ x, x ∈ n.segs.zip (p.rates.map (- ·)) → (x.1, -x.2) ∈ n.segs.zip p.rates := fun x hx => by
    obtain ⟨k, h1, h2⟩ := zip_at hx
    rw [List.getElem?_map] at h2
    cases e : p.rates[k]? with
    | none => rw [e] at h2; cases h2
    | some r =>
      rw [e] at h2
      have : x.2 = -r := by simp at h2; omega
      rw [this, Int.neg_neg]
      exact zip_of h1 e
  have tu : ∀ x, UpOk (x.1, -x.2) → DownOk x := fun x hx hz => by
    have := hx (by dsimp only; omega)
    unfold frOf toOf at this ⊢
    dsimp only at this
    split at this <;> split <;> omega
  have td : ∀ x, DownOk (x.1, -x.2) → UpOk x := fun x hx hz => by
    have := hx (by dsimp only; omega)
    unfold frOf toOf at this ⊢
    dsimp only at this
    split at this <;> split <;> omega
  refine ⟨by simp [negP]; exact h.rl, by simp [negP]; exact h.ql, h.ul, fun x hx => ?_, fun r hr => ?_, fun v => ?_, ?_⟩
  · have := h.rb _ (mem x hx)
    unfold RateIn at this ⊢
    dsimp only at this
    omega
  · obtain ⟨q, hq, rfl⟩ := List.mem_map.1 hr
    have := h.qb q hq
    omega
  · have := h.bal v
    unfold flowsOf at this ⊢
    rw [sumI_app] at this ⊢
    dsimp only [negP]
    rw [sum_neg v segFl (fun a r => by unfold segFl netOf; dsimp only; split <;> split <;> omega), sum_neg v portFl (fun a r => by unfold portFl netOf; dsimp only; split <;> split <;> omega)]
    omega
  · rcases h.mono with hm | hm
    · exact .inr fun x hx => tu x (hm _ (mem x hx))
    · exact .inl fun x hx => td x (hm _ (mem x hx))
def c33_1 : C := (.seq (.block 1 (.ops true [oP 38 (.fa 2 (.t 5)), oA 39 (.ld 1 false (.t 38)) [0], oP 40 (.mv (.t 0)), oE 41 (.call 13 [(.t 40), (cI 2)]) [2], oA 42 (.bin .eql (.t 41) (cI 0)) [2, 3], oA 43 (.bsl 1 1 [(.v (.bool false))] [(0, (.t 42))]) [3, 2, 4], oA 44 (.app 1 1 (.t 39) (.t 43)) [4, 2, 0, 3, 5, 1], oA 45 (.fa 2 (.t 5)) [6, 5, 4, 3, 2, 1, 0], oT (.st 1 (.t 45) (.t 44)) [5, 4, 3, 2, 1, 0, 6, 7]]))
  (.ops false [oP 36 (.mv (.t 6)), oP 37 (.bin .add (.t 36) (cI 1)), oP 6 (.mv (.t 37))]))
def c33_2 : C := (.seq (.seq (.ops false [oP 31 (.mv (.t 6)), oP 32 (.fa 3 (.t 3)), oP 33 (.ld 1 false (.t 32)), oP 34 (.len (.t 33)), oP 35 (.bin .lss (.t 31) (.t 34))]) (.cond (.t 35) .skip (.exit 0))) c33_1)
def c33_3 : C := (.ops false [oP 135 (.bin .add (.t 92) (cI 1)), oP 92 (.mv (.t 135))])
def c33_4 : C := (.seq (.block 7 (.seq (.ops false [oP 94 (.mv (.t 92)), oP 95 (.iaS 3 (.t 90) (.t 92)), oP 96 (.ld 3 true (.t 95)), oP 15 (.new [(.v (.string ({ data := #[] }))), (.v (.int .i64 0)), (.v (.int .i64 0))]), oP 14 (.mv (.t 94)), oS (.st 3 (.t 15) (.t 96))]) (.seq (.ops false [oP 97 (.fa 1 (.t 15)), oP 98 (.ld 1 false (.t 97)), oP 99 (.mv (.t 10)), oP 100 (.bin .eql (.t 98) (.t 99)),
  oP 101 (.mv (.t 100)), oG 102 101 true (.mv (.t 14)), oG 103 101 true (.mv (.t 9)), oG 104 101 true (.bin .neq (.t 102) (.t 103)), oP 105 (.pick (.t 101) (.t 104) (cB false)), oP 106 (.mv (.t 105)), oG 107 106 true (.fa 1 (.t 5)), oG 108 106 true (.ld 1 false (.t 107)), oG 109 106 true (.mv (.t 14)), oG 110 106 true (.iaS 1 (.t 108) (.t 109)), oG 111 106 true (.ld 1 false (.t 110)),
  oG 112 106 true (.bin .leq (.t 111) (cI 0)), oP 113 (.pick (.t 106) (.t 112) (cB false)), oP 114 (.mv (.t 113)), oG 115 114 true (.fa 1 (.t 5)), oG 116 114 true (.ld 1 false (.t 115)), oG 117 114 true (.mv (.t 14)), oG 118 114 true (.iaS 1 (.t 116) (.t 117)), oG 119 114 true (.ld 1 false (.t 118)), oG 120 114 true (.mv (.t 11)), oG 121 114 true (.bin .sub (.t 119) (.t 120)),
  oG 122 114 true (.bin .geq (.t 121) (cI (-1000))), oP 123 (.pick (.t 114) (.t 122) (cB false)), oP 124 (.mv (.t 123)), oG 125 124 true (.mv (.t 12)), oG 126 124 true (.len (.t 125)), oG 127 124 true (.bin .gtr (.t 126) (cI 0)), oP 128 (.pick (.t 124) (.t 127) (cB false)), oP 129 (.mv (.t 128)), oG 130 129 true (.mv (.t 0)), oD 131 129 true (.call 13 [(.t 130), (cI 2)]) [],
  oG 132 129 true (.bin .eql (.t 131) (cI 0)), oP 133 (.pick (.t 129) (.t 132) (cB false))]) (.cond (.t 133) (.ops false [oP 134 (.mv (.t 14)), oP 13 (.mv (.t 134))]) .skip)))) c33_3)
def c33_5 : C := (.seq (.ops false [oP 93 (.bin .lss (.t 92) (.t 91))]) (.seq (.cond (.t 93) .skip (.exit 6)) c33_4))
def c33_6 : C := (.ops false [oP 185 (.bin .add (.t 141) (cI 1)), oP 141 (.mv (.t 185))])
def c33_7 : C := (.seq (.block 9 (.seq (.ops false [oP 143 (.mv (.t 141)), oP 144 (.iaS 7 (.t 139) (.t 141)), oP 145 (.ld 7 true (.t 144)), oP 18 (.new [(.v (.string ({ data := #[] }))), (.v (.int .i64 0)), (.v (.int .i64 0)), (.v (.int .i64 0)), (.v (.int .i64 0)), (.v (.int .i64 0)), .mt]), oP 17 (.mv (.t 143)), oS (.st 7 (.t 18) (.t 145))]) (.seq (.ops true [oP 146 (.fa 1 (.t 18)), oA 147 (.ld 1 false (.t 146))
  [0], oP 148 (.mv (.t 10)), oA 149 (.bin .eql (.t 147) (.t 148)) [0, 2, 1], oA 150 (.mv (.t 149)) [1, 2, 0, 3], oH 151 150 false (.fa 2 (.t 18)) [3, 0, 2, 1, 4], oH 152 150 false (.ld 1 false (.t 151)) [1, 2, 0, 3, 4, 5], oH 153 150 false (.mv (.t 10)) [3, 0, 2, 1, 4], oH 154 150 false (.bin .eql (.t 152) (.t 153)) [5, 3, 0, 2, 1, 4, 7, 6], oA 155 (.pick (.t 150) (cB true) (.t 154)) [6, 7, 5, 3, 0,
  2, 1, 8, 4], oA 156 (.mv (.t 155)) [8, 1, 2, 0, 3, 5, 7, 6, 4, 9], oH 157 156 true (.fa 1 (.t 18)) [9, 4, 6, 7, 5, 3, 0, 2, 1, 8, 10], oH 158 156 true (.ld 1 false (.t 157)) [8, 1, 2, 0, 3, 5, 7, 6, 4, 9, 10, 11], oH 159 156 true (.fa 2 (.t 18)) [9, 4, 6, 7, 5, 3, 0, 2, 1, 8, 10], oH 160 156 true (.ld 1 false (.t 159)) [8, 1, 2, 0, 3, 5, 7, 6, 4, 9, 10, 13], oH 161 156 true (.bin .add (.t 158)
  (.t 160)) [13, 11, 9, 4, 6, 7, 5, 3, 0, 2, 1, 8, 10, 14, 12], oH 162 156 true (.mv (.t 10)) [9, 4, 6, 7, 5, 3, 0, 2, 1, 8, 10], oH 163 156 true (.bin .sub (.t 161) (.t 162)) [12, 14, 8, 1, 2, 0, 3, 5, 7, 6, 4, 9, 11, 13, 10, 16, 15], oH 164 156 true (.mv (.t 10)) [9, 4, 6, 7, 5, 3, 0, 2, 1, 8, 10], oH 165 156 true (.bin .gtr (.t 163) (.t 164)) [15, 16, 13, 11, 9, 4, 6, 7, 5, 3, 0, 2, 1, 8, 14, 12,
  10, 18, 17], oA 166 (.pick (.t 156) (.t 165) (cB false)) [17, 18, 12, 14, 11, 13, 16, 15, 9, 4, 6, 7, 5, 3, 0, 2, 1, 8, 19, 10], oA 167 (.mv (.t 166)) [19, 8, 1, 2, 0, 3, 5, 7, 6, 4, 9, 15, 16, 13, 11, 14, 12, 18, 17, 10, 20], oH 168 167 true (.fa 0 (.t 5)) [20, 10, 17, 18, 12, 14, 11, 13, 16, 15, 9, 4, 6, 7, 5, 3, 0, 2, 1, 8, 19, 21], oH 169 167 true (.ld 1 false (.t 168)) [19, 8, 1, 2, 0, 3, 5,
  7, 6, 4, 9, 15, 16, 13, 11, 14, 12, 18, 17, 10, 20, 21, 22], oH 170 167 true (.mv (.t 17)) [20, 10, 17, 18, 12, 14, 11, 13, 16, 15, 9, 4, 6, 7, 5, 3, 0, 2, 1, 8, 19, 21], oH 171 167 true (.iaS 1 (.t 169) (.t 170)) [22, 20, 10, 17, 18, 12, 14, 11, 13, 16, 15, 9, 4, 6, 7, 5, 3, 0, 2, 1, 8, 19, 21, 24, 23], oH 172 167 true (.ld 1 false (.t 171)) [23, 24, 19, 8, 1, 2, 0, 3, 5, 7, 6, 4, 9, 15, 16, 13,
  11, 14, 12, 18, 17, 10, 20, 22, 21, 25], oD 173 167 true (.call 90 [(.t 172)]) [25, 22, 20, 10, 17, 18, 12, 14, 11, 13, 16, 15, 9, 4, 6, 7, 5, 3, 0, 2, 1, 8, 19, 24, 23, 21, 26], oH 174 167 true (.mv (.t 11)) [20, 10, 17, 18, 12, 14, 11, 13, 16, 15, 9, 4, 6, 7, 5, 3, 0, 2, 1, 8, 19, 21], oH 175 167 true (.bin .add (.t 173) (.t 174)) [26, 23, 24, 19, 8, 1, 2, 0, 3, 5, 7, 6, 4, 9, 15, 16, 13, 11,
  14, 12, 18, 17, 10, 20, 22, 25, 21, 28, 27], oH 176 167 true (.fa 3 (.t 18)) [20, 10, 17, 18, 12, 14, 11, 13, 16, 15, 9, 4, 6, 7, 5, 3, 0, 2, 1, 8, 19, 21], oH 177 167 true (.ld 1 false (.t 176)) [19, 8, 1, 2, 0, 3, 5, 7, 6, 4, 9, 15, 16, 13, 11, 14, 12, 18, 17, 10, 20, 21, 30], oH 178 167 true (.mnx false (cI 1000) (.t 177)) [30, 20, 10, 17, 18, 12, 14, 11, 13, 16, 15, 9, 4, 6, 7, 5, 3, 0, 2, 1,
  8, 19, 21, 31], oH 179 167 true (.bin .leq (.t 175) (.t 178)) [31, 30, 27, 28, 25, 22, 20, 10, 17, 18, 12, 14, 11, 13, 16, 15, 9, 4, 6, 7, 5, 3, 0, 2, 1, 8, 19, 24, 23, 26, 21, 32, 29], oA 180 (.pick (.t 167) (.t 179) (cB false)) [29, 32, 26, 23, 24, 22, 25, 28, 27, 30, 31, 20, 10, 17, 18, 12, 14, 11, 13, 16, 15, 9, 4, 6, 7, 5, 3, 0, 2, 1, 8, 19, 33, 21]]) (.cond (.t 180)
  (.ops false [oP 181 (.mv (.t 16)), oP 182 (.mv (.t 17)), oP 183 (.bsl 1 1 [(.v (.int .i64 0))] [(0, (.t 182))]), oP 184 (.app 1 8 (.t 181) (.t 183)), oP 16 (.mv (.t 184))]) .skip)))) c33_6)
def c33_8 : C := (.seq (.ops false [oP 142 (.bin .lss (.t 141) (.t 140))]) (.seq (.cond (.t 142) .skip (.exit 8)) c33_7))
def c33_9 : C := (.seq (.ops false [oP 189 (.mv (.t 16)), oP 190 (.mv (.t 0)), oP 191 (.mv (.t 16)), oP 192 (.len (.t 191)), oB 193 (.call 13 [(.t 190), (.t 192)]), oP 194 (.iaS 1 (.t 189) (.t 193)), oP 195 (.ld 1 false (.t 194)), oP 19 (.mv (.t 195))]) (.seq (.ops false [oP 196 (.mv (.t 12)), oP 197 (.mv (.t 19)), oP 198 (.bsl 1 1 [(.v (.int .i64 0))] [(0, (.t 197))]), oP 199 (.app 1 8 (.t 196) (.t 198)),
  oP 12 (.mv (.t 199))]) (.ops true [oP 200 (.fa 1 (.t 3)), oA 201 (.ld 1 false (.t 200)) [0], oP 202 (.mv (.t 19)), oA 203 (.iaS 7 (.t 201) (.t 202)) [0, 2, 1], oA 204 (.fa 1 (.t 203)) [1, 2, 0, 3], oA 205 (.ld 1 false (.t 204)) [3, 0, 2, 1, 4], oP 206 (.fa 1 (.t 3)), oA 207 (.ld 1 false (.t 206)) [6], oP 208 (.mv (.t 19)), oA 209 (.iaS 7 (.t 207) (.t 208)) [6, 8, 7], oA 210 (.fa 2 (.t 209)) [7, 8,
  6, 9], oA 211 (.ld 1 false (.t 210)) [9, 6, 8, 7, 10], oA 212 (.bin .add (.t 205) (.t 211)) [10, 7, 8, 6, 9, 4, 1, 2, 0, 3, 11, 5], oP 213 (.mv (.t 10)), oA 214 (.bin .sub (.t 212) (.t 213)) [5, 11, 3, 0, 2, 1, 4, 9, 6, 8, 7, 10, 13, 12], oA 10 (.mv (.t 214)) [13, 12, 11, 10, 9, 8, 7, 6, 5, 4, 3, 2, 1, 0, 14]])))
def c33_10 : C := (.seq (.seq (.ops false [oP 186 (.mv (.t 16)), oP 187 (.len (.t 186)), oP 188 (.bin .eql (.t 187) (cI 0))]) (.cond (.t 188) (.exit 4) .skip)) c33_9)
def c33_11 : C := (.seq (.ops false [oP 16 (.mv (.c .mt))]) (.seq (.seq (.ops false [oP 138 (.fa 1 (.t 3)), oP 139 (.ld 1 false (.t 138)), oP 140 (.len (.t 139)), oP 141 (.mv (cI 0))]) (.block 8 (.loop c33_8))) c33_10))
def c33_12 : C := (.seq (.seq (.ops false [oP 136 (.mv (.t 13)), oP 137 (.bin .geq (.t 136) (cI 0))]) (.cond (.t 137) (.exit 4) .skip)) c33_11)
def c33_13 : C := (.block 5 (.seq (.seq (.ops false [oP 89 (.fa 2 (.t 3)), oP 90 (.ld 1 false (.t 89)), oP 91 (.len (.t 90)), oP 92 (.mv (cI 0))]) (.block 6 (.loop c33_5))) c33_12))
def c33_14 : C := (.seq (.seq (.ops false [oP 87 (.mv (.t 13)), oP 88 (.bin .lss (.t 87) (cI 0))]) (.cond (.t 88) .skip (.exit 4))) c33_13)
def c33_15 : C := (.ops false [oP 274 (.bin .add (.t 241) (cI 1)), oP 241 (.mv (.t 274))])
def c33_16 : C := (.seq (.block 11 (.seq (.ops false [oP 243 (.iaS 1 (.t 239) (.t 241)), oP 244 (.ld 1 false (.t 243)), oP 21 (.mv (.t 244))]) (.seq (.ops true [oP 245 (.fa 1 (.t 3)), oA 246 (.ld 1 false (.t 245)) [0], oP 247 (.mv (.t 21)), oA 248 (.iaS 7 (.t 246) (.t 247)) [0, 2, 1], oA 249 (.fa 1 (.t 248)) [1, 2, 0, 3], oA 250 (.ld 1 false (.t 249)) [3, 0, 2, 1, 4], oP 251 (.fa 1 (.t 3)),
  oA 252 (.ld 1 false (.t 251)) [6], oP 253 (.mv (.t 21)), oA 254 (.iaS 7 (.t 252) (.t 253)) [6, 8, 7], oA 255 (.fa 2 (.t 254)) [7, 8, 6, 9], oA 256 (.ld 1 false (.t 255)) [9, 6, 8, 7, 10], oA 257 (.bin .lss (.t 250) (.t 256)) [10, 7, 8, 6, 9, 4, 1, 2, 0, 3, 11, 5]]) (.cond (.t 257) (.ops false [oP 258 (.fa 0 (.t 5)), oP 259 (.ld 1 false (.t 258)), oP 260 (.mv (.t 21)), oP 261 (.iaS 1 (.t 259)
  (.t 260)), oP 262 (.ld 1 false (.t 261)), oP 263 (.mv (.t 11)), oP 264 (.bin .add (.t 262) (.t 263)), oP 265 (.iaS 1 (.t 259) (.t 260)), oS (.st 1 (.t 265) (.t 264))]) (.ops false [oP 266 (.fa 0 (.t 5)), oP 267 (.ld 1 false (.t 266)), oP 268 (.mv (.t 21)), oP 269 (.iaS 1 (.t 267) (.t 268)), oP 270 (.ld 1 false (.t 269)), oP 271 (.mv (.t 11)), oP 272 (.bin .sub (.t 270) (.t 271)),
  oP 273 (.iaS 1 (.t 267) (.t 268)), oS (.st 1 (.t 273) (.t 272))]))))) c33_15)
def c33_17 : C := (.seq (.ops false [oP 242 (.bin .lss (.t 241) (.t 240))]) (.seq (.cond (.t 242) .skip (.exit 10)) c33_16))
def c33_18 : C := (.seq (.ops true [oP 217 (.fa 1 (.t 5)), oA 218 (.ld 1 false (.t 217)) [0], oP 219 (.mv (.t 9)), oP 220 (.fa 1 (.t 5)), oA 221 (.ld 1 false (.t 220)) [3], oP 222 (.mv (.t 13)), oP 223 (.fa 1 (.t 5)), oA 224 (.ld 1 false (.t 223)) [6], oP 225 (.mv (.t 9)), oA 226 (.iaS 1 (.t 224) (.t 225)) [6, 8, 7], oA 227 (.ld 1 false (.t 226)) [7, 8, 6, 9], oP 228 (.mv (.t 11)), oA 229 (.bin .add (.t 227)
  (.t 228)) [9, 6, 8, 7, 11, 10], oP 230 (.fa 1 (.t 5)), oA 231 (.ld 1 false (.t 230)) [13], oP 232 (.mv (.t 13)), oA 233 (.iaS 1 (.t 231) (.t 232)) [13, 15, 14], oA 234 (.ld 1 false (.t 233)) [14, 15, 13, 16], oP 235 (.mv (.t 11)), oA 236 (.bin .sub (.t 234) (.t 235)) [16, 13, 15, 14, 18, 17], oA 237 (.iaS 1 (.t 218) (.t 219)) [16, 13, 15, 14, 17, 12, 11, 10, 9, 8, 7, 6, 0, 2, 1],
  oT (.st 1 (.t 237) (.t 229)) [14, 15, 13, 16, 17, 11, 10, 9, 8, 7, 6, 2, 1, 0, 12, 20], oA 238 (.iaS 1 (.t 221) (.t 222)) [21, 20, 19, 18, 17, 16, 15, 14, 13, 12, 11, 10, 9, 8, 7, 6, 3, 2, 1, 0, 5, 4], oT (.st 1 (.t 238) (.t 236)) [20, 18, 17, 16, 15, 14, 13, 12, 11, 10, 9, 8, 7, 6, 5, 4, 3, 2, 1, 0, 21, 19, 22]]) (.seq (.ops false [oP 239 (.mv (.t 12)), oP 240 (.len (.t 239)),
  oP 241 (.mv (cI 0))]) (.block 10 (.loop c33_17))))
def c33_19 : C := (.seq (.seq (.ops false [oP 215 (.mv (.t 13)), oP 216 (.bin .lss (.t 215) (cI 0))]) (.cond (.t 216) (.exit 3) .skip)) c33_18)
def c33_20 : C := (.seq (.ops false [oP 12 (.mv (.c .mt))]) (.seq (.ops false [oP 13 (.mv (cI (-1)))]) (.seq (.block 4 (.loop c33_14)) c33_19)))
def c33_21 : C := (.ops false [oP 53 (.mv (.t 8)), oP 54 (.bin .sub (.t 53) (cI 1)), oP 8 (.mv (.t 54))])
def c33_22 : C := (.seq (.block 3 (.seq (.ops false [oP 55 (.mv (.t 0)), oP 56 (.fa 2 (.t 3)), oP 57 (.ld 1 false (.t 56)), oP 58 (.len (.t 57)), oB 59 (.call 13 [(.t 55), (.t 58)]), oP 9 (.mv (.t 59))]) (.seq (.ops true [oP 60 (.fa 2 (.t 3)), oA 61 (.ld 1 false (.t 60)) [0], oP 62 (.mv (.t 9)), oA 63 (.iaS 3 (.t 61) (.t 62)) [0, 2, 1], oA 64 (.fa 1 (.t 63)) [1, 2, 0, 3], oA 65 (.ld 1 false (.t 64)) [3, 0, 2, 1,
  4], oP 66 (.mv (.t 0)), oP 67 (.mv (.t 0)), oP 68 (.bsl 1 4 [(.v (.int .i64 0))] [(0, (cI 1)), (1, (cI 5)), (2, (cI 30)), (3, (cI 300))]), oE 69 (.call 66 [(.t 67), (.t 68)]) [8, 7], oE 70 (.call 25 [(.t 66), (cI 1), (.t 69)]) [7, 8, 9, 6], oA 10 (.mv (.t 65)) [6, 9, 8, 7, 4, 3, 2, 1, 0, 10, 5], oA 11 (.mv (.t 70)) [9, 8, 7, 6, 5, 4, 3, 2, 1, 0, 11, 10]])
  (.seq (.seq (.ops false [oP 71 (.fa 1 (.t 5)), oP 72 (.ld 1 false (.t 71)), oP 73 (.mv (.t 9)), oP 74 (.iaS 1 (.t 72) (.t 73)), oP 75 (.ld 1 false (.t 74)), oP 76 (.bin .lss (.t 75) (cI 0)), oP 77 (.mv (.t 76)), oG 78 77 false (.fa 1 (.t 5)), oG 79 77 false (.ld 1 false (.t 78)), oG 80 77 false (.mv (.t 9)), oG 81 77 false (.iaS 1 (.t 79) (.t 80)), oG 82 77 false (.ld 1 false (.t 81)),
  oG 83 77 false (.mv (.t 11)), oG 84 77 false (.bin .add (.t 82) (.t 83)), oG 85 77 false (.bin .gtr (.t 84) (cI 1000)), oP 86 (.pick (.t 77) (cB true) (.t 85))]) (.cond (.t 86) (.exit 3) .skip)) c33_20)))) c33_21)
def c33_23 : C := (.seq (.seq (.ops false [oP 51 (.mv (.t 8)), oP 52 (.bin .gtr (.t 51) (cI 0))]) (.cond (.t 52) .skip (.exit 2))) c33_22)
def c33_24 : C := (.seq (.ops false [oP 278 (.ld 3 true (.t 5)), oS (.st 3 (.t 4) (.t 278))]) .ret)
def c33_25 : C := (.seq (.seq (.ops false [oP 275 (.mv (.t 7))]) (.cond (.t 275) (.seq (.ops false [oP 276 (.ld 3 true (.t 5)), oP 277 (.call 91 [(.t 276)]), oS (.st 3 (.t 4) (.t 277))]) .ret) .skip)) c33_24)
def c33_26 : C := (.seq (.ops false [oP 46 (.mv (.t 0)), oB 47 (.call 13 [(.t 46), (cI 3)]), oP 48 (.bin .eql (.t 47) (cI 0)), oP 7 (.mv (.t 48))]) (.seq (.seq (.ops false [oP 49 (.mv (.t 0)), oB 50 (.call 13 [(.t 49), (cI 5)]), oP 8 (.mv (.t 50))]) (.block 2 (.loop c33_23))) c33_25))
def c33 : C := (.seq (.ops false [oP 3 (.box 6 (.t 1)), oP 4 (.new [.mt, .mt, .mt])]) (.seq (.ops true [oP 22 (.fa 1 (.t 3)), oA 23 (.ld 1 false (.t 22)) [0], oA 24 (.len (.t 23)) [0, 1], oA 25 (.mks 1 8 [(.v (.int .i64 0))] (.t 24)) [1, 0, 2], oP 26 (.fa 2 (.t 3)), oA 27 (.ld 1 false (.t 26)) [4], oA 28 (.len (.t 27)) [4, 5], oA 29 (.mks 1 8 [(.v (.int .i64 0))] (.t 28)) [5, 4, 6], oA 30 (.bld [.mt, .mt, .mt]
  [(0, (1, (.t 25))), (1, (1, (.t 29)))]) [6, 4, 5, 2, 0, 1, 7, 3], oP 5 (.new [.mt, .mt, .mt]), oT (.st 3 (.t 5) (.t 30)) [7, 6, 5, 4, 3, 2, 1, 0, 8, 9]]) (.seq (.seq (.ops false [oP 6 (.mv (cI 0))]) (.block 0 (.loop c33_2))) c33_26)))
def r33 : List RV := [(.cell 4 3 true)]
theorem c33_ok : ∃ code, Try.f33.body = some code ∧ compC Try.prog Try.f33.ntmps code = some (C.strip c33) := ⟨_, rfl, by kernel_rfl⟩
theorem r33_ok : compRes Try.prog Try.f33.results.toList = some r33 := by kernel_rfl
theorem f33_ok : fnOk Try.prog 33 = true := by kernel_rfl
def c90 : C := (.seq (.ops false [oP 2 (.mv (cI 0))]) (.seq (.ops false [oP 3 (.mv (.t 0)), oP 4 (.mv (.t 0)), oP 5 (.neg (.t 4)), oP 6 (.mnx true (.t 3) (.t 5)), oP 2 (.mv (.t 6))]) .ret))
def r90 : List RV := [(.tmp 2)]
theorem c90_ok : ∃ code, Try.f90.body = some code ∧ compC Try.prog Try.f90.ntmps code = some (C.strip c90) := ⟨_, rfl, by kernel_rfl⟩
theorem r90_ok : compRes Try.prog Try.f90.results.toList = some r90 := by kernel_rfl
theorem f90_ok : fnOk Try.prog 90 = true := by kernel_rfl
def c91_1 : C := (.seq (.block 1 (.seq (.ops false [oP 16 (.mv (.t 14)), oP 4 (.mv (.t 16))]) (.ops true [oP 17 (.fa 0 (.t 3)), oA 18 (.ld 1 false (.t 17)) [0], oP 19 (.fa 0 (.t 1)), oA 20 (.ld 1 false (.t 19)) [2], oP 21 (.mv (.t 4)), oA 22 (.iaS 1 (.t 20) (.t 21)) [2, 4, 3], oA 23 (.ld 1 false (.t 22)) [3, 4, 2, 5], oA 24 (.neg (.t 23)) [5, 2, 4, 3, 6], oA 25 (.bsl 1 1 [(.v (.int .i64 0))] [(0, (.t 24))]) [6, 3,
  4, 2, 5, 7], oA 26 (.app 1 8 (.t 18) (.t 25)) [7, 5, 2, 4, 3, 6, 0, 8, 1], oA 27 (.fa 0 (.t 3)) [9, 8, 7, 6, 5, 4, 3, 2, 1, 0], oT (.st 1 (.t 27) (.t 26)) [8, 7, 6, 5, 4, 3, 2, 1, 0, 9, 10]]))) (.ops false [oP 28 (.bin .add (.t 14) (cI 1)), oP 14 (.mv (.t 28))]))
def c91_2 : C := (.seq (.ops false [oP 15 (.bin .lss (.t 14) (.t 13))]) (.seq (.cond (.t 15) .skip (.exit 0)) c91_1))
def c91_3 : C := (.seq (.block 3 (.seq (.ops false [oP 34 (.mv (.t 32)), oP 5 (.mv (.t 34))]) (.ops true [oP 35 (.fa 1 (.t 3)), oA 36 (.ld 1 false (.t 35)) [0], oP 37 (.fa 1 (.t 1)), oA 38 (.ld 1 false (.t 37)) [2], oP 39 (.mv (.t 5)), oA 40 (.iaS 1 (.t 38) (.t 39)) [2, 4, 3], oA 41 (.ld 1 false (.t 40)) [3, 4, 2, 5], oA 42 (.neg (.t 41)) [5, 2, 4, 3, 6], oA 43 (.bsl 1 1 [(.v (.int .i64 0))] [(0, (.t 42))]) [6, 3,
  4, 2, 5, 7], oA 44 (.app 1 8 (.t 36) (.t 43)) [7, 5, 2, 4, 3, 6, 0, 8, 1], oA 45 (.fa 1 (.t 3)) [9, 8, 7, 6, 5, 4, 3, 2, 1, 0], oT (.st 1 (.t 45) (.t 44)) [8, 7, 6, 5, 4, 3, 2, 1, 0, 9, 10]]))) (.ops false [oP 46 (.bin .add (.t 32) (cI 1)), oP 32 (.mv (.t 46))]))
def c91_4 : C := (.seq (.ops false [oP 33 (.bin .lss (.t 32) (.t 31))]) (.seq (.cond (.t 33) .skip (.exit 2)) c91_3))
def c91_5 : C := (.seq (.ops false [oP 47 (.ld 3 true (.t 3)), oS (.st 3 (.t 2) (.t 47))]) .ret)
def c91_6 : C := (.seq (.seq (.ops false [oP 29 (.fa 1 (.t 1)), oP 30 (.ld 1 false (.t 29)), oP 31 (.len (.t 30)), oP 32 (.mv (cI 0))]) (.block 2 (.loop c91_4))) c91_5)
def c91 : C := (.seq (.ops false [oP 1 (.box 3 (.t 0)), oP 2 (.new [.mt, .mt, .mt])]) (.seq (.ops false [oP 6 (.bsl 1 0 [(.v (.bool false))] []), oP 7 (.fa 2 (.t 1)), oP 8 (.ld 1 false (.t 7)), oP 9 (.app 1 1 (.t 6) (.t 8)), oP 10 (.bld [.mt, .mt, .mt] [(2, (1, (.t 9)))]), oP 3 (.new [.mt, .mt, .mt]), oS (.st 3 (.t 3) (.t 10))]) (.seq (.seq (.ops false [oP 11 (.fa 0 (.t 1)), oP 12 (.ld 1 false (.t 11)),
  oP 13 (.len (.t 12)), oP 14 (.mv (cI 0))]) (.block 0 (.loop c91_2))) c91_6)))
def r91 : List RV := [(.cell 2 3 true)]
theorem c91_ok : ∃ code, Try.f91.body = some code ∧ compC Try.prog Try.f91.ntmps code = some (C.strip c91) := ⟨_, rfl, by kernel_rfl⟩
theorem r91_ok : compRes Try.prog Try.f91.results.toList = some r91 := by kernel_rfl
theorem f91_ok : fnOk Try.prog 91 = true := by kernel_rfl
set_option maxHeartbeats 1000000 in
theorem kabs_c (x : Int) (h : -1000000 ≤ x ∧ x ≤ 1000000) (nn : Nm) : CallsA Try.prog 90 [di x] Hp.none nn (Pu (di (absI x)) Hp.none) := by
  obtain ⟨code, h1, h2⟩ := c90_ok
  refine callsA_of (T0_ok _) mixed (N := fun t => (0, t)) Try.func90 h1 h2 r90_ok [] false js_nil js_nil' (by simp [Try.f90]) ?_
  have w1 : IntKind.i64.wrap (0 - x) = -x := by rw [wrap_i (by omega)]; omega
  have e : (if x < -x then -x else x) = absI x := rfl
  simp (maxSteps:=500000) only [↓vp, vv, ↓reduceIte, simprocAttr, c90, r90, w1, e, Pu]
def NegS (p : Pln) (r q : List Int) (g : Nat) : Hp := (((((Hp.none.put (0, 1002) ⟨q.length, 1, q.map iRow⟩).put (0, 1001) ⟨r.length, 1, r.map iRow⟩).put (0, 6) ⟨1, 1, p.pumps.map bRow⟩).put (0, 3) ⟨0, 3, [[.own (0, 1001) r.length 0 r.length, .own (0, 1002) q.length 0 q.length, .own (0, 6) 1 0 p.pumps.length]]⟩).put (0, 2) ⟨0, 3, [[.mt, .mt, .mt]]⟩).put (0, 1) ⟨0, 3, [plnD p]⟩
def SmI (R : List Int) : Prop := R.length ≤ 1000000 ∧ ∀ r ∈ R, -1000000000 ≤ r ∧ r ≤ 1000000000
theorem neg_take (R : List Int) (j : Nat) (h : j < R.length) : (R.take (j + 1)).map (- ·) = (R.take j).map (- ·) ++ [-R[j]] := by
  rw [← List.take_append_getElem h, List.map_append]; rfl
set_option maxHeartbeats 8000000 in
theorem negated_c (p : Pln) (h1 : SmI p.rates) (h2 : SmI p.ports) (h3 : p.pumps.length ≤ 1000000) (nn : Nm) : CallsA Try.prog 91 [p.enc] Hp.none nn (Pu (negP p).enc Hp.none) := by
  obtain ⟨code, k1, k2⟩ := c91_ok
  refine callsA_of (T0_ok _) mixed (N := fun t => (0, t)) Try.func91 k1 k2 r91_ok [] false js_nil js_nil' (by simp [Try.f91]) ?_
  obtain ⟨l1, b1⟩ := h1
  obtain ⟨l2, b2⟩ := h2
  have z1 : p.pumps.length * 1 ≤ 140737488355328 := by omega
  have z2 : p.pumps.length ≤ 4611686018427387904 := by omega
  have hb : ∀ b ∈ p.pumps, (bRow b).length = 1 := fun _ _ => rfl
  simp (maxSteps:=500000) only [↓vp, vv, ↓reduceIte, simprocAttr, c91, Pln.enc, plnD, z1, z2, hb]
  refine ⟨hb, rng_loop p.rates.length (fun j => ⟨fr [(1, .ptr (0, 1) 0 0 0), (2, .ptr (0, 2) 0 0 0), (3, .ptr (0, 3) 0 0 0), (13, di p.rates.length), (14, di j)], NegS p ((p.rates.take j).map (- ·)) [] 0⟩) (fun _ => True) ((weak_ownC (0, 3) 0 3 [] [.mt, .own (0, 6) 1 0 p.pumps.length] (0, 1001) 1 (by simp (maxSteps:=500000) only [↓vp, vv, ↓reduceIte, simprocAttr, ]) (by simp (maxSteps:=500000) only [↓vp, vv, ↓reduceIte, simprocAttr, ])).trans ((weak_ownC (0, 3) 0 3 [.own (0, 1001) 0 0 0] [.own (0, 6) 1 0 p.pumps.length] (0, 1002) 1 (by simp (maxSteps:=500000) only [↓vp, vv, ↓reduceIte, simprocAttr, ]) (by simp (maxSteps:=500000) only [↓vp, vv, ↓reduceIte, simprocAttr, ])).trans (weak_eq [] [(0, 1), (0, 2), (0, 3), (0, 6), (0, 1001), (0, 1002)] [(1, .ptr (0, 1) 0 0 0), (2, .ptr (0, 2) 0 0 0), (3, .ptr (0, 3) 0 0 0), (13, di p.rates.length), (14, di 0)] (by simp (maxSteps:=500000) only [↓vp, vv, ↓reduceIte, simprocAttr, coverS, NegS, plnD, bRow]) (by simp (maxSteps:=500000) only [↓vp, vv, ↓reduceIte, simprocAttr, refsF, NegS, plnD, bRow]) (by simp (maxSteps:=500000) only [↓vp, vv, ↓reduceIte, simprocAttr, NegS, plnD, bRow]) (by simp) (by simp (maxSteps:=500000) only [↓vp, vv, ↓reduceIte, simprocAttr, NegS, plnD, bRow]; try rfl)))) trivial (fun j hj _ => ?_) (fun _ => ?_)⟩
  · have hj' : (j : Int) < p.rates.length := by omega
    have hn := idx_nn j
    have w1 := idx_next (j := j) (by omega)
    have hg := iRow_at p.rates j hj
    have ht := neg_take p.rates j hj
    have hr := b1 _ (List.getElem_mem hj)
    generalize p.rates[j] = r at hg ht hr
    have w2 : IntKind.i64.wrap (0 - r) = -r := by rw [wrap_i (by omega)]; omega
    have hl : (p.rates.take j).length = j := by rw [List.length_take]; omega
    have hl3 : (p.rates.take (j + 1)).length = j + 1 := by rw [List.length_take]; omega
    have y1 : (j + 1) * 8 ≤ 140737488355328 := by omega
    have y2 : j + 1 ≤ 4611686018427387904 := by omega
    simp (maxSteps:=500000) only [↓vp, vv, ↓reduceIte, simprocAttr, c91, r91, c91_1, c91_2, c91_3, c91_4, c91_5, c91_6, NegS, plnD, hj', hn, Int.toNat_natCast, hg, w1, w2, hl, y1, y2]
    exact rng_next hj (weak_eq [] [(0, 1), (0, 2), (0, 3), (0, 6), (0, 1001), (0, 1002)] [(1, .ptr (0, 1) 0 0 0), (2, .ptr (0, 2) 0 0 0), (3, .ptr (0, 3) 0 0 0), (13, di p.rates.length), (14, di (j + 1 : Nat))] (by simp (maxSteps:=500000) only [↓vp, vv, ↓reduceIte, simprocAttr, coverS, NegS, plnD, iRow, bRow, w1, ht, hl, hl3, List.map_append]) (by simp (maxSteps:=500000) only [↓vp, vv, ↓reduceIte, simprocAttr, refsF, NegS, plnD, iRow, bRow, w1, ht, hl, hl3, List.map_append]) (by simp (maxSteps:=500000) only [↓vp, vv, ↓reduceIte, simprocAttr, NegS, plnD, iRow, bRow, w1, ht, hl, hl3, List.map_append]) (by simp) (by simp (maxSteps:=500000) only [↓vp, vv, ↓reduceIte, simprocAttr, NegS, plnD, iRow, bRow, w1, ht, hl, hl3, List.map_append]; try rfl)) trivial
  · simp only [List.take_length]
    have hl1 : (p.rates.map (- ·)).length = p.rates.length := List.length_map _
    generalize hR : p.rates.map (- ·) = R at hl1
    simp (maxSteps:=500000) only [↓vp, vv, ↓reduceIte, simprocAttr, c91, r91, c91_1, c91_2, c91_3, c91_4, c91_5, c91_6, NegS, plnD, Int.lt_irrefl]
    refine rng_loop p.ports.length (fun j => ⟨fr [(1, .ptr (0, 1) 0 0 0), (2, .ptr (0, 2) 0 0 0), (3, .ptr (0, 3) 0 0 0), (31, di p.ports.length), (32, di j)], NegS p R ((p.ports.take j).map (- ·)) 0⟩) (fun _ => True) (weak_eq [] [(0, 1), (0, 2), (0, 3), (0, 6), (0, 1001), (0, 1002)] [(1, .ptr (0, 1) 0 0 0), (2, .ptr (0, 2) 0 0 0), (3, .ptr (0, 3) 0 0 0), (31, di p.ports.length), (32, di 0)] (by simp (maxSteps:=500000) only [↓vp, vv, ↓reduceIte, simprocAttr, coverS, NegS, plnD, iRow, bRow]) (by simp (maxSteps:=500000) only [↓vp, vv, ↓reduceIte, simprocAttr, refsF, NegS, plnD, iRow, bRow]) (by simp (maxSteps:=500000) only [↓vp, vv, ↓reduceIte, simprocAttr, NegS, plnD, iRow, bRow]) (by simp) (by simp (maxSteps:=500000) only [↓vp, vv, ↓reduceIte, simprocAttr, NegS, plnD, iRow, bRow]; try rfl)) trivial (fun j hj _ => ?_) (fun _ => ?_)
    · have hj' : (j : Int) < p.ports.length := by omega
      have hn := idx_nn j
      have w1 := idx_next (j := j) (by omega)
      have hg := iRow_at p.ports j hj
      have ht := neg_take p.ports j hj
      have hr := b2 _ (List.getElem_mem hj)
      generalize p.ports[j] = r at hg ht hr
      have w2 : IntKind.i64.wrap (0 - r) = -r := by rw [wrap_i (by omega)]; omega
      have hl : (p.ports.take j).length = j := by rw [List.length_take]; omega
      have hl3 : (p.ports.take (j + 1)).length = j + 1 := by rw [List.length_take]; omega
      have y1 : (j + 1) * 8 ≤ 140737488355328 := by omega
      have y2 : j + 1 ≤ 4611686018427387904 := by omega
      simp (maxSteps:=500000) only [↓vp, vv, ↓reduceIte, simprocAttr, c91, r91, c91_1, c91_2, c91_3, c91_4, c91_5, c91_6, NegS, plnD, hj', hn, Int.toNat_natCast, hg, w1, w2, hl, y1, y2]
      exact rng_next hj (weak_eq [] [(0, 1), (0, 2), (0, 3), (0, 6), (0, 1001), (0, 1002)] [(1, .ptr (0, 1) 0 0 0), (2, .ptr (0, 2) 0 0 0), (3, .ptr (0, 3) 0 0 0), (31, di p.ports.length), (32, di (j + 1 : Nat))] (by simp (maxSteps:=500000) only [↓vp, vv, ↓reduceIte, simprocAttr, coverS, NegS, plnD, iRow, bRow, w1, ht, hl, hl3, List.map_append]) (by simp (maxSteps:=500000) only [↓vp, vv, ↓reduceIte, simprocAttr, refsF, NegS, plnD, iRow, bRow, w1, ht, hl, hl3, List.map_append]) (by simp (maxSteps:=500000) only [↓vp, vv, ↓reduceIte, simprocAttr, NegS, plnD, iRow, bRow, w1, ht, hl, hl3, List.map_append]) (by simp) (by simp (maxSteps:=500000) only [↓vp, vv, ↓reduceIte, simprocAttr, NegS, plnD, iRow, bRow, w1, ht, hl, hl3, List.map_append]; try rfl)) trivial
    · simp only [List.take_length]
      have e : negP p = ⟨R, p.ports.map (- ·), p.pumps⟩ := by unfold negP; rw [hR]
      rw [e]
      generalize p.ports.map (- ·) = Q
      simp (maxSteps:=500000) only [↓vp, vv, ↓reduceIte, simprocAttr, c91, r91, c91_1, c91_2, c91_3, c91_4, c91_5, c91_6, NegS, plnD, Int.lt_irrefl, Pu]
      exact ⟨fun _ _ d hd => by rw [List.mem_singleton.1 hd]; rfl, fun _ _ d hd => by rw [List.mem_singleton.1 hd]; rfl, fun _ _ d hd => by rw [List.mem_singleton.1 hd]; rfl⟩
def selAbs : List D → Option (Prop × D)
  | [.v (.int .i64 x)] => some (-1000000 ≤ x ∧ x ≤ 1000000, di (absI x))
  | _ => Option.none
def selNeg : List D → Option (Prop × D)
  | [.agg r] => match plnOf1 r with
    | some p => some (SmI p.rates ∧ SmI p.ports ∧ p.pumps.length ≤ 1000000, (negP p).enc)
    | Option.none => Option.none
  | _ => Option.none
def TPl : Tbl := tc 90 (rowPu selAbs) (tc 91 (rowPu selNeg) T2)
theorem TPl_ok : TblOk Try.prog TPl := by
  refine tc_pu f90_ok (fun args pre d h hp nn => ?_) (tc_pu f91_ok (fun args pre d h hp nn => ?_) T2_ok)
  · unfold selAbs at h
    split at h <;> cases h
    exact kabs_c _ hp nn
  · unfold selNeg at h
    split at h
    · split at h
      · rename_i e
        cases h
        rw [plnOf1_eq e]
        exact negated_c _ hp.1 hp.2.1 hp.2.2 nn
      · cases h
    · cases h
def PH (i : Nm) (n : Net) (g : Nat) (R Q : List Int) (U : List Bool) (L : List (List D)) (at' : Int) (B : Hp) : Hp :=
  ((((((B.put (i.1 + 1, 1005) ⟨g, 1, U.map bRow⟩).put (i.1 + 1, 29) ⟨0, 1, Q.map iRow⟩).put (i.1 + 1, 25) ⟨0, 1, R.map iRow⟩).put (i.1 + 1, 5) ⟨0, 3, [[.own (i.1 + 1, 25) 0 0 R.length, .own (i.1 + 1, 29) 0 0 Q.length, .own (i.1 + 1, 1005) g 0 U.length]]⟩).put (i.1 + 1, 4) ⟨0, 3, [[.mt, .mt, .mt]]⟩).put (i.1 + 1, 3) ⟨0, 6, [netD n]⟩).put i (sE L at')
def BW (i : Nm) (gw : Nat) (W : List Nat) : Hp := Hp.none.put (i.1 + 1, 1012) ⟨gw, 1, W.map nRow⟩
def BO (i : Nm) (gw : Nat) (W : List Nat) (go : Nat) (O : List Nat) : Hp := (Hp.none.put (i.1 + 1, 1016) ⟨go, 1, O.map nRow⟩).put (i.1 + 1, 1012) ⟨gw, 1, W.map nRow⟩
def PF (i : Nm) (tu : Bool) (c : Int) (l : List (Nat × D)) : List (Nat × D) := (0, .ptr i 0 0 0) :: (3, .ptr (i.1 + 1, 3) 0 0 0) :: (4, .ptr (i.1 + 1, 4) 0 0 0) :: (5, .ptr (i.1 + 1, 5) 0 0 0) :: (7, db tu) :: (8, di c) :: l
structure PFk (i : Nm) (tu : Bool) (c : Int) (F : Fr) : Prop where
  f0 : F 0 = .ptr i 0 0 0
  f3 : F 3 = .ptr (i.1 + 1, 3) 0 0 0
  f4 : F 4 = .ptr (i.1 + 1, 4) 0 0 0
  f5 : F 5 = .ptr (i.1 + 1, 5) 0 0 0
  f7 : F 7 = db tu
  f8 : F 8 = di c
structure PFw (a at0 rate : Int) (i : Nm) (gw : Nat) (W : List Nat) (e : Int) (F : Fr) : Prop where
  f9 : F 9 = di a
  f10 : F 10 = di at0
  f11 : F 11 = di rate
  f12 : F 12 = .own (i.1 + 1, 1012) gw 0 W.length
  f13 : F 13 = di e
def EndOk (n : Net) (Q : List Int) (a rate at' e : Int) : Prop := e ≠ a ∧ ∃ (k : Nat) (y : Port) (q : Int), e = k ∧ n.ports[k]? = some y ∧ Q[k]? = some q ∧ y.node = at' ∧ q ≤ 0 ∧ -1000 ≤ q - rate
set_option maxHeartbeats 16000000 in
theorem pl4 (i : Nm) (L : List (List D)) (n : Net) (g : Nat) (R Q : List Int) (U : List Bool) (tu : Bool) (c a at0 rate : Int) (gw : Nat) (W : List Nat) (hql : n.ports.length ≤ 1000000) (hQl : Q.length = n.ports.length) (hQb : ∀ r ∈ Q, -1000 ≤ r ∧ r ≤ 1000) (hr : 1 ≤ rate ∧ rate ≤ 300)
    (s : St) (Qx : Ex → St → Prop) (at1 : Int) (o1 : SrcOk L at1) (hw : Weak [i] s ⟨fr (PF i tu c [(9, di a), (10, di at0), (11, di rate), (12, .own (i.1 + 1, 1012) gw 0 W.length), (13, di (-1)), (90, .sl (n.ports.map Port.row)), (91, di n.ports.length), (92, di 0)]), PH i n g R Q U L at1 (BW i gw W)⟩)
    (hX : ∀ F at2 e, SrcOk L at2 → (e = -1 ∨ EndOk n Q a rate at0 e) → PFk i tu c F → PFw a at0 rate i gw W e F → Qx (.exit 6) ⟨F, PH i n g R Q U L at2 (BW i gw W)⟩) :
    vc TPl (fun t => (i.1 + 1, t)) [i] (.loop c33_5) Qx s := by
  rw [vc_loop]
  refine ⟨fun m s => ∃ at' e j, j + m = n.ports.length ∧ SrcOk L at' ∧ (e = -1 ∨ EndOk n Q a rate at0 e) ∧ s = ⟨fr (PF i tu c [(9, di a), (10, di at0), (11, di rate), (12, .own (i.1 + 1, 1012) gw 0 W.length), (13, di e), (90, .sl (n.ports.map Port.row)), (91, di n.ports.length), (92, di (j : Nat))]), PH i n g R Q U L at' (BW i gw W)⟩, ⟨n.ports.length, _, hw, at1, -1, 0, by omega, o1, .inl rfl, rfl⟩, ?_⟩
  rintro m s ⟨at2, e, j, hm, o2, he, rfl⟩
  by_cases hj : j < n.ports.length
  · have hj' : (j : Int) < n.ports.length := by omega
    have hjn := idx_nn j
    have w1 := idx_next (j := j) (by omega)
    have hjq : j < Q.length := by omega
    have hjq' : (j : Int) < Q.length := by omega
    have hg := getD_map Port.row n.ports j hj
    have hg2 := iRow_at Q j hjq
    have hx : n.ports[j]? = some n.ports[j] := List.getElem?_eq_getElem hj
    have hy : Q[j]? = some Q[j] := List.getElem?_eq_getElem hjq
    have hb := hQb _ (List.getElem_mem hjq)
    generalize n.ports[j] = x at hg hx
    generalize Q[j] = q at hg2 hy hb
    have w2 : IntKind.i64.wrap (q - rate) = q - rate := wrap_i (by omega)
    have nx : ∀ (at3 e' : Int) (F : Fr) (H : Hp), SrcOk L at3 → (e' = -1 ∨ EndOk n Q a rate at0 e') → PFk i tu c F → PFw a at0 rate i gw W e' F → F 90 = .sl (n.ports.map Port.row) → F 91 = di n.ports.length → F 92 = di (j + 1 : Nat) →
        H i = some (sE L at3) → H (i.1 + 1, 3) = some ⟨0, 6, [netD n]⟩ → H (i.1 + 1, 4) = some ⟨0, 3, [[.mt, .mt, .mt]]⟩ → H (i.1 + 1, 5) = some ⟨0, 3, [[.own (i.1 + 1, 25) 0 0 R.length, .own (i.1 + 1, 29) 0 0 Q.length, .own (i.1 + 1, 1005) g 0 U.length]]⟩ → H (i.1 + 1, 25) = some ⟨0, 1, R.map iRow⟩ → H (i.1 + 1, 29) = some ⟨0, 1, Q.map iRow⟩ → H (i.1 + 1, 1005) = some ⟨g, 1, U.map bRow⟩ → H (i.1 + 1, 1012) = some ⟨gw, 1, W.map nRow⟩ →
        ∃ k' s', k' < m ∧ Weak [i] ⟨F, H⟩ s' ∧ ∃ at' e j, j + k' = n.ports.length ∧ SrcOk L at' ∧ (e = -1 ∨ EndOk n Q a rate at0 e) ∧ s' = ⟨fr (PF i tu c [(9, di a), (10, di at0), (11, di rate), (12, .own (i.1 + 1, 1012) gw 0 W.length), (13, di e), (90, .sl (n.ports.map Port.row)), (91, di n.ports.length), (92, di (j : Nat))]), PH i n g R Q U L at' (BW i gw W)⟩ := by
      rintro at3 e' F H o3 he' ⟨f0, f3, f4, f5, f7, f8⟩ ⟨f9, f10, f11, f12, f13⟩ f90 f91 f92 h0 h3 h4 h5 h25 h29 h105 h112
      exact ⟨m - 1, _, by omega, (weak_eq [] [i, (i.1 + 1, 3), (i.1 + 1, 4), (i.1 + 1, 5), (i.1 + 1, 25), (i.1 + 1, 29), (i.1 + 1, 1005), (i.1 + 1, 1012)] (PF i tu c [(9, di a), (10, di at0), (11, di rate), (12, .own (i.1 + 1, 1012) gw 0 W.length), (13, di e'), (90, .sl (n.ports.map Port.row)), (91, di n.ports.length), (92, di (j + 1 : Nat))]) (by simp (maxSteps:=500000) only [↓vp, vv, ↓reduceIte, simprocAttr, coverS, PF, PH, BW, netD, iRow, bRow, nRow, f0, f3, f4, f5, f7, f8, f9, f10, f11, f12, f13, f90, f91, f92, h0, h3, h4, h5, h25, h29, h105, h112]) (by simp (maxSteps:=500000) only [↓vp, vv, ↓reduceIte, simprocAttr, refsF, PF, PH, BW, netD, iRow, bRow, nRow, f0, f3, f4, f5, f7, f8, f9, f10, f11, f12, f13, f90, f91, f92, h0, h3, h4, h5, h25, h29, h105, h112]) (by simp (maxSteps:=500000) only [↓vp, vv, ↓reduceIte, simprocAttr, PF, PH, BW, netD, iRow, bRow, nRow, f0, f3, f4, f5, f7, f8, f9, f10, f11, f12, f13, f90, f91, f92, h0, h3, h4, h5, h25, h29, h105, h112]) (by simp) (by simp (maxSteps:=500000) only [↓vp, vv, ↓reduceIte, simprocAttr, PF, PH, BW, netD, iRow, bRow, nRow, f0, f3, f4, f5, f7, f8, f9, f10, f11, f12, f13, f90, f91, f92, h0, h3, h4, h5, h25, h29, h105, h112]; try rfl)), at3, e', j + 1, by omega, o3, he', rfl⟩
    cases c1 : (x.node == at0) with
    | false =>
      simp (maxSteps:=500000) only [↓vp, vv, ↓reduceIte, simprocAttr, c33_5, c33_4, c33_3, TPl, T2, T1, selI, PF, PH, BW, netD, hj', hjn, Int.toNat_natCast, hg, Port.row, c1, w1]
      refine nx at2 e _ _ o2 he ⟨?_, ?_, ?_, ?_, ?_, ?_⟩ ⟨?_, ?_, ?_, ?_, ?_⟩ ?_ ?_ ?_ ?_ ?_ ?_ ?_ ?_ ?_ ?_ ?_ <;> simp (maxSteps:=500000) only [↓vp, vv, ↓reduceIte, simprocAttr, netD, w1]
    | true =>
    cases c2 : ((j : Int) != a) with
    | false =>
      simp (maxSteps:=500000) only [↓vp, vv, ↓reduceIte, simprocAttr, c33_5, c33_4, c33_3, TPl, T2, T1, selI, PF, PH, BW, netD, hj', hjn, Int.toNat_natCast, hg, hg2, Port.row, c1, c2, w1]
      refine nx at2 e _ _ o2 he ⟨?_, ?_, ?_, ?_, ?_, ?_⟩ ⟨?_, ?_, ?_, ?_, ?_⟩ ?_ ?_ ?_ ?_ ?_ ?_ ?_ ?_ ?_ ?_ ?_ <;> simp (maxSteps:=500000) only [↓vp, vv, ↓reduceIte, simprocAttr, netD, w1]
    | true =>
    cases c3 : decide (q ≤ 0) with
    | false =>
      simp (maxSteps:=500000) only [↓vp, vv, ↓reduceIte, simprocAttr, c33_5, c33_4, c33_3, TPl, T2, T1, selI, PF, PH, BW, netD, hj', hjn, Int.toNat_natCast, hg, hg2, Port.row, c1, c2, hjq, hjq', c3, w1]
      refine nx at2 e _ _ o2 he ⟨?_, ?_, ?_, ?_, ?_, ?_⟩ ⟨?_, ?_, ?_, ?_, ?_⟩ ?_ ?_ ?_ ?_ ?_ ?_ ?_ ?_ ?_ ?_ ?_ <;> simp (maxSteps:=500000) only [↓vp, vv, ↓reduceIte, simprocAttr, netD, w1]
    | true =>
    cases c4 : decide (-1000 ≤ q - rate) with
    | false =>
      simp (maxSteps:=500000) only [↓vp, vv, ↓reduceIte, simprocAttr, c33_5, c33_4, c33_3, TPl, T2, T1, selI, PF, PH, BW, netD, hj', hjn, Int.toNat_natCast, hg, hg2, Port.row, c1, c2, hjq, hjq', c3, w2, c4, w1]
      refine nx at2 e _ _ o2 he ⟨?_, ?_, ?_, ?_, ?_, ?_⟩ ⟨?_, ?_, ?_, ?_, ?_⟩ ?_ ?_ ?_ ?_ ?_ ?_ ?_ ?_ ?_ ?_ ?_ <;> simp (maxSteps:=500000) only [↓vp, vv, ↓reduceIte, simprocAttr, netD, w1]
    | true =>
    cases c5 : decide ((0 : Int) < W.length) with
    | false =>
      simp (maxSteps:=500000) only [↓vp, vv, ↓reduceIte, simprocAttr, c33_5, c33_4, c33_3, TPl, T2, T1, selI, PF, PH, BW, netD, hj', hjn, Int.toNat_natCast, hg, hg2, Port.row, c1, c2, hjq, hjq', c3, w2, c4, c5, w1]
      refine nx at2 e _ _ o2 he ⟨?_, ?_, ?_, ?_, ?_, ?_⟩ ⟨?_, ?_, ?_, ?_, ?_⟩ ?_ ?_ ?_ ?_ ?_ ?_ ?_ ?_ ?_ ?_ ?_ <;> simp (maxSteps:=500000) only [↓vp, vv, ↓reduceIte, simprocAttr, netD, w1]
    | true =>
      simp (maxSteps:=500000) only [↓vp, vv, ↓reduceIte, simprocAttr, c33_5, c33_4, c33_3, TPl, T2, T1, selI, PF, PH, BW, netD, hj', hjn, Int.toNat_natCast, hg, hg2, Port.row, c1, c2, hjq, hjq', c3, w2, c4, c5, o2, w1]
      rintro ⟨at3, o3⟩ v hv
      have he2 : EndOk n Q a rate at0 (j : Int) := ⟨by simpa using c2, j, x, q, rfl, hx, hy, by simpa using c1, by simpa using c3, by simpa using c4⟩
      cases c6 : (v == (0 : Int)) with
      | false =>
        simp (maxSteps:=500000) only [↓vp, vv, ↓reduceIte, simprocAttr, c6, w1]
        refine nx at3 e _ _ o3 he ⟨?_, ?_, ?_, ?_, ?_, ?_⟩ ⟨?_, ?_, ?_, ?_, ?_⟩ ?_ ?_ ?_ ?_ ?_ ?_ ?_ ?_ ?_ ?_ ?_ <;> simp (maxSteps:=500000) only [↓vp, vv, ↓reduceIte, simprocAttr, netD, w1]
      | true =>
        simp (maxSteps:=500000) only [↓vp, vv, ↓reduceIte, simprocAttr, c6, w1]
        refine nx at3 j _ _ o3 (.inr he2) ⟨?_, ?_, ?_, ?_, ?_, ?_⟩ ⟨?_, ?_, ?_, ?_, ?_⟩ ?_ ?_ ?_ ?_ ?_ ?_ ?_ ?_ ?_ ?_ ?_ <;> simp (maxSteps:=500000) only [↓vp, vv, ↓reduceIte, simprocAttr, netD, w1]
  · have hj2 : j = n.ports.length := by omega
    have hj' : ¬ (j : Int) < n.ports.length := by omega
    simp (maxSteps:=500000) only [↓vp, vv, ↓reduceIte, simprocAttr, c33_5, PF, hj']
    refine hX _ at2 e o2 he ⟨?_, ?_, ?_, ?_, ?_, ?_⟩ ⟨?_, ?_, ?_, ?_, ?_⟩ <;> simp (maxSteps:=500000) only [↓vp, vv, ↓reduceIte, simprocAttr, ]
def OutOk (n : Net) (R : List Int) (rate at' : Int) (k : Nat) : Prop := ∃ s r, n.segs[k]? = some s ∧ R[k]? = some r ∧ (s.fr = at' ∨ s.to = at') ∧ at' < s.fr + s.to - at' ∧ absI r + rate ≤ minC s.cap
theorem most_min (s : Seg) : most s = minC s.cap := by unfold most minC; split <;> split <;> omega
set_option maxHeartbeats 16000000 in
theorem pl5 (i : Nm) (L : List (List D)) (n : Net) (hv : NetV n) (g : Nat) (R Q : List Int) (U : List Bool) (tu : Bool) (c a at0 rate : Int) (gw : Nat) (W : List Nat) (hRl : R.length = n.segs.length) (hRb : ∀ r ∈ R, -1000 ≤ r ∧ r ≤ 1000) (hr : 1 ≤ rate ∧ rate ≤ 300) (h0 : 0 ≤ at0 ∧ at0 < 24)
    (s : St) (Qx : Ex → St → Prop) (at1 : Int) (hw : Weak [i] s ⟨fr (PF i tu c [(9, di a), (10, di at0), (11, di rate), (12, .own (i.1 + 1, 1012) gw 0 W.length), (13, di (-1)), (16, .own (i.1 + 1, 1016) 0 0 0), (139, .sl (n.segs.map Seg.row)), (140, di n.segs.length), (141, di 0)]), PH i n g R Q U L at1 (BO i gw W 0 [])⟩)
    (hX : ∀ F O go, (∀ k ∈ O, OutOk n R rate at0 k) → O.length ≤ 32 → PFk i tu c F → PFw a at0 rate i gw W (-1) F → F 16 = .own (i.1 + 1, 1016) go 0 O.length → Qx (.exit 8) ⟨F, PH i n g R Q U L at1 (BO i gw W go O)⟩) :
    vc TPl (fun t => (i.1 + 1, t)) [i] (.loop c33_8) Qx s := by
  have hsl := hv.sl
  rw [vc_loop]
  refine ⟨fun m s => ∃ O go j, j + m = n.segs.length ∧ O.length ≤ j ∧ (∀ k ∈ O, OutOk n R rate at0 k) ∧ s = ⟨fr (PF i tu c [(9, di a), (10, di at0), (11, di rate), (12, .own (i.1 + 1, 1012) gw 0 W.length), (13, di (-1)), (16, .own (i.1 + 1, 1016) go 0 O.length), (139, .sl (n.segs.map Seg.row)), (140, di n.segs.length), (141, di (j : Nat))]), PH i n g R Q U L at1 (BO i gw W go O)⟩, ⟨n.segs.length, _, hw, [], 0, 0, by omega, Nat.le_refl _, fun k hk => (by cases hk), rfl⟩, ?_⟩
  rintro m s ⟨O, go, j, hm, hO, hOk, rfl⟩
  by_cases hj : j < n.segs.length
  · have hj' : (j : Int) < n.segs.length := by omega
    have hjn := idx_nn j
    have w1 := idx_next (j := j) (by omega)
    have hjq : j < R.length := by omega
    have hjq' : (j : Int) < R.length := by omega
    have hg := getD_map Seg.row n.segs j hj
    have hg2 := iRow_at R j hjq
    have hx : n.segs[j]? = some n.segs[j] := List.getElem?_eq_getElem hj
    have hy : R[j]? = some R[j] := List.getElem?_eq_getElem hjq
    have hb := hRb _ (List.getElem_mem hjq)
    have hse := hv.se _ (List.getElem_mem hj)
    have hnl := hv.nl
    generalize n.segs[j] = x at hg hx hse
    generalize R[j] = r at hg2 hy hb
    have nx : ∀ (O' : List Nat) (go' : Nat) (F : Fr) (H : Hp), O'.length ≤ j + 1 → (∀ k ∈ O', OutOk n R rate at0 k) → PFk i tu c F → PFw a at0 rate i gw W (-1) F → F 16 = .own (i.1 + 1, 1016) go' 0 O'.length → F 139 = .sl (n.segs.map Seg.row) → F 140 = di n.segs.length → F 141 = di (j + 1 : Nat) →
        H i = some (sE L at1) → H (i.1 + 1, 3) = some ⟨0, 6, [netD n]⟩ → H (i.1 + 1, 4) = some ⟨0, 3, [[.mt, .mt, .mt]]⟩ → H (i.1 + 1, 5) = some ⟨0, 3, [[.own (i.1 + 1, 25) 0 0 R.length, .own (i.1 + 1, 29) 0 0 Q.length, .own (i.1 + 1, 1005) g 0 U.length]]⟩ → H (i.1 + 1, 25) = some ⟨0, 1, R.map iRow⟩ → H (i.1 + 1, 29) = some ⟨0, 1, Q.map iRow⟩ → H (i.1 + 1, 1005) = some ⟨g, 1, U.map bRow⟩ → H (i.1 + 1, 1012) = some ⟨gw, 1, W.map nRow⟩ → H (i.1 + 1, 1016) = some ⟨go', 1, O'.map nRow⟩ →
        ∃ k' s', k' < m ∧ Weak [i] ⟨F, H⟩ s' ∧ ∃ O go j, j + k' = n.segs.length ∧ O.length ≤ j ∧ (∀ k ∈ O, OutOk n R rate at0 k) ∧ s' = ⟨fr (PF i tu c [(9, di a), (10, di at0), (11, di rate), (12, .own (i.1 + 1, 1012) gw 0 W.length), (13, di (-1)), (16, .own (i.1 + 1, 1016) go 0 O.length), (139, .sl (n.segs.map Seg.row)), (140, di n.segs.length), (141, di (j : Nat))]), PH i n g R Q U L at1 (BO i gw W go O)⟩ := by
      rintro O' go' F H hO' hOk' ⟨f0, f3, f4, f5, f7, f8⟩ ⟨f9, f10, f11, f12, f13⟩ f16 f90 f91 f92 h0 h3 h4 h5 h25 h29 h105 h112 h116
      exact ⟨m - 1, _, by omega, (weak_eq [] [i, (i.1 + 1, 3), (i.1 + 1, 4), (i.1 + 1, 5), (i.1 + 1, 25), (i.1 + 1, 29), (i.1 + 1, 1005), (i.1 + 1, 1012), (i.1 + 1, 1016)] (PF i tu c [(9, di a), (10, di at0), (11, di rate), (12, .own (i.1 + 1, 1012) gw 0 W.length), (13, di (-1)), (16, .own (i.1 + 1, 1016) go' 0 O'.length), (139, .sl (n.segs.map Seg.row)), (140, di n.segs.length), (141, di (j + 1 : Nat))]) (by simp (maxSteps:=500000) only [↓vp, vv, ↓reduceIte, simprocAttr, coverS, PF, PH, BO, netD, iRow, bRow, nRow, f0, f3, f4, f5, f7, f8, f9, f10, f11, f12, f13, f16, f90, f91, f92, h0, h3, h4, h5, h25, h29, h105, h112, h116]) (by simp (maxSteps:=500000) only [↓vp, vv, ↓reduceIte, simprocAttr, refsF, PF, PH, BO, netD, iRow, bRow, nRow, f0, f3, f4, f5, f7, f8, f9, f10, f11, f12, f13, f16, f90, f91, f92, h0, h3, h4, h5, h25, h29, h105, h112, h116]) (by simp (maxSteps:=500000) only [↓vp, vv, ↓reduceIte, simprocAttr, PF, PH, BO, netD, iRow, bRow, nRow, f0, f3, f4, f5, f7, f8, f9, f10, f11, f12, f13, f16, f90, f91, f92, h0, h3, h4, h5, h25, h29, h105, h112, h116]) (by simp) (by simp (maxSteps:=500000) only [↓vp, vv, ↓reduceIte, simprocAttr, PF, PH, BO, netD, iRow, bRow, nRow, f0, f3, f4, f5, f7, f8, f9, f10, f11, f12, f13, f16, f90, f91, f92, h0, h3, h4, h5, h25, h29, h105, h112, h116]; try rfl)), O', go', j + 1, by omega, hO', hOk', rfl⟩
    have w2 : IntKind.i64.wrap (x.fr + x.to) = x.fr + x.to := wrap_i (by omega)
    have w3 : IntKind.i64.wrap (x.fr + x.to - at0) = x.fr + x.to - at0 := wrap_i (by omega)
    have ha : 0 ≤ absI r ∧ absI r ≤ 1000 := by unfold absI; split <;> omega
    have w4 : IntKind.i64.wrap (absI r + rate) = absI r + rate := wrap_i (by omega)
    have hm2 : (if x.cap < 1000 then x.cap else 1000) = minC x.cap := most_min x
    have hab : -1000000 ≤ r ∧ r ≤ 1000000 := by omega
    have key : ∀ (b1 b2 : Bool), (x.fr == at0) = b1 → (x.to == at0) = b2 → (b1 || b2) = false → vc TPl (fun t => (i.1 + 1, t)) [i] c33_8 (loopQ [i] (fun m s => ∃ O go j, j + m = n.segs.length ∧ O.length ≤ j ∧ (∀ k ∈ O, OutOk n R rate at0 k) ∧ s = ⟨fr (PF i tu c [(9, di a), (10, di at0), (11, di rate), (12, .own (i.1 + 1, 1012) gw 0 W.length), (13, di (-1)), (16, .own (i.1 + 1, 1016) go 0 O.length), (139, .sl (n.segs.map Seg.row)), (140, di n.segs.length), (141, di (j : Nat))]), PH i n g R Q U L at1 (BO i gw W go O)⟩) m Qx) ⟨fr (PF i tu c [(9, di a), (10, di at0), (11, di rate), (12, .own (i.1 + 1, 1012) gw 0 W.length), (13, di (-1)), (16, .own (i.1 + 1, 1016) go 0 O.length), (139, .sl (n.segs.map Seg.row)), (140, di n.segs.length), (141, di (j : Nat))]), PH i n g R Q U L at1 (BO i gw W go O)⟩ := by
      intro b1 b2 c1 c2 hbb
      cases b1 with
      | true => cases hbb
      | false =>
        cases b2 with
        | true => cases hbb
        | false =>
          simp (maxSteps:=500000) only [↓vp, vv, ↓reduceIte, simprocAttr, c33_8, c33_7, c33_6, TPl, PF, PH, BO, netD, hj', hjn, Int.toNat_natCast, hg, Seg.row, c1, c2, w1]
          refine nx O go _ _ (by omega) hOk ⟨?_, ?_, ?_, ?_, ?_, ?_⟩ ⟨?_, ?_, ?_, ?_, ?_⟩ ?_ ?_ ?_ ?_ ?_ ?_ ?_ ?_ ?_ ?_ ?_ ?_ ?_ <;> simp (maxSteps:=500000) only [↓vp, vv, ↓reduceIte, simprocAttr, netD, w1]
    have y1 : (O.length + 1) * 8 ≤ 140737488355328 := by omega
    have y2 : O.length + 1 ≤ 4611686018427387904 := by omega
    cases c1 : (x.fr == at0) with
    | true =>
      cases c3 : decide (at0 < x.fr + x.to - at0) with
      | false =>
        simp (maxSteps:=500000) only [↓vp, vv, ↓reduceIte, simprocAttr, c33_8, c33_7, c33_6, TPl, selAbs, PF, PH, BO, netD, hj', hjn, hjq, hjq', Int.toNat_natCast, hg, hg2, hab, hm2, w2, w3, w4, Seg.row, c1, c3, w1]
        refine nx O go _ _ (by omega) hOk ⟨?_, ?_, ?_, ?_, ?_, ?_⟩ ⟨?_, ?_, ?_, ?_, ?_⟩ ?_ ?_ ?_ ?_ ?_ ?_ ?_ ?_ ?_ ?_ ?_ ?_ ?_ <;> simp (maxSteps:=500000) only [↓vp, vv, ↓reduceIte, simprocAttr, netD, w1, nRow, List.map_append]
      | true =>
        cases c4 : decide (absI r + rate ≤ minC x.cap) with
        | false =>
          simp (maxSteps:=500000) only [↓vp, vv, ↓reduceIte, simprocAttr, c33_8, c33_7, c33_6, TPl, selAbs, PF, PH, BO, netD, hj', hjn, hjq, hjq', Int.toNat_natCast, hg, hg2, hab, hm2, w2, w3, w4, Seg.row, c1, c3, c4, w1]
          refine nx O go _ _ (by omega) hOk ⟨?_, ?_, ?_, ?_, ?_, ?_⟩ ⟨?_, ?_, ?_, ?_, ?_⟩ ?_ ?_ ?_ ?_ ?_ ?_ ?_ ?_ ?_ ?_ ?_ ?_ ?_ <;> simp (maxSteps:=500000) only [↓vp, vv, ↓reduceIte, simprocAttr, netD, w1, nRow, List.map_append]
        | true =>
          have hnew : OutOk n R rate at0 j := ⟨x, r, hx, hy, (.inl (by simpa using c1)), by simpa using c3, by simpa using c4⟩
          simp (maxSteps:=500000) only [↓vp, vv, ↓reduceIte, simprocAttr, c33_8, c33_7, c33_6, TPl, selAbs, PF, PH, BO, netD, hj', hjn, hjq, hjq', Int.toNat_natCast, hg, hg2, hab, hm2, w2, w3, w4, Seg.row, c1, c3, c4, y1, y2, w1]
          refine nx (O ++ [j]) (go + 1) _ _ (by rw [List.length_append, List.length_singleton]; omega) (fun k hk => by
            rcases List.mem_append.1 hk with hk | hk
            · exact hOk k hk
            · rw [List.mem_singleton.1 hk]; exact hnew) ⟨?_, ?_, ?_, ?_, ?_, ?_⟩ ⟨?_, ?_, ?_, ?_, ?_⟩ ?_ ?_ ?_ ?_ ?_ ?_ ?_ ?_ ?_ ?_ ?_ ?_ ?_ <;> simp (maxSteps:=500000) only [↓vp, vv, ↓reduceIte, simprocAttr, netD, w1, nRow, List.map_append]
    | false =>
      cases c2 : (x.to == at0) with
      | true =>
        cases c3 : decide (at0 < x.fr + x.to - at0) with
        | false =>
          simp (maxSteps:=500000) only [↓vp, vv, ↓reduceIte, simprocAttr, c33_8, c33_7, c33_6, TPl, selAbs, PF, PH, BO, netD, hj', hjn, hjq, hjq', Int.toNat_natCast, hg, hg2, hab, hm2, w2, w3, w4, Seg.row, c1, c2, c3, w1]
          refine nx O go _ _ (by omega) hOk ⟨?_, ?_, ?_, ?_, ?_, ?_⟩ ⟨?_, ?_, ?_, ?_, ?_⟩ ?_ ?_ ?_ ?_ ?_ ?_ ?_ ?_ ?_ ?_ ?_ ?_ ?_ <;> simp (maxSteps:=500000) only [↓vp, vv, ↓reduceIte, simprocAttr, netD, w1, nRow, List.map_append]
        | true =>
          cases c4 : decide (absI r + rate ≤ minC x.cap) with
          | false =>
            simp (maxSteps:=500000) only [↓vp, vv, ↓reduceIte, simprocAttr, c33_8, c33_7, c33_6, TPl, selAbs, PF, PH, BO, netD, hj', hjn, hjq, hjq', Int.toNat_natCast, hg, hg2, hab, hm2, w2, w3, w4, Seg.row, c1, c2, c3, c4, w1]
            refine nx O go _ _ (by omega) hOk ⟨?_, ?_, ?_, ?_, ?_, ?_⟩ ⟨?_, ?_, ?_, ?_, ?_⟩ ?_ ?_ ?_ ?_ ?_ ?_ ?_ ?_ ?_ ?_ ?_ ?_ ?_ <;> simp (maxSteps:=500000) only [↓vp, vv, ↓reduceIte, simprocAttr, netD, w1, nRow, List.map_append]
          | true =>
            have hnew : OutOk n R rate at0 j := ⟨x, r, hx, hy, (.inr (by simpa using c2)), by simpa using c3, by simpa using c4⟩
            simp (maxSteps:=500000) only [↓vp, vv, ↓reduceIte, simprocAttr, c33_8, c33_7, c33_6, TPl, selAbs, PF, PH, BO, netD, hj', hjn, hjq, hjq', Int.toNat_natCast, hg, hg2, hab, hm2, w2, w3, w4, Seg.row, c1, c2, c3, c4, y1, y2, w1]
            refine nx (O ++ [j]) (go + 1) _ _ (by rw [List.length_append, List.length_singleton]; omega) (fun k hk => by
              rcases List.mem_append.1 hk with hk | hk
              · exact hOk k hk
              · rw [List.mem_singleton.1 hk]; exact hnew) ⟨?_, ?_, ?_, ?_, ?_, ?_⟩ ⟨?_, ?_, ?_, ?_, ?_⟩ ?_ ?_ ?_ ?_ ?_ ?_ ?_ ?_ ?_ ?_ ?_ ?_ ?_ <;> simp (maxSteps:=500000) only [↓vp, vv, ↓reduceIte, simprocAttr, netD, w1, nRow, List.map_append]
      | false => exact key _ _ c1 c2 rfl
  · have hj2 : j = n.segs.length := by omega
    have hj' : ¬ (j : Int) < n.segs.length := by omega
    simp (maxSteps:=500000) only [↓vp, vv, ↓reduceIte, simprocAttr, c33_8, PF, hj']
    refine hX _ O go hOk (by omega) ⟨?_, ?_, ?_, ?_, ?_, ?_⟩ ⟨?_, ?_, ?_, ?_, ?_⟩ ?_ <;> simp (maxSteps:=500000) only [↓vp, vv, ↓reduceIte, simprocAttr, ]
end Go.Proofs.Ytadjhfjiimgddaa
