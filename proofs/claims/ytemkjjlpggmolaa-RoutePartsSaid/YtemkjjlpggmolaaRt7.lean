
/- Ways through a network: the plain laws behind the statements. -/
import Derived.Test.YtemkjjlpggmolaaRt6
namespace Go.Proofs.Ytemkjjlpggmolaa
open Go
set_option linter.unusedVariables false
set_option linter.unusedSimpArgs false
set_option maxRecDepth 100000

/-- A hop of a way. -/
theorem RtOk.hop {n : Net} {c : List Bool} (h : RtOk n c) {k : Nat} {x : Seg × Bool} {a w : Nat} {b : Bool} (hk : (n.segs.zip c)[k]? = some x) (e : ovr x a = some (w, b)) :
    k < n.segs.length ∧ c[k]? = some false ∧ hEnds n ((k : Int), b) = ((a : Int), (w : Int)) ∧ w < n.nodes.length ∧ a < n.nodes.length := by
  have hs := h.s x (List.mem_of_getElem? hk)
  have hlt : k < (n.segs.zip c).length := (List.getElem?_eq_some_iff.1 hk).1
  have hl := h.l
  rw [List.length_zip] at hlt
  have k1 : k < n.segs.length := by omega
  have k2 : k < c.length := by omega
  rw [zip_get k1 k2] at hk
  obtain ⟨q1, q2⟩ := ovr_lt hs e
  refine ⟨k1, ?_, ?_, q1, q2⟩
  · rw [List.getElem?_eq_getElem k2]
    cases hk
    unfold ovr at e
    dsimp only at e
    split at e
    · cases e
    · rename_i h1; simpa using h1
  · unfold hEnds
    dsimp only
    rw [show ((k : Int).toNat) = k from Int.toNat_natCast k, List.getElem?_eq_getElem k1]
    cases hk
    obtain ⟨⟨s1, s2⟩, s3, s4⟩ := hs
    unfold ovr at e
    dsimp only at e s1 s2 s3 s4 ⊢
    split at e
    · cases e
    · split at e
      · cases e
        rw [if_neg (by simp)]
        exact Prod.ext (by dsimp only; assumption) (by dsimp only; omega)
      · split at e
        · cases e
          rw [if_pos rfl]
          exact Prod.ext (by dsimp only; assumption) (by dsimp only; omega)
        · cases e
theorem WayP.inv {E : List (Seg × Bool)} {a t : Nat} {l : List (Int × Bool)} {h : Int × Bool} (hw : WayP E a (h :: l) t) : ∃ (k : Nat) (x : Seg × Bool) (w : Nat) (b : Bool), h = ((k : Int), b) ∧ E[k]? = some x ∧ ovr x a = some (w, b) ∧ WayP E w l t := by
  cases hw with
  | cons hk e h => exact ⟨_, _, _, _, rfl, hk, e, h⟩
theorem WayP.end' {E : List (Seg × Bool)} {a t : Nat} (hw : WayP E a [] t) : a = t := by cases hw; rfl
/-- A way that comes nearer with every hop has its length. -/
theorem len_way {n : Net} {c : List Bool} (h : RtOk n c) {t : Nat} {D0 : List Int} (hD : IsD n.nodes.length (n.segs.zip c) t D0) : ∀ (m a j : Nat) (vis : List Int) (s : Int), a < n.nodes.length → D0.getD a 0 = m →
    (j = 0 → vis = []) → (0 < j → vis.length = j + 1 ∧ vis.getD j 0 = a) → (∀ y ∈ vis, ∃ u : Nat, y = u ∧ (m : Int) ≤ D0.getD u 0) →
    lenGo n j (wayL (n.segs.zip c) D0 m a) vis s = (s + sumI (hCap n) (wayL (n.segs.zip c) D0 m a), 0)
  | 0, a, j, vis, s, ha, hm, h0, h1, h2 => by
    show lenGo n j [] vis s = (s + sumI (hCap n) [], 0)
    simp [lenGo, sumI]
  | m + 1, a, j, vis, s, ha, hm, h0, h1, h2 => by
    obtain ⟨k, w, b, e⟩ := hD.pick ha hm
    obtain ⟨_, ⟨x, q2, q3⟩, q4, _⟩ := pickF_spec e
    rw [Nat.sub_zero] at q2
    obtain ⟨_, _, he, hw, _⟩ := h.hop q2 q3
    unfold wayL
    rw [e]
    dsimp only
    unfold lenGo
    rw [he]
    dsimp only
    obtain ⟨vis', hvis⟩ : ∃ v', (if j = 0 then vis ++ [(a : Int)] else vis) = v' := ⟨_, rfl⟩
    have f1 : vis'.length = j + 1 ∧ vis'.getD j 0 = a ∧ ∀ y ∈ vis', ∃ u : Nat, y = u ∧ ((m + 1 : Nat) : Int) ≤ D0.getD u 0 := by
      subst hvis
      rcases Nat.eq_zero_or_pos j with rfl | hj
      · rw [h0 rfl, if_pos rfl]
        refine ⟨rfl, rfl, fun y hy => ?_⟩
        rw [List.nil_append, List.mem_singleton] at hy
        exact ⟨a, hy, by omega⟩
      · rw [if_neg (by omega)]
        exact ⟨(h1 hj).1, (h1 hj).2, h2⟩
    obtain ⟨f1, f2, f3⟩ := f1
    rw [hvis, f2]
    have nc : vis'.contains (w : Int) = false := by
      cases ec : vis'.contains (w : Int) with
      | false => rfl
      | true =>
        obtain ⟨u, hu, hu2⟩ := f3 w (by simpa using ec)
        have : u = w := by omega
        subst this
        omega
    rw [nc, if_neg (by simp), if_neg (by simp)]
    have := len_way h hD m w (j + 1) (vis' ++ [(w : Int)]) (s + hCap n ((k : Int), b)) hw (by omega) (by omega) (fun _ => ⟨by rw [List.length_append, f1]; rfl, by rw [List.getD_eq_getElem?_getD, ← f1, List.getElem?_append_right (Nat.le_refl _), Nat.sub_self]; rfl⟩) (fun y hy => by
      rcases List.mem_append.1 hy with hy | hy
      · obtain ⟨u, hu, hu2⟩ := f3 y hy
        exact ⟨u, hu, by omega⟩
      · rw [List.mem_singleton.1 hy]
        exact ⟨w, rfl, by omega⟩)
    rw [this]
    show _ = (s + sumI (hCap n) (((k : Int), b) :: wayL (n.segs.zip c) D0 m w), 0)
    unfold sumI
    rw [Int.add_assoc]
    congr 2
    cases wayL (n.segs.zip c) D0 m w <;> rfl
theorem WayP.known {n : Net} {c : List Bool} (h : RtOk n c) : ∀ {l : List (Int × Bool)} {a t : Nat}, WayP (n.segs.zip c) a l t → ∀ y ∈ l, unkH n y = false ∧ hIn n y ∧ c.getD y.1.toNat false = false
  | [], a, t, _, y, hy => by cases hy
  | x :: l, a, t, hw, y, hy => by
    obtain ⟨k, z, w, b, rfl, hk, e, hr⟩ := hw.inv
    rcases List.mem_cons.1 hy with rfl | hy
    · obtain ⟨q1, q2, _⟩ := h.hop hk e
      have hu : unkH n ((k : Int), b) = false := by
        unfold unkH
        dsimp only
        rw [decide_eq_false (by omega), if_neg (by simp)]
        exact decide_eq_false (by omega)
      refine ⟨hu, ⟨by dsimp only; omega, by dsimp only; omega⟩, ?_⟩
      dsimp only
      rw [Int.toNat_natCast, List.getD_eq_getElem?_getD, q2]
      rfl
    · exact hr.known h y hy
theorem len_rt {n : Net} {c : List Bool} (h : RtV n c) {a t : Nat} (ha : a < n.nodes.length) (ht : t < n.nodes.length) (h0 : 0 ≤ (hopsL n c t).getD a 0) : lenR n (wayW n c a t) = (sumI (hCap n) (wayW n c a t), 0) := by
  have hw := (h.ok.way ha ht h0).1
  have hu : (wayW n c a t).any (unkH n) = false := by
    cases e : (wayW n c a t).any (unkH n) with
    | false => rfl
    | true =>
      obtain ⟨y, hy, hy2⟩ := List.any_eq_true.1 e
      rw [(hw.known h.ok y hy).1] at hy2
      cases hy2
  unfold lenR
  rw [if_neg (by have := h.ck; omega), hu, if_neg (by simp)]
  have := len_way h.ok (h.ok.isD ht) ((hopsL n c t).getD a 0).toNat a 0 [] 0 ha (by omega) (fun _ => rfl) (fun hh => absurd hh (by omega)) (fun y hy => by cases hy)
  unfold wayW
  rw [this, Int.zero_add]
theorem len_nil {n : Net} (h : checkI n = 0) : lenR n [] = (0, 0) := by
  unfold lenR
  rw [if_neg (by omega)]
  rfl
/-- The node next to another one is not farther off by two. -/
theorem RtOk.near {n : Net} {c : List Bool} (h : RtOk n c) {x : Seg × Bool} (hx : x ∈ n.segs.zip c) {a w t : Nat} {b : Bool} (ht : t < n.nodes.length) (e : ovr x a = some (w, b)) (h0 : 0 ≤ (hopsL n c t).getD a 0) : 0 ≤ (hopsL n c t).getD w 0 ∧ (hopsL n c t).getD a 0 ≤ (hopsL n c t).getD w 0 + 1 := by
  have hD := h.isD ht
  have q := hD.adj x hx a w b e h0
  obtain ⟨b', e'⟩ := ovr_sym (h.s x hx) e
  exact ⟨q.1, (hD.adj x hx w a b' e' q.1).2⟩
/-- One segment more is closed. -/
theorem shut_zip {n : Net} {c : List Bool} (hl : c.length = n.segs.length) {x : Nat} {k : Nat} (hk : k ≠ x) : (n.segs.zip (c.set x true))[k]? = (n.segs.zip c)[k]? := by
  rcases Nat.lt_or_ge k n.segs.length with h1 | h1
  · rw [zip_get h1 (by rw [List.length_set]; omega), zip_get h1 (by omega)]
    congr 2
    rw [List.getElem_set_ne (by omega)]
  · rw [List.getElem?_eq_none (by rw [List.length_zip]; omega), List.getElem?_eq_none (by rw [List.length_zip]; omega)]
theorem shut_at {n : Net} {c : List Bool} (hl : c.length = n.segs.length) {x : Nat} {y : Seg × Bool} (hy : (n.segs.zip (c.set x true))[x]? = some y) (v : Nat) : ovr y v = Option.none := by
  have hlt : x < (n.segs.zip (c.set x true)).length := (List.getElem?_eq_some_iff.1 hy).1
  rw [List.length_zip, List.length_set] at hlt
  rw [zip_get (by omega) (by rw [List.length_set]; omega)] at hy
  cases hy
  unfold ovr
  rw [if_pos (by simp)]
theorem shut_sub {n : Net} {c : List Bool} (hl : c.length = n.segs.length) {x : Nat} : ∀ y ∈ n.segs.zip (c.set x true), y ∈ n.segs.zip c ∨ ∀ v, ovr y v = Option.none := fun y hy => by
  obtain ⟨k, hk⟩ := List.getElem?_of_mem hy
  by_cases e : k = x
  · subst e; exact .inr fun v => shut_at hl hk v
  · rw [shut_zip hl e] at hk
    exact .inl (List.mem_of_getElem? hk)
theorem WayP.shut {n : Net} {c : List Bool} (hl : c.length = n.segs.length) {x : Nat} : ∀ {l : List (Int × Bool)} {a t : Nat}, WayP (n.segs.zip c) a l t → (∀ h ∈ l, h.1 ≠ (x : Int)) → WayP (n.segs.zip (c.set x true)) a l t
  | [], a, t, hw, _ => by rw [hw.end']; exact .nil t
  | h :: l, a, t, hw, hn => by
    obtain ⟨k, z, w, b, rfl, hk, e, hr⟩ := hw.inv
    have h1 := hn _ (List.mem_cons_self ..)
    dsimp only at h1
    exact .cons (by rw [shut_zip hl (by omega)]; exact hk) e (hr.shut hl fun y hy => hn y (List.mem_cons_of_mem _ hy))
theorem RtOk.set {n : Net} {c : List Bool} (h : RtOk n c) (x : Nat) : RtOk n (c.set x true) := ⟨by rw [List.length_set]; exact h.l, fun y hy => by
  obtain ⟨k, hk⟩ := List.getElem?_of_mem hy
  have hlt : k < (n.segs.zip (c.set x true)).length := (List.getElem?_eq_some_iff.1 hk).1
  have hl := h.l
  rw [List.length_zip, List.length_set] at hlt
  rw [zip_get (by omega) (by rw [List.length_set]; omega)] at hk
  cases hk
  exact h.s (n.segs[k], c[k]) (List.mem_of_getElem? (zip_get (by omega) (by omega)))⟩
/-- Closing makes nothing nearer. -/
theorem shut_far {n : Net} {c : List Bool} (h : RtOk n c) (x : Nat) {a t : Nat} (ha : a < n.nodes.length) (ht : t < n.nodes.length) (h0 : 0 ≤ (hopsL n (c.set x true) t).getD a 0) : 0 ≤ (hopsL n c t).getD a 0 ∧ (hopsL n c t).getD a 0 ≤ (hopsL n (c.set x true) t).getD a 0 := by
  have h' := h.set x
  obtain ⟨v, hv⟩ : ∃ v : Nat, (hopsL n (c.set x true) t).getD a 0 = v := ⟨((hopsL n (c.set x true) t).getD a 0).toNat, by omega⟩
  have := ((h'.isD ht).hops h'.s v a ha hv).sub (shut_sub h.l)
  have := (h.isD ht).le h.s ht (this.symm h.s)
  omega
theorem shut_near {n : Net} {c : List Bool} (h : RtOk n c) (x : Nat) {a t : Nat} (ha : a < n.nodes.length) (ht : t < n.nodes.length) {l : List (Int × Bool)} (hw : WayP (n.segs.zip c) a l t) (hn : ∀ y ∈ l, y.1 ≠ (x : Int)) : 0 ≤ (hopsL n (c.set x true) t).getD a 0 ∧ (hopsL n (c.set x true) t).getD a 0 ≤ l.length := by
  have h' := h.set x
  exact (h'.isD ht).le h'.s ht ((hw.shut h.l hn).hops.symm h'.s)
theorem shut_way {n : Net} {c : List Bool} (h : RtOk n c) (x : Nat) {t : Nat} (ht : t < n.nodes.length) : ∀ (m a : Nat), a < n.nodes.length → (hopsL n c t).getD a 0 = m → (∀ y ∈ wayL (n.segs.zip c) (hopsL n c t) m a, y.1 ≠ (x : Int)) →
    (hopsL n (c.set x true) t).getD a 0 = m ∧ wayL (n.segs.zip (c.set x true)) (hopsL n (c.set x true) t) m a = wayL (n.segs.zip c) (hopsL n c t) m a := fun m => by
  have h' := h.set x
  have hD := h.isD ht
  have dist : ∀ m a : Nat, a < n.nodes.length → (hopsL n c t).getD a 0 = m → (∀ y ∈ wayL (n.segs.zip c) (hopsL n c t) m a, y.1 ≠ (x : Int)) → (hopsL n (c.set x true) t).getD a 0 = m := fun m a ha hm hn => by
    obtain ⟨w1, w2⟩ := way_spec h.s hD m a ha hm
    have n1 := shut_near h x ha ht w1 hn
    have n2 := shut_far h x ha ht n1.1
    omega
  induction m with
  | zero => exact fun a ha hm hn => ⟨dist 0 a ha hm hn, rfl⟩
  | succ m ih =>
    intro a ha hm hn
    refine ⟨dist (m + 1) a ha hm hn, ?_⟩
    have da := dist (m + 1) a ha hm hn
    obtain ⟨k, w, b, e⟩ := hD.pick ha hm
    obtain ⟨_, ⟨z, q2, q3⟩, q4, q5⟩ := pickF_spec e
    rw [Nat.sub_zero] at q2 q5
    have hw := (ovr_lt (h.s z (List.mem_of_getElem? q2)) q3).1
    have e2 : wayL (n.segs.zip c) (hopsL n c t) (m + 1) a = ((k : Int), b) :: wayL (n.segs.zip c) (hopsL n c t) m w := by
      show (match pickF (hopsL n c t) a 0 (n.segs.zip c) with
        | some (k, w, b) => ((k : Int), b) :: wayL (n.segs.zip c) (hopsL n c t) m w
        | Option.none => []) = _
      rw [e]
    rw [e2] at hn ⊢
    have hkx := hn _ (List.mem_cons_self ..)
    dsimp only at hkx
    obtain ⟨i1, i2⟩ := ih w hw (by omega) fun y hy => hn y (List.mem_cons_of_mem _ hy)
    have hp : pickF (hopsL n (c.set x true) t) a 0 (n.segs.zip (c.set x true)) = some (0 + k, w, b) := by
      refine pickF_at (x := z) (by rw [shut_zip h.l (by omega)]; exact q2) q3 (by omega) fun i hi y hy w' b' e' hd => ?_
      by_cases hix : i = x
      · subst hix
        rw [shut_at h.l hy] at e'
        cases e'
      · rw [shut_zip h.l hix] at hy
        have hym := List.mem_of_getElem? hy
        have hw' := (ovr_lt (h.s y hym) e').1
        have near := h.near hym ht e' (by omega)
        have far := shut_far h x hw' ht (by omega)
        exact q5 i hi y hy w' b' e' (by omega)
    rw [Nat.zero_add] at hp
    show (match pickF (hopsL n (c.set x true) t) a 0 (n.segs.zip (c.set x true)) with
      | some (k, w, b) => ((k : Int), b) :: wayL (n.segs.zip (c.set x true)) (hopsL n (c.set x true) t) m w
      | Option.none => []) = _
    rw [hp]
    dsimp only
    rw [i2]
theorem shut_same {n : Net} {c : List Bool} (h : RtOk n c) (x : Nat) {a t : Nat} (ha : a < n.nodes.length) (ht : t < n.nodes.length) (h0 : 0 ≤ (hopsL n c t).getD a 0) (hn : ∀ y ∈ wayW n c a t, y.1 ≠ (x : Int)) : 0 ≤ (hopsL n (c.set x true) t).getD a 0 ∧ wayW n (c.set x true) a t = wayW n c a t := by
  have := shut_way h x ht ((hopsL n c t).getD a 0).toNat a ha (by omega) hn
  refine ⟨by omega, ?_⟩
  unfold wayW
  rw [this.1]
  rw [Int.toNat_natCast]
  exact this.2
/-- Nodes that a way joins. -/
def Jn (n : Net) (c : List Bool) (a b : Nat) : Prop := ∃ m, Hops (n.segs.zip c) a b m
theorem Jn.refl (n : Net) (c : List Bool) (a : Nat) : Jn n c a a := ⟨0, .nil a⟩
theorem Jn.trans {n : Net} {c : List Bool} {a b d : Nat} (h : Jn n c a b) (k : Jn n c b d) : Jn n c a d := by
  obtain ⟨m, h⟩ := h
  obtain ⟨j, k⟩ := k
  exact ⟨_, h.trans k⟩
theorem Jn.symm {n : Net} {c : List Bool} (ho : RtOk n c) {a b : Nat} (h : Jn n c a b) : Jn n c b a := by
  obtain ⟨m, h⟩ := h
  exact ⟨m, h.symm ho.s⟩
theorem RtOk.mem {n : Net} {c : List Bool} (h : RtOk n c) {k j : Nat} (hk : k < n.nodes.length) : j ∈ rL n c k ↔ j < n.nodes.length ∧ Jn n c k j := h.mem_rL hk
theorem RtOk.jn {n : Net} {c : List Bool} (h : RtOk n c) {a t : Nat} (ha : a < n.nodes.length) (ht : t < n.nodes.length) : 0 ≤ (hopsL n c t).getD a 0 ↔ Jn n c a t := by
  have := h.join ht ha
  unfold joinB at this
  rw [this]
  exact ⟨fun hh => Jn.symm h hh, fun hh => Jn.symm h hh⟩
theorem RtOk.root {n : Net} {c : List Bool} (h : RtOk n c) {k : Nat} (hk : k < n.nodes.length) : rootB n c k = true ↔ ∀ j, j < n.nodes.length → Jn n c k j → k ≤ j := root_iff h hk
theorem RtOk.has_root {n : Net} {c : List Bool} (h : RtOk n c) : ∀ (y m : Nat), y ≤ m → y < n.nodes.length → ∃ r, r < n.nodes.length ∧ rootB n c r = true ∧ Jn n c y r
  | y, m, hm, hy => by
    cases e : rootB n c y with
    | true => exact ⟨y, hy, e, Jn.refl n c y⟩
    | false =>
      have : ¬ ∀ j, j < n.nodes.length → Jn n c y j → y ≤ j := fun hh => by rw [(h.root hy).2 hh] at e; cases e
      have ex : ∃ j, j < n.nodes.length ∧ Jn n c y j ∧ j < y := by
        rcases Classical.em (∃ j, j < n.nodes.length ∧ Jn n c y j ∧ j < y) with h1 | h1
        · exact h1
        · exact absurd (fun j hj hJ => by
            rcases Nat.lt_or_ge j y with h2 | h2
            · exact absurd ⟨j, hj, hJ, h2⟩ h1
            · exact h2) this
      obtain ⟨j, hj, hJ, hlt⟩ := ex
      cases m with
      | zero => omega
      | succ m =>
        obtain ⟨r, r1, r2, r3⟩ := h.has_root j m (by omega) hj
        exact ⟨r, r1, r2, hJ.trans r3⟩
theorem RtOk.one_root {n : Net} {c : List Bool} (h : RtOk n c) {r q : Nat} (hr : r < n.nodes.length) (hq : q < n.nodes.length) (h1 : rootB n c r = true) (h2 : rootB n c q = true) (hJ : Jn n c r q) : r = q :=
  Nat.le_antisymm ((h.root hr).1 h1 q hq hJ) ((h.root hq).1 h2 r hr (Jn.symm h hJ))
/-- Every node is in one part. -/
def rootsL (n : Net) (c : List Bool) : List Nat := (List.range n.nodes.length).filter (rootB n c)
theorem parts_eq (n : Net) (c : List Bool) : partsL n c = (rootsL n c).map (rL n c) := rfl
theorem mem_roots {n : Net} {c : List Bool} {r : Nat} : r ∈ rootsL n c ↔ r < n.nodes.length ∧ rootB n c r = true := by
  unfold rootsL
  rw [List.mem_filter, List.mem_range]
theorem roots_nd (n : Net) (c : List Bool) : (rootsL n c).Nodup := List.Pairwise.filter _ List.nodup_range
theorem part_at {n : Net} {c : List Bool} {j : Nat} {l : List Nat} (h : (partsL n c)[j]? = some l) : ∃ r, (rootsL n c)[j]? = some r ∧ r < n.nodes.length ∧ rootB n c r = true ∧ l = rL n c r := by
  rw [parts_eq, List.getElem?_map] at h
  cases e : (rootsL n c)[j]? with
  | none => rw [e] at h; cases h
  | some r =>
    rw [e] at h
    cases h
    have := mem_roots.1 (List.mem_of_getElem? e)
    exact ⟨r, rfl, this.1, this.2, rfl⟩
theorem part_lt {n : Net} {c : List Bool} {j : Nat} {l : List Nat} (h : (partsL n c)[j]? = some l) {y : Nat} (hy : y ∈ l) : y < n.nodes.length := by
  obtain ⟨r, _, _, _, rfl⟩ := part_at h
  exact List.mem_range.1 (List.mem_filter.1 hy).1
theorem part_one {n : Net} {c : List Bool} (h : RtOk n c) {i j : Nat} {l m : List Nat} (hi : (partsL n c)[i]? = some l) (hj : (partsL n c)[j]? = some m) {y z : Nat} (hy : y ∈ l) (hz : z ∈ m) (hJ : Jn n c y z) : i = j := by
  obtain ⟨r, e1, r1, r2, rfl⟩ := part_at hi
  obtain ⟨q, e2, q1, q2, rfl⟩ := part_at hj
  have h1 := (h.mem r1).1 hy
  have h2 := (h.mem q1).1 hz
  have he := h.one_root r1 q1 r2 q2 ((h1.2.trans hJ).trans (Jn.symm h h2.2))
  subst he
  obtain ⟨a1, a2⟩ := List.getElem?_eq_some_iff.1 e1
  obtain ⟨b1, b2⟩ := List.getElem?_eq_some_iff.1 e2
  exact (List.getElem_inj (roots_nd n c)).1 (a2.trans b2.symm)
theorem part_of {n : Net} {c : List Bool} (h : RtOk n c) {y : Nat} (hy : y < n.nodes.length) : ∃ (j : Nat) (l : List Nat), (partsL n c)[j]? = some l ∧ y ∈ l := by
  obtain ⟨r, r1, r2, r3⟩ := h.has_root y y (Nat.le_refl _) hy
  obtain ⟨j, hj⟩ := List.getElem?_of_mem (mem_roots.2 ⟨r1, r2⟩)
  exact ⟨j, rL n c r, by rw [parts_eq, List.getElem?_map, hj]; rfl, (h.mem r1).2 ⟨hy, Jn.symm h r3⟩⟩
theorem part_joined {n : Net} {c : List Bool} (h : RtOk n c) {j : Nat} {l : List Nat} (hj : (partsL n c)[j]? = some l) {y z : Nat} (hy : y ∈ l) (hz : z ∈ l) : Jn n c y z := by
  obtain ⟨r, e1, r1, r2, rfl⟩ := part_at hj
  have h1 := (h.mem r1).1 hy
  have h2 := (h.mem r1).1 hz
  exact (Jn.symm h h1.2).trans h2.2
theorem part_nd {n : Net} {c : List Bool} {j : Nat} {l : List Nat} (h : (partsL n c)[j]? = some l) : l.Nodup := by
  obtain ⟨r, _, _, _, rfl⟩ := part_at h
  exact List.Pairwise.filter _ List.nodup_range
theorem flat_len {n : Net} {c : List Bool} (h : RtOk n c) : (partsL n c).flatten.length = n.nodes.length := by
  have nd : (partsL n c).flatten.Nodup := by
    refine List.pairwise_flatten.2 ⟨fun l hl => ?_, List.pairwise_iff_getElem.2 fun i j hi hj hij y hy z hz e => ?_⟩
    · obtain ⟨j, hj⟩ := List.getElem?_of_mem hl
      exact part_nd hj
    · subst e
      have := part_one h (List.getElem?_eq_getElem hi) (List.getElem?_eq_getElem hj) hy hz (Jn.refl n c y)
      omega
  refine Nat.le_antisymm ?_ ?_
  · have := List.Nodup.length_le_of_subset nd (l₂ := List.range n.nodes.length) fun y hy => by
      obtain ⟨l, hl, hy⟩ := List.mem_flatten.1 hy
      obtain ⟨j, hj⟩ := List.getElem?_of_mem hl
      exact List.mem_range.2 (part_lt hj hy)
    rw [List.length_range] at this
    exact this
  · have := List.Nodup.length_le_of_subset (List.nodup_range (n := n.nodes.length)) (l₂ := (partsL n c).flatten) fun y hy => by
      obtain ⟨j, l, hj, hl⟩ := part_of h (List.mem_range.1 hy)
      exact List.mem_flatten.2 ⟨l, List.mem_of_getElem? hj, hl⟩
    rw [List.length_range] at this
    exact this
/-- One more of them. -/
theorem filter_one {p q : Nat → Bool} {m : Nat} (hp : p m = false) (hq : q m = true) (he : ∀ k, k ≠ m → p k = q k) : ∀ N, ((List.range N).filter q).length = ((List.range N).filter p).length + if m < N then 1 else 0
  | 0 => rfl
  | N + 1 => by
    rw [List.range_succ, List.filter_append, List.filter_append, List.length_append, List.length_append, filter_one hp hq he N]
    by_cases e : N = m
    · subst e
      rw [if_neg (by omega), if_pos (by omega)]
      simp [hp, hq]
    · have := he N e
      simp only [List.filter_cons, List.filter_nil, this]
      by_cases hlt : m < N
      · rw [if_pos hlt, if_pos (show m < N + 1 by omega)]; split <;> simp <;> omega
      · rw [if_neg hlt, if_neg (show ¬ m < N + 1 by omega)]; split <;> simp
theorem Jn.shut {n : Net} {c : List Bool} (h : RtOk n c) {x a b : Nat} (hJ : Jn n (c.set x true) a b) : Jn n c a b := by
  obtain ⟨m, hJ⟩ := hJ
  exact ⟨m, hJ.sub (shut_sub h.l)⟩
theorem cut_split {n : Net} {c : List Bool} (h : RtOk n c) {x : Nat} (hx : x < n.segs.length) {u v : Nat} (hu : n.segs[x].fr = u) (hv : n.segs[x].to = v) {a b m : Nat} (hh : Hops (n.segs.zip c) a b m) : Jn n (c.set x true) a b ∨ (Jn n (c.set x true) a u ∧ Jn n (c.set x true) v b) ∨ (Jn n (c.set x true) a v ∧ Jn n (c.set x true) u b) := by
  have hl := h.l
  induction hh with
  | nil a => exact .inl (Jn.refl ..)
  | @cons z a w b m k hz e hh ih =>
    obtain ⟨i, hi⟩ := List.getElem?_of_mem hz
    by_cases hix : i = x
    · subst hix
      rw [zip_get hx (by omega)] at hi
      cases hi
      have uv : (a = u ∧ w = v) ∨ (a = v ∧ w = u) := by
        unfold ovr at e
        dsimp only at e
        rw [hu, hv] at e
        split at e
        · cases e
        · split at e
          · rename_i q; cases e; exact .inl ⟨by omega, by omega⟩
          · split at e
            · rename_i q; cases e; exact .inr ⟨by omega, by omega⟩
            · cases e
      rcases uv with ⟨rfl, rfl⟩ | ⟨rfl, rfl⟩
      · rcases ih with h1 | h1 | h1
        · exact .inr (.inl ⟨Jn.refl .., h1⟩)
        · exact .inr (.inl ⟨Jn.refl .., h1.2⟩)
        · exact .inl h1.2
      · rcases ih with h1 | h1 | h1
        · exact .inr (.inr ⟨Jn.refl .., h1⟩)
        · exact .inl h1.2
        · exact .inr (.inr ⟨Jn.refl .., h1.2⟩)
    · have st : Jn n (c.set x true) a w := ⟨1, .cons (List.mem_of_getElem? (by rw [shut_zip hl hix]; exact hi)) e (.nil w)⟩
      rcases ih with h1 | h1 | h1
      · exact .inl (st.trans h1)
      · exact .inr (.inl ⟨st.trans h1.1, h1.2⟩)
      · exact .inr (.inr ⟨st.trans h1.1, h1.2⟩)
theorem parts_len (n : Net) (c : List Bool) : (partsL n c).length = (rootsL n c).length := by rw [parts_eq, List.length_map]
theorem roots_congr {n : Net} {c d : List Bool} (hc : RtOk n c) (hd : RtOk n d) (h : ∀ a b, Jn n c a b ↔ Jn n d a b) : (rootsL n c).length = (rootsL n d).length := by
  unfold rootsL
  congr 1
  refine List.filter_congr fun k hk => ?_
  have hk := List.mem_range.1 hk
  rw [Bool.eq_iff_iff, hc.root hk, hd.root hk]
  exact ⟨fun hh j hj hJ => hh j hj ((h k j).2 hJ), fun hh j hj hJ => hh j hj ((h k j).1 hJ)⟩
/-- A segment cuts exactly if there is one part more when it is closed. -/
theorem cut_law {n : Net} {c : List Bool} (h : RtOk n c) {x : Nat} (hx : x < n.segs.length) : (partsL n (c.set x true)).length = (partsL n c).length + if cutB n c x = true then 1 else 0 := by
  have hl := h.l
  have h' := h.set x
  rw [parts_len, parts_len]
  unfold cutB
  cases hc : c.getD x false with
  | true =>
    rw [if_pos rfl, if_neg Bool.false_ne_true]
    have hxc : x < c.length := by omega
    have : c.set x true = c := by
      rw [List.getD_eq_getElem?_getD, List.getElem?_eq_getElem hxc] at hc
      have hc' : c[x] = true := hc
      rw [← hc']
      exact List.set_getElem_self hxc
    rw [this]
    rfl
  | false =>
    rw [if_neg Bool.false_ne_true, List.getElem?_eq_getElem hx]
    dsimp only
    have hxc : x < c.length := by omega
    rw [List.getD_eq_getElem?_getD, List.getElem?_eq_getElem hxc] at hc
    have hc' : c[x] = false := hc
    have hsi := h.s (n.segs[x], c[x]) (List.mem_of_getElem? (zip_get hx hxc))
    obtain ⟨⟨s1, s2⟩, s3, s4⟩ := hsi
    dsimp only at s1 s2 s3 s4
    obtain ⟨u, hu⟩ : ∃ u : Nat, n.segs[x].fr = u := ⟨_, (Int.toNat_of_nonneg s1).symm⟩
    obtain ⟨v, hv⟩ : ∃ v : Nat, n.segs[x].to = v := ⟨_, (Int.toNat_of_nonneg s3).symm⟩
    have hun : u < n.nodes.length := by omega
    have hvn : v < n.nodes.length := by omega
    have huv : Jn n c u v := by
      refine ⟨1, .cons (x := (n.segs[x], c[x])) (k := false) (List.mem_of_getElem? (zip_get hx hxc)) ?_ (.nil v)⟩
      unfold ovr
      dsimp only
      rw [hc', hu, hv, if_neg (by simp), if_pos rfl]
      rfl
    have dec := fun {a b m : Nat} (hh : Hops (n.segs.zip c) a b m) => cut_split h hx hu hv hh
    simp only [hu, hv, Int.toNat_natCast]
    have jn := h'.jn hvn hun
    cases hd : decide ((hopsL n (c.set x true) u).getD v 0 < 0) with
    | false =>
      rw [if_neg (by simp)]
      have hJ : Jn n (c.set x true) v u := jn.1 (by simpa using hd)
      refine roots_congr h' h fun a b => ⟨fun hh => hh.shut h, fun ⟨m, hh⟩ => ?_⟩
      rcases dec hh with h1 | h1 | h1
      · exact h1
      · exact (h1.1.trans (Jn.symm h' hJ)).trans h1.2
      · exact (h1.1.trans hJ).trans h1.2
    | true =>
      rw [if_pos rfl]
      have hJ : ¬ Jn n (c.set x true) v u := fun hh => by have := jn.2 hh; have h9 := of_decide_eq_true hd; omega
      obtain ⟨ru, a1, a2, a3⟩ := h'.has_root u u (Nat.le_refl _) hun
      obtain ⟨rv, b1, b2, b3⟩ := h'.has_root v v (Nat.le_refl _) hvn
      have hne : ru ≠ rv := fun e => by subst e; exact hJ (b3.trans (Jn.symm h' a3))
      have hjj : Jn n c ru rv := ((Jn.symm h (a3.shut h)).trans huv).trans (b3.shut h)
      have key : ∀ M s : Nat, M < n.nodes.length → s < n.nodes.length → s < M → rootB n (c.set x true) M = true → Jn n c M s → (∀ k, k ≠ M → k < n.nodes.length → rootB n (c.set x true) k = true → rootB n c k = true) → (rootsL n (c.set x true)).length = (rootsL n c).length + 1 := fun M s hM hs hlt hr hJM hall => by
        have hf : rootB n c M = false := by
          cases e : rootB n c M with
          | false => rfl
          | true => have := (h.root hM).1 e s hs hJM; omega
        have := filter_one (p := fun k => decide (k < n.nodes.length) && rootB n c k) (q := fun k => decide (k < n.nodes.length) && rootB n (c.set x true) k) (m := M) (by rw [hf, Bool.and_false]) (by rw [hr, decide_eq_true hM]; rfl) (fun k hk => by
          cases e : decide (k < n.nodes.length) with
          | false => rfl
          | true =>
            have hkn : k < n.nodes.length := by simpa using e
            rw [Bool.true_and, Bool.true_and, Bool.eq_iff_iff]
            exact ⟨fun hh => (h'.root hkn).2 fun j hj hJ => (h.root hkn).1 hh j hj (hJ.shut h), hall k hk hkn⟩) n.nodes.length
        rw [if_pos hM] at this
        have g : ∀ f : Nat → Bool, (List.range n.nodes.length).filter (fun k => decide (k < n.nodes.length) && f k) = (List.range n.nodes.length).filter f := fun f => List.filter_congr fun k hk => by rw [decide_eq_true (List.mem_range.1 hk), Bool.true_and]
        rw [g, g] at this
        exact this
      have sup : ∀ k, k < n.nodes.length → rootB n (c.set x true) k = true → (∀ j, j < n.nodes.length → k = ru → Jn n (c.set x true) v j → k ≤ j) → (∀ j, j < n.nodes.length → k = rv → Jn n (c.set x true) u j → k ≤ j) → rootB n c k = true := fun k hk hr h1 h2 => (h.root hk).2 fun j hj ⟨m, hh⟩ => by
        rcases dec hh with d | d | d
        · exact (h'.root hk).1 hr j hj d
        · exact h1 j hj (h'.one_root hk a1 hr a2 (d.1.trans a3)) d.2
        · exact h2 j hj (h'.one_root hk b1 hr b2 (d.1.trans b3)) d.2
      rcases Nat.lt_or_ge ru rv with hlt | hge
      · refine key rv ru b1 a1 hlt b2 (Jn.symm h hjj) fun k hk hkn hr => sup k hkn hr (fun j hj e hJj => ?_) (fun j hj e _ => absurd e hk)
        subst e
        have := (h'.root b1).1 b2 j hj ((Jn.symm h' b3).trans hJj)
        omega
      · refine key ru rv a1 b1 (by omega) a2 hjj fun k hk hkn hr => sup k hkn hr (fun j hj e _ => absurd e hk) (fun j hj e hJj => ?_)
        subst e
        have := (h'.root a1).1 a2 j hj ((Jn.symm h' a3).trans hJj)
        omega
theorem RtV.gen {n : Net} (hn : NetOk n) {c : List Bool} (hc : c.length = n.segs.length) : RtV n c := ⟨net_sz hn, check_ok hn, hc⟩
end Go.Proofs.Ytemkjjlpggmolaa
