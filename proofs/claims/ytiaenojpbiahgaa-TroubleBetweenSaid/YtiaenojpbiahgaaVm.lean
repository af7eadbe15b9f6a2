
/- Regions over abstract data: operations that do not disturb one another may change places. -/
import Derived.Test.YtiaenojpbiahgaaVl
namespace Go.Proofs.Ytiaenojpbiahgaa
open Go
set_option linter.unusedVariables false
set_option linter.unusedSimpArgs false

theorem kill_at {H H2 : Hp} {i j : Nm} (h : H2 i = H i) : (H2.kill j) i = (H.kill j) i := by
  unfold Hp.kill
  by_cases hij : i = j
  · subst hij
    rw [h]
    cases hi : H i with
    | none => exact h
    | some e => dsimp only; rw [Hp.put_same, Hp.put_same]
  · cases H j with
    | none =>
      cases H2 j with
      | none => exact h
      | some e => dsimp only; rw [Hp.put_other _ hij]; exact h
    | some e' =>
      cases H2 j with
      | none => dsimp only; rw [Hp.put_other _ hij]; exact h
      | some e => dsimp only; rw [Hp.put_other _ hij, Hp.put_other _ hij]; exact h
theorem kills_at : ∀ {ks : List Nm} {H H2 : Hp} {i : Nm}, H2 i = H i → (H2.kills ks) i = (H.kills ks) i
  | [], _, _, _, h => h
  | k :: ks, H, H2, i, h => kills_at (ks := ks) (kill_at h)
theorem kill_out {H : Hp} {i j : Nm} (h : i ≠ j) : (H.kill j) i = H i := by
  unfold Hp.kill
  cases H j with
  | none => rfl
  | some e => exact Hp.put_other _ h _
theorem kills_out : ∀ {ks : List Nm} {H : Hp} {i : Nm}, i ∉ ks → (H.kills ks) i = H i
  | [], _, _, _ => rfl
  | k :: ks, H, i, h => by
    rw [Hp.kills, kills_out (fun h' => h (List.mem_cons_of_mem _ h')), kill_out (fun h' => h (by rw [h']; exact List.mem_cons_self ..))]
theorem over_at {H' : Hp} : ∀ {js : List Nm} {H H2 : Hp} {i : Nm}, H2 i = H i → (H2.over H' js) i = (H.over H' js) i
  | [], _, _, _, h => h
  | j :: js, H, H2, i, h => by
    unfold Hp.over
    cases H' j with
    | none => exact over_at h
    | some e =>
      dsimp only
      by_cases hij : i = j
      · subst hij; rw [Hp.put_same, Hp.put_same]
      · rw [Hp.put_other _ hij, Hp.put_other _ hij]; exact over_at h
/-- What an operation does to what is owned. -/
def upd (ks js : List Nm) (H' H : Hp) : Hp := (H.kills ks).over H' js
theorem upd_at {ks js : List Nm} {H' H H2 : Hp} {i : Nm} (h : H2 i = H i) : upd ks js H' H2 i = upd ks js H' H i := over_at (kills_at h)
theorem upd_out {ks js : List Nm} {H' H : Hp} {i : Nm} (h1 : i ∉ ks) (h2 : i ∉ js) : upd ks js H' H i = H i := by
  unfold upd
  rw [over_other (.inl h2), kills_out h1]
theorem addNm_mem {i : Nm} : ∀ {is js : List Nm}, i ∈ js ∨ i ∈ is → i ∈ addNm js is
  | [], js, h => h.elim id (fun h => by cases h)
  | k :: is, js, h => by
    unfold addNm
    split
    · rename_i hk
      refine addNm_mem (h.elim .inl fun h => ?_)
      cases h with
      | head => exact .inl (nmIn_iff.1 hk)
      | tail _ h => exact .inr h
    · refine addNm_mem (h.elim (fun h => .inl (List.mem_append_left _ h)) fun h => ?_)
      cases h with
      | head => exact .inl (List.mem_append_right _ (List.mem_singleton.2 rfl))
      | tail _ h => exact .inr h
theorem reach_mem {H : Hp} {ds : List D} {i : Nm} (h : i ∈ nmsL ds) : i ∈ reach H ds := addNm_mem (.inl (addNm_mem (.inr h)))
theorem cellNms_agr {H H2 : Hp} : ∀ {is : List Nm}, (∀ i ∈ is, H2 i = H i) → cellNms H2 is = cellNms H is
  | [], _ => rfl
  | i :: is, h => by
    rw [cellNms, cellNms, h i (List.mem_cons_self ..), cellNms_agr (fun j hj => h j (List.mem_cons_of_mem _ hj))]
theorem reach_agr {H H2 : Hp} {ds : List D} (h : ∀ i ∈ nmsL ds, H2 i = H i) : reach H2 ds = reach H ds := by
  unfold reach
  rw [cellNms_agr h]
theorem closedH_agr {H H2 : Hp} {js : List Nm} : ∀ {is : List Nm}, (∀ i ∈ is, H2 i = H i) → (ClosedH H2 js is ↔ ClosedH H js is)
  | [], _ => Iff.rfl
  | i :: is, h => by
    rw [ClosedH, ClosedH, h i (List.mem_cons_self ..), closedH_agr (fun j hj => h j (List.mem_cons_of_mem _ hj))]
theorem restr_agr {H H2 : Hp} : ∀ {js : List Nm}, (∀ i ∈ js, H2 i = H i) → H2.restr js = H.restr js
  | [], _ => rfl
  | i :: is, h => by
    rw [Hp.restr, Hp.restr, h i (List.mem_cons_self ..), restr_agr (fun j hj => h j (List.mem_cons_of_mem _ hj))]
theorem lend1_agr {H H2 : Hp} {d : D} (h : ∀ i ∈ d.nms, H2 i = H i) : lend1 H2 d = lend1 H d ∧ lendNm1 H2 d = lendNm1 H d ∧ (lendOk1 H2 d ↔ lendOk1 H d) := by
  cases d with
  | own i g off n =>
    have e := h i (by rw [D.nms]; exact List.mem_cons_self ..)
    simp only [lend1, lendNm1, lendOk1, e, and_self]
  | _ => exact ⟨rfl, rfl, Iff.rfl⟩
theorem nmsL_mem {cs : List D} {c : D} (hc : c ∈ cs) {i : Nm} (hi : i ∈ c.nms) : i ∈ nmsL cs := by
  induction cs with
  | nil => cases hc
  | cons d ds ih =>
    rw [nmsL]
    cases hc with
    | head => exact List.mem_append_left _ hi
    | tail _ hc => exact List.mem_append_right _ (ih hc)
theorem lend_agr {H H2 : Hp} {d : D} (h : ∀ i ∈ d.nms, H2 i = H i) : lend H2 d = lend H d ∧ lendNm H2 d = lendNm H d ∧ (lendOk H2 d ↔ lendOk H d) := by
  cases d with
  | agg cs =>
    rw [D.nms] at h
    have hc : ∀ c ∈ cs, ∀ i ∈ c.nms, H2 i = H i := fun c hc i hi => h i (nmsL_mem hc hi)
    refine ⟨?_, ?_, ?_⟩
    · simp only [lend]
      congr 1
      exact List.map_congr_left fun c hcm => (lend1_agr (hc c hcm)).1
    · simp only [lendNm]
      clear h
      induction cs with
      | nil => rfl
      | cons c cs ih =>
        rw [List.flatMap_cons, List.flatMap_cons, (lend1_agr (hc c (List.mem_cons_self ..))).2.1, ih (fun d hd => hc d (List.mem_cons_of_mem _ hd))]
    · simp only [lendOk]
      clear h
      induction cs with
      | nil => exact Iff.rfl
      | cons c cs ih =>
        rw [lendOkL, lendOkL, (lend1_agr (hc c (List.mem_cons_self ..))).2.2, ih (fun d hd => hc d (List.mem_cons_of_mem _ hd))]
  | own => exact lend1_agr h
  | mt => exact lend1_agr h
  | v => exact lend1_agr h
  | any => exact lend1_agr h
  | tup => exact lend1_agr h
  | sl => exact lend1_agr h
  | ip => exact lend1_agr h
  | ptr => exact lend1_agr h
  | clo => exact lend1_agr h
theorem lends_agr {H H2 : Hp} {ds : List D} (h : ∀ i ∈ nmsL ds, H2 i = H i) : ds.map (lend H2) = ds.map (lend H) ∧ ds.flatMap (lendNm H2) = ds.flatMap (lendNm H) ∧ (lendOkL' H2 ds ↔ lendOkL' H ds) := by
  induction ds with
  | nil => exact ⟨rfl, rfl, Iff.rfl⟩
  | cons d ds ih =>
    rw [nmsL] at h
    obtain ⟨k1, k2, k3⟩ := lend_agr (d := d) (fun i hi => h i (List.mem_append_left _ hi))
    obtain ⟨q1, q2, q3⟩ := ih (fun i hi => h i (List.mem_append_right _ hi))
    exact ⟨by rw [List.map_cons, List.map_cons, k1, q1], by rw [List.flatMap_cons, List.flatMap_cons, k2, q2], by rw [lendOkL', lendOkL', k3, q3]⟩
/-- What one operation does: a package that serves in every state that looks the same to it. -/
structure Pk (T : Tbl) (N : Nat → Nm) (o : COp) (s : St) (rs ws ks js : List Nm) (Res : D → Hp → Prop) : Prop where
  kw : ∀ i ∈ ks, i ∈ ws
  jw : ∀ i ∈ js, i ∈ ws
  iff : ∀ s2 : St, Agr o.looks s.F s2.F → (∀ i ∈ rs ++ ws, s2.H i = s.H i) → ∀ Q, (run1 T N o s2 Q ↔ ∀ v H', Res v H' → Q rs ws ⟨putF s2.F o.dst v, upd ks js H' s2.H⟩)
theorem guard_agr {F F2 : Fr} {g : Option (Nat × Bool)} (h : Agr (match g with | some (t, _) => [t] | Option.none => []) F F2) : guardD F2 g = guardD F g := by
  cases g with
  | none => rfl
  | some q =>
    obtain ⟨t, b⟩ := q
    simp only [guardD, h t (List.mem_cons_self ..)]
theorem step_pk {T : Tbl} {N : Nat → Nm} {o : COp} {s : St} {Q : List Nm → List Nm → St → Prop} (h : run1 T N o s Q) : ∃ rs ws ks js Res, Pk T N o s rs ws ks js Res := by
  unfold run1 at h
  split at h
  · exact h.elim
  · rename_i w hg
    cases w with
    | false =>
      refine ⟨[], [], [], [], fun v H' => v = .v undef, fun i hi => (by cases hi), fun i hi => (by cases hi), fun s2 hF hH Q2 => ?_⟩
      have hg2 := guard_agr (g := o.g) hF.left
      unfold run1
      rw [hg2, hg]
      simp only [Bool.false_eq_true, if_false]
      exact ⟨fun k v H' hv => by rw [hv]; exact k, fun k => k _ Hp.none rfl⟩
    | true =>
      simp only [if_true] at h
      split at h
      · rename_i f args hc
        unfold callRun callRun1 callRun2 callRun3 at h
        obtain ⟨h1, h2, h3, h4, h5⟩ := h
        split at h5
        · exact h5.elim
        · rename_i pre R hT
          obtain ⟨h6, h7⟩ := h5
          by_cases hbr : (o.b && (reach (s.H.kills (args.flatMap (lendNm s.H))) (args.map (lend s.H))).isEmpty) = true
          · rw [if_pos hbr] at h7
            have hjs : reach (s.H.kills (args.flatMap (lendNm s.H))) (args.map (lend s.H)) = [] := by
              rw [Bool.and_eq_true, List.isEmpty_iff] at hbr
              exact hbr.2
            refine ⟨nmsL args, [N o.nm], [], [], R, fun i hi => (by cases hi), fun i hi => (by cases hi), fun s2 hF hH Q2 => ?_⟩
            have hg2 := guard_agr (g := o.g) hF.left
            have hc2 := callee_agr hF.right
            obtain ⟨q1, q2, q3⟩ := lends_agr (ds := args) (H := s.H) (H2 := s2.H) (fun i hi => hH i (List.mem_append_left _ hi))
            have hk : (s2.H.kills (args.flatMap (lendNm s.H))) (N o.nm) = (s.H.kills (args.flatMap (lendNm s.H))) (N o.nm) := kills_at (hH _ (List.mem_append_right _ (List.mem_cons_self ..)))
            have hr : reach (s2.H.kills (args.flatMap (lendNm s.H))) (args.map (lend s.H)) = reach (s.H.kills (args.flatMap (lendNm s.H))) (args.map (lend s.H)) := reach_agr fun i hi => by
              have := reach_mem (H := s.H.kills (args.flatMap (lendNm s.H))) hi
              rw [hjs] at this
              cases this
            unfold run1
            rw [hg2, hg]
            simp only [if_true]
            rw [hc2, hc]
            dsimp only
            unfold callRun callRun1 callRun2 callRun3
            rw [q1, q2, hr, restr_agr (H := s.H.kills (args.flatMap (lendNm s.H))) (fun i hi => by rw [hjs] at hi; cases hi), hT, hk]
            dsimp only
            rw [if_pos hbr]
            constructor
            · exact fun k v H' hv => (k.2.2.2.2.2 v H' hv).2
            · exact fun k => ⟨q3.2 h1, h2, (closedH_agr fun i hi => by rw [hjs] at hi; cases hi).2 h3, h4, h6, fun v H' hv => ⟨(h7 v H' hv).1, k v H' hv⟩⟩
          rw [if_neg hbr] at h7
          refine ⟨nmsL args, args.flatMap (lendNm s.H) ++ (N o.nm) :: reach (s.H.kills (args.flatMap (lendNm s.H))) (args.map (lend s.H)), args.flatMap (lendNm s.H), (N o.nm) :: reach (s.H.kills (args.flatMap (lendNm s.H))) (args.map (lend s.H)), R,
            fun i hi => List.mem_append_left _ hi, fun i hi => List.mem_append_right _ hi, fun s2 hF hH Q2 => ?_⟩
          have hg2 := guard_agr (g := o.g) hF.left
          have hc2 := callee_agr hF.right
          obtain ⟨q1, q2, q3⟩ := lends_agr (ds := args) (H := s.H) (H2 := s2.H) (fun i hi => hH i (List.mem_append_left _ hi))
          have hk : ∀ i ∈ (N o.nm) :: reach (s.H.kills (args.flatMap (lendNm s.H))) (args.map (lend s.H)), (s2.H.kills (args.flatMap (lendNm s.H))) i = (s.H.kills (args.flatMap (lendNm s.H))) i := fun i hi => kills_at (hH i (List.mem_append_right _ (List.mem_append_right _ hi)))
          have hr : reach (s2.H.kills (args.flatMap (lendNm s.H))) (args.map (lend s.H)) = reach (s.H.kills (args.flatMap (lendNm s.H))) (args.map (lend s.H)) := reach_agr fun i hi => hk i (List.mem_cons_of_mem _ (reach_mem hi))
          unfold run1
          rw [hg2, hg]
          simp only [if_true]
          rw [hc2, hc]
          dsimp only
          unfold callRun callRun1 callRun2 callRun3
          rw [q1, q2, hr, restr_agr (fun i hi => hk i (List.mem_cons_of_mem _ hi)), hT, hk _ (List.mem_cons_self ..)]
          dsimp only
          rw [if_neg hbr]
          constructor
          · exact fun k => k.2.2.2.2.2
          · exact fun k => ⟨q3.2 h1, h2, (closedH_agr fun i hi => hk i (List.mem_cons_of_mem _ hi)).2 h3, h4, h6, k⟩
      · rename_i hc
        split at h
        · exact h.elim
        · rename_i out he
          refine ⟨out.rs, wid out.ws, [], wid out.ws, fun v H' => v = out.v ∧ H' = Hp.none.puto out.ws, fun i hi => (by cases hi), fun i hi => hi, fun s2 hF hH Q2 => ?_⟩
          have hg2 := guard_agr (g := o.g) hF.left
          have hc2 := callee_agr hF.right
          have he2 := eff_agr (F2 := s2.F) (H2 := s2.H) he hF.right (fun i hi => hH i (List.mem_append_left _ hi))
          have hu : upd [] (wid out.ws) (Hp.none.puto out.ws) s2.H = s2.H.puto out.ws := by
            cases hw : out.ws with
            | none => rfl
            | some q =>
              obtain ⟨i, e⟩ := q
              simp only [upd, wid, Hp.kills, Hp.puto, Hp.over, Hp.put_same]
          unfold run1
          rw [hg2, hg]
          simp only [if_true]
          rw [hc2, hc, he2]
          dsimp only
          constructor
          · intro k v H' hv
            obtain ⟨rfl, rfl⟩ := hv
            rw [hu]
            exact k.2
          · intro k
            have := k _ _ ⟨rfl, rfl⟩
            rw [hu] at this
            exact ⟨h.1, this⟩
theorem run1_mono {T : Tbl} {N : Nat → Nm} {o : COp} {s : St} {Q Q' : List Nm → List Nm → St → Prop} (h : run1 T N o s Q) (hq : ∀ rs ws s', Q rs ws s' → Q' rs ws s') : run1 T N o s Q' := by
  obtain ⟨rs, ws, ks, js, Res, pk⟩ := step_pk h
  have r : ∀ t ∈ o.looks, s.F t = s.F t := fun _ _ => rfl
  have := (pk.iff s r (fun _ _ => rfl) Q).1 h
  exact (pk.iff s r (fun _ _ => rfl) Q').2 fun v H' hv => hq _ _ _ (this v H' hv)

/-- Two lists of names have nothing in common. -/
def disj : List Nm → List Nm → Bool
  | [], _ => true
  | i :: is, b => if nmIn i b = true then false else disj is b
theorem disj_iff {b : List Nm} : ∀ {a : List Nm}, disj a b = true ↔ ∀ i ∈ a, i ∉ b
  | [] => by simp [disj]
  | i :: is => by
    unfold disj
    split
    · rename_i h
      simp [nmIn_iff.1 h]
    · rename_i h
      have h' : i ∉ b := fun k => h (nmIn_iff.2 k)
      rw [disj_iff]
      simp [h']
def indep (ri wi rj wj : List Nm) : Bool := (disj wi rj && disj wi wj) && disj ri wj
theorem disj_symm {a b : List Nm} (h : disj a b = true) : disj b a = true := disj_iff.2 fun i hi k => disj_iff.1 h i k hi
theorem indep_symm {ri wi rj wj : List Nm} (h : indep ri wi rj wj = true) : indep rj wj ri wi = true := by
  simp only [indep, Bool.and_eq_true] at h ⊢
  exact ⟨⟨disj_symm h.2, disj_symm h.1.2⟩, disj_symm h.1.1⟩
/-- What has been done so far: the operation's number, what it read, what it wrote. -/
abbrev Past := List (Nat × List Nm × List Nm)
def past (k : Nat) (rs ws : List Nm) (l : Past) : Past :=
  match rs, ws with
  | [], [] => l
  | _, _ => (k, rs, ws) :: l
def natIn (i : Nat) : List Nat → Bool
  | [] => false
  | j :: js => if i = j then true else natIn i js
theorem natIn_iff {i : Nat} : ∀ {js : List Nat}, natIn i js = true ↔ i ∈ js
  | [] => by simp [natIn]
  | j :: js => by
    unfold natIn
    split
    · rename_i h; simp [h]
    · rename_i h; rw [natIn_iff]; simp [h]
def chk (after : List Nat) (rs ws : List Nm) : Past → Bool
  | [] => true
  | (j, rj, wj) :: l => if natIn j after = true then chk after rs ws l else if indep rj wj rs ws = true then chk after rs ws l else false
theorem chk_cons {after : List Nat} {rs ws : List Nm} {j : Nat} {rj wj : List Nm} {l : Past} : chk after rs ws ((j, rj, wj) :: l) = true ↔ (j ∈ after ∨ indep rj wj rs ws = true) ∧ chk after rs ws l = true := by
  rw [chk]
  split
  · rename_i h
    simp [natIn_iff.1 h]
  · rename_i h
    have h' : j ∉ after := fun k => h (natIn_iff.2 k)
    split
    · rename_i h2; simp [h2]
    · rename_i h2; simp [h', h2]
theorem chk_past {after : List Nat} {rs ws : List Nm} {k : Nat} {r w : List Nm} {l : Past} : chk after rs ws (past k r w l) = true ↔ (k ∈ after ∨ indep r w rs ws = true) ∧ chk after rs ws l = true := by
  unfold past
  split
  · exact ⟨fun h => ⟨.inr rfl, h⟩, fun h => h.2⟩
  · exact chk_cons
/-- The operations with some numbers, in this order. -/
def runU (T : Tbl) (N : Nat → Nm) (ops : List COp) (K : St → Prop) : List Nat → Past → St → Prop
  | [], _, s => K s
  | k :: U, l, s =>
    match ops[k]? with
    | some o => run1 T N o s fun rs ws s' => chk o.after rs ws l = true ∧ runU T N ops K U (past k rs ws l) s'
    | Option.none => False
theorem runU_past {T : Tbl} {N : Nat → Nm} {ops : List COp} {K : St → Prop} : ∀ {U : List Nat} {l l' : Past} {s : St}, (∀ A r w, chk A r w l = true → chk A r w l' = true) → runU T N ops K U l s → runU T N ops K U l' s
  | [], _, _, _, _, h => h
  | k :: U, l, l', s, hl, h => by
    rw [runU] at h ⊢
    split at h
    · exact run1_mono h fun rs ws s' ⟨h1, h2⟩ => ⟨hl _ _ _ h1, runU_past (fun A r w hc => chk_past.2 ⟨(chk_past.1 hc).1, hl _ _ _ (chk_past.1 hc).2⟩) h2⟩
    · exact h
def apartC (a b : COp) : Bool :=
  (match a.dst with
   | some d => !b.looks.contains d && b.dst != some d
   | Option.none => true) &&
  (match b.dst with
   | some d => !a.looks.contains d
   | Option.none => true)
theorem apartC_spec {a b : COp} (h : apartC a b = true) : (∀ d, a.dst = some d → d ∉ b.looks ∧ b.dst ≠ some d) ∧ ∀ d, b.dst = some d → d ∉ a.looks := by
  unfold apartC at h
  rw [Bool.and_eq_true] at h
  refine ⟨fun d hd => ?_, fun d hd => ?_⟩
  · have := h.1
    rw [hd] at this
    simpa using this
  · have := h.2
    rw [hd] at this
    simpa using this
theorem putF_agr {F : Fr} {dst : Option Nat} {d : D} {ts : List Nat} (h : ∀ t, dst = some t → t ∉ ts) : Agr ts F (putF F dst d) := fun t ht => by
  cases dst with
  | none => rfl
  | some x =>
    simp only [putF]
    rw [if_neg (fun e => h x rfl (by rw [← e]; exact ht))]
theorem putF_agr' {F : Fr} {dst : Option Nat} {d : D} {ts : List Nat} (h : ∀ t, dst = some t → t ∉ ts) : Agr ts (putF F dst d) F := fun t ht => (putF_agr (d := d) (F := F) h t ht).symm
theorem putF_comm {F : Fr} {a b : Option Nat} {x y : D} (h : ∀ d, a = some d → b ≠ some d) : putF (putF F a x) b y = putF (putF F b y) a x := by
  cases a with
  | none => rfl
  | some t =>
    cases b with
    | none => rfl
    | some u =>
      have hne : t ≠ u := fun e => h t rfl (by rw [e])
      funext z
      simp only [putF]
      by_cases h1 : z = t
      · subst h1
        simp [hne]
      · by_cases h2 : z = u
        · simp [h2, Ne.symm hne]
        · simp [h1, h2]
theorem upd_comm {ks js ks2 js2 : List Nm} {ws ws2 : List Nm} {H' H2' H : Hp} (h1 : ∀ i ∈ ks, i ∈ ws) (h2 : ∀ i ∈ js, i ∈ ws) (h3 : ∀ i ∈ ks2, i ∈ ws2) (h4 : ∀ i ∈ js2, i ∈ ws2) (hd : disj ws ws2 = true) : upd ks2 js2 H2' (upd ks js H' H) = upd ks js H' (upd ks2 js2 H2' H) := by
  funext i
  by_cases hi : i ∈ ws
  · have hi2 := disj_iff.1 hd i hi
    have n3 : i ∉ ks2 := fun h => hi2 (h3 i h)
    have n4 : i ∉ js2 := fun h => hi2 (h4 i h)
    rw [upd_out n3 n4]
    exact upd_at (upd_out n3 n4).symm
  · have n1 : i ∉ ks := fun h => hi (h1 i h)
    have n2 : i ∉ js := fun h => hi (h2 i h)
    rw [upd_out (ks := ks) (js := js) n1 n2]
    exact upd_at (upd_out n1 n2)
/-- Every contract that is met leaves something. -/
def Ends (T : Tbl) : Prop := ∀ f args Hs nn pre R, T f args Hs nn = some (pre, R) → pre → ∃ v H', R v H'
theorem run1_ends {T : Tbl} (hT : Ends T) {N : Nat → Nm} {o : COp} {s : St} {Q : List Nm → List Nm → St → Prop} (h : run1 T N o s Q) : ∃ rs ws s', Q rs ws s' := by
  unfold run1 at h
  split at h
  · exact h.elim
  · split at h
    · split at h
      · unfold callRun callRun1 callRun2 callRun3 at h
        obtain ⟨h1, h2, h3, h4, h5⟩ := h
        split at h5
        · exact h5.elim
        · rename_i pre R hTT
          obtain ⟨v, H', hv⟩ := hT _ _ _ _ _ _ hTT h5.1
          obtain ⟨h6, h7⟩ := h5
          split at h7
          · exact ⟨_, _, _, (h7 v H' hv).2⟩
          · exact ⟨_, _, _, h7 v H' hv⟩
      · split at h
        · exact h.elim
        · exact ⟨_, _, _, h.2⟩
    · exact ⟨_, _, _, h⟩
/-- Two operations that do not disturb one another change places. -/
theorem swap {T : Tbl} (hT : Ends T) {N : Nat → Nm} {ops : List COp} {K : St → Prop} {i j : Nat} {oi oj : COp} (hi : ops[i]? = some oi) (hj : ops[j]? = some oj) (hna : j ∉ oi.after) (hap : apartC oj oi = true) {U : List Nat} {l : Past} {s : St}
    (h : runU T N ops K (j :: i :: U) l s) : runU T N ops K (i :: j :: U) l s := by
  rw [runU, hj] at h
  dsimp only at h
  obtain ⟨rj, wj, kj, jj, Rj, pj⟩ := step_pk h
  have rfl' : ∀ o : COp, Agr o.looks s.F s.F := fun _ _ _ => rfl
  have hJ := (pj.iff s (rfl' oj) (fun _ _ => rfl) _).1 h
  have hrun : run1 T N oj s fun rs ws s' => rs = rj ∧ ws = wj ∧ ∃ v H', Rj v H' ∧ s' = ⟨putF s.F oj.dst v, upd kj jj H' s.H⟩ := (pj.iff s (rfl' oj) (fun _ _ => rfl) _).2 fun v H' hv => ⟨rfl, rfl, v, H', hv, rfl⟩
  obtain ⟨_, _, s0, _, _, v0, H0, hv0, _⟩ := run1_ends hT hrun
  obtain ⟨ap1, ap2⟩ := apartC_spec hap
  have looki : ∀ t, oj.dst = some t → t ∉ oi.looks := fun t ht => (ap1 t ht).1
  have hI0 := (hJ v0 H0 hv0).2
  rw [runU, hi] at hI0
  dsimp only at hI0
  obtain ⟨ri, wi, ki, ji, Ri, pi⟩ := step_pk hI0
  have hres0 := (pi.iff _ (fun _ _ => rfl) (fun _ _ => rfl) _).1 hI0
  obtain ⟨_, _, _, hck⟩ := run1_ends hT ((pi.iff _ (fun _ _ => rfl) (fun _ _ => rfl) (fun _ _ _ => chk oi.after ri wi (past j rj wj l) = true)).2 fun v H' hv => (hres0 v H' hv).1)
  have hind := (chk_past.1 hck).1.resolve_left hna
  have hout : ∀ (x : Nm), (x ∉ wj) → ∀ H', upd kj jj H' s.H x = s.H x := fun x hx H' => upd_out (fun h => hx (pj.kw x h)) (fun h => hx (pj.jw x h))
  have hi2 := hind
  simp only [indep, Bool.and_eq_true] at hi2
  obtain ⟨⟨d1, d2⟩, d3⟩ := hi2
  have notin : ∀ x ∈ ri ++ wi, x ∉ wj := fun x hx hw => by
    rcases List.mem_append.1 hx with h | h
    · exact disj_iff.1 d1 x hw h
    · exact disj_iff.1 d2 x hw h
  have agree : ∀ (v : D) (H' : Hp), ∀ x ∈ ri ++ wi, (upd kj jj H' s.H) x = (upd kj jj H0 s.H) x := fun v H' x hx => by rw [hout x (notin x hx), hout x (notin x hx)]
  rw [runU, hi]
  dsimp only
  refine (pi.iff s (putF_agr' looki) (fun x hx => (hout x (notin x hx) H0).symm) _).2 fun vi Hi hvi => ⟨?_, ?_⟩
  · exact (chk_past.1 (hres0 vi Hi hvi).1).2
  · rw [runU, hj]
    dsimp only
    have hagr : ∀ x ∈ rj ++ wj, (upd ki ji Hi s.H) x = s.H x := fun x hx => by
      have hx' : x ∉ wi := fun hw => by
        rcases List.mem_append.1 hx with h | h
        · exact disj_iff.1 d3 x h hw
        · exact disj_iff.1 d2 x h hw
      exact upd_out (fun h => hx' (pi.kw x h)) (fun h => hx' (pi.jw x h))
    refine (pj.iff _ (putF_agr ap2) hagr _).2 fun vj Hj hvj => ⟨?_, ?_⟩
    · exact chk_past.2 ⟨.inr (indep_symm hind), (hJ vj Hj hvj).1⟩
    · have hI := (hJ vj Hj hvj).2
      rw [runU, hi] at hI
      dsimp only at hI
      have hag : Agr oi.looks (putF s.F oj.dst v0) (putF s.F oj.dst vj) := fun t ht => by rw [putF_agr looki t ht, putF_agr looki t ht]
      have hres := (pi.iff _ hag (agree vj Hj) _).1 hI vi Hi hvi
      have e1 := putF_comm (F := s.F) (a := oj.dst) (b := oi.dst) (x := vj) (y := vi) (fun d hd => (ap1 d hd).2)
      have e2 := upd_comm (H' := Hj) (H2' := Hi) (H := s.H) pj.kw pj.jw pi.kw pi.jw d2
      rw [← e1, ← e2]
      refine runU_past (fun A r w hc => ?_) hres.2
      obtain ⟨c1, c2⟩ := chk_past.1 hc
      obtain ⟨c3, c4⟩ := chk_past.1 c2
      exact chk_past.2 ⟨c3, chk_past.2 ⟨c1, c4⟩⟩
/-- An operation that need not wait for those ahead of it may come first. -/
theorem to_front {T : Tbl} (hT : Ends T) {N : Nat → Nm} {ops : List COp} {K : St → Prop} {i : Nat} {oi : COp} (hi : ops[i]? = some oi) : ∀ (U1 U2 : List Nat) (l : Past) (s : St), (∀ j ∈ U1, j ∉ oi.after ∧ ∀ oj, ops[j]? = some oj → apartC oj oi = true) →
    runU T N ops K (U1 ++ i :: U2) l s → runU T N ops K (i :: (U1 ++ U2)) l s
  | [], U2, l, s, _, h => h
  | j :: U1, U2, l, s, hU, h => by
    have hj' := hU j (List.mem_cons_self ..)
    rw [List.cons_append, runU] at h
    split at h
    · rename_i oj hj
      refine swap hT hi hj hj'.1 (hj'.2 oj hj) ?_
      rw [runU, hj]
      exact run1_mono h fun rs ws s' ⟨h1, h2⟩ => ⟨h1, to_front hT hi U1 U2 _ s' (fun k hk => hU k (List.mem_cons_of_mem _ hk)) h2⟩
    · exact h.elim
end Go.Proofs.Ytiaenojpbiahgaa
