
/- Lineups: All as a list of one's own, comparisons; what LineupNeeds calls. -/
import Derived.Test.YtfkhjkkhdfcnjaaLu2
import Derived.Test.YtfkhjkkhdfcnjaaFlQ
/- Lineups: All as a list of one's own, comparisons; what LineupNeeds calls. -/
namespace Go.Proofs.Ytfkhjkkhdfcnjaa
open Go
set_option linter.unusedVariables false
set_option linter.unusedSimpArgs false
set_option maxRecDepth 100000

theorem js_nn0 (a b : Nat) {Hs : Hp} : ∀ j ∈ [(a, b)], (Hs j).isSome = true ∨ j = (a, b) := fun j h => .inr (List.mem_singleton.1 h)
set_option maxHeartbeats 4000000 in
theorem all_o (l : Lnp) (h1' : l.segs.length ≤ 1000000) (h2' : l.ports.length ≤ 1000000) (nn : Nm) : CallsA Try.prog 46 [l.enc] Hp.none nn (Pu (.own nn 2 0 (lall l).length) (Hp.none.put nn ⟨2, 1, (lall l).map bRow⟩)) := by
  obtain ⟨a, b⟩ := nn
  obtain ⟨code, h1, h2⟩ := c46_ok
  refine callsA_of (T0_ok _) mixed (N := fun t => if t = 3 then (a, b) else (a + 1, t)) Try.func46 h1 h2 r46_ok [(a, b)] true js_nil0 (js_nn0 a b) (by simp [Try.f46]) ?_
  have y1 : l.segs.length * 1 ≤ 140737488355328 := by omega
  have y2 : l.segs.length ≤ 4611686018427387904 := by omega
  have y3 : (l.segs.length + l.ports.length) * 1 ≤ 140737488355328 := by omega
  have y4 : l.segs.length + l.ports.length ≤ 4611686018427387904 := by omega
  have e1 : l.segs.map bRow ++ l.ports.map bRow = (l.segs ++ l.ports).map bRow := (List.map_append ..).symm
  have e2 : (lall l).length = l.segs.length + l.ports.length := by simp [lall]
  have e3 : lall l = l.segs ++ l.ports := rfl
  have q1 : (a + 1 = a) = False := by simp
  have q2 : (a = a + 1) = False := by simp
  rw [e2, e3]
  simp (config := { maxSteps := 500000 }) only [↓vp, vv, implies_true, forall_const, undef, InI, ↓reduceIte, simprocAttr, c46, r46, r46, Lnp.enc, lnpD, bRow_len, y1, y2, y3, y4, e1, q1, q2, Pu]
  exact ⟨fun _ _ => rfl, fun _ _ => rfl⟩
def selSB : List D → Option (Prop × D)
  | [.sl u, .sl v] => match lsOf boolOf1 u, lsOf boolOf1 v with
    | some x, some y => some (x = y ∧ x.length ≤ 2000000, db true)
    | _, _ => Option.none
  | _ => Option.none
def SbF (x : List Bool) (j : Int) : List (Nat × D) := [(0, .sl (x.map bRow)), (1, .sl (x.map bRow)), (5, di j)]
set_option maxHeartbeats 4000000 in
theorem sameB_c (x : List Bool) (hx : x.length ≤ 2000000) (nn : Nm) : CallsA Try.prog 49 [.sl (x.map bRow), .sl (x.map bRow)] Hp.none nn (Pu (db true) Hp.none) := by
  obtain ⟨code, h1, h2⟩ := c49_ok
  refine callsA_of (T0_ok _) mixed (N := fun t => (0, t)) Try.func49 h1 h2 r49_ok [] false js_nil js_nil' (by simp [Try.f49]) ?_
  simp (config := { maxSteps := 500000 }) only [↓vp, vv, implies_true, forall_const, undef, InI, ↓reduceIte, simprocAttr, c49, r49, c49_1, c49_2, c49_3, c49_4, c49_5, bne_self_eq_false]
  refine rng_loop x.length (fun j => ⟨fr (SbF x j), Hp.none⟩) (fun _ => True) (weak_eq [] [] (SbF x 0) (by simp (config := { maxSteps := 500000 }) only [↓vp, vv, implies_true, forall_const, undef, InI, ↓reduceIte, simprocAttr, coverS, SbF]) (by simp (config := { maxSteps := 500000 }) only [↓vp, vv, implies_true, forall_const, undef, InI, ↓reduceIte, simprocAttr, refsF, SbF]) (by simp (config := { maxSteps := 500000 }) only [↓vp, vv, implies_true, forall_const, undef, InI, ↓reduceIte, simprocAttr, SbF]) (by simp) (by simp (config := { maxSteps := 500000 }) only [↓vp, vv, implies_true, forall_const, undef, InI, ↓reduceIte, simprocAttr, SbF]; try rfl)) trivial (fun j hj _ => ?_) (fun _ => ?_)
  · have hj' : (j : Int) < x.length := by omega
    have hjn := idx_nn j
    have w1 := idx_next (j := j) (by omega)
    have hg := bRow_g x j hj
    generalize x[j] = u at hg
    have hu : (u != u) = false := by cases u <;> rfl
    simp (config := { maxSteps := 500000 }) only [↓vp, vv, implies_true, forall_const, undef, InI, ↓reduceIte, simprocAttr, c49, r49, c49_1, c49_2, c49_3, c49_4, c49_5, SbF, hj', hjn, Int.toNat_natCast, hg, hu, w1]
    exact rng_next hj (weak_eq [] [] (SbF x (j + 1 : Nat)) (by simp (config := { maxSteps := 500000 }) only [↓vp, vv, implies_true, forall_const, undef, InI, ↓reduceIte, simprocAttr, coverS, SbF, w1]) (by simp (config := { maxSteps := 500000 }) only [↓vp, vv, implies_true, forall_const, undef, InI, ↓reduceIte, simprocAttr, refsF, SbF, w1]) (by simp (config := { maxSteps := 500000 }) only [↓vp, vv, implies_true, forall_const, undef, InI, ↓reduceIte, simprocAttr, SbF, w1]) (by simp) (by simp (config := { maxSteps := 500000 }) only [↓vp, vv, implies_true, forall_const, undef, InI, ↓reduceIte, simprocAttr, SbF, w1]; try rfl)) trivial
  · simp (config := { maxSteps := 500000 }) only [↓vp, vv, implies_true, forall_const, undef, InI, ↓reduceIte, simprocAttr, c49, r49, c49_1, c49_2, c49_3, c49_4, c49_5, r49, SbF, Int.lt_irrefl, Pu]
theorem tc_sb {T : Tbl} (hT : TblOk Try.prog T) : TblOk Try.prog (tc 49 (rowPu selSB) T) :=
  tc_pu f49_ok (fun args pre d h hp nn => by
    unfold selSB at h
    split at h
    · split at h
      · rename_i e1 e2
        cases h
        rw [lsOf_eq (fun r x => boolOf1_eq) e1, lsOf_eq (fun r x => boolOf1_eq) e2, hp.1]
        exact sameB_c _ (by rw [← hp.1]; exact hp.2) nn
      · cases h
    · cases h) hT
def chgR (nn : Nm) (x y : Lnp) : D → Hp → Prop := Pu (.tup [.own nn (dif (lall x) (lall y) (lall x).length).length 0 (dif (lall x) (lall y) (lall x).length).length, .own (nn.1, nn.2 + 5000) (dif (lall y) (lall x) (lall x).length).length 0 (dif (lall y) (lall x) (lall x).length).length, di 0]) (ChH nn.1 nn.2 (lall x) (lall y) (lall x).length)
def rowChg : List D → Hp → Nm → Option (Prop × (D → Hp → Prop)) := fun args Hs nn =>
  match args with
  | [.agg a, .agg b, .agg c] =>
    match netOf1 a, lnpOf1 b, lnpOf1 c with
    | some n, some x, some y => some (Hs = Hp.none ∧ NetSz n ∧ checkI n = 0 ∧ lvB n x = true ∧ lvB n y = true, chgR nn x y)
    | _, _, _ => Option.none
  | _ => Option.none
theorem tc_chg {T : Tbl} (hT : TblOk Try.prog T) : TblOk Try.prog (tc 48 rowChg T) :=
  tc_row f48_ok (fun args Hs nn pre R hr hp => by
    unfold rowChg at hr
    split at hr
    · split at hr
      · rename_i e1 e2 e3
        cases hr
        obtain ⟨rfl, h1, h2, h3, h4⟩ := hp
        rw [netOf1_eq e1, lnpOf1_eq e2, lnpOf1_eq e3]
        exact ⟨⟨_, _, rfl, rfl⟩, changes_o _ h1 _ _ h2 h3 h4 nn⟩
      · cases hr
    · cases hr) hT
def rowAll : List D → Hp → Nm → Option (Prop × (D → Hp → Prop)) := fun args Hs nn =>
  match args with
  | [.agg a] =>
    match lnpOf1 a with
    | some l => some (Hs = Hp.none ∧ LnpSz l, Pu (.own nn 2 0 (lall l).length) (Hp.none.put nn ⟨2, 1, (lall l).map bRow⟩))
    | _ => Option.none
  | _ => Option.none
theorem tc_all {T : Tbl} (hT : TblOk Try.prog T) : TblOk Try.prog (tc 46 rowAll T) :=
  tc_row f46_ok (fun args Hs nn pre R hr hp => by
    unfold rowAll at hr
    split at hr
    · split at hr
      · rename_i e1
        cases hr
        obtain ⟨rfl, h1⟩ := hp
        rw [lnpOf1_eq e1]
        exact ⟨⟨_, _, rfl, rfl⟩, all_o _ h1.1 h1.2 nn⟩
      · cases hr
    · cases hr) hT
def rowRaw : List D → Hp → Nm → Option (Prop × (D → Hp → Prop)) := fun args Hs nn =>
  match args with
  | [.ptr i g r c, .agg a] =>
    match netOf1 a, Hs i with
    | some n, some ⟨_, _, [[.sl L, .v (.int .i64 at')]]⟩ => some ((Hs = Hp.none.put i (sE L at') ∧ g = 0 ∧ r = 0 ∧ c = 0) ∧ SrcOk L at' ∧ NetSz n ∧ nn.1 ≤ i.1 ∧ nn ≠ i ∧ (nn.1, nn.2 + 5000) ≠ i, RawR i nn L n.segs.length n.ports.length)
    | _, _ => Option.none
  | _ => Option.none
theorem tc_raw {T : Tbl} (hT : TblOk Try.prog T) : TblOk Try.prog (tc 47 rowRaw T) :=
  tc_row f47_ok (fun args Hs nn pre R hr hp => by
    unfold rowRaw at hr
    split at hr
    · split at hr
      · rename_i e1 e2
        cases hr
        obtain ⟨⟨h1, rfl, rfl, rfl⟩, h2, h3, h4, h5, h6⟩ := hp
        rw [h1, netOf1_eq e1]
        exact ⟨⟨_, _, _, List.replicate _ false, List.replicate _ false, h2, ⟨List.length_replicate, List.length_replicate⟩, rfl, rfl⟩, raw_o _ h3 _ _ _ _ h2 h4 h5 h6⟩
      · cases hr
    · cases hr) hT
end Go.Proofs.Ytfkhjkkhdfcnjaa
/- LineupNeeds: the plain law. -/
namespace Go.Proofs.Ytfkhjkkhdfcnjaa
open Go
set_option linter.unusedVariables false
set_option linter.unusedSimpArgs false
set_option maxRecDepth 100000

theorem permB_cons (x y : Bool) (a b : List Bool) : permB (x :: a) (y :: b) = ((if x = true then y else true) && permB a b) := rfl
theorem permB_self : ∀ a : List Bool, permB a a = true
  | [] => rfl
  | x :: a => by rw [permB_cons, permB_self a]; cases x <;> rfl
theorem permB_app : ∀ (a b c d : List Bool), a.length = c.length → permB (a ++ b) (c ++ d) = (permB a c && permB b d)
  | [], b, [], d, _ => by simp [permB]
  | [], b, y :: c, d, h => by simp at h
  | x :: a, b, [], d, h => by simp at h
  | x :: a, b, y :: c, d, h => by
    rw [List.cons_append, List.cons_append, permB_cons, permB_cons, permB_app a b c d (by simpa using h), Bool.and_assoc]
theorem permB_set : ∀ (s : List Bool) (k : Nat), k < s.length → permB s (s.set k false) = !(s.getD k false)
  | [], k, h => by simp at h
  | x :: s, 0, _ => by rw [List.set_cons_zero, permB_cons, permB_self]; cases x <;> rfl
  | x :: s, k + 1, h => by
    rw [List.set_cons_succ, permB_cons, permB_set s k (by simpa using h), List.getD_cons_succ]
    cases x <;> simp
theorem prm_need {n : Net} {p : Pln} (hck : checkI n = 0) (h : fckI n p = 0) : prmI n (needL p) p = (true, 0) := by
  have hl := fck_len h
  have hv : lvB n (needL p) = true := by
    unfold lvB needL
    rw [if_pos (by simp; omega)]
    simp; omega
  unfold prmI
  rw [if_pos hck, hv, if_pos rfl, if_pos h, permB_self]
def lessL (p : Pln) (k : Nat) : Lnp := ⟨(p.rates.map nz).set k false, p.ports.map nz⟩
theorem prm_less {n : Net} {p : Pln} (hck : checkI n = 0) (h : fckI n p = 0) (k : Nat) (hk : k < p.rates.length) : prmI n (lessL p k) p = (p.rates[k] == 0, 0) := by
  have hl := fck_len h
  have hv : lvB n (lessL p k) = true := by
    unfold lvB lessL
    rw [if_pos (by simp; omega)]
    simp; omega
  unfold prmI
  rw [if_pos hck, hv, if_pos rfl, if_pos h]
  have e : permB (lall (needL p)) (lall (lessL p k)) = (p.rates[k] == 0) := by
    unfold lall lessL needL
    dsimp only
    rw [permB_app _ _ _ _ (by simp), permB_self, permB_set _ _ (by simpa using hk), Bool.and_true, List.getD_eq_getElem?_getD, List.getElem?_map, List.getElem?_eq_getElem hk]
    simp [nz]
    rfl
  rw [e]
def setAll (A : List Bool) (l : List Nat) (v : Bool) : List Bool := l.foldl (fun a i => a.set i v) A
theorem setAll_len (v : Bool) : ∀ (l : List Nat) (A : List Bool), (setAll A l v).length = A.length
  | [], A => rfl
  | i :: l, A => by
    show (setAll (A.set i v) l v).length = _
    rw [setAll_len v l, List.length_set]
theorem setAll_take (A : List Bool) (l : List Nat) (v : Bool) (j : Nat) (h : j < l.length) : setAll A (l.take (j + 1)) v = (setAll A (l.take j) v).set l[j] v := by
  unfold setAll
  rw [← List.take_append_getElem h, List.foldl_append]; rfl
theorem getD_setB (A : List Bool) (i k : Nat) (v : Bool) (h : i < A.length) : (A.set i v).getD k false = if i = k then v else A.getD k false := by
  rw [List.getD_eq_getElem?_getD, List.getD_eq_getElem?_getD, List.getElem?_set]
  split
  · rename_i e; subst e; simp [h]
  · rfl
theorem setAll_get (v : Bool) : ∀ (l : List Nat) (A : List Bool) (k : Nat), (∀ i ∈ l, i < A.length) → (setAll A l v).getD k false = if k ∈ l then v else A.getD k false
  | [], A, k, _ => by simp [setAll]
  | i :: l, A, k, h => by
    show (setAll (A.set i v) l v).getD k false = _
    rw [setAll_get v l _ k (fun x hx => by rw [List.length_set]; exact h x (List.mem_cons_of_mem _ hx)), getD_setB A i k v (h i (List.mem_cons_self ..))]
    by_cases h1 : k ∈ l
    · rw [if_pos h1, if_pos (List.mem_cons_of_mem _ h1)]
    · rw [if_neg h1]
      by_cases h2 : i = k
      · rw [if_pos h2, if_pos (by rw [h2]; exact List.mem_cons_self ..)]
      · rw [if_neg h2, if_neg (fun e => by rcases List.mem_cons.1 e with e | e; exact h2 e.symm; exact h1 e)]
theorem dif_mem {A B : List Bool} {j i : Nat} : i ∈ dif A B j ↔ i < j ∧ B.getD i false = true ∧ A.getD i false = false := by
  unfold dif
  rw [List.mem_filter, List.mem_range, Bool.and_eq_true, Bool.not_eq_true']
theorem dif_nd (A B : List Bool) (j : Nat) : (dif A B j).Nodup := List.Pairwise.filter _ List.nodup_range
theorem not_pre {o : List Nat} (hn : o.Nodup) {j : Nat} (hj : j < o.length) : o[j] ∉ o.take j := fun h => by
  obtain ⟨q, hq, he⟩ := List.mem_take_iff_getElem.1 h
  have a := List.Nodup.idxOf_getElem hn q (by omega)
  have b := List.Nodup.idxOf_getElem hn j hj
  rw [he] at a
  omega
theorem ext_getD {A B : List Bool} (hl : A.length = B.length) (h : ∀ i, i < A.length → A.getD i false = B.getD i false) : A = B := by
  refine List.ext_getElem hl fun i h1 h2 => ?_
  have := h i h1
  rwa [List.getD_eq_getElem?_getD, List.getD_eq_getElem?_getD, List.getElem?_eq_getElem h1, List.getElem?_eq_getElem h2] at this
/-- What the first list of changes meets. -/
theorem chg_open {A B : List Bool} (hl : A.length = B.length) {j : Nat} (hj : j < (dif A B A.length).length) : (dif A B A.length)[j] < A.length ∧ (setAll A ((dif A B A.length).take j) true).getD (dif A B A.length)[j] false = false := by
  obtain ⟨a, b, c⟩ := dif_mem.1 (List.getElem_mem hj)
  refine ⟨a, ?_⟩
  rw [setAll_get true _ _ _ (fun i hi => (dif_mem.1 (List.mem_of_mem_take hi)).1), if_neg (not_pre (dif_nd ..) hj), c]
theorem chg_shut {A B : List Bool} (hl : A.length = B.length) {j : Nat} (hj : j < (dif B A A.length).length) : (dif B A A.length)[j] < A.length ∧ (setAll (setAll A (dif A B A.length) true) ((dif B A A.length).take j) false).getD (dif B A A.length)[j] false = true := by
  obtain ⟨a, b, c⟩ := dif_mem.1 (List.getElem_mem hj)
  refine ⟨a, ?_⟩
  rw [setAll_get false _ _ _ (fun i hi => by rw [setAll_len]; exact (dif_mem.1 (List.mem_of_mem_take hi)).1), if_neg (not_pre (dif_nd ..) hj), setAll_get true _ _ _ (fun i hi => (dif_mem.1 hi).1)]
  split
  · rfl
  · exact b
theorem chg_all {A B : List Bool} (hl : A.length = B.length) : setAll (setAll A (dif A B A.length) true) (dif B A A.length) false = B := by
  refine ext_getD (by rw [setAll_len, setAll_len, hl]) fun i hi => ?_
  rw [setAll_len, setAll_len] at hi
  rw [setAll_get false _ _ _ (fun i hi => by rw [setAll_len]; exact (dif_mem.1 hi).1), setAll_get true _ _ _ (fun i hi => (dif_mem.1 hi).1)]
  have m1 := @dif_mem A B A.length i
  have m2 := @dif_mem B A A.length i
  cases ha : A.getD i false <;> cases hb : B.getD i false
  · rw [if_neg (fun h => by have := (m2.1 h).2.1; rw [ha] at this; cases this), if_neg (fun h => by have := (m1.1 h).2.1; rw [hb] at this; cases this)]
  · rw [if_neg (fun h => by have := (m2.1 h).2.1; rw [ha] at this; cases this), if_pos (m1.2 ⟨hi, hb, ha⟩)]
  · rw [if_pos (m2.2 ⟨hi, ha, hb⟩)]
  · rw [if_neg (fun h => by have := (m2.1 h).2.2; rw [hb] at this; cases this), if_neg (fun h => by have := (m1.1 h).2.2; rw [ha] at this; cases this)]
end Go.Proofs.Ytfkhjkkhdfcnjaa
