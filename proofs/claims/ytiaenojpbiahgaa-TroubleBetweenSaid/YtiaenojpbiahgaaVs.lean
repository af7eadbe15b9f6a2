
/- The value-level logic in use: contracts as rows of a table, small equations. -/
import Derived.Test.YtiaenojpbiahgaaVr
import Derived.IntWalk
import Derived.KernelRfl
namespace Go.Proofs.Ytiaenojpbiahgaa
open Go
set_option linter.unusedVariables false
set_option linter.unusedSimpArgs false

theorem putF_at (F : Fr) (t : Nat) (d : D) (x : Nat) : putF F (some t) d x = if x = t then d else F x := rfl
theorem putF_no (F : Fr) (d : D) : putF F Option.none d = F := rfl
theorem arg_at (k : Nat) (d : D) (ds : List D) (t : Nat) : argFrom k (d :: ds) t = if t = k then d else argFrom (k + 1) ds t := rfl
theorem arg_no (k t : Nat) : argFrom k [] t = .v undef := rfl
theorem fr_at (k : Nat) (d : D) (l : List (Nat × D)) (t : Nat) : fr ((k, d) :: l) t = if t = k then d else fr l t := rfl
theorem fr_no (t : Nat) : fr [] t = .any := rfl
theorem hput_at (H : Hp) (i : Nm) (e : En) (j : Nm) : H.put i e j = if j = i then some e else H j := rfl
theorem hno_at (j : Nm) : Hp.none j = Option.none := rfl
theorem hput_put (H : Hp) (i : Nm) (e e' : En) : (H.put i e).put i e' = H.put i e' := by
  funext j
  simp only [Hp.put]
  split <;> rfl
section
variable (T : Tbl) (N : Nat → Nm) (J : List Nm) (Q : Ex → St → Prop) (s : St)
/-- What follows an operation. -/
def KL (K : St → Prop) (os : List COp) : List Nm → List Nm → St → Prop := fun _ _ s' => runL T N K os s'
def KD (K : St → Prop) (os : List COp) (k : Nat) (l : Past) (after : List Nat) : List Nm → List Nm → St → Prop := fun rs ws s' => chk after rs ws l = true ∧ runD T N K os (k + 1) (past k rs ws l) s'
theorem KL_at (K : St → Prop) (os : List COp) (rs ws : List Nm) : KL T N K os rs ws s = runL T N K os s := rfl
theorem KD_at (K : St → Prop) (os : List COp) (k : Nat) (l : Past) (after : List Nat) (rs ws : List Nm) : KD T N K os k l after rs ws s = (chk after rs ws l = true ∧ runD T N K os (k + 1) (past k rs ws l) s) := rfl
theorem runL_n (K : St → Prop) : runL T N K [] s = K s := rfl
theorem runL_c (K : St → Prop) (o : COp) (os : List COp) : runL T N K (o :: os) s = run1 T N o s (KL T N K os) := rfl
theorem runD_n (K : St → Prop) (k : Nat) (l : Past) : runD T N K [] k l s = K s := rfl
theorem runD_c (K : St → Prop) (o : COp) (os : List COp) (k : Nat) (l : Past) : runD T N K (o :: os) k l s = run1 T N o s (KD T N K os k l o.after) := rfl
def sO (Q' : List Nm → List Nm → St → Prop) (F : Fr) (dst : Option Nat) (H : Hp) : Option Out → Prop
  | Option.none => False
  | some out => out.cond ∧ Q' out.rs (wid out.ws) ⟨putF F dst out.v, H.puto out.ws⟩
def sC (T : Tbl) (Q' : List Nm → List Nm → St → Prop) (F : Fr) (H : Hp) (dst : Option Nat) (nn : Nm) (k : K) (b : Bool) : Option (FuncId × List D) → Prop
  | some (f, args) => callRun T nn dst F b H f args Q'
  | Option.none => sO Q' F dst H (eff nn F H k)
def sG (T : Tbl) (Q' : List Nm → List Nm → St → Prop) (F : Fr) (H : Hp) (dst : Option Nat) (nn : Nm) (k : K) (b : Bool) : Option Bool → Prop
  | Option.none => False
  | some w => if w = true then sC T Q' F H dst nn k b (callee F k) else Q' [] [] ⟨putF F dst (.v undef), H⟩
def sT (nn : Nm) (dst : Option Nat) (F : Fr) (b : Bool) (H H1 : Hp) (ns ks js : List Nm) (Q' : List Nm → List Nm → St → Prop) : Option (Prop × (D → Hp → Prop)) → Prop
  | Option.none => False
  | some (pre, R) => pre ∧ if (b && js.isEmpty) = true then (∀ v H', R v H' → v.flat = true ∧ Q' ns [nn] ⟨putF F dst v, H⟩) else ∀ v H', R v H' → Q' ns (ks ++ nn :: js) ⟨putF F dst v, H1.over H' (nn :: js)⟩
def sB (T : Tbl) (N : Nat → Nm) (J : List Nm) (a b : C) (Q : Ex → St → Prop) (s : St) : D → Prop
  | .v (.bool c) => if c = true then vc T N J a Q s else vc T N J b Q s
  | _ => False
theorem sO_s (Q' : List Nm → List Nm → St → Prop) (F : Fr) (dst : Option Nat) (H : Hp) (c : Prop) (rs : List Nm) (v : D) (ws : Option (Nm × En)) : sO Q' F dst H (some ⟨c, rs, v, ws⟩) = (c ∧ Q' rs (wid ws) ⟨putF F dst v, H.puto ws⟩) := rfl
theorem sC_s (Q' : List Nm → List Nm → St → Prop) (F : Fr) (H : Hp) (dst : Option Nat) (nn : Nm) (k : K) (b : Bool) (f : FuncId) (args : List D) : sC T Q' F H dst nn k b (some (f, args)) = callRun T nn dst F b H f args Q' := rfl
theorem sC_n (Q' : List Nm → List Nm → St → Prop) (F : Fr) (H : Hp) (dst : Option Nat) (nn : Nm) (k : K) (b : Bool) : sC T Q' F H dst nn k b Option.none = sO Q' F dst H (eff nn F H k) := rfl
theorem sG_s (Q' : List Nm → List Nm → St → Prop) (F : Fr) (H : Hp) (dst : Option Nat) (nn : Nm) (k : K) (b : Bool) (w : Bool) : sG T Q' F H dst nn k b (some w) = if w = true then sC T Q' F H dst nn k b (callee F k) else Q' [] [] ⟨putF F dst (.v undef), H⟩ := rfl
theorem sT_s (nn : Nm) (dst : Option Nat) (F : Fr) (b : Bool) (H H1 : Hp) (ns ks js : List Nm) (Q' : List Nm → List Nm → St → Prop) (pre : Prop) (R : D → Hp → Prop) : sT nn dst F b H H1 ns ks js Q' (some (pre, R)) = (pre ∧ if (b && js.isEmpty) = true then (∀ v H', R v H' → v.flat = true ∧ Q' ns [nn] ⟨putF F dst v, H⟩) else ∀ v H', R v H' → Q' ns (ks ++ nn :: js) ⟨putF F dst v, H1.over H' (nn :: js)⟩) := rfl
theorem sB_v (a b : C) (c : Bool) : sB T N J a b Q s (.v (.bool c)) = if c = true then vc T N J a Q s else vc T N J b Q s := rfl
theorem run1_at (F : Fr) (H : Hp) (dst : Option Nat) (g : Option (Nat × Bool)) (k : K) (nm : Nat) (after : List Nat) (b : Bool) (Q' : List Nm → List Nm → St → Prop) : run1 T N ⟨dst, g, k, nm, after, b⟩ ⟨F, H⟩ Q' = sG T Q' F H dst (N nm) k b (guardD F g) := by
  unfold run1
  dsimp only
  cases guardD F g with
  | none => rfl
  | some w =>
    dsimp only [sG]
    cases callee F k with
    | none =>
      dsimp only [sC]
      cases eff (N nm) F H k <;> rfl
    | some q => rfl
theorem callRun3_at (nn : Nm) (dst : Option Nat) (F : Fr) (f : FuncId) (b : Bool) (H H1 : Hp) (ns ks : List Nm) (args' : List D) (js : List Nm) (Q' : List Nm → List Nm → St → Prop) : callRun3 T nn dst F f b H H1 ns ks args' js Q' = (refsInL js args' = true ∧ ClosedH H1 js js ∧ H1 nn = Option.none ∧ sT nn dst F b H H1 ns ks js Q' (T f args' (H1.restr js) nn)) := by
  unfold callRun3
  cases T f args' (H1.restr js) nn <;> rfl
theorem vc_skip : vc T N J .skip Q s = Q .nrm s := rfl
theorem vc_opsD (l : List COp) : vc T N J (.ops true l) Q s = runD T N (Q .nrm) l 0 [] s := by rw [vc, if_pos rfl]
theorem vc_opsL (l : List COp) : vc T N J (.ops false l) Q s = runL T N (Q .nrm) l s := by rw [vc, if_neg (by simp)]
theorem vc_seq (a b : C) : vc T N J (.seq a b) Q s = vc T N J a (thenQ (vc T N J b Q) Q) s := rfl
theorem vc_cond (x : Opd) (a b : C) : vc T N J (.cond x a b) Q s = sB T N J a b Q s (x.ev s.F) := by
  unfold vc sB
  cases x.ev s.F <;> first | rfl | (rename_i v; cases v <;> rfl)
theorem vc_block (id : Nat) (a : C) : vc T N J (.block id a) Q s = vc T N J a (blockQ id Q) s := rfl
theorem vc_exit (id : Nat) : vc T N J (.exit id) Q s = Q (.exit id) s := rfl
theorem vc_ret : vc T N J .ret Q s = Q .ret s := rfl
theorem vc_loop (a : C) : vc T N J (.loop a) Q s = ∃ I : Nat → St → Prop, (∃ k s', Weak J s s' ∧ I k s') ∧ ∀ k s', I k s' → vc T N J a (loopQ J I k Q) s' := rfl
end
theorem vc_wk {T : Tbl} {N : Nat → Nm} {J : List Nm} {a : C} {Q : Ex → St → Prop} {s s' : St} (h : Weak J s s') (k : vc T N J a Q s') : vc T N J (.weak a) Q s := ⟨s', h, k⟩
theorem vc_wk0 {T : Tbl} {N : Nat → Nm} {J : List Nm} {a : C} {Q : Ex → St → Prop} {s : St} (k : vc T N J a Q s) : vc T N J (.weak a) Q s := ⟨s, Weak.refl _ _, k⟩
theorem thenQ_n (n : St → Prop) (Q : Ex → St → Prop) (s : St) : thenQ n Q .nrm s = n s := rfl
theorem thenQ_e (n : St → Prop) (Q : Ex → St → Prop) (id : Nat) (s : St) : thenQ n Q (.exit id) s = Q (.exit id) s := rfl
theorem thenQ_r (n : St → Prop) (Q : Ex → St → Prop) (s : St) : thenQ n Q .ret s = Q .ret s := rfl
theorem blockQ_n (id : Nat) (Q : Ex → St → Prop) (s : St) : blockQ id Q .nrm s = Q .nrm s := rfl
theorem blockQ_e (id : Nat) (Q : Ex → St → Prop) (k : Nat) (s : St) : blockQ id Q (.exit k) s = if k = id then Q .nrm s else Q (.exit k) s := rfl
theorem blockQ_r (id : Nat) (Q : Ex → St → Prop) (s : St) : blockQ id Q .ret s = Q .ret s := rfl
theorem loopQ_n (J : List Nm) (I : Nat → St → Prop) (k : Nat) (Q : Ex → St → Prop) (s : St) : loopQ J I k Q .nrm s = ∃ k' s', k' < k ∧ Weak J s s' ∧ I k' s' := rfl
theorem loopQ_e (J : List Nm) (I : Nat → St → Prop) (k : Nat) (Q : Ex → St → Prop) (id : Nat) (s : St) : loopQ J I k Q (.exit id) s = Q (.exit id) s := rfl
theorem loopQ_r (J : List Nm) (I : Nat → St → Prop) (k : Nat) (Q : Ex → St → Prop) (s : St) : loopQ J I k Q .ret s = Q .ret s := rfl
theorem finQ_n (rvs : List RV) (js : List Nm) (kp : Bool) (R : D → Hp → Prop) (s : St) : finQ rvs js kp R .nrm s = match resL s rvs with
    | some (c, vs) => c ∧ retA js kp R (packD vs) s.H
    | Option.none => False := rfl
theorem finQ_r (rvs : List RV) (js : List Nm) (kp : Bool) (R : D → Hp → Prop) (s : St) : finQ rvs js kp R .ret s = match resL s rvs with
    | some (c, vs) => c ∧ retA js kp R (packD vs) s.H
    | Option.none => False := rfl
theorem ite_vb (c : Prop) [Decidable c] (a b : Bool) : (if c then D.v (.bool a) else D.v (.bool b)) = .v (.bool (if c then a else b)) := by split <;> rfl
theorem plain_v (x : Value) : (D.v x).plain = true := rfl
theorem plain_any : D.any.plain = true := rfl
theorem plain_sl (l : List (List D)) : (D.sl l).plain = true := rfl
theorem plain_mt : D.mt.plain = true := rfl
theorem take_map {α β : Type} (f : α → β) (l : List α) : (l.map f).take l.length = l.map f := List.take_of_length_le (by simp)
theorem take_mapS {α β : Type} (f : α → β) (l : List α) (x : β) : (l.map f ++ [x]).take (l.length + 1) = l.map f ++ [x] := List.take_of_length_le (by simp)
theorem natc0 : ((0 : Nat) : Int) = 0 := rfl
theorem natc1 : ((1 : Nat) : Int) = 1 := rfl
theorem natc2 : ((2 : Nat) : Int) = 2 := rfl
theorem natc3 : ((3 : Nat) : Int) = 3 := rfl
theorem natc4 : ((4 : Nat) : Int) = 4 := rfl
theorem natc5 : ((5 : Nat) : Int) = 5 := rfl
theorem natc6 : ((6 : Nat) : Int) = 6 := rfl
theorem natc7 : ((7 : Nat) : Int) = 7 := rfl
/-- A table with one more row. -/
def tc (f : FuncId) (r : List D → Hp → Nm → Option (Prop × (D → Hp → Prop))) (T : Tbl) : Tbl := fun f' args Hs nn => if f' = f then r args Hs nn else T f' args Hs nn
def T0 : Tbl := fun _ _ _ _ => Option.none
theorem tc_at (f : FuncId) (r : List D → Hp → Nm → Option (Prop × (D → Hp → Prop))) (T : Tbl) (f' : FuncId) (args : List D) (Hs : Hp) (nn : Nm) : tc f r T f' args Hs nn = if f' = f then r args Hs nn else T f' args Hs nn := rfl
/-- The row of a function whose contract is shown at each call. -/
def rowR (P : Program) (f : FuncId) (R : List D → Hp → Nm → D → Hp → Prop) : List D → Hp → Nm → Option (Prop × (D → Hp → Prop)) :=
  fun args Hs nn => some ((∃ v H', R args Hs nn v H') ∧ CallsA P f args Hs nn (R args Hs nn), R args Hs nn)
theorem rowR_at (P : Program) (f : FuncId) (R : List D → Hp → Nm → D → Hp → Prop) (args : List D) (Hs : Hp) (nn : Nm) : rowR P f R args Hs nn = some ((∃ v H', R args Hs nn v H') ∧ CallsA P f args Hs nn (R args Hs nn), R args Hs nn) := rfl
theorem T0_ok (P : Program) : TblOk P T0 := fun f args Hs nn pre R h => by cases h
theorem tc_ok {P : Program} {f : FuncId} {R : List D → Hp → Nm → D → Hp → Prop} {T : Tbl} (hf : fnOk P f = true) (h : TblOk P T) : TblOk P (tc f (rowR P f R) T) := fun f' args Hs nn pre R' hT => by
  rw [tc_at] at hT
  split at hT
  · rename_i e
    subst e
    rw [rowR_at] at hT
    cases hT
    exact ⟨hf, fun hp => hp⟩
  · exact h f' args Hs nn pre R' hT
/-- A contract that yields a value and owns what it owned. -/
def Pu (d : D) (Hs : Hp) : D → Hp → Prop := fun v H' => v = d ∧ H' = Hs
theorem Pu_ex (d : D) (Hs : Hp) : (∃ v H', Pu d Hs v H') = True := eq_true ⟨d, Hs, rfl, rfl⟩
theorem Pu_all (d : D) (Hs : Hp) (K : D → Hp → Prop) : (∀ v H', Pu d Hs v H' → K v H') = K d Hs := propext ⟨fun h => h d Hs ⟨rfl, rfl⟩, fun h v H' ⟨e1, e2⟩ => by rw [e1, e2]; exact h⟩
/-- Numbers. -/
abbrev di (n : Int) : D := .v (.int .i64 n)
abbrev db (b : Bool) : D := .v (.bool b)
abbrev ds (s : ByteArray) : D := .v (.string s)
theorem wrap_i {n : Int} (h : -9223372036854775808 ≤ n ∧ n ≤ 9223372036854775807) : IntKind.i64.wrap n = n := IntWalk.i64_in _ (by omega)
/-- Names of a call: none is foreign. -/
theorem js_one {i : Nm} {e : En} : ∀ j x, (Hp.none.put i e) j = some x → j ∈ [i] := fun j x h => by
  rw [hput_at] at h
  split at h
  · rename_i hj; simp [hj]
  · cases h
theorem js_one' {i : Nm} {e : En} {nn : Nm} : ∀ j ∈ [i], ((Hp.none.put i e) j).isSome = true ∨ j = nn := fun j h => by
  obtain rfl := List.mem_singleton.1 h
  rw [hput_at, if_pos rfl]
  exact .inl rfl
theorem js_nil : ∀ (j : Nm) (x : En), Hp.none j = some x → j ∈ ([] : List Nm) := fun j x h => by cases h
theorem js_nil' {nn : Nm} : ∀ j ∈ ([] : List Nm), (Hp.none j).isSome = true ∨ j = nn := fun j h => by cases h
end Go.Proofs.Ytiaenojpbiahgaa
