/- RouteAnswers: V3. -/
import Derived.Orders
import Derived.Scope
import Derived.IntWalk
import Derived.KernelRfl
import Derived.Test.YtadjhfjiimgddaaYr2
set_option linter.unusedSimpArgs false
set_option linter.unusedVariables false

/- Regions over abstract data: one walk in the text's order serves every order. -/
namespace Go.Proofs.Ytadjhfjiimgddaa
open Go
structure COp where
 dst : Option Nat
 g : Option (Nat × Bool)
 k : K
 nm : Nat
 after : List Nat
 b : Bool
abbrev Tbl := FuncId → List D → Hp → Nm → Option (Prop × (D → Hp → Prop))
def fnOk (P : Program) (f : FuncId) : Bool :=
 match P.funcs[f]? with
 | some fn => fn.name != "runtime.NumGoroutine" && fn.body.isSome
 | Option.none => false
def TblOk (P : Program) (T : Tbl) : Prop := ∀ f args Hs nn pre R, T f args Hs nn = some (pre, R) → fnOk P f = true ∧ (pre → (∃ v H', R v H') ∧ CallsA P f args Hs nn R)
def putF (F : Fr) (dst : Option Nat) (d : D) : Fr :=
 match dst with
 | some t => fun x => if x = t then d else F x
 | Option.none => F
def guardD (F : Fr) : Option (Nat × Bool) → Option Bool
 | Option.none => some true
 | some (t, b) =>
  match F t with
  | .v (.bool c) => some (c == b)
  | .v (.tuple _) => some false
  | _ => Option.none
mutual
def D.nms : D → List Nm
 | .own i _ _ _ => [i]
 | .ptr i _ _ _ => [i]
 | .agg cs => nmsL cs
 | .tup cs => nmsL cs
 | .clo _ fs cs => nmsL fs ++ nmsL cs
 | .v _ => []
 | .any => []
 | .sl _ => []
 | .mt => []
 | .ip _ => []
def nmsL : List D → List Nm
 | [] => []
 | d :: ds => d.nms ++ nmsL ds
end
def addNm (js : List Nm) : List Nm → List Nm
 | [] => js
 | i :: is => if nmIn i js = true then addNm js is else addNm (js ++ [i]) is
def cellNms (H : Hp) : List Nm → List Nm
 | [] => []
 | i :: is => (match H i with
  | some e => (match e.rows with
   | [row] => nmsL row
   | _ => [])
  | Option.none => []) ++ cellNms H is
def reach (H : Hp) (ds : List D) : List Nm := addNm (addNm [] (nmsL ds)) (cellNms H (nmsL ds))
def wid : Option (Nm × En) → List Nm
 | some (i, _) => [i]
 | Option.none => []
def callRun3 (T : Tbl) (nn : Nm) (dst : Option Nat) (F : Fr) (f : FuncId) (b : Bool) (H H1 : Hp) (ns ks : List Nm) (args' : List D) (js : List Nm) (Q : List Nm → List Nm → St → Prop) : Prop :=
 refsInL js args' = true ∧ ClosedH H1 js js ∧ (∀ k ∈ nms nn, H1 k = Option.none) ∧
  match T f args' (H1.restr js) nn with
  | Option.none => False
  | some (pre, R) => pre ∧ if (b && js.isEmpty) = true then (∀ v H', R v H' → v.flat = true ∧ Q ns (nms nn) ⟨putF F dst v, H⟩) else ∀ v H', R v H' → Q ns (ks ++ (nms nn ++ js)) ⟨putF F dst v, H1.over H' (nms nn ++ js)⟩
def callRun2 (T : Tbl) (nn : Nm) (dst : Option Nat) (F : Fr) (f : FuncId) (b : Bool) (H H1 : Hp) (ns ks : List Nm) (args' : List D) (Q : List Nm → List Nm → St → Prop) : Prop := callRun3 T nn dst F f b H H1 ns ks args' (reach H1 args') Q
def callRun1 (T : Tbl) (nn : Nm) (dst : Option Nat) (F : Fr) (f : FuncId) (b : Bool) (H : Hp) (ns ks : List Nm) (args' : List D) (Q : List Nm → List Nm → St → Prop) : Prop := callRun2 T nn dst F f b H (H.kills ks) ns ks args' Q
def callRun (T : Tbl) (nn : Nm) (dst : Option Nat) (F : Fr) (b : Bool) (H : Hp) (f : FuncId) (args : List D) (Q : List Nm → List Nm → St → Prop) : Prop :=
 lendOkL' H args ∧ callRun1 T nn dst F f b H (nmsL args) (args.flatMap (lendNm H)) (args.map (lend H)) Q
def run1 (T : Tbl) (N : Nat → Nm) (o : COp) (s : St) (Q : List Nm → List Nm → St → Prop) : Prop :=
 match guardD s.F o.g with
 | Option.none => False
 | some w =>
  if w = true then
   match callee s.F o.k with
   | some (f, args) => callRun T (N o.nm) o.dst s.F o.b s.H f args Q
   | Option.none =>
    match eff (N o.nm) s.F s.H o.k with
    | Option.none => False
    | some out => out.cond ∧ Q out.rs (wid out.ws) ⟨putF s.F o.dst out.v, s.H.puto out.ws⟩
  else Q [] [] ⟨putF s.F o.dst (.v undef), s.H⟩
def Opd.ts : Opd → List Nat
 | .t n => [n]
 | .c _ => []
def optTs : Option Opd → List Nat
 | some x => x.ts
 | Option.none => []
def K.ts : K → List Nat
 | .mv x => x.ts
 | .pick c a b => c.ts ++ (a.ts ++ b.ts)
 | .new _ => []
 | .box _ x => x.ts
 | .bld _ ps => ps.flatMap fun q => q.2.2.ts
 | .bsl _ _ _ ps => ps.flatMap fun q => q.2.ts
 | .ld _ _ x => x.ts
 | .st _ x y => x.ts ++ y.ts
 | .nck x => x.ts
 | .bin _ x y => x.ts ++ y.ts
 | .beq _ x y => x.ts ++ y.ts
 | .eqa _ _ x y => x.ts ++ y.ts
 | .bts x => x.ts
 | .not x => x.ts
 | .neg x => x.ts
 | .cvi _ x => x.ts
 | .fa _ x => x.ts
 | .iaA _ _ x i => x.ts ++ i.ts
 | .iaS _ x i => x.ts ++ i.ts
 | .fld _ _ _ x => x.ts
 | .ixA _ _ _ x i => x.ts ++ i.ts
 | .ixS x i => x.ts ++ i.ts
 | .ext x _ => x.ts
 | .mkf _ fs cs => fs.flatMap Opd.ts ++ cs.flatMap Opd.ts
 | .len x => x.ts
 | .lenS x => x.ts
 | .app _ _ x y => x.ts ++ y.ts
 | .mks _ _ _ n => n.ts
 | .slc _ x lo hi => x.ts ++ (optTs lo ++ optTs hi)
 | .slc3 _ x lo hi mx => x.ts ++ (optTs lo ++ (hi.ts ++ mx.ts))
 | .mnx _ x y => x.ts ++ y.ts
 | .cpy _ x y => x.ts ++ y.ts
 | .isn _ x => x.ts
 | .stk => []
 | .call _ args => args.flatMap Opd.ts
 | .callv x args => x.ts ++ args.flatMap Opd.ts
def COp.looks (o : COp) : List Nat := (match o.g with | some (t, _) => [t] | Option.none => []) ++ o.k.ts
def Agr (ts : List Nat) (F F2 : Fr) : Prop := ∀ t ∈ ts, F2 t = F t
theorem Agr.ev {x : Opd} {F F2 : Fr} (h : Agr x.ts F F2) : x.ev F2 = x.ev F := by
 cases x with
 | t n => exact h n (by simp [Opd.ts])
 | c d => rfl
theorem Agr.left {a b : List Nat} {F F2 : Fr} (h : Agr (a ++ b) F F2) : Agr a F F2 := fun t ht => h t (List.mem_append_left _ ht)
theorem Agr.right {a b : List Nat} {F F2 : Fr} (h : Agr (a ++ b) F F2) : Agr b F F2 := fun t ht => h t (List.mem_append_right _ ht)
theorem Agr.map {xs : List Opd} {F F2 : Fr} (h : Agr (xs.flatMap Opd.ts) F F2) : mapEv F2 xs = mapEv F xs := by
 induction xs with
 | nil => rfl
 | cons x xs ih =>
  rw [List.flatMap_cons] at h
  rw [mapEv, mapEv, h.left.ev, ih h.right]
theorem Agr.fillD {ps : List (Nat × Nat × Opd)} {F F2 : Fr} (h : Agr (ps.flatMap fun q => q.2.2.ts) F F2) : ∀ z, fillD F2 ps z = Go.Proofs.Ytadjhfjiimgddaa.fillD F ps z := by
 induction ps with
 | nil => exact fun _ => rfl
 | cons q ps ih =>
  intro z
  rw [List.flatMap_cons] at h
  obtain ⟨off, sz, x⟩ := q
  simp only [Go.Proofs.Ytadjhfjiimgddaa.fillD, Agr.ev (x := x) h.left, ih h.right]
theorem Agr.fillR {ps : List (Nat × Opd)} {F F2 : Fr} {sz : Nat} (h : Agr (ps.flatMap fun q => q.2.ts) F F2) : ∀ z, fillR F2 sz ps z = Go.Proofs.Ytadjhfjiimgddaa.fillR F sz ps z := by
 induction ps with
 | nil => exact fun _ => rfl
 | cons q ps ih =>
  intro z
  rw [List.flatMap_cons] at h
  obtain ⟨i, x⟩ := q
  simp only [Go.Proofs.Ytadjhfjiimgddaa.fillR, Agr.ev (x := x) h.left, ih h.right]
theorem Agr.bnd {x : Option Opd} {F F2 : Fr} {n : Int} (h : Agr (optTs x) F F2) : bnd F2 x n = Go.Proofs.Ytadjhfjiimgddaa.bnd F x n := by
 cases x with
 | none => rfl
 | some x => simp only [Go.Proofs.Ytadjhfjiimgddaa.bnd, Agr.ev (x := x) h]
theorem callee_agr {k : K} {F F2 : Fr} (h : Agr k.ts F F2) : callee F2 k = callee F k := by
 cases k <;> simp only [callee]
 ·rw [Agr.map h]
 ·rw [h.left.ev, Agr.map h.right]
theorem rowsOf_agr {H H2 : Hp} {d : D} {ys : List Nm} {l : List (List D)} (h : rowsOf H d = some (ys, l)) (hh : ∀ i ∈ ys, H2 i = H i) : rowsOf H2 d = some (ys, l) := by
 unfold rowsOf at h ⊢
 split at h
 ·exact h
 ·exact h
 ·rename_i i g off n
  split at h
  ·rename_i e he
   split at h
   ·rename_i hc
    cases h
    rw [hh i (List.mem_cons_self ..), he]
    simp only [hc, and_self, if_true]
   ·cases h
  ·cases h
 ·cases h
theorem eff_agr {nm : Nm} {F F2 : Fr} {H H2 : Hp} {k : K} {out : Out} (h : eff nm F H k = some out) (hF : Agr k.ts F F2) (hH : ∀ i ∈ out.rs, H2 i = H i) : eff nm F2 H2 k = some out := by
 cases k with
 | mv x => simp only [eff] at h ⊢; rw [Agr.ev (x := x) hF]; exact h
 | pick c a b => simp only [eff] at h ⊢; rw [hF.left.ev, hF.right.left.ev, hF.right.right.ev]; exact h
 | new z =>
  simp only [eff] at h ⊢
  split at h <;> cases h
  rename_i e
  rw [hH nm (List.mem_cons_self ..), e]
 | box sz x =>
  simp only [eff] at h ⊢
  rw [Agr.ev (x := x) hF]
  split at h
  ·cases h
   rename_i e e'
   rw [hH nm (List.mem_cons_self ..), e, e']
  ·cases h
 | bld z ps => simp only [eff] at h ⊢; rw [Agr.fillD hF]; exact h
 | bsl sz n z ps =>
  simp only [eff] at h ⊢
  rw [Agr.fillR hF]
  split at h
  ·cases h
   rename_i e e'
   rw [hH nm (List.mem_cons_self ..), e, e']
  ·cases h
 | ld sz ag x =>
  simp only [eff] at h ⊢
  rw [Agr.ev (x := x) hF]
  split at h
  ·split at h
   ·rename_i e he
    split at h
    ·rename_i hg
     cases h
     try dsimp only
     rw [hH _ (List.mem_cons_self ..), he]
     simp only [hg, if_true]
    ·cases h
   ·cases h
  ·exact h
  ·cases h
 | st sz x y =>
  simp only [eff] at h ⊢
  rw [hF.left.ev, hF.right.ev]
  split at h
  ·split at h
   ·rename_i e he
    split at h
    ·rename_i hg
     cases h
     try dsimp only
     rw [hH _ (List.mem_cons_self ..), he]
     simp only [hg, if_true]
    ·cases h
   ·cases h
  ·cases h
 | nck x =>
  simp only [eff] at h ⊢
  rw [Agr.ev (x := x) hF]
  split at h
  ·split at h
   ·rename_i e he
    split at h
    ·rename_i hg
     cases h
     try dsimp only
     rw [hH _ (List.mem_cons_self ..), he]
     simp only [hg, if_true]
    ·cases h
   ·cases h
  ·exact h
  ·exact h
  ·cases h
 | bin op x y => simp only [eff] at h ⊢; rw [hF.left.ev, hF.right.ev]; exact h
 | beq ng x y => simp only [eff] at h ⊢; rw [hF.left.ev, hF.right.ev]; exact h
 | eqa ng ks x y => simp only [eff] at h ⊢; rw [hF.left.ev, hF.right.ev]; exact h
 | bts x =>
  simp only [eff] at h ⊢
  rw [Agr.ev (x := x) hF]
  split at h
  ·rename_i ys l e1
   split at h
   ·rename_i ns hns
    cases h
    rw [rowsOf_agr e1 hH]
    dsimp only
    rw [hns]
   ·cases h
  ·cases h
 | not x => simp only [eff] at h ⊢; rw [Agr.ev (x := x) hF]; exact h
 | neg x => simp only [eff] at h ⊢; rw [Agr.ev (x := x) hF]; exact h
 | cvi kd x => simp only [eff] at h ⊢; rw [Agr.ev (x := x) hF]; exact h
 | fa off x =>
  simp only [eff] at h ⊢
  rw [Agr.ev (x := x) hF]
  split at h
  ·split at h
   ·rename_i e he
    split at h
    ·rename_i hg
     cases h
     try dsimp only
     rw [hH _ (List.mem_cons_self ..), he]
     simp only [hg, if_true]
    ·cases h
   ·cases h
  ·exact h
  ·cases h
 | iaA n sz x i =>
  simp only [eff] at h ⊢
  rw [hF.left.ev, hF.right.ev]
  split at h
  ·split at h
   ·rename_i e he
    split at h
    ·rename_i hg
     cases h
     try dsimp only
     rw [hH _ (List.mem_cons_self ..), he]
     simp only [hg, if_true]
    ·cases h
   ·cases h
  ·exact h
  ·cases h
 | iaS sz x i =>
  simp only [eff] at h ⊢
  rw [hF.left.ev, hF.right.ev]
  split at h
  ·exact h
  ·split at h
   ·rename_i e he
    split at h
    ·rename_i hg
     cases h
     try dsimp only
     rw [hH _ (List.mem_cons_self ..), he]
     simp only [hg, if_true]
    ·cases h
   ·cases h
  ·cases h
 | fld off sz ag x => simp only [eff] at h ⊢; rw [Agr.ev (x := x) hF]; exact h
 | ixA n sz ag x i => simp only [eff] at h ⊢; rw [hF.left.ev, hF.right.ev]; exact h
 | ixS x i => simp only [eff] at h ⊢; rw [hF.left.ev, hF.right.ev]; exact h
 | ext x i => simp only [eff] at h ⊢; rw [Agr.ev (x := x) hF]; exact h
 | mkf f fs cs => simp only [eff] at h ⊢; rw [Agr.map hF.left, Agr.map hF.right]; exact h
 | len x => simp only [eff] at h ⊢; rw [Agr.ev (x := x) hF]; exact h
 | lenS x => simp only [eff] at h ⊢; rw [Agr.ev (x := x) hF]; exact h
 | app sz bytes x y =>
  simp only [eff] at h ⊢
  rw [hF.left.ev, hF.right.ev]
  split at h
  ·rename_i ys l e1 e2
   split at h
   ·cases h
    rename_i e
    rw [rowsOf_agr e1 (fun i hi => hH i (List.mem_cons_of_mem _ hi)), e2]
    dsimp only
    rw [hH nm (List.mem_cons_self ..), e]
   ·cases h
  ·rename_i ys l i g off n e1 e2
   split at h
   ·rename_i e he
    split at h
    ·rename_i hg
     cases h
     try dsimp only
     rw [rowsOf_agr e1 (fun i hi => hH i (List.mem_cons_of_mem _ hi)), e2]
     dsimp only
     rw [hH _ (List.mem_cons_self ..), he]
     try dsimp only
     rw [if_pos hg]
    ·cases h
   ·cases h
  ·cases h
 | mks sz bytes z n =>
  simp only [eff] at h ⊢
  rw [Agr.ev (x := n) hF]
  split at h
  ·cases h
   rename_i e e'
   rw [hH nm (List.mem_cons_self ..), e, e']
  ·cases h
 | slc sz x lo hi =>
  simp only [eff] at h ⊢
  rw [hF.left.ev, Agr.bnd hF.right.left]
  split at h
  ·try dsimp only
   rw [Agr.bnd hF.right.right]
   exact h
  ·try dsimp only
   rw [Agr.bnd hF.right.right]
   split at h
   ·split at h
    ·rename_i e he
     split at h
     ·rename_i hg
      cases h
      try dsimp only
      rw [hH _ (List.mem_cons_self ..), he]
      simp only [hg, if_true]
     ·cases h
    ·cases h
   ·cases h
  ·try dsimp only
   rw [Agr.bnd hF.right.right]
   exact h
  ·cases h
 | slc3 sz x lo hi mx =>
  simp only [eff] at h ⊢
  rw [hF.left.ev, Agr.bnd hF.right.left]
  split at h
  ·try dsimp only
   rw [hF.right.right.left.ev, hF.right.right.right.ev]
   exact h
  ·try dsimp only
   rw [hF.right.right.left.ev, hF.right.right.right.ev]
   split at h
   ·split at h
    ·rename_i e he
     split at h
     ·rename_i hg
      cases h
      try dsimp only
      rw [hH _ (List.mem_cons_self ..), he]
      simp only [hg, if_true]
     ·cases h
    ·cases h
   ·cases h
  ·cases h
 | mnx mx x y => simp only [eff] at h ⊢; rw [hF.left.ev, hF.right.ev]; exact h
 | cpy sz x y =>
  simp only [eff] at h ⊢
  rw [hF.left.ev, hF.right.ev]
  split at h
  ·rename_i i g off n ys l e1 e2
   split at h
   ·rename_i e he
    split at h
    ·rename_i hg
     cases h
     try dsimp only
     rw [rowsOf_agr e2 (fun i hi => hH i (List.mem_cons_of_mem _ hi)), e1]
     dsimp only
     rw [hH _ (List.mem_cons_self ..), he]
     try dsimp only
     rw [if_pos hg]
    ·cases h
   ·cases h
  ·cases h
 | isn ng x =>
  simp only [eff] at h ⊢
  rw [Agr.ev (x := x) hF]
  split at h
  ·exact h
  ·split at h
   ·rename_i e he
    split at h
    ·rename_i hg
     cases h
     try dsimp only
     rw [hH _ (List.mem_cons_self ..), he]
     simp only [hg, if_true]
    ·cases h
   ·cases h
  ·cases h
 | stk => cases h
 | call f args => cases h
 | callv x args => cases h
theorem kill_at {H H2 : Hp} {i j : Nm} (h : H2 i = H i) : (H2.kill j) i = (H.kill j) i := by
 unfold Hp.kill
 by_cases hij : i = j
 ·subst hij
  rw [h]
  cases hi : H i with
  | none => exact h
  | some e => dsimp only; rw [Hp.put_same, Hp.put_same]
 ·cases H j with
  | none =>
   cases H2 j with
   | none => exact h
   | some e => dsimp only; rw [Hp.put_other _ hij]; exact h
  | some e' =>
   cases H2 j with
   | none => dsimp only; rw [Hp.put_other _ hij]; exact h
   | some e => dsimp only; rw [Hp.put_other _ hij, Hp.put_other _ hij]; exact h
theorem kills_at : ∀ {ks : List Nm} {H H2 : Hp} {i : Nm}, H2 i = H i → (H2.kills ks) i = (H.kills ks) i
 | [], _, _, _, h => h
 | k :: ks, H, H2, i, h => kills_at (ks := ks) (kill_at h)
theorem kill_out {H : Hp} {i j : Nm} (h : i ≠ j) : (H.kill j) i = H i := by
 unfold Hp.kill
 cases H j with
 | none => rfl
 | some e => exact Hp.put_other _ h _
theorem kills_out : ∀ {ks : List Nm} {H : Hp} {i : Nm}, i ∉ ks → (H.kills ks) i = H i
 | [], _, _, _ => rfl
 | k :: ks, H, i, h => by
  rw [Hp.kills, kills_out (fun h' => h (List.mem_cons_of_mem _ h')), kill_out (fun h' => h (by rw [h']; exact List.mem_cons_self ..))]
theorem over_at {H' : Hp} : ∀ {js : List Nm} {H H2 : Hp} {i : Nm}, H2 i = H i → (H2.over H' js) i = (H.over H' js) i
 | [], _, _, _, h => h
 | j :: js, H, H2, i, h => by
  unfold Hp.over
  cases H' j with
  | none => exact over_at h
  | some e =>
   dsimp only
   by_cases hij : i = j
   ·subst hij; rw [Hp.put_same, Hp.put_same]
   ·rw [Hp.put_other _ hij, Hp.put_other _ hij]; exact over_at h
def upd (ks js : List Nm) (H' H : Hp) : Hp := (H.kills ks).over H' js
theorem upd_at {ks js : List Nm} {H' H H2 : Hp} {i : Nm} (h : H2 i = H i) : upd ks js H' H2 i = upd ks js H' H i := over_at (kills_at h)
theorem upd_out {ks js : List Nm} {H' H : Hp} {i : Nm} (h1 : i ∉ ks) (h2 : i ∉ js) : upd ks js H' H i = H i := by
 unfold upd
 rw [over_other (.inl h2), kills_out h1]
theorem addNm_mem {i : Nm} : ∀ {is js : List Nm}, i ∈ js ∨ i ∈ is → i ∈ addNm js is
 | [], js, h => h.elim id (fun h => by cases h)
 | k :: is, js, h => by
  unfold addNm
  split
  ·rename_i hk
   refine addNm_mem (h.elim .inl fun h => ?_)
   cases h with
   | head => exact .inl (nmIn_iff.1 hk)
   | tail _ h => exact .inr h
  ·refine addNm_mem (h.elim (fun h => .inl (List.mem_append_left _ h)) fun h => ?_)
   cases h with
   | head => exact .inl (List.mem_append_right _ (List.mem_singleton.2 rfl))
   | tail _ h => exact .inr h
theorem reach_mem {H : Hp} {ds : List D} {i : Nm} (h : i ∈ nmsL ds) : i ∈ reach H ds := addNm_mem (.inl (addNm_mem (.inr h)))
theorem cellNms_agr {H H2 : Hp} : ∀ {is : List Nm}, (∀ i ∈ is, H2 i = H i) → cellNms H2 is = cellNms H is
 | [], _ => rfl
 | i :: is, h => by
  rw [cellNms, cellNms, h i (List.mem_cons_self ..), cellNms_agr (fun j hj => h j (List.mem_cons_of_mem _ hj))]
theorem reach_agr {H H2 : Hp} {ds : List D} (h : ∀ i ∈ nmsL ds, H2 i = H i) : reach H2 ds = reach H ds := by
 unfold reach
 rw [cellNms_agr h]
theorem closedH_agr {H H2 : Hp} {js : List Nm} : ∀ {is : List Nm}, (∀ i ∈ is, H2 i = H i) → (ClosedH H2 js is ↔ ClosedH H js is)
 | [], _ => Iff.rfl
 | i :: is, h => by
  rw [ClosedH, ClosedH, h i (List.mem_cons_self ..), closedH_agr (fun j hj => h j (List.mem_cons_of_mem _ hj))]
theorem restr_agr {H H2 : Hp} : ∀ {js : List Nm}, (∀ i ∈ js, H2 i = H i) → H2.restr js = H.restr js
 | [], _ => rfl
 | i :: is, h => by
  rw [Hp.restr, Hp.restr, h i (List.mem_cons_self ..), restr_agr (fun j hj => h j (List.mem_cons_of_mem _ hj))]
theorem lend1_agr {H H2 : Hp} {d : D} (h : ∀ i ∈ d.nms, H2 i = H i) : lend1 H2 d = lend1 H d ∧ lendNm1 H2 d = lendNm1 H d ∧ (lendOk1 H2 d ↔ lendOk1 H d) := by
 cases d with
 | own i g off n =>
  have e := h i (by rw [D.nms]; exact List.mem_cons_self ..)
  simp only [lend1, lendNm1, lendOk1, e, and_self]
 | _ => exact ⟨rfl, rfl, Iff.rfl⟩
theorem nmsL_mem {cs : List D} {c : D} (hc : c ∈ cs) {i : Nm} (hi : i ∈ c.nms) : i ∈ nmsL cs := by
 induction cs with
 | nil => cases hc
 | cons d ds ih =>
  rw [nmsL]
  cases hc with
  | head => exact List.mem_append_left _ hi
  | tail _ hc => exact List.mem_append_right _ (ih hc)
theorem lend_agr {H H2 : Hp} {d : D} (h : ∀ i ∈ d.nms, H2 i = H i) : lend H2 d = lend H d ∧ lendNm H2 d = lendNm H d ∧ (lendOk H2 d ↔ lendOk H d) := by
 cases d with
 | agg cs =>
  rw [D.nms] at h
  have hc : ∀ c ∈ cs, ∀ i ∈ c.nms, H2 i = H i := fun c hc i hi => h i (nmsL_mem hc hi)
  refine ⟨?_, ?_, ?_⟩
  ·simp only [lend]
   congr 1
   exact List.map_congr_left fun c hcm => (lend1_agr (hc c hcm)).1
  ·simp only [lendNm]
   clear h
   induction cs with
   | nil => rfl
   | cons c cs ih =>
    rw [List.flatMap_cons, List.flatMap_cons, (lend1_agr (hc c (List.mem_cons_self ..))).2.1, ih (fun d hd => hc d (List.mem_cons_of_mem _ hd))]
  ·simp only [lendOk]
   clear h
   induction cs with
   | nil => exact Iff.rfl
   | cons c cs ih =>
    rw [lendOkL, lendOkL, (lend1_agr (hc c (List.mem_cons_self ..))).2.2, ih (fun d hd => hc d (List.mem_cons_of_mem _ hd))]
 | own => exact lend1_agr h
 | mt => exact lend1_agr h
 | v => exact lend1_agr h
 | any => exact lend1_agr h
 | tup => exact lend1_agr h
 | sl => exact lend1_agr h
 | ip => exact lend1_agr h
 | ptr => exact lend1_agr h
 | clo => exact lend1_agr h
theorem lends_agr {H H2 : Hp} {ds : List D} (h : ∀ i ∈ nmsL ds, H2 i = H i) : ds.map (lend H2) = ds.map (lend H) ∧ ds.flatMap (lendNm H2) = ds.flatMap (lendNm H) ∧ (lendOkL' H2 ds ↔ lendOkL' H ds) := by
 induction ds with
 | nil => exact ⟨rfl, rfl, Iff.rfl⟩
 | cons d ds ih =>
  rw [nmsL] at h
  obtain ⟨k1, k2, k3⟩ := lend_agr (d := d) (fun i hi => h i (List.mem_append_left _ hi))
  obtain ⟨q1, q2, q3⟩ := ih (fun i hi => h i (List.mem_append_right _ hi))
  exact ⟨by rw [List.map_cons, List.map_cons, k1, q1], by rw [List.flatMap_cons, List.flatMap_cons, k2, q2], by rw [lendOkL', lendOkL', k3, q3]⟩
def runKT (nn : Nm) (dst : Option Nat) (F : Fr) (H : Hp) (Q : St → Prop) : Option (Prop × (D → Hp → Prop)) → Prop
 | Option.none => False
 | some (pre, R) => pre ∧ ∀ v H', R v H' → (v.oflat = true ∧ flatAt H' nn ∧ flatAt H' (nn.1, nn.2 + 5000) ∧ flatAt H' (nn.1, nn.2 + 6000)) ∧ Q ⟨putF F dst v, H.over H' (nn :: (nn.1, nn.2 + 5000) :: [(nn.1, nn.2 + 6000)])⟩
def runKB (nn : Nm) (dst : Option Nat) (F : Fr) (H : Hp) (Q : St → Prop) (sz bytes : Nat) (l : List (List D)) (i : Nm) (g n : Nat) : Option En → Prop
 | Option.none => False
 | some e => (e.g = g ∧ e.sz = sz ∧ n ≤ e.rows.length ∧ (n = 0 → e.rows = [])) ∧ H nn = Option.none ∧ (∀ r ∈ l, r.length = sz) ∧ (n + l.length) * bytes ≤ 140737488355328 ∧ n + l.length ≤ 4611686018427387904 ∧ ((e.rows = [] ∧ l ≠ []) ∨ Q ⟨putF F dst (.own i g 0 (n + l.length)), H.put i ⟨g, sz, e.rows.take n ++ l⟩⟩) ∧ Q ⟨putF F dst (.own nn 0 0 (n + l.length)), (H.put i ⟨g, sz, e.rows.take n⟩).put nn ⟨0, sz, e.rows.take n ++ l⟩⟩
def runKD (nn : Nm) (dst : Option Nat) (F : Fr) (H : Hp) (Q : St → Prop) (sz bytes : Nat) : Option (List Nm × List (List D)) → D → Prop
 | some (ys, l), .own i g 0 n => nmIn i ys = false ∧ runKB nn dst F H Q sz bytes l i g n (H i)
 | _, _ => False
def runKA (nn : Nm) (dst : Option Nat) (F : Fr) (H : Hp) (Q : St → Prop) : K → Prop
 | .app sz bytes x y => runKD nn dst F H Q sz bytes (rowsOf H (y.ev F)) (x.ev F)
 | _ => False
def runKC (T : Tbl) (nn : Nm) (dst : Option Nat) (F : Fr) (H : Hp) (k : K) (Q : St → Prop) : Option (FuncId × List D) → Prop
 | Option.none => runKA nn dst F H Q k
 | some (f, args) => lendOkL' H args ∧ refsInL [] (args.map (lend H)) = true ∧ (H nn = Option.none ∧ H (nn.1, nn.2 + 5000) = Option.none ∧ H (nn.1, nn.2 + 6000) = Option.none) ∧ runKT nn dst F H Q (T f (args.map (lend H)) Hp.none nn)
def runKDQ (nn : Nm) (dst : Option Nat) (F : Fr) (H : Hp) (Q : List Nm → List Nm → St → Prop) (sz bytes : Nat) : Option (List Nm × List (List D)) → D → Prop
 | some (ys, l), .own i g 0 n => nmIn i ys = false ∧ runKB nn dst F H (Q (i :: ys) [i, nn]) sz bytes l i g n (H i)
 | _, _ => False
theorem runKDQ_s (nn : Nm) (dst : Option Nat) (F : Fr) (H : Hp) (Q : List Nm → List Nm → St → Prop) (sz bytes : Nat) (ys : List Nm) (l : List (List D)) (i : Nm) (g n : Nat) : runKDQ nn dst F H Q sz bytes (some (ys, l)) (.own i g 0 n) = (nmIn i ys = false ∧ runKB nn dst F H (Q (i :: ys) [i, nn]) sz bytes l i g n (H i)) := rfl
def runKAQ (nn : Nm) (dst : Option Nat) (F : Fr) (H : Hp) (Q : List Nm → List Nm → St → Prop) : K → Prop
 | .app sz bytes x y => runKDQ nn dst F H Q sz bytes (rowsOf H (y.ev F)) (x.ev F)
 | _ => False
def runKCQ (T : Tbl) (nn : Nm) (dst : Option Nat) (F : Fr) (H : Hp) (k : K) (Q : List Nm → List Nm → St → Prop) : Option (FuncId × List D) → Prop
 | Option.none => runKAQ nn dst F H Q k
 | some (f, args) => lendOkL' H args ∧ refsInL [] (args.map (lend H)) = true ∧ (H nn = Option.none ∧ H (nn.1, nn.2 + 5000) = Option.none ∧ H (nn.1, nn.2 + 6000) = Option.none) ∧ runKT nn dst F H (Q (nmsL args) (nms nn)) (T f (args.map (lend H)) Hp.none nn)
abbrev GOp := Bool × COp
def sGQ (T : Tbl) (Q : List Nm → List Nm → St → Prop) (F : Fr) (H : Hp) (dst : Option Nat) (nn : Nm) (k : K) : Option Bool → Prop
 | Option.none => False
 | some w => if w = true then runKCQ T nn dst F H k Q (callee F k) else Q [] [] ⟨putF F dst (.v undef), H⟩
def runG (T : Tbl) (N : Nat → Nm) (o : GOp) (s : St) (Q : List Nm → List Nm → St → Prop) : Prop :=
 if o.1 = true then sGQ T Q s.F s.H o.2.dst (N o.2.nm) o.2.k (guardD s.F o.2.g) else run1 T N o.2 s Q
theorem runG_f (T : Tbl) (N : Nat → Nm) (o : COp) (s : St) (Q : List Nm → List Nm → St → Prop) : runG T N (false, o) s Q = run1 T N o s Q := by unfold runG; rw [if_neg (by simp)]
theorem runG_t (T : Tbl) (N : Nat → Nm) (o : COp) (s : St) (Q : List Nm → List Nm → St → Prop) : runG T N (true, o) s Q = sGQ T Q s.F s.H o.dst (N o.nm) o.k (guardD s.F o.g) := by unfold runG; rw [if_pos rfl]
structure Pk1 (T : Tbl) (N : Nat → Nm) (o : COp) (s : St) (rs ws ks js : List Nm) (Res : D → Hp → Prop) : Prop where
 kw : ∀ i ∈ ks, i ∈ ws
 jw : ∀ i ∈ js, i ∈ ws
 iff : ∀ s2 : St, Agr o.looks s.F s2.F → (∀ i ∈ rs ++ ws, s2.H i = s.H i) → ∀ Q, (run1 T N o s2 Q ↔ ∀ v H', Res v H' → Q rs ws ⟨putF s2.F o.dst v, upd ks js H' s2.H⟩)
theorem guard_agr {F F2 : Fr} {g : Option (Nat × Bool)} (h : Agr (match g with | some (t, _) => [t] | Option.none => []) F F2) : guardD F2 g = guardD F g := by
 cases g with
 | none => rfl
 | some q =>
  obtain ⟨t, b⟩ := q
  simp only [guardD, h t (List.mem_cons_self ..)]
theorem step_pk1 {T : Tbl} {N : Nat → Nm} {o : COp} {s : St} {Q : List Nm → List Nm → St → Prop} (h : run1 T N o s Q) : ∃ rs ws ks js Res, Pk1 T N o s rs ws ks js Res := by
 unfold run1 at h
 split at h
 ·exact h.elim
 ·rename_i w hg
  cases w with
  | false =>
   refine ⟨[], [], [], [], fun v H' => v = .v undef, fun i hi => (by cases hi), fun i hi => (by cases hi), fun s2 hF hH Q2 => ?_⟩
   have hg2 := guard_agr (g := o.g) hF.left
   unfold run1
   rw [hg2, hg]
   simp only [Bool.false_eq_true, if_false]
   exact ⟨fun k v H' hv => by rw [hv]; exact k, fun k => k _ Hp.none rfl⟩
  | true =>
   simp only [if_true] at h
   split at h
   ·rename_i f args hc
    unfold callRun callRun1 callRun2 callRun3 at h
    obtain ⟨h1, h2, h3, h4, h5⟩ := h
    split at h5
    ·exact h5.elim
    ·rename_i pre R hT
     obtain ⟨h6, h7⟩ := h5
     by_cases hbr : (o.b && (reach (s.H.kills (args.flatMap (lendNm s.H))) (args.map (lend s.H))).isEmpty) = true
     ·rw [if_pos hbr] at h7
      have hjs : reach (s.H.kills (args.flatMap (lendNm s.H))) (args.map (lend s.H)) = [] := by
       rw [Bool.and_eq_true, List.isEmpty_iff] at hbr
       exact hbr.2
      refine ⟨nmsL args, nms (N o.nm), [], [], R, fun i hi => (by cases hi), fun i hi => (by cases hi), fun s2 hF hH Q2 => ?_⟩
      have hg2 := guard_agr (g := o.g) hF.left
      have hc2 := callee_agr hF.right
      obtain ⟨q1, q2, q3⟩ := lends_agr (ds := args) (H := s.H) (H2 := s2.H) (fun i hi => hH i (List.mem_append_left _ hi))
      have hk : ∀ k ∈ nms (N o.nm), (s2.H.kills (args.flatMap (lendNm s.H))) k = (s.H.kills (args.flatMap (lendNm s.H))) k := fun k hk => kills_at (hH _ (List.mem_append_right _ hk))
      have hk' : (∀ k ∈ nms (N o.nm), (s2.H.kills (args.flatMap (lendNm s.H))) k = Option.none) = ∀ k ∈ nms (N o.nm), (s.H.kills (args.flatMap (lendNm s.H))) k = Option.none := propext ⟨fun h k hm => by rw [← hk k hm]; exact h k hm, fun h k hm => by rw [hk k hm]; exact h k hm⟩
      have hr : reach (s2.H.kills (args.flatMap (lendNm s.H))) (args.map (lend s.H)) = reach (s.H.kills (args.flatMap (lendNm s.H))) (args.map (lend s.H)) := reach_agr fun i hi => by
       have := reach_mem (H := s.H.kills (args.flatMap (lendNm s.H))) hi
       rw [hjs] at this
       cases this
      unfold run1
      rw [hg2, hg]
      simp only [if_true]
      rw [hc2, hc]
      dsimp only
      unfold callRun callRun1 callRun2 callRun3
      rw [q1, q2, hr, restr_agr (H := s.H.kills (args.flatMap (lendNm s.H))) (fun i hi => by rw [hjs] at hi; cases hi), hT, hk']
      dsimp only
      rw [if_pos hbr]
      constructor
      ·exact fun k v H' hv => (k.2.2.2.2.2 v H' hv).2
      ·exact fun k => ⟨q3.2 h1, h2, (closedH_agr fun i hi => by rw [hjs] at hi; cases hi).2 h3, h4, h6, fun v H' hv => ⟨(h7 v H' hv).1, k v H' hv⟩⟩
     rw [if_neg hbr] at h7
     refine ⟨nmsL args, args.flatMap (lendNm s.H) ++ (nms (N o.nm) ++ reach (s.H.kills (args.flatMap (lendNm s.H))) (args.map (lend s.H))), args.flatMap (lendNm s.H), nms (N o.nm) ++ reach (s.H.kills (args.flatMap (lendNm s.H))) (args.map (lend s.H)), R,
      fun i hi => List.mem_append_left _ hi, fun i hi => List.mem_append_right _ hi, fun s2 hF hH Q2 => ?_⟩
     have hg2 := guard_agr (g := o.g) hF.left
     have hc2 := callee_agr hF.right
     obtain ⟨q1, q2, q3⟩ := lends_agr (ds := args) (H := s.H) (H2 := s2.H) (fun i hi => hH i (List.mem_append_left _ hi))
     have hk : ∀ i ∈ nms (N o.nm) ++ reach (s.H.kills (args.flatMap (lendNm s.H))) (args.map (lend s.H)), (s2.H.kills (args.flatMap (lendNm s.H))) i = (s.H.kills (args.flatMap (lendNm s.H))) i := fun i hi => kills_at (hH i (List.mem_append_right _ (List.mem_append_right _ hi)))
     have hr : reach (s2.H.kills (args.flatMap (lendNm s.H))) (args.map (lend s.H)) = reach (s.H.kills (args.flatMap (lendNm s.H))) (args.map (lend s.H)) := reach_agr fun i hi => hk i (List.mem_append_right _ (reach_mem hi))
     have hk' : (∀ k ∈ nms (N o.nm), (s2.H.kills (args.flatMap (lendNm s.H))) k = Option.none) = ∀ k ∈ nms (N o.nm), (s.H.kills (args.flatMap (lendNm s.H))) k = Option.none := propext ⟨fun h k hm => by rw [← hk k (List.mem_append_left _ hm)]; exact h k hm, fun h k hm => by rw [hk k (List.mem_append_left _ hm)]; exact h k hm⟩
     unfold run1
     rw [hg2, hg]
     simp only [if_true]
     rw [hc2, hc]
     dsimp only
     unfold callRun callRun1 callRun2 callRun3
     rw [q1, q2, hr, restr_agr (fun i hi => hk i (List.mem_append_right _ hi)), hT, hk']
     dsimp only
     rw [if_neg hbr]
     constructor
     ·exact fun k => k.2.2.2.2.2
     ·exact fun k => ⟨q3.2 h1, h2, (closedH_agr fun i hi => hk i (List.mem_append_right _ hi)).2 h3, h4, h6, k⟩
   ·rename_i hc
    split at h
    ·exact h.elim
    ·rename_i out he
     refine ⟨out.rs, wid out.ws, [], wid out.ws, fun v H' => v = out.v ∧ H' = Hp.none.puto out.ws, fun i hi => (by cases hi), fun i hi => hi, fun s2 hF hH Q2 => ?_⟩
     have hg2 := guard_agr (g := o.g) hF.left
     have hc2 := callee_agr hF.right
     have he2 := eff_agr (F2 := s2.F) (H2 := s2.H) he hF.right (fun i hi => hH i (List.mem_append_left _ hi))
     have hu : upd [] (wid out.ws) (Hp.none.puto out.ws) s2.H = s2.H.puto out.ws := by
      cases hw : out.ws with
      | none => rfl
      | some q =>
       obtain ⟨i, e⟩ := q
       simp only [upd, wid, Hp.kills, Hp.puto, Hp.over, Hp.put_same]
     unfold run1
     rw [hg2, hg]
     simp only [if_true]
     rw [hc2, hc, he2]
     dsimp only
     constructor
     ·intro k v H' hv
      obtain ⟨rfl, rfl⟩ := hv
      rw [hu]
      exact k.2
     ·intro k
      have := k _ _ ⟨rfl, rfl⟩
      rw [hu] at this
      exact ⟨h.1, this⟩
structure Pk (T : Tbl) (N : Nat → Nm) (o : GOp) (s : St) (rs ws ks js : List Nm) (Res : D → Hp → Prop) : Prop where
 kw : ∀ i ∈ ks, i ∈ ws
 jw : ∀ i ∈ js, i ∈ ws
 iff : ∀ s2 : St, Agr o.2.looks s.F s2.F → (∀ i ∈ rs ++ ws, s2.H i = s.H i) → ∀ Q, (runG T N o s2 Q ↔ ∀ v H', Res v H' → Q rs ws ⟨putF s2.F o.2.dst v, upd ks js H' s2.H⟩)
theorem step_pk {T : Tbl} {N : Nat → Nm} {o : GOp} {s : St} {Q : List Nm → List Nm → St → Prop} (h : runG T N o s Q) : ∃ rs ws ks js Res, Pk T N o s rs ws ks js Res := by
 obtain ⟨f, o⟩ := o
 cases f with
 | false =>
  rw [runG_f] at h
  obtain ⟨rs, ws, ks, js, Res, pk⟩ := step_pk1 h
  exact ⟨rs, ws, ks, js, Res, pk.kw, pk.jw, fun s2 hF hH Q => by rw [runG_f]; exact pk.iff s2 hF hH Q⟩
 | true =>
  rw [runG_t] at h
  cases hg : guardD s.F o.g with
  | none => rw [hg] at h; exact h.elim
  | some w =>
  rw [hg] at h
  cases w with
  | false =>
   refine ⟨[], [], [], [], fun v H' => v = .v undef, fun i hi => (by cases hi), fun i hi => (by cases hi), fun s2 hF hH Q2 => ?_⟩
   have hg2 := guard_agr (g := o.g) hF.left
   rw [runG_t]
   dsimp only
   rw [hg2, hg]
   unfold sGQ
   simp only [Bool.false_eq_true, if_false]
   exact ⟨fun k v H' hv => by rw [hv]; exact k, fun k => k _ Hp.none rfl⟩
  | true =>
  unfold sGQ at h
  simp only [if_true] at h
  cases hc : callee s.F o.k with
  | some q =>
   obtain ⟨f, args⟩ := q
   rw [hc] at h
   obtain ⟨h1, h2, h3, h4⟩ := h
   cases hT : T f (args.map (lend s.H)) Hp.none (N o.nm) with
   | none => rw [hT] at h4; exact h4.elim
   | some q =>
    obtain ⟨pre, R⟩ := q
    rw [hT] at h4
    obtain ⟨h5, h6⟩ := h4
    refine ⟨nmsL args, nms (N o.nm), [], nms (N o.nm), R, fun i hi => (by cases hi), fun i hi => hi, fun s2 hF hH Q2 => ?_⟩
    have hc2 := callee_agr (F := s.F) (F2 := s2.F) (k := o.k) hF.right
    obtain ⟨q1, q2, q3⟩ := lends_agr (ds := args) (H := s.H) (H2 := s2.H) (fun i hi => hH i (List.mem_append_left _ hi))
    have hk : ∀ k ∈ nms (N o.nm), s2.H k = s.H k := fun k hk => hH _ (List.mem_append_right _ hk)
    have hg2 := guard_agr (g := o.g) hF.left
    rw [runG_t]
    dsimp only
    rw [hg2, hg]
    unfold sGQ
    simp only [if_true]
    rw [hc2, hc]
    unfold runKCQ
    dsimp only
    rw [q1, hT, hk _ (by simp [nms]), hk ((N o.nm).1, (N o.nm).2 + 5000) (by simp [nms]), hk ((N o.nm).1, (N o.nm).2 + 6000) (by simp [nms])]
    unfold runKT
    exact ⟨fun k v H' hv => (k.2.2.2.2 v H' hv).2, fun k => ⟨q3.2 h1, h2, h3, h5, fun v H' hv => ⟨(h6 v H' hv).1, k v H' hv⟩⟩⟩
  | none =>
   rw [hc] at h
   unfold runKCQ at h
   dsimp only at h
   generalize hk : o.k = kk at h
   cases kk with
   | app sz bytes x y =>
    unfold runKAQ at h
    dsimp only at h
    cases hr : rowsOf s.H (y.ev s.F) with
    | none => rw [hr] at h; exact h.elim
    | some q =>
     obtain ⟨ys, l⟩ := q
     rw [hr] at h
     generalize hx : x.ev s.F = dx at h
     unfold runKDQ at h
     split at h
     ·rename_i ys' l' i g n hq
      cases hq
      cases he : s.H i with
      | none => rw [he] at h; exact h.2.elim
      | some e =>
       rw [he] at h
       obtain ⟨hni, a1, a2, a3, a4, a5, a6⟩ := h
       refine ⟨i :: ys, [i, N o.nm], [], [N o.nm, i], fun v H' => ((¬ (e.rows = [] ∧ l ≠ [])) ∧ v = .own i g 0 (n + l.length) ∧ H' = Hp.none.put i ⟨g, sz, e.rows.take n ++ l⟩) ∨ (v = .own (N o.nm) 0 0 (n + l.length) ∧ H' = (Hp.none.put i ⟨g, sz, e.rows.take n⟩).put (N o.nm) ⟨0, sz, e.rows.take n ++ l⟩), fun i hi => (by cases hi), fun j hj => (by simp only [List.mem_cons, List.not_mem_nil, or_false] at hj ⊢; exact hj.symm), fun s2 hF hH Q2 => ?_⟩
       have hne : i ≠ N o.nm := fun hh => by rw [hh, a2] at he; cases he
       have hc2 := callee_agr (F := s.F) (F2 := s2.F) (k := o.k) hF.right
       have hl : Agr (K.app sz bytes x y).ts s.F s2.F := by rw [← hk]; exact hF.right
       have hx2 : x.ev s2.F = x.ev s.F := hl.left.ev
       have hy2 : y.ev s2.F = y.ev s.F := hl.right.ev
       have hi2 : s2.H i = s.H i := hH i (by simp)
       have hn2 : s2.H (N o.nm) = s.H (N o.nm) := hH _ (by simp)
       have hr2 : rowsOf s2.H (y.ev s.F) = some (ys, l) := rowsOf_agr hr (fun j hj => hH j (by simp [hj]))
       have u1 : upd [] [N o.nm, i] (Hp.none.put i ⟨g, sz, e.rows.take n ++ l⟩) s2.H = s2.H.put i ⟨g, sz, e.rows.take n ++ l⟩ := by
        simp only [upd, Hp.kills, Hp.over, Hp.put_same, Hp.put_other _ (Ne.symm hne), Hp.none]
       have u2 : upd [] [N o.nm, i] ((Hp.none.put i ⟨g, sz, e.rows.take n⟩).put (N o.nm) ⟨0, sz, e.rows.take n ++ l⟩) s2.H = (s2.H.put i ⟨g, sz, e.rows.take n⟩).put (N o.nm) ⟨0, sz, e.rows.take n ++ l⟩ := by
        simp only [upd, Hp.kills, Hp.over, Hp.put_same, Hp.put_other _ hne, Hp.none]
       have hg2 := guard_agr (g := o.g) hF.left
       rw [runG_t]
       dsimp only
       rw [hg2, hg]
       unfold sGQ
       simp only [if_true]
       rw [hc2, hc]
       unfold runKCQ
       dsimp only
       rw [hk]
       unfold runKAQ
       dsimp only
       rw [hx2, hy2, hr2, hx]
       rw [runKDQ_s, hi2, he]
       unfold runKB
       constructor
       ·rintro k v H' (⟨hk0, rfl, rfl⟩ | ⟨rfl, rfl⟩)
        ·rw [u1]; exact k.2.2.2.2.2.2.1.resolve_left hk0
        ·rw [u2]; exact k.2.2.2.2.2.2.2
       ·intro k
        have k2 := k _ _ (.inr ⟨rfl, rfl⟩)
        rw [u2] at k2
        refine ⟨hni, a1, by rw [hn2]; exact a2, a3, a4, a5, ?_, k2⟩
        by_cases hk0 : e.rows = [] ∧ l ≠ []
        ·exact .inl hk0
        ·have k1 := k _ _ (.inl ⟨hk0, rfl, rfl⟩)
         rw [u1] at k1
         exact .inr k1
     ·exact h.elim
   | _ => exact h.elim
theorem runG_mono {T : Tbl} {N : Nat → Nm} {o : GOp} {s : St} {Q Q' : List Nm → List Nm → St → Prop} (h : runG T N o s Q) (hq : ∀ rs ws s', Q rs ws s' → Q' rs ws s') : runG T N o s Q' := by
 obtain ⟨rs, ws, ks, js, Res, pk⟩ := step_pk h
 have r : ∀ t ∈ o.2.looks, s.F t = s.F t := fun _ _ => rfl
 have := (pk.iff s r (fun _ _ => rfl) Q).1 h
 exact (pk.iff s r (fun _ _ => rfl) Q').2 fun v H' hv => hq _ _ _ (this v H' hv)
theorem run1_mono {T : Tbl} {N : Nat → Nm} {o : COp} {s : St} {Q Q' : List Nm → List Nm → St → Prop} (h : run1 T N o s Q) (hq : ∀ rs ws s', Q rs ws s' → Q' rs ws s') : run1 T N o s Q' := by
 have := runG_mono (o := (false, o)) (by rw [runG_f]; exact h) hq
 rwa [runG_f] at this
def disj : List Nm → List Nm → Bool
 | [], _ => true
 | i :: is, b => if nmIn i b = true then false else disj is b
theorem disj_iff {b : List Nm} : ∀ {a : List Nm}, disj a b = true ↔ ∀ i ∈ a, i ∉ b
 | [] => by simp [disj]
 | i :: is => by
  unfold disj
  split
  ·rename_i h
   simp [nmIn_iff.1 h]
  ·rename_i h
   have h' : i ∉ b := fun k => h (nmIn_iff.2 k)
   rw [disj_iff]
   simp [h']
def indep (ri wi rj wj : List Nm) : Bool := (disj wi rj && disj wi wj) && disj ri wj
theorem disj_symm {a b : List Nm} (h : disj a b = true) : disj b a = true := disj_iff.2 fun i hi k => disj_iff.1 h i k hi
theorem indep_symm {ri wi rj wj : List Nm} (h : indep ri wi rj wj = true) : indep rj wj ri wi = true := by
 simp only [indep, Bool.and_eq_true] at h ⊢
 exact ⟨⟨disj_symm h.2, disj_symm h.1.2⟩, disj_symm h.1.1⟩
abbrev Past := List (Nat × List Nm × List Nm)
def past (k : Nat) (rs ws : List Nm) (l : Past) : Past :=
 match rs, ws with
 | [], [] => l
 | _, _ => (k, rs, ws) :: l
def natIn (i : Nat) : List Nat → Bool
 | [] => false
 | j :: js => if i = j then true else natIn i js
theorem natIn_iff {i : Nat} : ∀ {js : List Nat}, natIn i js = true ↔ i ∈ js
 | [] => by simp [natIn]
 | j :: js => by
  unfold natIn
  split
  ·rename_i h; simp [h]
  ·rename_i h; rw [natIn_iff]; simp [h]
def chk (after : List Nat) (rs ws : List Nm) : Past → Bool
 | [] => true
 | (j, rj, wj) :: l => if natIn j after = true then chk after rs ws l else if indep rj wj rs ws = true then chk after rs ws l else false
theorem chk_cons {after : List Nat} {rs ws : List Nm} {j : Nat} {rj wj : List Nm} {l : Past} : chk after rs ws ((j, rj, wj) :: l) = true ↔ (j ∈ after ∨ indep rj wj rs ws = true) ∧ chk after rs ws l = true := by
 rw [chk]
 split
 ·rename_i h
  simp [natIn_iff.1 h]
 ·rename_i h
  have h' : j ∉ after := fun k => h (natIn_iff.2 k)
  split
  ·rename_i h2; simp [h2]
  ·rename_i h2; simp [h', h2]
theorem chk_past {after : List Nat} {rs ws : List Nm} {k : Nat} {r w : List Nm} {l : Past} : chk after rs ws (past k r w l) = true ↔ (k ∈ after ∨ indep r w rs ws = true) ∧ chk after rs ws l = true := by
 unfold past
 split
 ·exact ⟨fun h => ⟨.inr rfl, h⟩, fun h => h.2⟩
 ·exact chk_cons
def runU (T : Tbl) (N : Nat → Nm) (ops : List GOp) (K : St → Prop) : List Nat → Past → St → Prop
 | [], _, s => K s
 | k :: U, l, s =>
  match ops[k]? with
  | some o => runG T N o s fun rs ws s' => chk o.2.after rs ws l = true ∧ runU T N ops K U (past k rs ws l) s'
  | Option.none => False
theorem runU_past {T : Tbl} {N : Nat → Nm} {ops : List GOp} {K : St → Prop} : ∀ {U : List Nat} {l l' : Past} {s : St}, (∀ A r w, chk A r w l = true → chk A r w l' = true) → runU T N ops K U l s → runU T N ops K U l' s
 | [], _, _, _, _, h => h
 | k :: U, l, l', s, hl, h => by
  rw [runU] at h ⊢
  split at h
  ·exact runG_mono h fun rs ws s' ⟨h1, h2⟩ => ⟨hl _ _ _ h1, runU_past (fun A r w hc => chk_past.2 ⟨(chk_past.1 hc).1, hl _ _ _ (chk_past.1 hc).2⟩) h2⟩
  ·exact h
def apartC (a b : COp) : Bool :=
 (match a.dst with
  | some d => !b.looks.contains d && b.dst != some d
  | Option.none => true) &&
 (match b.dst with
  | some d => !a.looks.contains d
  | Option.none => true)
theorem apartC_spec {a b : COp} (h : apartC a b = true) : (∀ d, a.dst = some d → d ∉ b.looks ∧ b.dst ≠ some d) ∧ ∀ d, b.dst = some d → d ∉ a.looks := by
 unfold apartC at h
 rw [Bool.and_eq_true] at h
 refine ⟨fun d hd => ?_, fun d hd => ?_⟩
 ·have := h.1
  rw [hd] at this
  simpa using this
 ·have := h.2
  rw [hd] at this
  simpa using this
theorem putF_agr {F : Fr} {dst : Option Nat} {d : D} {ts : List Nat} (h : ∀ t, dst = some t → t ∉ ts) : Agr ts F (putF F dst d) := fun t ht => by
 cases dst with
 | none => rfl
 | some x =>
  simp only [putF]
  rw [if_neg (fun e => h x rfl (by rw [← e]; exact ht))]
theorem putF_agr' {F : Fr} {dst : Option Nat} {d : D} {ts : List Nat} (h : ∀ t, dst = some t → t ∉ ts) : Agr ts (putF F dst d) F := fun t ht => (putF_agr (d := d) (F := F) h t ht).symm
theorem putF_comm {F : Fr} {a b : Option Nat} {x y : D} (h : ∀ d, a = some d → b ≠ some d) : putF (putF F a x) b y = putF (putF F b y) a x := by
 cases a with
 | none => rfl
 | some t =>
  cases b with
  | none => rfl
  | some u =>
   have hne : t ≠ u := fun e => h t rfl (by rw [e])
   funext z
   simp only [putF]
   by_cases h1 : z = t
   ·subst h1
    simp [hne]
   ·by_cases h2 : z = u
    ·simp [h2, Ne.symm hne]
    ·simp [h1, h2]
theorem upd_comm {ks js ks2 js2 : List Nm} {ws ws2 : List Nm} {H' H2' H : Hp} (h1 : ∀ i ∈ ks, i ∈ ws) (h2 : ∀ i ∈ js, i ∈ ws) (h3 : ∀ i ∈ ks2, i ∈ ws2) (h4 : ∀ i ∈ js2, i ∈ ws2) (hd : disj ws ws2 = true) : upd ks2 js2 H2' (upd ks js H' H) = upd ks js H' (upd ks2 js2 H2' H) := by
 funext i
 by_cases hi : i ∈ ws
 ·have hi2 := disj_iff.1 hd i hi
  have n3 : i ∉ ks2 := fun h => hi2 (h3 i h)
  have n4 : i ∉ js2 := fun h => hi2 (h4 i h)
  rw [upd_out n3 n4]
  exact upd_at (upd_out n3 n4).symm
 ·have n1 : i ∉ ks := fun h => hi (h1 i h)
  have n2 : i ∉ js := fun h => hi (h2 i h)
  rw [upd_out (ks := ks) (js := js) n1 n2]
  exact upd_at (upd_out n1 n2)
def Ends (T : Tbl) : Prop := ∀ f args Hs nn pre R, T f args Hs nn = some (pre, R) → pre → ∃ v H', R v H'
theorem run1_ends {T : Tbl} (hT : Ends T) {N : Nat → Nm} {o : COp} {s : St} {Q : List Nm → List Nm → St → Prop} (h : run1 T N o s Q) : ∃ rs ws s', Q rs ws s' := by
 unfold run1 at h
 split at h
 ·exact h.elim
 ·split at h
  ·split at h
   ·unfold callRun callRun1 callRun2 callRun3 at h
    obtain ⟨h1, h2, h3, h4, h5⟩ := h
    split at h5
    ·exact h5.elim
    ·rename_i pre R hTT
     obtain ⟨v, H', hv⟩ := hT _ _ _ _ _ _ hTT h5.1
     obtain ⟨h6, h7⟩ := h5
     split at h7
     ·exact ⟨_, _, _, (h7 v H' hv).2⟩
     ·exact ⟨_, _, _, h7 v H' hv⟩
   ·split at h
    ·exact h.elim
    ·exact ⟨_, _, _, h.2⟩
  ·exact ⟨_, _, _, h⟩
theorem runG_ends {T : Tbl} (hT : Ends T) {N : Nat → Nm} {o : GOp} {s : St} {Q : List Nm → List Nm → St → Prop} (h : runG T N o s Q) : ∃ rs ws s', Q rs ws s' := by
 obtain ⟨f, o⟩ := o
 cases f with
 | false => rw [runG_f] at h; exact run1_ends hT h
 | true =>
  rw [runG_t] at h
  cases hg : guardD s.F o.g with
  | none => rw [hg] at h; exact h.elim
  | some w =>
  rw [hg] at h
  unfold sGQ at h
  cases w with
  | false => exact ⟨_, _, _, h⟩
  | true =>
  simp only [if_true] at h
  cases hc : callee s.F o.k with
  | some q =>
   obtain ⟨f, args⟩ := q
   rw [hc] at h
   obtain ⟨h1, h2, h3, h4⟩ := h
   cases hTT : T f (args.map (lend s.H)) Hp.none (N o.nm) with
   | none => rw [hTT] at h4; exact h4.elim
   | some q =>
    obtain ⟨pre, R⟩ := q
    rw [hTT] at h4
    obtain ⟨h5, h6⟩ := h4
    obtain ⟨v, H', hv⟩ := hT _ _ _ _ _ _ hTT h5
    exact ⟨_, _, _, (h6 v H' hv).2⟩
  | none =>
   rw [hc] at h
   unfold runKCQ at h
   dsimp only at h
   generalize o.k = kk at h
   cases kk with
   | app sz bytes x y =>
    unfold runKAQ at h
    dsimp only at h
    generalize rowsOf s.H (y.ev s.F) = r at h
    generalize x.ev s.F = dx at h
    unfold runKDQ at h
    split at h
    ·rename_i ys l i g n
     cases he : s.H i with
     | none => rw [he] at h; exact h.2.elim
     | some e => rw [he] at h; exact ⟨_, _, _, h.2.2.2.2.2.2.2⟩
    ·exact h.elim
   | _ => exact h.elim
theorem swap {T : Tbl} (hT : Ends T) {N : Nat → Nm} {ops : List GOp} {K : St → Prop} {i j : Nat} {oi oj : GOp} (hi : ops[i]? = some oi) (hj : ops[j]? = some oj) (hna : j ∉ oi.2.after) (hap : apartC oj.2 oi.2 = true) {U : List Nat} {l : Past} {s : St}
  (h : runU T N ops K (j :: i :: U) l s) : runU T N ops K (i :: j :: U) l s := by
 rw [runU, hj] at h
 dsimp only at h
 obtain ⟨rj, wj, kj, jj, Rj, pj⟩ := step_pk h
 have rfl' : ∀ o : GOp, Agr o.2.looks s.F s.F := fun _ _ _ => rfl
 have hJ := (pj.iff s (rfl' oj) (fun _ _ => rfl) _).1 h
 have hrun : runG T N oj s fun rs ws s' => rs = rj ∧ ws = wj ∧ ∃ v H', Rj v H' ∧ s' = ⟨putF s.F oj.2.dst v, upd kj jj H' s.H⟩ := (pj.iff s (rfl' oj) (fun _ _ => rfl) _).2 fun v H' hv => ⟨rfl, rfl, v, H', hv, rfl⟩
 obtain ⟨_, _, s0, _, _, v0, H0, hv0, _⟩ := runG_ends hT hrun
 obtain ⟨ap1, ap2⟩ := apartC_spec hap
 have looki : ∀ t, oj.2.dst = some t → t ∉ oi.2.looks := fun t ht => (ap1 t ht).1
 have hI0 := (hJ v0 H0 hv0).2
 rw [runU, hi] at hI0
 dsimp only at hI0
 obtain ⟨ri, wi, ki, ji, Ri, pi⟩ := step_pk hI0
 have hres0 := (pi.iff _ (fun _ _ => rfl) (fun _ _ => rfl) _).1 hI0
 obtain ⟨_, _, _, hck⟩ := runG_ends hT ((pi.iff _ (fun _ _ => rfl) (fun _ _ => rfl) (fun _ _ _ => chk oi.2.after ri wi (past j rj wj l) = true)).2 fun v H' hv => (hres0 v H' hv).1)
 have hind := (chk_past.1 hck).1.resolve_left hna
 have hout : ∀ (x : Nm), (x ∉ wj) → ∀ H', upd kj jj H' s.H x = s.H x := fun x hx H' => upd_out (fun h => hx (pj.kw x h)) (fun h => hx (pj.jw x h))
 have hi2 := hind
 simp only [indep, Bool.and_eq_true] at hi2
 obtain ⟨⟨d1, d2⟩, d3⟩ := hi2
 have notin : ∀ x ∈ ri ++ wi, x ∉ wj := fun x hx hw => by
  rcases List.mem_append.1 hx with h | h
  ·exact disj_iff.1 d1 x hw h
  ·exact disj_iff.1 d2 x hw h
 have agree : ∀ (v : D) (H' : Hp), ∀ x ∈ ri ++ wi, (upd kj jj H' s.H) x = (upd kj jj H0 s.H) x := fun v H' x hx => by rw [hout x (notin x hx), hout x (notin x hx)]
 rw [runU, hi]
 dsimp only
 refine (pi.iff s (putF_agr' looki) (fun x hx => (hout x (notin x hx) H0).symm) _).2 fun vi Hi hvi => ⟨?_, ?_⟩
 ·exact (chk_past.1 (hres0 vi Hi hvi).1).2
 ·rw [runU, hj]
  dsimp only
  have hagr : ∀ x ∈ rj ++ wj, (upd ki ji Hi s.H) x = s.H x := fun x hx => by
   have hx' : x ∉ wi := fun hw => by
    rcases List.mem_append.1 hx with h | h
    ·exact disj_iff.1 d3 x h hw
    ·exact disj_iff.1 d2 x h hw
   exact upd_out (fun h => hx' (pi.kw x h)) (fun h => hx' (pi.jw x h))
  refine (pj.iff _ (putF_agr ap2) hagr _).2 fun vj Hj hvj => ⟨?_, ?_⟩
  ·exact chk_past.2 ⟨.inr (indep_symm hind), (hJ vj Hj hvj).1⟩
  ·have hI := (hJ vj Hj hvj).2
   rw [runU, hi] at hI
   dsimp only at hI
   have hag : Agr oi.2.looks (putF s.F oj.2.dst v0) (putF s.F oj.2.dst vj) := fun t ht => by rw [putF_agr looki t ht, putF_agr looki t ht]
   have hres := (pi.iff _ hag (agree vj Hj) _).1 hI vi Hi hvi
   have e1 := putF_comm (F := s.F) (a := oj.2.dst) (b := oi.2.dst) (x := vj) (y := vi) (fun d hd => (ap1 d hd).2)
   have e2 := upd_comm (H' := Hj) (H2' := Hi) (H := s.H) pj.kw pj.jw pi.kw pi.jw d2
   rw [← e1, ← e2]
   refine runU_past (fun A r w hc => ?_) hres.2
   obtain ⟨c1, c2⟩ := chk_past.1 hc
   obtain ⟨c3, c4⟩ := chk_past.1 c2
   exact chk_past.2 ⟨c3, chk_past.2 ⟨c1, c4⟩⟩
theorem to_front {T : Tbl} (hT : Ends T) {N : Nat → Nm} {ops : List GOp} {K : St → Prop} {i : Nat} {oi : GOp} (hi : ops[i]? = some oi) : ∀ (U1 U2 : List Nat) (l : Past) (s : St), (∀ j ∈ U1, j ∉ oi.2.after ∧ ∀ oj, ops[j]? = some oj → apartC oj.2 oi.2 = true) →
  runU T N ops K (U1 ++ i :: U2) l s → runU T N ops K (i :: (U1 ++ U2)) l s
 | [], U2, l, s, _, h => h
 | j :: U1, U2, l, s, hU, h => by
  have hj' := hU j (List.mem_cons_self ..)
  rw [List.cons_append, runU] at h
  split at h
  ·rename_i oj hj
   refine swap hT hi hj hj'.1 (hj'.2 oj hj) ?_
   rw [runU, hj]
   exact runG_mono h fun rs ws s' ⟨h1, h2⟩ => ⟨h1, to_front hT hi U1 U2 _ s' (fun k hk => hU k (List.mem_cons_of_mem _ hk)) h2⟩
  ·exact h.elim
inductive Reach (ops : Array Oper) : Nat → Nat → Prop where
 | one {i : Nat} {o : Oper} {e : Edge} (ho : ops[i]? = some o) (he : e ∈ o.after) (hb : Region.binds .any e = true) : Reach ops e.on i
 | more {i j : Nat} {o : Oper} {e : Edge} (ho : ops[i]? = some o) (he : e ∈ o.after) (hb : Region.binds .any e = true) (h : Reach ops j e.on) : Reach ops j i
def SoundCall (P : Program) (op : Op) (k : K) : Prop :=
 ∀ (E : Ent) (Im : Nat → Prop) (p : Pl) (s : St) (a : Act) (w : World) (d : Oper) (f : FuncId) (args : List D), d.op = op → RelS E Im p s a w → callee s.F k = some (f, args) → fnOk P f = true →
  ∃ us, (execOp a.eval d).run P w = .ok (.enter f us) w ∧ args.length = us.size ∧ ∀ (j : Nat) (x : D) (u : Value), args[j]? = some x → us[j]? = some u → Rel Im p s.H w.heap x u
structure OpRel (P : Program) (n : Nat) (ops : Array Oper) (i : Nat) (o : Oper) (c : COp) : Prop where
 dst : c.dst = o.dst
 lt : ∀ t, o.dst = some t → t < n
 g : match o.guard with
  | Option.none => c.g = Option.none
  | some (j, b) => ∃ t, ((ops[j]?).bind (·.dst)) = some t ∧ c.g = some (t, b)
 k : SoundK P o.op c.k
 kc : SoundCall P o.op c.k
 kb : SoundApk P o.op c.k
 after : ∀ j ∈ c.after, Reach ops j i
 back : ∀ e ∈ o.after, Region.binds .any e = true → e.on < i
structure RegRel (P : Program) (n : Nat) (ops : Array Oper) (cops : List COp) : Prop where
 len : cops.length = ops.size
 rel : ∀ (i : Nat) (o : Oper) (c : COp), ops[i]? = some o → cops[i]? = some c → OpRel P n ops i o c
theorem RelS.step {E : Ent} {Im Im' : Nat → Prop} {p p' : Pl} {s : St} {a : Act} {w w' : World} {H' : Hp} {v : D} {u : Value} {dst : Option Nat} (hR : RelS E Im p s a w) (G : Grows Im p s.H w.heap Im' p' H' w'.heap) (h1 : RelH Im' p' H' w'.heap) (h2 : RelE E Im' p' H' w') (hv : Rel Im' p' H' w'.heap v u) (hd : ∀ t, dst = some t → t < E.n) :
  RelS E Im' p' ⟨putF s.F dst v, H'⟩ (a.put dst u) w' := by
 cases dst with
 | none => exact ⟨hR.sz, fun t => (hR.fr t).mono G, h1, h2, hR.gr.trans G, hR.df⟩
 | some d =>
  have hlt := hd d rfl
  refine ⟨by simp [Act.put, hR.sz], fun t => ?_, h1, h2, hR.gr.trans G, hR.df⟩
  simp only [Act.put, putF]
  by_cases ht : t = d
  ·subst ht
   rw [if_pos rfl]
   have hs : t < a.tmps.size := by rw [hR.sz]; exact hlt
   have : (a.tmps.setIfInBounds t u).getD t undef = u := by simp [Array.getD, hs]
   rw [this]
   exact hv
  ·rw [if_neg ht]
   have : (a.tmps.setIfInBounds d u).getD t undef = a.tmps.getD t undef := by
    rw [Array.getD_eq_getD_getElem?, Array.getD_eq_getD_getElem?, Array.getElem?_setIfInBounds_ne (Ne.symm ht)]
   rw [this]
   exact (hR.fr t).mono G
def yv (n t : Nat) (v : Value) : Option Bool :=
 match v with
 | .bool b => if t < n then some b else Option.none
 | _ => Option.none
theorem yielded_of {ops : Array Oper} {tmps : Array Value} {j t : Nat} (h : ((ops[j]?).bind (·.dst)) = some t) {v : Value} (hv : tmps.getD t undef = v) : yielded ops tmps j = yv tmps.size t v := by
 unfold yielded yv
 rw [h]
 dsimp only [Option.bind_some]
 rw [Array.getD_eq_getD_getElem?] at hv
 by_cases ht : t < tmps.size
 ·have e : tmps[t]? = some tmps[t] := Array.getElem?_eq_getElem ht
  rw [e] at hv ⊢
  simp only [Option.getD_some] at hv
  rw [hv]
  cases v <;> simp [ht]
 ·have e : tmps[t]? = Option.none := Array.getElem?_eq_none (by omega)
  rw [e] at hv ⊢
  simp only [Option.getD_none] at hv
  subst hv
  rfl
theorem guard_rel {E : Ent} {Im : Nat → Prop} {p : Pl} {s : St} {a : Act} {w : World} (hR : RelS E Im p s a w) {P : Program} {ops : Array Oper} {i : Nat} {o : Oper} {c : COp} (R : OpRel P E.n ops i o c) {b : Bool} (hg : guardD s.F c.g = some b) : Region.wanted o (yielded ops a.tmps) = b := by
 have hgr := R.g
 unfold Region.wanted
 cases ho : o.guard with
 | none =>
  rw [ho] at hgr
  dsimp only at hgr
  rw [hgr] at hg
  cases hg
  rfl
 | some q =>
  obtain ⟨j, want⟩ := q
  rw [ho] at hgr
  obtain ⟨t, ht, hc⟩ := hgr
  rw [hc] at hg
  dsimp only
  have r := hR.fr t
  unfold guardD at hg
  dsimp only at hg
  split at hg
  ·rename_i cc hF
   cases hg
   rw [hF] at r
   have e := rel_v r
   rw [yielded_of ht e, yv]
   have hts : t < a.tmps.size := by
    rcases Nat.lt_or_ge t a.tmps.size with h | h
    ·exact h
    ·rw [Array.getD_eq_getD_getElem?, Array.getElem?_eq_none h] at e
     cases e
   rw [if_pos hts]
   cases cc <;> cases want <;> rfl
  ·rename_i l hF
   cases hg
   rw [hF] at r
   rw [yielded_of ht (rel_v r)]
   rfl
  ·cases hg
theorem op_step {P : Program} {T : Tbl} (hT : TblOk P T) {N : Nat → Nm} {E : Ent} {Im : Nat → Prop} {p : Pl} {s : St} {a : Act} {w : World} (hR : RelS E Im p s a w) {ops : Array Oper} {i : Nat} {o : Oper} {c : COp} (ho : ops[i]? = some o) (R : OpRel P E.n ops i o c)
  {Q : List Nm → List Nm → St → Prop} {K : Act → World → Prop} {Qx : Exit → Act → World → Prop} (h : run1 T N c s Q) (hK : ∀ rs ws s' Im' p' a' w', Q rs ws s' → RelS E Im' p' s' a' w' → K a' w') : wpOp P ops Qx i K a w := by
 unfold wpOp
 rw [ho]
 dsimp only
 have hdst : ∀ t, c.dst = some t → t < E.n := fun t ht => R.lt t (by rw [← R.dst]; exact ht)
 unfold run1 at h
 split at h
 ·exact h.elim
 ·rename_i b hg
  rw [guard_rel hR R hg]
  cases b with
  | false =>
   simp only [Bool.false_eq_true, if_false] at h ⊢
   refine hK _ _ _ Im p _ w h ?_
   rw [R.dst]
   exact hR.step (Grows.refl _ _ _ _) hR.hp hR.en (.p (.v _)) (fun t ht => R.lt t ht)
  | true =>
   simp only [if_true] at h ⊢
   refine .inl ?_
   unfold Oper.wp
   split at h
   ·rename_i f args hc
    unfold callRun callRun1 callRun2 callRun3 at h
    obtain ⟨h1, h2, h3, h4, h5⟩ := h
    split at h5
    ·exact h5.elim
    ·rename_i pre RR hTT
     obtain ⟨hfn, hcon⟩ := hT _ _ _ _ _ _ hTT
     obtain ⟨us, e1, e2, e3⟩ := R.kc E Im p s a w o f args rfl hR hc hfn
     rw [e1, Oper.upon_enter]
     obtain ⟨h6, h7⟩ := h5
     split at h7
     ·rename_i hbr
      rw [Bool.and_eq_true, List.isEmpty_iff] at hbr
      have hC := (hcon h6).2
      rw [hbr.2] at hC h2 h3
      refine (call_flat hR e2 e3 (lendOkL'_mem h1) rfl h4 h2 h3 hC).mono fun e w' ⟨v, H', u, k1, k2, k3⟩ => ?_
      subst k1
      dsimp only
      obtain ⟨hfl, hq⟩ := h7 v H' k2
      obtain ⟨k4, k5, k6, k7⟩ := k3 hfl
      refine hK _ _ _ Im p _ w' hq ?_
      rw [R.dst]
      exact hR.step k5 k6 k7 k4 (fun t ht => R.lt t ht)
     refine (call_sound hR e2 e3 (lendOkL'_mem h1) rfl h4 h2 h3 (hcon h6).2).mono fun e w' ⟨v, H', u, Im', p', k1, k2, k3, k4, k5, k6⟩ => ?_
     subst k1
     dsimp only
     refine hK _ _ _ Im' p' _ w' (h7 v H' k2) ?_
     rw [R.dst]
     exact hR.step k4 k5 k6 k3 (fun t ht => R.lt t ht)
   ·rename_i hc
    split at h
    ·exact h.elim
    ·rename_i out he
     obtain ⟨r, u, w', p', k1, k2, k3, k4, k5, k6⟩ := R.k E Im p s a w (N c.nm) out o rfl hR he h.1
     rw [k1]
     have fin : K (a.put o.dst u) w' := by
      refine hK _ _ _ Im p' _ w' h.2 ?_
      rw [R.dst]
      exact hR.step k3 k4 k5 k6 (fun t ht => R.lt t ht)
     rcases k2 with rfl | ⟨rfl, rfl⟩
     ·exact fin
     ·exact fin
theorem RowsAt.take {Im : Nat → Prop} {p : Pl} {H : Hp} {h : Array Obj} {c : Array Value} {b sz : Nat} {rows : List (List D)} (R : RowsAt Im p H h c b sz rows) (n : Nat) : RowsAt Im p H h c b sz (rows.take n) :=
 ⟨fun r hr => R.len r (List.mem_of_mem_take hr), by
  have h1 := R.le
  have h2 : (rows.take n).length * sz ≤ rows.length * sz := Nat.mul_le_mul_right _ (by rw [List.length_take]; omega)
  omega, fun r j row d hr hd => R.cell r j row d (by
  rw [List.getElem?_take] at hr
  split at hr
  ·exact hr
  ·cases hr) hd⟩
theorem RelS.trunc {E : Ent} {Im : Nat → Prop} {p : Pl} {s : St} {a : Act} {w : World} (hR : RelS E Im p s a w) {i : Nm} {e : En} (he : s.H i = some e) {n : Nat} (hn : n ≤ e.rows.length) (h0 : n = 0 → e.rows = []) : RelS E Im p ⟨s.F, s.H.put i ⟨e.g, e.sz, e.rows.take n⟩⟩ a w := by
 have hne : e.rows ≠ [] → e.rows.take n ≠ [] := fun h k => by
  rcases Nat.eq_zero_or_pos n with z | z
  ·exact h (h0 z)
  ·have := congrArg List.length k
   rw [List.length_take, List.length_nil] at this
   omega
 have hne' : e.rows.take n ≠ [] → e.rows ≠ [] := fun h k => h (by rw [k]; exact List.take_nil)
 have G : Grows Im p s.H w.heap Im p (s.H.put i ⟨e.g, e.sz, e.rows.take n⟩) w.heap := ⟨fun _ h => h, fun _ _ => rfl, fun j x hx => by
  by_cases hj : j = i
  ·subst hj
   rw [he] at hx
   cases hx
   exact ⟨_, Hp.put_same _ _ _, Nat.le_refl _, fun _ => ⟨rfl, rfl, fun h => ⟨hne h, fun c t hc => ⟨c, hc, rfl⟩⟩⟩⟩
  ·exact ⟨x, by rw [Hp.put_other _ hj]; exact hx, Nat.le_refl _, fun _ => ⟨rfl, rfl, fun h => ⟨h, fun c t hc => ⟨c, hc, rfl⟩⟩⟩⟩⟩
 have bk : ∀ j x, (s.H.put i ⟨e.g, e.sz, e.rows.take n⟩) j = some x → x.rows ≠ [] → ∃ y, s.H j = some y ∧ y.rows ≠ [] ∧ y.sz = x.sz ∧ ∃ m, x.rows = y.rows.take m := fun j x hx hx0 => by
  by_cases hj : j = i
  ·subst hj
   rw [Hp.put_same] at hx
   cases hx
   exact ⟨e, he, hne' hx0, rfl, n, rfl⟩
  ·rw [Hp.put_other _ hj] at hx
   exact ⟨x, hx, hx0, rfl, x.rows.length, List.take_length.symm⟩
 refine ⟨hR.sz, fun t => (hR.fr t).mono G, ⟨fun j x hx hx0 => ?_, fun j k x y hx hy h1 h2 hjk => ?_, hR.hp.im⟩, ⟨hR.en.os, hR.en.tape, hR.en.output, hR.en.size, hR.en.block, hR.en.im, hR.en.im', fun j x hx hx0 => ?_⟩, hR.gr.trans G, hR.df⟩
 ·obtain ⟨y, k1, k2, k3, m, k4⟩ := bk j x hx hx0
  obtain ⟨c, t, q1, q2, q3⟩ := hR.hp.cell j y k1 k2
  refine ⟨c, t, q1, q2, ?_⟩
  rw [k4, ← k3]
  exact (q3.mono G).take m
 ·obtain ⟨x', k1, k2, _⟩ := bk j x hx h1
  obtain ⟨y', q1, q2, _⟩ := bk k y hy h2
  exact hR.hp.inj j k x' y' k1 q1 k2 q2 hjk
 ·obtain ⟨y, k1, k2, _⟩ := bk j x hx hx0
  exact hR.en.ids j y k1 k2
theorem op_stepKC {P : Program} {T : Tbl} (hT : TblOk P T) {N : Nat → Nm} {E : Ent} {Im : Nat → Prop} {p : Pl} {s : St} {a : Act} {w : World} (hR : RelS E Im p s a w) {ops : Array Oper} {i : Nat} {o : Oper} {c : COp} (ho : ops[i]? = some o) (R : OpRel P E.n ops i o c)
  {Q : St → Prop} {K : Act → World → Prop} {Qx : Exit → Act → World → Prop} (hg : guardD s.F c.g = some true) (h : runKC T (N c.nm) c.dst s.F s.H c.k Q (callee s.F c.k)) (hK : ∀ s' Im' p' a' w', Q s' → RelS E Im' p' s' a' w' → K a' w') : wpOp P ops Qx i K a w := by
 unfold wpOp
 rw [ho]
 dsimp only
 rw [guard_rel hR R hg]
 simp only [if_true]
 refine .inl ?_
 unfold Oper.wp
 cases hc : callee s.F c.k with
 | none =>
  rw [hc] at h
  dsimp only [runKC] at h
  have kb := R.kb
  generalize hk : c.k = kk at h kb
  cases kk with
  | app sz bytes x y =>
   dsimp only [runKA] at h
   cases hr : rowsOf s.H (y.ev s.F) with
   | none => rw [hr] at h; exact h.elim
   | some q =>
    obtain ⟨ys, l⟩ := q
    rw [hr] at h
    generalize hx : x.ev s.F = dx at h
    unfold runKD at h
    split at h
    ·rename_i ys' l' i' g n hq
     cases hq
     obtain ⟨hni, h⟩ := h
     cases he : s.H i' with
     | none => rw [he] at h; exact h.elim
     | some e =>
      rw [he] at h
      obtain ⟨⟨a1, a2, a3, a3'⟩, a4, a5, a6, a7, a8, a9⟩ := h
      have hR2 := hR.trunc he a3 a3'
      have hne : N c.nm ≠ i' := fun hh => by rw [hh, he] at a4; cases a4
      have hr2 : rowsOf (s.H.put i' ⟨e.g, e.sz, e.rows.take n⟩) (y.ev s.F) = some (ys, l) := rowsOf_agr hr fun j hj => by
       refine Hp.put_other _ ?_ _
       intro hh
       rw [hh, ← nmIn_iff, hni] at hj
       cases hj
      obtain ⟨u, w', p', H', v, k1, k2, k3, k4, k5, k6⟩ := kb E Im p ⟨s.F, s.H.put i' ⟨e.g, e.sz, e.rows.take n⟩⟩ a w (N c.nm) o ys l i' g n ⟨e.g, e.sz, e.rows.take n⟩ rfl hR2 hr2 hx (Hp.put_same _ _ _) a1 a2 (by dsimp only; rw [List.length_take]; omega) (by dsimp only; rw [Hp.put_other _ hne]; exact a4) a5 a6 a7
      rw [k1]
      subst a1 a2
      have fin : K (a.put o.dst u) w' := by
       rcases k6 with ⟨rfl, rfl, k6⟩ | ⟨rfl, rfl⟩
       ·have e2 : (s.H.put i' ⟨e.g, e.sz, e.rows.take n⟩).put i' ⟨e.g, e.sz, e.rows.take n ++ l⟩ = s.H.put i' ⟨e.g, e.sz, e.rows.take n ++ l⟩ := by
         funext j
         unfold Hp.put
         split <;> rfl
        rcases a8 with ⟨b1, b2⟩ | a8
        ·exact absurd (k6 (by dsimp only; rw [b1]; exact List.take_nil)) b2
        refine hK _ Im p' _ w' a8 ?_
        rw [R.dst]
        have := hR2.step k2 k3 k4 k5 (fun t ht => R.lt t ht)
        dsimp only at this
        rw [e2] at this
        exact this
       ·refine hK _ Im p' _ w' a9 ?_
        rw [R.dst]
        exact hR2.step k2 k3 k4 k5 (fun t ht => R.lt t ht)
      exact fin
    ·exact h.elim
  | _ => exact h.elim
 | some q =>
  obtain ⟨f, args⟩ := q
  rw [hc] at h
  obtain ⟨h1, h2, ⟨h3a, h3b, h3c⟩, h4⟩ := h
  cases hTT : T f (args.map (lend s.H)) Hp.none (N c.nm) with
  | none => rw [hTT] at h4; exact h4.elim
  | some q =>
   obtain ⟨pre, RR⟩ := q
   rw [hTT] at h4
   obtain ⟨h5, h6⟩ := h4
   obtain ⟨hfn, hcon⟩ := hT _ _ _ _ _ _ hTT
   obtain ⟨us, e1, e2, e3⟩ := R.kc E Im p s a w o f args rfl hR hc hfn
   rw [e1, Oper.upon_enter]
   have hnn : ∀ k ∈ nms (N c.nm), s.H k = Option.none := fun k hk => by
    simp only [nms, List.mem_cons, List.not_mem_nil, or_false] at hk
    rcases hk with rfl | rfl | rfl
    ·exact h3a
    ·exact h3b
    ·exact h3c
   refine (call_new hR e2 e3 (lendOkL'_mem h1) hnn h2 (hcon h5).2).mono fun e w' ⟨v, H', u, k1, k2, k3⟩ => ?_
   subst k1
   dsimp only
   obtain ⟨⟨f0, f1, f2, f3⟩, hq⟩ := h6 v H' k2
   obtain ⟨p2, k4, k5, k6, k7⟩ := k3 ⟨f0, fun k hk => by
    simp only [nms, List.mem_cons, List.not_mem_nil, or_false] at hk
    rcases hk with rfl | rfl | rfl
    ·exact f1
    ·exact f2
    ·exact f3⟩
   refine hK _ Im p2 _ w' hq ?_
   rw [R.dst]
   exact hR.step k5 k6 k7 k4 (fun t ht => R.lt t ht)
def runF (T : Tbl) (N : Nat → Nm) (K : St → Prop) : List (Bool × COp) → St → Prop
 | [], s => K s
 | o :: os, s => runG T N o s fun _ _ s' => runF T N K os s'
theorem ends_of {P : Program} {T : Tbl} (hT : TblOk P T) : Ends T := fun f args Hs nn pre R h hp => ((hT f args Hs nn pre R h).2 hp).1
def runL (T : Tbl) (N : Nat → Nm) (K : St → Prop) : List COp → St → Prop
 | [], s => K s
 | o :: os, s => run1 T N o s fun _ _ s' => runL T N K os s'
def runD (T : Tbl) (N : Nat → Nm) (K : St → Prop) : List COp → Nat → Past → St → Prop
 | [], _, _, s => K s
 | o :: os, k, l, s => run1 T N o s fun rs ws s' => chk o.after rs ws l = true ∧ runD T N K os (k + 1) (past k rs ws l) s'
def runDG (T : Tbl) (N : Nat → Nm) (K : St → Prop) : List GOp → Nat → Past → St → Prop
 | [], _, _, s => K s
 | o :: os, k, l, s => runG T N o s fun rs ws s' => chk o.2.after rs ws l = true ∧ runDG T N K os (k + 1) (past k rs ws l) s'
theorem runDG_of_runD {T : Tbl} {N : Nat → Nm} {K : St → Prop} : ∀ (cs : List COp) (k : Nat) (l : Past) (s : St), runD T N K cs k l s → runDG T N K (cs.map fun c => (false, c)) k l s
 | [], _, _, _, h => h
 | c :: cs, k, l, s, h => by
  rw [List.map_cons, runDG, runG_f]
  exact run1_mono h fun rs ws s' ⟨h1, h2⟩ => ⟨h1, runDG_of_runD cs _ _ s' h2⟩
theorem runU_of_runD {T : Tbl} {N : Nat → Nm} {gops : List GOp} {K : St → Prop} : ∀ (cs : List GOp) (k : Nat) (l : Past) (s : St), gops.drop k = cs → runDG T N K cs k l s → runU T N gops K (List.range' k cs.length) l s
 | [], k, l, s, _, h => h
 | c :: cs, k, l, s, hd, h => by
  rw [List.length_cons, List.range'_succ, runU]
  have e : gops[k]? = some c := by
   have := congrArg (·[0]?) hd
   simpa [List.getElem?_drop] using this
  rw [e]
  dsimp only
  have hd' : gops.drop (k + 1) = cs := by
   have := congrArg (·.drop 1) hd
   simpa [List.drop_drop] using this
  exact runG_mono h fun rs ws s' ⟨h1, h2⟩ => ⟨h1, runU_of_runD cs (k + 1) _ s' hd' h2⟩
theorem op_stepG {P : Program} {T : Tbl} (hT : TblOk P T) {N : Nat → Nm} {E : Ent} {Im : Nat → Prop} {p : Pl} {s : St} {a : Act} {w : World} (hR : RelS E Im p s a w) {ops : Array Oper} {i : Nat} {o : Oper} {c : GOp} (ho : ops[i]? = some o) (R : OpRel P E.n ops i o c.2)
  {Q : List Nm → List Nm → St → Prop} {K : Act → World → Prop} {Qx : Exit → Act → World → Prop} (h : runG T N c s Q) (hK : ∀ rs ws s' Im' p' a' w', Q rs ws s' → RelS E Im' p' s' a' w' → K a' w') : wpOp P ops Qx i K a w := by
 obtain ⟨f, c⟩ := c
 cases f with
 | false => rw [runG_f] at h; exact op_step hT hR ho R h hK
 | true =>
  rw [runG_t] at h
  cases hg : guardD s.F c.g with
  | none => rw [hg] at h; exact h.elim
  | some w =>
  rw [hg] at h
  unfold sGQ at h
  cases w with
  | false => 
   simp only [Bool.false_eq_true, if_false] at h
   exact op_step (N := N) (c := c) hT hR ho R (Q := Q) (by unfold run1; rw [hg]; simp only [Bool.false_eq_true, if_false]; exact h) hK
  | true =>
  simp only [if_true] at h
  refine op_stepKC (N := N) (c := c) hT hR ho R (Q := fun s' => ∃ rs ws, Q rs ws s') hg ?_ (fun s' Im' p' a' w' ⟨rs, ws, hq⟩ hR' => hK rs ws s' Im' p' a' w' hq hR')
  try dsimp only at h ⊢
  cases hc : callee s.F c.k with
  | some q =>
   rw [hc] at h
   obtain ⟨f, args⟩ := q
   obtain ⟨h1, h2, h3, h4⟩ := h
   refine ⟨h1, h2, h3, ?_⟩
   cases hTT : T f (args.map (lend s.H)) Hp.none (N c.nm) with
   | none => rw [hTT] at h4; exact h4.elim
   | some q =>
    rw [hTT] at h4
    exact ⟨h4.1, fun v H' hv => ⟨(h4.2 v H' hv).1, _, _, (h4.2 v H' hv).2⟩⟩
  | none =>
   rw [hc] at h
   unfold runKCQ at h
   unfold runKC
   dsimp only at h ⊢
   generalize c.k = kk at h
   cases kk with
   | app sz bytes x y =>
    unfold runKAQ at h
    unfold runKA
    dsimp only at h ⊢
    generalize rowsOf s.H (y.ev s.F) = r at h
    generalize x.ev s.F = dx at h
    unfold runKDQ at h
    unfold runKD
    split at h
    ·obtain ⟨a0, h⟩ := h
     refine ⟨a0, ?_⟩
     unfold runKB at h ⊢
     split at h
     ·exact h.elim
     ·obtain ⟨a1, a2, a3, a4, a5, a6, a7⟩ := h
      exact ⟨a1, a2, a3, a4, a5, a6.imp id (fun a6 => ⟨_, _, a6⟩), ⟨_, _, a7⟩⟩
    ·exact h.elim
   | _ => exact h.elim
section
variable {P : Program} {T : Tbl} {N : Nat → Nm} {E : Ent} {ops : Array Oper} {cops : List COp} {K : St → Prop} {Qx : Exit → Act → World → Prop}
theorem wpOps_of_runL (hT : TblOk P T) (hRR : RegRel P E.n ops cops) (hK : ∀ s Im p a w, K s → RelS E Im p s a w → Qx .normal a w) : ∀ (cs : List COp) (k : Nat) (s : St) (Im : Nat → Prop) (p : Pl) (a : Act) (w : World), cops.drop k = cs → RelS E Im p s a w → runL T N K cs s → wpOps P ops Qx (List.range' k cs.length) a w
 | [], k, s, Im, p, a, w, _, hR, h => hK s Im p a w h hR
 | c :: cs, k, s, Im, p, a, w, hd, hR, h => by
  have e : cops[k]? = some c := by
   have := congrArg (·[0]?) hd
   simpa [List.getElem?_drop] using this
  have hlt : k < ops.size := by rw [← hRR.len]; exact (List.getElem?_eq_some_iff.1 e).1
  have hd' : cops.drop (k + 1) = cs := by
   have := congrArg (·.drop 1) hd
   simpa [List.drop_drop] using this
  rw [List.length_cons, List.range'_succ, wpOps_cons]
  have ho : ops[k]? = some ops[k] := Array.getElem?_eq_getElem hlt
  exact op_step hT hR ho (hRR.rel k _ c ho e) h fun rs ws s' Im' p' a' w' hq hR' => wpOps_of_runL hT hRR hK cs (k + 1) s' Im' p' a' w' hd' hR' hq
theorem wpOps_of_runF (hT : TblOk P T) (hRR : RegRel P E.n ops cops) (hK : ∀ s Im p a w, K s → RelS E Im p s a w → Qx .normal a w) : ∀ (cs : List (Bool × COp)) (k : Nat) (s : St) (Im : Nat → Prop) (p : Pl) (a : Act) (w : World), cops.drop k = cs.map Prod.snd → RelS E Im p s a w → runF T N K cs s → wpOps P ops Qx (List.range' k cs.length) a w
 | [], k, s, Im, p, a, w, _, hR, h => hK s Im p a w h hR
 | (f, c) :: cs, k, s, Im, p, a, w, hd, hR, h => by
  rw [List.map_cons] at hd
  have e : cops[k]? = some c := by
   have := congrArg (·[0]?) hd
   simpa [List.getElem?_drop] using this
  have hlt : k < ops.size := by rw [← hRR.len]; exact (List.getElem?_eq_some_iff.1 e).1
  have hd' : cops.drop (k + 1) = cs.map Prod.snd := by
   have := congrArg (·.drop 1) hd
   simpa [List.drop_drop] using this
  rw [List.length_cons, List.range'_succ, wpOps_cons]
  have ho : ops[k]? = some ops[k] := Array.getElem?_eq_getElem hlt
  unfold runF at h
  exact op_stepG (c := (f, c)) hT hR ho (hRR.rel k _ c ho e) h fun rs ws s' Im' p' a' w' hq hR' => wpOps_of_runF hT hRR hK cs (k + 1) s' Im' p' a' w' hd' hR' hq
theorem reach_listed {listed : Array Bool} (hcl : ∀ i o, ops[i]? = some o → listed.getD i true = true → ∀ e ∈ o.after, Region.binds .any e = true → listed.getD e.on true = true) {j i : Nat} (h : Reach ops j i) : (∀ o, ops[i]? = some o → ∀ e ∈ o.after, Region.binds .any e = true → listed.getD e.on true = true) → listed.getD j true = true := by
 induction h with
 | one ho he hb => exact fun hi => hi _ ho _ he hb
 | more ho he hb hr ih =>
  intro hi
  refine ih fun o' ho' e' he' hb' => hcl _ o' ho' (hi _ ho _ he hb) e' he' hb'
theorem any_of_runU (hT : TblOk P T) {gops : List GOp} (hgs : gops.map Prod.snd = cops) (hRR : RegRel P E.n ops cops) (hst : ∀ i j ci cj, cops[i]? = some ci → cops[j]? = some cj → j < i → j ∈ ci.after ∨ apartC cj ci = true) (hK : ∀ s Im p a w, K s → RelS E Im p s a w → Qx .normal a w) :
  ∀ (fuel : Nat) (U : List Nat) (l : Past) (listed : Array Bool) (s : St) (Im : Nat → Prop) (p : Pl) (a : Act) (w : World), listed.size = ops.size → (∀ i, i ∈ U ↔ i < ops.size ∧ listed.getD i true = false) → U.Pairwise (· < ·) → (∀ i o, ops[i]? = some o → listed.getD i true = true → ∀ e ∈ o.after, Region.binds .any e = true → listed.getD e.on true = true) →
   U.length ≤ fuel → RelS E Im p s a w → runU T N gops K U l s → wpAny P .any ops Qx fuel listed a w := by
 have mem_rd : ∀ (listed : Array Bool) i, i ∈ Region.ready .any ops listed ↔ i < ops.size ∧ listed.getD i true = false ∧ ∃ o, ops[i]? = some o ∧ ∀ e ∈ o.after, Region.binds .any e = true → listed.getD e.on false = true := fun listed i => by
  unfold Region.ready
  rw [List.mem_filter, List.mem_range]
  constructor
  ·rintro ⟨h1, h2⟩
   rw [Array.getElem?_eq_getElem h1] at h2
   simp only [Option.map_some, Option.getD_some, Bool.and_eq_true, Bool.not_eq_true', Array.all_eq_true_iff_forall_mem, Bool.or_eq_true] at h2
   exact ⟨h1, h2.1, _, Array.getElem?_eq_getElem h1, fun e he hb => (h2.2 e he).resolve_left (by rw [hb]; simp)⟩
  ·rintro ⟨h1, h2, o, h3, h4⟩
   refine ⟨h1, ?_⟩
   rw [h3]
   simp only [Option.map_some, Option.getD_some, Bool.and_eq_true, Bool.not_eq_true', Array.all_eq_true_iff_forall_mem, Bool.or_eq_true]
   refine ⟨h2, fun e he => ?_⟩
   cases hb : Region.binds .any e with
   | false => exact .inl rfl
   | true => exact .inr (h4 e he hb)
 have ft : ∀ (listed : Array Bool) i, listed.getD i false = true → listed.getD i true = true := fun listed i h => by
  rw [Array.getD_eq_getD_getElem?] at h ⊢
  cases hi : listed[i]? with
  | none => rfl
  | some b => rw [hi] at h; exact h
 intro fuel
 induction fuel with
 | zero =>
  intro U l listed s Im p a w hls hU hsort hcl hlen hR h
  obtain rfl : U = [] := List.length_eq_zero_iff.1 (by omega)
  refine ⟨?_, hK s Im p a w h hR⟩
  rw [List.eq_nil_iff_forall_not_mem]
  intro i hi
  obtain ⟨h1, h2, _⟩ := (mem_rd listed i).1 hi
  exact absurd ((hU i).2 ⟨h1, h2⟩) (by simp)
 | succ fuel ih =>
  intro U l listed s Im p a w hls hU hsort hcl hlen hR h
  refine ⟨fun hr => ?_, fun i hi => ?_⟩
  ·cases U with
   | nil => exact hK s Im p a w h hR
   | cons u U =>
    exfalso
    obtain ⟨h1, h2⟩ := (hU u).1 (List.mem_cons_self ..)
    have ho : ops[u]? = some ops[u] := Array.getElem?_eq_getElem h1
    have hc : cops[u]? = some (cops[u]'(by rw [hRR.len]; exact h1)) := List.getElem?_eq_getElem _
    have OR := hRR.rel u _ _ ho hc
    have : u ∈ Region.ready .any ops listed := (mem_rd listed u).2 ⟨h1, h2, _, ho, fun e he hb => by
     have hlt := OR.back e he hb
     have hnu : e.on ∉ u :: U := fun hm => by
      cases hm with
      | head => omega
      | tail _ hm => have := (List.pairwise_cons.1 hsort).1 _ hm; omega
     have hl : ¬ (listed.getD e.on true = false) := fun hf => hnu ((hU e.on).2 ⟨by omega, hf⟩)
     have hl' : listed.getD e.on true = true := by
      cases hb : listed.getD e.on true with
      | true => rfl
      | false => exact absurd hb hl
     rw [Array.getD_eq_getD_getElem?] at hl' ⊢
     have hes : e.on < listed.size := by omega
     rw [Array.getElem?_eq_getElem hes] at hl' ⊢
     exact hl'⟩
    rw [hr] at this
    cases this
  ·obtain ⟨h1, h2, o, ho, hall⟩ := (mem_rd listed i).1 hi
   have hiU := (hU i).2 ⟨h1, h2⟩
   obtain ⟨U1, U2, rfl⟩ := List.append_of_mem hiU
   have hc : cops[i]? = some (cops[i]'(by rw [hRR.len]; exact h1)) := List.getElem?_eq_getElem _
   have OR := hRR.rel i o _ ho hc
   have hpre : ∀ j ∈ U1, j < i := fun j hj => (List.pairwise_append.1 hsort).2.2 j hj i (List.mem_cons_self ..)
   have hfront : ∀ j ∈ U1, j ∉ (cops[i]'(by rw [hRR.len]; exact h1)).after ∧ ∀ oj, cops[j]? = some oj → apartC oj (cops[i]'(by rw [hRR.len]; exact h1)) = true := fun j hj => by
    have hna : j ∉ (cops[i]'(by rw [hRR.len]; exact h1)).after := fun hm => by
     have hr := OR.after j hm
     have hl := reach_listed hcl hr fun o' ho' e he hb => by
      rw [ho] at ho'
      cases ho'
      exact ft listed _ (hall e he hb)
     have := ((hU j).1 (List.mem_append_left _ hj)).2
     rw [hl] at this
     cases this
    exact ⟨hna, fun oj hoj => (hst i j _ oj hc hoj (hpre j hj)).resolve_left hna⟩
   have hgl : gops.length = cops.length := by rw [← hgs, List.length_map]
   have hgc : gops[i]? = some (gops[i]'(by rw [hgl, hRR.len]; exact h1)) := List.getElem?_eq_getElem _
   have hg2 : ∀ (k : Nat) (q : GOp), gops[k]? = some q → cops[k]? = some q.2 := fun k q hq => by rw [← hgs, List.getElem?_map, hq]; rfl
   have hce : cops[i]'(by rw [hRR.len]; exact h1) = (gops[i]'(by rw [hgl, hRR.len]; exact h1)).2 := by
    have := hg2 i _ hgc
    rw [hc] at this
    exact Option.some.inj this
   rw [hce] at hfront OR
   have h' := to_front (ends_of hT) hgc U1 U2 l s (fun j hj => ⟨(hfront j hj).1, fun oj hoj => (hfront j hj).2 _ (hg2 j oj hoj)⟩) h
   rw [runU, hgc] at h'
   dsimp only at h'
   refine op_stepG hT hR ho OR h' fun rs ws s' Im' p' a' w' hq hR' => ih (U1 ++ U2) _ _ s' Im' p' a' w' (by rw [Array.size_setIfInBounds]; exact hls) (fun k => ?_) ?_ (fun k ok hok hk e he hb => ?_) (by simp at hlen ⊢; omega) hR' hq.2
   ·have hk := hU k
    rw [Array.getD_eq_getD_getElem?, Array.getElem?_setIfInBounds]
    by_cases hki : i = k
    ·subst hki
     rw [if_pos rfl, if_pos (by omega)]
     simp only [Option.getD_some, Bool.true_eq_false, and_false, iff_false]
     intro hm
     have hs := List.pairwise_append.1 hsort
     rcases List.mem_append.1 hm with h3 | h3
     ·have := hpre _ h3; omega
     ·have := (List.pairwise_cons.1 hs.2.1).1 _ h3; omega
    ·rw [if_neg hki, ← Array.getD_eq_getD_getElem?, ← hk]
     simp only [List.mem_append, List.mem_cons]
     constructor
     ·rintro (h3 | h3)
      ·exact .inl h3
      ·exact .inr (.inr h3)
     ·rintro (h3 | h3 | h3)
      ·exact .inl h3
      ·exact absurd h3.symm hki
      ·exact .inr h3
   ·have hs := List.pairwise_append.1 hsort
    exact List.pairwise_append.2 ⟨hs.1, (List.pairwise_cons.1 hs.2.1).2, fun x hx y hy => hs.2.2 x hx y (List.mem_cons_of_mem _ hy)⟩
   ·have mono : ∀ x, listed.getD x true = true → (listed.setIfInBounds i true).getD x true = true := fun x hx => by
     rw [Array.getD_eq_getD_getElem?] at hx ⊢
     rw [Array.getElem?_setIfInBounds]
     split
     ·split <;> rfl
     ·exact hx
    by_cases hki : i = k
    ·subst hki
     rw [ho] at hok
     cases hok
     exact mono _ (ft listed _ (hall e he hb))
    ·refine mono _ (hcl k ok hok ?_ e he hb)
     rw [Array.getD_eq_getD_getElem?, Array.getElem?_setIfInBounds, if_neg hki, ← Array.getD_eq_getD_getElem?] at hk
     exact hk
end
def KOk (P : Program) (op : Op) (k : K) : Prop := SoundK P op k ∧ SoundCall P op k ∧ SoundApk P op k
theorem KOk.plain {P : Program} {op : Op} {k : K} (h : SoundK P op k) (hc : ∀ F, callee F k = Option.none) (hb : SoundApk P op k := by exact True.intro) : KOk P op k := ⟨h, fun E Im p s a w d f args _ _ he _ => (by rw [hc] at he; cases he), hb⟩
def zeroD (z : Value) : Option (List D) := if z.cells.toList.all one = true then some (z.cells.toList.map ofC) else Option.none
theorem zeroD_spec {z : Value} {l : List D} (h : zeroD z = some l) : l = z.cells.toList.map ofC ∧ z.cells.toList.all one = true := by
 unfold zeroD at h
 split at h
 ·cases h; exact ⟨rfl, ‹_›⟩
 ·cases h
def copdL : List Operand → Option (List Opd)
 | [] => some []
 | x :: xs =>
  match copd x, copdL xs with
  | some y, some ys => some (y :: ys)
  | _, _ => Option.none
theorem copdL_spec : ∀ {xs : List Operand} {ys : List Opd}, copdL xs = some ys → ys.length = xs.length ∧ ∀ (j : Nat) (x : Operand) (y : Opd), xs[j]? = some x → ys[j]? = some y → OpdOk x y
 | [], _, h => by cases h; exact ⟨rfl, fun j x y hx => by cases hx⟩
 | x :: xs, ys, h => by
  rw [copdL] at h
  split at h
  ·rename_i y ys' h1 h2
   cases h
   obtain ⟨k1, k2⟩ := copdL_spec h2
   refine ⟨by rw [List.length_cons, List.length_cons, k1], fun j a b ha hb => ?_⟩
   cases j with
   | zero => cases ha; cases hb; exact copd_ok h1
   | succ j => exact k2 j a b (by simpa using ha) (by simpa using hb)
  ·cases h
theorem opdsOk {xs : Array Operand} {ys : List Opd} (h : copdL xs.toList = some ys) : OpdsOk xs ys := by
 obtain ⟨k1, k2⟩ := copdL_spec h
 exact ⟨by rw [k1]; simp, fun j x y hx hy => k2 j x y (by simpa using hx) hy⟩
section
variable (P : Program)
def cNew (e : TypeId) : Option K :=
 match P.info? e with
 | some i =>
  match i.zero with
  | some z =>
   match zeroD z with
   | some l => some (.new l)
   | Option.none => Option.none
  | Option.none => Option.none
 | Option.none => Option.none
theorem cNew_ok {e : TypeId} {k : K} (h : cNew P e = some k) : KOk P (.alloc e) k := by
 unfold cNew at h
 split at h
 ·rename_i i hi
  split at h
  ·rename_i z hz
   split at h
   ·rename_i l hl
    cases h
    obtain ⟨h1, h2⟩ := zeroD_spec hl
    exact .plain (snd_new hi hz h1 h2) fun _ => rfl
   ·cases h
  ·cases h
 ·cases h
def cBox (e : TypeId) (x : Operand) : Option K :=
 match P.info? e, copd x with
 | some i, some x' => some (.box i.size x')
 | _, _ => Option.none
theorem cBox_ok {e : TypeId} {x : Operand} {k : K} (h : cBox P e x = some k) : KOk P (.box e x) k := by
 unfold cBox at h
 split at h
 ·rename_i i x' hi hx
  cases h
  exact .plain (snd_box (copd_ok hx)) fun _ => rfl
 ·cases h
def cLd (t : TypeId) (x : Operand) : Option K :=
 match P.info? t, P.underlying t, copd x with
 | some i, some d, some x' => if d.isRow = true ∨ i.size = 1 then some (.ld i.size d.isRow x') else Option.none
 | _, _, _ => Option.none
theorem cLd_ok {t : TypeId} {x : Operand} {k : K} (h : cLd P t x = some k) : KOk P (.load t x) k := by
 unfold cLd at h
 split at h
 ·rename_i i d x' hi hd hx
  split at h
  ·rename_i hs
   cases h
   exact .plain (snd_ld (copd_ok hx) (by rw [hi]; rfl) hd rfl (fun hf => hs.resolve_left (by rw [hf]; exact Bool.false_ne_true))) fun _ => rfl
  ·cases h
 ·cases h
def cSt (t : TypeId) (x y : Operand) : Option K :=
 match P.info? t, copd x, copd y with
 | some i, some x', some y' => some (.st i.size x' y')
 | _, _, _ => Option.none
theorem cSt_ok {t : TypeId} {x y : Operand} {k : K} (h : cSt P t x y = some k) : KOk P (.store t x y) k := by
 unfold cSt at h
 split at h
 ·rename_i i x' y' hi hx hy
  cases h
  exact .plain (snd_st (copd_ok hx) (copd_ok hy) (by rw [hi]; rfl)) fun _ => rfl
 ·cases h
def cFa (t : TypeId) (x : Operand) (f : Nat) : Option K :=
 match P.underlying t, copd x with
 | some (.struct fs), some x' =>
  match fs[f]? with
  | some fd =>
   match P.info? fd.type with
   | some fi => if fi.size ≠ 0 then some (.fa fd.offset x') else Option.none
   | Option.none => Option.none
  | Option.none => Option.none
 | _, _ => Option.none
theorem cFa_ok {t : TypeId} {x : Operand} {f : Nat} {k : K} (h : cFa P t x f = some k) : KOk P (.fieldAddr t x f) k := by
 unfold cFa at h
 split at h
 ·rename_i fs x' hu hx
  split at h
  ·rename_i fd hf
   split at h
   ·rename_i fi hi
    split at h
    ·rename_i hz
     cases h
     exact .plain (snd_fa (copd_ok hx) hu hf hi hz rfl) fun _ => rfl
    ·cases h
   ·cases h
  ·cases h
 ·cases h
def cFld (t : TypeId) (x : Operand) (f : Nat) : Option K :=
 match P.underlying t, copd x with
 | some (.struct fs), some x' =>
  match fs[f]? with
  | some fd =>
   match P.info? fd.type, P.underlying fd.type with
   | some fi, some d => if d.isRow = true ∨ fi.size = 1 then some (.fld fd.offset fi.size d.isRow x') else Option.none
   | _, _ => Option.none
  | Option.none => Option.none
 | _, _ => Option.none
theorem cFld_ok {t : TypeId} {x : Operand} {f : Nat} {k : K} (h : cFld P t x f = some k) : KOk P (.field t x f) k := by
 unfold cFld at h
 split at h
 ·rename_i fs x' hu hx
  split at h
  ·rename_i fd hf
   split at h
   ·rename_i fi d hi hd
    split at h
    ·rename_i hs
     cases h
     exact .plain (snd_fld (copd_ok hx) hu hf hi rfl rfl hd rfl (fun hf => hs.resolve_left (by rw [hf]; exact Bool.false_ne_true))) fun _ => rfl
    ·cases h
   ·cases h
  ·cases h
 ·cases h
def cIa (t : TypeId) (x y : Operand) : Option K :=
 match P.underlying t, copd x, copd y with
 | some (.array n e), some x', some y' =>
  match P.info? e with
  | some i => some (.iaA n i.size x' y')
  | Option.none => Option.none
 | some (.slice e), some x', some y' =>
  match P.info? e with
  | some i => some (.iaS i.size x' y')
  | Option.none => Option.none
 | _, _, _ => Option.none
theorem cIa_ok {t : TypeId} {x y : Operand} {k : K} (h : cIa P t x y = some k) : KOk P (.indexAddr t x y) k := by
 unfold cIa at h
 split at h
 ·rename_i n e x' y' hu hx hy
  split at h
  ·rename_i i hi
   cases h
   exact .plain (snd_iaA (copd_ok hx) (copd_ok hy) hu hi rfl) fun _ => rfl
  ·cases h
 ·rename_i e x' y' hu hx hy
  split at h
  ·rename_i i hi
   cases h
   exact .plain (snd_iaS (copd_ok hx) (copd_ok hy) hu hi) fun _ => rfl
  ·cases h
 ·cases h
def cIx (t : TypeId) (x y : Operand) : Option K :=
 match P.underlying t, copd x, copd y with
 | some (.array n e), some x', some y' =>
  match P.info? e, P.underlying e with
  | some i, some d => if d.isRow = true ∨ i.size = 1 then some (.ixA n i.size d.isRow x' y') else Option.none
  | _, _ => Option.none
 | some .string, some x', some y' => some (.ixS x' y')
 | _, _, _ => Option.none
theorem cIx_ok {t : TypeId} {x y : Operand} {k : K} (h : cIx P t x y = some k) : KOk P (.index t x y) k := by
 unfold cIx at h
 split at h
 ·rename_i n e x' y' hu hx hy
  split at h
  ·rename_i i d hi hd
   split at h
   ·rename_i hs
    cases h
    exact .plain (snd_ixA (copd_ok hx) (copd_ok hy) hu hi rfl hd rfl (fun hf => hs.resolve_left (by rw [hf]; exact Bool.false_ne_true))) fun _ => rfl
   ·cases h
  ·cases h
 ·rename_i x' y' hu hx hy
  cases h
  exact .plain (snd_ixS (copd_ok hx) (copd_ok hy) hu) fun _ => rfl
 ·cases h
def cPlaces : List Field → Option (List (Nat × Nat))
 | [] => some []
 | f :: fs =>
  match P.info? f.type, cPlaces fs with
  | some i, some l => some ((f.offset, i.size) :: l)
  | _, _ => Option.none
theorem cPlaces_spec : ∀ {fs : List Field} {l : List (Nat × Nat)}, cPlaces P fs = some l → fs.mapM (fun f => (P.info? f.type).map fun i => (f.offset, i.size)) = some l
 | [], _, h => by cases h; rfl
 | f :: fs, l, h => by
  rw [cPlaces] at h
  split at h
  ·rename_i i l' h1 h2
   cases h
   rw [List.mapM_cons, h1, cPlaces_spec h2]
   rfl
  ·cases h
def cParts (place : Nat → Option (Nat × Nat)) : List (Nat × Operand) → Option (List (Nat × Nat × Opd))
 | [] => some []
 | (i, x) :: xs =>
  match place i, copd x, cParts place xs with
  | some (off, sz), some y, some ys => some ((off, sz, y) :: ys)
  | _, _, _ => Option.none
theorem cParts_ok {place : Nat → Option (Nat × Nat)} : ∀ {xs : List (Nat × Operand)} {ys : List (Nat × Nat × Opd)}, cParts place xs = some ys → PartsOk place xs ys
 | [], _, h => by cases h; trivial
 | (i, x) :: xs, ys, h => by
  rw [cParts] at h
  split at h
  ·rename_i off sz y ys' h1 h2 h3
   cases h
   exact ⟨h1, copd_ok h2, cParts_ok h3⟩
  ·cases h
def cBld (t : TypeId) (parts : Array (Nat × Operand)) : Option K :=
 match P.info? t, P.underlying t with
 | some ti, some (.struct fs) =>
  match ti.zero, cPlaces P fs.toList with
  | some z, some l =>
   match zeroD z, cParts (l.toArray[·]?) parts.toList with
   | some zs, some ps => some (.bld zs ps)
   | _, _ => Option.none
  | _, _ => Option.none
 | some ti, some (.array n e) =>
  match ti.zero, P.info? e with
  | some z, some ei =>
   match zeroD z, cParts (fun i => some (i * ei.size, ei.size)) parts.toList with
   | some zs, some ps => some (.bld zs ps)
   | _, _ => Option.none
  | _, _ => Option.none
 | _, _ => Option.none
theorem cBld_ok {t : TypeId} {parts : Array (Nat × Operand)} {k : K} (h : cBld P t parts = some k) : KOk P (.build t parts) k := by
 unfold cBld at h
 split at h
 ·rename_i ti fs hi hu
  split at h
  ·rename_i z l hz hl
   split at h
   ·rename_i zs ps h1 h2
    cases h
    obtain ⟨k1, k2⟩ := zeroD_spec h1
    exact .plain (snd_bldS hi hz k1 k2 hu (cPlaces_spec P hl) (cParts_ok h2)) fun _ => rfl
   ·cases h
  ·cases h
 ·rename_i ti n e hi hu
  split at h
  ·rename_i z ei hz hei
   split at h
   ·rename_i zs ps h1 h2
    cases h
    obtain ⟨k1, k2⟩ := zeroD_spec h1
    exact .plain (snd_bldA hi hz k1 k2 hu hei (cParts_ok h2)) fun _ => rfl
   ·cases h
  ·cases h
 ·cases h
def cRows : List (Nat × Operand) → Option (List (Nat × Opd))
 | [] => some []
 | (i, x) :: xs =>
  match copd x, cRows xs with
  | some y, some ys => some ((i, y) :: ys)
  | _, _ => Option.none
theorem cRows_ok : ∀ {xs : List (Nat × Operand)} {ys : List (Nat × Opd)}, cRows xs = some ys → RowsOk xs ys
 | [], _, h => by cases h; trivial
 | (i, x) :: xs, ys, h => by
  rw [cRows] at h
  split at h
  ·rename_i y ys' h1 h2
   cases h
   exact ⟨rfl, copd_ok h1, cRows_ok h2⟩
  ·cases h
def cBsl (t : TypeId) (n : Nat) (parts : Array (Nat × Operand)) : Option K :=
 match P.underlying t with
 | some (.slice e) =>
  match P.info? e with
  | some ei =>
   match ei.zero, cRows parts.toList with
   | some z, some ps =>
    match zeroD z with
    | some zs => if z.cells.size = ei.size ∧ n * ei.size ≤ 16777216 then some (.bsl ei.size n zs ps) else Option.none
    | Option.none => Option.none
   | _, _ => Option.none
  | Option.none => Option.none
 | _ => Option.none
theorem cBsl_ok {t : TypeId} {n : Nat} {parts : Array (Nat × Operand)} {k : K} (h : cBsl P t n parts = some k) : KOk P (.buildSlice t n parts) k := by
 unfold cBsl at h
 split at h
 ·rename_i e hu
  split at h
  ·rename_i ei hei
   split at h
   ·rename_i z ps hz hps
    split at h
    ·rename_i zs h1
     split at h
     ·rename_i hs
      cases h
      obtain ⟨k1, k2⟩ := zeroD_spec h1
      exact .plain (snd_bsl hu hei hz k1 k2 rfl hs.1 hs.2 (cRows_ok hps)) fun _ => rfl
     ·cases h
    ·cases h
   ·cases h
  ·cases h
 ·cases h
def sameOp : Operand → Operand → Bool
 | .tmp a, .tmp b => a == b
 | .const (.int k a), .const (.int k' b) => k == k' && a == b
 | _, _ => false
def cMks (t : TypeId) (x y : Operand) : Option K :=
 match P.underlying t, copd x with
 | some (.slice e), some x' =>
  match P.info? e with
  | some ei =>
   match ei.zero with
   | some z =>
    match zeroD z with
    | some zs => if z.cells.size = ei.size ∧ sameOp x y = true then some (.mks ei.size ei.bytes zs x') else Option.none
    | Option.none => Option.none
   | Option.none => Option.none
  | Option.none => Option.none
 | _, _ => Option.none
theorem cMks_ok {t : TypeId} {x y : Operand} {k : K} (h : cMks P t x y = some k) : KOk P (.makeSlice t x y) k := by
 unfold cMks at h
 split at h
 ·rename_i e x' hu hx
  split at h
  ·rename_i ei hei
   split at h
   ·rename_i z hz
    split at h
    ·rename_i zs h1
     split at h
     ·rename_i hs
      cases h
      obtain ⟨k1, k2⟩ := zeroD_spec h1
      have e : x = y := by
       have := hs.2
       unfold sameOp at this
       split at this
       ·rw [beq_iff_eq] at this; rw [this]
       ·rw [Bool.and_eq_true, beq_iff_eq, beq_iff_eq] at this; rw [this.1, this.2]
       ·cases this
      subst e
      exact .plain (snd_mks (copd_ok hx) hu hei hz k1 k2 rfl hs.1 rfl) fun _ => rfl
     ·cases h
    ·cases h
   ·cases h
  ·cases h
 ·cases h
def copdO : Option Operand → Option (Option Opd)
 | some x =>
  match copd x with
  | some y => some (some y)
  | Option.none => Option.none
 | Option.none => some Option.none
theorem copdO_ok {x : Option Operand} {y : Option Opd} (h : copdO x = some y) : OptOk x y := by
 unfold copdO at h
 split at h
 ·split at h
  ·cases h; exact copd_ok ‹_›
  ·cases h
 ·cases h; trivial
def cSlc (t : TypeId) (x : Operand) (lo hi mx : Option Operand) : Option K :=
 match P.underlying t, copd x, copdO lo, copdO hi, mx with
 | some (.slice e), some x', some lo', some hi', Option.none =>
  match P.info? e with
  | some ei => some (.slc ei.size x' lo' hi')
  | Option.none => Option.none
 | some (.slice e), some x', some lo', some (some hi'), some m =>
  match P.info? e, copd m with
  | some ei, some m' => some (.slc3 ei.size x' lo' hi' m')
  | _, _ => Option.none
 | _, _, _, _, _ => Option.none
theorem copdO_some {x : Option Operand} {y : Opd} (h : copdO x = some (some y)) : ∃ z, x = some z ∧ copd z = some y := by
 unfold copdO at h
 split at h
 ·rename_i z
  split at h
  ·rename_i y' hy
   cases h
   exact ⟨z, rfl, hy⟩
  ·cases h
 ·cases h
theorem cSlc_ok {t : TypeId} {x : Operand} {lo hi mx : Option Operand} {k : K} (h : cSlc P t x lo hi mx = some k) : KOk P (.slice t x lo hi mx) k := by
 unfold cSlc at h
 split at h
 ·rename_i e x' lo' hi' hu hx hlo hhi
  split at h
  ·rename_i ei hei
   cases h
   exact .plain (snd_slc (copd_ok hx) (copdO_ok hlo) (copdO_ok hhi) hu hei) fun _ => rfl
  ·cases h
 ·rename_i e x' lo' hi' m hu hx hlo hhi
  split at h
  ·rename_i ei m' hei hm
   cases h
   obtain ⟨z, rfl, hz⟩ := copdO_some hhi
   exact .plain (snd_slc3 (copd_ok hx) (copdO_ok hlo) (copd_ok hz) (copd_ok hm) hu hei) fun _ => rfl
  ·cases h
 ·cases h
def cBin (op : BinOp) (t : TypeId) (x y : Operand) : Option K :=
 match P.underlying t, copd x, copd y with
 | some .bool, some x', some y' =>
  match op with
  | .eql => some (.beq false x' y')
  | .neq => some (.beq true x' y')
  | _ => Option.none
 | some (.int _), some x', some y' => some (.bin op x' y')
 | some .string, some x', some y' => some (.bin op x' y')
 | some (.array n e), some x', some y' =>
  match P.info? e, kindOf P e, (match op with | .eql => some false | .neq => some true | _ => Option.none) with
  | some ei, some kd, some ng => if ei.size = 1 ∧ P.eqGuardType P.depth t = false then some (.eqa ng (List.replicate n kd) x' y') else Option.none
  | _, _, _ => Option.none
 | some (.struct fs), some x', some y' =>
  match kinds2 P 0 fs.toList, (match op with | .eql => some false | .neq => some true | _ => Option.none) with
  | some ks, some ng => if P.stoodInHeld t = false ∧ P.eqGuardType P.depth t = false then some (.eqa ng ks x' y') else Option.none
  | _, _ => Option.none
 | some (.slice e), some x', some y' =>
  match y, (match op with | .eql => some false | .neq => some true | _ => Option.none) with
  | .const (.slice Option.none 0 0), some ng => some (.isn ng x')
  | _, _ => Option.none
 | _, _, _ => Option.none
theorem eqOp {op : BinOp} {ng : Bool} (h : (match op with | .eql => some false | .neq => some true | _ => Option.none) = some ng) : op = (if ng = true then .neq else .eql) := by
 split at h <;> cases h <;> rfl
theorem cBin_ok {op : BinOp} {t t' : TypeId} {x y : Operand} {k : K} (h : cBin P op t x y = some k) : KOk P (.binOp op t x y t') k := by
 unfold cBin at h
 split at h
 ·rename_i x' y' hu hx hy
  split at h
  ·cases h
   exact .plain (snd_beq (ng := false) (copd_ok hx) (copd_ok hy) hu) fun _ => rfl
  ·cases h
   exact .plain (snd_beq (ng := true) (copd_ok hx) (copd_ok hy) hu) fun _ => rfl
  ·cases h
 ·rename_i x' y' hu hx hy
  cases h
  exact .plain (snd_bin (copd_ok hx) (copd_ok hy)) fun _ => rfl
 ·rename_i x' y' hu hx hy
  cases h
  exact .plain (snd_bin (copd_ok hx) (copd_ok hy)) fun _ => rfl
 ·rename_i n e x' y' hu hx hy
  split at h
  ·rename_i ei kd ng hi hk hng
   split at h
   ·rename_i hs
    cases h
    rw [eqOp hng]
    exact .plain (snd_eqaA (copd_ok hx) (copd_ok hy) hu hi hs.1 hk hs.2) fun _ => rfl
   ·cases h
  ·cases h
 ·rename_i fs x' y' hu hx hy
  split at h
  ·rename_i ks ng hk hng
   split at h
   ·rename_i hs
    cases h
    rw [eqOp hng]
    exact .plain (snd_eqaS (copd_ok hx) (copd_ok hy) hu hk hs.1 hs.2) fun _ => rfl
   ·cases h
  ·cases h
 ·rename_i e x' y' hu hx hy
  split at h
  ·rename_i ng hng
   cases h
   rw [eqOp hng]
   exact .plain (snd_isn (copd_ok hx) hu) fun _ => rfl
  ·cases h
 ·cases h
def cCvi (src dst : TypeId) (x : Operand) : Option K :=
 match P.underlying src, P.underlying dst, copd x with
 | some (.int _), some (.int k), some x' => some (.cvi k x')
 | some (.slice e), some .string, some x' =>
  match P.underlying e with
  | some (.int .u8) => some (.bts x')
  | _ => Option.none
 | _, _, _ => Option.none
theorem cCvi_ok {src dst : TypeId} {x : Operand} {k : K} (h : cCvi P src dst x = some k) : KOk P (.convert src dst x) k := by
 unfold cCvi at h
 split at h
 ·rename_i kd k' x' hs hd hx
  cases h
  exact .plain (snd_cvi (copd_ok hx) (by rw [hs]; rfl) hd) fun _ => rfl
 ·rename_i e x' hs hd hx
  split at h
  ·rename_i he
   cases h
   exact .plain (snd_bts (copd_ok hx) hs he hd) fun _ => rfl
  ·cases h
 ·cases h
def cMkf (fn : Fn) (fs cs : Array Operand) : Option K :=
 match fn, copdL fs.toList, copdL cs.toList with
 | .func f, some fs', some cs' => some (.mkf f fs' cs')
 | _, _, _ => Option.none
theorem cMkf_ok {fn : Fn} {fs cs : Array Operand} {k : K} (h : cMkf fn fs cs = some k) : KOk P (.makeFunc fn fs cs) k := by
 unfold cMkf at h
 split at h
 ·rename_i f fs' cs' h1 h2
  cases h
  exact .plain (snd_mkf (opdsOk h1) (opdsOk h2)) fun _ => rfl
 ·cases h
def cBuiltin (b : Builtin) (args : List Operand) (ts : List TypeId) : Option K :=
 match b, args, ts with
 | .len, [x], [t] =>
  match P.underlying t, copd x with
  | some (.slice e), some x' => some (.len x')
  | some .string, some x' => some (.lenS x')
  | _, _ => Option.none
 | .append, [x, y], [t, tx] =>
  match P.underlying t, P.underlying tx, copd x, copd y with
  | some (.slice e), some (.slice _), some x', some y' =>
   match P.info? e with
   | some ei =>
    match ei.zero with
    | some z => if z.cells.size = ei.size ∧ 0 < ei.size then some (.app ei.size ei.bytes x' y') else Option.none
    | Option.none => Option.none
   | Option.none => Option.none
  | _, _, _, _ => Option.none
 | .min, [x, y], [t, tx] =>
  match copd x, copd y with
  | some x', some y' => some (.mnx false x' y')
  | _, _ => Option.none
 | .max, [x, y], [t, tx] =>
  match copd x, copd y with
  | some x', some y' => some (.mnx true x' y')
  | _, _ => Option.none
 | .copy, [x, y], [t, tx] =>
  match P.underlying t, P.underlying tx, copd x, copd y with
  | some (.slice e), some (.slice _), some x', some y' =>
   match P.info? e with
   | some ei => some (.cpy ei.size x' y')
   | Option.none => Option.none
  | _, _, _, _ => Option.none
 | _, _, _ => Option.none
theorem cBuiltin_ok {b : Builtin} {args : Array Operand} {ts : Array TypeId} {k : K} (h : cBuiltin P b args.toList ts.toList = some k) : KOk P (.call { callee := .builtin b, args := args, argTypes := ts }) k := by
 obtain ⟨args⟩ := args
 obtain ⟨ts⟩ := ts
 dsimp only at h
 unfold cBuiltin at h
 split at h
 ·split at h
  ·rename_i hu hx
   cases h
   exact .plain (snd_len (ty := 0) (copd_ok hx) hu) fun _ => rfl
  ·rename_i hu hx
   cases h
   exact .plain (snd_lenS (ty := 0) (copd_ok hx) hu) fun _ => rfl
  ·cases h
 ·split at h
  ·rename_i hu hk hx hy
   split at h
   ·rename_i ei hei
    split at h
    ·rename_i z hz
     split at h
     ·rename_i hs
      cases h
      exact .plain (snd_app (copd_ok hx) (copd_ok hy) hu hk hei hz rfl hs.1 rfl hs.2) (fun _ => rfl) (snd_apk (copd_ok hx) (copd_ok hy) hu hk hei hz rfl hs.1 rfl hs.2)
     ·cases h
    ·cases h
   ·cases h
  ·cases h
 ·split at h
  ·rename_i hx hy
   cases h
   exact .plain (snd_mn (ty := 0) (copd_ok hx) (copd_ok hy)) fun _ => rfl
  ·cases h
 ·split at h
  ·rename_i hx hy
   cases h
   exact .plain (snd_mx (ty := 0) (copd_ok hx) (copd_ok hy)) fun _ => rfl
  ·cases h
 ·split at h
  ·rename_i hu hk hx hy
   split at h
   ·rename_i ei hei
    cases h
    exact .plain (snd_cpy (copd_ok hx) (copd_ok hy) hu hk (by rw [hei]; rfl)) fun _ => rfl
   ·cases h
  ·cases h
 ·cases h
theorem run_callFunc {f : FuncId} {args : Array Value} {w : World} (h : fnOk P f = true) : (callFunc f args).run P w = .ok (.enter f args) w := by
 unfold fnOk at h
 split at h
 ·rename_i fn hf
  rw [Bool.and_eq_true] at h
  obtain ⟨h1, h2⟩ := h
  have h1' : ¬ (fn.name = "runtime.NumGoroutine") := by simpa using h1
  have h2' : ¬ (fn.body = Option.none) := fun hb => by rw [hb] at h2; cases h2
  unfold callFunc
  simp [hf, h1', h2']
 ·cases h
def cCall (f : Operand) (args : List Operand) : Option K :=
 match f, copdL args with
 | .func f, some args' => some (.call f args')
 | .tmp t, some args' => some (.callv (.t t) args')
 | _, _ => Option.none
theorem cCall_ok {f : Operand} {args : Array Operand} {ts : Array TypeId} {k : K} (h : cCall f args.toList = some k) : KOk P (.call { callee := .value f, args := args, argTypes := ts }) k := by
 unfold cCall at h
 split at h
 ·rename_i g args' ha
  cases h
  refine ⟨fun E Im p s a w nm o d _ _ he _ => (by cases he), fun E Im p s a w d f2 as ho hR hc hfn => ?_, True.intro⟩
  cases hc
  have A := opdsOk ha
  obtain ⟨k1, k2⟩ := rel_args (a := a) (F := s.F) (Im := Im) (p := p) (H := s.H) (h := w.heap) A.1 (fun j x y hx hy => A.2 j x y hx hy _ _ _ _ _ _ hR)
  refine ⟨args.map a.eval, ?_, k1, k2⟩
  unfold execOp
  simp [ho, resolve, invoke, Act.eval, Deferred.ofValue, run_callFunc P hfn]
 ·rename_i t args' ha
  cases h
  refine ⟨fun E Im p s a w nm o d _ _ he _ => (by cases he), fun E Im p s a w d f2 as ho hR hc hfn => ?_, True.intro⟩
  simp only [callee] at hc
  split at hc
  ·rename_i g fs cs hs
   cases hc
   have r := hR.fr t
   have hs' : s.F t = .clo f2 fs cs := hs
   rw [hs'] at r
   generalize hu : a.tmps.getD t undef = u at r
   cases r with
   | p r => cases r
   | clo _ _ _ us vs hl hl' hr hr' =>
    have A := opdsOk ha
    obtain ⟨k1, k2⟩ := rel_args (a := a) (F := s.F) (Im := Im) (p := p) (H := s.H) (h := w.heap) A.1 (fun j x y hx hy => A.2 j x y hx hy _ _ _ _ _ _ hR)
    refine ⟨us ++ args.map a.eval ++ vs, ?_, by simp only [List.length_append, Array.size_append, hl, hl', k1], fun j x u hx hu' => ?_⟩
    ·unfold execOp
     simp [ho, resolve, invoke, Act.eval, hu, Deferred.ofValue, run_callFunc P hfn]
    ·by_cases h1 : j < (fs ++ mapEv s.F args').length
     ·rw [List.getElem?_append_left h1] at hx
      rw [Array.getElem?_append_left (by rw [Array.size_append, ← hl, ← k1, ← List.length_append]; exact h1)] at hu'
      by_cases h2 : j < fs.length
      ·rw [List.getElem?_append_left h2] at hx
       rw [Array.getElem?_append_left (by rw [← hl]; exact h2)] at hu'
       exact hr j x u hx hu'
      ·rw [List.getElem?_append_right (by omega)] at hx
       rw [Array.getElem?_append_right (by rw [← hl]; omega), ← hl] at hu'
       exact k2 _ x u hx hu'
     ·rw [List.getElem?_append_right (by omega)] at hx
      have e : (us ++ args.map a.eval).size = (fs ++ mapEv s.F args').length := by rw [Array.size_append, List.length_append, hl, k1]
      rw [Array.getElem?_append_right (by omega), e] at hu'
      exact hr' _ x u hx hu'
  ·cases hc
 ·cases h
def comp0 : Op → Option K
 | .move x => (copd x).map .mv
 | .assign x => (copd x).map .mv
 | .pick c a b =>
  match copd c, copd a, copd b with
  | some c', some a', some b' => some (.pick c' a' b')
  | _, _, _ => Option.none
 | .alloc e => cNew P e
 | .box e x => cBox P e x
 | .build t ps => cBld P t ps
 | .buildSlice t n ps => cBsl P t n ps
 | .load t x => cLd P t x
 | .store t x y => cSt P t x y
 | .nilCheck x => (copd x).map .nck
 | .binOp op t x y _ => cBin P op t x y
 | .unOp .not _ x => (copd x).map .not
 | .unOp .neg _ x => (copd x).map .neg
 | .convert src dst x => cCvi P src dst x
 | .fieldAddr t x f => cFa P t x f
 | .field t x f => cFld P t x f
 | .indexAddr t x y => cIa P t x y
 | .index t x y => cIx P t x y
 | .extract x i => (copd x).map fun y => .ext y i
 | .makeFunc fn fs cs => cMkf fn fs cs
 | .makeSlice t x y => cMks P t x y
 | .slice t x lo hi mx => cSlc P t x lo hi mx
 | .call { callee := .builtin b, args, argTypes } => cBuiltin P b args.toList argTypes.toList
 | .call { callee := .value f, args, .. } => cCall f args.toList
 | _ => Option.none
theorem comp0_ok {op : Op} {k : K} (h : comp0 P op = some k) : KOk P op k := by
 unfold comp0 at h
 split at h
 ·rename_i x; cases hx : copd x with
  | none => rw [hx] at h; cases h
  | some y => rw [hx] at h; cases h; exact .plain (snd_mv (copd_ok hx)) fun _ => rfl
 ·rename_i x; cases hx : copd x with
  | none => rw [hx] at h; cases h
  | some y => rw [hx] at h; cases h; exact .plain (snd_as (copd_ok hx)) fun _ => rfl
 ·split at h
  ·rename_i h1 h2 h3; cases h; exact .plain (snd_pick (copd_ok h1) (copd_ok h2) (copd_ok h3)) fun _ => rfl
  ·cases h
 ·exact cNew_ok P h
 ·exact cBox_ok P h
 ·exact cBld_ok P h
 ·exact cBsl_ok P h
 ·exact cLd_ok P h
 ·exact cSt_ok P h
 ·rename_i x; cases hx : copd x with
  | none => rw [hx] at h; cases h
  | some y => rw [hx] at h; cases h; exact .plain (snd_nck (copd_ok hx)) fun _ => rfl
 ·exact cBin_ok P h
 ·rename_i x; cases hx : copd x with
  | none => rw [hx] at h; cases h
  | some y => rw [hx] at h; cases h; exact .plain (snd_not (copd_ok hx)) fun _ => rfl
 ·rename_i x; cases hx : copd x with
  | none => rw [hx] at h; cases h
  | some y => rw [hx] at h; cases h; exact .plain (snd_neg (copd_ok hx)) fun _ => rfl
 ·exact cCvi_ok P h
 ·exact cFa_ok P h
 ·exact cFld_ok P h
 ·exact cIa_ok P h
 ·exact cIx_ok P h
 ·rename_i x i; cases hx : copd x with
  | none => rw [hx] at h; cases h
  | some y => rw [hx] at h; cases h; exact .plain (snd_ext (copd_ok hx)) fun _ => rfl
 ·exact cMkf_ok P h
 ·exact cMks_ok P h
 ·exact cSlc_ok P h
 ·exact cBuiltin_ok P h
 ·exact cCall_ok P h
 ·cases h
def comp (op : Op) : Option K :=
 match comp0 P op with
 | some k => some k
 | Option.none => some .stk
theorem comp_ok {op : Op} {k : K} (h : comp P op = some k) : KOk P op k := by
 unfold comp at h
 split at h
 ·rename_i k' hk
  cases h
  exact comp0_ok P hk
 ·cases h
  exact .plain (fun E Im p s a w nm o d ho hR he hcd => by cases he) fun _ => rfl
end
inductive C where
 | skip
 | ops (d : Bool) (l : List COp)
 | opsF (d : Bool) (l : List (Bool × COp))
 | seq (a b : C)
 | cond (x : Opd) (a b : C)
 | block (id : Nat) (a : C)
 | loop (a : C)
 | weak (a : C)
 | exit (id : Nat)
 | ret
def cEdges : List Edge → List Nat
 | [] => []
 | e :: es => if Region.binds .any e = true then e.on :: cEdges es else cEdges es
theorem cEdges_spec {es : List Edge} {j : Nat} : j ∈ cEdges es ↔ ∃ e ∈ es, Region.binds .any e = true ∧ e.on = j := by
 induction es with
 | nil => simp [cEdges]
 | cons e es ih =>
  rw [cEdges]
  split
  ·rename_i h
   rw [List.mem_cons, ih]
   constructor
   ·rintro (h1 | ⟨e', h1, h2, h3⟩)
    ·exact ⟨e, List.mem_cons_self .., h, h1.symm⟩
    ·exact ⟨e', List.mem_cons_of_mem _ h1, h2, h3⟩
   ·rintro ⟨e', h1, h2, h3⟩
    cases h1 with
    | head => exact .inl h3.symm
    | tail _ h1 => exact .inr ⟨e', h1, h2, h3⟩
  ·rename_i h
   rw [ih]
   constructor
   ·rintro ⟨e', h1, h2, h3⟩
    exact ⟨e', List.mem_cons_of_mem _ h1, h2, h3⟩
   ·rintro ⟨e', h1, h2, h3⟩
    cases h1 with
    | head => exact absurd h2 h
    | tail _ h1 => exact ⟨e', h1, h2, h3⟩
def addNat (js : List Nat) : List Nat → List Nat
 | [] => js
 | i :: is => if js.contains i = true then addNat js is else addNat (i :: js) is
theorem addNat_mem {i : Nat} : ∀ {is js : List Nat}, i ∈ addNat js is → i ∈ js ∨ i ∈ is
 | [], js, h => .inl h
 | k :: is, js, h => by
  unfold addNat at h
  split at h
  ·exact (addNat_mem h).imp id (List.mem_cons_of_mem _)
  ·rcases addNat_mem h with h | h
   ·cases h with
    | head => exact .inr (List.mem_cons_self ..)
    | tail _ h => exact .inl h
   ·exact .inr (List.mem_cons_of_mem _ h)
def cClose (acc : List (List Nat)) (ds : List Nat) : List Nat := addNat (addNat [] ds) (ds.flatMap fun d => acc.getD d [])
def dstLt (n : Nat) : Option Nat → Bool
 | some t => decide (t < n)
 | Option.none => true
theorem exists_min {p : Nat → Prop} (h : ∃ k, p k) : ∃ k, p k ∧ ∀ m, p m → k ≤ m := by
 obtain ⟨k, hk⟩ := h
 induction k using Nat.strongRecOn with
 | _ k ih =>
  by_cases hm : ∃ m, m < k ∧ p m
  ·obtain ⟨m, h1, h2⟩ := hm
   exact ih m h1 h2
  ·refine ⟨k, hk, fun m hm' => ?_⟩
   rcases Nat.lt_or_ge m k with h | h
   ·exact absurd ⟨m, h, hm'⟩ hm
   ·exact h
section
variable (P : Program)
def flatTy : Nat → TypeId → Bool
 | 0, _ => false
 | k + 1, t =>
  match P.underlying t with
  | some .bool => true
  | some (.int _) => true
  | some .string => true
  | some (.struct fs) => fs.toList.all fun f => flatTy k f.type
  | some (.array _ e) => flatTy k e
  | _ => false
def flatCall : Op → Bool
 | .call { callee := .value (.func f), .. } =>
  match P.funcs[f]? with
  | some fn => fn.resultTypes.toList.all fun t => flatTy P 6 t
  | Option.none => false
 | _ => false
def compOp (n : Nat) (ops : Array Oper) (d : Bool) (acc : List (List Nat)) (i : Nat) (o : Oper) : Option COp :=
 match comp P o.op with
 | some k =>
  if dstLt n o.dst = true ∧ (cEdges o.after.toList).all (fun j => decide (j < i)) = true then
   match o.guard with
   | Option.none => some ⟨o.dst, Option.none, k, o.dst.getD 0, if d = true then cClose acc (cEdges o.after.toList) else [], flatCall P o.op⟩
   | some (j, b) =>
    match ((ops[j]?).bind (·.dst)) with
    | some t => some ⟨o.dst, some (t, b), k, o.dst.getD 0, if d = true then cClose acc (cEdges o.after.toList) else [], flatCall P o.op⟩
    | Option.none => Option.none
  else Option.none
 | Option.none => Option.none
def compOps (n : Nat) (ops : Array Oper) (d : Bool) : List (List Nat) → Nat → List Oper → Option (List COp)
 | _, _, [] => some []
 | acc, i, o :: os =>
  match compOp P n ops d acc i o with
  | some c =>
   match compOps n ops d (acc ++ [c.after]) (i + 1) os with
   | some cs => some (c :: cs)
   | Option.none => Option.none
  | Option.none => Option.none
theorem compOp_rel {n : Nat} {ops : Array Oper} {d : Bool} {acc : List (List Nat)} {i : Nat} {o : Oper} {c : COp} (ho : ops[i]? = some o) (hacc : ∀ x, ∀ j ∈ acc.getD x [], Reach ops j x) (h : compOp P n ops d acc i o = some c) : OpRel P n ops i o c := by
 unfold compOp at h
 split at h
 ·rename_i k hk
  split at h
  ·rename_i hc
   obtain ⟨h1, h2⟩ := hc
   have hlt : ∀ t, o.dst = some t → t < n := fun t ht => by rw [ht] at h1; simpa [dstLt] using h1
   have haft : ∀ j ∈ (if d = true then cClose acc (cEdges o.after.toList) else []), Reach ops j i := fun j hj => by
    split at hj
    ·rcases addNat_mem hj with hj | hj
     ·rcases addNat_mem hj with hj | hj
      ·cases hj
      ·obtain ⟨e, he, hb, rfl⟩ := cEdges_spec.1 hj
       exact .one ho (by simpa using he) hb
     ·obtain ⟨x, hx, hjx⟩ := List.mem_flatMap.1 hj
      obtain ⟨e, he, hb, rfl⟩ := cEdges_spec.1 hx
      exact .more ho (by simpa using he) hb (hacc _ j hjx)
    ·cases hj
   have hback : ∀ e ∈ o.after, Region.binds .any e = true → e.on < i := fun e he hb => by
    have := List.all_eq_true.1 h2 e.on (cEdges_spec.2 ⟨e, by simpa using he, hb, rfl⟩)
    simpa using this
   obtain ⟨k1, k2, k3⟩ := comp_ok P hk
   split at h
   ·rename_i hg
    cases h
    exact ⟨rfl, hlt, by rw [hg], k1, k2, k3, haft, hback⟩
   ·rename_i j b hg
    split at h
    ·rename_i t ht
     cases h
     exact ⟨rfl, hlt, by rw [hg]; exact ⟨t, ht, rfl⟩, k1, k2, k3, haft, hback⟩
    ·cases h
  ·cases h
 ·cases h
theorem compOps_rel {n : Nat} {ops : Array Oper} {d : Bool} : ∀ {os : List Oper} {acc : List (List Nat)} {i : Nat} {cs : List COp}, (∀ k o, os[k]? = some o → ops[i + k]? = some o) → acc.length = i → (∀ x, ∀ j ∈ acc.getD x [], Reach ops j x) → compOps P n ops d acc i os = some cs →
  cs.length = os.length ∧ ∀ (k : Nat) (o : Oper) (c : COp), os[k]? = some o → cs[k]? = some c → OpRel P n ops (i + k) o c
 | [], acc, i, cs, _, _, _, h => by cases h; exact ⟨rfl, fun k o c ho => by cases ho⟩
 | o :: os, acc, i, cs, hos, hi, hacc, h => by
  rw [compOps] at h
  split at h
  ·rename_i c hc
   split at h
   ·rename_i cs' hcs
    cases h
    have ho : ops[i]? = some o := by simpa using hos 0 o rfl
    have R := compOp_rel P ho hacc hc
    have hacc' : ∀ x, ∀ j ∈ (acc ++ [c.after]).getD x [], Reach ops j x := fun x j hj => by
     rw [List.getD_eq_getElem?_getD] at hj
     by_cases hx : x < acc.length
     ·rw [List.getElem?_append_left hx, ← List.getD_eq_getElem?_getD] at hj
      exact hacc x j hj
     ·rw [List.getElem?_append_right (by omega)] at hj
      by_cases hx' : x = acc.length
      ·subst hx'
       rw [Nat.sub_self] at hj
       rw [hi]
       exact R.after j hj
      ·rw [List.getElem?_eq_none (by simp; omega)] at hj
       cases hj
    obtain ⟨k1, k2⟩ := compOps_rel (os := os) (acc := acc ++ [c.after]) (i := i + 1) (fun k o' hk => by
     have := hos (k + 1) o' (by simpa using hk)
     rwa [show i + 1 + k = i + (k + 1) by omega]) (by simp [hi]) hacc' hcs
    refine ⟨by rw [List.length_cons, List.length_cons, k1], fun k o' c' ho' hc' => ?_⟩
    cases k with
    | zero => cases ho'; cases hc'; exact R
    | succ k =>
     have := k2 k o' c' (by simpa using ho') (by simpa using hc')
     rwa [show i + (k + 1) = i + 1 + k by omega]
   ·cases h
  ·cases h
def stOne (c : COp) : Nat → List COp → Bool
 | _, [] => true
 | j, b :: bs => (c.after.contains j || apartC b c) && stOne c (j + 1) bs
def stAll : List COp → List COp → Bool
 | _, [] => true
 | pre, c :: cs => stOne c 0 pre && stAll (pre ++ [c]) cs
theorem stOne_spec {c : COp} : ∀ {bs : List COp} {j : Nat}, stOne c j bs = true → ∀ k b, bs[k]? = some b → j + k ∈ c.after ∨ apartC b c = true
 | [], _, _, k, b, hb => by cases hb
 | b0 :: bs, j, h, k, b, hb => by
  rw [stOne, Bool.and_eq_true, Bool.or_eq_true, List.contains_iff_mem] at h
  cases k with
  | zero => cases hb; exact h.1
  | succ k =>
   have := stOne_spec h.2 k b (by simpa using hb)
   rwa [show j + (k + 1) = j + 1 + k by omega]
theorem stAll_spec : ∀ {cs pre : List COp}, stAll pre cs = true → ∀ i j ci cj, cs[i]? = some ci → (pre ++ cs)[j]? = some cj → j < pre.length + i → j ∈ ci.after ∨ apartC cj ci = true
 | [], _, _, i, j, ci, cj, hi, _, _ => by cases hi
 | c :: cs, pre, h, i, j, ci, cj, hi, hj, hlt => by
  rw [stAll, Bool.and_eq_true] at h
  cases i with
  | zero =>
   cases hi
   have := stOne_spec h.1 j cj (by rwa [List.getElem?_append_left (by simpa using hlt)] at hj)
   simpa using this
  | succ i => exact stAll_spec h.2 i j ci cj (by simpa using hi) (by simpa using hj) (by simp; omega)
def compR (n : Nat) (ops : Array Oper) (d : Bool) : Option (List COp) :=
 match compOps P n ops d [] 0 ops.toList with
 | some cs => if d = false ∨ stAll [] cs = true then some cs else Option.none
 | Option.none => Option.none
theorem compR_rel {n : Nat} {ops : Array Oper} {d : Bool} {cs : List COp} (h : compR P n ops d = some cs) : RegRel P n ops cs ∧ (d = true → ∀ i j ci cj, cs[i]? = some ci → cs[j]? = some cj → j < i → j ∈ ci.after ∨ apartC cj ci = true) := by
 unfold compR at h
 split at h
 ·rename_i cs' hcs
  split at h
  ·rename_i hd
   cases h
   obtain ⟨k1, k2⟩ := compOps_rel P (i := 0) (fun k o hk => by rw [Nat.zero_add]; simpa using hk) rfl (fun x j hj => by simp at hj) hcs
   refine ⟨⟨by rw [k1]; simp, fun i o c ho hc => ?_⟩, fun hdt i j ci cj hi hj hlt => ?_⟩
   ·have := k2 i o c (by simpa using ho) hc
    rwa [Nat.zero_add] at this
   ·have hs := hd.resolve_left (by rw [hdt]; simp)
    exact stAll_spec hs i j ci cj hi (by simpa using hj) (by simpa using hlt)
  ·cases h
 ·cases h
def compC (n : Nat) : Code → Option C
 | .skip => some .skip
 | .label _ => some .skip
 | .region _ ops d =>
  match compR P n ops d with
  | some l => some (.ops d l)
  | Option.none => Option.none
 | .seq a b =>
  match compC n a, compC n b with
  | some a', some b' => some (.seq a' b')
  | _, _ => Option.none
 | .cond c a b =>
  match copd c, compC n a, compC n b with
  | some c', some a', some b' => some (.cond c' a' b')
  | _, _, _ => Option.none
 | .block id a =>
  match compC n a with
  | some a' => some (.block id a')
  | Option.none => Option.none
 | .loop a =>
  match compC n a with
  | some a' => some (.loop a')
  | Option.none => Option.none
 | .exit id => some (.exit id)
 | .ret => some .ret
 | .scope a => compC n a
 | _ => Option.none
end
inductive Ex where
 | nrm
 | exit (id : Nat)
 | ret
def exOf : Exit → Option Ex
 | .normal => some .nrm
 | .exit id => some (.exit id)
 | .ret => some .ret
 | _ => Option.none
def PostA (E : Ent) (Q : Ex → St → Prop) (e : Exit) (a : Act) (w : World) : Prop := ∃ x s Im p, exOf e = some x ∧ Q x s ∧ RelS E Im p s a w
def Weak (J : List Nm) (s s' : St) : Prop := ∀ (E : Ent), (∀ i e, E.H i = some e → i ∈ J) → ∀ (Im : Nat → Prop) (p : Pl) (a : Act) (w : World), RelS E Im p s a w → ∃ Im' p', RelS E Im' p' s' a w
theorem Weak.refl (J : List Nm) (s : St) : Weak J s s := fun E _ Im p a w h => ⟨Im, p, h⟩
theorem Weak.trans {J : List Nm} {a b c : St} (h : Weak J a b) (k : Weak J b c) : Weak J a c := fun E hE Im p x w hr => let ⟨Im', p', h'⟩ := h E hE Im p x w hr; k E hE Im' p' x w h'
def thenQ (n : St → Prop) (Q : Ex → St → Prop) : Ex → St → Prop
 | .nrm, s => n s
 | .exit id, s => Q (.exit id) s
 | .ret, s => Q .ret s
def blockQ (id : Nat) (Q : Ex → St → Prop) : Ex → St → Prop
 | .nrm, s => Q .nrm s
 | .exit k, s => if k = id then Q .nrm s else Q (.exit k) s
 | .ret, s => Q .ret s
def loopQ (J : List Nm) (I : Nat → St → Prop) (k : Nat) (Q : Ex → St → Prop) : Ex → St → Prop
 | .nrm, s => ∃ k' s', k' < k ∧ Weak J s s' ∧ I k' s'
 | .exit id, s => Q (.exit id) s
 | .ret, s => Q .ret s
def vc (T : Tbl) (N : Nat → Nm) (J : List Nm) : C → (Ex → St → Prop) → St → Prop
 | .skip, Q, s => Q .nrm s
 | .ops d l, Q, s => if d = true then runD T N (Q .nrm) l 0 [] s else runL T N (Q .nrm) l s
 | .opsF d l, Q, s => if d = true then runDG T N (Q .nrm) l 0 [] s else runF T N (Q .nrm) l s
 | .seq a b, Q, s => vc T N J a (thenQ (vc T N J b Q) Q) s
 | .cond x a b, Q, s =>
  match x.ev s.F with
  | .v (.bool c) => if c = true then vc T N J a Q s else vc T N J b Q s
  | _ => False
 | .block id a, Q, s => vc T N J a (blockQ id Q) s
 | .weak a, Q, s => ∃ s', Weak J s s' ∧ vc T N J a Q s'
 | .loop a, Q, s => ∃ I : Nat → St → Prop, (∃ k s', Weak J s s' ∧ I k s') ∧ ∀ k s', I k s' → vc T N J a (loopQ J I k Q) s'
 | .exit id, Q, s => Q (.exit id) s
 | .ret, Q, s => Q .ret s
def C.strip : C → C
 | .seq a b => .seq a.strip b.strip
 | .cond x a b => .cond x a.strip b.strip
 | .block id a => .block id a.strip
 | .loop a => .loop a.strip
 | .weak a => a.strip
 | .skip => .skip
 | .ops d l => .ops d l
 | .opsF d l => .ops d (l.map Prod.snd)
 | .exit id => .exit id
 | .ret => .ret
inductive CodeRel (P : Program) (n : Nat) : Code → C → Prop where
 | skip : CodeRel P n .skip .skip
 | label (l) : CodeRel P n (.label l) .skip
 | region (id ops d l) (h : compR P n ops d = some l) : CodeRel P n (.region id ops d) (.ops d l)
 | regionF (id ops d l) (h : compR P n ops d = some (l.map Prod.snd)) : CodeRel P n (.region id ops d) (.opsF d l)
 | seq {x y a b} (h1 : CodeRel P n x a) (h2 : CodeRel P n y b) : CodeRel P n (.seq x y) (.seq a b)
 | cond {c c' x y a b} (h : copd c = some c') (h1 : CodeRel P n x a) (h2 : CodeRel P n y b) : CodeRel P n (.cond c x y) (.cond c' a b)
 | block {id x a} (h1 : CodeRel P n x a) : CodeRel P n (.block id x) (.block id a)
 | loop {x a} (h1 : CodeRel P n x a) : CodeRel P n (.loop x) (.loop a)
 | exit (id) : CodeRel P n (.exit id) (.exit id)
 | ret : CodeRel P n .ret .ret
 | scope {x a} (h1 : CodeRel P n x a) : CodeRel P n (.scope x) a
 | weak {x a} (h1 : CodeRel P n x a) : CodeRel P n x (.weak a)
theorem codeRel_of {P : Program} {n : Nat} : ∀ {code : Code} {c : C}, compC P n code = some c.strip → CodeRel P n code c := by
 intro code
 induction code with
 | skip =>
  intro c
  induction c with
  | weak a ih => intro h; exact .weak (ih h)
  | skip => intro h; exact .skip
  | _ => intro h; simp only [compC, C.strip] at h; cases h
 | label l =>
  intro c
  induction c with
  | weak a ih => intro h; exact .weak (ih h)
  | skip => intro h; exact .label l
  | _ => intro h; simp only [compC, C.strip] at h; cases h
 | region id ops d =>
  intro c
  induction c with
  | weak a ih => intro h; exact .weak (ih h)
  | ops d' l =>
   intro h
   simp only [compC, C.strip] at h
   split at h
   ·rename_i l' hl
    cases h
    exact .region id ops d _ hl
   ·cases h
  | opsF d' l =>
   intro h
   simp only [compC, C.strip] at h
   split at h
   ·rename_i l' hl
    cases h
    exact .regionF id ops d _ hl
   ·cases h
  | _ => intro h; simp only [compC, C.strip] at h; split at h <;> cases h
 | seq x y ihx ihy =>
  intro c
  induction c with
  | weak a ih => intro h; exact .weak (ih h)
  | seq a b =>
   intro h
   simp only [compC, C.strip] at h
   split at h
   ·rename_i x' y' hx hy
    cases h
    exact .seq (ihx hx) (ihy hy)
   ·cases h
  | _ => intro h; simp only [compC, C.strip] at h; split at h <;> cases h
 | cond c0 x y ihx ihy =>
  intro c
  induction c with
  | weak a ih => intro h; exact .weak (ih h)
  | cond c1 a b =>
   intro h
   simp only [compC, C.strip] at h
   split at h
   ·rename_i c' x' y' h1 hx hy
    cases h
    exact .cond h1 (ihx hx) (ihy hy)
   ·cases h
  | _ => intro h; simp only [compC, C.strip] at h; split at h <;> cases h
 | block id x ih0 =>
  intro c
  induction c with
  | weak a ih => intro h; exact .weak (ih h)
  | block id' a =>
   intro h
   simp only [compC, C.strip] at h
   split at h
   ·rename_i x' hx
    cases h
    exact .block (ih0 hx)
   ·cases h
  | _ => intro h; simp only [compC, C.strip] at h; split at h <;> cases h
 | loop x ih0 =>
  intro c
  induction c with
  | weak a ih => intro h; exact .weak (ih h)
  | loop a =>
   intro h
   simp only [compC, C.strip] at h
   split at h
   ·rename_i x' hx
    cases h
    exact .loop (ih0 hx)
   ·cases h
  | _ => intro h; simp only [compC, C.strip] at h; split at h <;> cases h
 | exit id =>
  intro c
  induction c with
  | weak a ih => intro h; exact .weak (ih h)
  | exit id' => intro h; simp only [compC, C.strip] at h; cases h; exact .exit _
  | _ => intro h; simp only [compC, C.strip] at h; cases h
 | ret =>
  intro c
  induction c with
  | weak a ih => intro h; exact .weak (ih h)
  | ret => intro h; exact .ret
  | _ => intro h; simp only [compC, C.strip] at h; cases h
 | scope x ih => intro c h; exact .scope (ih h)
 | _ => intro c h; simp only [compC] at h; cases h
theorem vc_sound {P : Program} {T : Tbl} (hT : TblOk P T) (hm : P.follows .mixedOrders = true) {N : Nat → Nm} {J : List Nm} {E : Ent} (hE : ∀ i e, E.H i = some e → i ∈ J) : ∀ {code : Code} {c : C} {Q : Ex → St → Prop} {s : St} {Im : Nat → Prop} {p : Pl} {a : Act} {w : World}, CodeRel P E.n code c → vc T N J c Q s → RelS E Im p s a w → code.wp P (PostA E Q) a w := by
 intro code c Q s Im p a w hrel
 induction hrel generalizing Q s Im p a w with
 | skip => intro h hR; exact wp_skip ⟨.nrm, s, Im, p, rfl, h, hR⟩
 | label l => intro h hR; exact wp_label ⟨.nrm, s, Im, p, rfl, h, hR⟩
 | regionF id ops d l hl =>
  intro h hR
  ·obtain ⟨RR, hst⟩ := compR_rel P hl
   have fin : ∀ s Im p a w, Q .nrm s → RelS E Im p s a w → PostA E Q .normal a w := fun s Im p a w hq hr => ⟨.nrm, s, Im, p, rfl, hq, hr⟩
   rw [vc] at h
   cases d with
   | false =>
    simp only [Bool.false_eq_true, if_false] at h
    refine wp_region ?_
    have := wpOps_of_runF hT RR fin l 0 s Im p a w rfl hR h
    rwa [← List.length_map (f := Prod.snd) (as := l), RR.len, ← List.range_eq_range'] at this
   | true =>
    simp only [if_true] at h
    refine wp_region_any hm ?_
    have hR' : RelS E Im p s a { w with drawn := w.drawn + 1 } := ⟨hR.sz, hR.fr, hR.hp, ⟨hR.en.os, hR.en.tape, hR.en.output, hR.en.size, hR.en.block, hR.en.im, hR.en.im', hR.en.ids⟩, hR.gr, hR.df⟩
    have hu := runU_of_runD l 0 [] s rfl h
    rw [← List.length_map (f := Prod.snd) (as := l), RR.len] at hu
    refine any_of_runU hT (gops := l) rfl RR (hst rfl) fin ops.size (List.range' 0 ops.size) [] _ s Im p a _ (by simp) (fun i => ?_) List.pairwise_lt_range' (fun i o ho hl => ?_) (by simp) hR' hu
    ·rw [List.mem_range'_1]
     by_cases hi : i < ops.size
     ·simp [hi, Array.getD]
     ·simp [hi]
    ·have hi : i < ops.size := by
      rcases Nat.lt_or_ge i ops.size with h | h
      ·exact h
      ·rw [Array.getElem?_eq_none h] at ho; cases ho
     simp [hi, Array.getD] at hl
 | region id ops d l hl =>
  intro h hR
  ·obtain ⟨RR, hst⟩ := compR_rel P hl
   have fin : ∀ s Im p a w, Q .nrm s → RelS E Im p s a w → PostA E Q .normal a w := fun s Im p a w hq hr => ⟨.nrm, s, Im, p, rfl, hq, hr⟩
   rw [vc] at h
   cases d with
   | false =>
    simp only [Bool.false_eq_true, if_false] at h
    refine wp_region ?_
    have := wpOps_of_runL hT RR fin l 0 s Im p a w rfl hR h
    rwa [RR.len, ← List.range_eq_range'] at this
   | true =>
    simp only [if_true] at h
    refine wp_region_any hm ?_
    have hR' : RelS E Im p s a { w with drawn := w.drawn + 1 } := ⟨hR.sz, hR.fr, hR.hp, ⟨hR.en.os, hR.en.tape, hR.en.output, hR.en.size, hR.en.block, hR.en.im, hR.en.im', hR.en.ids⟩, hR.gr, hR.df⟩
    have hu := runU_of_runD (l.map fun c => (false, c)) 0 [] s rfl (runDG_of_runD _ _ _ _ h)
    rw [List.length_map, RR.len] at hu
    refine any_of_runU hT (gops := (l.map fun c => (false, c))) (by rw [List.map_map]; exact List.map_id _) RR (hst rfl) fin ops.size (List.range' 0 ops.size) [] _ s Im p a _ (by simp) (fun i => ?_) List.pairwise_lt_range' (fun i o ho hl => ?_) (by simp) hR' hu
    ·rw [List.mem_range'_1]
     by_cases hi : i < ops.size
     ·simp [hi, Array.getD]
     ·simp [hi]
    ·have hi : i < ops.size := by
      rcases Nat.lt_or_ge i ops.size with h | h
      ·exact h
      ·rw [Array.getElem?_eq_none h] at ho; cases ho
     simp [hi, Array.getD] at hl
 | seq hx hy ihx ihy =>
  intro h hR
  ·rw [vc] at h
   refine wp_seq (wp_mono (ihx h hR) fun e a' w' hpost => ?_)
   obtain ⟨ex, s', Im', p', he, hq, hr⟩ := hpost
   cases e <;> simp only [exOf, Option.some.injEq, reduceCtorEq] at he
   ·subst he; exact ihy hq hr
   ·subst he; exact ⟨_, s', Im', p', rfl, hq, hr⟩
   ·subst he; exact ⟨_, s', Im', p', rfl, hq, hr⟩
 | cond h1 hx hy ihx ihy =>
  intro h hR
  ·rw [vc] at h
   split at h
   ·rename_i b hb
    have r := copd_ok h1 E Im p s a w hR
    rw [hb] at r
    have e := rel_v r
    refine wp_cond e ?_
    cases b with
    | true => simp only [if_true] at h ⊢; exact ihx h hR
    | false => simp only [Bool.false_eq_true, if_false] at h ⊢; exact ihy h hR
   ·exact h.elim
 | block hx ih =>
  intro h hR
  ·rw [vc] at h
   refine wp_block (wp_mono (ih h hR) fun e a' w' hpost => ?_)
   obtain ⟨ex, s', Im', p', he, hq, hr⟩ := hpost
   cases e <;> simp only [exOf, Option.some.injEq, reduceCtorEq] at he
   ·subst he; exact ⟨_, s', Im', p', rfl, hq, hr⟩
   ·rename_i k
    subst he
    simp only [blockQ] at hq
    simp only [Exit.inBlock]
    split
    ·rename_i hk; rw [if_pos hk] at hq; exact ⟨_, s', Im', p', rfl, hq, hr⟩
    ·rename_i hk; rw [if_neg hk] at hq; exact ⟨_, s', Im', p', rfl, hq, hr⟩
   ·subst he; exact ⟨_, s', Im', p', rfl, hq, hr⟩
 | loop hx ih =>
  intro h hR
  ·rw [vc] at h
   obtain ⟨I, ⟨k0, s0, hw0, hI0⟩, hround⟩ := h
   obtain ⟨Im0, p0, hR0⟩ := hw0 E hE Im p a w hR
   let J : Nat → Act → World → Prop := fun k a w => ∃ s Im p, I k s ∧ RelS E Im p s a w
   classical
   refine wp_loop (fun a w => ∃ k, J k a w) (fun a w => if h : ∃ k, J k a w then Classical.choose (exists_min h) else 0) ⟨k0, s0, Im0, p0, hI0, hR0⟩ fun a w hJ => ?_
   obtain ⟨⟨s', Im', p', hI, hr⟩, hle⟩ := Classical.choose_spec (exists_min hJ)
   refine wp_mono (ih (hround _ s' hI) hr) fun e a' w' hpost => ?_
   obtain ⟨ex, s2, Im2, p2, he, hq, hr2⟩ := hpost
   cases e <;> simp only [exOf, Option.some.injEq, reduceCtorEq] at he
   ·subst he
    obtain ⟨k', s3, hlt, hw, hI'⟩ := hq
    obtain ⟨Im3, p3, hr3⟩ := hw E hE Im2 p2 a' w' hr2
    have hJ' : ∃ k, J k a' w' := ⟨k', s3, Im3, p3, hI', hr3⟩
    refine ⟨hJ', ?_⟩
    simp only [dif_pos hJ', dif_pos hJ]
    exact Nat.lt_of_le_of_lt ((Classical.choose_spec (exists_min hJ')).2 k' ⟨s3, Im3, p3, hI', hr3⟩) hlt
   ·subst he; exact ⟨_, s2, Im2, p2, rfl, hq, hr2⟩
   ·subst he; exact ⟨_, s2, Im2, p2, rfl, hq, hr2⟩
 | exit id => intro h hR; exact wp_exit ⟨_, s, Im, p, rfl, h, hR⟩
 | ret => intro h hR; exact wp_ret ⟨_, s, Im, p, rfl, h, hR⟩
 | weak hx ih =>
  intro h hR
  rw [vc] at h
  obtain ⟨s', hw, h⟩ := h
  obtain ⟨Im', p', hR'⟩ := hw E hE Im p a w hR
  exact ih h hR'
 | scope hx ih =>
  intro h hR
  refine wp_scope_straight (wp_mono (ih h hR) fun e a' w' hpost => ?_)
  obtain ⟨ex, s', Im', p', he, hq, hr⟩ := hpost
  cases e <;> simp only [exOf, Option.some.injEq, reduceCtorEq] at he <;> exact ⟨ex, s', Im', p', by subst he; rfl, hq, hr⟩
inductive RV where
 | tmp (t : Nat)
 | cell (t sz : Nat) (ag : Bool)
def compRes (P : Program) : List ResultVar → Option (List RV)
 | [] => some []
 | .tmp t :: rs =>
  match compRes P rs with
  | some l => some (.tmp t :: l)
  | Option.none => Option.none
 | .cell a t :: rs =>
  match P.info? t, P.underlying t, compRes P rs with
  | some i, some d, some l => if d.isRow = true ∨ i.size = 1 then some (.cell a i.size d.isRow :: l) else Option.none
  | _, _, _ => Option.none
def resD (s : St) : RV → Option (Prop × D)
 | .tmp t => some (True, s.F t)
 | .cell t sz ag =>
  match s.F t with
  | .ptr i g r c =>
   match s.H i with
   | some e => if e.g = g then some (r < e.rows.length ∧ c + sz ≤ (e.rows.getD r []).length, cellsAt (e.rows.getD r []) c sz ag) else Option.none
   | Option.none => Option.none
  | _ => Option.none
def resL (s : St) : List RV → Option (Prop × List D)
 | [] => some (True, [])
 | v :: vs =>
  match resD s v, resL s vs with
  | some (c, d), some (cs, ds) => some (c ∧ cs, d :: ds)
  | _, _ => Option.none
def packD : List D → D
 | [d] => d
 | ds => .tup ds
def resV (tmps : Array Value) : ResultVar → Sem Value
 | .tmp t => pure (tmps.getD t undef)
 | .cell a t => do loadVar t (← asAddr (tmps.getD a undef))
theorem results_eq (fn : Func) (tmps : Array Value) : results fn tmps = (do let vs ← fn.results.mapM (resV tmps); pure (if h : vs.size = 1 then vs[0] else .tuple vs)) := rfl
theorem resL_run {P : Program} {E : Ent} {Im : Nat → Prop} {p : Pl} {s : St} {a : Act} {w : World} (hR : RelS E Im p s a w) : ∀ (rs : List ResultVar) (rvs : List RV) (c : Prop) (ds : List D), compRes P rs = some rvs → resL s rvs = some (c, ds) → c →
  ∃ us : List Value, (rs.mapM (resV a.tmps)).run P w = .ok us w ∧ ds.length = us.length ∧ ∀ (j : Nat) (d : D) (u : Value), ds[j]? = some d → us[j]? = some u → Rel Im p s.H w.heap d u
 | [], rvs, c, ds, h1, h2, _ => by
  cases h1
  cases h2
  exact ⟨[], rfl, rfl, fun j d u hd => by cases hd⟩
 | r :: rs, rvs, c, ds, h1, h2, hc => by
  have fin : ∀ (rv : RV) (l : List RV), compRes P rs = some l → resL s (rv :: l) = some (c, ds) → (∀ c0 d0, resD s rv = some (c0, d0) → c0 → ∃ u, (resV a.tmps r).run P w = .ok u w ∧ Rel Im p s.H w.heap d0 u) →
    ∃ us : List Value, ((r :: rs).mapM (resV a.tmps)).run P w = .ok us w ∧ ds.length = us.length ∧ ∀ (j : Nat) (d : D) (u : Value), ds[j]? = some d → us[j]? = some u → Rel Im p s.H w.heap d u := fun rv l hl hres hone => by
   rw [resL] at hres
   split at hres
   ·rename_i c0 d0 cs ds' e1 e2
    cases hres
    obtain ⟨u, k1, k2⟩ := hone c0 d0 e1 hc.1
    obtain ⟨us, q1, q2, q3⟩ := resL_run hR rs l cs ds' hl e2 hc.2
    refine ⟨u :: us, ?_, by rw [List.length_cons, List.length_cons, q2], fun j d x hd hx => ?_⟩
    ·rw [List.mapM_cons]
     simp [k1, q1]
    ·cases j with
     | zero => cases hd; cases hx; exact k2
     | succ j => exact q3 j d x (by simpa using hd) (by simpa using hx)
   ·cases hres
  cases r with
  | tmp t =>
   rw [compRes] at h1
   split at h1
   ·rename_i l hl
    cases h1
    exact fin _ l hl h2 fun c0 d0 e _ => by
     cases e
     exact ⟨_, rfl, hR.fr t⟩
   ·cases h1
  | cell t ty =>
   rw [compRes] at h1
   split at h1
   ·rename_i i d l hi hd hl
    split at h1
    ·rename_i hsz
     cases h1
     refine fin _ l hl h2 fun c0 d0 e hc0 => ?_
     have heff : eff (0, 0) s.F s.H (.ld i.size d.isRow (.t t)) = some ⟨c0, (match s.F t with | .ptr i _ _ _ => [i] | _ => []), d0, Option.none⟩ := by
      unfold resD at e
      dsimp only at e
      simp only [eff, Opd.ev]
      split at e
      ·rename_i j g r0 c1 hF
       simp only [hF]
       split at e
       ·rename_i en hen
        simp only [hen]
        split at e
        ·rename_i hg
         cases e
         simp only [hg, if_true]
        ·cases e
       ·cases e
      ·cases e
     obtain ⟨u, ad, q0, q1, q2, q3⟩ := ld_direct (P := P) (OpdOk.t t) (by rw [hi]; rfl) hd rfl (fun hf => hsz.resolve_left (by rw [hf]; exact Bool.false_ne_true)) hR heff hc0
     refine ⟨u, ?_, q2⟩
     rw [q0] at q1
     have q0' : a.tmps.getD t undef = .pointer (some ad) := q0
     unfold resV
     simp only [q0', asAddr]
     exact q1
    ·cases h1
   ·cases h1
def lendT (H : Hp) : D → D
 | .tup cs => .tup (cs.map (lend H))
 | d => lend H d
def lendNmT (H : Hp) : D → List Nm
 | .tup cs => cs.flatMap (lendNm H)
 | d => lendNm H d
def lendOkT (H : Hp) : D → Prop
 | .tup cs => lendOkL' H cs
 | d => lendOk H d
theorem lendT_rel {Im Im' : Nat → Prop} {p : Pl} {H H' : Hp} {h : Array Obj} (R : RelH Im p H h) (G : Grows Im p H h Im' p H' h) {d : D} {u : Value} (r : Rel Im p H h d u) (ok : lendOkT H d) (hk : ∀ i ∈ lendNmT H d, ∀ e, H i = some e → e.rows ≠ [] → Im' (p i).1) : Rel Im' p H' h (lendT H d) u := by
 cases d with
 | tup cs =>
  cases r with
  | p r => cases r
  | tup _ us hl hr =>
   refine .tup _ us (by rw [List.length_map, hl]) fun j d u hd hu => ?_
   rw [List.getElem?_map] at hd
   cases hc : cs[j]? with
   | none => rw [hc] at hd; cases hd
   | some c =>
    rw [hc] at hd
    cases hd
    have hm := List.mem_of_getElem? hc
    exact lend_rel R G (hr j c u hc hu) (lendOkL'_mem ok c hm) fun i hi => hk i (List.mem_flatMap.2 ⟨c, hm, hi⟩)
 | agg => exact lend_rel R G r ok hk
 | own => exact lend_rel R G r ok hk
 | mt => exact lend_rel R G r ok hk
 | v => exact lend_rel R G r ok hk
 | any => exact lend_rel R G r ok hk
 | sl => exact lend_rel R G r ok hk
 | ip => exact lend_rel R G r ok hk
 | ptr => exact lend_rel R G r ok hk
 | clo => exact lend_rel R G r ok hk
def retB (js : List Nm) (R : D → Hp → Prop) (v' : D) (H1 : Hp) : Prop := v'.refsIn js = true ∧ ClosedH H1 js js ∧ R v' (H1.restr js)
def retA (js : List Nm) (kp : Bool) (R : D → Hp → Prop) (v : D) (H : Hp) : Prop :=
 if kp = true then retB js R v H else lendOkT H v ∧ retB js R (lendT H v) (H.kills (lendNmT H v))
def finQ (rvs : List RV) (js : List Nm) (kp : Bool) (R : D → Hp → Prop) : Ex → St → Prop
 | .exit _, _ => False
 | _, s =>
  match resL s rvs with
  | some (c, vs) => c ∧ retA js kp R (packD vs) s.H
  | Option.none => False
def argFrom (k : Nat) : List D → Fr
 | [] => fun _ => .v undef
 | d :: ds => fun t => if t = k then d else argFrom (k + 1) ds t
theorem argFrom_spec : ∀ (ds : List D) (k t : Nat), argFrom k ds t = if k ≤ t then ds.getD (t - k) (.v undef) else .v undef
 | [], k, t => by simp [argFrom]
 | d :: ds, k, t => by
  simp only [argFrom]
  by_cases h : t = k
  ·subst h; simp
  ·rw [if_neg h, argFrom_spec ds (k + 1) t]
   by_cases h1 : k + 1 ≤ t
   ·rw [if_pos h1, if_pos (by omega), show t - k = (t - (k + 1)) + 1 by omega, List.getD_cons_succ]
   ·rw [if_neg h1, if_neg (by omega)]
theorem RelE.restr {E : Ent} {Im : Nat → Prop} {p : Pl} {H : Hp} {w : World} (X : RelE E Im p H w) (js : List Nm) : RelE E Im p (H.restr js) w :=
 ⟨X.os, X.tape, X.output, X.size, X.block, X.im, X.im', fun i e hi hn => X.ids i e (restr_some hi).2 hn⟩
theorem RelE.num {E : Ent} {Im : Nat → Prop} {p : Pl} {H : Hp} {w : World} (X : RelE E Im p H w) (m : Nat) : RelE { E with n := m } Im p H w :=
 ⟨X.os, X.tape, X.output, X.size, X.block, X.im, X.im', X.ids⟩
theorem callsA_ofM {P : Program} {T : Tbl} (hT : TblOk P T) (hm : P.follows .mixedOrders = true) {N : Nat → Nm} {f : FuncId} {fn : Func} {code : Code} {c : C} {rvs : List RV} (hf : P.funcs[f]? = some fn) (hb : fn.body = some code) (hc : compC P fn.ntmps code = some c.strip) (hr : compRes P fn.results.toList = some rvs)
  {args : List D} {Hs : Hp} {nn : Nm} {R : D → Hp → Prop} (js : List Nm) (kp : Bool) (hjs1 : ∀ i e, Hs i = some e → i ∈ js) (hjs2 : ∀ i ∈ js, (Hs i).isSome = true ∨ i ∈ nms nn) (ha : args.length ≤ fn.ntmps) (h : vc T N js c (finQ rvs js kp R) ⟨argFrom 0 args, Hs⟩) : CallsA P f args Hs nn R := by
 intro w Im p us hl hrel hH hnn hgl
 refine calls_of_wp hf hb ?_
 have hR : RelS ⟨w, Im, BlkOf p Hs, fn.ntmps, p, Hs⟩ Im p ⟨argFrom 0 args, Hs⟩ { tmps := us ++ Array.replicate (fn.ntmps - us.size) undef, defers := [] } w := by
  refine ⟨by simp; omega, fun t => ?_, hH, ⟨rfl, rfl, rfl, Nat.le_refl _, fun _ _ _ => rfl, fun _ hb => hb, fun _ hb => .inl hb, fun i e hi hn => .inl ⟨i, e, hi, hn, rfl⟩⟩, Grows.refl _ _ _ _, rfl, hgl⟩
  dsimp only
  rw [argFrom_spec, if_pos (Nat.zero_le _), Nat.sub_zero, List.getD_eq_getElem?_getD, Array.getD_eq_getD_getElem?]
  by_cases ht : t < us.size
  ·rw [Array.getElem?_append_left ht, List.getElem?_eq_getElem (by omega), Array.getElem?_eq_getElem ht]
   exact hrel t _ _ (List.getElem?_eq_getElem (by omega)) (Array.getElem?_eq_getElem ht)
  ·rw [List.getElem?_eq_none (by omega), Array.getElem?_append_right (by omega)]
   have e : ((Array.replicate (fn.ntmps - us.size) undef)[t - us.size]?).getD undef = undef := by
    rw [Array.getElem?_replicate]
    split <;> rfl
   rw [e]
   exact .p (.v _)
 refine wp_mono (vc_sound hT hm (J := js) (E := ⟨w, Im, BlkOf p Hs, fn.ntmps, p, Hs⟩) hjs1 (codeRel_of hc) h hR) fun e a' w' hpost => ?_
 obtain ⟨x, s', Im', p', he, hq, hr'⟩ := hpost
 have fin : (match resL s' rvs with
  | some (c, vs) => c ∧ retA js kp R (packD vs) s'.H
  | Option.none => False) → a'.defers = [] ∧ ∃ v, (results fn a'.tmps).run P w' = .ok v w' ∧ ∃ Im2 p2 v2 H2 u, Left P Hs nn R Im p w (.returned v) w' Im2 p2 v2 H2 u := fun hfin => by
  refine ⟨hr'.df.1, ?_⟩
  split at hfin
  ·rename_i c0 ds hds
   obtain ⟨h1, h2⟩ := hfin
   obtain ⟨vs, k1, k2, k3⟩ := resL_run hr' _ _ _ _ hr hds h1
   have hpack : ∃ u, (results fn a'.tmps).run P w' = .ok u w' ∧ Rel Im' p' s'.H w'.heap (packD ds) u := by
    rw [results_eq]
    have e1 : (fn.results.mapM (resV a'.tmps)).run P w' = .ok vs.toArray w' := by
     rw [Array.mapM_eq_mapM_toList]
     simp [k1]
    simp only [Sem.run_bind, e1, Result.andThen_ok]
    match ds, vs, k2, k3 with
    | [], [], _, k3 => exact ⟨.tuple #[], rfl, .tup [] #[] rfl fun j d u hd => by cases hd⟩
    | [d], [u], _, k3 => exact ⟨u, rfl, k3 0 d u rfl rfl⟩
    | d1 :: d2 :: ds, u1 :: u2 :: us, hlen, k3 =>
     refine ⟨.tuple (u1 :: u2 :: us).toArray, ?_, .tup _ _ (by simpa using hlen) fun j d u hd hu => k3 j d u hd (by simpa using hu)⟩
     have : ¬ ((u1 :: u2 :: us).toArray.size = 1) := by simp
     rw [dif_neg this]
     rfl
   obtain ⟨u, e1, e2⟩ := hpack
   refine ⟨u, e1, ?_⟩
   have key : ∀ (Im2 : Nat → Prop) (v2 : D) (H1 : Hp), RelH Im2 p' H1 w'.heap → RelE ⟨w, Im, BlkOf p Hs, fn.ntmps, p, Hs⟩ Im2 p' H1 w' → Grows Im p Hs w.heap Im2 p' H1 w'.heap → Rel Im2 p' H1 w'.heap v2 u → retB js R v2 H1 → ∃ Im2 p2 v2 H2 u', Left P Hs nn R Im p w (.returned u) w' Im2 p2 v2 H2 u' := fun Im2 v2 H1 r1 x1 g1 rv hb => by
    obtain ⟨b1, b2, b3⟩ := hb
    refine ⟨Im2, p', v2, H1.restr js, u, rfl, b3, rv.restr b1, r1.restr b2, ⟨g1.im, g1.blk, fun i ei hi => ?_⟩, fun m => (x1.restr js).num m, fun i ei hi => hjs2 i (restr_some hi).1⟩
    rw [restr_in (hjs1 i ei hi)]
    exact g1.ids i ei hi
   unfold retA at h2
   split at h2
   ·exact key Im' _ _ hr'.hp hr'.en hr'.gr e2 h2
   ·obtain ⟨h3, h4⟩ := h2
    obtain ⟨Im2, g1, r1, x1, b1⟩ := kills_spec (w := w') (lendNmT s'.H (packD ds)) Im' s'.H hr'.hp hr'.en
    exact key Im2 _ _ r1 x1 (hr'.gr.trans g1) (lendT_rel hr'.hp g1 e2 h3 b1) h4
  ·exact hfin.elim
 cases e <;> simp only [exOf, Option.some.injEq, reduceCtorEq] at he
 ·subst he; exact fin hq
 ·subst he; exact hq.elim
 ·subst he; exact fin hq
theorem callsA_of {P : Program} {T : Tbl} (hT : TblOk P T) (hm : P.follows .mixedOrders = true) {N : Nat → Nm} {f : FuncId} {fn : Func} {code : Code} {c : C} {rvs : List RV} (hf : P.funcs[f]? = some fn) (hb : fn.body = some code) (hc : compC P fn.ntmps code = some c.strip) (hr : compRes P fn.results.toList = some rvs)
  {args : List D} {Hs : Hp} {nn : Nm} {R : D → Hp → Prop} (js : List Nm) (kp : Bool) (hjs1 : ∀ i e, Hs i = some e → i ∈ js) (hjs2 : ∀ i ∈ js, (Hs i).isSome = true ∨ i = nn) (ha : args.length ≤ fn.ntmps) (h : vc T N js c (finQ rvs js kp R) ⟨argFrom 0 args, Hs⟩) : CallsA P f args Hs nn R :=
 callsA_ofM hT hm hf hb hc hr js kp hjs1 (fun i hi => (hjs2 i hi).imp id fun e => by rw [e]; exact List.mem_cons_self ..) ha h
def fr : List (Nat × D) → Fr
 | [] => fun _ => .any
 | (k, d) :: l => fun t => if t = k then d else fr l t
def coverS (F : Fr) (H : Hp) (ks : List Nm) : List (Nat × D) → Prop
 | [] => True
 | (t, d) :: l => (F t = d ∨ (lend H (F t) = d ∧ lendOk H (F t) ∧ ∀ i ∈ lendNm H (F t), i ∈ ks)) ∧ coverS F H ks l
theorem coverS_at {F : Fr} {H : Hp} {ks : List Nm} : ∀ {l : List (Nat × D)}, coverS F H ks l → ∀ t, fr l t = .any ∨ F t = fr l t ∨ (lend H (F t) = fr l t ∧ lendOk H (F t) ∧ ∀ i ∈ lendNm H (F t), i ∈ ks)
 | [], _, t => .inl rfl
 | (k, d) :: l, h, t => by
  simp only [fr]
  by_cases ht : t = k
  ·subst ht
   rw [if_pos rfl]
   exact .inr h.1
  ·rw [if_neg ht]
   exact coverS_at h.2 t
def refsF (js : List Nm) : List (Nat × D) → Bool
 | [] => true
 | (_, d) :: l => d.refsIn js && refsF js l
theorem refsF_at {js : List Nm} : ∀ {l : List (Nat × D)}, refsF js l = true → ∀ t, (fr l t).refsIn js = true
 | [], _, t => by simp [fr, D.refsIn]
 | (k, d) :: l, h, t => by
  rw [refsF, Bool.and_eq_true] at h
  simp only [fr]
  split
  ·exact h.1
  ·exact refsF_at h.2 t
theorem weak_to {J : List Nm} {F : Fr} {H : Hp} (ks js : List Nm) (l : List (Nat × D)) (h1 : coverS F H ks l) (h2 : refsF js l = true) (h3 : ClosedH (H.kills ks) js js) (h4 : ∀ i ∈ J, i ∈ js) : Weak J ⟨F, H⟩ ⟨fr l, (H.kills ks).restr js⟩ := by
 intro E hE Im p a w hR
 obtain ⟨Im', g1, r1, x1, b1⟩ := kills_spec (E := E) (w := w) ks Im H hR.hp hR.en
 refine ⟨Im', p, hR.sz, fun t => ?_, r1.restr h3, x1.restr js, ?_, hR.df⟩
 ·refine Rel.restr ?_ (refsF_at h2 t)
  rcases coverS_at h1 t with h | h | ⟨h, ok, hk⟩
  ·dsimp only; rw [h]; exact .p (.any _)
  ·dsimp only; rw [← h]; exact (hR.fr t).mono g1
  ·dsimp only; rw [← h]; exact lend_rel hR.hp g1 (hR.fr t) ok fun i hi => b1 i (hk i hi)
 ·have G := hR.gr.trans g1
  refine ⟨G.im, G.blk, fun i e hi => ?_⟩
  dsimp only
  rw [restr_in (h4 i (hE i e hi))]
  exact G.ids i e hi
theorem weak_own {J : List Nm} {F : Fr} {H : Hp} (t : Nat) (i : Nm) (sz : Nat) (h : F t = .mt) (hi : H i = Option.none) : Weak J ⟨F, H⟩ ⟨putF F (some t) (.own i 0 0 0), H.put i ⟨0, sz, []⟩⟩ := by
 intro E hE Im p a w hR
 have T : Turn Im p H w.heap i ⟨0, 0, []⟩ ⟨0, sz, []⟩ (0, 0) w.heap := ⟨.inr ⟨hi, rfl⟩, .inl hi, fun _ _ _ => rfl, Nat.le_refl _, fun h => absurd rfl h, fun h => absurd rfl h⟩
 have G := T.grows hR.hp
 refine ⟨Im, p.put i (0, 0), hR.sz, fun k => ?_, T.relH hR.hp, T.relE hR.hp hR.en rfl rfl rfl, hR.gr.trans G, hR.df⟩
 dsimp only [putF]
 by_cases hk : k = t
 ·subst hk
  rw [if_pos rfl]
  have r := hR.fr k
  dsimp only at r
  rw [h] at r
  obtain ⟨ao, e⟩ := rel_mt r
  rw [e]
  exact .own i 0 0 0 _ 0 ⟨0, sz, []⟩ (Hp.put_same _ _ _) (Nat.le_refl _) (Nat.le_refl _) fun _ h => absurd h (Nat.lt_irrefl _)
 ·rw [if_neg hk]
  exact (hR.fr k).mono G
theorem putF_at (F : Fr) (t : Nat) (d : D) (x : Nat) : putF F (some t) d x = if x = t then d else F x := rfl
theorem putF_no (F : Fr) (d : D) : putF F Option.none d = F := rfl
theorem arg_at (k : Nat) (d : D) (ds : List D) (t : Nat) : argFrom k (d :: ds) t = if t = k then d else argFrom (k + 1) ds t := rfl
theorem arg_no (k t : Nat) : argFrom k [] t = .v undef := rfl
theorem fr_at (k : Nat) (d : D) (l : List (Nat × D)) (t : Nat) : fr ((k, d) :: l) t = if t = k then d else fr l t := rfl
theorem fr_no (t : Nat) : fr [] t = .any := rfl
theorem hput_at (H : Hp) (i : Nm) (e : En) (j : Nm) : H.put i e j = if j = i then some e else H j := rfl
theorem hno_at (j : Nm) : Hp.none j = Option.none := rfl
theorem hput_put (H : Hp) (i : Nm) (e e' : En) : (H.put i e).put i e' = H.put i e' := by
 funext j
 simp only [Hp.put]
 split <;> rfl
section
variable (T : Tbl) (N : Nat → Nm) (J : List Nm) (Q : Ex → St → Prop) (s : St)
def KL (K : St → Prop) (os : List COp) : List Nm → List Nm → St → Prop := fun _ _ s' => runL T N K os s'
def KD (K : St → Prop) (os : List COp) (k : Nat) (l : Past) (after : List Nat) : List Nm → List Nm → St → Prop := fun rs ws s' => chk after rs ws l = true ∧ runD T N K os (k + 1) (past k rs ws l) s'
theorem KL_at (K : St → Prop) (os : List COp) (rs ws : List Nm) : KL T N K os rs ws s = runL T N K os s := rfl
theorem KD_at (K : St → Prop) (os : List COp) (k : Nat) (l : Past) (after : List Nat) (rs ws : List Nm) : KD T N K os k l after rs ws s = (chk after rs ws l = true ∧ runD T N K os (k + 1) (past k rs ws l) s) := rfl
theorem runL_n (K : St → Prop) : runL T N K [] s = K s := rfl
theorem runL_c (K : St → Prop) (o : COp) (os : List COp) : runL T N K (o :: os) s = run1 T N o s (KL T N K os) := rfl
theorem runF_n (K : St → Prop) : runF T N K [] s = K s := rfl
def KF (T : Tbl) (N : Nat → Nm) (K : St → Prop) (os : List (Bool × COp)) : List Nm → List Nm → St → Prop := fun _ _ s' => runF T N K os s'
theorem KF_at (K : St → Prop) (os : List (Bool × COp)) (rs ws : List Nm) : KF T N K os rs ws s = runF T N K os s := rfl
theorem runF_f (K : St → Prop) (o : COp) (os : List (Bool × COp)) : runF T N K ((false, o) :: os) s = run1 T N o s (KF T N K os) := by rw [runF, runG_f]; rfl
theorem runF_t (K' : St → Prop) (dst : Option Nat) (g : Option (Nat × Bool)) (kk : K) (nm : Nat) (after : List Nat) (b : Bool) (os : List (Bool × COp)) : runF T N K' ((true, ⟨dst, g, kk, nm, after, b⟩) :: os) s = sGQ T (KF T N K' os) s.F s.H dst (N nm) kk (guardD s.F g) := by rw [runF, runG_t]; rfl
theorem runKC_n (nn : Nm) (dst : Option Nat) (F : Fr) (H : Hp) (Q : St → Prop) (sz bytes : Nat) (x y : Opd) : runKC T nn dst F H (.app sz bytes x y) Q Option.none = runKD nn dst F H Q sz bytes (rowsOf H (y.ev F)) (x.ev F) := rfl
theorem runKD_s (nn : Nm) (dst : Option Nat) (F : Fr) (H : Hp) (Q : St → Prop) (sz bytes : Nat) (ys : List Nm) (l : List (List D)) (i : Nm) (g n : Nat) : runKD nn dst F H Q sz bytes (some (ys, l)) (.own i g 0 n) = (nmIn i ys = false ∧ runKB nn dst F H Q sz bytes l i g n (H i)) := rfl
theorem runKB_s (nn : Nm) (dst : Option Nat) (F : Fr) (H : Hp) (Q : St → Prop) (sz bytes : Nat) (l : List (List D)) (i : Nm) (g n : Nat) (e : En) : runKB nn dst F H Q sz bytes l i g n (some e) = ((e.g = g ∧ e.sz = sz ∧ n ≤ e.rows.length ∧ (n = 0 → e.rows = [])) ∧ H nn = Option.none ∧ (∀ r ∈ l, r.length = sz) ∧ (n + l.length) * bytes ≤ 140737488355328 ∧ n + l.length ≤ 4611686018427387904 ∧ ((e.rows = [] ∧ l ≠ []) ∨ Q ⟨putF F dst (.own i g 0 (n + l.length)), H.put i ⟨g, sz, e.rows.take n ++ l⟩⟩) ∧ Q ⟨putF F dst (.own nn 0 0 (n + l.length)), (H.put i ⟨g, sz, e.rows.take n⟩).put nn ⟨0, sz, e.rows.take n ++ l⟩⟩) := rfl
theorem runKC_s (nn : Nm) (dst : Option Nat) (F : Fr) (H : Hp) (k : K) (Q : St → Prop) (f : FuncId) (args : List D) : runKC T nn dst F H k Q (some (f, args)) = (lendOkL' H args ∧ refsInL [] (args.map (lend H)) = true ∧ (H nn = Option.none ∧ H (nn.1, nn.2 + 5000) = Option.none ∧ H (nn.1, nn.2 + 6000) = Option.none) ∧ runKT nn dst F H Q (T f (args.map (lend H)) Hp.none nn)) := rfl
theorem runKT_s (nn : Nm) (dst : Option Nat) (F : Fr) (H : Hp) (Q : St → Prop) (pre : Prop) (R : D → Hp → Prop) : runKT nn dst F H Q (some (pre, R)) = (pre ∧ ∀ v H', R v H' → (v.oflat = true ∧ flatAt H' nn ∧ flatAt H' (nn.1, nn.2 + 5000) ∧ flatAt H' (nn.1, nn.2 + 6000)) ∧ Q ⟨putF F dst v, H.over H' (nn :: (nn.1, nn.2 + 5000) :: [(nn.1, nn.2 + 6000)])⟩) := rfl
def KG (T : Tbl) (N : Nat → Nm) (K : St → Prop) (os : List GOp) (k : Nat) (l : Past) (after : List Nat) : List Nm → List Nm → St → Prop := fun rs ws s' => chk after rs ws l = true ∧ runDG T N K os (k + 1) (past k rs ws l) s'
theorem KG_at (K : St → Prop) (os : List GOp) (k : Nat) (l : Past) (after : List Nat) (rs ws : List Nm) : KG T N K os k l after rs ws s = (chk after rs ws l = true ∧ runDG T N K os (k + 1) (past k rs ws l) s) := rfl
theorem runDG_n (K : St → Prop) (k : Nat) (l : Past) : runDG T N K [] k l s = K s := rfl
theorem runDG_f (K : St → Prop) (o : COp) (os : List GOp) (k : Nat) (l : Past) : runDG T N K ((false, o) :: os) k l s = run1 T N o s (KG T N K os k l o.after) := by rw [runDG, runG_f]; rfl
theorem runDG_t (K' : St → Prop) (dst : Option Nat) (g : Option (Nat × Bool)) (kk : K) (nm : Nat) (after : List Nat) (b : Bool) (os : List GOp) (k : Nat) (l : Past) : runDG T N K' ((true, ⟨dst, g, kk, nm, after, b⟩) :: os) k l s = sGQ T (KG T N K' os k l after) s.F s.H dst (N nm) kk (guardD s.F g) := by rw [runDG, runG_t]; rfl
theorem sGQ_s (Q' : List Nm → List Nm → St → Prop) (F : Fr) (H : Hp) (dst : Option Nat) (nn : Nm) (k : K) (w : Bool) : sGQ T Q' F H dst nn k (some w) = if w = true then runKCQ T nn dst F H k Q' (callee F k) else Q' [] [] ⟨putF F dst (.v undef), H⟩ := rfl
theorem runKCQ_n (nn : Nm) (dst : Option Nat) (F : Fr) (H : Hp) (Q' : List Nm → List Nm → St → Prop) (sz bytes : Nat) (x y : Opd) : runKCQ T nn dst F H (.app sz bytes x y) Q' Option.none = runKDQ nn dst F H Q' sz bytes (rowsOf H (y.ev F)) (x.ev F) := rfl
theorem runKCQ_s (nn : Nm) (dst : Option Nat) (F : Fr) (H : Hp) (k : K) (Q' : List Nm → List Nm → St → Prop) (f : FuncId) (args : List D) : runKCQ T nn dst F H k Q' (some (f, args)) = (lendOkL' H args ∧ refsInL [] (args.map (lend H)) = true ∧ (H nn = Option.none ∧ H (nn.1, nn.2 + 5000) = Option.none ∧ H (nn.1, nn.2 + 6000) = Option.none) ∧ runKT nn dst F H (Q' (nmsL args) (nn :: (nn.1, nn.2 + 5000) :: [(nn.1, nn.2 + 6000)])) (T f (args.map (lend H)) Hp.none nn)) := rfl
theorem runD_n (K : St → Prop) (k : Nat) (l : Past) : runD T N K [] k l s = K s := rfl
theorem runD_c (K : St → Prop) (o : COp) (os : List COp) (k : Nat) (l : Past) : runD T N K (o :: os) k l s = run1 T N o s (KD T N K os k l o.after) := rfl
def sO (Q' : List Nm → List Nm → St → Prop) (F : Fr) (dst : Option Nat) (H : Hp) : Option Out → Prop
 | Option.none => False
 | some out => out.cond ∧ Q' out.rs (wid out.ws) ⟨putF F dst out.v, H.puto out.ws⟩
def sC (T : Tbl) (Q' : List Nm → List Nm → St → Prop) (F : Fr) (H : Hp) (dst : Option Nat) (nn : Nm) (k : K) (b : Bool) : Option (FuncId × List D) → Prop
 | some (f, args) => callRun T nn dst F b H f args Q'
 | Option.none => sO Q' F dst H (eff nn F H k)
def sG (T : Tbl) (Q' : List Nm → List Nm → St → Prop) (F : Fr) (H : Hp) (dst : Option Nat) (nn : Nm) (k : K) (b : Bool) : Option Bool → Prop
 | Option.none => False
 | some w => if w = true then sC T Q' F H dst nn k b (callee F k) else Q' [] [] ⟨putF F dst (.v undef), H⟩
def sT (nn : Nm) (dst : Option Nat) (F : Fr) (b : Bool) (H H1 : Hp) (ns ks js : List Nm) (Q' : List Nm → List Nm → St → Prop) : Option (Prop × (D → Hp → Prop)) → Prop
 | Option.none => False
 | some (pre, R) => pre ∧ if (b && js.isEmpty) = true then (∀ v H', R v H' → v.flat = true ∧ Q' ns (nn :: (nn.1, nn.2 + 5000) :: [(nn.1, nn.2 + 6000)]) ⟨putF F dst v, H⟩) else ∀ v H', R v H' → Q' ns (ks ++ nn :: (nn.1, nn.2 + 5000) :: (nn.1, nn.2 + 6000) :: js) ⟨putF F dst v, H1.over H' (nn :: (nn.1, nn.2 + 5000) :: (nn.1, nn.2 + 6000) :: js)⟩
def sB (T : Tbl) (N : Nat → Nm) (J : List Nm) (a b : C) (Q : Ex → St → Prop) (s : St) : D → Prop
 | .v (.bool c) => if c = true then vc T N J a Q s else vc T N J b Q s
 | _ => False
theorem sO_s (Q' : List Nm → List Nm → St → Prop) (F : Fr) (dst : Option Nat) (H : Hp) (c : Prop) (rs : List Nm) (v : D) (ws : Option (Nm × En)) : sO Q' F dst H (some ⟨c, rs, v, ws⟩) = (c ∧ Q' rs (wid ws) ⟨putF F dst v, H.puto ws⟩) := rfl
theorem sC_s (Q' : List Nm → List Nm → St → Prop) (F : Fr) (H : Hp) (dst : Option Nat) (nn : Nm) (k : K) (b : Bool) (f : FuncId) (args : List D) : sC T Q' F H dst nn k b (some (f, args)) = callRun T nn dst F b H f args Q' := rfl
theorem sC_n (Q' : List Nm → List Nm → St → Prop) (F : Fr) (H : Hp) (dst : Option Nat) (nn : Nm) (k : K) (b : Bool) : sC T Q' F H dst nn k b Option.none = sO Q' F dst H (eff nn F H k) := rfl
theorem sG_s (Q' : List Nm → List Nm → St → Prop) (F : Fr) (H : Hp) (dst : Option Nat) (nn : Nm) (k : K) (b : Bool) (w : Bool) : sG T Q' F H dst nn k b (some w) = if w = true then sC T Q' F H dst nn k b (callee F k) else Q' [] [] ⟨putF F dst (.v undef), H⟩ := rfl
theorem sT_s (nn : Nm) (dst : Option Nat) (F : Fr) (b : Bool) (H H1 : Hp) (ns ks js : List Nm) (Q' : List Nm → List Nm → St → Prop) (pre : Prop) (R : D → Hp → Prop) : sT nn dst F b H H1 ns ks js Q' (some (pre, R)) = (pre ∧ if (b && js.isEmpty) = true then (∀ v H', R v H' → v.flat = true ∧ Q' ns (nn :: (nn.1, nn.2 + 5000) :: [(nn.1, nn.2 + 6000)]) ⟨putF F dst v, H⟩) else ∀ v H', R v H' → Q' ns (ks ++ nn :: (nn.1, nn.2 + 5000) :: (nn.1, nn.2 + 6000) :: js) ⟨putF F dst v, H1.over H' (nn :: (nn.1, nn.2 + 5000) :: (nn.1, nn.2 + 6000) :: js)⟩) := rfl
theorem sB_v (a b : C) (c : Bool) : sB T N J a b Q s (.v (.bool c)) = if c = true then vc T N J a Q s else vc T N J b Q s := rfl
theorem run1_at (F : Fr) (H : Hp) (dst : Option Nat) (g : Option (Nat × Bool)) (k : K) (nm : Nat) (after : List Nat) (b : Bool) (Q' : List Nm → List Nm → St → Prop) : run1 T N ⟨dst, g, k, nm, after, b⟩ ⟨F, H⟩ Q' = sG T Q' F H dst (N nm) k b (guardD F g) := by
 unfold run1
 dsimp only
 cases guardD F g with
 | none => rfl
 | some w =>
  dsimp only [sG]
  cases callee F k with
  | none =>
   dsimp only [sC]
   cases eff (N nm) F H k <;> rfl
  | some q => rfl
theorem callRun3_at (nn : Nm) (dst : Option Nat) (F : Fr) (f : FuncId) (b : Bool) (H H1 : Hp) (ns ks : List Nm) (args' : List D) (js : List Nm) (Q' : List Nm → List Nm → St → Prop) : callRun3 T nn dst F f b H H1 ns ks args' js Q' = (refsInL js args' = true ∧ ClosedH H1 js js ∧ (H1 nn = Option.none ∧ H1 (nn.1, nn.2 + 5000) = Option.none ∧ H1 (nn.1, nn.2 + 6000) = Option.none) ∧ sT nn dst F b H H1 ns ks js Q' (T f args' (H1.restr js) nn)) := by
 have e : (∀ k ∈ nms nn, H1 k = Option.none) = (H1 nn = Option.none ∧ H1 (nn.1, nn.2 + 5000) = Option.none ∧ H1 (nn.1, nn.2 + 6000) = Option.none) := by simp [nms]
 unfold callRun3
 rw [e]
 cases T f args' (H1.restr js) nn <;> rfl
theorem vc_skip : vc T N J .skip Q s = Q .nrm s := rfl
theorem vc_opsD (l : List COp) : vc T N J (.ops true l) Q s = runD T N (Q .nrm) l 0 [] s := by rw [vc, if_pos rfl]
theorem vc_opsL (l : List COp) : vc T N J (.ops false l) Q s = runL T N (Q .nrm) l s := by rw [vc, if_neg (by simp)]
theorem vc_opsF (l : List (Bool × COp)) : vc T N J (.opsF false l) Q s = runF T N (Q .nrm) l s := by rw [vc, if_neg (by simp)]
theorem vc_opsG (l : List (Bool × COp)) : vc T N J (.opsF true l) Q s = runDG T N (Q .nrm) l 0 [] s := by rw [vc, if_pos rfl]
theorem vc_seq (a b : C) : vc T N J (.seq a b) Q s = vc T N J a (thenQ (vc T N J b Q) Q) s := rfl
theorem vc_cond (x : Opd) (a b : C) : vc T N J (.cond x a b) Q s = sB T N J a b Q s (x.ev s.F) := by
 unfold vc sB
 cases x.ev s.F <;> first | rfl | (rename_i v; cases v <;> rfl)
theorem vc_block (id : Nat) (a : C) : vc T N J (.block id a) Q s = vc T N J a (blockQ id Q) s := rfl
theorem vc_exit (id : Nat) : vc T N J (.exit id) Q s = Q (.exit id) s := rfl
theorem vc_ret : vc T N J .ret Q s = Q .ret s := rfl
theorem vc_loop (a : C) : vc T N J (.loop a) Q s = ∃ I : Nat → St → Prop, (∃ k s', Weak J s s' ∧ I k s') ∧ ∀ k s', I k s' → vc T N J a (loopQ J I k Q) s' := rfl
end
theorem vc_wk {T : Tbl} {N : Nat → Nm} {J : List Nm} {a : C} {Q : Ex → St → Prop} {s s' : St} (h : Weak J s s') (k : vc T N J a Q s') : vc T N J (.weak a) Q s := ⟨s', h, k⟩
theorem thenQ_n (n : St → Prop) (Q : Ex → St → Prop) (s : St) : thenQ n Q .nrm s = n s := rfl
theorem thenQ_e (n : St → Prop) (Q : Ex → St → Prop) (id : Nat) (s : St) : thenQ n Q (.exit id) s = Q (.exit id) s := rfl
theorem thenQ_r (n : St → Prop) (Q : Ex → St → Prop) (s : St) : thenQ n Q .ret s = Q .ret s := rfl
theorem blockQ_n (id : Nat) (Q : Ex → St → Prop) (s : St) : blockQ id Q .nrm s = Q .nrm s := rfl
theorem blockQ_e (id : Nat) (Q : Ex → St → Prop) (k : Nat) (s : St) : blockQ id Q (.exit k) s = if k = id then Q .nrm s else Q (.exit k) s := rfl
theorem blockQ_r (id : Nat) (Q : Ex → St → Prop) (s : St) : blockQ id Q .ret s = Q .ret s := rfl
theorem loopQ_n (J : List Nm) (I : Nat → St → Prop) (k : Nat) (Q : Ex → St → Prop) (s : St) : loopQ J I k Q .nrm s = ∃ k' s', k' < k ∧ Weak J s s' ∧ I k' s' := rfl
theorem loopQ_e (J : List Nm) (I : Nat → St → Prop) (k : Nat) (Q : Ex → St → Prop) (id : Nat) (s : St) : loopQ J I k Q (.exit id) s = Q (.exit id) s := rfl
theorem loopQ_r (J : List Nm) (I : Nat → St → Prop) (k : Nat) (Q : Ex → St → Prop) (s : St) : loopQ J I k Q .ret s = Q .ret s := rfl
theorem finQ_n (rvs : List RV) (js : List Nm) (kp : Bool) (R : D → Hp → Prop) (s : St) : finQ rvs js kp R .nrm s = match resL s rvs with
  | some (c, vs) => c ∧ retA js kp R (packD vs) s.H
  | Option.none => False := rfl
theorem finQ_r (rvs : List RV) (js : List Nm) (kp : Bool) (R : D → Hp → Prop) (s : St) : finQ rvs js kp R .ret s = match resL s rvs with
  | some (c, vs) => c ∧ retA js kp R (packD vs) s.H
  | Option.none => False := rfl
theorem ite_vb (c : Prop) [Decidable c] (a b : Bool) : (if c then D.v (.bool a) else D.v (.bool b)) = .v (.bool (if c then a else b)) := by split <;> rfl
theorem plain_v (x : Value) : (D.v x).plain = true := rfl
theorem plain_any : D.any.plain = true := rfl
theorem plain_sl (l : List (List D)) : (D.sl l).plain = true := rfl
theorem plain_mt : D.mt.plain = true := rfl
theorem take_map {α β : Type} (f : α → β) (l : List α) : (l.map f).take l.length = l.map f := List.take_of_length_le (by simp)
theorem take_mapS {α β : Type} (f : α → β) (l : List α) (x : β) : (l.map f ++ [x]).take (l.length + 1) = l.map f ++ [x] := List.take_of_length_le (by simp)
theorem natc0 : ((0 : Nat) : Int) = 0 := rfl
theorem natc1 : ((1 : Nat) : Int) = 1 := rfl
theorem natc2 : ((2 : Nat) : Int) = 2 := rfl
theorem natc3 : ((3 : Nat) : Int) = 3 := rfl
theorem natc4 : ((4 : Nat) : Int) = 4 := rfl
theorem natc5 : ((5 : Nat) : Int) = 5 := rfl
theorem natc6 : ((6 : Nat) : Int) = 6 := rfl
theorem natc7 : ((7 : Nat) : Int) = 7 := rfl
def tc (f : FuncId) (r : List D → Hp → Nm → Option (Prop × (D → Hp → Prop))) (T : Tbl) : Tbl := fun f' args Hs nn => if f' = f then r args Hs nn else T f' args Hs nn
def T0 : Tbl := fun _ _ _ _ => Option.none
theorem tc_at (f : FuncId) (r : List D → Hp → Nm → Option (Prop × (D → Hp → Prop))) (T : Tbl) (f' : FuncId) (args : List D) (Hs : Hp) (nn : Nm) : tc f r T f' args Hs nn = if f' = f then r args Hs nn else T f' args Hs nn := rfl
def rowR (P : Program) (f : FuncId) (R : List D → Hp → Nm → D → Hp → Prop) : List D → Hp → Nm → Option (Prop × (D → Hp → Prop)) :=
 fun args Hs nn => some ((∃ v H', R args Hs nn v H') ∧ CallsA P f args Hs nn (R args Hs nn), R args Hs nn)
theorem rowR_at (P : Program) (f : FuncId) (R : List D → Hp → Nm → D → Hp → Prop) (args : List D) (Hs : Hp) (nn : Nm) : rowR P f R args Hs nn = some ((∃ v H', R args Hs nn v H') ∧ CallsA P f args Hs nn (R args Hs nn), R args Hs nn) := rfl
theorem T0_ok (P : Program) : TblOk P T0 := fun f args Hs nn pre R h => by cases h
def Pu (d : D) (Hs : Hp) : D → Hp → Prop := fun v H' => v = d ∧ H' = Hs
theorem Pu_ex (d : D) (Hs : Hp) : (∃ v H', Pu d Hs v H') = True := eq_true ⟨d, Hs, rfl, rfl⟩
theorem Pu_all (d : D) (Hs : Hp) (K : D → Hp → Prop) : (∀ v H', Pu d Hs v H' → K v H') = K d Hs := propext ⟨fun h => h d Hs ⟨rfl, rfl⟩, fun h v H' ⟨e1, e2⟩ => by rw [e1, e2]; exact h⟩
abbrev di (n : Int) : D := .v (.int .i64 n)
abbrev db (b : Bool) : D := .v (.bool b)
abbrev ds (s : ByteArray) : D := .v (.string s)
theorem wrap_i {n : Int} (h : -9223372036854775808 ≤ n ∧ n ≤ 9223372036854775807) : IntKind.i64.wrap n = n := IntWalk.i64_in _ (by omega)
theorem js_one {i : Nm} {e : En} : ∀ j x, (Hp.none.put i e) j = some x → j ∈ [i] := fun j x h => by
 rw [hput_at] at h
 split at h
 ·rename_i hj; simp [hj]
 ·cases h
theorem js_one' {i : Nm} {e : En} {nn : Nm} : ∀ j ∈ [i], ((Hp.none.put i e) j).isSome = true ∨ j = nn := fun j h => by
 obtain rfl := List.mem_singleton.1 h
 rw [hput_at, if_pos rfl]
 exact .inl rfl
theorem js_nil : ∀ (j : Nm) (x : En), Hp.none j = some x → j ∈ ([] : List Nm) := fun j x h => by cases h
theorem js_nil' {nn : Nm} : ∀ j ∈ ([] : List Nm), (Hp.none j).isSome = true ∨ j = nn := fun j h => by cases h
def oP (n : Nat) (k : K) : COp := ⟨some n, Option.none, k, n, [], false⟩
def oM (n k : Nat) : COp := ⟨some n, Option.none, .mv (.t k), n, [], false⟩
theorem oM_at (n k : Nat) : oM n k = ⟨some n, Option.none, .mv (.t k), n, [], false⟩ := rfl
def oB (n : Nat) (k : K) : COp := ⟨some n, Option.none, k, n, [], true⟩
def oG (n t : Nat) (b : Bool) (k : K) : COp := ⟨some n, some (t, b), k, n, [], false⟩
def oH (n t : Nat) (b : Bool) (k : K) (l : List Nat) : COp := ⟨some n, some (t, b), k, n, l, false⟩
def oD (n t : Nat) (b : Bool) (k : K) (l : List Nat) : COp := ⟨some n, some (t, b), k, n, l, true⟩
def oE (n : Nat) (k : K) (l : List Nat) : COp := ⟨some n, Option.none, k, n, l, true⟩
def oT (k : K) (l : List Nat) : COp := ⟨Option.none, Option.none, k, 0, l, false⟩
def oA (n : Nat) (k : K) (l : List Nat) : COp := ⟨some n, Option.none, k, n, l, false⟩
def oS (k : K) : COp := ⟨Option.none, Option.none, k, 0, [], false⟩
def cI (n : Int) : Opd := .c (.v (.int .i64 n))
def cB (b : Bool) : Opd := .c (.v (.bool b))
theorem oP_at (n : Nat) (k : K) : oP n k = ⟨some n, Option.none, k, n, [], false⟩ := rfl
theorem oB_at (n : Nat) (k : K) : oB n k = ⟨some n, Option.none, k, n, [], true⟩ := rfl
theorem oG_at (n t : Nat) (b : Bool) (k : K) : oG n t b k = ⟨some n, some (t, b), k, n, [], false⟩ := rfl
theorem oH_at (n t : Nat) (b : Bool) (k : K) (l : List Nat) : oH n t b k l = ⟨some n, some (t, b), k, n, l, false⟩ := rfl
theorem oD_at (n t : Nat) (b : Bool) (k : K) (l : List Nat) : oD n t b k l = ⟨some n, some (t, b), k, n, l, true⟩ := rfl
theorem oE_at (n : Nat) (k : K) (l : List Nat) : oE n k l = ⟨some n, Option.none, k, n, l, true⟩ := rfl
theorem oT_at (k : K) (l : List Nat) : oT k l = ⟨Option.none, Option.none, k, 0, l, false⟩ := rfl
theorem oA_at (n : Nat) (k : K) (l : List Nat) : oA n k l = ⟨some n, Option.none, k, n, l, false⟩ := rfl
theorem oS_at (k : K) : oS k = ⟨Option.none, Option.none, k, 0, [], false⟩ := rfl
theorem cI_at (n : Int) : cI n = .c (.v (.int .i64 n)) := rfl
theorem cB_at (b : Bool) : cB b = .c (.v (.bool b)) := rfl
theorem ba_loop (bs : ByteArray) : ∀ (n i : Nat) (r : List UInt8), bs.size - i = n → ByteArray.toList.loop bs i r = r.reverse ++ bs.data.toList.drop i
 | 0, i, r, h => by
  rw [ByteArray.toList.loop, if_neg (by omega), List.drop_of_length_le (by
                                                                           have : bs.data.toList.length = bs.size := by simp
                                                                           omega)]
  simp
 | n + 1, i, r, h => by
  have hi : i < bs.size := by omega
  have hl : i < bs.data.toList.length := by simpa using hi
  rw [ByteArray.toList.loop, if_pos hi, ba_loop bs n (i + 1) _ (by omega), List.drop_eq_getElem_cons hl]
  have : bs.get! i = bs.data.toList[i] := by
   show bs.data[i]! = _
   rw [getElem!_pos bs.data i (by simpa using hi)]
   simp
  rw [this]
  simp
theorem ba_toList (x : ByteArray) : x.toList = x.data.toList := by
 unfold ByteArray.toList
 rw [ba_loop x _ 0 [] rfl]
 simp
theorem ba_eq {x y : ByteArray} : (x.toList == y.toList) = decide (x.data.toList = y.data.toList) := by
 rw [ba_toList, ba_toList]
 by_cases h : x.data.toList = y.data.toList
 ·rw [h]; simp
 ·rw [decide_eq_false h]; exact beq_false_of_ne h
end Go.Proofs.Ytadjhfjiimgddaa
