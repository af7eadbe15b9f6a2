
/- Regions over abstract data: one walk in the text's order serves every order. -/
import Derived.Test.YtiaenojpbiahgaaVk
namespace Go.Proofs.Ytiaenojpbiahgaa
open Go
set_option linter.unusedVariables false
set_option linter.unusedSimpArgs false

/-- A compiled operation. -/
structure COp where
  dst : Option Nat
  g : Option (Nat × Bool)
  k : K
  nm : Nat
  after : List Nat
  b : Bool
/-- Contracts: of a call of f with such data: what it asks, what it leaves. -/
abbrev Tbl := FuncId → List D → Hp → Nm → Option (Prop × (D → Hp → Prop))
def fnOk (P : Program) (f : FuncId) : Bool :=
  match P.funcs[f]? with
  | some fn => fn.name != "runtime.NumGoroutine" && fn.body.isSome
  | Option.none => false
def TblOk (P : Program) (T : Tbl) : Prop := ∀ f args Hs nn pre R, T f args Hs nn = some (pre, R) → fnOk P f = true ∧ (pre → (∃ v H', R v H') ∧ CallsA P f args Hs nn R)
def putF (F : Fr) (dst : Option Nat) (d : D) : Fr :=
  match dst with
  | some t => fun x => if x = t then d else F x
  | Option.none => F
def guardD (F : Fr) : Option (Nat × Bool) → Option Bool
  | Option.none => some true
  | some (t, b) =>
    match F t with
    | .v (.bool c) => some (c == b)
    | .v (.tuple _) => some false
    | _ => Option.none
mutual
def D.nms : D → List Nm
  | .own i _ _ _ => [i]
  | .ptr i _ _ _ => [i]
  | .agg cs => nmsL cs
  | .tup cs => nmsL cs
  | .clo _ fs cs => nmsL fs ++ nmsL cs
  | .v _ => []
  | .any => []
  | .sl _ => []
  | .mt => []
  | .ip _ => []
def nmsL : List D → List Nm
  | [] => []
  | d :: ds => d.nms ++ nmsL ds
end
def addNm (js : List Nm) : List Nm → List Nm
  | [] => js
  | i :: is => if nmIn i js = true then addNm js is else addNm (js ++ [i]) is
def cellNms (H : Hp) : List Nm → List Nm
  | [] => []
  | i :: is => (match H i with
    | some e => (match e.rows with
      | [row] => nmsL row
      | _ => [])
    | Option.none => []) ++ cellNms H is
/-- The names that are reached from data. -/
def reach (H : Hp) (ds : List D) : List Nm := addNm (addNm [] (nmsL ds)) (cellNms H (nmsL ds))
def wid : Option (Nm × En) → List Nm
  | some (i, _) => [i]
  | Option.none => []
def callRun3 (T : Tbl) (nn : Nm) (dst : Option Nat) (F : Fr) (f : FuncId) (b : Bool) (H H1 : Hp) (ns ks : List Nm) (args' : List D) (js : List Nm) (Q : List Nm → List Nm → St → Prop) : Prop :=
  refsInL js args' = true ∧ ClosedH H1 js js ∧ H1 nn = Option.none ∧
    match T f args' (H1.restr js) nn with
    | Option.none => False
    | some (pre, R) => pre ∧ if (b && js.isEmpty) = true then (∀ v H', R v H' → v.flat = true ∧ Q ns [nn] ⟨putF F dst v, H⟩) else ∀ v H', R v H' → Q ns (ks ++ nn :: js) ⟨putF F dst v, H1.over H' (nn :: js)⟩
def callRun2 (T : Tbl) (nn : Nm) (dst : Option Nat) (F : Fr) (f : FuncId) (b : Bool) (H H1 : Hp) (ns ks : List Nm) (args' : List D) (Q : List Nm → List Nm → St → Prop) : Prop := callRun3 T nn dst F f b H H1 ns ks args' (reach H1 args') Q
def callRun1 (T : Tbl) (nn : Nm) (dst : Option Nat) (F : Fr) (f : FuncId) (b : Bool) (H : Hp) (ns ks : List Nm) (args' : List D) (Q : List Nm → List Nm → St → Prop) : Prop := callRun2 T nn dst F f b H (H.kills ks) ns ks args' Q
/-- A call. -/
def callRun (T : Tbl) (nn : Nm) (dst : Option Nat) (F : Fr) (b : Bool) (H : Hp) (f : FuncId) (args : List D) (Q : List Nm → List Nm → St → Prop) : Prop :=
  lendOkL' H args ∧ callRun1 T nn dst F f b H (nmsL args) (args.flatMap (lendNm H)) (args.map (lend H)) Q
/-- One operation. -/
def run1 (T : Tbl) (N : Nat → Nm) (o : COp) (s : St) (Q : List Nm → List Nm → St → Prop) : Prop :=
  match guardD s.F o.g with
  | Option.none => False
  | some w =>
    if w = true then
      match callee s.F o.k with
      | some (f, args) => callRun T (N o.nm) o.dst s.F o.b s.H f args Q
      | Option.none =>
        match eff (N o.nm) s.F s.H o.k with
        | Option.none => False
        | some out => out.cond ∧ Q out.rs (wid out.ws) ⟨putF s.F o.dst out.v, s.H.puto out.ws⟩
    else Q [] [] ⟨putF s.F o.dst (.v undef), s.H⟩

/-- The temporaries that an operation looks at. -/
def Opd.ts : Opd → List Nat
  | .t n => [n]
  | .c _ => []
def optTs : Option Opd → List Nat
  | some x => x.ts
  | Option.none => []
def K.ts : K → List Nat
  | .mv x => x.ts
  | .pick c a b => c.ts ++ (a.ts ++ b.ts)
  | .new _ => []
  | .box _ x => x.ts
  | .bld _ ps => ps.flatMap fun q => q.2.2.ts
  | .bsl _ _ _ ps => ps.flatMap fun q => q.2.ts
  | .ld _ _ x => x.ts
  | .st _ x y => x.ts ++ y.ts
  | .nck x => x.ts
  | .bin _ x y => x.ts ++ y.ts
  | .beq _ x y => x.ts ++ y.ts
  | .eqa _ _ x y => x.ts ++ y.ts
  | .bts x => x.ts
  | .not x => x.ts
  | .neg x => x.ts
  | .cvi _ x => x.ts
  | .fa _ x => x.ts
  | .iaA _ _ x i => x.ts ++ i.ts
  | .iaS _ x i => x.ts ++ i.ts
  | .fld _ _ _ x => x.ts
  | .ixA _ _ _ x i => x.ts ++ i.ts
  | .ixS x i => x.ts ++ i.ts
  | .ext x _ => x.ts
  | .mkf _ fs cs => fs.flatMap Opd.ts ++ cs.flatMap Opd.ts
  | .len x => x.ts
  | .lenS x => x.ts
  | .app _ _ x y => x.ts ++ y.ts
  | .mks _ _ _ n => n.ts
  | .slc _ x lo hi => x.ts ++ (optTs lo ++ optTs hi)
  | .mnx _ x y => x.ts ++ y.ts
  | .call _ args => args.flatMap Opd.ts
  | .callv x args => x.ts ++ args.flatMap Opd.ts
def COp.looks (o : COp) : List Nat := (match o.g with | some (t, _) => [t] | Option.none => []) ++ o.k.ts
def Agr (ts : List Nat) (F F2 : Fr) : Prop := ∀ t ∈ ts, F2 t = F t
theorem Agr.ev {x : Opd} {F F2 : Fr} (h : Agr x.ts F F2) : x.ev F2 = x.ev F := by
  cases x with
  | t n => exact h n (by simp [Opd.ts])
  | c d => rfl
theorem Agr.left {a b : List Nat} {F F2 : Fr} (h : Agr (a ++ b) F F2) : Agr a F F2 := fun t ht => h t (List.mem_append_left _ ht)
theorem Agr.right {a b : List Nat} {F F2 : Fr} (h : Agr (a ++ b) F F2) : Agr b F F2 := fun t ht => h t (List.mem_append_right _ ht)
theorem Agr.map {xs : List Opd} {F F2 : Fr} (h : Agr (xs.flatMap Opd.ts) F F2) : mapEv F2 xs = mapEv F xs := by
  induction xs with
  | nil => rfl
  | cons x xs ih =>
    rw [List.flatMap_cons] at h
    rw [mapEv, mapEv, h.left.ev, ih h.right]
theorem Agr.fillD {ps : List (Nat × Nat × Opd)} {F F2 : Fr} (h : Agr (ps.flatMap fun q => q.2.2.ts) F F2) : ∀ z, fillD F2 ps z = Go.Proofs.Ytiaenojpbiahgaa.fillD F ps z := by
  induction ps with
  | nil => exact fun _ => rfl
  | cons q ps ih =>
    intro z
    rw [List.flatMap_cons] at h
    obtain ⟨off, sz, x⟩ := q
    simp only [Go.Proofs.Ytiaenojpbiahgaa.fillD, Agr.ev (x := x) h.left, ih h.right]
theorem Agr.fillR {ps : List (Nat × Opd)} {F F2 : Fr} {sz : Nat} (h : Agr (ps.flatMap fun q => q.2.ts) F F2) : ∀ z, fillR F2 sz ps z = Go.Proofs.Ytiaenojpbiahgaa.fillR F sz ps z := by
  induction ps with
  | nil => exact fun _ => rfl
  | cons q ps ih =>
    intro z
    rw [List.flatMap_cons] at h
    obtain ⟨i, x⟩ := q
    simp only [Go.Proofs.Ytiaenojpbiahgaa.fillR, Agr.ev (x := x) h.left, ih h.right]
theorem Agr.bnd {x : Option Opd} {F F2 : Fr} {n : Int} (h : Agr (optTs x) F F2) : bnd F2 x n = Go.Proofs.Ytiaenojpbiahgaa.bnd F x n := by
  cases x with
  | none => rfl
  | some x => simp only [Go.Proofs.Ytiaenojpbiahgaa.bnd, Agr.ev (x := x) h]
theorem callee_agr {k : K} {F F2 : Fr} (h : Agr k.ts F F2) : callee F2 k = callee F k := by
  cases k <;> simp only [callee]
  · rw [Agr.map h]
  · rw [h.left.ev, Agr.map h.right]
theorem rowsOf_agr {H H2 : Hp} {d : D} {ys : List Nm} {l : List (List D)} (h : rowsOf H d = some (ys, l)) (hh : ∀ i ∈ ys, H2 i = H i) : rowsOf H2 d = some (ys, l) := by
  unfold rowsOf at h ⊢
  split at h
  · exact h
  · exact h
  · rename_i i g off n
    split at h
    · rename_i e he
      split at h
      · rename_i hc
        cases h
        rw [hh i (List.mem_cons_self ..), he]
        simp only [hc, and_self, if_true]
      · cases h
    · cases h
  · cases h
/-- What an operation does hangs on what it looks at alone. -/
theorem eff_agr {nm : Nm} {F F2 : Fr} {H H2 : Hp} {k : K} {out : Out} (h : eff nm F H k = some out) (hF : Agr k.ts F F2) (hH : ∀ i ∈ out.rs, H2 i = H i) : eff nm F2 H2 k = some out := by
  cases k with
  | mv x => simp only [eff] at h ⊢; rw [Agr.ev (x := x) hF]; exact h
  | pick c a b => simp only [eff] at h ⊢; rw [hF.left.ev, hF.right.left.ev, hF.right.right.ev]; exact h
  | new z =>
    simp only [eff] at h ⊢
    split at h <;> cases h
    rename_i e
    rw [hH nm (List.mem_cons_self ..), e]
  | box sz x =>
    simp only [eff] at h ⊢
    rw [Agr.ev (x := x) hF]
    split at h
    · cases h
      rename_i e e'
      rw [hH nm (List.mem_cons_self ..), e, e']
    · cases h
  | bld z ps => simp only [eff] at h ⊢; rw [Agr.fillD hF]; exact h
  | bsl sz n z ps =>
    simp only [eff] at h ⊢
    rw [Agr.fillR hF]
    split at h
    · cases h
      rename_i e e'
      rw [hH nm (List.mem_cons_self ..), e, e']
    · cases h
  | ld sz ag x =>
    simp only [eff] at h ⊢
    rw [Agr.ev (x := x) hF]
    split at h
    · split at h
      · rename_i e he
        split at h
        · rename_i hg
          cases h
          try dsimp only
          rw [hH _ (List.mem_cons_self ..), he]
          simp only [hg, if_true]
        · cases h
      · cases h
    · exact h
    · cases h
  | st sz x y =>
    simp only [eff] at h ⊢
    rw [hF.left.ev, hF.right.ev]
    split at h
    · split at h
      · rename_i e he
        split at h
        · rename_i hg
          cases h
          try dsimp only
          rw [hH _ (List.mem_cons_self ..), he]
          simp only [hg, if_true]
        · cases h
      · cases h
    · cases h
  | nck x =>
    simp only [eff] at h ⊢
    rw [Agr.ev (x := x) hF]
    split at h
    · split at h
      · rename_i e he
        split at h
        · rename_i hg
          cases h
          try dsimp only
          rw [hH _ (List.mem_cons_self ..), he]
          simp only [hg, if_true]
        · cases h
      · cases h
    · exact h
    · exact h
    · cases h
  | bin op x y => simp only [eff] at h ⊢; rw [hF.left.ev, hF.right.ev]; exact h
  | beq ng x y => simp only [eff] at h ⊢; rw [hF.left.ev, hF.right.ev]; exact h
  | eqa ng ks x y => simp only [eff] at h ⊢; rw [hF.left.ev, hF.right.ev]; exact h
  | bts x =>
    simp only [eff] at h ⊢
    rw [Agr.ev (x := x) hF]
    split at h
    · rename_i ys l e1
      split at h
      · rename_i ns hns
        cases h
        rw [rowsOf_agr e1 hH]
        dsimp only
        rw [hns]
      · cases h
    · cases h
  | not x => simp only [eff] at h ⊢; rw [Agr.ev (x := x) hF]; exact h
  | neg x => simp only [eff] at h ⊢; rw [Agr.ev (x := x) hF]; exact h
  | cvi kd x => simp only [eff] at h ⊢; rw [Agr.ev (x := x) hF]; exact h
  | fa off x =>
    simp only [eff] at h ⊢
    rw [Agr.ev (x := x) hF]
    split at h
    · split at h
      · rename_i e he
        split at h
        · rename_i hg
          cases h
          try dsimp only
          rw [hH _ (List.mem_cons_self ..), he]
          simp only [hg, if_true]
        · cases h
      · cases h
    · exact h
    · cases h
  | iaA n sz x i =>
    simp only [eff] at h ⊢
    rw [hF.left.ev, hF.right.ev]
    split at h
    · split at h
      · rename_i e he
        split at h
        · rename_i hg
          cases h
          try dsimp only
          rw [hH _ (List.mem_cons_self ..), he]
          simp only [hg, if_true]
        · cases h
      · cases h
    · exact h
    · cases h
  | iaS sz x i =>
    simp only [eff] at h ⊢
    rw [hF.left.ev, hF.right.ev]
    split at h
    · exact h
    · split at h
      · rename_i e he
        split at h
        · rename_i hg
          cases h
          try dsimp only
          rw [hH _ (List.mem_cons_self ..), he]
          simp only [hg, if_true]
        · cases h
      · cases h
    · cases h
  | fld off sz ag x => simp only [eff] at h ⊢; rw [Agr.ev (x := x) hF]; exact h
  | ixA n sz ag x i => simp only [eff] at h ⊢; rw [hF.left.ev, hF.right.ev]; exact h
  | ixS x i => simp only [eff] at h ⊢; rw [hF.left.ev, hF.right.ev]; exact h
  | ext x i => simp only [eff] at h ⊢; rw [Agr.ev (x := x) hF]; exact h
  | mkf f fs cs => simp only [eff] at h ⊢; rw [Agr.map hF.left, Agr.map hF.right]; exact h
  | len x => simp only [eff] at h ⊢; rw [Agr.ev (x := x) hF]; exact h
  | lenS x => simp only [eff] at h ⊢; rw [Agr.ev (x := x) hF]; exact h
  | app sz bytes x y =>
    simp only [eff] at h ⊢
    rw [hF.left.ev, hF.right.ev]
    split at h
    · rename_i ys l e1 e2
      split at h
      · cases h
        rename_i e
        rw [rowsOf_agr e1 (fun i hi => hH i (List.mem_cons_of_mem _ hi)), e2]
        dsimp only
        rw [hH nm (List.mem_cons_self ..), e]
      · cases h
    · rename_i ys l i g off n e1 e2
      split at h
      · rename_i e he
        split at h
        · rename_i hg
          cases h
          try dsimp only
          rw [rowsOf_agr e1 (fun i hi => hH i (List.mem_cons_of_mem _ hi)), e2]
          dsimp only
          rw [hH _ (List.mem_cons_self ..), he]
          try dsimp only
          rw [if_pos hg]
        · cases h
      · cases h
    · cases h
  | mks sz bytes z n =>
    simp only [eff] at h ⊢
    rw [Agr.ev (x := n) hF]
    split at h
    · cases h
      rename_i e e'
      rw [hH nm (List.mem_cons_self ..), e, e']
    · cases h
  | slc sz x lo hi =>
    simp only [eff] at h ⊢
    rw [hF.left.ev, Agr.bnd hF.right.left]
    split at h
    · try dsimp only
      rw [Agr.bnd hF.right.right]
      exact h
    · try dsimp only
      rw [Agr.bnd hF.right.right]
      split at h
      · split at h
        · rename_i e he
          split at h
          · rename_i hg
            cases h
            try dsimp only
            rw [hH _ (List.mem_cons_self ..), he]
            simp only [hg, if_true]
          · cases h
        · cases h
      · cases h
    · try dsimp only
      rw [Agr.bnd hF.right.right]
      exact h
    · cases h
  | mnx mx x y => simp only [eff] at h ⊢; rw [hF.left.ev, hF.right.ev]; exact h
  | call f args => cases h
  | callv x args => cases h
end Go.Proofs.Ytiaenojpbiahgaa
