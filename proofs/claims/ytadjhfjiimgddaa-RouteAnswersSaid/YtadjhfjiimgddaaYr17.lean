/- RouteAnswers: E1. -/
import Derived.Test.YtadjhfjiimgddaaYr3
set_option linter.unusedSimpArgs false
set_option linter.unusedVariables false

/- Functions over abstract data, run by the kernel: what a run yields is a contract. No program in sight. -/
/- Functions over abstract data, run by the kernel: what a run yields is a contract. No program in sight. -/
namespace Go.Proofs.Ytadjhfjiimgddaa
open Go
def lookF (b : Bool) (t : Nat) : List (Nat × D) → D
 | [] => bif b then .v undef else .any
 | (k, d) :: l => bif Nat.beq t k then d else lookF b t l
def frB (b : Bool) (l : List (Nat × D)) : Fr := fun t => lookF b t l
def nmEq (i j : Nm) : Bool := Nat.beq i.1 j.1 && Nat.beq i.2 j.2
theorem nmEq_iff (i j : Nm) : nmEq i j = true ↔ i = j := by
 obtain ⟨a, b⟩ := i
 obtain ⟨c, d⟩ := j
 simp [nmEq]
def lookH (i : Nm) : List (Nm × En) → Option En
 | [] => Option.none
 | (j, e) :: l => bif nmEq i j then some e else lookH i l
def hp (l : List (Nm × En)) : Hp := fun i => lookH i l
theorem hp_nil : hp [] = Hp.none := rfl
theorem hp_cons (i : Nm) (e : En) (l : List (Nm × En)) : hp ((i, e) :: l) = (hp l).put i e := by
 funext j
 simp only [hp, lookH, Hp.put]
 by_cases h : j = i
 ·rw [(nmEq_iff j i).2 h, if_pos h]; rfl
 ·rw [Bool.eq_false_iff.2 (fun k => h ((nmEq_iff j i).1 k)), if_neg h]; rfl
theorem frB_cons (b : Bool) (k : Nat) (d : D) (l : List (Nat × D)) : frB b ((k, d) :: l) = putF (frB b l) (some k) d := by
 funext t
 simp only [frB, lookF, putF]
 by_cases h : t = k
 ·subst h; rw [if_pos rfl, Nat.beq_refl]; rfl
 ·rw [if_neg h, Bool.eq_false_iff.2 (fun q => h (Nat.eq_of_beq_eq_true q))]; rfl
structure SL where
 b : Bool
 F : List (Nat × D)
 H : List (Nm × En)
def SL.st (s : SL) : St := ⟨frB s.b s.F, hp s.H⟩
def putL (F : List (Nat × D)) : Option Nat → D → List (Nat × D)
 | some t, d => (t, d) :: F
 | Option.none, _ => F
theorem putL_eq (b : Bool) (F : List (Nat × D)) (dst : Option Nat) (d : D) : frB b (putL F dst d) = putF (frB b F) dst d := by
 cases dst with
 | none => rfl
 | some t => exact frB_cons b t d F
def putoL (H : List (Nm × En)) : Option (Nm × En) → List (Nm × En)
 | some (i, e) => (i, e) :: H
 | Option.none => H
theorem putoL_eq (H : List (Nm × En)) (o : Option (Nm × En)) : hp (putoL H o) = (hp H).puto o := by
 cases o with
 | none => rfl
 | some q => exact hp_cons q.1 q.2 H
def restrL (H : Hp) : List Nm → List (Nm × En)
 | [] => []
 | i :: is =>
  match H i with
  | some e => (i, e) :: restrL H is
  | Option.none => restrL H is
theorem restrL_eq (H : Hp) : ∀ js, hp (restrL H js) = H.restr js
 | [] => rfl
 | i :: is => by
  unfold restrL Hp.restr
  cases H i with
  | none => exact restrL_eq H is
  | some e => dsimp only; rw [hp_cons, restrL_eq H is]
def killsL (H : List (Nm × En)) : List Nm → List (Nm × En)
 | [] => H
 | i :: is =>
  match lookH i H with
  | some e => killsL ((i, ⟨e.g + 1, e.sz, []⟩) :: H) is
  | Option.none => killsL H is
theorem killsL_eq : ∀ (js : List Nm) (H : List (Nm × En)), hp (killsL H js) = (hp H).kills js
 | [], H => rfl
 | i :: is, H => by
  unfold killsL Hp.kills Hp.kill
  have e : hp H i = lookH i H := rfl
  rw [e]
  cases lookH i H with
  | none => exact killsL_eq is H
  | some e => dsimp only; rw [killsL_eq is, hp_cons]
def overL (H : List (Nm × En)) (H' : Hp) : List Nm → List (Nm × En)
 | [] => H
 | i :: is =>
  match H' i with
  | some e => (i, e) :: overL H H' is
  | Option.none => overL H H' is
theorem overL_eq (H : List (Nm × En)) (H' : Hp) : ∀ js, hp (overL H H' js) = (hp H).over H' js
 | [] => rfl
 | i :: is => by
  unfold overL Hp.over
  cases H' i with
  | none => exact overL_eq H H' is
  | some e => dsimp only; rw [hp_cons, overL_eq H H' is]
def listB {α : Type} (p : α → Bool) : List α → Bool
 | [] => true
 | x :: xs => p x && listB p xs
theorem listB_iff {α : Type} {p : α → Bool} : ∀ {l : List α}, listB p l = true → ∀ x ∈ l, p x = true
 | x :: xs, h, y, hy => by
  rw [listB, Bool.and_eq_true] at h
  cases hy with
  | head => exact h.1
  | tail _ hy => exact listB_iff h.2 y hy
def lendOk1B (H : Hp) : D → Bool
 | .own i g off n =>
  match H i with
  | some e => listB (fun r => listB D.plain r) e.rows && decide (off + n ≤ e.rows.length)
  | Option.none => true
 | _ => true
theorem lendOk1B_ok {H : Hp} {d : D} (h : lendOk1B H d = true) : lendOk1 H d := by
 cases d with
 | own i g off n =>
  unfold lendOk1B at h
  unfold lendOk1
  dsimp only at h ⊢
  split
  ·rename_i e he
   rw [he] at h
   dsimp only at h
   rw [Bool.and_eq_true] at h
   exact ⟨fun r hr d hd => listB_iff (listB_iff h.1 r hr) d hd, of_decide_eq_true h.2⟩
  ·trivial
 | _ => exact trivial
def lendOkB (H : Hp) : D → Bool
 | .agg cs => listB (lendOk1B H) cs
 | d => lendOk1B H d
theorem lendOkL_of {H : Hp} : ∀ {cs : List D}, listB (lendOk1B H) cs = true → lendOkL H cs
 | [], _ => trivial
 | d :: ds, h => by
  rw [listB, Bool.and_eq_true] at h
  exact ⟨lendOk1B_ok h.1, lendOkL_of h.2⟩
theorem lendOkB_ok {H : Hp} {d : D} (h : lendOkB H d = true) : lendOk H d := by
 cases d with
 | agg cs => exact lendOkL_of h
 | v x => exact lendOk1B_ok (H := H) (d := .v x) h
 | any  => exact lendOk1B_ok (H := H) (d := .any ) h
 | tup cs => exact lendOk1B_ok (H := H) (d := .tup cs) h
 | sl l => exact lendOk1B_ok (H := H) (d := .sl l) h
 | ip f => exact lendOk1B_ok (H := H) (d := .ip f) h
 | mt  => exact lendOk1B_ok (H := H) (d := .mt ) h
 | own i g o n => exact lendOk1B_ok (H := H) (d := .own i g o n) h
 | ptr i g r c => exact lendOk1B_ok (H := H) (d := .ptr i g r c) h
 | clo f a b => exact lendOk1B_ok (H := H) (d := .clo f a b) h
theorem lendOkLB_ok {H : Hp} : ∀ {ds : List D}, listB (lendOkB H) ds = true → lendOkL' H ds
 | [], _ => trivial
 | d :: ds, h => by
  rw [listB, Bool.and_eq_true] at h
  exact ⟨lendOkB_ok h.1, lendOkLB_ok h.2⟩
def lendOkTB (H : Hp) : D → Bool
 | .tup cs => listB (lendOkB H) cs
 | d => lendOkB H d
theorem lendOkTB_ok {H : Hp} {d : D} (h : lendOkTB H d = true) : lendOkT H d := by
 cases d with
 | tup cs => exact lendOkLB_ok h
 | agg cs => exact lendOkB_ok (H := H) (d := .agg cs) h
 | v x => exact lendOkB_ok (H := H) (d := .v x) h
 | any  => exact lendOkB_ok (H := H) (d := .any ) h
 | sl l => exact lendOkB_ok (H := H) (d := .sl l) h
 | ip f => exact lendOkB_ok (H := H) (d := .ip f) h
 | mt  => exact lendOkB_ok (H := H) (d := .mt ) h
 | own i g o n => exact lendOkB_ok (H := H) (d := .own i g o n) h
 | ptr i g r c => exact lendOkB_ok (H := H) (d := .ptr i g r c) h
 | clo f a b => exact lendOkB_ok (H := H) (d := .clo f a b) h
def closedB (H : Hp) (js : List Nm) : List Nm → Bool
 | [] => true
 | i :: is => (match H i with
  | some e => listB (refsInL js) e.rows
  | Option.none => true) && closedB H js is
theorem closedB_ok {H : Hp} {js : List Nm} : ∀ {is : List Nm}, closedB H js is = true → ClosedH H js is
 | [], _ => trivial
 | i :: is, h => by
  rw [closedB, Bool.and_eq_true] at h
  refine ⟨?_, closedB_ok h.2⟩
  have h1 := h.1
  split
  ·rename_i e he
   rw [he] at h1
   exact fun r hr => listB_iff h1 r hr
  ·trivial
def subNm (js : List Nm) : List Nm → Bool
 | [] => true
 | i :: is => nmIn i js && subNm js is
theorem subNm_ok {js : List Nm} : ∀ {is : List Nm}, subNm js is = true → ∀ i ∈ is, i ∈ js
 | i :: is, h, j, hj => by
  rw [subNm, Bool.and_eq_true] at h
  cases hj with
  | head => exact nmIn_iff.1 h.1
  | tail _ hj => exact subNm_ok h.2 j hj
theorem addNm_sub : ∀ (is js : List Nm) (i : Nm), i ∈ js ∨ i ∈ is → i ∈ addNm js is
 | [], js, i, h => by
  rcases h with h | h
  ·exact h
  ·cases h
 | k :: is, js, i, h => by
  unfold addNm
  split
  ·rename_i hk
   refine addNm_sub is js i ?_
   rcases h with h | h
   ·exact .inl h
   ·cases h with
    | head => exact .inl (nmIn_iff.1 hk)
    | tail _ h => exact .inr h
  ·refine addNm_sub is _ i ?_
   rcases h with h | h
   ·exact .inl (List.mem_append_left _ h)
   ·cases h with
    | head => exact .inl (List.mem_append_right _ (List.mem_cons_self ..))
    | tail _ h => exact .inr h
def Dom (Hs : Hp) (js : List Nm) : Prop := ∀ i e, Hs i = some e → i ∈ js
abbrev TE := FuncId → List D → Hp → Nm → Option (D × Hp)
def TE.tbl (t : TE) : Tbl := fun f args Hs nn =>
 match t f args Hs nn with
 | some (v, H') => some (Dom Hs (reach Hs args), fun v' H'' => v' = v ∧ H'' = H')
 | Option.none => Option.none
theorem cellNms_congr {H H' : Hp} : ∀ {is : List Nm}, (∀ i ∈ is, H' i = H i) → cellNms H' is = cellNms H is
 | [], _ => rfl
 | i :: is, h => by
  unfold cellNms
  rw [h i (List.mem_cons_self ..), cellNms_congr fun j hj => h j (List.mem_cons_of_mem _ hj)]
theorem reach_restr (H : Hp) (ds : List D) : reach (H.restr (reach H ds)) ds = reach H ds := by
 have h : cellNms (H.restr (reach H ds)) (nmsL ds) = cellNms H (nmsL ds) := cellNms_congr fun i hi => restr_in (by
  unfold reach
  exact addNm_sub _ _ _ (.inl (addNm_sub _ _ _ (.inr hi))))
 unfold reach at h ⊢
 rw [h]
theorem dom_restr (H : Hp) (ds : List D) : Dom (H.restr (reach H ds)) (reach (H.restr (reach H ds)) ds) := by
 rw [reach_restr]
 exact fun i e h => (restr_some h).1
def callE (t : TE) (nn : Nm) (dst : Option Nat) (s : SL) (b : Bool) (f : FuncId) (args : List D) : Option (List Nm × List Nm × SL) :=
 bif listB (lendOkB (hp s.H)) args then
  (fun (ks : List Nm) (H1 : List (Nm × En)) (args' : List D) =>
   (fun (js : List Nm) =>
    bif refsInL js args' && (closedB (hp H1) js js && listB (fun k => (lookH k H1).isNone) (nms nn)) then
     match t f args' (hp (restrL (hp H1) js)) nn with
     | some (v, H') =>
      bif b && js.isEmpty then
       bif v.flat then some (nmsL args, nms nn, ⟨s.b, putL s.F dst v, s.H⟩) else Option.none
      else some (nmsL args, ks ++ (nms nn ++ js), ⟨s.b, putL s.F dst v, overL H1 H' (nms nn ++ js)⟩)
     | Option.none => Option.none
    else Option.none) (reach (hp H1) args'))
   (args.flatMap (lendNm (hp s.H))) (killsL s.H (args.flatMap (lendNm (hp s.H)))) (args.map (lend (hp s.H)))
 else Option.none
theorem callE_ok {t : TE} {nn : Nm} {dst : Option Nat} {s : SL} {b : Bool} {f : FuncId} {args : List D} {rs ws : List Nm} {s' : SL} (h : callE t nn dst s b f args = some (rs, ws, s')) (Q : List Nm → List Nm → St → Prop) (hQ : Q rs ws s'.st) :
  callRun t.tbl nn dst s.st.F b s.st.H f args Q := by
 unfold callE at h
 cases h0 : listB (lendOkB (hp s.H)) args with
 | false => rw [h0] at h; cases h
 | true =>
  rw [h0] at h
  dsimp only [cond_true] at h
  refine ⟨lendOkLB_ok h0, ?_⟩
  unfold callRun1 callRun2 callRun3
  have e1 : s.st.H = hp s.H := rfl
  have e2 : s.st.F = frB s.b s.F := rfl
  rw [e1, e2, ← killsL_eq]
  generalize hH1 : killsL s.H (args.flatMap (lendNm (hp s.H))) = H1 at *
  generalize args.flatMap (lendNm (hp s.H)) = ks at *
  generalize args.map (lend (hp s.H)) = args' at *
  cases h1 : refsInL (reach (hp H1) args') args' && (closedB (hp H1) (reach (hp H1) args') (reach (hp H1) args') && listB (fun k => (lookH k H1).isNone) (nms nn)) with
  | false => rw [h1] at h; cases h
  | true =>
   rw [h1] at h
   rw [Bool.and_eq_true, Bool.and_eq_true] at h1
   obtain ⟨a1, a2, a3⟩ := h1
   dsimp only [cond_true] at h
   refine ⟨a1, closedB_ok a2, fun k hk => Option.isNone_iff_eq_none.1 (listB_iff a3 k hk), ?_⟩
   rw [restrL_eq] at h
   unfold TE.tbl
   cases ht : t f args' ((hp H1).restr (reach (hp H1) args')) nn with
   | none => rw [ht] at h; cases h
   | some q =>
    obtain ⟨v, H'⟩ := q
    rw [ht] at h
    dsimp only at h ⊢
    refine ⟨dom_restr _ _, ?_⟩
    cases hb : b && (reach (hp H1) args').isEmpty with
    | true =>
     rw [hb] at h
     dsimp only [cond_true] at h
     rw [if_pos rfl]
     rintro v' H'' ⟨e3, e4⟩
     rw [e3]
     cases hv : v.flat with
     | false => rw [hv] at h; cases h
     | true =>
      rw [hv] at h
      cases h
      refine ⟨rfl, ?_⟩
      have := hQ
      simp only [SL.st, putL_eq] at this
      exact this
    | false =>
     rw [hb] at h
     dsimp only [cond_false] at h
     rw [if_neg (by simp)]
     rintro v' H'' ⟨e3, e4⟩
     rw [e3, e4]
     cases h
     have := hQ
     simp only [SL.st, putL_eq, overL_eq] at this
     exact this
def binC (op : BinOp) (y : Int) : Bool :=
 match op with
 | .quo => !(decide (y = 0))
 | .rem => !(decide (y = 0))
 | .shl => decide (0 ≤ y)
 | .shr => decide (0 ≤ y)
 | _ => true
theorem binC_ok {op : BinOp} {k : IntKind} {x y : Int} {c : Prop} {r : Value} (h : binI op k x y = some (c, r)) (hc : binC op y = true) : c := by
 cases op <;> simp only [binI, cmpI, Option.some.injEq, Prod.mk.injEq, reduceCtorEq] at h <;> (obtain ⟨rfl, _⟩ := h) <;> first
  | trivial
  | (simpa [binC] using hc)
def binB (op : BinOp) : Value → Value → Option Value
 | .int k x, .int k' y =>
  match binD op (.int k x) (.int k' y) with
  | some (_, r) => bif binC op y then some r else Option.none
  | Option.none => Option.none
 | .string x, .string y =>
  match op with
  | .eql => some (.bool (decide (x.data.toList = y.data.toList)))
  | .neq => some (.bool (!(decide (x.data.toList = y.data.toList))))
  | .add => bif decide (((x.data.toList.length + y.data.toList.length : Nat) : Int) ≤ 9223372036854775807) then some (.string ⟨⟨x.data.toList ++ y.data.toList⟩⟩) else Option.none
  | _ => Option.none
 | _, _ => Option.none
theorem binB_ok {op : BinOp} {a b r : Value} (h : binB op a b = some r) : ∃ c, binD op a b = some (c, r) ∧ c := by
 unfold binB at h
 split at h
 ·rename_i k x k' y
  split at h
  ·rename_i c r' hr
   cases hc : binC op y with
   | false => rw [hc] at h; cases h
   | true =>
    rw [hc] at h
    cases h
    refine ⟨c, hr, ?_⟩
    simp only [binD] at hr
    split at hr
    ·exact binC_ok hr hc
    ·cases hr
  ·cases h
 ·rename_i x y
  cases op <;> simp only [reduceCtorEq] at h
  ·cases hc : decide (((x.data.toList.length + y.data.toList.length : Nat) : Int) ≤ 9223372036854775807) with
   | false => rw [hc] at h; cases h
   | true =>
    rw [hc] at h
    cases h
    have e1 : (⟨⟨x.data.toList ++ y.data.toList⟩⟩ : ByteArray) = x ++ y := by
     cases x; cases y
     simp [← ByteArray.append_eq, ByteArray.append]
    have e2 : ((x.size + y.size : Nat) : Int) ≤ 9223372036854775807 := of_decide_eq_true hc
    exact ⟨_, by simp only [binD, e1], e2⟩
  ·cases h; exact ⟨True, by simp only [binD, ba_eq], trivial⟩
  ·cases h; exact ⟨True, by simp only [binD, ba_eq], trivial⟩
 ·cases h
def eqOneB : Nat → D → D → Option Bool
 | 2, .v (.string a), .v (.string b) => some (decide (a.data.toList = b.data.toList))
 | k, x, y => eqOne k x y
theorem eqOneB_eq (k : Nat) (x y : D) : eqOneB k x y = eqOne k x y := by
 unfold eqOneB
 split
 ·simp only [eqOne, ba_eq]
 ·rfl
def eqLB : List Nat → List D → List D → Option Bool
 | [], [], [] => some true
 | k :: ks, a :: as1, b :: bs =>
  match eqOneB k a b, eqLB ks as1 bs with
  | some x, some y => some (x && y)
  | _, _ => Option.none
 | _, _, _ => Option.none
theorem eqLB_eq : ∀ (ks : List Nat) (as1 bs : List D), eqLB ks as1 bs = eqL ks as1 bs
 | [], [], [] => rfl
 | k :: ks, a :: as1, b :: bs => by
  unfold eqLB eqL
  rw [eqOneB_eq, eqLB_eq ks as1 bs]
  cases eqOne k a b <;> cases eqL ks as1 bs <;> rfl
 | [], _ :: _, _ => rfl
 | [], [], _ :: _ => rfl
 | _ :: _, [], _ => rfl
 | _ :: _, _ :: _, [] => rfl
def strB (ns : List Int) : ByteArray := ⟨⟨ns.map fun n => UInt8.ofNat n.toNat⟩⟩
theorem strB_go : ∀ (ns : List Int) (r : ByteArray), ns.foldl (fun r n => r.push (UInt8.ofNat n.toNat)) r = ⟨⟨r.data.toList ++ ns.map fun n => UInt8.ofNat n.toNat⟩⟩
 | [], r => by simp
 | n :: ns, r => by
  rw [List.foldl_cons, strB_go ns]
  simp [ByteArray.push]
theorem strB_eq (ns : List Int) : strOf ns = strB ns := by
 unfold strOf strB
 rw [strB_go]
 rfl
def effB (nm : Nm) (F : Fr) (H : Hp) : K → Option (List Nm × D × Option (Nm × En))
 | .mv x => some ([], x.ev F, Option.none)
 | .pick c a b =>
  match c.ev F with
  | .v (.bool t) => some ([], (if t = true then a.ev F else b.ev F), Option.none)
  | _ => Option.none
 | .new z =>
  match H nm with
  | Option.none => some ([nm], .ptr nm 0 0 0, some (nm, ⟨0, z.length, [z]⟩))
  | some _ => Option.none
 | .box sz x =>
  match H nm, (x.ev F).cells with
  | Option.none, some ds => bif decide (ds.length = sz) then some ([nm], .ptr nm 0 0 0, some (nm, ⟨0, sz, [ds]⟩)) else Option.none
  | _, _ => Option.none
 | .bld z ps =>
  match fillD F ps z with
  | some cs => some ([], .agg cs, Option.none)
  | Option.none => Option.none
 | .bsl sz n z ps =>
  match H nm, fillR F sz ps (List.replicate n z) with
  | Option.none, some rows => some ([nm], .own nm 0 0 n, some (nm, ⟨0, sz, rows⟩))
  | _, _ => Option.none
 | .ld sz ag x =>
  match x.ev F with
  | .ptr i g r c =>
   match H i with
   | some e => if e.g = g then (bif decide (r < e.rows.length ∧ c + sz ≤ (e.rows.getD r []).length) then some ([i], cellsAt (e.rows.getD r []) c sz ag, Option.none) else Option.none) else Option.none
   | Option.none => Option.none
  | .ip f => bif decide (sz ≤ f.length) then some ([], cellsAt f 0 sz ag, Option.none) else Option.none
  | _ => Option.none
 | .st sz x y =>
  match x.ev F, (y.ev F).cells with
  | .ptr i g r c, some ds =>
   match H i with
   | some e => if e.g = g then (bif decide (ds.length = sz ∧ r < e.rows.length ∧ c + sz ≤ (e.rows.getD r []).length) then some ([i], .any, some (i, ⟨e.g, e.sz, e.rows.set r (put1 (e.rows.getD r []) c ds)⟩)) else Option.none) else Option.none
   | Option.none => Option.none
  | _, _ => Option.none
 | .nck x =>
  match x.ev F with
  | .ptr i g r c =>
   match H i with
   | some e => if e.g = g then some ([i], .ptr i g r c, Option.none) else Option.none
   | Option.none => Option.none
  | .ip f => some ([], .ip f, Option.none)
  | .clo f fs cs => some ([], .clo f fs cs, Option.none)
  | _ => Option.none
 | .bin op x y =>
  match x.ev F, y.ev F with
  | .v a, .v b =>
   match binB op a b with
   | some r => some ([], .v r, Option.none)
   | Option.none => Option.none
  | _, _ => Option.none
 | .beq ng x y =>
  match x.ev F, y.ev F with
  | .v (.bool a), .v (.bool b) => some ([], .v (.bool (if ng = true then !(a == b) else (a == b))), Option.none)
  | _, _ => Option.none
 | .eqa ng ks x y =>
  match x.ev F, y.ev F with
  | .agg as1, .agg bs =>
   match eqLB ks as1 bs with
   | some b => some ([], .v (.bool (if ng = true then !b else b)), Option.none)
   | Option.none => Option.none
  | _, _ => Option.none
 | .bts x =>
  match rowsOf H (x.ev F) with
  | some (ys, l) =>
   match bytesD l with
   | some ns => bif decide (∀ r ∈ l, r.length = 1) then some (ys, .v (.string (strB ns)), Option.none) else Option.none
   | Option.none => Option.none
  | Option.none => Option.none
 | .not x =>
  match x.ev F with
  | .v (.bool b) => some ([], .v (.bool (!b)), Option.none)
  | _ => Option.none
 | .neg x =>
  match x.ev F with
  | .v (.int k n) => some ([], .v (.int k (k.wrap (0 - n))), Option.none)
  | _ => Option.none
 | .cvi k x =>
  match x.ev F with
  | .v (.int _ n) => some ([], .v (.int k (k.wrap n)), Option.none)
  | _ => Option.none
 | .fa off x =>
  match x.ev F with
  | .ptr i g r c =>
   match H i with
   | some e => if e.g = g then some ([i], .ptr i g r (c + off), Option.none) else Option.none
   | Option.none => Option.none
  | .ip f => some ([], .ip (f.drop off), Option.none)
  | _ => Option.none
 | .iaA n sz x i =>
  match x.ev F, (i.ev F).nat with
  | .ptr j g r c, some k =>
   match H j with
   | some e => if e.g = g then (bif decide (0 ≤ k ∧ k < n) then some ([j], .ptr j g r (c + k.toNat * sz), Option.none) else Option.none) else Option.none
   | Option.none => Option.none
  | .ip f, some k => bif decide (0 ≤ k ∧ k < n) then some ([], .ip (f.drop (k.toNat * sz)), Option.none) else Option.none
  | _, _ => Option.none
 | .iaS sz x i =>
  match x.ev F, (i.ev F).nat with
  | .sl l, some k => bif decide (0 ≤ k ∧ k < l.length ∧ (l.getD k.toNat []).length = sz) then some ([], .ip (l.getD k.toNat []), Option.none) else Option.none
  | .own j g off n, some k =>
   match H j with
   | some e => if e.g = g then (bif decide (0 ≤ k ∧ k < n ∧ e.sz = sz) then some ([j], .ptr j g (off + k.toNat) 0, Option.none) else Option.none) else Option.none
   | Option.none => Option.none
  | _, _ => Option.none
 | .fld off sz ag x =>
  match x.ev F with
  | .agg cs => bif decide (off + sz ≤ cs.length) then some ([], cellsAt cs off sz ag, Option.none) else Option.none
  | _ => Option.none
 | .ixA n sz ag x i =>
  match x.ev F, (i.ev F).nat with
  | .agg cs, some k => bif decide (0 ≤ k ∧ k < n ∧ k.toNat * sz + sz ≤ cs.length) then some ([], cellsAt cs (k.toNat * sz) sz ag, Option.none) else Option.none
  | _, _ => Option.none
 | .ixS x i =>
  match x.ev F, (i.ev F).nat with
  | .v (.string s), some k => bif decide (0 ≤ k ∧ k < s.size) then some ([], .v (.int .u8 (s.data.getD k.toNat 0).toNat), Option.none) else Option.none
  | _, _ => Option.none
 | .ext x i =>
  match x.ev F with
  | .tup cs => bif decide (i < cs.length) then some ([], cs.getD i .any, Option.none) else Option.none
  | _ => Option.none
 | .mkf f fs cs => some ([], .clo f (mapEv F fs) (mapEv F cs), Option.none)
 | .len x =>
  match lenOf (x.ev F) with
  | some n => some ([], .v (.int .i64 n), Option.none)
  | Option.none => Option.none
 | .lenS x =>
  match x.ev F with
  | .v (.string s) => some ([], .v (.int .i64 s.size), Option.none)
  | _ => Option.none
 | .app sz bytes x y =>
  match rowsOf H (y.ev F), x.ev F with
  | some (ys, l), .mt =>
   match H nm with
   | Option.none => bif decide ((∀ r ∈ l, r.length = sz) ∧ l.length * bytes ≤ 140737488355328 ∧ l.length ≤ 4611686018427387904) then some (nm :: ys, .own nm 0 0 l.length, some (nm, ⟨0, sz, l⟩)) else Option.none
   | some _ => Option.none
  | some (ys, l), .own i g off n =>
   match H i with
   | some e =>
    if e.g = g ∧ e.sz = sz ∧ off + n = e.rows.length then
     (bif decide ((∀ r ∈ l, r.length = sz) ∧ (n + l.length) * bytes ≤ 140737488355328 ∧ n + l.length ≤ 4611686018427387904 ∧ (off = 0 ∨ 0 < n + l.length)) then some (i :: ys, .own i (g + 1) 0 (n + l.length), some (i, ⟨g + 1, sz, e.rows.drop off ++ l⟩)) else Option.none)
    else Option.none
   | Option.none => Option.none
  | _, _ => Option.none
 | .mks sz bytes z n =>
  match H nm, (n.ev F).nat with
  | Option.none, some k => bif decide (0 ≤ k ∧ bytes * k ≤ 281474976710656 ∧ k ≤ 4611686018427387904) then some ([nm], .own nm 0 0 k.toNat, some (nm, ⟨0, sz, List.replicate k.toNat z⟩)) else Option.none
  | _, _ => Option.none
 | .slc sz x lo hi =>
  match x.ev F, bnd F lo 0 with
  | .sl l, some a =>
   match bnd F hi (l.length : Int) with
   | some b => bif decide (0 ≤ a ∧ a ≤ b ∧ b ≤ l.length ∧ (a = 0 ∨ (l.getD 0 []).length = sz)) then some ([], .sl ((l.drop a.toNat).take (b.toNat - a.toNat)), Option.none) else Option.none
   | Option.none => Option.none
  | .own i g off n, some a =>
   match bnd F hi (n : Int) with
   | some b =>
    match H i with
    | some e => if e.g = g then (bif decide (0 ≤ a ∧ a ≤ b ∧ b ≤ n ∧ (a = 0 ∨ e.sz = sz)) then some ([i], .own i g (off + a.toNat) (b.toNat - a.toNat), Option.none) else Option.none) else Option.none
    | Option.none => Option.none
   | Option.none => Option.none
  | .mt, some a =>
   match bnd F hi (0 : Int) with
   | some b => bif decide (a = 0 ∧ b = 0) then some ([], .mt, Option.none) else Option.none
   | Option.none => Option.none
  | _, _ => Option.none
 | .slc3 sz x lo hi mx =>
  match x.ev F, bnd F lo 0 with
  | .sl l, some a =>
   match (hi.ev F).nat, (mx.ev F).nat with
   | some b, some m => bif decide (0 ≤ a ∧ a ≤ b ∧ b ≤ m ∧ m ≤ l.length ∧ (a = 0 ∨ (l.getD 0 []).length = sz)) then some ([], .sl ((l.drop a.toNat).take (b.toNat - a.toNat)), Option.none) else Option.none
   | _, _ => Option.none
  | .own i g off n, some a =>
   match (hi.ev F).nat, (mx.ev F).nat with
   | some b, some m =>
    match H i with
    | some e => if e.g = g then (bif decide (0 ≤ a ∧ a ≤ b ∧ b ≤ m ∧ m ≤ n ∧ (a = 0 ∨ e.sz = sz)) then some ([i], .own i g (off + a.toNat) (b.toNat - a.toNat), Option.none) else Option.none) else Option.none
    | Option.none => Option.none
   | _, _ => Option.none
  | _, _ => Option.none
 | .mnx mx x y =>
  match x.ev F, y.ev F with
  | .v (.int k a), .v (.int k' b) => some ([], .v (.int k (if mx = true then (if b > a then b else a) else (if b < a then b else a))), Option.none)
  | _, _ => Option.none
 | .cpy sz x y =>
  match x.ev F, rowsOf H (y.ev F) with
  | .own i g off n, some (ys, l) =>
   match H i with
   | some e =>
    if e.g = g ∧ e.sz = sz then
     (bif decide ((∀ r ∈ l, r.length = sz) ∧ off + n ≤ e.rows.length) then some (i :: ys, .v (.int .i64 ((min l.length n : Nat) : Int)), some (i, ⟨e.g, e.sz, e.rows.take off ++ l.take (min l.length n) ++ e.rows.drop (off + min l.length n)⟩)) else Option.none)
    else Option.none
   | Option.none => Option.none
  | _, _ => Option.none
 | .isn ng x =>
  match x.ev F with
  | .sl l => bif decide (0 < l.length) then some ([], .v (.bool ng), Option.none) else Option.none
  | .own i g off n =>
   match H i with
   | some e => if e.g = g then (bif decide (0 < n) then some ([i], .v (.bool ng), Option.none) else Option.none) else Option.none
   | Option.none => Option.none
  | _ => Option.none
 | .stk => Option.none
 | .call _ _ => Option.none
 | .callv _ _ => Option.none
theorem ifB {c : Prop} [Decidable c] {α : Type} {x y : α} (h : (bif decide c then some x else Option.none) = some y) : c ∧ x = y := by
 by_cases hc : c
 ·simp only [hc, decide_true, cond_true, Option.some.injEq] at h
  exact ⟨hc, h⟩
 ·simp [hc] at h
theorem effB_ok {nm : Nm} {F : Fr} {H : Hp} {k : K} {rs : List Nm} {v : D} {ws : Option (Nm × En)} (h : effB nm F H k = some (rs, v, ws)) : ∃ c, eff nm F H k = some ⟨c, rs, v, ws⟩ ∧ c := by
 cases k <;> simp only [effB, eff, Out.pure] at h ⊢
 all_goals (repeat' split at h)
 all_goals first
  | (cases h; done)
  | (cases h; refine ⟨True, ?_, trivial⟩; rfl)
  | (cases h; refine ⟨True, ?_, trivial⟩; simp [*]; done)
  | (obtain ⟨hc, e⟩ := ifB h; cases e; refine ⟨_, ?_, hc⟩; simp only [*, if_true, and_self]; done)
  | (rename_i hb; obtain ⟨c, e1, e2⟩ := binB_ok hb; cases h; refine ⟨c, ?_, e2⟩; simp only [*]; done)
  | (rename_i hb _; rw [eqLB_eq] at hb; cases h; refine ⟨True, ?_, trivial⟩; simp [*]; done)
  | (obtain ⟨hc, e⟩ := ifB h; cases e; refine ⟨_, ?_, hc⟩; simp only [*, strB_eq]; done)
  | skip
def ev1 (t : TE) (N : Nat → Nm) (o : COp) (s : SL) : Option (List Nm × List Nm × SL) :=
 match guardD (frB s.b s.F) o.g with
 | Option.none => Option.none
 | some false => some ([], [], ⟨s.b, putL s.F o.dst (.v undef), s.H⟩)
 | some true =>
  match callee (frB s.b s.F) o.k with
  | some (f, args) => callE t (N o.nm) o.dst s o.b f args
  | Option.none =>
   match effB (N o.nm) (frB s.b s.F) (hp s.H) o.k with
   | some (rs, v, ws) => some (rs, wid ws, ⟨s.b, putL s.F o.dst v, putoL s.H ws⟩)
   | Option.none => Option.none
theorem ev1_ok {t : TE} {N : Nat → Nm} {o : COp} {s s' : SL} {rs ws : List Nm} (h : ev1 t N o s = some (rs, ws, s')) (Q : List Nm → List Nm → St → Prop) (hQ : Q rs ws s'.st) : run1 t.tbl N o s.st Q := by
 unfold ev1 at h
 unfold run1
 have e1 : s.st.H = hp s.H := rfl
 have e2 : s.st.F = frB s.b s.F := rfl
 rw [e1, e2]
 cases hg : guardD (frB s.b s.F) o.g with
 | none => rw [hg] at h; cases h
 | some w =>
  rw [hg] at h
  cases w with
  | false =>
   cases h
   dsimp only
   rw [if_neg Bool.false_ne_true]
   have := hQ
   simp only [SL.st, putL_eq] at this
   exact this
  | true =>
   dsimp only at h ⊢
   rw [if_pos rfl]
   cases hc : callee (frB s.b s.F) o.k with
   | some q =>
    rw [hc] at h
    exact callE_ok h Q hQ
   | none =>
    rw [hc] at h
    dsimp only at h ⊢
    split at h
    ·rename_i rs' v ws' he
     obtain ⟨c, k1, k2⟩ := effB_ok he
     rw [k1]
     cases h
     refine ⟨k2, ?_⟩
     have := hQ
     simp only [SL.st, putL_eq, putoL_eq] at this
     exact this
    ·cases h
def evL (t : TE) (N : Nat → Nm) : List COp → SL → Option SL
 | [], s => some s
 | o :: os, s =>
  match ev1 t N o s with
  | some (_, _, s') => evL t N os s'
  | Option.none => Option.none
def evD (t : TE) (N : Nat → Nm) : List COp → Nat → Past → SL → Option SL
 | [], _, _, s => some s
 | o :: os, k, l, s =>
  match ev1 t N o s with
  | some (rs, ws, s') => bif chk o.after rs ws l then evD t N os (k + 1) (past k rs ws l) s' else Option.none
  | Option.none => Option.none
theorem evL_ok {t : TE} {N : Nat → Nm} : ∀ {os : List COp} {s s' : SL}, evL t N os s = some s' → ∀ Q : St → Prop, Q s'.st → runL t.tbl N Q os s.st
 | [], s, s', h, Q, hQ => by cases h; exact hQ
 | o :: os, s, s', h, Q, hQ => by
  rw [evL] at h
  split at h
  ·rename_i rs ws s1 h1
   rw [runL_c]
   exact ev1_ok h1 _ (evL_ok h Q hQ)
  ·cases h
theorem evD_ok {t : TE} {N : Nat → Nm} : ∀ {os : List COp} {k : Nat} {l : Past} {s s' : SL}, evD t N os k l s = some s' → ∀ Q : St → Prop, Q s'.st → runD t.tbl N Q os k l s.st
 | [], k, l, s, s', h, Q, hQ => by cases h; exact hQ
 | o :: os, k, l, s, s', h, Q, hQ => by
  rw [evD] at h
  split at h
  ·rename_i rs ws s1 h1
   cases hc : chk o.after rs ws l with
   | false => rw [hc] at h; cases h
   | true =>
    rw [hc] at h
    rw [runD_c]
    exact ev1_ok h1 _ ⟨hc, evD_ok h Q hQ⟩
  ·cases h
inductive CE where
 | skip
 | ops (d : Bool) (l : List COp)
 | seq (a b : CE)
 | cond (x : Opd) (a b : CE)
 | block (id : Nat) (a : CE)
 | loop (live frz : List Nat) (a : CE)
 | exit (id : Nat)
 | ret
def CE.toC : CE → C
 | .skip => .skip
 | .ops d l => .ops d l
 | .seq a b => .seq a.toC b.toC
 | .cond x a b => .cond x a.toC b.toC
 | .block id a => .block id a.toC
 | .loop _ _ a => .loop a.toC
 | .exit id => .exit id
 | .ret => .ret
theorem CE.strip_toC : ∀ c : CE, c.toC.strip = c.toC
 | .skip => rfl
 | .ops _ _ => rfl
 | .seq a b => by simp only [CE.toC, C.strip, CE.strip_toC a, CE.strip_toC b]
 | .cond _ a b => by simp only [CE.toC, C.strip, CE.strip_toC a, CE.strip_toC b]
 | .block _ a => by simp only [CE.toC, C.strip, CE.strip_toC a]
 | .loop _ _ a => by simp only [CE.toC, C.strip, CE.strip_toC a]
 | .exit _ => rfl
 | .ret => rfl
def rowsNms (H : Hp) : List Nm → List Nm
 | [] => []
 | i :: is => (match H i with
  | some e => e.rows.flatMap nmsL
  | Option.none => []) ++ rowsNms H is
def gcF (s : SL) (H : Hp) (frz : List Nat) : List Nat → List (Nat × D)
 | [] => []
 | t :: ts => (t, bif natIn t frz then lend H (lookF s.b t s.F) else lookF s.b t s.F) :: gcF s H frz ts
def frzNms (s : SL) (H : Hp) : List Nat → List Nm
 | [] => []
 | t :: ts => lendNm H (lookF s.b t s.F) ++ frzNms s H ts
def frzOk (s : SL) (H : Hp) : List Nat → Bool
 | [] => true
 | t :: ts => lendOkB H (lookF s.b t s.F) && frzOk s H ts
def gc (J : List Nm) (live frz : List Nat) (s : SL) : SL :=
 (fun (F : List (Nat × D)) (ks : List Nm) (H1 : List (Nm × En)) =>
  (fun (n1 : List Nm) =>
   (fun (n2 : List Nm) =>
    (fun (js : List Nm) =>
     bif frzOk s (hp s.H) frz && (refsF js F && (closedB (hp H1) js js && subNm js J)) then ⟨false, F, restrL (hp H1) js⟩ else s)
     (addNm n2 (rowsNms (hp H1) n2)))
    (addNm n1 (rowsNms (hp H1) n1)))
   (addNm J (nmsL (F.map Prod.snd))))
  (gcF s (hp s.H) frz live) (frzNms s (hp s.H) frz) (killsL s.H (frzNms s (hp s.H) frz))
theorem frB_fr (l : List (Nat × D)) : frB false l = fr l := by
 funext t
 induction l with
 | nil => rfl
 | cons q l ih =>
  obtain ⟨k, d⟩ := q
  rw [frB_cons]
  simp only [putF, fr]
  split
  ·rfl
  ·exact ih
theorem frz_mem {s : SL} {H : Hp} : ∀ {frz : List Nat} {t : Nat}, natIn t frz = true → frzOk s H frz = true → lendOk H (lookF s.b t s.F) ∧ ∀ i ∈ lendNm H (lookF s.b t s.F), i ∈ frzNms s H frz
 | k :: ks, t, h, ho => by
  rw [frzOk, Bool.and_eq_true] at ho
  unfold natIn at h
  split at h
  ·rename_i e
   subst e
   exact ⟨lendOkB_ok ho.1, fun i hi => List.mem_append_left _ hi⟩
  ·obtain ⟨a, b⟩ := frz_mem h ho.2
   exact ⟨a, fun i hi => List.mem_append_right _ (b i hi)⟩
theorem gcF_cover {s : SL} {frz : List Nat} (ho : frzOk s (hp s.H) frz = true) : ∀ live, coverS s.st.F s.st.H (frzNms s (hp s.H) frz) (gcF s (hp s.H) frz live)
 | [] => trivial
 | t :: ts => by
  refine ⟨?_, gcF_cover ho ts⟩
  cases h : natIn t frz with
  | false => exact .inl rfl
  | true =>
   obtain ⟨a, b⟩ := frz_mem h ho
   exact .inr ⟨rfl, a, b⟩
theorem gc_weak (J : List Nm) (live frz : List Nat) (s : SL) : Weak J s.st (gc J live frz s).st := by
 unfold gc
 dsimp only
 generalize hjs : addNm (addNm (addNm J (nmsL ((gcF s (hp s.H) frz live).map Prod.snd))) (rowsNms (hp (killsL s.H (frzNms s (hp s.H) frz))) (addNm J (nmsL ((gcF s (hp s.H) frz live).map Prod.snd))))) (rowsNms (hp (killsL s.H (frzNms s (hp s.H) frz))) (addNm (addNm J (nmsL ((gcF s (hp s.H) frz live).map Prod.snd))) (rowsNms (hp (killsL s.H (frzNms s (hp s.H) frz))) (addNm J (nmsL ((gcF s (hp s.H) frz live).map Prod.snd)))))) = js
 cases hc : frzOk s (hp s.H) frz && (refsF js (gcF s (hp s.H) frz live) && (closedB (hp (killsL s.H (frzNms s (hp s.H) frz))) js js && subNm js J)) with
 | false => exact Weak.refl _ _
 | true =>
  rw [Bool.and_eq_true, Bool.and_eq_true, Bool.and_eq_true] at hc
  obtain ⟨h1, h2, h3, h4⟩ := hc
  have k3 := closedB_ok h3
  rw [killsL_eq] at k3
  have := weak_to (J := J) (frzNms s (hp s.H) frz) js (gcF s (hp s.H) frz live) (gcF_cover h1 live) h2 k3 (subNm_ok h4)
  have e : (bif true then (⟨false, gcF s (hp s.H) frz live, restrL (hp (killsL s.H (frzNms s (hp s.H) frz))) js⟩ : SL) else s).st = ⟨fr (gcF s (hp s.H) frz live), ((hp s.H).kills (frzNms s (hp s.H) frz)).restr js⟩ := by
   simp only [cond_true, SL.st, frB_fr, restrL_eq, killsL_eq]
  rw [e]
  exact this
def lendK (ks : List Nm) (H : Hp) : D → D
 | .own i g o n => bif nmIn i ks then lend1 H (.own i g o n) else .own i g o n
 | d => d
def lendKd (ks : List Nm) (H : Hp) : D → D
 | .agg cs => .agg (cs.map (lendK ks H))
 | d => lendK ks H d
def okK (ks : List Nm) (H : Hp) : D → Bool
 | .own i g o n => bif nmIn i ks then lendOk1B H (.own i g o n) else true
 | _ => true
def okKd (ks : List Nm) (H : Hp) : D → Bool
 | .agg cs => listB (okK ks H) cs
 | d => okK ks H d
def frzRows (ks : List Nm) (H : Hp) (e : En) : En := ⟨e.g, e.sz, e.rows.map fun r => r.map (lendK ks H)⟩
def frzF (ks : List Nm) (H : Hp) : List (Nat × D) → List (Nat × D)
 | [] => []
 | (t, d) :: l => (t, lendKd ks H d) :: frzF ks H l
def frzH (ks : List Nm) (H : Hp) : List (Nm × En) → List (Nm × En)
 | [] => []
 | (i, e) :: l => (i, frzRows ks H e) :: frzH ks H l
def freeze (ks : List Nm) (s : SL) : SL :=
 bif listB (fun q => okKd ks (hp s.H) q.2) s.F && listB (fun q => listB (fun r => listB (okK ks (hp s.H)) r) q.2.rows) s.H then
  ⟨s.b, frzF ks (hp s.H) s.F, frzH ks (hp s.H) (killsL s.H ks)⟩
 else s
theorem frzF_at (b : Bool) (ks : List Nm) (H : Hp) (t : Nat) : ∀ l : List (Nat × D), lookF b t (frzF ks H l) = lendKd ks H (lookF b t l)
 | [] => by cases b <;> rfl
 | (k, d) :: l => by
  simp only [frzF, lookF]
  cases Nat.beq t k with
  | true => rfl
  | false => exact frzF_at b ks H t l
theorem frzH_at (ks : List Nm) (H : Hp) (i : Nm) : ∀ l : List (Nm × En), lookH i (frzH ks H l) = (lookH i l).map (frzRows ks H)
 | [] => rfl
 | (k, d) :: l => by
  simp only [frzH, lookH]
  cases nmEq i k with
  | true => rfl
  | false => exact frzH_at ks H i l
theorem lookF_mem {b : Bool} {t : Nat} : ∀ {l : List (Nat × D)}, (∃ q ∈ l, q.2 = lookF b t l) ∨ lookF b t l = .v undef ∨ lookF b t l = .any
 | [] => by cases b <;> simp [lookF]
 | (k, d) :: l => by
  simp only [lookF]
  cases Nat.beq t k with
  | true => exact .inl ⟨_, List.mem_cons_self .., rfl⟩
  | false =>
   rcases @lookF_mem b t l with ⟨q, h1, h2⟩ | h
   ·exact .inl ⟨q, List.mem_cons_of_mem _ h1, h2⟩
   ·exact .inr h
theorem lookH_mem {i : Nm} {e : En} : ∀ {l : List (Nm × En)}, lookH i l = some e → ∃ q ∈ l, q.2 = e
 | (k, d) :: l, h => by
  simp only [lookH] at h
  cases hk : nmEq i k with
  | true => rw [hk] at h; cases h; exact ⟨_, List.mem_cons_self .., rfl⟩
  | false =>
   rw [hk] at h
   obtain ⟨q, h1, h2⟩ := lookH_mem h
   exact ⟨q, List.mem_cons_of_mem _ h1, h2⟩
theorem kill_other {H : Hp} {i j : Nm} (h : j ≠ i) : H.kill i j = H j := by
 unfold Hp.kill
 cases H i with
 | some e => exact Hp.put_other _ h _
 | none => rfl
theorem kill_rows {H : Hp} {i j : Nm} {e : En} (h : H.kill i j = some e) (hn : e.rows ≠ []) : H j = some e ∧ j ≠ i := by
 by_cases hj : j = i
 ·subst hj
  cases hi : H j with
  | some e0 =>
   simp only [Hp.kill, hi, Hp.put_same, Option.some.injEq] at h
   rw [← h] at hn
   exact absurd rfl hn
  | none =>
   simp only [Hp.kill, hi] at h
   cases h
 ·rw [kill_other hj] at h
  exact ⟨h, hj⟩
theorem kills_rows {j : Nm} {e : En} : ∀ {ks : List Nm} {H : Hp}, H.kills ks j = some e → e.rows ≠ [] → H j = some e ∧ j ∉ ks
 | [], H, h, hn => ⟨h, by simp⟩
 | k :: ks, H, h, hn => by
  rw [Hp.kills] at h
  obtain ⟨h1, h2⟩ := kills_rows (ks := ks) h hn
  obtain ⟨h3, h4⟩ := kill_rows h1 hn
  exact ⟨h3, by simp [h4, h2]⟩
theorem lendK_rel {Im Im' : Nat → Prop} {p : Pl} {H H' : Hp} {h : Array Obj} (R : RelH Im p H h) (G : Grows Im p H h Im' p H' h) {d : D} {u : Value} (r : Rel Im p H h d u) {ks : List Nm} (ok : okK ks H d = true) (hk : ∀ i ∈ ks, ∀ e, H i = some e → e.rows ≠ [] → Im' (p i).1) : Rel Im' p H' h (lendK ks H d) u := by
 cases d with
 | own i g o n =>
  unfold lendK
  unfold okK at ok
  dsimp only at ok ⊢
  cases hi : nmIn i ks with
  | false => exact r.mono G
  | true =>
   rw [hi] at ok
   refine lend1_rel R G r (lendOk1B_ok ok) fun j hj => ?_
   unfold lendNm1 at hj
   dsimp only at hj
   split at hj
   ·split at hj
    ·rw [List.mem_singleton.1 hj]; exact hk i (nmIn_iff.1 hi)
    ·cases hj
   ·cases hj
 | _ => exact r.mono G
theorem lendKd_rel {Im Im' : Nat → Prop} {p : Pl} {H H' : Hp} {h : Array Obj} (R : RelH Im p H h) (G : Grows Im p H h Im' p H' h) {d : D} {u : Value} (r : Rel Im p H h d u) {ks : List Nm} (ok : okKd ks H d = true) (hk : ∀ i ∈ ks, ∀ e, H i = some e → e.rows ≠ [] → Im' (p i).1) : Rel Im' p H' h (lendKd ks H d) u := by
 cases d with
 | agg cs =>
  obtain ⟨us, rfl, RL⟩ := RelL.of_agg r
  have : RelL Im' p H' h (cs.map (lendK ks H)) us.toList := by
   refine ⟨by rw [List.length_map, RL.len], fun j d u hd hu => ?_⟩
   rw [List.getElem?_map] at hd
   cases hc : cs[j]? with
   | none => rw [hc] at hd; cases hd
   | some c =>
    rw [hc] at hd
    cases hd
    obtain ⟨k1, k2⟩ := RL.cell j c u hc hu
    exact ⟨lendK_rel R G k1 (listB_iff ok c (List.mem_of_getElem? hc)) hk, k2⟩
  have k := this.rel
  simp only [Array.toArray_toList] at k
  exact k
 | v => exact lendK_rel R G r ok hk
 | any => exact lendK_rel R G r ok hk
 | tup => exact lendK_rel R G r ok hk
 | sl => exact lendK_rel R G r ok hk
 | ip => exact lendK_rel R G r ok hk
 | mt => exact lendK_rel R G r ok hk
 | own => exact lendK_rel R G r ok hk
 | ptr => exact lendK_rel R G r ok hk
 | clo => exact lendK_rel R G r ok hk
theorem freeze_weak (J ks : List Nm) (s : SL) : Weak J s.st (freeze ks s).st := by
 unfold freeze
 cases hc : listB (fun q => okKd ks (hp s.H) q.2) s.F && listB (fun q => listB (fun r => listB (okK ks (hp s.H)) r) q.2.rows) s.H with
 | false => exact Weak.refl _ _
 | true =>
  rw [Bool.and_eq_true] at hc
  obtain ⟨c1, c2⟩ := hc
  intro E hE Im p a w hR
  have hRp : RelH Im p (hp s.H) w.heap := hR.hp
  obtain ⟨Im', g1, r1, x1, b1⟩ := kills_spec (E := E) (w := w) ks Im (hp s.H) hRp hR.en
  have e2 : ∀ i, hp (frzH ks (hp s.H) (killsL s.H ks)) i = (((hp s.H).kills ks) i).map (frzRows ks (hp s.H)) := fun i => by
   rw [← killsL_eq]
   exact frzH_at ks (hp s.H) i _
  have g2 : Grows Im' p ((hp s.H).kills ks) w.heap Im' p (hp (frzH ks (hp s.H) (killsL s.H ks))) w.heap := by
   refine ⟨fun _ h => h, fun _ _ => rfl, fun i e hi => ⟨frzRows ks (hp s.H) e, by rw [e2, hi]; rfl, Nat.le_refl _, fun _ => ⟨rfl, rfl, fun hn => ⟨?_, fun c t hct => ⟨c, hct, rfl⟩⟩⟩⟩⟩
   intro k
   unfold frzRows at k
   exact hn (List.map_eq_nil_iff.1 k)
  have back : ∀ i e, hp (frzH ks (hp s.H) (killsL s.H ks)) i = some e → e.rows ≠ [] → ∃ e0, hp s.H i = some e0 ∧ e0.rows ≠ [] ∧ e = frzRows ks (hp s.H) e0 ∧ i ∉ ks ∧ ((hp s.H).kills ks) i = some e0 := fun i e hi hn => by
   rw [e2] at hi
   cases hk : ((hp s.H).kills ks) i with
   | none => rw [hk] at hi; cases hi
   | some e0 =>
    rw [hk] at hi
    cases hi
    have hn0 : e0.rows ≠ [] := fun k => hn (by unfold frzRows; rw [k]; rfl)
    obtain ⟨q1, q2⟩ := kills_rows hk hn0
    exact ⟨e0, q1, hn0, rfl, q2, rfl⟩
  refine ⟨Im', p, hR.sz, fun t => ?_, ⟨fun i e hi hn => ?_, fun i j e e' hi hj hn hn' hij => ?_, r1.im⟩, ⟨x1.os, x1.tape, x1.output, x1.size, x1.block, x1.im, x1.im', fun i e hi hn => ?_⟩, (hR.gr.trans g1).trans g2, hR.df⟩
  ·have hf : okKd ks (hp s.H) (lookF s.b t s.F) = true := by
    rcases @lookF_mem s.b t s.F with ⟨q, h1, h2⟩ | h | h
    ·rw [← h2]; exact listB_iff c1 q h1
    ·rw [h]; rfl
    ·rw [h]; rfl
   have := lendKd_rel hRp (g1.trans g2) (hR.fr t) hf b1
   show Rel Im' p _ w.heap (lookF s.b t (frzF ks (hp s.H) s.F)) _
   rw [frzF_at]
   exact this
  ·obtain ⟨e0, q1, q2, rfl, q4, _⟩ := back i e hi hn
   obtain ⟨c, t, k1, k2, k3⟩ := hRp.cell i e0 q1 q2
   have hk1 := r1.cell i e0 (by assumption) q2
   obtain ⟨c', t', k1', k2', k3'⟩ := hk1
   refine ⟨c, t, k1, k2', fun r hr => ?_, ?_, fun r j row d hr hd => ?_⟩
   ·obtain ⟨r0, hr0, rfl⟩ := List.mem_map.1 hr
    rw [List.length_map]
    exact k3.len r0 hr0
   ·have := k3.le
    show (p i).2 + (e0.rows.map _).length * e0.sz ≤ c.size
    rw [List.length_map]
    exact this
   ·have hr' : (e0.rows.map fun r => r.map (lendK ks (hp s.H)))[r]? = some row := hr
    rw [List.getElem?_map] at hr'
    cases h0 : e0.rows[r]? with
    | none => rw [h0] at hr'; cases hr'
    | some r0 =>
     rw [h0] at hr'
     cases hr'
     rw [List.getElem?_map] at hd
     cases h1 : r0[j]? with
     | none => rw [h1] at hd; cases hd
     | some d0 =>
      rw [h1] at hd
      cases hd
      obtain ⟨u, u1, u2, u3⟩ := k3.cell r j r0 d0 h0 h1
      obtain ⟨q, m1, m2⟩ := lookH_mem q1
      have ok0 := listB_iff (listB_iff (listB_iff c2 q m1) r0 (by rw [m2]; exact List.mem_of_getElem? h0)) d0 (List.mem_of_getElem? h1)
      exact ⟨u, u1, lendK_rel hRp (g1.trans g2) u2 ok0 b1, u3⟩
  ·obtain ⟨e0, q1, q2, _, _, _⟩ := back i e hi hn
   obtain ⟨e0', q1', q2', _, _, _⟩ := back j e' hj hn'
   exact hRp.inj i j e0 e0' q1 q1' q2 q2' hij
  ·obtain ⟨e0, q1, q2, _, _, q5⟩ := back i e hi hn
   exact x1.ids i e0 q5 q2
mutual
def D.owns : D → List Nm
 | .own i _ _ _ => [i]
 | .agg cs => ownsL cs
 | .tup cs => ownsL cs
 | .clo _ fs cs => ownsL fs ++ ownsL cs
 | _ => []
def ownsL : List D → List Nm
 | [] => []
 | d :: ds => d.owns ++ ownsL ds
end
mutual
def D.ptrs : D → List Nm
 | .ptr i _ _ _ => [i]
 | .agg cs => ptrsL cs
 | .tup cs => ptrsL cs
 | .clo _ fs cs => ptrsL fs ++ ptrsL cs
 | _ => []
def ptrsL : List D → List Nm
 | [] => []
 | d :: ds => d.ptrs ++ ptrsL ds
end
def inRows (f : List D → List Nm) (H : Hp) : List Nm → List Nm
 | [] => []
 | i :: is => (match H i with
  | some e => e.rows.flatMap f
  | Option.none => []) ++ inRows f H is
def deep (s : SL) : List Nm :=
 (fun (ds : List D) =>
  (fun (p1 : List Nm) =>
   (fun (p2 : List Nm) => addNm [] (inRows ownsL (hp s.H) (addNm [] (ownsL ds ++ inRows ownsL (hp s.H) p2))))
    (addNm p1 (inRows ptrsL (hp s.H) p1)))
   (addNm [] (ptrsL ds)))
  (s.F.map Prod.snd)
def gcc (J : List Nm) (live frz : List Nat) (s : SL) : SL :=
 bif natIn 1000000 frz then gc J live [] s
 else
  (fun (s1 : SL) =>
   match deep s1 with
   | [] => s1
   | k :: ks => gc J live [] (freeze (k :: ks) s1)) (gc J live frz s)
theorem gcc_weak (J : List Nm) (live frz : List Nat) (s : SL) : Weak J s.st (gcc J live frz s).st := by
 unfold gcc
 cases natIn 1000000 frz with
 | true => exact gc_weak J live [] s
 | false =>
  dsimp only [cond_false]
  split
  ·exact gc_weak J live frz s
  ·exact (gc_weak J live frz s).trans ((freeze_weak J _ _).trans (gc_weak J live [] _))
def loopE (body : SL → Option (Ex × SL)) (g : SL → SL) : Nat → SL → Option (Ex × SL)
 | 0, _ => Option.none
 | n + 1, s =>
  match body s with
  | some (.nrm, s') => loopE body g n (g s')
  | some (e, s') => some (e, s')
  | Option.none => Option.none
def evC (t : TE) (N : Nat → Nm) (J : List Nm) (n : Nat) : CE → SL → Option (Ex × SL)
 | .skip, s => some (.nrm, s)
 | .ops d l, s =>
  match (bif d then evD t N l 0 [] s else evL t N l s) with
  | some s' => some (.nrm, s')
  | Option.none => Option.none
 | .seq a b, s =>
  match evC t N J n a s with
  | some (.nrm, s') => evC t N J n b s'
  | some (e, s') => some (e, s')
  | Option.none => Option.none
 | .cond x a b, s =>
  match x.ev (frB s.b s.F) with
  | .v (.bool true) => evC t N J n a s
  | .v (.bool false) => evC t N J n b s
  | _ => Option.none
 | .block id a, s =>
  match evC t N J n a s with
  | some (.exit k, s') => bif Nat.beq k id then some (.nrm, s') else some (.exit k, s')
  | some (e, s') => some (e, s')
  | Option.none => Option.none
 | .loop live frz a, s => loopE (evC t N J n a) (gcc J live frz) n (gcc J live frz s)
 | .exit id, s => some (.exit id, s)
 | .ret, s => some (.ret, s)
theorem evC_ok {t : TE} {N : Nat → Nm} {J : List Nm} {n : Nat} : ∀ {c : CE} {s s' : SL} {e : Ex}, evC t N J n c s = some (e, s') → ∀ Q : Ex → St → Prop, Q e s'.st → vc t.tbl N J c.toC Q s.st
 | .skip, s, s', e, h, Q, hQ => by cases h; exact hQ
 | .ops d l, s, s', e, h, Q, hQ => by
  unfold evC at h
  cases d with
  | true =>
   dsimp only [cond_true] at h
   split at h
   ·rename_i s1 h1
    cases h
    unfold CE.toC
    rw [vc_opsD]
    exact evD_ok h1 _ hQ
   ·cases h
  | false =>
   dsimp only [cond_false] at h
   split at h
   ·rename_i s1 h1
    cases h
    unfold CE.toC
    rw [vc_opsL]
    exact evL_ok h1 _ hQ
   ·cases h
 | .seq a b, s, s', e, h, Q, hQ => by
  unfold evC at h
  unfold CE.toC
  rw [vc_seq]
  split at h
  ·rename_i s1 h1
   exact evC_ok h1 _ (evC_ok h Q hQ)
  ·rename_i e1 s1 hne h1
   cases h
   refine evC_ok h1 _ ?_
   cases e with
   | nrm => simp at hne
   | exit k => exact hQ
   | ret => exact hQ
  ·cases h
 | .cond x a b, s, s', e, h, Q, hQ => by
  unfold evC at h
  unfold CE.toC
  rw [vc_cond]
  have e2 : s.st.F = frB s.b s.F := rfl
  rw [e2]
  split at h
  ·rename_i hx
   rw [hx]
   exact evC_ok h Q hQ
  ·rename_i hx
   rw [hx]
   exact evC_ok h Q hQ
  ·cases h
 | .block id a, s, s', e, h, Q, hQ => by
  unfold evC at h
  unfold CE.toC
  rw [vc_block]
  split at h
  ·rename_i k s1 h1
   refine evC_ok h1 _ ?_
   rw [blockQ_e]
   by_cases hk : k = id
   ·subst hk
    rw [Nat.beq_refl] at h
    cases h
    rw [if_pos rfl]
    exact hQ
   ·rw [if_neg hk]
    rw [Bool.eq_false_iff.2 (fun q => hk (Nat.eq_of_beq_eq_true q))] at h
    cases h
    exact hQ
  ·rename_i e1 s1 hne h1
   cases h
   refine evC_ok h1 _ ?_
   cases e with
   | nrm => exact hQ
   | exit k => simp at hne
   | ret => exact hQ
  ·cases h
 | .loop live frz a, s, s', e, h, Q, hQ => by
  unfold evC at h
  unfold CE.toC
  rw [vc_loop]
  refine ⟨fun k st => ∃ s1 : SL, st = s1.st ∧ loopE (evC t N J n a) (gcc J live frz) k s1 = some (e, s'), ⟨n, _, gcc_weak J live frz s, _, rfl, h⟩, ?_⟩
  rintro k st ⟨s1, rfl, h1⟩
  cases k with
  | zero => cases h1
  | succ k =>
   rw [loopE] at h1
   split at h1
   ·rename_i s2 h2
    exact evC_ok h2 _ ⟨k, _, Nat.lt_succ_self k, gcc_weak J live frz s2, _, rfl, h1⟩
   ·rename_i e1 s2 hne h2
    cases h1
    refine evC_ok h2 _ ?_
    cases e with
    | nrm => simp at hne
    | exit k => exact hQ
    | ret => exact hQ
   ·cases h1
 | .exit id, s, s', e, h, Q, hQ => by cases h; exact hQ
 | .ret, s, s', e, h, Q, hQ => by cases h; exact hQ
structure FI where
 c : CE
 rvs : List RV
 nt : Nat
 kp : Bool
 new : List Nat
def resB (s : SL) : RV → Option D
 | .tmp t => some (lookF s.b t s.F)
 | .cell t sz ag =>
  match lookF s.b t s.F with
  | .ptr i g r c =>
   match lookH i s.H with
   | some e => if e.g = g then (bif decide (r < e.rows.length ∧ c + sz ≤ (e.rows.getD r []).length) then some (cellsAt (e.rows.getD r []) c sz ag) else Option.none) else Option.none
   | Option.none => Option.none
  | _ => Option.none
def resLB (s : SL) : List RV → Option (List D)
 | [] => some []
 | v :: vs =>
  match resB s v, resLB s vs with
  | some d, some ds => some (d :: ds)
  | _, _ => Option.none
theorem resB_ok {s : SL} {v : RV} {d : D} (h : resB s v = some d) : ∃ c, resD s.st v = some (c, d) ∧ c := by
 unfold resB at h
 unfold resD
 cases v with
 | tmp t => cases h; exact ⟨_, rfl, trivial⟩
 | cell t sz ag =>
  dsimp only at h ⊢
  have e2 : s.st.F t = lookF s.b t s.F := rfl
  rw [e2]
  split at h
  ·rename_i i g r c hF
   rw [hF]
   dsimp only
   have e1 : s.st.H i = lookH i s.H := rfl
   rw [e1]
   split at h
   ·rename_i e he
    rw [he]
    dsimp only
    split at h
    ·rename_i hg
     rw [if_pos hg]
     obtain ⟨hc, e⟩ := ifB h
     cases e
     exact ⟨_, rfl, hc⟩
    ·cases h
   ·cases h
  ·cases h
theorem resLB_ok {s : SL} : ∀ {vs : List RV} {ds : List D}, resLB s vs = some ds → ∃ c, resL s.st vs = some (c, ds) ∧ c
 | [], ds, h => by cases h; exact ⟨_, rfl, trivial⟩
 | v :: vs, ds, h => by
  rw [resLB] at h
  split at h
  ·rename_i d ds' h1 h2
   cases h
   obtain ⟨c, k1, k2⟩ := resB_ok h1
   obtain ⟨c', q1, q2⟩ := resLB_ok h2
   exact ⟨c ∧ c', by rw [resL, k1, q1], k2, q2⟩
  ·cases h
def retE (js : List Nm) (v : D) (H : List (Nm × En)) : Option (D × Hp) :=
 bif v.refsIn js && closedB (hp H) js js then some (v, hp (restrL (hp H) js)) else Option.none
def finE (fi : FI) (js : List Nm) (s : SL) : Option (D × Hp) :=
 match resLB s fi.rvs with
 | some vs =>
  bif fi.kp then retE js (packD vs) s.H
  else bif lendOkTB (hp s.H) (packD vs) then retE js (lendT (hp s.H) (packD vs)) (killsL s.H (lendNmT (hp s.H) (packD vs))) else Option.none
 | Option.none => Option.none
theorem retE_ok {js : List Nm} {v v' : D} {H : List (Nm × En)} {H' : Hp} (h : retE js v H = some (v', H')) : retB js (fun d h => d = v' ∧ h = H') v (hp H) := by
 unfold retE at h
 cases hc : v.refsIn js && closedB (hp H) js js with
 | false => rw [hc] at h; cases h
 | true =>
  rw [hc] at h
  rw [Bool.and_eq_true] at hc
  cases h
  exact ⟨hc.1, closedB_ok hc.2, rfl, (restrL_eq _ _).symm⟩
theorem finE_ok {fi : FI} {js : List Nm} {s : SL} {v : D} {H' : Hp} (h : finE fi js s = some (v, H')) (e : Ex) (he : ∀ k, e ≠ .exit k) : finQ fi.rvs js fi.kp (fun d h => d = v ∧ h = H') e s.st := by
 have key : ∃ c vs, resL s.st fi.rvs = some (c, vs) ∧ c ∧ retA js fi.kp (fun d h => d = v ∧ h = H') (packD vs) s.st.H := by
  unfold finE at h
  split at h
  ·rename_i vs hvs
   obtain ⟨c, k1, k2⟩ := resLB_ok hvs
   refine ⟨c, vs, k1, k2, ?_⟩
   unfold retA
   have e1 : s.st.H = hp s.H := rfl
   rw [e1]
   cases hk : fi.kp with
   | true =>
    rw [hk] at h
    rw [if_pos rfl]
    exact retE_ok h
   | false =>
    rw [hk] at h
    rw [if_neg Bool.false_ne_true]
    dsimp only [cond_false] at h
    cases hl : lendOkTB (hp s.H) (packD vs) with
    | false => rw [hl] at h; cases h
    | true =>
     rw [hl] at h
     refine ⟨lendOkTB_ok hl, ?_⟩
     rw [← killsL_eq]
     exact retE_ok h
  ·cases h
 obtain ⟨c, vs, k1, k2, k3⟩ := key
 cases e with
 | nrm => rw [finQ_n, k1]; exact ⟨k2, k3⟩
 | ret => rw [finQ_r, k1]; exact ⟨k2, k3⟩
 | exit k => exact absurd rfl (he k)
def argL (k : Nat) : List D → List (Nat × D)
 | [] => []
 | d :: ds => (k, d) :: argL (k + 1) ds
theorem argL_eq : ∀ (ds : List D) (k : Nat), frB true (argL k ds) = argFrom k ds
 | [], k => rfl
 | d :: ds, k => by
  rw [argL, frB_cons, argL_eq ds (k + 1)]
  rfl
def layer : List Nm → Nat
 | [] => 0
 | i :: is => bif Nat.ble (layer is) i.1 then i.1 + 1 else layer is
def haveB (H : Hp) (nn : Nm) : List Nm → Bool
 | [] => true
 | i :: is => ((H i).isSome || nmEq i nn) && haveB H nn is
theorem haveB_ok {H : Hp} {nn : Nm} : ∀ {js : List Nm}, haveB H nn js = true → ∀ i ∈ js, (H i).isSome = true ∨ i = nn
 | j :: js, h, i, hi => by
  rw [haveB, Bool.and_eq_true, Bool.or_eq_true] at h
  cases hi with
  | head => exact h.1.imp id (nmEq_iff _ _).1
  | tail _ hi => exact haveB_ok h.2 i hi
def callB (codes : FuncId → Option FI) (lf : Nat) (t : TE) (f : FuncId) (args : List D) (Hs : Hp) (nn : Nm) : Option (D × Hp) :=
 match codes f with
 | Option.none => Option.none
 | some fi =>
  (fun (js : List Nm) =>
   bif haveB Hs nn js && Nat.ble args.length fi.nt then
    match evC t (fun k => bif natIn k fi.new then nn else (layer js, k)) js lf fi.c ⟨true, argL 0 args, restrL Hs js⟩ with
    | some (.exit _, _) => Option.none
    | some (_, s) => finE fi js s
    | Option.none => Option.none
   else Option.none) (bif fi.kp then nn :: reach Hs args else reach Hs args)
def evF (codes : FuncId → Option FI) (lf : Nat) : Nat → TE
 | 0 => fun _ _ _ _ => Option.none
 | n + 1 => callB codes lf (evF codes lf n)
def CodesOk (P : Program) (codes : FuncId → Option FI) : Prop := ∀ f fi, codes f = some fi → fnOk P f = true ∧ ∃ fn code, P.funcs[f]? = some fn ∧ fn.body = some code ∧ compC P fn.ntmps code = some fi.c.toC ∧ compRes P fn.results.toList = some fi.rvs ∧ fi.nt ≤ fn.ntmps
theorem restr_dom {Hs : Hp} {js : List Nm} (h : ∀ i e, Hs i = some e → i ∈ js) : Hs.restr js = Hs := by
 funext i
 by_cases hm : i ∈ js
 ·exact restr_in hm
 ·rw [restr_out hm]
  cases hi : Hs i with
  | none => rfl
  | some e => exact absurd (h i e hi) hm
theorem callB_ok {P : Program} {codes : FuncId → Option FI} (hm : P.follows .mixedOrders = true) (hC : CodesOk P codes) {lf : Nat} {t : TE} (ht : TblOk P t.tbl) {f : FuncId} {args : List D} {Hs : Hp} {nn : Nm} {v : D} {H' : Hp} (h : callB codes lf t f args Hs nn = some (v, H')) :
  fnOk P f = true ∧ (Dom Hs (reach Hs args) → CallsA P f args Hs nn fun d h => d = v ∧ h = H') := by
 unfold callB at h
 split at h
 ·cases h
 ·rename_i fi hf
  obtain ⟨h1, fn, code, h2, h3, h4, h5, h6⟩ := hC f fi hf
  refine ⟨h1, fun hd => ?_⟩
  dsimp only at h
  generalize hjs : (bif fi.kp then nn :: reach Hs args else reach Hs args) = js at h
  have hd' : ∀ i e, Hs i = some e → i ∈ js := fun i e hi => by
   have := hd i e hi
   rw [← hjs]
   cases fi.kp with
   | true => exact List.mem_cons_of_mem _ this
   | false => exact this
  cases hb : haveB Hs nn js && Nat.ble args.length fi.nt with
  | false => rw [hb] at h; cases h
  | true =>
   rw [hb] at h
   rw [Bool.and_eq_true] at hb
   dsimp only [cond_true] at h
   have ha : args.length ≤ fn.ntmps := Nat.le_trans (Nat.le_of_ble_eq_true hb.2) h6
   refine callsA_of ht hm (N := fun k => bif natIn k fi.new then nn else (layer js, k)) h2 h3 (c := fi.c.toC) (by rw [CE.strip_toC]; exact h4) h5 js fi.kp hd' (haveB_ok hb.1) ha ?_
   have e0 : (⟨argFrom 0 args, Hs⟩ : St) = (⟨true, argL 0 args, restrL Hs js⟩ : SL).st := by
    simp only [SL.st, argL_eq, restrL_eq, restr_dom hd']
   rw [e0]
   split at h
   ·cases h
   ·rename_i e s he hs
    refine evC_ok hs _ (finE_ok h e fun k hk => ?_)
    subst hk
    exact he _ rfl
   ·cases h
theorem evF_tbl {P : Program} {codes : FuncId → Option FI} (hm : P.follows .mixedOrders = true) (hC : CodesOk P codes) (lf : Nat) : ∀ n, TblOk P (evF codes lf n).tbl
 | 0 => fun f args Hs nn pre R h => by cases h
 | n + 1 => fun f args Hs nn pre R h => by
  unfold TE.tbl at h
  split at h
  ·rename_i v H' hv
   cases h
   obtain ⟨h1, h2⟩ := callB_ok hm hC (evF_tbl hm hC lf n) hv
   exact ⟨h1, fun hd => ⟨⟨v, H', rfl, rfl⟩, h2 hd⟩⟩
  ·cases h
theorem evF_ok {P : Program} {codes : FuncId → Option FI} (hm : P.follows .mixedOrders = true) (hC : CodesOk P codes) {lf n : Nat} {f : FuncId} {args : List D} {nn : Nm} {v : D} {H' : Hp} (h : evF codes lf n f args Hp.none nn = some (v, H')) : CallsA P f args Hp.none nn fun d h => d = v ∧ h = H' := by
 cases n with
 | zero => cases h
 | succ n => exact (callB_ok hm hC (evF_tbl hm hC lf n) h).2 fun i e hi => by cases hi
abbrev Lv := List (List Nat × List Nat)
def annot : C → Lv → Option (CE × Lv)
 | .skip, l => some (.skip, l)
 | .ops d os, l => some (.ops d os, l)
 | .seq a b, l =>
  match annot a l with
  | some (a', l1) =>
   match annot b l1 with
   | some (b', l2) => some (.seq a' b', l2)
   | Option.none => Option.none
  | Option.none => Option.none
 | .cond x a b, l =>
  match annot a l with
  | some (a', l1) =>
   match annot b l1 with
   | some (b', l2) => some (.cond x a' b', l2)
   | Option.none => Option.none
  | Option.none => Option.none
 | .block id a, l =>
  match annot a l with
  | some (a', l1) => some (.block id a', l1)
  | Option.none => Option.none
 | .loop a, [] => Option.none
 | .loop a, (v, z) :: l =>
  match annot a l with
  | some (a', l1) => some (.loop v z a', l1)
  | Option.none => Option.none
 | .weak _, _ => Option.none
 | .opsF _ _, _ => Option.none
 | .exit id, l => some (.exit id, l)
 | .ret, l => some (.ret, l)
theorem annot_toC : ∀ {c : C} {l l' : Lv} {e : CE}, annot c l = some (e, l') → e.toC = c
 | .skip, l, l', e, h => by cases h; rfl
 | .ops _ _, l, l', e, h => by cases h; rfl
 | .seq a b, l, l', e, h => by
  unfold annot at h
  split at h
  ·rename_i h1
   split at h
   ·rename_i h2
    cases h
    rw [CE.toC, annot_toC h1, annot_toC h2]
   ·cases h
  ·cases h
 | .cond x a b, l, l', e, h => by
  unfold annot at h
  split at h
  ·rename_i h1
   split at h
   ·rename_i h2
    cases h
    rw [CE.toC, annot_toC h1, annot_toC h2]
   ·cases h
  ·cases h
 | .block id a, l, l', e, h => by
  unfold annot at h
  split at h
  ·rename_i h1
   cases h
   rw [CE.toC, annot_toC h1]
  ·cases h
 | .loop a, [], l', e, h => by cases h
 | .loop a, (v, z) :: l, l', e, h => by
  unfold annot at h
  split at h
  ·rename_i h1
   cases h
   rw [CE.toC, annot_toC h1]
  ·cases h
 | .weak _, l, l', e, h => by cases h
 | .opsF _ _, l, l', e, h => by cases h
 | .exit id, l, l', e, h => by cases h; rfl
 | .ret, l, l', e, h => by cases h; rfl
structure Hint where
 lv : Lv
 kp : Bool
 new : List Nat
def findH (f : FuncId) : List (FuncId × Hint) → Hint
 | [] => ⟨[], false, []⟩
 | (g, h) :: l => bif Nat.beq f g then h else findH f l
def codesOf (P : Program) (hs : List (FuncId × Hint)) (f : FuncId) : Option FI :=
 match P.funcs[f]? with
 | Option.none => Option.none
 | some fn =>
  match fn.body with
  | Option.none => Option.none
  | some code =>
   match compC P fn.ntmps code with
   | Option.none => Option.none
   | some c =>
    match compRes P fn.results.toList with
    | Option.none => Option.none
    | some rvs =>
     match annot c (findH f hs).lv with
     | Option.none => Option.none
     | some (e, _) => bif fnOk P f then some ⟨e, rvs, fn.ntmps, (findH f hs).kp, (findH f hs).new⟩ else Option.none
theorem codesOf_ok (P : Program) (hs : List (FuncId × Hint)) : CodesOk P (codesOf P hs) := by
 intro f fi h
 unfold codesOf at h
 split at h
 ·cases h
 ·rename_i fn hfn
  split at h
  ·cases h
  ·rename_i code hcode
   split at h
   ·cases h
   ·rename_i c hc
    split at h
    ·cases h
    ·rename_i rvs hr
     split at h
     ·cases h
     ·rename_i e l he
      cases hk : fnOk P f with
      | false => rw [hk] at h; cases h
      | true =>
       rw [hk] at h
       cases h
       exact ⟨rfl, fn, code, hfn, hcode, by rw [annot_toC he]; exact hc, hr, Nat.le_refl _⟩
theorem run_c {P : Program} (hm : P.follows .mixedOrders = true) (hs : List (FuncId × Hint)) (lf n : Nat) {f : FuncId} {args : List D} {nn : Nm} {v : D} (h : evF (codesOf P hs) lf n f args Hp.none nn = some (v, hp [])) : CallsA P f args Hp.none nn fun d h => d = v ∧ h = Hp.none :=
 evF_ok hm (codesOf_ok P hs) h
end Go.Proofs.Ytadjhfjiimgddaa
