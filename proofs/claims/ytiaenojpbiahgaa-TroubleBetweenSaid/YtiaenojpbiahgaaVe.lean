
/- Operations over abstract data: that the model does what 'eff' says. -/
import Derived.Test.YtiaenojpbiahgaaVd
namespace Go.Proofs.Ytiaenojpbiahgaa
open Go
set_option linter.unusedVariables false
set_option linter.unusedSimpArgs false

/-- The model does what 'eff' says. -/
def SoundK (P : Program) (op : Op) (k : K) : Prop :=
  ∀ (E : Ent) (Im : Nat → Prop) (p : Pl) (s : St) (a : Act) (w : World) (nm : Nm) (o : Out) (d : Oper), d.op = op → RelS E Im p s a w → eff nm s.F s.H k = some o → o.cond →
    ∃ r u w' p', (execOp a.eval d).run P w = .ok r w' ∧ (r = .value u ∨ (r = .skip ∧ u = undef)) ∧ Grows Im p s.H w.heap Im p' (s.H.puto o.ws) w'.heap ∧ RelH Im p' (s.H.puto o.ws) w'.heap ∧ RelE E Im p' (s.H.puto o.ws) w' ∧ Rel Im p' (s.H.puto o.ws) w'.heap o.v u
def OpdOk (x : Operand) (y : Opd) : Prop := ∀ (E : Ent) (Im : Nat → Prop) (p : Pl) (s : St) (a : Act) (w : World), RelS E Im p s a w → Rel Im p s.H w.heap (y.ev s.F) (a.eval x)
theorem OpdOk.t (n : Nat) : OpdOk (.tmp n) (.t n) := fun E Im p s a w h => h.fr n
def ofC : Value → D
  | .slice Option.none 0 0 => .mt
  | x => .v x
theorem relP_ofC (Im : Nat → Prop) (h : Array Obj) (v : Value) : RelP Im h (ofC v) v := by
  unfold ofC
  split
  · exact .mt _
  · exact .v _
def ofV : Value → D
  | .agg us => if us.toList.all one = true then .agg (us.toList.map ofC) else .any
  | x => ofC x
theorem rel_ofV (Im : Nat → Prop) (p : Pl) (H : Hp) (h : Array Obj) (v : Value) : Rel Im p H h (ofV v) v := by
  unfold ofV
  split
  · rename_i us
    split
    · rename_i h1
      refine .agg _ us (by simp) (fun j u hu => ?_) (fun j d u hd hu => ?_)
      · exact List.all_eq_true.1 h1 u (List.mem_of_getElem? (by simpa using hu))
      · rw [List.getElem?_map] at hd
        have : us.toList[j]? = some u := by simpa using hu
        rw [this] at hd
        cases hd
        exact .p (relP_ofC _ _ _)
    · exact .p (.any _)
  · exact .p (relP_ofC _ _ _)
def copd : Operand → Option Opd
  | .tmp t => some (.t t)
  | .const v => some (.c (ofV v))
  | .func f => some (.c (.clo f [] []))
  | .global _ => Option.none
theorem copd_ok {x : Operand} {y : Opd} (h : copd x = some y) : OpdOk x y := by
  cases x with
  | tmp t => cases h; exact OpdOk.t t
  | const v => cases h; exact fun E Im p s a w _ => rel_ofV _ _ _ _ _
  | func f => cases h; exact fun E Im p s a w _ => .clo f [] [] #[] #[] rfl rfl (fun j d u hd => by cases hd) (fun j d u hd => by cases hd)
  | global g => cases h
theorem sound_pure {P : Program} {E : Ent} {Im : Nat → Prop} {p : Pl} {s : St} {a : Act} {w : World} {d : Oper} {o : Out} {u : Value} (hR : RelS E Im p s a w) (hr : (execOp a.eval d).run P w = .ok (.value u) w) (hw : o.ws = Option.none) (hv : Rel Im p s.H w.heap o.v u) :
    ∃ r u w' p', (execOp a.eval d).run P w = .ok r w' ∧ (r = .value u ∨ (r = .skip ∧ u = undef)) ∧ Grows Im p s.H w.heap Im p' (s.H.puto o.ws) w'.heap ∧ RelH Im p' (s.H.puto o.ws) w'.heap ∧ RelE E Im p' (s.H.puto o.ws) w' ∧ Rel Im p' (s.H.puto o.ws) w'.heap o.v u := by
  rw [hw]
  exact ⟨_, u, w, p, hr, .inl rfl, Grows.refl _ _ _ _, hR.hp, hR.en, hv⟩
section
variable {P : Program}
theorem snd_mv {x : Operand} {y : Opd} (hx : OpdOk x y) : SoundK P (.move x) (.mv y) := fun E Im p s a w nm o d ho hR he hc => by
  cases he
  exact sound_pure hR (by unfold execOp; simp [ho]) rfl (hx _ _ _ _ _ _ hR)
theorem snd_as {x : Operand} {y : Opd} (hx : OpdOk x y) : SoundK P (.assign x) (.mv y) := fun E Im p s a w nm o d ho hR he hc => by
  cases he
  exact sound_pure hR (by unfold execOp; simp [ho]) rfl (hx _ _ _ _ _ _ hR)
theorem rel_v {Im : Nat → Prop} {p : Pl} {H : Hp} {h : Array Obj} {x u : Value} (r : Rel Im p H h (.v x) u) : u = x := by
  cases r with
  | p r => cases r; rfl
theorem snd_pick {c x y : Operand} {c' x' y' : Opd} (hc : OpdOk c c') (hx : OpdOk x x') (hy : OpdOk y y') : SoundK P (.pick c x y) (.pick c' x' y') := fun E Im p s a w nm o d ho hR he hcd => by
  have r := hc _ _ _ _ _ _ hR
  simp only [eff] at he
  split at he
  · rename_i t ht
    rw [ht] at r
    have e := rel_v r
    cases he
    cases t with
    | true => exact sound_pure hR (u := a.eval x) (by unfold execOp; simp [ho, e, asBool]) rfl (by simpa using hx _ _ _ _ _ _ hR)
    | false => exact sound_pure hR (u := a.eval y) (by unfold execOp; simp [ho, e, asBool]) rfl (by simpa using hy _ _ _ _ _ _ hR)
  · cases he
theorem snd_ext {x : Operand} {x' : Opd} {i : Nat} (hx : OpdOk x x') : SoundK P (.extract x i) (.ext x' i) := fun E Im p s a w nm o d ho hR he hcd => by
  have r := hx _ _ _ _ _ _ hR
  simp only [eff] at he
  split at he
  · rename_i cs hs
    rw [hs] at r
    cases he
    dsimp only at hcd
    generalize hu : a.eval x = u at r
    cases r with
    | p r => cases r
    | tup _ us hl hr =>
      have hi : i < us.size := by rw [← hl]; exact hcd
      refine sound_pure hR (u := us[i]) (by unfold execOp; simp [ho, hu, Instr.extract, Array.getElem?_eq_getElem hi]) rfl ?_
      dsimp only
      rw [List.getD_eq_getElem?_getD, List.getElem?_eq_getElem hcd]
      exact hr i _ _ (List.getElem?_eq_getElem hcd) (Array.getElem?_eq_getElem hi)
  · cases he
theorem snd_not {t : TypeId} {x : Operand} {x' : Opd} (hx : OpdOk x x') : SoundK P (.unOp .not t x) (.not x') := fun E Im p s a w nm o d ho hR he hcd => by
  have r := hx _ _ _ _ _ _ hR
  simp only [eff] at he
  split at he
  · rename_i b hs
    rw [hs] at r
    cases he
    exact sound_pure hR (by unfold execOp; simp [ho, rel_v r, Op.unary]) rfl (.p (.v _))
  · cases he
theorem snd_neg {t : TypeId} {x : Operand} {x' : Opd} (hx : OpdOk x x') : SoundK P (.unOp .neg t x) (.neg x') := fun E Im p s a w nm o d ho hR he hcd => by
  have r := hx _ _ _ _ _ _ hR
  simp only [eff] at he
  split at he
  · rename_i b hs
    rw [hs] at r
    cases he
    exact sound_pure hR (by unfold execOp; simp [ho, rel_v r, Op.unary, Op.intArith]) rfl (.p (.v _))
  · cases he
theorem snd_cvi {src dst : TypeId} {k : IntKind} {x : Operand} {x' : Opd} (hx : OpdOk x x') (hs : (P.underlying src).isSome = true) (hd : P.underlying dst = some (.int k)) : SoundK P (.convert src dst x) (.cvi k x') := fun E Im p s a w nm o d ho hR he hcd => by
  have r := hx _ _ _ _ _ _ hR
  simp only [eff] at he
  split at he
  · rename_i k' n hs'
    rw [hs'] at r
    cases he
    obtain ⟨ds, hds⟩ := Option.isSome_iff_exists.1 hs
    refine sound_pure hR (u := .int k (k.wrap n)) ?_ rfl (.p (.v _))
    unfold execOp
    simp only [ho, rel_v r, Sem.run_bind]
    have : (convert src dst (.int k' n)).run P w = .ok (.int k (k.wrap n)) w := by
      unfold convert
      simp only [Sem.run_bind, run_underlying hds, run_underlying hd, Result.andThen_ok, Conv.intToInt]
      rfl
    rw [this]
    rfl
  · cases he
theorem rel_args {Im : Nat → Prop} {p : Pl} {H : Hp} {h : Array Obj} {F : Fr} {a : Act} {xs : Array Operand} {ys : List Opd} (hl : ys.length = xs.size) (hr : ∀ (j : Nat) (x : Operand) (y : Opd), xs[j]? = some x → ys[j]? = some y → Rel Im p H h (y.ev F) (a.eval x)) :
    (mapEv F ys).length = (xs.map a.eval).size ∧ ∀ (j : Nat) (d : D) (u : Value), (mapEv F ys)[j]? = some d → (xs.map a.eval)[j]? = some u → Rel Im p H h d u := by
  have e : ∀ ys : List Opd, mapEv F ys = ys.map (·.ev F) := fun ys => by induction ys with
    | nil => rfl
    | cons y ys ih => rw [mapEv, ih]; rfl
  rw [e]
  refine ⟨by simp [hl], fun j d u hd hu => ?_⟩
  rw [List.getElem?_map] at hd
  rw [Array.getElem?_map] at hu
  cases hx : xs[j]? with
  | none => rw [hx] at hu; cases hu
  | some x =>
    cases hy : ys[j]? with
    | none => rw [hy] at hd; cases hd
    | some y =>
      rw [hx] at hu
      rw [hy] at hd
      cases hu
      cases hd
      exact hr j x y hx hy
/-- Lists of operands. -/
def OpdsOk (xs : Array Operand) (ys : List Opd) : Prop := ys.length = xs.size ∧ ∀ (j : Nat) (x : Operand) (y : Opd), xs[j]? = some x → ys[j]? = some y → OpdOk x y
theorem snd_mkf {f : FuncId} {fs cs : Array Operand} {fs' cs' : List Opd} (h1 : OpdsOk fs fs') (h2 : OpdsOk cs cs') : SoundK P (.makeFunc (.func f) fs cs) (.mkf f fs' cs') := fun E Im p s a w nm o d ho hR he hcd => by
  cases he
  obtain ⟨k1, k2⟩ := rel_args (a := a) (F := s.F) (Im := Im) (p := p) (H := s.H) (h := w.heap) h1.1 (fun j x y hx hy => h1.2 j x y hx hy _ _ _ _ _ _ hR)
  obtain ⟨k3, k4⟩ := rel_args (a := a) (F := s.F) (Im := Im) (p := p) (H := s.H) (h := w.heap) h2.1 (fun j x y hx hy => h2.2 j x y hx hy _ _ _ _ _ _ hR)
  exact sound_pure hR (u := .func (.func f) (fs.map a.eval) (cs.map a.eval)) (by unfold execOp; simp [ho, Instr.makeFunc]) rfl (.clo f _ _ _ _ k1 k3 k2 k4)
theorem snd_mn {t1 t2 ty : TypeId} {x y : Operand} {x' y' : Opd} (hx : OpdOk x x') (hy : OpdOk y y') : SoundK P (.call { callee := .builtin .min, args := #[x, y], argTypes := #[t1, t2] }) (.mnx false x' y') := fun E Im p s a w nm o d ho hR he hcd => by
  have r := hx _ _ _ _ _ _ hR
  have r' := hy _ _ _ _ _ _ hR
  simp only [eff] at he
  split at he
  · rename_i k n k' n' hs hs'
    rw [hs] at r
    rw [hs'] at r'
    cases he
    refine sound_pure hR ?_ rfl (.p (.v _))
    unfold execOp
    simp [ho, resolve, invoke, builtin, rel_v r, rel_v r', Builtin.min_, Builtin.min2]
  · cases he
theorem snd_mx {t1 t2 ty : TypeId} {x y : Operand} {x' y' : Opd} (hx : OpdOk x x') (hy : OpdOk y y') : SoundK P (.call { callee := .builtin .max, args := #[x, y], argTypes := #[t1, t2] }) (.mnx true x' y') := fun E Im p s a w nm o d ho hR he hcd => by
  have r := hx _ _ _ _ _ _ hR
  have r' := hy _ _ _ _ _ _ hR
  simp only [eff] at he
  split at he
  · rename_i k n k' n' hs hs'
    rw [hs] at r
    rw [hs'] at r'
    cases he
    refine sound_pure hR ?_ rfl (.p (.v _))
    unfold execOp
    simp [ho, resolve, invoke, builtin, rel_v r, rel_v r', Builtin.max_, Builtin.max2]
  · cases he
theorem snd_bin {op : BinOp} {t t' : TypeId} {x y : Operand} {x' y' : Opd} (hx : OpdOk x x') (hy : OpdOk y y') : SoundK P (.binOp op t x y t') (.bin op x' y') := fun E Im p s a w nm o d ho hR he hcd => by
  have r := hx _ _ _ _ _ _ hR
  have r' := hy _ _ _ _ _ _ hR
  simp only [eff] at he
  split at he
  · rename_i u v hs hs'
    rw [hs] at r
    rw [hs'] at r'
    split at he
    · rename_i c res hb
      cases he
      dsimp only at hcd
      have key : (do eqGuard op t x y u v; binOp op t u v : Sem Value).run P w = .ok res w := by
        unfold binD at hb
        split at hb
        · rename_i k m k' n
          rw [eqGuard_at_int]
          split at hb
          · rename_i hk
            cases op <;> simp only [binI, cmpI, Option.some.injEq, Prod.mk.injEq, reduceCtorEq] at hb
            all_goals
              obtain ⟨rfl, rfl⟩ := hb
              first
                | (obtain rfl : k = k' := by simpa using hk
                   first
                     | (simp [binOp, Op.intArith]; done)
                     | (simp [binOp, Op.intDiv, hcd]; done)
                     | (simp [binOp, Op.intBits]; done)
                     | (simp [binOp, Op.intCmp]; done))
                | (have : ¬ n < 0 := by omega
                   simp [binOp, Op.shift, this]; done)
          · cases hb
        · cases hb
        · rw [eqGuard_at_string]
          cases op <;> simp only [Option.some.injEq, Prod.mk.injEq, reduceCtorEq] at hb
          all_goals
            obtain ⟨rfl, rfl⟩ := hb
            first
              | (simp [binOp, Op.stringOp]; done)
              | (simp only [binOp, Op.stringOp, IntKind.max_i64]
                 rw [if_neg (by omega)]
                 rfl)
        · cases hb
      refine sound_pure hR (u := res) ?_ rfl (.p (.v _))
      unfold execOp
      simp only [ho, rel_v r, rel_v r']
      rw [Sem.run_bind, key]
      rfl
    · cases he
  · cases he
theorem snd_beq {ng : Bool} {t t' : TypeId} {x y : Operand} {x' y' : Opd} (hx : OpdOk x x') (hy : OpdOk y y') (ht : P.underlying t = some .bool) : SoundK P (.binOp (if ng = true then .neq else .eql) t x y t') (.beq ng x' y') := fun E Im p s a w nm o d ho hR he hcd => by
  have r := hx _ _ _ _ _ _ hR
  have r' := hy _ _ _ _ _ _ hR
  simp only [eff] at he
  split at he
  · rename_i u v hs hs'
    rw [hs] at r
    rw [hs'] at r'
    cases he
    have k : (Op.equal t (.bool u) (.bool v)).run P w = .ok (u == v) w := by
      unfold Op.equal Op.maxDepth
      rw [Op.equalIn]
      simp [run_underlying ht]
    refine sound_pure hR (u := .bool (if ng = true then !(u == v) else (u == v))) ?_ rfl (.p (.v _))
    unfold execOp
    simp only [ho, rel_v r, rel_v r', eqGuard_at_bool]
    cases ng <;> simp [binOp, k]
  · cases he
end
end Go.Proofs.Ytiaenojpbiahgaa
