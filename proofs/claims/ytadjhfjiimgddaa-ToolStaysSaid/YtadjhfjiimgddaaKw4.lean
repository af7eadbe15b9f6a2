/- ToolStays: Vt Base Src Args Bridge Pk1 Vu CodeS. -/
import Derived.Test.YtadjhfjiimgddaaKw3
import Derived.Test.YtadjhfjiimgddaaProg
import Derived.WalkKit
import Derived.WalkSpells
import Derived.WalkLawsBesides
import Derived.Deep.QuietTactic
import Derived.BigQuiet
import Derived.Lib.Hide
import Derived.Handy
import Derived.OpenShut
import Derived.Test.YtadjhfjiimgddaaRows
import Derived.Maps.OwnOps
import Derived.Maps.Views
import Derived.Maps.OwnSet
set_option linter.defProp false
set_option linter.unusedSimpArgs false
set_option linter.unusedVariables false
set_option maxRecDepth 100000

/- Rows of tables: pure functions; functions that read from a source. -/
/- Rows of tables: pure functions; functions that read from a source. -/
namespace Go.Proofs.Ytadjhfjiimgddaa
open Go
theorem mixed : Try.prog.follows .mixedOrders = true := by kernel_rfl
abbrev InI (n : Int) : Prop := -9223372036854775808 ≤ n ∧ n ≤ 9223372036854775807
structure SrcOk (L : List (List D)) (at' : Int) : Prop where
 lo : 0 ≤ at'
 hi : at' ≤ L.length
 len : (L.length : Int) ≤ 2000
 ints : ∃ ns : List Int, L = ns.map (fun n => [di n]) ∧ ∀ n ∈ ns, InI n
def sE (L : List (List D)) (at' : Int) : En := ⟨0, 2, [[.sl L, di at']]⟩
def intsOf : List (List D) → Option (List Int)
 | [] => some []
 | [.v (.int .i64 n)] :: l => match intsOf l with
  | some ns => some (n :: ns)
  | Option.none => Option.none
 | _ => Option.none
theorem intsOf_map (ns : List Int) : intsOf (ns.map fun n => [di n]) = some ns := by
 induction ns with
 | nil => rfl
 | cons n ns ih => rw [List.map_cons, intsOf, ih]
theorem intsOf_eq : ∀ {l : List (List D)} {ns : List Int}, intsOf l = some ns → l = ns.map (fun n => [di n])
 | [], ns, h => by rw [intsOf] at h; cases h; rfl
 | [.v (.int .i64 n)] :: l, ns, h => by
  rw [intsOf] at h
  split at h
  ·rename_i ms hm
   cases h
   rw [List.map_cons, ← intsOf_eq hm]
  ·cases h
def strsOf : List (List D) → Option (List ByteArray)
 | [] => some []
 | [.v (.string n)] :: l => match strsOf l with
  | some ns => some (n :: ns)
  | Option.none => Option.none
 | _ => Option.none
theorem strsOf_eq : ∀ {l : List (List D)} {ns : List ByteArray}, strsOf l = some ns → l = ns.map (fun n => [ds n])
 | [], ns, h => by rw [strsOf] at h; cases h; rfl
 | [.v (.string n)] :: l, ns, h => by
  rw [strsOf] at h
  split at h
  ·rename_i ms hm
   cases h
   rw [List.map_cons, ← strsOf_eq hm]
  ·cases h
def SrcR {α : Type} (i : Nm) (L : List (List D)) (post : α → Prop) (val : α → D) : D → Hp → Prop := fun v H' => ∃ at' a, SrcOk L at' ∧ post a ∧ v = val a ∧ H' = Hp.none.put i (sE L at')
abbrev SA (L : List (List D)) := { at' : Int // SrcOk L at' }
theorem sa_ok {L : List (List D)} (a : SA L) : SrcOk L a.1 = True := eq_true a.2
theorem SrcR_all {α : Type} (i : Nm) (L : List (List D)) (post : α → Prop) (val : α → D) (K : D → Hp → Prop) : (∀ v H', SrcR i L post val v H' → K v H') = ∀ (at' : SA L) (a : α), post a → K (val a) (Hp.none.put i (sE L at'.1)) :=
 propext ⟨fun h at' a h2 => h _ _ ⟨at'.1, a, at'.2, h2, rfl, rfl⟩, fun h v H' ⟨at', a, h1, h2, e1, e2⟩ => by rw [e1, e2]; exact h ⟨at', h1⟩ a h2⟩
theorem tc_row {P : Program} {f : FuncId} {r : List D → Hp → Nm → Option (Prop × (D → Hp → Prop))} {T : Tbl} (hf : fnOk P f = true) (hr : ∀ args Hs nn pre R, r args Hs nn = some (pre, R) → pre → (∃ v H', R v H') ∧ CallsA P f args Hs nn R) (h : TblOk P T) : TblOk P (tc f r T) := fun f' args Hs nn pre R hT => by
 rw [tc_at] at hT
 split at hT
 ·rename_i e
  subst e
  exact ⟨hf, hr args Hs nn pre R hT⟩
 ·exact h f' args Hs nn pre R hT
theorem nm1 (i : Nm) (t : Nat) : (i = (i.1 + 1, t)) = False := eq_false fun h => by have := congrArg Prod.fst h; dsimp only at this; omega
theorem nm2 (i : Nm) (t : Nat) : ((i.1 + 1, t) = i) = False := eq_false fun h => by have := congrArg Prod.fst h; dsimp only at this; omega
theorem forall_nil {α : Type} (p : α → Prop) : (∀ x, x ∈ ([] : List α) → p x) = True := eq_true fun x h => by cases h
theorem bq_t (b : Bool) : (b == true) = b := by cases b <;> rfl
theorem bq_f (b : Bool) : (b == false) = !b := by cases b <;> rfl
theorem tq_b (b : Bool) : (true == b) = b := by cases b <;> rfl
theorem fq_b (b : Bool) : (false == b) = !b := by cases b <;> rfl
theorem weak_eq {J : List Nm} {F : Fr} {H H' : Hp} (ks js : List Nm) (l : List (Nat × D)) (h1 : coverS F H ks l) (h2 : refsF js l = true) (h3 : ClosedH (H.kills ks) js js) (h4 : ∀ i ∈ J, i ∈ js) (h5 : (H.kills ks).restr js = H') : Weak J ⟨F, H⟩ ⟨fr l, H'⟩ := h5 ▸ weak_to ks js l h1 h2 h3 h4
theorem weak_eqA {J : List Nm} {F : Fr} {H H' : Hp} (ks js : List Nm) (l : List (Nat × D)) (h : (coverS F H ks l) ∧ (refsF js l = true) ∧ (ClosedH (H.kills ks) js js) ∧ (∀ i ∈ J, i ∈ js) ∧ (H.kills ks).restr js = H') : Weak J ⟨F, H⟩ ⟨fr l, H'⟩ := weak_eq ks js l h.1 h.2.1 h.2.2.1 h.2.2.2.1 h.2.2.2.2
def rowPu (sel : List D → Option (Prop × D)) : List D → Hp → Nm → Option (Prop × (D → Hp → Prop)) := fun args Hs nn =>
 match sel args with
 | some (pre, d) => some (Hs = Hp.none ∧ pre, Pu d Hp.none)
 | Option.none => Option.none
theorem tc_pu {P : Program} {f : FuncId} {sel : List D → Option (Prop × D)} {T : Tbl} (hf : fnOk P f = true) (h : ∀ args pre d, sel args = some (pre, d) → pre → ∀ nn, CallsA P f args Hp.none nn (Pu d Hp.none)) (hT : TblOk P T) : TblOk P (tc f (rowPu sel) T) :=
 tc_row hf (fun args Hs nn pre R hr hp => by
  unfold rowPu at hr
  split at hr
  ·rename_i pre' d hs
   cases hr
   obtain ⟨rfl, hp⟩ := hp
   exact ⟨⟨d, Hp.none, rfl, rfl⟩, h args pre' d hs hp nn⟩
  ·cases hr) hT
def PuE {α : Type} (post : α → Prop) (val : α → D) (Hs : Hp) : D → Hp → Prop := fun v H' => ∃ a, post a ∧ v = val a ∧ H' = Hs
theorem PuE_all {α : Type} (post : α → Prop) (val : α → D) (Hs : Hp) (K : D → Hp → Prop) : (∀ v H', PuE post val Hs v H' → K v H') = ∀ a, post a → K (val a) Hs :=
 propext ⟨fun h a h1 => h _ _ ⟨a, h1, rfl, rfl⟩, fun h v H' ⟨a, h1, e1, e2⟩ => by rw [e1, e2]; exact h a h1⟩
def rowPuE {α : Type} (sel : List D → Option (Prop × (α → Prop))) (val : α → D) : List D → Hp → Nm → Option (Prop × (D → Hp → Prop)) := fun args Hs nn =>
 match sel args with
 | some (pre, post) => some (Hs = Hp.none ∧ pre, PuE post val Hp.none)
 | Option.none => Option.none
def rowSrc {α : Type} (sel : List D → Option (Prop × (α → Prop))) (val : α → D) : List D → Hp → Nm → Option (Prop × (D → Hp → Prop)) := fun args Hs nn =>
 match args with
 | .ptr i g r c :: args =>
  match sel args, Hs i with
  | some (pre, post), some ⟨_, _, [[.sl L, .v (.int .i64 at')]]⟩ => some ((Hs = Hp.none.put i (sE L at') ∧ g = 0 ∧ r = 0 ∧ c = 0) ∧ SrcOk L at' ∧ pre, SrcR i L post val)
  | _, _ => Option.none
 | _ => Option.none
def SrcC {α : Type} (P : Program) (f : FuncId) (args : List D) (post : α → Prop) (val : α → D) : Prop := ∀ i L at' nn, SrcOk L at' → CallsA P f (.ptr i 0 0 0 :: args) (Hp.none.put i (sE L at')) nn (SrcR i L post val)
theorem tc_src {P : Program} {f : FuncId} {α : Type} {sel : List D → Option (Prop × (α → Prop))} {val : α → D} {T : Tbl} (hf : fnOk P f = true) (h : ∀ args pre post, sel args = some (pre, post) → pre → (∃ a, post a) ∧ SrcC P f args post val) (hT : TblOk P T) : TblOk P (tc f (rowSrc sel val) T) :=
 tc_row hf (fun args Hs nn pre R hr hp => by
  unfold rowSrc at hr
  split at hr
  ·rename_i i g r c args
   split at hr
   ·rename_i pre' post g' sz L at' hs hH
    cases hr
    obtain ⟨⟨rfl, rfl, rfl, rfl⟩, ho, hp⟩ := hp
    obtain ⟨⟨a, ha⟩, hc⟩ := h args pre' post hs hp
    exact ⟨⟨val a, _, at', a, ho, ha, rfl, rfl⟩, hc i L at' nn ho⟩
   ·cases hr
  ·cases hr) hT
theorem weak_ownC {J : List Nm} {F : Fr} {H : Hp} (j : Nm) (g sz : Nat) (pre post : List D) (i : Nm) (isz : Nat) (hj : H j = some ⟨g, sz, [pre ++ .mt :: post]⟩) (hi : H i = Option.none) :
  Weak J ⟨F, H⟩ ⟨F, (H.put i ⟨0, isz, []⟩).put j ⟨g, sz, [pre ++ .own i 0 0 0 :: post]⟩⟩ := by
 intro E hE Im p a w hR
 have hne : j ≠ i := fun h => by rw [h, hi] at hj; cases hj
 have T : Turn Im p H w.heap i ⟨0, 0, []⟩ ⟨0, isz, []⟩ (0, 0) w.heap := ⟨.inr ⟨hi, rfl⟩, .inl hi, fun _ _ _ => rfl, Nat.le_refl _, fun h => absurd rfl h, fun h => absurd rfl h⟩
 have G := T.grows hR.hp
 have R1 := T.relH hR.hp
 have X1 := T.relE hR.hp hR.en rfl rfl rfl
 generalize p.put i (0, 0) = p1 at *
 have hj1 : (H.put i ⟨0, isz, []⟩) j = some ⟨g, sz, [pre ++ .mt :: post]⟩ := by rw [Hp.put_other _ hne]; exact hj
 have hi1 : (H.put i ⟨0, isz, []⟩) i = some ⟨0, isz, []⟩ := Hp.put_same _ _ _
 generalize H.put i ⟨0, isz, []⟩ = H1 at *
 have G2 : Grows Im p1 H1 w.heap Im p1 (H1.put j ⟨g, sz, [pre ++ .own i 0 0 0 :: post]⟩) w.heap := ⟨fun _ h => h, fun _ _ => rfl, fun k ek hk => by
  by_cases h : k = j
  ·subst h
   rw [hj1] at hk
   cases hk
   exact ⟨_, Hp.put_same _ _ _, Nat.le_refl _, fun _ => ⟨rfl, rfl, fun _ => ⟨by simp, fun c t hc => ⟨c, hc, rfl⟩⟩⟩⟩
  ·exact ⟨ek, by rw [Hp.put_other _ h]; exact hk, Nat.le_refl _, fun _ => ⟨rfl, rfl, fun hn => ⟨hn, fun c t hc => ⟨c, hc, rfl⟩⟩⟩⟩⟩
 have key : ∀ k ek, (H1.put j ⟨g, sz, [pre ++ .own i 0 0 0 :: post]⟩) k = some ek → ek.rows ≠ [] → ∃ ek', H1 k = some ek' ∧ ek'.rows ≠ [] := fun k ek hk hn => by
  by_cases h : k = j
  ·subst h
   exact ⟨_, hj1, by simp⟩
  ·rw [Hp.put_other _ h] at hk
   exact ⟨ek, hk, hn⟩
 refine ⟨Im, p1, hR.sz, fun k => ((hR.fr k).mono G).mono G2, ⟨fun k ek hk hn => ?_, fun k l ek el hk hl nk nl hkl => ?_, R1.im⟩, ⟨X1.os, X1.tape, X1.output, X1.size, X1.block, X1.im, X1.im', fun k ek hk hn => ?_⟩, (hR.gr.trans G).trans G2, hR.df⟩
 ·dsimp only at hk ⊢
  by_cases h : k = j
  ·subst h
   rw [Hp.put_same] at hk
   cases hk
   obtain ⟨c, t, k1, k2, k3⟩ := R1.cell k _ hj1 (by simp)
   refine ⟨c, t, k1, k2, fun r hr => ?_, k3.le, fun r q row d hr hd => ?_⟩
   ·have := k3.len _ (List.mem_cons_self ..)
    rw [List.mem_singleton.1 hr]
    simpa using this
   ·cases r with
    | succ r => simp at hr
    | zero =>
     cases hr
     by_cases hq : q = pre.length
     ·subst hq
      rw [List.getElem?_append_right (Nat.le_refl _), Nat.sub_self] at hd
      cases hd
      obtain ⟨u, u1, u2, u3⟩ := k3.cell 0 pre.length _ .mt rfl (by rw [List.getElem?_append_right (Nat.le_refl _), Nat.sub_self]; rfl)
      refine ⟨u, u1, ?_, u3⟩
      obtain ⟨ao, rfl⟩ := rel_mt u2
      exact .own i 0 0 0 _ 0 ⟨0, isz, []⟩ (by rw [Hp.put_other _ (Ne.symm hne)]; exact hi1) (Nat.le_refl _) (Nat.le_refl _) fun _ h => absurd h (Nat.lt_irrefl _)
     ·have e : (pre ++ D.mt :: post)[q]? = some d := by
       rcases Nat.lt_or_ge q pre.length with h | h
       ·rw [List.getElem?_append_left h] at hd ⊢
        exact hd
       ·rw [List.getElem?_append_right h] at hd ⊢
        rw [show q - pre.length = (q - pre.length - 1) + 1 by omega, List.getElem?_cons_succ] at hd ⊢
        exact hd
      obtain ⟨u, u1, u2, u3⟩ := k3.cell 0 q _ d rfl e
      exact ⟨u, u1, u2.mono G2, u3⟩
  ·rw [Hp.put_other _ h] at hk
   obtain ⟨c, t, k1, k2, k3⟩ := R1.cell k ek hk hn
   exact ⟨c, t, k1, k2, k3.mono G2⟩
 ·obtain ⟨_, a1, a2⟩ := key k ek hk nk
  obtain ⟨_, b1, b2⟩ := key l el hl nl
  exact R1.inj k l _ _ a1 b1 a2 b2 hkl
 ·obtain ⟨_, a1, a2⟩ := key k ek hk hn
  exact X1.ids k _ a1 a2
def vp0 := And.intro @vc_skip (And.intro @vc_opsD (And.intro @vc_opsL (And.intro @vc_seq (And.intro @vc_cond (And.intro @vc_block (And.intro @vc_exit (And.intro @vc_ret (And.intro @runL_n (And.intro @runL_c (And.intro @runD_n (And.intro @runD_c (And.intro @KL_at (And.intro @KD_at (And.intro @run1_at (And.intro @thenQ_n (And.intro @thenQ_e (And.intro @thenQ_r (And.intro @blockQ_n (And.intro @blockQ_e (And.intro @blockQ_r (And.intro @loopQ_n (And.intro @loopQ_e (And.intro @loopQ_r (And.intro @finQ_n (And.intro @finQ_r (And.intro @Pu_all (And.intro @SrcR_all (@PuE_all))))))))))))))))))))))))))))
def vp := And.intro vp0 (And.intro @vc_opsF (And.intro @runF_n (And.intro @runF_f (And.intro @runF_t (And.intro @KF_at (And.intro @vc_opsG (And.intro @runDG_n (And.intro @runDG_f (And.intro @runDG_t (And.intro @KG_at (And.intro @sGQ_s (And.intro @runKCQ_n (And.intro @runKCQ_s @runKDQ_s)))))))))))))
def v1 := And.intro @guardD.eq_1 (And.intro @guardD.eq_2 (And.intro @callee.eq_1 (And.intro @callee.eq_2 (And.intro @callee.eq_3 (And.intro @callRun.eq_1 (And.intro @callRun1.eq_1 (And.intro @callRun2.eq_1 (And.intro @callRun3_at (And.intro @sO_s (And.intro @sC_s (And.intro @sC_n (And.intro @sG_s (And.intro @sT_s (And.intro @sB_v (And.intro @ite_vb (And.intro @List.length_map.{0,0} (And.intro @List.length_append.{0} (And.intro @List.isEmpty_nil.{0} (And.intro @List.isEmpty_cons.{0} (And.intro @D.flat.eq_1 (And.intro @D.flat.eq_2 (And.intro @D.flat.eq_3 (And.intro @D.flat.eq_4 (And.intro @D.flat.eq_5 (And.intro @flatL.eq_1 (And.intro @flatL.eq_2 (And.intro @eff.eq_1 (And.intro @eff.eq_2 (And.intro @eff.eq_3 (And.intro @eff.eq_4 (And.intro @eff.eq_5 (And.intro @eff.eq_6 (And.intro @eff.eq_7 (And.intro @eff.eq_8 (And.intro @eff.eq_9 (And.intro @eff.eq_10 (And.intro @eff.eq_11 (And.intro @eff.eq_12 (@eff.eq_13)))))))))))))))))))))))))))))))))))))))
def v2 := And.intro @eff.eq_14 (And.intro @eff.eq_15 (And.intro @eff.eq_16 (And.intro @eff.eq_17 (And.intro @eff.eq_18 (And.intro @eff.eq_19 (And.intro @eff.eq_20 (And.intro @eff.eq_21 (And.intro @eff.eq_22 (And.intro @eff.eq_23 (And.intro @eff.eq_24 (And.intro @eff.eq_25 (And.intro @eff.eq_26 (And.intro @eff.eq_27 (And.intro @eff.eq_28 (And.intro @eff.eq_29 (And.intro @eff.eq_30 (And.intro @eff.eq_31 (And.intro @eff.eq_32 (And.intro @Opd.ev.eq_1 (And.intro @Opd.ev.eq_2 (And.intro @mapEv.eq_1 (And.intro @mapEv.eq_2 (And.intro @putF_at (And.intro @putF_no (And.intro @arg_at (And.intro @arg_no (And.intro @fr_at (And.intro @fr_no (And.intro @hput_at (And.intro @hno_at (And.intro @hput_put (And.intro @Out.pure.eq_1 (And.intro @Hp.puto.eq_1 (And.intro @Hp.puto.eq_2 (And.intro @wid.eq_1 (And.intro @wid.eq_2 (And.intro @past.eq_1 (And.intro @past.eq_2 (@chk.eq_1)))))))))))))))))))))))))))))))))))))))
def v3 := And.intro @chk.eq_2 (And.intro @natIn.eq_1 (And.intro @natIn.eq_2 (And.intro @nmIn.eq_1 (And.intro @nmIn.eq_2 (And.intro @indep.eq_1 (And.intro @disj.eq_1 (And.intro @disj.eq_2 (And.intro @binD.eq_1 (And.intro @binD.eq_2 (And.intro @binD.eq_3 (And.intro @binD.eq_4 (And.intro @binD.eq_5 (And.intro @binD.eq_6 (And.intro @binD.eq_7 (And.intro @binI.eq_1 (And.intro @binI.eq_2 (And.intro @binI.eq_3 (And.intro @binI.eq_4 (And.intro @binI.eq_5 (And.intro @binI.eq_6 (And.intro @binI.eq_7 (And.intro @binI.eq_8 (And.intro @binI.eq_9 (And.intro @binI.eq_10 (And.intro @cmpI.eq_1 (And.intro @cmpI.eq_2 (And.intro @cmpI.eq_3 (And.intro @cmpI.eq_4 (And.intro @cmpI.eq_5 (And.intro @cmpI.eq_6 (And.intro @cmpI.eq_7 (And.intro @D.nat.eq_1 (And.intro @D.nat.eq_2 (And.intro @D.cells.eq_1 (And.intro @D.cells.eq_2 (And.intro @D.cells.eq_3 (And.intro @D.cells.eq_4 (And.intro @D.cells.eq_5 (@one.eq_1)))))))))))))))))))))))))))))))))))))))
def v4 := And.intro @one.eq_2 (And.intro @one.eq_3 (And.intro @cellsAt.eq_1 (And.intro @put1.eq_1 (And.intro @put1.eq_2 (And.intro @fillD.eq_1 (And.intro @fillD.eq_2 (And.intro @fillR.eq_1 (And.intro @fillR.eq_2 (And.intro @rowsOf.eq_1 (And.intro @rowsOf.eq_2 (And.intro @rowsOf.eq_3 (And.intro @rowsOf.eq_4 (And.intro @lenOf.eq_1 (And.intro @lenOf.eq_2 (And.intro @lenOf.eq_3 (And.intro @lenOf.eq_4 (And.intro @bnd.eq_1 (And.intro @bnd.eq_2 (And.intro @lend.eq_1 (And.intro @lend.eq_2 (And.intro @lend1.eq_1 (And.intro @lend1.eq_2 (And.intro @lend1.eq_3 (And.intro @lendNm.eq_1 (And.intro @lendNm.eq_2 (And.intro @lendNm1.eq_1 (And.intro @lendNm1.eq_2 (And.intro @lendOkL'.eq_1 (And.intro @lendOkL'.eq_2 (And.intro @lendOk.eq_1 (And.intro @lendOk.eq_2 (And.intro @lendOk1.eq_1 (And.intro @lendOk1.eq_2 (And.intro @lendOkL.eq_1 (And.intro @lendOkL.eq_2 (And.intro @lendT.eq_1 (And.intro @lendT.eq_2 (And.intro @lendNmT.eq_1 (@lendNmT.eq_2)))))))))))))))))))))))))))))))))))))))
def v5 := And.intro @lendOkT.eq_1 (And.intro @lendOkT.eq_2 (And.intro @Hp.kills.eq_1 (And.intro @Hp.kills.eq_2 (And.intro @Hp.kill.eq_1 (And.intro @Hp.over.eq_1 (And.intro @Hp.over.eq_2 (And.intro @Hp.restr.eq_1 (And.intro @Hp.restr.eq_2 (And.intro @reach.eq_1 (And.intro @take_map (And.intro @take_mapS (And.intro @natc0 (And.intro @natc1 (And.intro @natc2 (And.intro @natc3 (And.intro @natc4 (And.intro @natc5 (And.intro @natc6 (And.intro @natc7 (And.intro @beq_self_eq_true.{0} (And.intro @Nat.le_refl (And.intro @Int.le_refl (And.intro @plain_v (And.intro @plain_any (And.intro @plain_sl (And.intro @plain_mt (And.intro @List.forall_mem_append.{0} (And.intro @List.forall_mem_map.{0,0} (And.intro @addNm.eq_1 (And.intro @addNm.eq_2 (And.intro @nmsL.eq_1 (And.intro @nmsL.eq_2 (And.intro @D.nms.eq_1 (And.intro @D.nms.eq_2 (And.intro @D.nms.eq_3 (And.intro @D.nms.eq_4 (And.intro @D.nms.eq_5 (And.intro @D.nms.eq_6 (@D.nms.eq_7)))))))))))))))))))))))))))))))))))))))
def v6 := And.intro @D.nms.eq_8 (And.intro @D.nms.eq_9 (And.intro @D.nms.eq_10 (And.intro @cellNms.eq_1 (And.intro @cellNms.eq_2 (And.intro @refsInL.eq_1 (And.intro @refsInL.eq_2 (And.intro @D.refsIn.eq_1 (And.intro @D.refsIn.eq_2 (And.intro @D.refsIn.eq_3 (And.intro @D.refsIn.eq_4 (And.intro @D.refsIn.eq_5 (And.intro @D.refsIn.eq_6 (And.intro @D.refsIn.eq_7 (And.intro @D.refsIn.eq_8 (And.intro @D.refsIn.eq_9 (And.intro @D.refsIn.eq_10 (And.intro @ClosedH.eq_1 (And.intro @ClosedH.eq_2 (And.intro @resL.eq_1 (And.intro @resL.eq_2 (And.intro @resD.eq_1 (And.intro @resD.eq_2 (And.intro @retA.eq_1 (And.intro @retB.eq_1 (And.intro @packD.eq_1 (And.intro @packD.eq_2 (And.intro @tc_at (And.intro @rowR_at (And.intro @Pu_ex (And.intro @true_and (And.intro @and_true (And.intro @and_false (And.intro @false_and (And.intro @or_true (And.intro @true_or (And.intro @or_false (And.intro @false_or (And.intro @and_self (@List.map_cons.{0,0})))))))))))))))))))))))))))))))))))))))
def v7 := And.intro @List.map_nil.{0,0} (And.intro @List.flatMap_cons.{0,0} (And.intro @List.flatMap_nil.{0,0} (And.intro @List.append_nil.{0} (And.intro @List.nil_append.{0} (And.intro @List.cons_append.{0} (And.intro @Bool.false_eq_true (And.intro @Prod.mk.injEq.{0,0} (And.intro @List.length_cons.{0} (And.intro @List.length_nil.{0} (And.intro @Nat.add_zero (And.intro @Nat.zero_add (And.intro @List.getD_cons_zero.{0} (And.intro @List.getD_cons_succ.{0} (And.intro @List.drop_zero.{0} (And.intro @List.drop_succ_cons.{0} (And.intro @List.take_succ_cons.{0} (And.intro @List.take_zero.{0} (And.intro @List.set_cons_zero.{0} (And.intro @List.set_cons_succ.{0} (And.intro @List.replicate.eq_1.{0} (And.intro @List.replicate.eq_2.{0} (And.intro @Bool.not_true (And.intro @Bool.not_false (And.intro @Bool.true_and (And.intro @Bool.and_true (And.intro @Bool.false_and (And.intro @Bool.and_false (And.intro @Bool.or_true (And.intro @Bool.true_or (And.intro @Bool.or_false (And.intro @Bool.false_or (And.intro @eq_self.{1} (And.intro @imp_self (And.intro @ge_iff_le.{0} (And.intro @gt_iff_lt.{0} (And.intro @decide_eq_true_eq (@intsOf.eq_1)))))))))))))))))))))))))))))))))))))
def v8 := And.intro @intsOf.eq_2 (And.intro @intsOf.eq_3 (And.intro @intsOf_map (And.intro @strsOf.eq_1 (And.intro @strsOf.eq_2 (And.intro @strsOf.eq_3 (And.intro @sE.eq_1 (And.intro @ne_eq.{1} (And.intro @not_false_eq_true (And.intro @bq_t (And.intro @bq_f (And.intro @tq_b (And.intro @fq_b (And.intro @List.forall_mem_cons.{0} (And.intro @forall_nil (And.intro @sa_ok (And.intro @rowPu.eq_1 (And.intro @rowPuE.eq_1 (And.intro @rowSrc.eq_1 (And.intro @rowSrc.eq_2 (And.intro @nm1 (@nm2)))))))))))))))))))))
def v9 := And.intro @oM_at <| And.intro @oH_at (And.intro @oD_at (And.intro @oE_at (And.intro @oT_at (And.intro @oP_at (And.intro @oB_at (And.intro @oG_at (And.intro @oA_at (And.intro @oS_at (And.intro @cI_at @cB_at)))))))))
def v10 := And.intro @implies_true.{0} (And.intro @implies_true.{1} (And.intro @forall_const.{0} (And.intro @forall_const.{1} (And.intro @undef.eq_1 (And.intro @InI.eq_1 (And.intro @runKC_n (And.intro @runKD_s (And.intro @runKB_s (And.intro @runKC_s (And.intro @runKT_s (And.intro @D.oflat.eq_1 (And.intro @D.oflat.eq_2 (And.intro @D.oflat.eq_3 (And.intro @D.oflat.eq_4 (And.intro (And.intro @D.oflat.eq_5 @D.oflat.eq_6) (And.intro @oflatL.eq_1 (And.intro @oflatL.eq_2 (And.intro @flatAt.eq_1 (And.intro @flatRs.eq_1 (And.intro @flatRs.eq_2 @eff.eq_33))))))))))))))))))))
def vv := And.intro v10 (And.intro v9 (And.intro v1 (And.intro v2 (And.intro v3 (And.intro v4 (And.intro v5 (And.intro v6 (And.intro v7 v8))))))))
end Go.Proofs.Ytadjhfjiimgddaa

/- Small plain notions for walks over worlds: 'Only': no old block but one has changed; 'Kept': no old block has changed. No program in sight. -/
namespace Go.Proofs.Ytadjhfjiimgddaa
open Go.RowKit
abbrev Kept (w w' : World) : Prop := Below w.heap.size w w'
theorem Kept.refl (w : World) : Kept w w := Below.refl _ _
theorem Kept.trans {a b c : World} (h : Kept a b) (k : Kept b c) : Kept a c := Below.trans h (Below.mono k h.size)
theorem Kept.alloc {a w : World} (h : Kept a w) (o : Obj) : Kept a (w.alloc o) := Below.alloc h h.size o
theorem Kept.drew {a w : World} (h : Kept a w) : Kept a w.drew := Below.drew h
theorem Kept.setCell {a w : World} (h : Kept a w) {p : Addr} (hp : a.heap.size ≤ p.block) (u : Value) : Kept a (w.setCell p u) := Below.setCell h hp u
structure Only (bs : Nat) (w w' : World) : Prop where
  os : w'.os = w.os
  tape : w'.tape = w.tape
  output : w'.output = w.output
  size : w.heap.size ≤ w'.heap.size
  block : ∀ k, k < w.heap.size → k ≠ bs → w'.heap[k]? = w.heap[k]?
theorem Only.refl (bs : Nat) (w : World) : Only bs w w := ⟨rfl, rfl, rfl, Nat.le_refl _, fun _ _ _ => rfl⟩
theorem Only.trans {bs : Nat} {a b c : World} (h : Only bs a b) (k : Only bs b c) : Only bs a c :=
  ⟨k.os.trans h.os, k.tape.trans h.tape, k.output.trans h.output, Nat.le_trans h.size k.size, fun i hi hn => (k.block i (Nat.lt_of_lt_of_le hi h.size) hn).trans (h.block i hi hn)⟩
theorem Only.of_kept {bs : Nat} {w w' : World} (h : Kept w w') : Only bs w w' := ⟨h.os, h.tape, h.output, h.size, fun k hk _ => h.block k hk⟩
theorem Only.kept {bs : Nat} {a w w' : World} (h : Kept a w) (k : Only bs w w') (hb : a.heap.size ≤ bs) : Kept a w' :=
  ⟨k.os.trans h.os, k.tape.trans h.tape, k.output.trans h.output, Nat.le_trans h.size k.size, fun i hi => (k.block i (Nat.lt_of_lt_of_le hi h.size) (by omega)).trans (h.block i hi)⟩
theorem Only.alloc {bs : Nat} {a w : World} (h : Only bs a w) (o : Obj) : Only bs a (w.alloc o) := h.trans (.of_kept ((Kept.refl w).alloc o))
theorem Only.drew {bs : Nat} {a w : World} (h : Only bs a w) : Only bs a w.drew := ⟨h.os, h.tape, h.output, h.size, h.block⟩
theorem Only.setCell {bs : Nat} {a w : World} (h : Only bs a w) {p : Addr} (hp : p.block = bs ∨ a.heap.size ≤ p.block) (u : Value) : Only bs a (w.setCell p u) :=
  ⟨h.os, h.tape, h.output, by have := h.size; simpa [World.setCell] using this, fun k hk hn => by rw [Below.heap_setCell _ _ _ _ (by omega)]; exact h.block k hk hn⟩
def farCell (w : World) (b o : Nat) : Option Value := w.cell? ⟨b, o, none⟩
def farFree (w : World) (b o : Nat) : Bool := w.frozen? ⟨b, o, none⟩
theorem kcell {w w' : World} (hb : Kept w w') : (∀ b o, w'.cell? ⟨b, o, none⟩ = if b < w.heap.size then w.cell? ⟨b, o, none⟩ else farCell w' b o) ∧ (∀ b o, w'.frozen? ⟨b, o, none⟩ = if b < w.heap.size then w.frozen? ⟨b, o, none⟩ else farFree w' b o) :=
  ⟨fun b o => by split; · exact Below.cell hb (p := ⟨b, o, none⟩) ‹_›
                 · rfl,
   fun b o => by split; · exact Below.frozen hb (p := ⟨b, o, none⟩) ‹_›
                 · rfl⟩
theorem ocell {bs : Nat} {w w' : World} (hb : Only bs w w') : (∀ b o, w'.cell? ⟨b, o, none⟩ = if b < w.heap.size ∧ b ≠ bs then w.cell? ⟨b, o, none⟩ else farCell w' b o) ∧ (∀ b o, w'.frozen? ⟨b, o, none⟩ = if b < w.heap.size ∧ b ≠ bs then w.frozen? ⟨b, o, none⟩ else farFree w' b o) :=
  ⟨fun b o => by split; · exact World.cell?_of_block (w := w) (hb.block b (by omega) (by omega))
                 · rfl,
   fun b o => by split; · exact World.frozen?_of_block (w := w) (hb.block b (by omega) (by omega))
                 · rfl⟩
@[go_sem] theorem cell_alloc_ite (w : World) (c : Array Value) (t : TypeId) (fr : Nat × Nat) (n i : Nat) : (w.alloc (.cells c t fr)).cell? ⟨n, i, none⟩ = if n < w.heap.size then w.cell? ⟨n, i, none⟩ else if n = w.heap.size then c[i]? else farCell (w.alloc (.cells c t fr)) n i := by
  split
  · exact World.cell?_alloc_lt _ _ _ ‹_›
  split
  · subst n
    show (match (w.heap.push _)[w.heap.size]? with | some (.cells c _ _) => _ | _ => _) = _
    simp
  · rfl
@[go_sem] theorem free_alloc_ite (w : World) (c : Array Value) (t : TypeId) (n i : Nat) : (w.alloc (.cells c t)).frozen? ⟨n, i, none⟩ = if n < w.heap.size then w.frozen? ⟨n, i, none⟩ else if n = w.heap.size then false else farFree (w.alloc (.cells c t)) n i := by
  split
  · exact World.frozen?_alloc_past _ _ _ ‹_›
  split
  · exact World.frozen?_alloc_at _ _ _ _ ‹_›
  · rfl
@[go_sem] theorem cell_set_ite (w : World) (b o n i : Nat) (v : Value) : (w.setCell ⟨b, o, none⟩ v).cell? ⟨n, i, none⟩ = if b = n ∧ o = i then (w.cell? ⟨n, i, none⟩).map (fun _ => v) else w.cell? ⟨n, i, none⟩ := by
  split
  · obtain ⟨rfl, rfl⟩ := ‹_ ∧ _›
    cases hc : w.cell? ⟨b, o, none⟩ with
    | some u => exact World.cell?_setCell_same _ _ _ hc
    | none =>
      simp only [World.cell?, World.setCell, Array.getElem?_modify, if_pos] at hc ⊢
      cases hh : w.heap[b]? with
      | none => simp
      | some x =>
        rw [hh] at hc
        cases x <;> simp at hc ⊢
        omega
  · exact World.cell?_setCell_other _ _ _ _ (fun e => by injection e with e1 e2; exact (‹¬ (b = n ∧ o = i)› ⟨e1, e2⟩).elim)
theorem kcell1 {w w' : World} (hb : Kept w w') {b : Nat} (h : b < w.heap.size) (o : Nat) : w'.cell? ⟨b, o, none⟩ = w.cell? ⟨b, o, none⟩ := Below.cell hb (p := ⟨b, o, none⟩) h
theorem ocell1 {bs : Nat} {w w' : World} (hb : Only bs w w') {b : Nat} (h : b < w.heap.size) (hn : b ≠ bs) (o : Nat) : w'.cell? ⟨b, o, none⟩ = w.cell? ⟨b, o, none⟩ := World.cell?_of_block (w := w) (hb.block b h hn)
structure KW (w : World) where
  it : World
  kept : Kept w it
structure OW (bs : Nat) (w : World) where
  it : World
  only : Only bs w it
instance (w : World) : Nonempty (KW w) := ⟨⟨w, Kept.refl w⟩⟩
instance (bs : Nat) (w : World) : Nonempty (OW bs w) := ⟨⟨w, Only.refl bs w⟩⟩
@[go_sem] theorem kw_cell {w : World} (k : KW w) (b o : Nat) : k.it.cell? ⟨b, o, none⟩ = if b < w.heap.size then w.cell? ⟨b, o, none⟩ else farCell k.it b o := (kcell k.kept).1 b o
@[go_sem] theorem ow_cell {bs : Nat} {w : World} (k : OW bs w) (b o : Nat) : k.it.cell? ⟨b, o, none⟩ = if b < w.heap.size ∧ b ≠ bs then w.cell? ⟨b, o, none⟩ else farCell k.it b o := (ocell k.only).1 b o
theorem wp_region_kw {P : Program} {id : Nat} {Q : Exit → Act → World → Prop} {a : Act} {w : World} {l : List Oper} (hm : P.follows .mixedOrders = true) (hB : Region.lexB .any l.toArray = true)
    (h : wpQuiet P l.toArray (fun w' => ∃ k : KW w, w' = k.it) (fun a' => ∀ w', (∃ k : KW w, w' = k.it) → Q .normal a' w') l a) : (Code.region id l.toArray true).wp P Q a w :=
  wp_region_quiet (C := fun w' => ∃ k : KW w, w' = k.it) hm hB ⟨⟨w.drew, (Kept.refl w).drew⟩, rfl⟩ (by simpa using h)
def Ret (v : Value) (w : World) (e : Ending) (w' : World) : Prop := e = .returned v ∧ Kept w w'
theorem heap_new (w : World) (o : Obj) : (w.alloc o).heap[w.heap.size]? = some o := by
  show (w.heap.push o)[_]? = _
  simp
def Box (w : World) (b : Nat) (c : Array Value) : Prop := ∃ t, w.heap[b]? = some (.cells c t (0, 0))
theorem Box.cell {w : World} {b : Nat} {c : Array Value} (h : Box w b c) (i : Nat) : w.cell? ⟨b, i, none⟩ = c[i]? := by
  obtain ⟨t, h⟩ := h
  simp [World.cell?, h]
theorem Box.lt {w : World} {b : Nat} {c : Array Value} (h : Box w b c) : b < w.heap.size := by
  obtain ⟨t, h⟩ := h
  rcases Nat.lt_or_ge b w.heap.size with hl | hl
  · exact hl
  · rw [Array.getElem?_eq_none hl] at h; cases h
theorem Box.kept {w w' : World} {b : Nat} {c : Array Value} (h : Box w b c) (k : Kept w w') : Box w' b c := by
  have hl := h.lt
  obtain ⟨t, h⟩ := h
  exact ⟨t, by rw [k.block b hl]; exact h⟩
theorem Box.only {w w' : World} {b bs : Nat} {c : Array Value} (h : Box w b c) (k : Only bs w w') (hn : b ≠ bs) : Box w' b c := by
  have hl := h.lt
  obtain ⟨t, h⟩ := h
  exact ⟨t, by rw [k.block b hl hn]; exact h⟩
theorem Box.new {w : World} {b : Nat} {c : Array Value} {t : TypeId} (hb : b = w.heap.size) : Box (w.alloc (.cells c t)) b c := ⟨t, by subst hb; exact heap_new w _⟩
theorem Box.old {w : World} {b : Nat} {c : Array Value} (h : Box w b c) (o : Obj) : Box (w.alloc o) b c := h.kept ((Kept.refl w).alloc o)
theorem Box.drew {w : World} {b : Nat} {c : Array Value} (h : Box w b c) : Box w.drew b c := h
theorem Box.set {w : World} {b i : Nat} {c c' : Array Value} {v : Value} (h : Box w b c) (hc : c' = c.setIfInBounds i v) : Box (w.setCell ⟨b, i, none⟩ v) b c' := by
  obtain ⟨t, h⟩ := h
  refine ⟨t, ?_⟩
  subst hc
  simp [World.setCell, Array.getElem?_modify, h]
theorem Box.other {w : World} {b : Nat} {c : Array Value} {p : Addr} {v : Value} (h : Box w b c) (hn : b ≠ p.block) : Box (w.setCell p v) b c := by
  obtain ⟨t, h⟩ := h
  exact ⟨t, by rw [Below.heap_setCell _ _ _ _ hn]; exact h⟩
def I64 (n : Int) : Prop := -9223372036854775808 ≤ n ∧ n ≤ 9223372036854775807
def IsSrc (base : Nat) (w : World) (bs : Nat) : Prop :=
  ∃ (a : Option Addr) (len cap at' : Nat) (t : TypeId), base ≤ bs ∧ bs < w.heap.size ∧ len ≤ 2000 ∧ at' ≤ len ∧
    w.heap[bs]? = some (.cells #[.slice a len cap, .int .i64 at'] t (0, 0)) ∧
    (0 < len → ∃ b o, a = some ⟨b, o, none⟩ ∧ b < base ∧ ∀ i, i < len → ∃ n : Int, I64 n ∧ w.cell? ⟨b, o + i, none⟩ = some (.int .i64 n))
theorem IsSrc.lt {base : Nat} {w : World} {bs : Nat} (h : IsSrc base w bs) : base ≤ bs ∧ bs < w.heap.size := by
  obtain ⟨a, len, cap, at', t, h1, h2, _⟩ := h
  exact ⟨h1, h2⟩
theorem IsSrc.keep {base : Nat} {w w' : World} {bs : Nat} (h : IsSrc base w bs) (hs : w.heap.size ≤ w'.heap.size) (hb : w'.heap[bs]? = w.heap[bs]?) (hl : ∀ k, k < base → w'.heap[k]? = w.heap[k]?) : IsSrc base w' bs := by
  obtain ⟨a, len, cap, at', t, h1, h2, h3, h4, h5, h6⟩ := h
  refine ⟨a, len, cap, at', t, h1, by omega, h3, h4, by rw [hb]; exact h5, fun hp => ?_⟩
  obtain ⟨b, o, e, hbb, hc⟩ := h6 hp
  refine ⟨b, o, e, hbb, fun i hi => ?_⟩
  obtain ⟨n, hn, hcell⟩ := hc i hi
  exact ⟨n, hn, by rw [World.cell?_of_block (w := w) (hl b hbb)]; exact hcell⟩
theorem IsSrc.kept {base : Nat} {w w' : World} {bs : Nat} (h : IsSrc base w bs) (k : Kept w w') : IsSrc base w' bs :=
  h.keep k.size (k.block _ h.lt.2) (fun i hi => k.block i (by have := h.lt; omega))
theorem IsSrc.only {base : Nat} {w w' : World} {bs b2 : Nat} (h : IsSrc base w bs) (k : Only b2 w w') (hn : b2 ≠ bs) (hb : base ≤ b2) : IsSrc base w' bs :=
  h.keep k.size (k.block _ h.lt.2 (Ne.symm hn)) (fun i hi => k.block i (by have := h.lt; omega) (by omega))
theorem IsSrc.heap {base : Nat} {w w' : World} {bs : Nat} (h : IsSrc base w bs) (e : w'.heap = w.heap) : IsSrc base w' bs :=
  h.keep (by rw [e]; exact Nat.le_refl _) (by rw [e]) (fun k _ => by rw [e])
theorem IsSrc.alloc {base : Nat} {w : World} {bs : Nat} (h : IsSrc base w bs) (o : Obj) : IsSrc base (w.alloc o) bs := h.kept ((Kept.refl w).alloc o)
theorem IsSrc.drew {base : Nat} {w : World} {bs : Nat} (h : IsSrc base w bs) : IsSrc base w.drew bs := h.kept (Kept.refl w).drew
theorem IsSrc.setCell {base : Nat} {w : World} {bs : Nat} (h : IsSrc base w bs) {p : Addr} (hn : p.block ≠ bs) (hp : base ≤ p.block) (u : Value) : IsSrc base (w.setCell p u) bs :=
  h.keep (by simp [World.setCell]) (Below.heap_setCell _ _ _ _ (by omega)) (fun k hk => Below.heap_setCell _ _ _ _ (by omega))
end Go.Proofs.Ytadjhfjiimgddaa

/- Walks of the reader of numbers: batchlinekeep.Mod, Src.Raw, Src.N, Src.Range, Src.Pick. -/
namespace Go.Proofs.Ytadjhfjiimgddaa
open Go.RowKit
def RowOf (w : World) (b o len : Nat) (Q : Value → Prop) : Prop := ∀ i, i < len → ∃ v, Q v ∧ w.cell? ⟨b, o + i, none⟩ = some v
theorem RowOf.only {w w' : World} {b o len bs : Nat} {Q : Value → Prop} (h : RowOf w b o len Q) (k : Only bs w w') (hb : b < w.heap.size) (hn : b ≠ bs) : RowOf w' b o len Q := fun i hi => by
 obtain ⟨v, hv, hc⟩ := h i hi
 exact ⟨v, hv, by rw [ocell1 k hb hn]; exact hc⟩
theorem RowOf.new {w : World} {n k : Nat} {c : Array Value} {t : TypeId} {fr : Nat × Nat} {Q : Value → Prop} (hn : n = w.heap.size) (hk : k = c.size) (h : ∀ v ∈ c, Q v) : RowOf (w.alloc (.cells c t fr)) n 0 k Q := fun i hi => by
 subst hn hk
 refine ⟨c[i], h _ (Array.getElem_mem hi), ?_⟩
 rw [cell_alloc_ite, if_neg (by omega), if_pos rfl]
 simp [hi]
def IntIs (P : Int → Prop) (v : Value) : Prop := ∃ n, P n ∧ v = .int .i64 n
def ArgInts (w : World) (a : Option Addr) (len cap : Nat) : Prop :=
 len ≤ cap ∧ cap ≤ maxLen ∧ (0 < len → ∃ b o, a = some ⟨b, o, none⟩ ∧ b < w.heap.size ∧ RowOf w b o len (IntIs I64))
def IsRow (k : IntKind) (w : World) (a : Option Addr) (len cap : Nat) (zs : List Int) : Prop :=
 (a = none ∧ len = 0 ∧ cap = 0 ∧ zs = []) ∨
 ∃ x, a = some x ∧ len ≤ cap ∧ cap ≤ maxLen ∧ zs.length = cap ∧ (∀ i, i < zs.length → w.cell? (x.add i) = some (.int k (zs.getD i 0))) ∧ ∀ n ∈ zs, (Lit.int k n).wf = true
theorem argInts_of {w : World} {a : Option Addr} {len cap : Nat} {zs : List Int} (h : IsRow .i64 w a len cap zs) : ArgInts w a len cap := by
 rcases h with ⟨rfl, rfl, rfl, _⟩ | ⟨x, rfl, h1, h2, h3, h4, h5⟩
 ·exact ⟨Nat.le_refl _, Nat.zero_le _, fun h => absurd h (by omega)⟩
 ·refine ⟨h1, h2, fun hp => ?_⟩
  obtain ⟨b, o, rfl, hc⟩ := ints_at h4 (by omega)
  refine ⟨b, o, rfl, ?_, fun i hi => ?_⟩
  ·rcases Nat.lt_or_ge b w.heap.size with h | h
   ·exact h
   ·exfalso
    have hc0 := hc 0 (by omega)
    simp only [World.cell?] at hc0
    rw [Array.getElem?_eq_none h] at hc0
    simp at hc0
  ·refine ⟨_, ⟨zs.getD i 0, ?_, rfl⟩, hc i (by omega)⟩
   have hm : zs.getD i 0 ∈ zs := by
    rw [List.getD_eq_getElem?_getD, List.getElem?_eq_getElem (by omega)]
    exact List.getElem_mem _
   exact bounds_i64 (h5 _ hm)
end Go.Proofs.Ytadjhfjiimgddaa

/- A slice of ints that came in stays one where no old block changes. -/
namespace Go.Proofs.Ytadjhfjiimgddaa
open Go.RowKit
theorem ArgInts.kept {w w' : World} {a : Option Addr} {len cap : Nat} (h : ArgInts w a len cap) (k : Kept w w') : ArgInts w' a len cap := by
 obtain ⟨h1, h2, h3⟩ := h
 refine ⟨h1, h2, fun hp => ?_⟩
 obtain ⟨b, o, e, hb, hr⟩ := h3 hp
 refine ⟨b, o, e, Nat.lt_of_lt_of_le hb k.size, fun i hi => ?_⟩
 obtain ⟨v, hv, hc⟩ := hr i hi
 exact ⟨v, hv, by rw [kcell1 k hb]; exact hc⟩
theorem RowOf.drew {w : World} {b o len : Nat} {Q : Value → Prop} (h : RowOf w b o len Q) : RowOf w.drew b o len Q := h
def plainV (us : List Value) : List D := us.map D.v
theorem ints_data {w : World} {a : Option Addr} {len cap : Nat} (h : ArgInts w a len cap) : ∃ (ns : List Int) (Im : Nat → Prop), (∀ n ∈ ns, InI n) ∧ (∀ b, Im b → b < w.heap.size) ∧ RelP Im w.heap (.sl (ns.map fun n => [di n])) (.slice a len cap) := by
 obtain ⟨h1, h2, h3⟩ := h
 rcases Nat.eq_zero_or_pos len with h0 | h0
 ·subst h0
  exact ⟨[], fun _ => False, fun n hn => (by cases hn), fun b hb => hb.elim, .sl0 a cap⟩
 ·obtain ⟨b, o, rfl, hb, hr⟩ := h3 h0
  have hv : ∀ i, i < len → ∃ n, I64 n ∧ hc w.heap b (o + i) = some (.int .i64 n) := fun i hi => by
   obtain ⟨v, ⟨n, hn, rfl⟩, hcell⟩ := hr i hi
   exact ⟨n, hn, by rw [← hc_cell]; exact hcell⟩
  let f : Nat → Int := fun i => match hc w.heap b (o + i) with
   | some (.int .i64 n) => n
   | _ => 0
  have hf : ∀ i, i < len → hc w.heap b (o + i) = some (.int .i64 (f i)) ∧ I64 (f i) := fun i hi => by
   obtain ⟨n, hn, e⟩ := hv i hi
   have : f i = n := by show (match hc w.heap b (o + i) with | some (.int .i64 n) => n | _ => 0) = n; rw [e]
   rw [this]
   exact ⟨e, hn⟩
  refine ⟨(List.range len).map f, fun b' => b' = b, fun n hn => ?_, fun b' hb' => by rw [hb']; exact hb, ?_⟩
  ·obtain ⟨i, hi, rfl⟩ := List.mem_map.1 hn
   exact (hf i (List.mem_range.1 hi)).2
  ·refine .sl1 _ b o len cap 1 (fun i _ => .int .i64 (f i)) (by simp) h1 (fun r hr => ?_) rfl (fun i j hi hj => ?_) (fun i j hi hj => ?_)
   ·obtain ⟨n, _, rfl⟩ := List.mem_map.1 hr
    rfl
   ·obtain rfl : j = 0 := by omega
    rw [show o + i * 1 + 0 = o + i by omega]
    exact ⟨(hf i hi).1, rfl⟩
   ·have hi' : i < len := by simpa using hi
    have e : ((((List.range len).map f).map fun n => [di n])[i]'hi) = [di (f i)] := by simp
    have hj' : j = 0 := by
     have : j < [di (f i)].length := by rw [← e]; exact hj
     simpa using this
    subst hj'
    have e2 : (((((List.range len).map f).map fun n => [di n])[i]'hi)[0]'hj) = di (f i) := by simp
    rw [e2]
    exact .v _
theorem kept_of {P : Program} {R : D → Hp → Prop} {Im Im' : Nat → Prop} {p p' : Pl} {w w' : World} {e : Ending} {v : D} {H' : Hp} {u : Value} {nn : Nm} (L : Left P Hp.none nn R Im p w e w' Im' p' v H' u) : Kept w w' := by
 have X := L.relE 0
 exact ⟨X.os, X.tape, X.output, X.size, fun b hb => X.block b hb fun ⟨i, e, hi, _⟩ => by cases hi⟩
abbrev AllIm (w : World) : Nat → Prop := fun b => b < w.heap.size
theorem law_intsG {f : FuncId} {us : List Value} {a : Option Addr} {len cap : Nat} {w : World} (hg : GlOk (AllIm w) w.heap) (h : ArgInts w a len cap) (hc : ∀ ns : List Int, (∀ n ∈ ns, InI n) → CallsA Try.prog f (.sl (ns.map fun n => [di n]) :: plainV us) Hp.none (0, 0) (Pu (db true) Hp.none)) :
  Calls Try.prog f (Value.slice a len cap :: us).toArray w (Ret (.bool true) w) := by
 obtain ⟨ns, Im, h1, h2, h3⟩ := ints_data h
 refine (hc ns h1 w (AllIm w) (fun _ => (0, 0)) (Value.slice a len cap :: us).toArray (by simp [plainV]) (fun j d u hd hu => ?_) ⟨fun i e hi => (by cases hi), fun i j e e' hi => (by cases hi), fun b hb => hb⟩ (fun k _ => rfl) hg).mono ?_
 ·cases j with
  | zero =>
   simp at hd hu
   subst hd hu
   exact .p (h3.mono h2 fun _ _ => rfl)
  | succ j =>
   simp [plainV] at hd hu
   obtain ⟨x, hx, rfl⟩ := hd
   rw [hu] at hx
   cases hx
   exact .p (.v _)
 ·rintro e w' ⟨Im', p', v, H', u, L⟩
  obtain ⟨rfl, rfl⟩ := L.post
  have := rel_v L.rel
  subst this
  exact ⟨L.end_, kept_of L⟩
theorem gl_none (Im : Nat → Prop) (h : Array Obj) : GlOk Im h := fun g f hg => by cases hg
theorem law_ints {f : FuncId} {us : List Value} {a : Option Addr} {len cap : Nat} {w : World} (h : ArgInts w a len cap) (hc : ∀ ns : List Int, (∀ n ∈ ns, InI n) → CallsA Try.prog f (.sl (ns.map fun n => [di n]) :: plainV us) Hp.none (0, 0) (Pu (db true) Hp.none)) :
  Calls Try.prog f (Value.slice a len cap :: us).toArray w (Ret (.bool true) w) := law_intsG (gl_none _ _) h hc
end Go.Proofs.Ytadjhfjiimgddaa

/- pack.twice: a map in a loop, walked by hand; its contract over data. -/
namespace Go.Proofs.Ytadjhfjiimgddaa
open Go Go.RowKit Go.Maps
theorem weak_ip {J : List Nm} {F : Fr} {H : Hp} (t : Nat) (i : Nm) (g sz : Nat) (row : List D) (h : F t = .ptr i g 0 0) (hi : H i = some ⟨g, sz, [row]⟩) (hp : ∀ d ∈ row, d.plain = true) (hJ : i ∉ J) : Weak J ⟨F, H⟩ ⟨putF F (some t) (.ip row), H.kills [i]⟩ := by
 intro E hE Im p a w hR
 obtain ⟨Im1, g1, r1, x1, b1⟩ := kills_spec (E := E) (w := w) [i] Im H hR.hp hR.en
 refine ⟨Im1, p, hR.sz, fun k => ?_, r1, x1, hR.gr.trans g1, hR.df⟩
 dsimp only [putF]
 by_cases hk : k = t
 ·subst hk
  rw [if_pos rfl]
  have r := hR.fr k
  dsimp only at r
  rw [h] at r
  obtain ⟨c, tt, k1, k2, k3⟩ := hR.hp.cell i _ hi (by simp)
  dsimp only at k1 k3
  have hl : row.length = sz := k3.len row (List.mem_cons_self ..)
  cases r with
  | p r => cases r
  | ptr _ _ _ _ x h1 e hH hg hx =>
   rw [hi] at hH
   cases hH
   rw [hx rfl]
   have key : ∀ j (hj : j < row.length), ∃ u, hc w.heap (p i).1 ((p i).2 + j) = some u ∧ one u = true ∧ ∀ d, row[j]? = some d → RelP Im w.heap d u := fun j hj => by
    obtain ⟨u, u1, u2, u3⟩ := k3.cell 0 j row row[j] rfl (List.getElem?_eq_getElem hj)
    refine ⟨u, ?_, u3, fun d hd => ?_⟩
    ·unfold hc
     rw [k1]
     dsimp only
     rw [← u1]
     congr 1
     omega
    ·rw [List.getElem?_eq_getElem hj] at hd
     cases hd
     exact u2.plain (hp _ (List.getElem_mem hj))
   rw [show (p i).2 + 0 * sz + 0 = (p i).2 by omega]
   refine .ip row _ _ (fun j => (hc w.heap (p i).1 ((p i).2 + j)).getD undef) (b1 i (List.mem_cons_self ..) _ hi (by simp)) (fun j hj => ?_) (fun j d hd => ?_)
   ·obtain ⟨u, u1, u2, _⟩ := key j hj
    rw [u1]
    exact ⟨rfl, u2⟩
   ·have hj : j < row.length := by
     rcases Nat.lt_or_ge j row.length with h | h
     ·exact h
     ·rw [List.getElem?_eq_none h] at hd; cases hd
    obtain ⟨u, u1, _, u3⟩ := key j hj
    rw [u1]
    exact (u3 d hd).mono g1.im g1.blk
 ·rw [if_neg hk]
  exact (hR.fr k).mono g1
abbrev ips (l : List (List D)) : List D := l.map D.ip
theorem ips_nms : ∀ (l : List (List D)), nmsL (ips l) = []
 | [] => rfl
 | r :: l => by
  show nmsL (D.ip r :: ips l) = []
  rw [nmsL, ips_nms l]; rfl
theorem ips_lend (H : Hp) : ∀ (l : List (List D)), (ips l).map (lend H) = ips l
 | [] => rfl
 | r :: l => by
  show lend H (D.ip r) :: (ips l).map (lend H) = D.ip r :: ips l
  rw [ips_lend H l]; rfl
theorem ips_lendNm (H : Hp) : ∀ (l : List (List D)), (ips l).flatMap (lendNm H) = []
 | [] => rfl
 | r :: l => by
  show lendNm H (D.ip r) ++ (ips l).flatMap (lendNm H) = []
  rw [ips_lendNm H l]; rfl
theorem ips_ok (H : Hp) : ∀ (l : List (List D)), lendOkL' H (ips l) = True
 | [] => rfl
 | r :: l => by
  show (lendOk H (D.ip r) ∧ lendOkL' H (ips l)) = True
  rw [ips_ok H l]; simp [lendOk, lendOk1]
theorem ips_refs (js : List Nm) : ∀ (l : List (List D)), refsInL js (ips l) = true
 | [] => rfl
 | r :: l => by
  show (D.refsIn js (D.ip r) && refsInL js (ips l)) = true
  rw [ips_refs js l]; simp [D.refsIn]
def elV (ag : Bool) (row : List D) : D := if ag = true then .agg row else row.getD 0 .any
def D.done : D → Bool
 | .v _ => true
 | .any => true
 | .sl _ => true
 | _ => false
def doneL : List D → Bool
 | [] => true
 | d :: ds => d.done && doneL ds
theorem done1 (H : Hp) (js : List Nm) {d : D} (h : d.done = true) : lend1 H d = d ∧ lend H d = d ∧ lendNm1 H d = [] ∧ lendNm H d = [] ∧ lendOk1 H d = True ∧ lendOk H d = True ∧ d.nms = [] ∧ d.refsIn js = true ∧ d.plain = true := by
 cases d <;> first | (simp [lend1, lend, lendNm1, lendNm, lendOk1, lendOk, D.nms, D.refsIn, D.plain]; done) | (simp [D.done] at h)
theorem doneR (H : Hp) (js : List Nm) : ∀ {r : List D}, doneL r = true → r.map (lend1 H) = r ∧ r.flatMap (lendNm1 H) = [] ∧ lendOkL H r = True ∧ nmsL r = [] ∧ refsInL js r = true
 | [], _ => ⟨rfl, rfl, rfl, rfl, by simp [refsInL]⟩
 | d :: ds, h => by
  rw [doneL, Bool.and_eq_true] at h
  obtain ⟨a1, _, a2, _, a3, _, a4, a5, _⟩ := done1 H js h.1
  obtain ⟨b1, b2, b3, b4, b5⟩ := doneR H js h.2
  refine ⟨by rw [List.map_cons, a1, b1], by rw [List.flatMap_cons, a2, b2]; rfl, ?_, by rw [nmsL, a4, b4]; rfl, by rw [refsInL, a5, b5]; rfl⟩
  rw [lendOkL, a3, b3]; simp
def idxOf (q : List D → Bool) : Int → List (List D) → Int
 | _, [] => -1
 | k, r :: l => if q r = true then k else idxOf q (k + 1) l
theorem idxOf_any (q : List D → Bool) : ∀ (l : List (List D)) (k : Int), 0 ≤ k → (0 ≤ idxOf q k l ↔ l.any q = true)
 | [], k, h => by simp [idxOf]
 | r :: l, k, h => by
  unfold idxOf
  split
  ·rename_i hq; simp [hq, h]
  ·rename_i hq; rw [idxOf_any q l (k + 1) (by omega)]; simp [hq]
theorem idxOf_drop (q : List D → Bool) (l : List (List D)) (k : Nat) (r : List D) (h : l[k]? = some r) : idxOf q k (l.drop k) = if q r = true then (k : Int) else idxOf q (k + 1 : Nat) (l.drop (k + 1)) := by
 obtain ⟨hk, he⟩ := List.getElem?_eq_some_iff.1 h
 rw [List.drop_eq_getElem_cons hk, he]
 rfl
def rowQ (P : Program) (g : FuncId) (q : D → Bool) : List D → Hp → Nm → Option (Prop × (D → Hp → Prop)) := fun args Hs nn =>
 match args with
 | el :: rest => some (Hs = Hp.none ∧ CallsA P g (el :: rest) Hp.none nn (Pu (db (q el)) Hp.none), Pu (db (q el)) Hp.none)
 | [] => Option.none
theorem tc_q {P : Program} {g : FuncId} {q : D → Bool} {T : Tbl} (hf : fnOk P g = true) (hT : TblOk P T) : TblOk P (tc g (rowQ P g q) T) :=
 tc_row hf (fun args Hs nn pre R hr hp => by
  unfold rowQ at hr
  split at hr
  ·cases hr
   obtain ⟨rfl, hp⟩ := hp
   exact ⟨⟨_, Hp.none, rfl, rfl⟩, hp⟩
  ·cases hr) hT
def QOk (P : Program) (ag : Bool) (sz : Nat) (q : D → Bool) (g : FuncId) (l : List (List D)) (rows : List (List D)) : Prop :=
 fnOk P g = true ∧ (rows.length : Int) ≤ 4611686018427387904 ∧ ∀ r ∈ rows, r.length = sz ∧ doneL r = true ∧ (ag = false → ∃ y, r = [.v y]) ∧ ∀ nn, CallsA P g (elV ag r :: ips l) Hp.none nn (Pu (db (q (elV ag r))) Hp.none)
def ipsOf : List D → Option (List (List D))
 | [] => some []
 | .ip r :: l => match ipsOf l with
  | some ls => some (r :: ls)
  | Option.none => Option.none
 | _ => Option.none
theorem ipsOf_eq : ∀ {l : List D} {ls : List (List D)}, ipsOf l = some ls → l = ips ls
 | [], ls, h => by rw [ipsOf] at h; cases h; rfl
 | d :: l, ls, h => by
  cases d <;> rw [ipsOf] at h <;> try cases h
  split at h
  ·rename_i ms hm
   cases h
   rw [ipsOf_eq hm]
   rfl
  ·cases h
def selQ (P : Program) (ag : Bool) (sz : Nat) (q : FuncId → List (List D) → D → Bool) (out : (List D → Bool) → List (List D) → D) : List D → Option (Prop × D)
 | [.sl rows, .clo g [] cs] => match ipsOf cs with
  | some l => some (QOk P ag sz (q g l) g l rows, out (fun r => q g l (elV ag r)) rows)
  | Option.none => Option.none
 | _ => Option.none
def c134 : C := (.seq (.ops false [oP 4 (.mv (cB false))]) (.seq (.ops false [oM 5 0, oM 6 1, oB 7 (.call 161 [(.t 5), (.t 6)]), oP 8 (.bin .geq (.t 7) (cI 0)), oM 4 8]) .ret))
def r134 : List RV := [(.tmp 4)]
theorem c134_ok : ∃ code, Try.f134.body = some code ∧ compC Try.prog Try.f134.ntmps code = some (C.strip c134) := ⟨_, rfl, by kernel_rfl⟩
theorem r134_ok : compRes Try.prog Try.f134.results.toList = some r134 := by kernel_rfl
theorem f134_ok : fnOk Try.prog 134 = true := by kernel_rfl
def c145 : C := (.seq (.ops false [oP 4 (.mv (cB false))]) (.seq (.ops false [oM 5 0, oM 6 1, oB 7 (.call 173 [(.t 5), (.t 6)]), oP 8 (.bin .geq (.t 7) (cI 0)), oM 4 8]) .ret))
def r145 : List RV := [(.tmp 4)]
theorem c145_ok : ∃ code, Try.f145.body = some code ∧ compC Try.prog Try.f145.ntmps code = some (C.strip c145) := ⟨_, rfl, by kernel_rfl⟩
theorem r145_ok : compRes Try.prog Try.f145.results.toList = some r145 := by kernel_rfl
theorem f145_ok : fnOk Try.prog 145 = true := by kernel_rfl
def c159 : C := (.seq (.ops false [oP 4 (.mv (cB false))]) (.seq (.ops false [oM 5 0, oM 6 1, oB 7 (.call 177 [(.t 5), (.t 6)]), oP 8 (.bin .geq (.t 7) (cI 0)), oM 4 8]) .ret))
def r159 : List RV := [(.tmp 4)]
theorem c159_ok : ∃ code, Try.f159.body = some code ∧ compC Try.prog Try.f159.ntmps code = some (C.strip c159) := ⟨_, rfl, by kernel_rfl⟩
theorem r159_ok : compRes Try.prog Try.f159.results.toList = some r159 := by kernel_rfl
theorem f159_ok : fnOk Try.prog 159 = true := by kernel_rfl
def c161_1 : C := (.ops false [oP 18 (.bin .add (.t 8) (cI 1)), oM 8 18])
def c161_2 : C := (.seq (.block 1 (.seq (.ops false [oM 10 8, oM 5 10]) (.seq (.ops false [oM 11 1, oM 12 0, oM 13 5, oP 14 (.iaS 1 (.t 12) (.t 13)), oP 15 (.ld 1 false (.t 14)), oP 16 (.callv (.t 11) [(.t 15)])]) (.cond (.t 16) (.seq (.ops false [oM 17 5, oM 4 17]) .ret) .skip)))) c161_1)
def c161_3 : C := (.seq (.ops false [oP 9 (.bin .lss (.t 8) (.t 7))]) (.seq (.cond (.t 9) .skip (.exit 0)) c161_2))
def c161_4 : C := (.seq (.ops false [oP 4 (.mv (cI (-1)))]) .ret)
def c161 : C := (.seq (.ops false [oP 4 (.mv (cI 0))]) (.seq (.seq (.ops false [oM 6 0, oP 7 (.len (.t 6)), oP 8 (.mv (cI 0))]) (.block 0 (.loop c161_3))) c161_4))
def r161 : List RV := [(.tmp 4)]
theorem c161_ok : ∃ code, Try.f161.body = some code ∧ compC Try.prog Try.f161.ntmps code = some (C.strip c161) := ⟨_, rfl, by kernel_rfl⟩
theorem r161_ok : compRes Try.prog Try.f161.results.toList = some r161 := by kernel_rfl
theorem f161_ok : fnOk Try.prog 161 = true := by kernel_rfl
def c163_1 : C := (.ops false [oP 18 (.bin .add (.t 8) (cI 1)), oM 8 18])
def c163_2 : C := (.seq (.block 1 (.seq (.ops false [oM 10 8, oM 5 10]) (.seq (.ops false [oM 11 1, oM 12 0, oM 13 5, oP 14 (.iaS 5 (.t 12) (.t 13)), oP 15 (.ld 5 true (.t 14)), oP 16 (.callv (.t 11) [(.t 15)])]) (.cond (.t 16) (.seq (.ops false [oM 17 5, oM 4 17]) .ret) .skip)))) c163_1)
def c163_3 : C := (.seq (.ops false [oP 9 (.bin .lss (.t 8) (.t 7))]) (.seq (.cond (.t 9) .skip (.exit 0)) c163_2))
def c163_4 : C := (.seq (.ops false [oP 4 (.mv (cI (-1)))]) .ret)
def c163 : C := (.seq (.ops false [oP 4 (.mv (cI 0))]) (.seq (.seq (.ops false [oM 6 0, oP 7 (.len (.t 6)), oP 8 (.mv (cI 0))]) (.block 0 (.loop c163_3))) c163_4))
def r163 : List RV := [(.tmp 4)]
theorem c163_ok : ∃ code, Try.f163.body = some code ∧ compC Try.prog Try.f163.ntmps code = some (C.strip c163) := ⟨_, rfl, by kernel_rfl⟩
theorem r163_ok : compRes Try.prog Try.f163.results.toList = some r163 := by kernel_rfl
theorem f163_ok : fnOk Try.prog 163 = true := by kernel_rfl
def c168 : C := (.seq (.ops false [oP 4 (.mv (cB false))]) (.seq (.ops false [oM 5 0, oM 6 1, oB 7 (.call 178 [(.t 5), (.t 6)]), oP 8 (.bin .geq (.t 7) (cI 0)), oM 4 8]) .ret))
def r168 : List RV := [(.tmp 4)]
theorem c168_ok : ∃ code, Try.f168.body = some code ∧ compC Try.prog Try.f168.ntmps code = some (C.strip c168) := ⟨_, rfl, by kernel_rfl⟩
theorem r168_ok : compRes Try.prog Try.f168.results.toList = some r168 := by kernel_rfl
theorem f168_ok : fnOk Try.prog 168 = true := by kernel_rfl
def c171 : C := (.seq (.ops false [oP 4 (.mv (cB false))]) (.seq (.ops false [oM 5 0, oM 6 1, oB 7 (.call 163 [(.t 5), (.t 6)]), oP 8 (.bin .geq (.t 7) (cI 0)), oM 4 8]) .ret))
def r171 : List RV := [(.tmp 4)]
theorem c171_ok : ∃ code, Try.f171.body = some code ∧ compC Try.prog Try.f171.ntmps code = some (C.strip c171) := ⟨_, rfl, by kernel_rfl⟩
theorem r171_ok : compRes Try.prog Try.f171.results.toList = some r171 := by kernel_rfl
theorem f171_ok : fnOk Try.prog 171 = true := by kernel_rfl
def c173_1 : C := (.ops false [oP 18 (.bin .add (.t 8) (cI 1)), oM 8 18])
def c173_2 : C := (.seq (.block 1 (.seq (.ops false [oM 10 8, oM 5 10]) (.seq (.ops false [oM 11 1, oM 12 0, oM 13 5, oP 14 (.iaS 1 (.t 12) (.t 13)), oP 15 (.ld 1 false (.t 14)), oP 16 (.callv (.t 11) [(.t 15)])]) (.cond (.t 16) (.seq (.ops false [oM 17 5, oM 4 17]) .ret) .skip)))) c173_1)
def c173_3 : C := (.seq (.ops false [oP 9 (.bin .lss (.t 8) (.t 7))]) (.seq (.cond (.t 9) .skip (.exit 0)) c173_2))
def c173_4 : C := (.seq (.ops false [oP 4 (.mv (cI (-1)))]) .ret)
def c173 : C := (.seq (.ops false [oP 4 (.mv (cI 0))]) (.seq (.seq (.ops false [oM 6 0, oP 7 (.len (.t 6)), oP 8 (.mv (cI 0))]) (.block 0 (.loop c173_3))) c173_4))
def r173 : List RV := [(.tmp 4)]
theorem c173_ok : ∃ code, Try.f173.body = some code ∧ compC Try.prog Try.f173.ntmps code = some (C.strip c173) := ⟨_, rfl, by kernel_rfl⟩
theorem r173_ok : compRes Try.prog Try.f173.results.toList = some r173 := by kernel_rfl
theorem f173_ok : fnOk Try.prog 173 = true := by kernel_rfl
def c177_1 : C := (.ops false [oP 18 (.bin .add (.t 8) (cI 1)), oM 8 18])
def c177_2 : C := (.seq (.block 1 (.seq (.ops false [oM 10 8, oM 5 10]) (.seq (.ops false [oM 11 1, oM 12 0, oM 13 5, oP 14 (.iaS 7 (.t 12) (.t 13)), oP 15 (.ld 7 true (.t 14)), oP 16 (.callv (.t 11) [(.t 15)])]) (.cond (.t 16) (.seq (.ops false [oM 17 5, oM 4 17]) .ret) .skip)))) c177_1)
def c177_3 : C := (.seq (.ops false [oP 9 (.bin .lss (.t 8) (.t 7))]) (.seq (.cond (.t 9) .skip (.exit 0)) c177_2))
def c177_4 : C := (.seq (.ops false [oP 4 (.mv (cI (-1)))]) .ret)
def c177 : C := (.seq (.ops false [oP 4 (.mv (cI 0))]) (.seq (.seq (.ops false [oM 6 0, oP 7 (.len (.t 6)), oP 8 (.mv (cI 0))]) (.block 0 (.loop c177_3))) c177_4))
def r177 : List RV := [(.tmp 4)]
theorem c177_ok : ∃ code, Try.f177.body = some code ∧ compC Try.prog Try.f177.ntmps code = some (C.strip c177) := ⟨_, rfl, by kernel_rfl⟩
theorem r177_ok : compRes Try.prog Try.f177.results.toList = some r177 := by kernel_rfl
theorem f177_ok : fnOk Try.prog 177 = true := by kernel_rfl
def c178_1 : C := (.ops false [oP 18 (.bin .add (.t 8) (cI 1)), oM 8 18])
def c178_2 : C := (.seq (.block 1 (.seq (.ops false [oM 10 8, oM 5 10]) (.seq (.ops false [oM 11 1, oM 12 0, oM 13 5, oP 14 (.iaS 3 (.t 12) (.t 13)), oP 15 (.ld 3 true (.t 14)), oP 16 (.callv (.t 11) [(.t 15)])]) (.cond (.t 16) (.seq (.ops false [oM 17 5, oM 4 17]) .ret) .skip)))) c178_1)
def c178_3 : C := (.seq (.ops false [oP 9 (.bin .lss (.t 8) (.t 7))]) (.seq (.cond (.t 9) .skip (.exit 0)) c178_2))
def c178_4 : C := (.seq (.ops false [oP 4 (.mv (cI (-1)))]) .ret)
def c178 : C := (.seq (.ops false [oP 4 (.mv (cI 0))]) (.seq (.seq (.ops false [oM 6 0, oP 7 (.len (.t 6)), oP 8 (.mv (cI 0))]) (.block 0 (.loop c178_3))) c178_4))
def r178 : List RV := [(.tmp 4)]
theorem c178_ok : ∃ code, Try.f178.body = some code ∧ compC Try.prog Try.f178.ntmps code = some (C.strip c178) := ⟨_, rfl, by kernel_rfl⟩
theorem r178_ok : compRes Try.prog Try.f178.results.toList = some r178 := by kernel_rfl
theorem f178_ok : fnOk Try.prog 178 = true := by kernel_rfl
end Go.Proofs.Ytadjhfjiimgddaa
