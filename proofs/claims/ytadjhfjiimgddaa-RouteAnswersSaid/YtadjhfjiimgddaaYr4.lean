/- RouteAnswers: Vt Vu CodeS GF. -/
import Derived.Test.YtadjhfjiimgddaaYr3
import Derived.Test.YtadjhfjiimgddaaProg
set_option linter.defProp false
set_option linter.unusedSimpArgs false
set_option linter.unusedVariables false
set_option maxRecDepth 100000

/- Rows of tables: pure functions; functions that read from a source. -/
/- Rows of tables: pure functions; functions that read from a source. -/
namespace Go.Proofs.Ytadjhfjiimgddaa
open Go
theorem mixed : Try.prog.follows .mixedOrders = true := by kernel_rfl
abbrev InI (n : Int) : Prop := -9223372036854775808 ≤ n ∧ n ≤ 9223372036854775807
structure SrcOk (L : List (List D)) (at' : Int) : Prop where
 lo : 0 ≤ at'
 hi : at' ≤ L.length
 len : (L.length : Int) ≤ 2000
 ints : ∃ ns : List Int, L = ns.map (fun n => [di n]) ∧ ∀ n ∈ ns, InI n
def sE (L : List (List D)) (at' : Int) : En := ⟨0, 2, [[.sl L, di at']]⟩
def intsOf : List (List D) → Option (List Int)
 | [] => some []
 | [.v (.int .i64 n)] :: l => match intsOf l with
  | some ns => some (n :: ns)
  | Option.none => Option.none
 | _ => Option.none
theorem intsOf_map (ns : List Int) : intsOf (ns.map fun n => [di n]) = some ns := by
 induction ns with
 | nil => rfl
 | cons n ns ih => rw [List.map_cons, intsOf, ih]
theorem intsOf_eq : ∀ {l : List (List D)} {ns : List Int}, intsOf l = some ns → l = ns.map (fun n => [di n])
 | [], ns, h => by rw [intsOf] at h; cases h; rfl
 | [.v (.int .i64 n)] :: l, ns, h => by
  rw [intsOf] at h
  split at h
  ·rename_i ms hm
   cases h
   rw [List.map_cons, ← intsOf_eq hm]
  ·cases h
def strsOf : List (List D) → Option (List ByteArray)
 | [] => some []
 | [.v (.string n)] :: l => match strsOf l with
  | some ns => some (n :: ns)
  | Option.none => Option.none
 | _ => Option.none
theorem strsOf_eq : ∀ {l : List (List D)} {ns : List ByteArray}, strsOf l = some ns → l = ns.map (fun n => [ds n])
 | [], ns, h => by rw [strsOf] at h; cases h; rfl
 | [.v (.string n)] :: l, ns, h => by
  rw [strsOf] at h
  split at h
  ·rename_i ms hm
   cases h
   rw [List.map_cons, ← strsOf_eq hm]
  ·cases h
def SrcR {α : Type} (i : Nm) (L : List (List D)) (post : α → Prop) (val : α → D) : D → Hp → Prop := fun v H' => ∃ at' a, SrcOk L at' ∧ post a ∧ v = val a ∧ H' = Hp.none.put i (sE L at')
abbrev SA (L : List (List D)) := { at' : Int // SrcOk L at' }
theorem sa_ok {L : List (List D)} (a : SA L) : SrcOk L a.1 = True := eq_true a.2
theorem SrcR_all {α : Type} (i : Nm) (L : List (List D)) (post : α → Prop) (val : α → D) (K : D → Hp → Prop) : (∀ v H', SrcR i L post val v H' → K v H') = ∀ (at' : SA L) (a : α), post a → K (val a) (Hp.none.put i (sE L at'.1)) :=
 propext ⟨fun h at' a h2 => h _ _ ⟨at'.1, a, at'.2, h2, rfl, rfl⟩, fun h v H' ⟨at', a, h1, h2, e1, e2⟩ => by rw [e1, e2]; exact h ⟨at', h1⟩ a h2⟩
theorem tc_row {P : Program} {f : FuncId} {r : List D → Hp → Nm → Option (Prop × (D → Hp → Prop))} {T : Tbl} (hf : fnOk P f = true) (hr : ∀ args Hs nn pre R, r args Hs nn = some (pre, R) → pre → (∃ v H', R v H') ∧ CallsA P f args Hs nn R) (h : TblOk P T) : TblOk P (tc f r T) := fun f' args Hs nn pre R hT => by
 rw [tc_at] at hT
 split at hT
 ·rename_i e
  subst e
  exact ⟨hf, hr args Hs nn pre R hT⟩
 ·exact h f' args Hs nn pre R hT
theorem nm1 (i : Nm) (t : Nat) : (i = (i.1 + 1, t)) = False := eq_false fun h => by have := congrArg Prod.fst h; dsimp only at this; omega
theorem nm2 (i : Nm) (t : Nat) : ((i.1 + 1, t) = i) = False := eq_false fun h => by have := congrArg Prod.fst h; dsimp only at this; omega
theorem forall_nil {α : Type} (p : α → Prop) : (∀ x, x ∈ ([] : List α) → p x) = True := eq_true fun x h => by cases h
theorem bq_t (b : Bool) : (b == true) = b := by cases b <;> rfl
theorem bq_f (b : Bool) : (b == false) = !b := by cases b <;> rfl
theorem tq_b (b : Bool) : (true == b) = b := by cases b <;> rfl
theorem fq_b (b : Bool) : (false == b) = !b := by cases b <;> rfl
theorem weak_eq {J : List Nm} {F : Fr} {H H' : Hp} (ks js : List Nm) (l : List (Nat × D)) (h1 : coverS F H ks l) (h2 : refsF js l = true) (h3 : ClosedH (H.kills ks) js js) (h4 : ∀ i ∈ J, i ∈ js) (h5 : (H.kills ks).restr js = H') : Weak J ⟨F, H⟩ ⟨fr l, H'⟩ := h5 ▸ weak_to ks js l h1 h2 h3 h4
theorem weak_eqA {J : List Nm} {F : Fr} {H H' : Hp} (ks js : List Nm) (l : List (Nat × D)) (h : (coverS F H ks l) ∧ (refsF js l = true) ∧ (ClosedH (H.kills ks) js js) ∧ (∀ i ∈ J, i ∈ js) ∧ (H.kills ks).restr js = H') : Weak J ⟨F, H⟩ ⟨fr l, H'⟩ := weak_eq ks js l h.1 h.2.1 h.2.2.1 h.2.2.2.1 h.2.2.2.2
def rowPu (sel : List D → Option (Prop × D)) : List D → Hp → Nm → Option (Prop × (D → Hp → Prop)) := fun args Hs nn =>
 match sel args with
 | some (pre, d) => some (Hs = Hp.none ∧ pre, Pu d Hp.none)
 | Option.none => Option.none
theorem tc_pu {P : Program} {f : FuncId} {sel : List D → Option (Prop × D)} {T : Tbl} (hf : fnOk P f = true) (h : ∀ args pre d, sel args = some (pre, d) → pre → ∀ nn, CallsA P f args Hp.none nn (Pu d Hp.none)) (hT : TblOk P T) : TblOk P (tc f (rowPu sel) T) :=
 tc_row hf (fun args Hs nn pre R hr hp => by
  unfold rowPu at hr
  split at hr
  ·rename_i pre' d hs
   cases hr
   obtain ⟨rfl, hp⟩ := hp
   exact ⟨⟨d, Hp.none, rfl, rfl⟩, h args pre' d hs hp nn⟩
  ·cases hr) hT
def PuE {α : Type} (post : α → Prop) (val : α → D) (Hs : Hp) : D → Hp → Prop := fun v H' => ∃ a, post a ∧ v = val a ∧ H' = Hs
theorem PuE_all {α : Type} (post : α → Prop) (val : α → D) (Hs : Hp) (K : D → Hp → Prop) : (∀ v H', PuE post val Hs v H' → K v H') = ∀ a, post a → K (val a) Hs :=
 propext ⟨fun h a h1 => h _ _ ⟨a, h1, rfl, rfl⟩, fun h v H' ⟨a, h1, e1, e2⟩ => by rw [e1, e2]; exact h a h1⟩
def rowPuE {α : Type} (sel : List D → Option (Prop × (α → Prop))) (val : α → D) : List D → Hp → Nm → Option (Prop × (D → Hp → Prop)) := fun args Hs nn =>
 match sel args with
 | some (pre, post) => some (Hs = Hp.none ∧ pre, PuE post val Hp.none)
 | Option.none => Option.none
def rowSrc {α : Type} (sel : List D → Option (Prop × (α → Prop))) (val : α → D) : List D → Hp → Nm → Option (Prop × (D → Hp → Prop)) := fun args Hs nn =>
 match args with
 | .ptr i g r c :: args =>
  match sel args, Hs i with
  | some (pre, post), some ⟨_, _, [[.sl L, .v (.int .i64 at')]]⟩ => some ((Hs = Hp.none.put i (sE L at') ∧ g = 0 ∧ r = 0 ∧ c = 0) ∧ SrcOk L at' ∧ pre, SrcR i L post val)
  | _, _ => Option.none
 | _ => Option.none
def SrcC {α : Type} (P : Program) (f : FuncId) (args : List D) (post : α → Prop) (val : α → D) : Prop := ∀ i L at' nn, SrcOk L at' → CallsA P f (.ptr i 0 0 0 :: args) (Hp.none.put i (sE L at')) nn (SrcR i L post val)
theorem tc_src {P : Program} {f : FuncId} {α : Type} {sel : List D → Option (Prop × (α → Prop))} {val : α → D} {T : Tbl} (hf : fnOk P f = true) (h : ∀ args pre post, sel args = some (pre, post) → pre → (∃ a, post a) ∧ SrcC P f args post val) (hT : TblOk P T) : TblOk P (tc f (rowSrc sel val) T) :=
 tc_row hf (fun args Hs nn pre R hr hp => by
  unfold rowSrc at hr
  split at hr
  ·rename_i i g r c args
   split at hr
   ·rename_i pre' post g' sz L at' hs hH
    cases hr
    obtain ⟨⟨rfl, rfl, rfl, rfl⟩, ho, hp⟩ := hp
    obtain ⟨⟨a, ha⟩, hc⟩ := h args pre' post hs hp
    exact ⟨⟨val a, _, at', a, ho, ha, rfl, rfl⟩, hc i L at' nn ho⟩
   ·cases hr
  ·cases hr) hT
theorem weak_ownC {J : List Nm} {F : Fr} {H : Hp} (j : Nm) (g sz : Nat) (pre post : List D) (i : Nm) (isz : Nat) (hj : H j = some ⟨g, sz, [pre ++ .mt :: post]⟩) (hi : H i = Option.none) :
  Weak J ⟨F, H⟩ ⟨F, (H.put i ⟨0, isz, []⟩).put j ⟨g, sz, [pre ++ .own i 0 0 0 :: post]⟩⟩ := by
 intro E hE Im p a w hR
 have hne : j ≠ i := fun h => by rw [h, hi] at hj; cases hj
 have T : Turn Im p H w.heap i ⟨0, 0, []⟩ ⟨0, isz, []⟩ (0, 0) w.heap := ⟨.inr ⟨hi, rfl⟩, .inl hi, fun _ _ _ => rfl, Nat.le_refl _, fun h => absurd rfl h, fun h => absurd rfl h⟩
 have G := T.grows hR.hp
 have R1 := T.relH hR.hp
 have X1 := T.relE hR.hp hR.en rfl rfl rfl
 generalize p.put i (0, 0) = p1 at *
 have hj1 : (H.put i ⟨0, isz, []⟩) j = some ⟨g, sz, [pre ++ .mt :: post]⟩ := by rw [Hp.put_other _ hne]; exact hj
 have hi1 : (H.put i ⟨0, isz, []⟩) i = some ⟨0, isz, []⟩ := Hp.put_same _ _ _
 generalize H.put i ⟨0, isz, []⟩ = H1 at *
 have G2 : Grows Im p1 H1 w.heap Im p1 (H1.put j ⟨g, sz, [pre ++ .own i 0 0 0 :: post]⟩) w.heap := ⟨fun _ h => h, fun _ _ => rfl, fun k ek hk => by
  by_cases h : k = j
  ·subst h
   rw [hj1] at hk
   cases hk
   exact ⟨_, Hp.put_same _ _ _, Nat.le_refl _, fun _ => ⟨rfl, rfl, fun _ => ⟨by simp, fun c t hc => ⟨c, hc, rfl⟩⟩⟩⟩
  ·exact ⟨ek, by rw [Hp.put_other _ h]; exact hk, Nat.le_refl _, fun _ => ⟨rfl, rfl, fun hn => ⟨hn, fun c t hc => ⟨c, hc, rfl⟩⟩⟩⟩⟩
 have key : ∀ k ek, (H1.put j ⟨g, sz, [pre ++ .own i 0 0 0 :: post]⟩) k = some ek → ek.rows ≠ [] → ∃ ek', H1 k = some ek' ∧ ek'.rows ≠ [] := fun k ek hk hn => by
  by_cases h : k = j
  ·subst h
   exact ⟨_, hj1, by simp⟩
  ·rw [Hp.put_other _ h] at hk
   exact ⟨ek, hk, hn⟩
 refine ⟨Im, p1, hR.sz, fun k => ((hR.fr k).mono G).mono G2, ⟨fun k ek hk hn => ?_, fun k l ek el hk hl nk nl hkl => ?_, R1.im⟩, ⟨X1.os, X1.tape, X1.output, X1.size, X1.block, X1.im, X1.im', fun k ek hk hn => ?_⟩, (hR.gr.trans G).trans G2, hR.df⟩
 ·dsimp only at hk ⊢
  by_cases h : k = j
  ·subst h
   rw [Hp.put_same] at hk
   cases hk
   obtain ⟨c, t, k1, k2, k3⟩ := R1.cell k _ hj1 (by simp)
   refine ⟨c, t, k1, k2, fun r hr => ?_, k3.le, fun r q row d hr hd => ?_⟩
   ·have := k3.len _ (List.mem_cons_self ..)
    rw [List.mem_singleton.1 hr]
    simpa using this
   ·cases r with
    | succ r => simp at hr
    | zero =>
     cases hr
     by_cases hq : q = pre.length
     ·subst hq
      rw [List.getElem?_append_right (Nat.le_refl _), Nat.sub_self] at hd
      cases hd
      obtain ⟨u, u1, u2, u3⟩ := k3.cell 0 pre.length _ .mt rfl (by rw [List.getElem?_append_right (Nat.le_refl _), Nat.sub_self]; rfl)
      refine ⟨u, u1, ?_, u3⟩
      obtain ⟨ao, rfl⟩ := rel_mt u2
      exact .own i 0 0 0 _ 0 ⟨0, isz, []⟩ (by rw [Hp.put_other _ (Ne.symm hne)]; exact hi1) (Nat.le_refl _) (Nat.le_refl _) fun _ h => absurd h (Nat.lt_irrefl _)
     ·have e : (pre ++ D.mt :: post)[q]? = some d := by
       rcases Nat.lt_or_ge q pre.length with h | h
       ·rw [List.getElem?_append_left h] at hd ⊢
        exact hd
       ·rw [List.getElem?_append_right h] at hd ⊢
        rw [show q - pre.length = (q - pre.length - 1) + 1 by omega, List.getElem?_cons_succ] at hd ⊢
        exact hd
      obtain ⟨u, u1, u2, u3⟩ := k3.cell 0 q _ d rfl e
      exact ⟨u, u1, u2.mono G2, u3⟩
  ·rw [Hp.put_other _ h] at hk
   obtain ⟨c, t, k1, k2, k3⟩ := R1.cell k ek hk hn
   exact ⟨c, t, k1, k2, k3.mono G2⟩
 ·obtain ⟨_, a1, a2⟩ := key k ek hk nk
  obtain ⟨_, b1, b2⟩ := key l el hl nl
  exact R1.inj k l _ _ a1 b1 a2 b2 hkl
 ·obtain ⟨_, a1, a2⟩ := key k ek hk hn
  exact X1.ids k _ a1 a2
def vp0 := And.intro @vc_skip (And.intro @vc_opsD (And.intro @vc_opsL (And.intro @vc_seq (And.intro @vc_cond (And.intro @vc_block (And.intro @vc_exit (And.intro @vc_ret (And.intro @runL_n (And.intro @runL_c (And.intro @runD_n (And.intro @runD_c (And.intro @KL_at (And.intro @KD_at (And.intro @run1_at (And.intro @thenQ_n (And.intro @thenQ_e (And.intro @thenQ_r (And.intro @blockQ_n (And.intro @blockQ_e (And.intro @blockQ_r (And.intro @loopQ_n (And.intro @loopQ_e (And.intro @loopQ_r (And.intro @finQ_n (And.intro @finQ_r (And.intro @Pu_all (And.intro @SrcR_all (@PuE_all))))))))))))))))))))))))))))
def vp := And.intro vp0 (And.intro @vc_opsF (And.intro @runF_n (And.intro @runF_f (And.intro @runF_t (And.intro @KF_at (And.intro @vc_opsG (And.intro @runDG_n (And.intro @runDG_f (And.intro @runDG_t (And.intro @KG_at (And.intro @sGQ_s (And.intro @runKCQ_n (And.intro @runKCQ_s @runKDQ_s)))))))))))))
def v1 := And.intro @guardD.eq_1 (And.intro @guardD.eq_2 (And.intro @callee.eq_1 (And.intro @callee.eq_2 (And.intro @callee.eq_3 (And.intro @callRun.eq_1 (And.intro @callRun1.eq_1 (And.intro @callRun2.eq_1 (And.intro @callRun3_at (And.intro @sO_s (And.intro @sC_s (And.intro @sC_n (And.intro @sG_s (And.intro @sT_s (And.intro @sB_v (And.intro @ite_vb (And.intro @List.length_map.{0,0} (And.intro @List.length_append.{0} (And.intro @List.isEmpty_nil.{0} (And.intro @List.isEmpty_cons.{0} (And.intro @D.flat.eq_1 (And.intro @D.flat.eq_2 (And.intro @D.flat.eq_3 (And.intro @D.flat.eq_4 (And.intro @D.flat.eq_5 (And.intro @flatL.eq_1 (And.intro @flatL.eq_2 (And.intro @eff.eq_1 (And.intro @eff.eq_2 (And.intro @eff.eq_3 (And.intro @eff.eq_4 (And.intro @eff.eq_5 (And.intro @eff.eq_6 (And.intro @eff.eq_7 (And.intro @eff.eq_8 (And.intro @eff.eq_9 (And.intro @eff.eq_10 (And.intro @eff.eq_11 (And.intro @eff.eq_12 (@eff.eq_13)))))))))))))))))))))))))))))))))))))))
def v2 := And.intro @eff.eq_14 (And.intro @eff.eq_15 (And.intro @eff.eq_16 (And.intro @eff.eq_17 (And.intro @eff.eq_18 (And.intro @eff.eq_19 (And.intro @eff.eq_20 (And.intro @eff.eq_21 (And.intro @eff.eq_22 (And.intro @eff.eq_23 (And.intro @eff.eq_24 (And.intro @eff.eq_25 (And.intro @eff.eq_26 (And.intro @eff.eq_27 (And.intro @eff.eq_28 (And.intro @eff.eq_29 (And.intro @eff.eq_30 (And.intro @eff.eq_31 (And.intro @eff.eq_32 (And.intro @Opd.ev.eq_1 (And.intro @Opd.ev.eq_2 (And.intro @mapEv.eq_1 (And.intro @mapEv.eq_2 (And.intro @putF_at (And.intro @putF_no (And.intro @arg_at (And.intro @arg_no (And.intro @fr_at (And.intro @fr_no (And.intro @hput_at (And.intro @hno_at (And.intro @hput_put (And.intro @Out.pure.eq_1 (And.intro @Hp.puto.eq_1 (And.intro @Hp.puto.eq_2 (And.intro @wid.eq_1 (And.intro @wid.eq_2 (And.intro @past.eq_1 (And.intro @past.eq_2 (@chk.eq_1)))))))))))))))))))))))))))))))))))))))
def v3 := And.intro @chk.eq_2 (And.intro @natIn.eq_1 (And.intro @natIn.eq_2 (And.intro @nmIn.eq_1 (And.intro @nmIn.eq_2 (And.intro @indep.eq_1 (And.intro @disj.eq_1 (And.intro @disj.eq_2 (And.intro @binD.eq_1 (And.intro @binD.eq_2 (And.intro @binD.eq_3 (And.intro @binD.eq_4 (And.intro @binD.eq_5 (And.intro @binD.eq_6 (And.intro @binD.eq_7 (And.intro @binI.eq_1 (And.intro @binI.eq_2 (And.intro @binI.eq_3 (And.intro @binI.eq_4 (And.intro @binI.eq_5 (And.intro @binI.eq_6 (And.intro @binI.eq_7 (And.intro @binI.eq_8 (And.intro @binI.eq_9 (And.intro @binI.eq_10 (And.intro @cmpI.eq_1 (And.intro @cmpI.eq_2 (And.intro @cmpI.eq_3 (And.intro @cmpI.eq_4 (And.intro @cmpI.eq_5 (And.intro @cmpI.eq_6 (And.intro @cmpI.eq_7 (And.intro @D.nat.eq_1 (And.intro @D.nat.eq_2 (And.intro @D.cells.eq_1 (And.intro @D.cells.eq_2 (And.intro @D.cells.eq_3 (And.intro @D.cells.eq_4 (And.intro @D.cells.eq_5 (@one.eq_1)))))))))))))))))))))))))))))))))))))))
def v4 := And.intro @one.eq_2 (And.intro @one.eq_3 (And.intro @cellsAt.eq_1 (And.intro @put1.eq_1 (And.intro @put1.eq_2 (And.intro @fillD.eq_1 (And.intro @fillD.eq_2 (And.intro @fillR.eq_1 (And.intro @fillR.eq_2 (And.intro @rowsOf.eq_1 (And.intro @rowsOf.eq_2 (And.intro @rowsOf.eq_3 (And.intro @rowsOf.eq_4 (And.intro @lenOf.eq_1 (And.intro @lenOf.eq_2 (And.intro @lenOf.eq_3 (And.intro @lenOf.eq_4 (And.intro @bnd.eq_1 (And.intro @bnd.eq_2 (And.intro @lend.eq_1 (And.intro @lend.eq_2 (And.intro @lend1.eq_1 (And.intro @lend1.eq_2 (And.intro @lend1.eq_3 (And.intro @lendNm.eq_1 (And.intro @lendNm.eq_2 (And.intro @lendNm1.eq_1 (And.intro @lendNm1.eq_2 (And.intro @lendOkL'.eq_1 (And.intro @lendOkL'.eq_2 (And.intro @lendOk.eq_1 (And.intro @lendOk.eq_2 (And.intro @lendOk1.eq_1 (And.intro @lendOk1.eq_2 (And.intro @lendOkL.eq_1 (And.intro @lendOkL.eq_2 (And.intro @lendT.eq_1 (And.intro @lendT.eq_2 (And.intro @lendNmT.eq_1 (@lendNmT.eq_2)))))))))))))))))))))))))))))))))))))))
def v5 := And.intro @lendOkT.eq_1 (And.intro @lendOkT.eq_2 (And.intro @Hp.kills.eq_1 (And.intro @Hp.kills.eq_2 (And.intro @Hp.kill.eq_1 (And.intro @Hp.over.eq_1 (And.intro @Hp.over.eq_2 (And.intro @Hp.restr.eq_1 (And.intro @Hp.restr.eq_2 (And.intro @reach.eq_1 (And.intro @take_map (And.intro @take_mapS (And.intro @natc0 (And.intro @natc1 (And.intro @natc2 (And.intro @natc3 (And.intro @natc4 (And.intro @natc5 (And.intro @natc6 (And.intro @natc7 (And.intro @beq_self_eq_true.{0} (And.intro @Nat.le_refl (And.intro @Int.le_refl (And.intro @plain_v (And.intro @plain_any (And.intro @plain_sl (And.intro @plain_mt (And.intro @List.forall_mem_append.{0} (And.intro @List.forall_mem_map.{0,0} (And.intro @addNm.eq_1 (And.intro @addNm.eq_2 (And.intro @nmsL.eq_1 (And.intro @nmsL.eq_2 (And.intro @D.nms.eq_1 (And.intro @D.nms.eq_2 (And.intro @D.nms.eq_3 (And.intro @D.nms.eq_4 (And.intro @D.nms.eq_5 (And.intro @D.nms.eq_6 (@D.nms.eq_7)))))))))))))))))))))))))))))))))))))))
def v6 := And.intro @D.nms.eq_8 (And.intro @D.nms.eq_9 (And.intro @D.nms.eq_10 (And.intro @cellNms.eq_1 (And.intro @cellNms.eq_2 (And.intro @refsInL.eq_1 (And.intro @refsInL.eq_2 (And.intro @D.refsIn.eq_1 (And.intro @D.refsIn.eq_2 (And.intro @D.refsIn.eq_3 (And.intro @D.refsIn.eq_4 (And.intro @D.refsIn.eq_5 (And.intro @D.refsIn.eq_6 (And.intro @D.refsIn.eq_7 (And.intro @D.refsIn.eq_8 (And.intro @D.refsIn.eq_9 (And.intro @D.refsIn.eq_10 (And.intro @ClosedH.eq_1 (And.intro @ClosedH.eq_2 (And.intro @resL.eq_1 (And.intro @resL.eq_2 (And.intro @resD.eq_1 (And.intro @resD.eq_2 (And.intro @retA.eq_1 (And.intro @retB.eq_1 (And.intro @packD.eq_1 (And.intro @packD.eq_2 (And.intro @tc_at (And.intro @rowR_at (And.intro @Pu_ex (And.intro @true_and (And.intro @and_true (And.intro @and_false (And.intro @false_and (And.intro @or_true (And.intro @true_or (And.intro @or_false (And.intro @false_or (And.intro @and_self (@List.map_cons.{0,0})))))))))))))))))))))))))))))))))))))))
def v7 := And.intro @List.map_nil.{0,0} (And.intro @List.flatMap_cons.{0,0} (And.intro @List.flatMap_nil.{0,0} (And.intro @List.append_nil.{0} (And.intro @List.nil_append.{0} (And.intro @List.cons_append.{0} (And.intro @Bool.false_eq_true (And.intro @Prod.mk.injEq.{0,0} (And.intro @List.length_cons.{0} (And.intro @List.length_nil.{0} (And.intro @Nat.add_zero (And.intro @Nat.zero_add (And.intro @List.getD_cons_zero.{0} (And.intro @List.getD_cons_succ.{0} (And.intro @List.drop_zero.{0} (And.intro @List.drop_succ_cons.{0} (And.intro @List.take_succ_cons.{0} (And.intro @List.take_zero.{0} (And.intro @List.set_cons_zero.{0} (And.intro @List.set_cons_succ.{0} (And.intro @List.replicate.eq_1.{0} (And.intro @List.replicate.eq_2.{0} (And.intro @Bool.not_true (And.intro @Bool.not_false (And.intro @Bool.true_and (And.intro @Bool.and_true (And.intro @Bool.false_and (And.intro @Bool.and_false (And.intro @Bool.or_true (And.intro @Bool.true_or (And.intro @Bool.or_false (And.intro @Bool.false_or (And.intro @eq_self.{1} (And.intro @imp_self (And.intro @ge_iff_le.{0} (And.intro @gt_iff_lt.{0} (And.intro @decide_eq_true_eq (@intsOf.eq_1)))))))))))))))))))))))))))))))))))))
def v8 := And.intro @intsOf.eq_2 (And.intro @intsOf.eq_3 (And.intro @intsOf_map (And.intro @strsOf.eq_1 (And.intro @strsOf.eq_2 (And.intro @strsOf.eq_3 (And.intro @sE.eq_1 (And.intro @ne_eq.{1} (And.intro @not_false_eq_true (And.intro @bq_t (And.intro @bq_f (And.intro @tq_b (And.intro @fq_b (And.intro @List.forall_mem_cons.{0} (And.intro @forall_nil (And.intro @sa_ok (And.intro @rowPu.eq_1 (And.intro @rowPuE.eq_1 (And.intro @rowSrc.eq_1 (And.intro @rowSrc.eq_2 (And.intro @nm1 (@nm2)))))))))))))))))))))
def v9 := And.intro @oM_at <| And.intro @oH_at (And.intro @oD_at (And.intro @oE_at (And.intro @oT_at (And.intro @oP_at (And.intro @oB_at (And.intro @oG_at (And.intro @oA_at (And.intro @oS_at (And.intro @cI_at @cB_at)))))))))
def v10 := And.intro @implies_true.{0} (And.intro @implies_true.{1} (And.intro @forall_const.{0} (And.intro @forall_const.{1} (And.intro @undef.eq_1 (And.intro @InI.eq_1 (And.intro @runKC_n (And.intro @runKD_s (And.intro @runKB_s (And.intro @runKC_s (And.intro @runKT_s (And.intro @D.oflat.eq_1 (And.intro @D.oflat.eq_2 (And.intro @D.oflat.eq_3 (And.intro @D.oflat.eq_4 (And.intro (And.intro @D.oflat.eq_5 @D.oflat.eq_6) (And.intro @oflatL.eq_1 (And.intro @oflatL.eq_2 (And.intro @flatAt.eq_1 (And.intro @flatRs.eq_1 (And.intro @flatRs.eq_2 @eff.eq_33))))))))))))))))))))
def vv := And.intro v10 (And.intro v9 (And.intro v1 (And.intro v2 (And.intro v3 (And.intro v4 (And.intro v5 (And.intro v6 (And.intro v7 v8))))))))
theorem weak_ip {J : List Nm} {F : Fr} {H : Hp} (t : Nat) (i : Nm) (g sz : Nat) (row : List D) (h : F t = .ptr i g 0 0) (hi : H i = some ⟨g, sz, [row]⟩) (hp : ∀ d ∈ row, d.plain = true) (hJ : i ∉ J) : Weak J ⟨F, H⟩ ⟨putF F (some t) (.ip row), H.kills [i]⟩ := by
 intro E hE Im p a w hR
 obtain ⟨Im1, g1, r1, x1, b1⟩ := kills_spec (E := E) (w := w) [i] Im H hR.hp hR.en
 refine ⟨Im1, p, hR.sz, fun k => ?_, r1, x1, hR.gr.trans g1, hR.df⟩
 dsimp only [putF]
 by_cases hk : k = t
 ·subst hk
  rw [if_pos rfl]
  have r := hR.fr k
  dsimp only at r
  rw [h] at r
  obtain ⟨c, tt, k1, k2, k3⟩ := hR.hp.cell i _ hi (by simp)
  dsimp only at k1 k3
  have hl : row.length = sz := k3.len row (List.mem_cons_self ..)
  cases r with
  | p r => cases r
  | ptr _ _ _ _ x h1 e hH hg hx =>
   rw [hi] at hH
   cases hH
   rw [hx rfl]
   have key : ∀ j (hj : j < row.length), ∃ u, hc w.heap (p i).1 ((p i).2 + j) = some u ∧ one u = true ∧ ∀ d, row[j]? = some d → RelP Im w.heap d u := fun j hj => by
    obtain ⟨u, u1, u2, u3⟩ := k3.cell 0 j row row[j] rfl (List.getElem?_eq_getElem hj)
    refine ⟨u, ?_, u3, fun d hd => ?_⟩
    ·unfold hc
     rw [k1]
     dsimp only
     rw [← u1]
     congr 1
     omega
    ·rw [List.getElem?_eq_getElem hj] at hd
     cases hd
     exact u2.plain (hp _ (List.getElem_mem hj))
   rw [show (p i).2 + 0 * sz + 0 = (p i).2 by omega]
   refine .ip row _ _ (fun j => (hc w.heap (p i).1 ((p i).2 + j)).getD undef) (b1 i (List.mem_cons_self ..) _ hi (by simp)) (fun j hj => ?_) (fun j d hd => ?_)
   ·obtain ⟨u, u1, u2, _⟩ := key j hj
    rw [u1]
    exact ⟨rfl, u2⟩
   ·have hj : j < row.length := by
     rcases Nat.lt_or_ge j row.length with h | h
     ·exact h
     ·rw [List.getElem?_eq_none h] at hd; cases hd
    obtain ⟨u, u1, _, u3⟩ := key j hj
    rw [u1]
    exact (u3 d hd).mono g1.im g1.blk
 ·rw [if_neg hk]
  exact (hR.fr k).mono g1
abbrev ips (l : List (List D)) : List D := l.map D.ip
theorem ips_nms : ∀ (l : List (List D)), nmsL (ips l) = []
 | [] => rfl
 | r :: l => by
  show nmsL (D.ip r :: ips l) = []
  rw [nmsL, ips_nms l]; rfl
theorem ips_lend (H : Hp) : ∀ (l : List (List D)), (ips l).map (lend H) = ips l
 | [] => rfl
 | r :: l => by
  show lend H (D.ip r) :: (ips l).map (lend H) = D.ip r :: ips l
  rw [ips_lend H l]; rfl
theorem ips_lendNm (H : Hp) : ∀ (l : List (List D)), (ips l).flatMap (lendNm H) = []
 | [] => rfl
 | r :: l => by
  show lendNm H (D.ip r) ++ (ips l).flatMap (lendNm H) = []
  rw [ips_lendNm H l]; rfl
theorem ips_ok (H : Hp) : ∀ (l : List (List D)), lendOkL' H (ips l) = True
 | [] => rfl
 | r :: l => by
  show (lendOk H (D.ip r) ∧ lendOkL' H (ips l)) = True
  rw [ips_ok H l]; simp [lendOk, lendOk1]
theorem ips_refs (js : List Nm) : ∀ (l : List (List D)), refsInL js (ips l) = true
 | [] => rfl
 | r :: l => by
  show (D.refsIn js (D.ip r) && refsInL js (ips l)) = true
  rw [ips_refs js l]; simp [D.refsIn]
def elV (ag : Bool) (row : List D) : D := if ag = true then .agg row else row.getD 0 .any
def D.done : D → Bool
 | .v _ => true
 | .any => true
 | .sl _ => true
 | _ => false
def doneL : List D → Bool
 | [] => true
 | d :: ds => d.done && doneL ds
theorem done1 (H : Hp) (js : List Nm) {d : D} (h : d.done = true) : lend1 H d = d ∧ lend H d = d ∧ lendNm1 H d = [] ∧ lendNm H d = [] ∧ lendOk1 H d = True ∧ lendOk H d = True ∧ d.nms = [] ∧ d.refsIn js = true ∧ d.plain = true := by
 cases d <;> first | (simp [lend1, lend, lendNm1, lendNm, lendOk1, lendOk, D.nms, D.refsIn, D.plain]; done) | (simp [D.done] at h)
theorem doneR (H : Hp) (js : List Nm) : ∀ {r : List D}, doneL r = true → r.map (lend1 H) = r ∧ r.flatMap (lendNm1 H) = [] ∧ lendOkL H r = True ∧ nmsL r = [] ∧ refsInL js r = true
 | [], _ => ⟨rfl, rfl, rfl, rfl, by simp [refsInL]⟩
 | d :: ds, h => by
  rw [doneL, Bool.and_eq_true] at h
  obtain ⟨a1, _, a2, _, a3, _, a4, a5, _⟩ := done1 H js h.1
  obtain ⟨b1, b2, b3, b4, b5⟩ := doneR H js h.2
  refine ⟨by rw [List.map_cons, a1, b1], by rw [List.flatMap_cons, a2, b2]; rfl, ?_, by rw [nmsL, a4, b4]; rfl, by rw [refsInL, a5, b5]; rfl⟩
  rw [lendOkL, a3, b3]; simp
def idxOf (q : List D → Bool) : Int → List (List D) → Int
 | _, [] => -1
 | k, r :: l => if q r = true then k else idxOf q (k + 1) l
theorem idxOf_any (q : List D → Bool) : ∀ (l : List (List D)) (k : Int), 0 ≤ k → (0 ≤ idxOf q k l ↔ l.any q = true)
 | [], k, h => by simp [idxOf]
 | r :: l, k, h => by
  unfold idxOf
  split
  ·rename_i hq; simp [hq, h]
  ·rename_i hq; rw [idxOf_any q l (k + 1) (by omega)]; simp [hq]
theorem idxOf_drop (q : List D → Bool) (l : List (List D)) (k : Nat) (r : List D) (h : l[k]? = some r) : idxOf q k (l.drop k) = if q r = true then (k : Int) else idxOf q (k + 1 : Nat) (l.drop (k + 1)) := by
 obtain ⟨hk, he⟩ := List.getElem?_eq_some_iff.1 h
 rw [List.drop_eq_getElem_cons hk, he]
 rfl
def rowQ (P : Program) (g : FuncId) (q : D → Bool) : List D → Hp → Nm → Option (Prop × (D → Hp → Prop)) := fun args Hs nn =>
 match args with
 | el :: rest => some (Hs = Hp.none ∧ CallsA P g (el :: rest) Hp.none nn (Pu (db (q el)) Hp.none), Pu (db (q el)) Hp.none)
 | [] => Option.none
theorem tc_q {P : Program} {g : FuncId} {q : D → Bool} {T : Tbl} (hf : fnOk P g = true) (hT : TblOk P T) : TblOk P (tc g (rowQ P g q) T) :=
 tc_row hf (fun args Hs nn pre R hr hp => by
  unfold rowQ at hr
  split at hr
  ·cases hr
   obtain ⟨rfl, hp⟩ := hp
   exact ⟨⟨_, Hp.none, rfl, rfl⟩, hp⟩
  ·cases hr) hT
def QOk (P : Program) (ag : Bool) (sz : Nat) (q : D → Bool) (g : FuncId) (l : List (List D)) (rows : List (List D)) : Prop :=
 fnOk P g = true ∧ (rows.length : Int) ≤ 4611686018427387904 ∧ ∀ r ∈ rows, r.length = sz ∧ doneL r = true ∧ (ag = false → ∃ y, r = [.v y]) ∧ ∀ nn, CallsA P g (elV ag r :: ips l) Hp.none nn (Pu (db (q (elV ag r))) Hp.none)
def ipsOf : List D → Option (List (List D))
 | [] => some []
 | .ip r :: l => match ipsOf l with
  | some ls => some (r :: ls)
  | Option.none => Option.none
 | _ => Option.none
theorem ipsOf_eq : ∀ {l : List D} {ls : List (List D)}, ipsOf l = some ls → l = ips ls
 | [], ls, h => by rw [ipsOf] at h; cases h; rfl
 | d :: l, ls, h => by
  cases d <;> rw [ipsOf] at h <;> try cases h
  split at h
  ·rename_i ms hm
   cases h
   rw [ipsOf_eq hm]
   rfl
  ·cases h
def selQ (P : Program) (ag : Bool) (sz : Nat) (q : FuncId → List (List D) → D → Bool) (out : (List D → Bool) → List (List D) → D) : List D → Option (Prop × D)
 | [.sl rows, .clo g [] cs] => match ipsOf cs with
  | some l => some (QOk P ag sz (q g l) g l rows, out (fun r => q g l (elV ag r)) rows)
  | Option.none => Option.none
 | _ => Option.none
def c134 : C := (.seq (.ops false [oP 4 (.mv (cB false))]) (.seq (.ops false [oM 5 0, oM 6 1, oB 7 (.call 161 [(.t 5), (.t 6)]), oP 8 (.bin .geq (.t 7) (cI 0)), oM 4 8]) .ret))
def r134 : List RV := [(.tmp 4)]
theorem c134_ok : ∃ code, Try.f134.body = some code ∧ compC Try.prog Try.f134.ntmps code = some (C.strip c134) := ⟨_, rfl, by kernel_rfl⟩
theorem r134_ok : compRes Try.prog Try.f134.results.toList = some r134 := by kernel_rfl
theorem f134_ok : fnOk Try.prog 134 = true := by kernel_rfl
def c145 : C := (.seq (.ops false [oP 4 (.mv (cB false))]) (.seq (.ops false [oM 5 0, oM 6 1, oB 7 (.call 173 [(.t 5), (.t 6)]), oP 8 (.bin .geq (.t 7) (cI 0)), oM 4 8]) .ret))
def r145 : List RV := [(.tmp 4)]
theorem c145_ok : ∃ code, Try.f145.body = some code ∧ compC Try.prog Try.f145.ntmps code = some (C.strip c145) := ⟨_, rfl, by kernel_rfl⟩
theorem r145_ok : compRes Try.prog Try.f145.results.toList = some r145 := by kernel_rfl
theorem f145_ok : fnOk Try.prog 145 = true := by kernel_rfl
def c159 : C := (.seq (.ops false [oP 4 (.mv (cB false))]) (.seq (.ops false [oM 5 0, oM 6 1, oB 7 (.call 177 [(.t 5), (.t 6)]), oP 8 (.bin .geq (.t 7) (cI 0)), oM 4 8]) .ret))
def r159 : List RV := [(.tmp 4)]
theorem c159_ok : ∃ code, Try.f159.body = some code ∧ compC Try.prog Try.f159.ntmps code = some (C.strip c159) := ⟨_, rfl, by kernel_rfl⟩
theorem r159_ok : compRes Try.prog Try.f159.results.toList = some r159 := by kernel_rfl
theorem f159_ok : fnOk Try.prog 159 = true := by kernel_rfl
def c161_1 : C := (.ops false [oP 18 (.bin .add (.t 8) (cI 1)), oM 8 18])
def c161_2 : C := (.seq (.block 1 (.seq (.ops false [oM 10 8, oM 5 10]) (.seq (.ops false [oM 11 1, oM 12 0, oM 13 5, oP 14 (.iaS 1 (.t 12) (.t 13)), oP 15 (.ld 1 false (.t 14)), oP 16 (.callv (.t 11) [(.t 15)])]) (.cond (.t 16) (.seq (.ops false [oM 17 5, oM 4 17]) .ret) .skip)))) c161_1)
def c161_3 : C := (.seq (.ops false [oP 9 (.bin .lss (.t 8) (.t 7))]) (.seq (.cond (.t 9) .skip (.exit 0)) c161_2))
def c161_4 : C := (.seq (.ops false [oP 4 (.mv (cI (-1)))]) .ret)
def c161 : C := (.seq (.ops false [oP 4 (.mv (cI 0))]) (.seq (.seq (.ops false [oM 6 0, oP 7 (.len (.t 6)), oP 8 (.mv (cI 0))]) (.block 0 (.loop c161_3))) c161_4))
def r161 : List RV := [(.tmp 4)]
theorem c161_ok : ∃ code, Try.f161.body = some code ∧ compC Try.prog Try.f161.ntmps code = some (C.strip c161) := ⟨_, rfl, by kernel_rfl⟩
theorem r161_ok : compRes Try.prog Try.f161.results.toList = some r161 := by kernel_rfl
theorem f161_ok : fnOk Try.prog 161 = true := by kernel_rfl
def c163_1 : C := (.ops false [oP 18 (.bin .add (.t 8) (cI 1)), oM 8 18])
def c163_2 : C := (.seq (.block 1 (.seq (.ops false [oM 10 8, oM 5 10]) (.seq (.ops false [oM 11 1, oM 12 0, oM 13 5, oP 14 (.iaS 5 (.t 12) (.t 13)), oP 15 (.ld 5 true (.t 14)), oP 16 (.callv (.t 11) [(.t 15)])]) (.cond (.t 16) (.seq (.ops false [oM 17 5, oM 4 17]) .ret) .skip)))) c163_1)
def c163_3 : C := (.seq (.ops false [oP 9 (.bin .lss (.t 8) (.t 7))]) (.seq (.cond (.t 9) .skip (.exit 0)) c163_2))
def c163_4 : C := (.seq (.ops false [oP 4 (.mv (cI (-1)))]) .ret)
def c163 : C := (.seq (.ops false [oP 4 (.mv (cI 0))]) (.seq (.seq (.ops false [oM 6 0, oP 7 (.len (.t 6)), oP 8 (.mv (cI 0))]) (.block 0 (.loop c163_3))) c163_4))
def r163 : List RV := [(.tmp 4)]
theorem c163_ok : ∃ code, Try.f163.body = some code ∧ compC Try.prog Try.f163.ntmps code = some (C.strip c163) := ⟨_, rfl, by kernel_rfl⟩
theorem r163_ok : compRes Try.prog Try.f163.results.toList = some r163 := by kernel_rfl
theorem f163_ok : fnOk Try.prog 163 = true := by kernel_rfl
def c168 : C := (.seq (.ops false [oP 4 (.mv (cB false))]) (.seq (.ops false [oM 5 0, oM 6 1, oB 7 (.call 178 [(.t 5), (.t 6)]), oP 8 (.bin .geq (.t 7) (cI 0)), oM 4 8]) .ret))
def r168 : List RV := [(.tmp 4)]
theorem c168_ok : ∃ code, Try.f168.body = some code ∧ compC Try.prog Try.f168.ntmps code = some (C.strip c168) := ⟨_, rfl, by kernel_rfl⟩
theorem r168_ok : compRes Try.prog Try.f168.results.toList = some r168 := by kernel_rfl
theorem f168_ok : fnOk Try.prog 168 = true := by kernel_rfl
def c171 : C := (.seq (.ops false [oP 4 (.mv (cB false))]) (.seq (.ops false [oM 5 0, oM 6 1, oB 7 (.call 163 [(.t 5), (.t 6)]), oP 8 (.bin .geq (.t 7) (cI 0)), oM 4 8]) .ret))
def r171 : List RV := [(.tmp 4)]
theorem c171_ok : ∃ code, Try.f171.body = some code ∧ compC Try.prog Try.f171.ntmps code = some (C.strip c171) := ⟨_, rfl, by kernel_rfl⟩
theorem r171_ok : compRes Try.prog Try.f171.results.toList = some r171 := by kernel_rfl
theorem f171_ok : fnOk Try.prog 171 = true := by kernel_rfl
def c173_1 : C := (.ops false [oP 18 (.bin .add (.t 8) (cI 1)), oM 8 18])
def c173_2 : C := (.seq (.block 1 (.seq (.ops false [oM 10 8, oM 5 10]) (.seq (.ops false [oM 11 1, oM 12 0, oM 13 5, oP 14 (.iaS 1 (.t 12) (.t 13)), oP 15 (.ld 1 false (.t 14)), oP 16 (.callv (.t 11) [(.t 15)])]) (.cond (.t 16) (.seq (.ops false [oM 17 5, oM 4 17]) .ret) .skip)))) c173_1)
def c173_3 : C := (.seq (.ops false [oP 9 (.bin .lss (.t 8) (.t 7))]) (.seq (.cond (.t 9) .skip (.exit 0)) c173_2))
def c173_4 : C := (.seq (.ops false [oP 4 (.mv (cI (-1)))]) .ret)
def c173 : C := (.seq (.ops false [oP 4 (.mv (cI 0))]) (.seq (.seq (.ops false [oM 6 0, oP 7 (.len (.t 6)), oP 8 (.mv (cI 0))]) (.block 0 (.loop c173_3))) c173_4))
def r173 : List RV := [(.tmp 4)]
theorem c173_ok : ∃ code, Try.f173.body = some code ∧ compC Try.prog Try.f173.ntmps code = some (C.strip c173) := ⟨_, rfl, by kernel_rfl⟩
theorem r173_ok : compRes Try.prog Try.f173.results.toList = some r173 := by kernel_rfl
theorem f173_ok : fnOk Try.prog 173 = true := by kernel_rfl
def c177_1 : C := (.ops false [oP 18 (.bin .add (.t 8) (cI 1)), oM 8 18])
def c177_2 : C := (.seq (.block 1 (.seq (.ops false [oM 10 8, oM 5 10]) (.seq (.ops false [oM 11 1, oM 12 0, oM 13 5, oP 14 (.iaS 7 (.t 12) (.t 13)), oP 15 (.ld 7 true (.t 14)), oP 16 (.callv (.t 11) [(.t 15)])]) (.cond (.t 16) (.seq (.ops false [oM 17 5, oM 4 17]) .ret) .skip)))) c177_1)
def c177_3 : C := (.seq (.ops false [oP 9 (.bin .lss (.t 8) (.t 7))]) (.seq (.cond (.t 9) .skip (.exit 0)) c177_2))
def c177_4 : C := (.seq (.ops false [oP 4 (.mv (cI (-1)))]) .ret)
def c177 : C := (.seq (.ops false [oP 4 (.mv (cI 0))]) (.seq (.seq (.ops false [oM 6 0, oP 7 (.len (.t 6)), oP 8 (.mv (cI 0))]) (.block 0 (.loop c177_3))) c177_4))
def r177 : List RV := [(.tmp 4)]
theorem c177_ok : ∃ code, Try.f177.body = some code ∧ compC Try.prog Try.f177.ntmps code = some (C.strip c177) := ⟨_, rfl, by kernel_rfl⟩
theorem r177_ok : compRes Try.prog Try.f177.results.toList = some r177 := by kernel_rfl
theorem f177_ok : fnOk Try.prog 177 = true := by kernel_rfl
def c178_1 : C := (.ops false [oP 18 (.bin .add (.t 8) (cI 1)), oM 8 18])
def c178_2 : C := (.seq (.block 1 (.seq (.ops false [oM 10 8, oM 5 10]) (.seq (.ops false [oM 11 1, oM 12 0, oM 13 5, oP 14 (.iaS 3 (.t 12) (.t 13)), oP 15 (.ld 3 true (.t 14)), oP 16 (.callv (.t 11) [(.t 15)])]) (.cond (.t 16) (.seq (.ops false [oM 17 5, oM 4 17]) .ret) .skip)))) c178_1)
def c178_3 : C := (.seq (.ops false [oP 9 (.bin .lss (.t 8) (.t 7))]) (.seq (.cond (.t 9) .skip (.exit 0)) c178_2))
def c178_4 : C := (.seq (.ops false [oP 4 (.mv (cI (-1)))]) .ret)
def c178 : C := (.seq (.ops false [oP 4 (.mv (cI 0))]) (.seq (.seq (.ops false [oM 6 0, oP 7 (.len (.t 6)), oP 8 (.mv (cI 0))]) (.block 0 (.loop c178_3))) c178_4))
def r178 : List RV := [(.tmp 4)]
theorem c178_ok : ∃ code, Try.f178.body = some code ∧ compC Try.prog Try.f178.ntmps code = some (C.strip c178) := ⟨_, rfl, by kernel_rfl⟩
theorem r178_ok : compRes Try.prog Try.f178.results.toList = some r178 := by kernel_rfl
theorem f178_ok : fnOk Try.prog 178 = true := by kernel_rfl
theorem get_lt {α : Type} {l : List α} {k : Nat} (h : k < l.length) : l[k]? = some l[k] := List.getElem?_eq_getElem h
theorem ipsOf_ips : ∀ (l : List (List D)), ipsOf (ips l) = some l
 | [] => rfl
 | r :: l => by
  show ipsOf (D.ip r :: ips l) = _
  rw [ipsOf, ipsOf_ips l]
def outI (q : List D → Bool) (rows : List (List D)) : D := di (idxOf q 0 rows)
def outC (q : List D → Bool) (rows : List (List D)) : D := db (rows.any q)
set_option maxHeartbeats 4000000 in
theorem idxF_I (q : D → Bool) (g : FuncId) (l rows : List (List D)) (h : QOk Try.prog false 1 q g l rows) (nn : Nm) : CallsA Try.prog 173 [.sl rows, .clo g [] (ips l)] Hp.none nn (Pu (outI (fun r => q (elV false r)) rows) Hp.none) := by
 obtain ⟨hg, hl, hq⟩ := h
 obtain ⟨code, h1, h2⟩ := c173_ok
 refine callsA_of (tc_q (q := q) hg (T0_ok _)) mixed (N := fun t => (0, t)) Try.func173 h1 h2 r173_ok [] false js_nil js_nil' (by simp [Try.f173]) ?_
 unfold outI
 simp (maxSteps:=500000) only [↓vp, vv, ↓reduceIte, simprocAttr, c173]
 rw [vc_loop]
 refine ⟨fun m s => ∃ j : Nat, j + m = rows.length ∧ idxOf (fun r => q (elV false r)) 0 rows = idxOf (fun r => q (elV false r)) j (rows.drop j) ∧ s = ⟨fr [(0, .sl rows), (1, .clo g [] (ips l)), (7, di rows.length), (8, di j)], Hp.none⟩, ⟨rows.length, _, (weak_eq [] [] [(0, .sl rows), (1, .clo g [] (ips l)), (7, di rows.length), (8, di 0)] (by simp only [↓vp, vv, ↓reduceIte, simprocAttr, coverS]) (by simp only [↓vp, vv, ↓reduceIte, simprocAttr, refsF, ips_refs]) (by simp only [↓vp, vv, ↓reduceIte, simprocAttr, ]) (by simp) (by simp only [↓vp, vv, ↓reduceIte, simprocAttr, ]; try rfl)), ⟨0, by omega, rfl, rfl⟩⟩, ?_⟩
 rintro m s ⟨j, hj, he, rfl⟩
 by_cases hlt : j < rows.length
 ·have hlt' : (j : Int) < rows.length := by omega
  have h0 : (0 : Int) ≤ j := by omega
  obtain ⟨r, hr⟩ : ∃ r, rows[j]? = some r := ⟨_, get_lt hlt⟩
  have hg' : rows.getD j [] = r := by rw [List.getD_eq_getElem?_getD, hr]; rfl
  obtain ⟨hr1, hr2, hr0, hr3⟩ := hq r (List.mem_of_getElem? hr)
  rw [idxOf_drop _ _ _ _ hr] at he
  have w1 : IntKind.i64.wrap ((j : Int) + 1) = ((j + 1 : Nat) : Int) := by rw [wrap_i (by omega)]; rfl
  obtain ⟨x, rfl⟩ := hr0 rfl
  have ht : (0 : Nat) = 0 := rfl
  have d1 : (0 : Nat) = 0 := rfl
  have d2 : (0 : Nat) = 0 := rfl
  have d3 : (0 : Nat) = 0 := rfl
  have d4 : (0 : Nat) = 0 := rfl
  have d5 : (0 : Nat) = 0 := rfl
  have hc : ∀ nn, CallsA Try.prog g ((.v x) :: ips l) Hp.none nn (Pu (db (q (.v x))) Hp.none) := hr3
  have he2 : idxOf (fun r => q (elV false r)) 0 rows = if q (.v x) = true then (j : Int) else idxOf (fun r => q (elV false r)) (j + 1 : Nat) (rows.drop (j + 1)) := he
  cases hb : q (.v x) with
  | true =>
   rw [hb, if_pos rfl] at he2
   have hcT : ∀ nn, CallsA Try.prog g ((.v x) :: ips l) Hp.none nn (Pu (db true) Hp.none) = True := fun nn => eq_true (by have := hc nn; rwa [hb] at this)
   simp (maxSteps:=500000) only [↓vp, vv, ↓reduceIte, simprocAttr, c173, r173, c173_1, c173_2, c173_3, c173_4, hlt', h0, Int.toNat_natCast, hg', hr1, ht, d1, d2, d3, d4, d5, ips_nms, ips_lend, ips_lendNm, ips_ok, ips_refs, rowQ, hb, he2, Pu, addNm, cellNms, hcT]
  | false =>
   rw [hb, if_neg (by simp)] at he2
   have hcT : ∀ nn, CallsA Try.prog g ((.v x) :: ips l) Hp.none nn (Pu (db false) Hp.none) = True := fun nn => eq_true (by have := hc nn; rwa [hb] at this)
   simp (maxSteps:=500000) only [↓vp, vv, ↓reduceIte, simprocAttr, c173, r173, c173_1, c173_2, c173_3, c173_4, hlt', h0, Int.toNat_natCast, hg', hr1, ht, d1, d2, d3, d4, d5, ips_nms, ips_lend, ips_lendNm, ips_ok, ips_refs, rowQ, hb, addNm, cellNms, hcT]
   exact ⟨m - 1, _, by omega, weak_eq [] [] [(0, .sl rows), (1, .clo g [] (ips l)), (7, di rows.length), (8, di ((j + 1 : Nat) : Int))] (by simp only [↓vp, vv, ↓reduceIte, simprocAttr, coverS, w1]) (by simp only [↓vp, vv, ↓reduceIte, simprocAttr, refsF, ips_refs]) (by simp only [↓vp, vv, ↓reduceIte, simprocAttr, ]) (by simp) (by simp only [↓vp, vv, ↓reduceIte, simprocAttr, ]; try rfl), ⟨j + 1, by omega, he2, rfl⟩⟩
 ·have hlt' : ¬ (j : Int) < rows.length := by omega
  rw [List.drop_of_length_le (by omega)] at he
  have he2 : idxOf (fun r => q (elV false r)) 0 rows = -1 := he
  simp (maxSteps:=500000) only [↓vp, vv, ↓reduceIte, simprocAttr, c173, r173, c173_1, c173_2, c173_3, c173_4, hlt', he2, Pu]
set_option maxHeartbeats 4000000 in
theorem hasF_I (q : D → Bool) (g : FuncId) (l rows : List (List D)) (h : QOk Try.prog false 1 q g l rows) (nn : Nm) : CallsA Try.prog 145 [.sl rows, .clo g [] (ips l)] Hp.none nn (Pu (outC (fun r => q (elV false r)) rows) Hp.none) := by
 obtain ⟨code, h1, h2⟩ := c145_ok
 refine callsA_of (T := tc 173 (rowPu (selQ Try.prog false 1 (fun g' l' d => q d) outI)) T0) (tc_pu f173_ok (fun args pre d hs hp nn => ?_) (T0_ok _)) mixed (N := fun t => (0, t)) Try.func145 h1 h2 r145_ok [] false js_nil js_nil' (by simp [Try.f145]) ?_
 ·unfold selQ at hs
  split at hs
  ·split at hs
   ·rename_i hi
    cases hs
    rw [ipsOf_eq hi]
    exact idxF_I _ _ _ _ hp nn
   ·cases hs
  ·cases hs
 ·have ha := idxOf_any (fun r => q (elV false r)) rows 0 (Int.le_refl _)
  have hv : decide (0 ≤ idxOf (fun r => q (elV false r)) 0 rows) = rows.any (fun r => q (elV false r)) := by
   rw [Bool.eq_iff_iff, decide_eq_true_eq]; exact ha
  simp (maxSteps:=500000) only [↓vp, vv, ↓reduceIte, simprocAttr, c145, r145, selQ, ipsOf_ips, h, ips_nms, ips_lend, ips_lendNm, ips_ok, ips_refs, outI, outC, addNm, cellNms, hv, Pu]
set_option maxHeartbeats 4000000 in
theorem idxF_S (q : D → Bool) (g : FuncId) (l rows : List (List D)) (h : QOk Try.prog false 1 q g l rows) (nn : Nm) : CallsA Try.prog 161 [.sl rows, .clo g [] (ips l)] Hp.none nn (Pu (outI (fun r => q (elV false r)) rows) Hp.none) := by
 obtain ⟨hg, hl, hq⟩ := h
 obtain ⟨code, h1, h2⟩ := c161_ok
 refine callsA_of (tc_q (q := q) hg (T0_ok _)) mixed (N := fun t => (0, t)) Try.func161 h1 h2 r161_ok [] false js_nil js_nil' (by simp [Try.f161]) ?_
 unfold outI
 simp (maxSteps:=500000) only [↓vp, vv, ↓reduceIte, simprocAttr, c161]
 rw [vc_loop]
 refine ⟨fun m s => ∃ j : Nat, j + m = rows.length ∧ idxOf (fun r => q (elV false r)) 0 rows = idxOf (fun r => q (elV false r)) j (rows.drop j) ∧ s = ⟨fr [(0, .sl rows), (1, .clo g [] (ips l)), (7, di rows.length), (8, di j)], Hp.none⟩, ⟨rows.length, _, (weak_eq [] [] [(0, .sl rows), (1, .clo g [] (ips l)), (7, di rows.length), (8, di 0)] (by simp only [↓vp, vv, ↓reduceIte, simprocAttr, coverS]) (by simp only [↓vp, vv, ↓reduceIte, simprocAttr, refsF, ips_refs]) (by simp only [↓vp, vv, ↓reduceIte, simprocAttr, ]) (by simp) (by simp only [↓vp, vv, ↓reduceIte, simprocAttr, ]; try rfl)), ⟨0, by omega, rfl, rfl⟩⟩, ?_⟩
 rintro m s ⟨j, hj, he, rfl⟩
 by_cases hlt : j < rows.length
 ·have hlt' : (j : Int) < rows.length := by omega
  have h0 : (0 : Int) ≤ j := by omega
  obtain ⟨r, hr⟩ : ∃ r, rows[j]? = some r := ⟨_, get_lt hlt⟩
  have hg' : rows.getD j [] = r := by rw [List.getD_eq_getElem?_getD, hr]; rfl
  obtain ⟨hr1, hr2, hr0, hr3⟩ := hq r (List.mem_of_getElem? hr)
  rw [idxOf_drop _ _ _ _ hr] at he
  have w1 : IntKind.i64.wrap ((j : Int) + 1) = ((j + 1 : Nat) : Int) := by rw [wrap_i (by omega)]; rfl
  obtain ⟨x, rfl⟩ := hr0 rfl
  have ht : (0 : Nat) = 0 := rfl
  have d1 : (0 : Nat) = 0 := rfl
  have d2 : (0 : Nat) = 0 := rfl
  have d3 : (0 : Nat) = 0 := rfl
  have d4 : (0 : Nat) = 0 := rfl
  have d5 : (0 : Nat) = 0 := rfl
  have hc : ∀ nn, CallsA Try.prog g ((.v x) :: ips l) Hp.none nn (Pu (db (q (.v x))) Hp.none) := hr3
  have he2 : idxOf (fun r => q (elV false r)) 0 rows = if q (.v x) = true then (j : Int) else idxOf (fun r => q (elV false r)) (j + 1 : Nat) (rows.drop (j + 1)) := he
  cases hb : q (.v x) with
  | true =>
   rw [hb, if_pos rfl] at he2
   have hcT : ∀ nn, CallsA Try.prog g ((.v x) :: ips l) Hp.none nn (Pu (db true) Hp.none) = True := fun nn => eq_true (by have := hc nn; rwa [hb] at this)
   simp (maxSteps:=500000) only [↓vp, vv, ↓reduceIte, simprocAttr, c161, r161, c161_1, c161_2, c161_3, c161_4, hlt', h0, Int.toNat_natCast, hg', hr1, ht, d1, d2, d3, d4, d5, ips_nms, ips_lend, ips_lendNm, ips_ok, ips_refs, rowQ, hb, he2, Pu, addNm, cellNms, hcT]
  | false =>
   rw [hb, if_neg (by simp)] at he2
   have hcT : ∀ nn, CallsA Try.prog g ((.v x) :: ips l) Hp.none nn (Pu (db false) Hp.none) = True := fun nn => eq_true (by have := hc nn; rwa [hb] at this)
   simp (maxSteps:=500000) only [↓vp, vv, ↓reduceIte, simprocAttr, c161, r161, c161_1, c161_2, c161_3, c161_4, hlt', h0, Int.toNat_natCast, hg', hr1, ht, d1, d2, d3, d4, d5, ips_nms, ips_lend, ips_lendNm, ips_ok, ips_refs, rowQ, hb, addNm, cellNms, hcT]
   exact ⟨m - 1, _, by omega, weak_eq [] [] [(0, .sl rows), (1, .clo g [] (ips l)), (7, di rows.length), (8, di ((j + 1 : Nat) : Int))] (by simp only [↓vp, vv, ↓reduceIte, simprocAttr, coverS, w1]) (by simp only [↓vp, vv, ↓reduceIte, simprocAttr, refsF, ips_refs]) (by simp only [↓vp, vv, ↓reduceIte, simprocAttr, ]) (by simp) (by simp only [↓vp, vv, ↓reduceIte, simprocAttr, ]; try rfl), ⟨j + 1, by omega, he2, rfl⟩⟩
 ·have hlt' : ¬ (j : Int) < rows.length := by omega
  rw [List.drop_of_length_le (by omega)] at he
  have he2 : idxOf (fun r => q (elV false r)) 0 rows = -1 := he
  simp (maxSteps:=500000) only [↓vp, vv, ↓reduceIte, simprocAttr, c161, r161, c161_1, c161_2, c161_3, c161_4, hlt', he2, Pu]
set_option maxHeartbeats 4000000 in
theorem hasF_S (q : D → Bool) (g : FuncId) (l rows : List (List D)) (h : QOk Try.prog false 1 q g l rows) (nn : Nm) : CallsA Try.prog 134 [.sl rows, .clo g [] (ips l)] Hp.none nn (Pu (outC (fun r => q (elV false r)) rows) Hp.none) := by
 obtain ⟨code, h1, h2⟩ := c134_ok
 refine callsA_of (T := tc 161 (rowPu (selQ Try.prog false 1 (fun g' l' d => q d) outI)) T0) (tc_pu f161_ok (fun args pre d hs hp nn => ?_) (T0_ok _)) mixed (N := fun t => (0, t)) Try.func134 h1 h2 r134_ok [] false js_nil js_nil' (by simp [Try.f134]) ?_
 ·unfold selQ at hs
  split at hs
  ·split at hs
   ·rename_i hi
    cases hs
    rw [ipsOf_eq hi]
    exact idxF_S _ _ _ _ hp nn
   ·cases hs
  ·cases hs
 ·have ha := idxOf_any (fun r => q (elV false r)) rows 0 (Int.le_refl _)
  have hv : decide (0 ≤ idxOf (fun r => q (elV false r)) 0 rows) = rows.any (fun r => q (elV false r)) := by
   rw [Bool.eq_iff_iff, decide_eq_true_eq]; exact ha
  simp (maxSteps:=500000) only [↓vp, vv, ↓reduceIte, simprocAttr, c134, r134, selQ, ipsOf_ips, h, ips_nms, ips_lend, ips_lendNm, ips_ok, ips_refs, outI, outC, addNm, cellNms, hv, Pu]
set_option maxHeartbeats 4000000 in
theorem idxF_G (q : D → Bool) (g : FuncId) (l rows : List (List D)) (h : QOk Try.prog true 7 q g l rows) (nn : Nm) : CallsA Try.prog 177 [.sl rows, .clo g [] (ips l)] Hp.none nn (Pu (outI (fun r => q (elV true r)) rows) Hp.none) := by
 obtain ⟨hg, hl, hq⟩ := h
 obtain ⟨code, h1, h2⟩ := c177_ok
 refine callsA_of (tc_q (q := q) hg (T0_ok _)) mixed (N := fun t => (0, t)) Try.func177 h1 h2 r177_ok [] false js_nil js_nil' (by simp [Try.f177]) ?_
 unfold outI
 simp (maxSteps:=500000) only [↓vp, vv, ↓reduceIte, simprocAttr, c177]
 rw [vc_loop]
 refine ⟨fun m s => ∃ j : Nat, j + m = rows.length ∧ idxOf (fun r => q (elV true r)) 0 rows = idxOf (fun r => q (elV true r)) j (rows.drop j) ∧ s = ⟨fr [(0, .sl rows), (1, .clo g [] (ips l)), (7, di rows.length), (8, di j)], Hp.none⟩, ⟨rows.length, _, (weak_eq [] [] [(0, .sl rows), (1, .clo g [] (ips l)), (7, di rows.length), (8, di 0)] (by simp only [↓vp, vv, ↓reduceIte, simprocAttr, coverS]) (by simp only [↓vp, vv, ↓reduceIte, simprocAttr, refsF, ips_refs]) (by simp only [↓vp, vv, ↓reduceIte, simprocAttr, ]) (by simp) (by simp only [↓vp, vv, ↓reduceIte, simprocAttr, ]; try rfl)), ⟨0, by omega, rfl, rfl⟩⟩, ?_⟩
 rintro m s ⟨j, hj, he, rfl⟩
 by_cases hlt : j < rows.length
 ·have hlt' : (j : Int) < rows.length := by omega
  have h0 : (0 : Int) ≤ j := by omega
  obtain ⟨r, hr⟩ : ∃ r, rows[j]? = some r := ⟨_, get_lt hlt⟩
  have hg' : rows.getD j [] = r := by rw [List.getD_eq_getElem?_getD, hr]; rfl
  obtain ⟨hr1, hr2, hr0, hr3⟩ := hq r (List.mem_of_getElem? hr)
  rw [idxOf_drop _ _ _ _ hr] at he
  have w1 : IntKind.i64.wrap ((j : Int) + 1) = ((j + 1 : Nat) : Int) := by rw [wrap_i (by omega)]; rfl
  have ht : r.take 7 = r := List.take_of_length_le (by omega)
  have d1 := fun H => (doneR H [] hr2).1
  have d2 := fun H => (doneR H [] hr2).2.1
  have d3 := fun H => (doneR H [] hr2).2.2.1
  have d4 := (doneR Hp.none [] hr2).2.2.2.1
  have d5 := fun js => (doneR Hp.none js hr2).2.2.2.2
  have hc : ∀ nn, CallsA Try.prog g ((.agg r) :: ips l) Hp.none nn (Pu (db (q (.agg r))) Hp.none) := hr3
  have he2 : idxOf (fun r => q (elV true r)) 0 rows = if q (.agg r) = true then (j : Int) else idxOf (fun r => q (elV true r)) (j + 1 : Nat) (rows.drop (j + 1)) := he
  cases hb : q (.agg r) with
  | true =>
   rw [hb, if_pos rfl] at he2
   have hcT : ∀ nn, CallsA Try.prog g ((.agg r) :: ips l) Hp.none nn (Pu (db true) Hp.none) = True := fun nn => eq_true (by have := hc nn; rwa [hb] at this)
   simp (maxSteps:=500000) only [↓vp, vv, ↓reduceIte, simprocAttr, c177, r177, c177_1, c177_2, c177_3, c177_4, hlt', h0, Int.toNat_natCast, hg', hr1, ht, d1, d2, d3, d4, d5, ips_nms, ips_lend, ips_lendNm, ips_ok, ips_refs, rowQ, hb, he2, Pu, addNm, cellNms, hcT]
  | false =>
   rw [hb, if_neg (by simp)] at he2
   have hcT : ∀ nn, CallsA Try.prog g ((.agg r) :: ips l) Hp.none nn (Pu (db false) Hp.none) = True := fun nn => eq_true (by have := hc nn; rwa [hb] at this)
   simp (maxSteps:=500000) only [↓vp, vv, ↓reduceIte, simprocAttr, c177, r177, c177_1, c177_2, c177_3, c177_4, hlt', h0, Int.toNat_natCast, hg', hr1, ht, d1, d2, d3, d4, d5, ips_nms, ips_lend, ips_lendNm, ips_ok, ips_refs, rowQ, hb, addNm, cellNms, hcT]
   exact ⟨m - 1, _, by omega, weak_eq [] [] [(0, .sl rows), (1, .clo g [] (ips l)), (7, di rows.length), (8, di ((j + 1 : Nat) : Int))] (by simp only [↓vp, vv, ↓reduceIte, simprocAttr, coverS, w1]) (by simp only [↓vp, vv, ↓reduceIte, simprocAttr, refsF, ips_refs]) (by simp only [↓vp, vv, ↓reduceIte, simprocAttr, ]) (by simp) (by simp only [↓vp, vv, ↓reduceIte, simprocAttr, ]; try rfl), ⟨j + 1, by omega, he2, rfl⟩⟩
 ·have hlt' : ¬ (j : Int) < rows.length := by omega
  rw [List.drop_of_length_le (by omega)] at he
  have he2 : idxOf (fun r => q (elV true r)) 0 rows = -1 := he
  simp (maxSteps:=500000) only [↓vp, vv, ↓reduceIte, simprocAttr, c177, r177, c177_1, c177_2, c177_3, c177_4, hlt', he2, Pu]
set_option maxHeartbeats 4000000 in
theorem hasF_G (q : D → Bool) (g : FuncId) (l rows : List (List D)) (h : QOk Try.prog true 7 q g l rows) (nn : Nm) : CallsA Try.prog 159 [.sl rows, .clo g [] (ips l)] Hp.none nn (Pu (outC (fun r => q (elV true r)) rows) Hp.none) := by
 obtain ⟨code, h1, h2⟩ := c159_ok
 refine callsA_of (T := tc 177 (rowPu (selQ Try.prog true 7 (fun g' l' d => q d) outI)) T0) (tc_pu f177_ok (fun args pre d hs hp nn => ?_) (T0_ok _)) mixed (N := fun t => (0, t)) Try.func159 h1 h2 r159_ok [] false js_nil js_nil' (by simp [Try.f159]) ?_
 ·unfold selQ at hs
  split at hs
  ·split at hs
   ·rename_i hi
    cases hs
    rw [ipsOf_eq hi]
    exact idxF_G _ _ _ _ hp nn
   ·cases hs
  ·cases hs
 ·have ha := idxOf_any (fun r => q (elV true r)) rows 0 (Int.le_refl _)
  have hv : decide (0 ≤ idxOf (fun r => q (elV true r)) 0 rows) = rows.any (fun r => q (elV true r)) := by
   rw [Bool.eq_iff_iff, decide_eq_true_eq]; exact ha
  simp (maxSteps:=500000) only [↓vp, vv, ↓reduceIte, simprocAttr, c159, r159, selQ, ipsOf_ips, h, ips_nms, ips_lend, ips_lendNm, ips_ok, ips_refs, outI, outC, addNm, cellNms, hv, Pu]
set_option maxHeartbeats 4000000 in
theorem idxF_P (q : D → Bool) (g : FuncId) (l rows : List (List D)) (h : QOk Try.prog true 3 q g l rows) (nn : Nm) : CallsA Try.prog 178 [.sl rows, .clo g [] (ips l)] Hp.none nn (Pu (outI (fun r => q (elV true r)) rows) Hp.none) := by
 obtain ⟨hg, hl, hq⟩ := h
 obtain ⟨code, h1, h2⟩ := c178_ok
 refine callsA_of (tc_q (q := q) hg (T0_ok _)) mixed (N := fun t => (0, t)) Try.func178 h1 h2 r178_ok [] false js_nil js_nil' (by simp [Try.f178]) ?_
 unfold outI
 simp (maxSteps:=500000) only [↓vp, vv, ↓reduceIte, simprocAttr, c178]
 rw [vc_loop]
 refine ⟨fun m s => ∃ j : Nat, j + m = rows.length ∧ idxOf (fun r => q (elV true r)) 0 rows = idxOf (fun r => q (elV true r)) j (rows.drop j) ∧ s = ⟨fr [(0, .sl rows), (1, .clo g [] (ips l)), (7, di rows.length), (8, di j)], Hp.none⟩, ⟨rows.length, _, (weak_eq [] [] [(0, .sl rows), (1, .clo g [] (ips l)), (7, di rows.length), (8, di 0)] (by simp only [↓vp, vv, ↓reduceIte, simprocAttr, coverS]) (by simp only [↓vp, vv, ↓reduceIte, simprocAttr, refsF, ips_refs]) (by simp only [↓vp, vv, ↓reduceIte, simprocAttr, ]) (by simp) (by simp only [↓vp, vv, ↓reduceIte, simprocAttr, ]; try rfl)), ⟨0, by omega, rfl, rfl⟩⟩, ?_⟩
 rintro m s ⟨j, hj, he, rfl⟩
 by_cases hlt : j < rows.length
 ·have hlt' : (j : Int) < rows.length := by omega
  have h0 : (0 : Int) ≤ j := by omega
  obtain ⟨r, hr⟩ : ∃ r, rows[j]? = some r := ⟨_, get_lt hlt⟩
  have hg' : rows.getD j [] = r := by rw [List.getD_eq_getElem?_getD, hr]; rfl
  obtain ⟨hr1, hr2, hr0, hr3⟩ := hq r (List.mem_of_getElem? hr)
  rw [idxOf_drop _ _ _ _ hr] at he
  have w1 : IntKind.i64.wrap ((j : Int) + 1) = ((j + 1 : Nat) : Int) := by rw [wrap_i (by omega)]; rfl
  have ht : r.take 3 = r := List.take_of_length_le (by omega)
  have d1 := fun H => (doneR H [] hr2).1
  have d2 := fun H => (doneR H [] hr2).2.1
  have d3 := fun H => (doneR H [] hr2).2.2.1
  have d4 := (doneR Hp.none [] hr2).2.2.2.1
  have d5 := fun js => (doneR Hp.none js hr2).2.2.2.2
  have hc : ∀ nn, CallsA Try.prog g ((.agg r) :: ips l) Hp.none nn (Pu (db (q (.agg r))) Hp.none) := hr3
  have he2 : idxOf (fun r => q (elV true r)) 0 rows = if q (.agg r) = true then (j : Int) else idxOf (fun r => q (elV true r)) (j + 1 : Nat) (rows.drop (j + 1)) := he
  cases hb : q (.agg r) with
  | true =>
   rw [hb, if_pos rfl] at he2
   have hcT : ∀ nn, CallsA Try.prog g ((.agg r) :: ips l) Hp.none nn (Pu (db true) Hp.none) = True := fun nn => eq_true (by have := hc nn; rwa [hb] at this)
   simp (maxSteps:=500000) only [↓vp, vv, ↓reduceIte, simprocAttr, c178, r178, c178_1, c178_2, c178_3, c178_4, hlt', h0, Int.toNat_natCast, hg', hr1, ht, d1, d2, d3, d4, d5, ips_nms, ips_lend, ips_lendNm, ips_ok, ips_refs, rowQ, hb, he2, Pu, addNm, cellNms, hcT]
  | false =>
   rw [hb, if_neg (by simp)] at he2
   have hcT : ∀ nn, CallsA Try.prog g ((.agg r) :: ips l) Hp.none nn (Pu (db false) Hp.none) = True := fun nn => eq_true (by have := hc nn; rwa [hb] at this)
   simp (maxSteps:=500000) only [↓vp, vv, ↓reduceIte, simprocAttr, c178, r178, c178_1, c178_2, c178_3, c178_4, hlt', h0, Int.toNat_natCast, hg', hr1, ht, d1, d2, d3, d4, d5, ips_nms, ips_lend, ips_lendNm, ips_ok, ips_refs, rowQ, hb, addNm, cellNms, hcT]
   exact ⟨m - 1, _, by omega, weak_eq [] [] [(0, .sl rows), (1, .clo g [] (ips l)), (7, di rows.length), (8, di ((j + 1 : Nat) : Int))] (by simp only [↓vp, vv, ↓reduceIte, simprocAttr, coverS, w1]) (by simp only [↓vp, vv, ↓reduceIte, simprocAttr, refsF, ips_refs]) (by simp only [↓vp, vv, ↓reduceIte, simprocAttr, ]) (by simp) (by simp only [↓vp, vv, ↓reduceIte, simprocAttr, ]; try rfl), ⟨j + 1, by omega, he2, rfl⟩⟩
 ·have hlt' : ¬ (j : Int) < rows.length := by omega
  rw [List.drop_of_length_le (by omega)] at he
  have he2 : idxOf (fun r => q (elV true r)) 0 rows = -1 := he
  simp (maxSteps:=500000) only [↓vp, vv, ↓reduceIte, simprocAttr, c178, r178, c178_1, c178_2, c178_3, c178_4, hlt', he2, Pu]
set_option maxHeartbeats 4000000 in
theorem hasF_P (q : D → Bool) (g : FuncId) (l rows : List (List D)) (h : QOk Try.prog true 3 q g l rows) (nn : Nm) : CallsA Try.prog 168 [.sl rows, .clo g [] (ips l)] Hp.none nn (Pu (outC (fun r => q (elV true r)) rows) Hp.none) := by
 obtain ⟨code, h1, h2⟩ := c168_ok
 refine callsA_of (T := tc 178 (rowPu (selQ Try.prog true 3 (fun g' l' d => q d) outI)) T0) (tc_pu f178_ok (fun args pre d hs hp nn => ?_) (T0_ok _)) mixed (N := fun t => (0, t)) Try.func168 h1 h2 r168_ok [] false js_nil js_nil' (by simp [Try.f168]) ?_
 ·unfold selQ at hs
  split at hs
  ·split at hs
   ·rename_i hi
    cases hs
    rw [ipsOf_eq hi]
    exact idxF_P _ _ _ _ hp nn
   ·cases hs
  ·cases hs
 ·have ha := idxOf_any (fun r => q (elV true r)) rows 0 (Int.le_refl _)
  have hv : decide (0 ≤ idxOf (fun r => q (elV true r)) 0 rows) = rows.any (fun r => q (elV true r)) := by
   rw [Bool.eq_iff_iff, decide_eq_true_eq]; exact ha
  simp (maxSteps:=500000) only [↓vp, vv, ↓reduceIte, simprocAttr, c168, r168, selQ, ipsOf_ips, h, ips_nms, ips_lend, ips_lendNm, ips_ok, ips_refs, outI, outC, addNm, cellNms, hv, Pu]
set_option maxHeartbeats 4000000 in
theorem idxF_N (q : D → Bool) (g : FuncId) (l rows : List (List D)) (h : QOk Try.prog true 5 q g l rows) (nn : Nm) : CallsA Try.prog 163 [.sl rows, .clo g [] (ips l)] Hp.none nn (Pu (outI (fun r => q (elV true r)) rows) Hp.none) := by
 obtain ⟨hg, hl, hq⟩ := h
 obtain ⟨code, h1, h2⟩ := c163_ok
 refine callsA_of (tc_q (q := q) hg (T0_ok _)) mixed (N := fun t => (0, t)) Try.func163 h1 h2 r163_ok [] false js_nil js_nil' (by simp [Try.f163]) ?_
 unfold outI
 simp (maxSteps:=500000) only [↓vp, vv, ↓reduceIte, simprocAttr, c163]
 rw [vc_loop]
 refine ⟨fun m s => ∃ j : Nat, j + m = rows.length ∧ idxOf (fun r => q (elV true r)) 0 rows = idxOf (fun r => q (elV true r)) j (rows.drop j) ∧ s = ⟨fr [(0, .sl rows), (1, .clo g [] (ips l)), (7, di rows.length), (8, di j)], Hp.none⟩, ⟨rows.length, _, (weak_eq [] [] [(0, .sl rows), (1, .clo g [] (ips l)), (7, di rows.length), (8, di 0)] (by simp only [↓vp, vv, ↓reduceIte, simprocAttr, coverS]) (by simp only [↓vp, vv, ↓reduceIte, simprocAttr, refsF, ips_refs]) (by simp only [↓vp, vv, ↓reduceIte, simprocAttr, ]) (by simp) (by simp only [↓vp, vv, ↓reduceIte, simprocAttr, ]; try rfl)), ⟨0, by omega, rfl, rfl⟩⟩, ?_⟩
 rintro m s ⟨j, hj, he, rfl⟩
 by_cases hlt : j < rows.length
 ·have hlt' : (j : Int) < rows.length := by omega
  have h0 : (0 : Int) ≤ j := by omega
  obtain ⟨r, hr⟩ : ∃ r, rows[j]? = some r := ⟨_, get_lt hlt⟩
  have hg' : rows.getD j [] = r := by rw [List.getD_eq_getElem?_getD, hr]; rfl
  obtain ⟨hr1, hr2, hr0, hr3⟩ := hq r (List.mem_of_getElem? hr)
  rw [idxOf_drop _ _ _ _ hr] at he
  have w1 : IntKind.i64.wrap ((j : Int) + 1) = ((j + 1 : Nat) : Int) := by rw [wrap_i (by omega)]; rfl
  have ht : r.take 5 = r := List.take_of_length_le (by omega)
  have d1 := fun H => (doneR H [] hr2).1
  have d2 := fun H => (doneR H [] hr2).2.1
  have d3 := fun H => (doneR H [] hr2).2.2.1
  have d4 := (doneR Hp.none [] hr2).2.2.2.1
  have d5 := fun js => (doneR Hp.none js hr2).2.2.2.2
  have hc : ∀ nn, CallsA Try.prog g ((.agg r) :: ips l) Hp.none nn (Pu (db (q (.agg r))) Hp.none) := hr3
  have he2 : idxOf (fun r => q (elV true r)) 0 rows = if q (.agg r) = true then (j : Int) else idxOf (fun r => q (elV true r)) (j + 1 : Nat) (rows.drop (j + 1)) := he
  cases hb : q (.agg r) with
  | true =>
   rw [hb, if_pos rfl] at he2
   have hcT : ∀ nn, CallsA Try.prog g ((.agg r) :: ips l) Hp.none nn (Pu (db true) Hp.none) = True := fun nn => eq_true (by have := hc nn; rwa [hb] at this)
   simp (maxSteps:=500000) only [↓vp, vv, ↓reduceIte, simprocAttr, c163, r163, c163_1, c163_2, c163_3, c163_4, hlt', h0, Int.toNat_natCast, hg', hr1, ht, d1, d2, d3, d4, d5, ips_nms, ips_lend, ips_lendNm, ips_ok, ips_refs, rowQ, hb, he2, Pu, addNm, cellNms, hcT]
  | false =>
   rw [hb, if_neg (by simp)] at he2
   have hcT : ∀ nn, CallsA Try.prog g ((.agg r) :: ips l) Hp.none nn (Pu (db false) Hp.none) = True := fun nn => eq_true (by have := hc nn; rwa [hb] at this)
   simp (maxSteps:=500000) only [↓vp, vv, ↓reduceIte, simprocAttr, c163, r163, c163_1, c163_2, c163_3, c163_4, hlt', h0, Int.toNat_natCast, hg', hr1, ht, d1, d2, d3, d4, d5, ips_nms, ips_lend, ips_lendNm, ips_ok, ips_refs, rowQ, hb, addNm, cellNms, hcT]
   exact ⟨m - 1, _, by omega, weak_eq [] [] [(0, .sl rows), (1, .clo g [] (ips l)), (7, di rows.length), (8, di ((j + 1 : Nat) : Int))] (by simp only [↓vp, vv, ↓reduceIte, simprocAttr, coverS, w1]) (by simp only [↓vp, vv, ↓reduceIte, simprocAttr, refsF, ips_refs]) (by simp only [↓vp, vv, ↓reduceIte, simprocAttr, ]) (by simp) (by simp only [↓vp, vv, ↓reduceIte, simprocAttr, ]; try rfl), ⟨j + 1, by omega, he2, rfl⟩⟩
 ·have hlt' : ¬ (j : Int) < rows.length := by omega
  rw [List.drop_of_length_le (by omega)] at he
  have he2 : idxOf (fun r => q (elV true r)) 0 rows = -1 := he
  simp (maxSteps:=500000) only [↓vp, vv, ↓reduceIte, simprocAttr, c163, r163, c163_1, c163_2, c163_3, c163_4, hlt', he2, Pu]
set_option maxHeartbeats 4000000 in
theorem hasF_N (q : D → Bool) (g : FuncId) (l rows : List (List D)) (h : QOk Try.prog true 5 q g l rows) (nn : Nm) : CallsA Try.prog 171 [.sl rows, .clo g [] (ips l)] Hp.none nn (Pu (outC (fun r => q (elV true r)) rows) Hp.none) := by
 obtain ⟨code, h1, h2⟩ := c171_ok
 refine callsA_of (T := tc 163 (rowPu (selQ Try.prog true 5 (fun g' l' d => q d) outI)) T0) (tc_pu f163_ok (fun args pre d hs hp nn => ?_) (T0_ok _)) mixed (N := fun t => (0, t)) Try.func171 h1 h2 r171_ok [] false js_nil js_nil' (by simp [Try.f171]) ?_
 ·unfold selQ at hs
  split at hs
  ·split at hs
   ·rename_i hi
    cases hs
    rw [ipsOf_eq hi]
    exact idxF_N _ _ _ _ hp nn
   ·cases hs
  ·cases hs
 ·have ha := idxOf_any (fun r => q (elV true r)) rows 0 (Int.le_refl _)
  have hv : decide (0 ≤ idxOf (fun r => q (elV true r)) 0 rows) = rows.any (fun r => q (elV true r)) := by
   rw [Bool.eq_iff_iff, decide_eq_true_eq]; exact ha
  simp (maxSteps:=500000) only [↓vp, vv, ↓reduceIte, simprocAttr, c171, r171, selQ, ipsOf_ips, h, ips_nms, ips_lend, ips_lendNm, ips_ok, ips_refs, outI, outC, addNm, cellNms, hv, Pu]
end Go.Proofs.Ytadjhfjiimgddaa
