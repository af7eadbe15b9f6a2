/- TankAnswers: Vt Vu CodeS GF Vw CodeN Nm TkL CodeB Gen1. -/
import Derived.Test.YtadjhfjiimgddaaTA3
import Derived.Test.YtadjhfjiimgddaaProg

/- Rows of tables: pure functions; functions that read from a source. -/
/- Rows of tables: pure functions; functions that read from a source. -/
namespace Go.Proofs.Ytadjhfjiimgddaa
open Go
set_option linter.unusedVariables false
set_option linter.unusedSimpArgs false

theorem mixed : Try.prog.follows .mixedOrders = true := by kernel_rfl
abbrev InI (n : Int) : Prop := -9223372036854775808 ≤ n ∧ n ≤ 9223372036854775807
/-- A list of numbers that lies in memory, and how far it was read. -/
structure SrcOk (L : List (List D)) (at' : Int) : Prop where
  lo : 0 ≤ at'
  hi : at' ≤ L.length
  len : (L.length : Int) ≤ 2000
  ints : ∃ ns : List Int, L = ns.map (fun n => [di n]) ∧ ∀ n ∈ ns, InI n
def sE (L : List (List D)) (at' : Int) : En := ⟨0, 2, [[.sl L, di at']]⟩
def intsOf : List (List D) → Option (List Int)
  | [] => some []
  | [.v (.int .i64 n)] :: l => match intsOf l with
    | some ns => some (n :: ns)
    | Option.none => Option.none
  | _ => Option.none
theorem intsOf_map (ns : List Int) : intsOf (ns.map fun n => [di n]) = some ns := by
  induction ns with
  | nil => rfl
  | cons n ns ih => rw [List.map_cons, intsOf, ih]
theorem intsOf_eq : ∀ {l : List (List D)} {ns : List Int}, intsOf l = some ns → l = ns.map (fun n => [di n])
  | [], ns, h => by rw [intsOf] at h; cases h; rfl
  | [.v (.int .i64 n)] :: l, ns, h => by
    rw [intsOf] at h
    split at h
    · rename_i ms hm
      cases h
      rw [List.map_cons, ← intsOf_eq hm]
    · cases h
def strsOf : List (List D) → Option (List ByteArray)
  | [] => some []
  | [.v (.string n)] :: l => match strsOf l with
    | some ns => some (n :: ns)
    | Option.none => Option.none
  | _ => Option.none
theorem strsOf_eq : ∀ {l : List (List D)} {ns : List ByteArray}, strsOf l = some ns → l = ns.map (fun n => [ds n])
  | [], ns, h => by rw [strsOf] at h; cases h; rfl
  | [.v (.string n)] :: l, ns, h => by
    rw [strsOf] at h
    split at h
    · rename_i ms hm
      cases h
      rw [List.map_cons, ← strsOf_eq hm]
    · cases h
/-- What a function yields that reads from a source. -/
def SrcR {α : Type} (i : Nm) (L : List (List D)) (post : α → Prop) (val : α → D) : D → Hp → Prop := fun v H' => ∃ at' a, SrcOk L at' ∧ post a ∧ v = val a ∧ H' = Hp.none.put i (sE L at')
/-- How far a source was read. -/
abbrev SA (L : List (List D)) := { at' : Int // SrcOk L at' }
theorem sa_ok {L : List (List D)} (a : SA L) : SrcOk L a.1 = True := eq_true a.2
theorem SrcR_all {α : Type} (i : Nm) (L : List (List D)) (post : α → Prop) (val : α → D) (K : D → Hp → Prop) : (∀ v H', SrcR i L post val v H' → K v H') = ∀ (at' : SA L) (a : α), post a → K (val a) (Hp.none.put i (sE L at'.1)) :=
  propext ⟨fun h at' a h2 => h _ _ ⟨at'.1, a, at'.2, h2, rfl, rfl⟩, fun h v H' ⟨at', a, h1, h2, e1, e2⟩ => by rw [e1, e2]; exact h ⟨at', h1⟩ a h2⟩
/-- A row whose contract was shown once. -/
theorem tc_row {P : Program} {f : FuncId} {r : List D → Hp → Nm → Option (Prop × (D → Hp → Prop))} {T : Tbl} (hf : fnOk P f = true) (hr : ∀ args Hs nn pre R, r args Hs nn = some (pre, R) → pre → (∃ v H', R v H') ∧ CallsA P f args Hs nn R) (h : TblOk P T) : TblOk P (tc f r T) := fun f' args Hs nn pre R hT => by
  rw [tc_at] at hT
  split at hT
  · rename_i e
    subst e
    exact ⟨hf, hr args Hs nn pre R hT⟩
  · exact h f' args Hs nn pre R hT
theorem nm1 (i : Nm) (t : Nat) : (i = (i.1 + 1, t)) = False := eq_false fun h => by have := congrArg Prod.fst h; dsimp only at this; omega
theorem nm2 (i : Nm) (t : Nat) : ((i.1 + 1, t) = i) = False := eq_false fun h => by have := congrArg Prod.fst h; dsimp only at this; omega
theorem forall_nil {α : Type} (p : α → Prop) : (∀ x, x ∈ ([] : List α) → p x) = True := eq_true fun x h => by cases h
theorem bq_t (b : Bool) : (b == true) = b := by cases b <;> rfl
theorem bq_f (b : Bool) : (b == false) = !b := by cases b <;> rfl
theorem tq_b (b : Bool) : (true == b) = b := by cases b <;> rfl
theorem fq_b (b : Bool) : (false == b) = !b := by cases b <;> rfl
theorem weak_eq {J : List Nm} {F : Fr} {H H' : Hp} (ks js : List Nm) (l : List (Nat × D)) (h1 : coverS F H ks l) (h2 : refsF js l = true) (h3 : ClosedH (H.kills ks) js js) (h4 : ∀ i ∈ J, i ∈ js) (h5 : (H.kills ks).restr js = H') : Weak J ⟨F, H⟩ ⟨fr l, H'⟩ := h5 ▸ weak_to ks js l h1 h2 h3 h4
/-- The row of a pure function. -/
def rowPu (sel : List D → Option (Prop × D)) : List D → Hp → Nm → Option (Prop × (D → Hp → Prop)) := fun args Hs nn =>
  match sel args with
  | some (pre, d) => some (Hs = Hp.none ∧ pre, Pu d Hp.none)
  | Option.none => Option.none
theorem tc_pu {P : Program} {f : FuncId} {sel : List D → Option (Prop × D)} {T : Tbl} (hf : fnOk P f = true) (h : ∀ args pre d, sel args = some (pre, d) → pre → ∀ nn, CallsA P f args Hp.none nn (Pu d Hp.none)) (hT : TblOk P T) : TblOk P (tc f (rowPu sel) T) :=
  tc_row hf (fun args Hs nn pre R hr hp => by
    unfold rowPu at hr
    split at hr
    · rename_i pre' d hs
      cases hr
      obtain ⟨rfl, hp⟩ := hp
      exact ⟨⟨d, Hp.none, rfl, rfl⟩, h args pre' d hs hp nn⟩
    · cases hr) hT
/-- The row of a function that yields one of some values. -/
def PuE {α : Type} (post : α → Prop) (val : α → D) (Hs : Hp) : D → Hp → Prop := fun v H' => ∃ a, post a ∧ v = val a ∧ H' = Hs
theorem PuE_all {α : Type} (post : α → Prop) (val : α → D) (Hs : Hp) (K : D → Hp → Prop) : (∀ v H', PuE post val Hs v H' → K v H') = ∀ a, post a → K (val a) Hs :=
  propext ⟨fun h a h1 => h _ _ ⟨a, h1, rfl, rfl⟩, fun h v H' ⟨a, h1, e1, e2⟩ => by rw [e1, e2]; exact h a h1⟩
def rowPuE {α : Type} (sel : List D → Option (Prop × (α → Prop))) (val : α → D) : List D → Hp → Nm → Option (Prop × (D → Hp → Prop)) := fun args Hs nn =>
  match sel args with
  | some (pre, post) => some (Hs = Hp.none ∧ pre, PuE post val Hp.none)
  | Option.none => Option.none
/-- The row of a function that reads from a source. -/
def rowSrc {α : Type} (sel : List D → Option (Prop × (α → Prop))) (val : α → D) : List D → Hp → Nm → Option (Prop × (D → Hp → Prop)) := fun args Hs nn =>
  match args with
  | .ptr i g r c :: args =>
    match sel args, Hs i with
    | some (pre, post), some ⟨_, _, [[.sl L, .v (.int .i64 at')]]⟩ => some ((Hs = Hp.none.put i (sE L at') ∧ g = 0 ∧ r = 0 ∧ c = 0) ∧ SrcOk L at' ∧ pre, SrcR i L post val)
    | _, _ => Option.none
  | _ => Option.none
def SrcC {α : Type} (P : Program) (f : FuncId) (args : List D) (post : α → Prop) (val : α → D) : Prop := ∀ i L at' nn, SrcOk L at' → CallsA P f (.ptr i 0 0 0 :: args) (Hp.none.put i (sE L at')) nn (SrcR i L post val)
theorem tc_src {P : Program} {f : FuncId} {α : Type} {sel : List D → Option (Prop × (α → Prop))} {val : α → D} {T : Tbl} (hf : fnOk P f = true) (h : ∀ args pre post, sel args = some (pre, post) → pre → (∃ a, post a) ∧ SrcC P f args post val) (hT : TblOk P T) : TblOk P (tc f (rowSrc sel val) T) :=
  tc_row hf (fun args Hs nn pre R hr hp => by
    unfold rowSrc at hr
    split at hr
    · rename_i i g r c args
      split at hr
      · rename_i pre' post g' sz L at' hs hH
        cases hr
        obtain ⟨⟨rfl, rfl, rfl, rfl⟩, ho, hp⟩ := hp
        obtain ⟨⟨a, ha⟩, hc⟩ := h args pre' post hs hp
        exact ⟨⟨val a, _, at', a, ho, ha, rfl, rfl⟩, hc i L at' nn ho⟩
      · cases hr
    · cases hr) hT
/-- A nil slice in a struct of one's own is a slice of one's own. -/
theorem weak_ownC {J : List Nm} {F : Fr} {H : Hp} (j : Nm) (g sz : Nat) (pre post : List D) (i : Nm) (isz : Nat) (hj : H j = some ⟨g, sz, [pre ++ .mt :: post]⟩) (hi : H i = Option.none) :
    Weak J ⟨F, H⟩ ⟨F, (H.put i ⟨0, isz, []⟩).put j ⟨g, sz, [pre ++ .own i 0 0 0 :: post]⟩⟩ := by
  intro E hE Im p a w hR
  have hne : j ≠ i := fun h => by rw [h, hi] at hj; cases hj
  have T : Turn Im p H w.heap i ⟨0, 0, []⟩ ⟨0, isz, []⟩ (0, 0) w.heap := ⟨.inr ⟨hi, rfl⟩, .inl hi, fun _ _ _ => rfl, Nat.le_refl _, fun h => absurd rfl h, fun h => absurd rfl h⟩
  have G := T.grows hR.hp
  have R1 := T.relH hR.hp
  have X1 := T.relE hR.hp hR.en rfl rfl rfl
  generalize p.put i (0, 0) = p1 at *
  have hj1 : (H.put i ⟨0, isz, []⟩) j = some ⟨g, sz, [pre ++ .mt :: post]⟩ := by rw [Hp.put_other _ hne]; exact hj
  have hi1 : (H.put i ⟨0, isz, []⟩) i = some ⟨0, isz, []⟩ := Hp.put_same _ _ _
  generalize H.put i ⟨0, isz, []⟩ = H1 at *
  have G2 : Grows Im p1 H1 w.heap Im p1 (H1.put j ⟨g, sz, [pre ++ .own i 0 0 0 :: post]⟩) w.heap := ⟨fun _ h => h, fun _ _ => rfl, fun k ek hk => by
    by_cases h : k = j
    · subst h
      rw [hj1] at hk
      cases hk
      exact ⟨_, Hp.put_same _ _ _, Nat.le_refl _, fun _ => ⟨rfl, rfl, fun _ => ⟨by simp, fun c t hc => ⟨c, hc, rfl⟩⟩⟩⟩
    · exact ⟨ek, by rw [Hp.put_other _ h]; exact hk, Nat.le_refl _, fun _ => ⟨rfl, rfl, fun hn => ⟨hn, fun c t hc => ⟨c, hc, rfl⟩⟩⟩⟩⟩
  have key : ∀ k ek, (H1.put j ⟨g, sz, [pre ++ .own i 0 0 0 :: post]⟩) k = some ek → ek.rows ≠ [] → ∃ ek', H1 k = some ek' ∧ ek'.rows ≠ [] := fun k ek hk hn => by
    by_cases h : k = j
    · subst h
      exact ⟨_, hj1, by simp⟩
    · rw [Hp.put_other _ h] at hk
      exact ⟨ek, hk, hn⟩
  refine ⟨Im, p1, hR.sz, fun k => ((hR.fr k).mono G).mono G2, ⟨fun k ek hk hn => ?_, fun k l ek el hk hl nk nl hkl => ?_, R1.im⟩, ⟨X1.os, X1.tape, X1.output, X1.size, X1.block, X1.im, X1.im', fun k ek hk hn => ?_⟩, (hR.gr.trans G).trans G2, hR.df⟩
  · dsimp only at hk ⊢
    by_cases h : k = j
    · subst h
      rw [Hp.put_same] at hk
      cases hk
      obtain ⟨c, t, k1, k2, k3⟩ := R1.cell k _ hj1 (by simp)
      refine ⟨c, t, k1, k2, fun r hr => ?_, k3.le, fun r q row d hr hd => ?_⟩
      · have := k3.len _ (List.mem_cons_self ..)
        rw [List.mem_singleton.1 hr]
        simpa using this
      · cases r with
        | succ r => simp at hr
        | zero =>
          cases hr
          by_cases hq : q = pre.length
          · subst hq
            rw [List.getElem?_append_right (Nat.le_refl _), Nat.sub_self] at hd
            cases hd
            obtain ⟨u, u1, u2, u3⟩ := k3.cell 0 pre.length _ .mt rfl (by rw [List.getElem?_append_right (Nat.le_refl _), Nat.sub_self]; rfl)
            refine ⟨u, u1, ?_, u3⟩
            obtain ⟨ao, rfl⟩ := rel_mt u2
            exact .own i 0 0 0 _ 0 ⟨0, isz, []⟩ (by rw [Hp.put_other _ (Ne.symm hne)]; exact hi1) (Nat.le_refl _) (Nat.le_refl _) fun _ h => absurd h (Nat.lt_irrefl _)
          · have e : (pre ++ D.mt :: post)[q]? = some d := by
              rcases Nat.lt_or_ge q pre.length with h | h
              · rw [List.getElem?_append_left h] at hd ⊢
                exact hd
              · rw [List.getElem?_append_right h] at hd ⊢
                rw [show q - pre.length = (q - pre.length - 1) + 1 by omega, List.getElem?_cons_succ] at hd ⊢
                exact hd
            obtain ⟨u, u1, u2, u3⟩ := k3.cell 0 q _ d rfl e
            exact ⟨u, u1, u2.mono G2, u3⟩
    · rw [Hp.put_other _ h] at hk
      obtain ⟨c, t, k1, k2, k3⟩ := R1.cell k ek hk hn
      exact ⟨c, t, k1, k2, k3.mono G2⟩
  · obtain ⟨_, a1, a2⟩ := key k ek hk nk
    obtain ⟨_, b1, b2⟩ := key l el hl nl
    exact R1.inj k l _ _ a1 b1 a2 b2 hkl
  · obtain ⟨_, a1, a2⟩ := key k ek hk hn
    exact X1.ids k _ a1 a2
set_option linter.defProp false
def vp0 := And.intro @vc_skip (And.intro @vc_opsD (And.intro @vc_opsL (And.intro @vc_seq (And.intro @vc_cond (And.intro @vc_block (And.intro @vc_exit (And.intro @vc_ret (And.intro @runL_n (And.intro @runL_c (And.intro @runD_n (And.intro @runD_c (And.intro @KL_at (And.intro @KD_at (And.intro @run1_at (And.intro @thenQ_n (And.intro @thenQ_e (And.intro @thenQ_r (And.intro @blockQ_n (And.intro @blockQ_e (And.intro @blockQ_r (And.intro @loopQ_n (And.intro @loopQ_e (And.intro @loopQ_r (And.intro @finQ_n (And.intro @finQ_r (And.intro @Pu_all (And.intro @SrcR_all (@PuE_all))))))))))))))))))))))))))))
def vp := And.intro vp0 (And.intro @vc_opsF (And.intro @runF_n (And.intro @runF_f (And.intro @runF_t @KF_at))))
def v1 := And.intro @guardD.eq_1 (And.intro @guardD.eq_2 (And.intro @callee.eq_1 (And.intro @callee.eq_2 (And.intro @callee.eq_3 (And.intro @callRun.eq_1 (And.intro @callRun1.eq_1 (And.intro @callRun2.eq_1 (And.intro @callRun3_at (And.intro @sO_s (And.intro @sC_s (And.intro @sC_n (And.intro @sG_s (And.intro @sT_s (And.intro @sB_v (And.intro @ite_vb (And.intro @List.length_map.{0,0} (And.intro @List.length_append.{0} (And.intro @List.isEmpty_nil.{0} (And.intro @List.isEmpty_cons.{0} (And.intro @D.flat.eq_1 (And.intro @D.flat.eq_2 (And.intro @D.flat.eq_3 (And.intro @D.flat.eq_4 (And.intro @D.flat.eq_5 (And.intro @flatL.eq_1 (And.intro @flatL.eq_2 (And.intro @eff.eq_1 (And.intro @eff.eq_2 (And.intro @eff.eq_3 (And.intro @eff.eq_4 (And.intro @eff.eq_5 (And.intro @eff.eq_6 (And.intro @eff.eq_7 (And.intro @eff.eq_8 (And.intro @eff.eq_9 (And.intro @eff.eq_10 (And.intro @eff.eq_11 (And.intro @eff.eq_12 (@eff.eq_13)))))))))))))))))))))))))))))))))))))))
def v2 := And.intro @eff.eq_14 (And.intro @eff.eq_15 (And.intro @eff.eq_16 (And.intro @eff.eq_17 (And.intro @eff.eq_18 (And.intro @eff.eq_19 (And.intro @eff.eq_20 (And.intro @eff.eq_21 (And.intro @eff.eq_22 (And.intro @eff.eq_23 (And.intro @eff.eq_24 (And.intro @eff.eq_25 (And.intro @eff.eq_26 (And.intro @eff.eq_27 (And.intro @eff.eq_28 (And.intro @eff.eq_29 (And.intro @eff.eq_30 (And.intro @eff.eq_31 (And.intro @eff.eq_32 (And.intro @Opd.ev.eq_1 (And.intro @Opd.ev.eq_2 (And.intro @mapEv.eq_1 (And.intro @mapEv.eq_2 (And.intro @putF_at (And.intro @putF_no (And.intro @arg_at (And.intro @arg_no (And.intro @fr_at (And.intro @fr_no (And.intro @hput_at (And.intro @hno_at (And.intro @hput_put (And.intro @Out.pure.eq_1 (And.intro @Hp.puto.eq_1 (And.intro @Hp.puto.eq_2 (And.intro @wid.eq_1 (And.intro @wid.eq_2 (And.intro @past.eq_1 (And.intro @past.eq_2 (@chk.eq_1)))))))))))))))))))))))))))))))))))))))
def v3 := And.intro @chk.eq_2 (And.intro @natIn.eq_1 (And.intro @natIn.eq_2 (And.intro @nmIn.eq_1 (And.intro @nmIn.eq_2 (And.intro @indep.eq_1 (And.intro @disj.eq_1 (And.intro @disj.eq_2 (And.intro @binD.eq_1 (And.intro @binD.eq_2 (And.intro @binD.eq_3 (And.intro @binD.eq_4 (And.intro @binD.eq_5 (And.intro @binD.eq_6 (And.intro @binD.eq_7 (And.intro @binI.eq_1 (And.intro @binI.eq_2 (And.intro @binI.eq_3 (And.intro @binI.eq_4 (And.intro @binI.eq_5 (And.intro @binI.eq_6 (And.intro @binI.eq_7 (And.intro @binI.eq_8 (And.intro @binI.eq_9 (And.intro @binI.eq_10 (And.intro @cmpI.eq_1 (And.intro @cmpI.eq_2 (And.intro @cmpI.eq_3 (And.intro @cmpI.eq_4 (And.intro @cmpI.eq_5 (And.intro @cmpI.eq_6 (And.intro @cmpI.eq_7 (And.intro @D.nat.eq_1 (And.intro @D.nat.eq_2 (And.intro @D.cells.eq_1 (And.intro @D.cells.eq_2 (And.intro @D.cells.eq_3 (And.intro @D.cells.eq_4 (And.intro @D.cells.eq_5 (@one.eq_1)))))))))))))))))))))))))))))))))))))))
def v4 := And.intro @one.eq_2 (And.intro @one.eq_3 (And.intro @cellsAt.eq_1 (And.intro @put1.eq_1 (And.intro @put1.eq_2 (And.intro @fillD.eq_1 (And.intro @fillD.eq_2 (And.intro @fillR.eq_1 (And.intro @fillR.eq_2 (And.intro @rowsOf.eq_1 (And.intro @rowsOf.eq_2 (And.intro @rowsOf.eq_3 (And.intro @rowsOf.eq_4 (And.intro @lenOf.eq_1 (And.intro @lenOf.eq_2 (And.intro @lenOf.eq_3 (And.intro @lenOf.eq_4 (And.intro @bnd.eq_1 (And.intro @bnd.eq_2 (And.intro @lend.eq_1 (And.intro @lend.eq_2 (And.intro @lend1.eq_1 (And.intro @lend1.eq_2 (And.intro @lend1.eq_3 (And.intro @lendNm.eq_1 (And.intro @lendNm.eq_2 (And.intro @lendNm1.eq_1 (And.intro @lendNm1.eq_2 (And.intro @lendOkL'.eq_1 (And.intro @lendOkL'.eq_2 (And.intro @lendOk.eq_1 (And.intro @lendOk.eq_2 (And.intro @lendOk1.eq_1 (And.intro @lendOk1.eq_2 (And.intro @lendOkL.eq_1 (And.intro @lendOkL.eq_2 (And.intro @lendT.eq_1 (And.intro @lendT.eq_2 (And.intro @lendNmT.eq_1 (@lendNmT.eq_2)))))))))))))))))))))))))))))))))))))))
def v5 := And.intro @lendOkT.eq_1 (And.intro @lendOkT.eq_2 (And.intro @Hp.kills.eq_1 (And.intro @Hp.kills.eq_2 (And.intro @Hp.kill.eq_1 (And.intro @Hp.over.eq_1 (And.intro @Hp.over.eq_2 (And.intro @Hp.restr.eq_1 (And.intro @Hp.restr.eq_2 (And.intro @reach.eq_1 (And.intro @take_map (And.intro @take_mapS (And.intro @natc0 (And.intro @natc1 (And.intro @natc2 (And.intro @natc3 (And.intro @natc4 (And.intro @natc5 (And.intro @natc6 (And.intro @natc7 (And.intro @beq_self_eq_true.{0} (And.intro @Nat.le_refl (And.intro @Int.le_refl (And.intro @plain_v (And.intro @plain_any (And.intro @plain_sl (And.intro @plain_mt (And.intro @List.forall_mem_append.{0} (And.intro @List.forall_mem_map.{0,0} (And.intro @addNm.eq_1 (And.intro @addNm.eq_2 (And.intro @nmsL.eq_1 (And.intro @nmsL.eq_2 (And.intro @D.nms.eq_1 (And.intro @D.nms.eq_2 (And.intro @D.nms.eq_3 (And.intro @D.nms.eq_4 (And.intro @D.nms.eq_5 (And.intro @D.nms.eq_6 (@D.nms.eq_7)))))))))))))))))))))))))))))))))))))))
def v6 := And.intro @D.nms.eq_8 (And.intro @D.nms.eq_9 (And.intro @D.nms.eq_10 (And.intro @cellNms.eq_1 (And.intro @cellNms.eq_2 (And.intro @refsInL.eq_1 (And.intro @refsInL.eq_2 (And.intro @D.refsIn.eq_1 (And.intro @D.refsIn.eq_2 (And.intro @D.refsIn.eq_3 (And.intro @D.refsIn.eq_4 (And.intro @D.refsIn.eq_5 (And.intro @D.refsIn.eq_6 (And.intro @D.refsIn.eq_7 (And.intro @D.refsIn.eq_8 (And.intro @D.refsIn.eq_9 (And.intro @D.refsIn.eq_10 (And.intro @ClosedH.eq_1 (And.intro @ClosedH.eq_2 (And.intro @resL.eq_1 (And.intro @resL.eq_2 (And.intro @resD.eq_1 (And.intro @resD.eq_2 (And.intro @retA.eq_1 (And.intro @retB.eq_1 (And.intro @packD.eq_1 (And.intro @packD.eq_2 (And.intro @tc_at (And.intro @rowR_at (And.intro @Pu_ex (And.intro @true_and (And.intro @and_true (And.intro @and_false (And.intro @false_and (And.intro @or_true (And.intro @true_or (And.intro @or_false (And.intro @false_or (And.intro @and_self (@List.map_cons.{0,0})))))))))))))))))))))))))))))))))))))))
def v7 := And.intro @List.map_nil.{0,0} (And.intro @List.flatMap_cons.{0,0} (And.intro @List.flatMap_nil.{0,0} (And.intro @List.append_nil.{0} (And.intro @List.nil_append.{0} (And.intro @List.cons_append.{0} (And.intro @Bool.false_eq_true (And.intro @Prod.mk.injEq.{0,0} (And.intro @List.length_cons.{0} (And.intro @List.length_nil.{0} (And.intro @Nat.add_zero (And.intro @Nat.zero_add (And.intro @List.getD_cons_zero.{0} (And.intro @List.getD_cons_succ.{0} (And.intro @List.drop_zero.{0} (And.intro @List.drop_succ_cons.{0} (And.intro @List.take_succ_cons.{0} (And.intro @List.take_zero.{0} (And.intro @List.set_cons_zero.{0} (And.intro @List.set_cons_succ.{0} (And.intro @List.replicate.eq_1.{0} (And.intro @List.replicate.eq_2.{0} (And.intro @Bool.not_true (And.intro @Bool.not_false (And.intro @Bool.true_and (And.intro @Bool.and_true (And.intro @Bool.false_and (And.intro @Bool.and_false (And.intro @Bool.or_true (And.intro @Bool.true_or (And.intro @Bool.or_false (And.intro @Bool.false_or (And.intro @eq_self.{1} (And.intro @imp_self (And.intro @ge_iff_le.{0} (And.intro @gt_iff_lt.{0} (And.intro @decide_eq_true_eq (@intsOf.eq_1)))))))))))))))))))))))))))))))))))))
def v8 := And.intro @intsOf.eq_2 (And.intro @intsOf.eq_3 (And.intro @intsOf_map (And.intro @strsOf.eq_1 (And.intro @strsOf.eq_2 (And.intro @strsOf.eq_3 (And.intro @sE.eq_1 (And.intro @ne_eq.{1} (And.intro @not_false_eq_true (And.intro @bq_t (And.intro @bq_f (And.intro @tq_b (And.intro @fq_b (And.intro @List.forall_mem_cons.{0} (And.intro @forall_nil (And.intro @sa_ok (And.intro @rowPu.eq_1 (And.intro @rowPuE.eq_1 (And.intro @rowSrc.eq_1 (And.intro @rowSrc.eq_2 (And.intro @nm1 (@nm2)))))))))))))))))))))
def v9 := And.intro @oP_at (And.intro @oB_at (And.intro @oG_at (And.intro @oA_at (And.intro @oS_at (And.intro @cI_at @cB_at)))))
def v10 := And.intro @runKC_s (And.intro @runKT_s (And.intro @D.oflat.eq_1 (And.intro @D.oflat.eq_2 (And.intro @D.oflat.eq_3 (And.intro @D.oflat.eq_4 (And.intro @D.oflat.eq_5 (And.intro @oflatL.eq_1 (And.intro @oflatL.eq_2 (And.intro @flatAt.eq_1 (And.intro @flatRs.eq_1 (And.intro @flatRs.eq_2 @eff.eq_33)))))))))))
def vv := And.intro v10 (And.intro v9 (And.intro v1 (And.intro v2 (And.intro v3 (And.intro v4 (And.intro v5 (And.intro v6 (And.intro v7 v8))))))))
end Go.Proofs.Ytadjhfjiimgddaa

/- Boxes that nobody writes any more; functions that look through slices with a function. -/
namespace Go.Proofs.Ytadjhfjiimgddaa
open Go
set_option linter.unusedVariables false
set_option linter.unusedSimpArgs false

/-- A box that nobody writes any more is plain data. -/
theorem weak_ip {J : List Nm} {F : Fr} {H : Hp} (t : Nat) (i : Nm) (g sz : Nat) (row : List D) (h : F t = .ptr i g 0 0) (hi : H i = some ⟨g, sz, [row]⟩) (hp : ∀ d ∈ row, d.plain = true) (hJ : i ∉ J) : Weak J ⟨F, H⟩ ⟨putF F (some t) (.ip row), H.kills [i]⟩ := by
  intro E hE Im p a w hR
  obtain ⟨Im1, g1, r1, x1, b1⟩ := kills_spec (E := E) (w := w) [i] Im H hR.hp hR.en
  refine ⟨Im1, p, hR.sz, fun k => ?_, r1, x1, hR.gr.trans g1, hR.df⟩
  dsimp only [putF]
  by_cases hk : k = t
  · subst hk
    rw [if_pos rfl]
    have r := hR.fr k
    dsimp only at r
    rw [h] at r
    obtain ⟨c, tt, k1, k2, k3⟩ := hR.hp.cell i _ hi (by simp)
    dsimp only at k1 k3
    have hl : row.length = sz := k3.len row (List.mem_cons_self ..)
    cases r with
    | p r => cases r
    | ptr _ _ _ _ x h1 e hH hg hx =>
      rw [hi] at hH
      cases hH
      rw [hx rfl]
      have key : ∀ j (hj : j < row.length), ∃ u, hc w.heap (p i).1 ((p i).2 + j) = some u ∧ one u = true ∧ ∀ d, row[j]? = some d → RelP Im w.heap d u := fun j hj => by
        obtain ⟨u, u1, u2, u3⟩ := k3.cell 0 j row row[j] rfl (List.getElem?_eq_getElem hj)
        refine ⟨u, ?_, u3, fun d hd => ?_⟩
        · unfold hc
          rw [k1]
          dsimp only
          rw [← u1]
          congr 1
          omega
        · rw [List.getElem?_eq_getElem hj] at hd
          cases hd
          exact u2.plain (hp _ (List.getElem_mem hj))
      rw [show (p i).2 + 0 * sz + 0 = (p i).2 by omega]
      refine .ip row _ _ (fun j => (hc w.heap (p i).1 ((p i).2 + j)).getD undef) (b1 i (List.mem_cons_self ..) _ hi (by simp)) (fun j hj => ?_) (fun j d hd => ?_)
      · obtain ⟨u, u1, u2, _⟩ := key j hj
        rw [u1]
        exact ⟨rfl, u2⟩
      · have hj : j < row.length := by
          rcases Nat.lt_or_ge j row.length with h | h
          · exact h
          · rw [List.getElem?_eq_none h] at hd; cases hd
        obtain ⟨u, u1, _, u3⟩ := key j hj
        rw [u1]
        exact (u3 d hd).mono g1.im g1.blk
  · rw [if_neg hk]
    exact (hR.fr k).mono g1
/-- Boxes as plain data. -/
abbrev ips (l : List (List D)) : List D := l.map D.ip
theorem ips_nms : ∀ (l : List (List D)), nmsL (ips l) = []
  | [] => rfl
  | r :: l => by
    show nmsL (D.ip r :: ips l) = []
    rw [nmsL, ips_nms l]; rfl
theorem ips_lend (H : Hp) : ∀ (l : List (List D)), (ips l).map (lend H) = ips l
  | [] => rfl
  | r :: l => by
    show lend H (D.ip r) :: (ips l).map (lend H) = D.ip r :: ips l
    rw [ips_lend H l]; rfl
theorem ips_lendNm (H : Hp) : ∀ (l : List (List D)), (ips l).flatMap (lendNm H) = []
  | [] => rfl
  | r :: l => by
    show lendNm H (D.ip r) ++ (ips l).flatMap (lendNm H) = []
    rw [ips_lendNm H l]; rfl
theorem ips_ok (H : Hp) : ∀ (l : List (List D)), lendOkL' H (ips l) = True
  | [] => rfl
  | r :: l => by
    show (lendOk H (D.ip r) ∧ lendOkL' H (ips l)) = True
    rw [ips_ok H l]; simp [lendOk, lendOk1]
theorem ips_refs (js : List Nm) : ∀ (l : List (List D)), refsInL js (ips l) = true
  | [] => rfl
  | r :: l => by
    show (D.refsIn js (D.ip r) && refsInL js (ips l)) = true
    rw [ips_refs js l]; simp [D.refsIn]
/-- Cells that a call hands on as they are. -/
def D.done : D → Bool
  | .v _ => true
  | .any => true
  | .sl _ => true
  | _ => false
def doneL : List D → Bool
  | [] => true
  | d :: ds => d.done && doneL ds
/-- A row for a function that is called by its number, with a value and boxes. -/
def rowQ (P : Program) (g : FuncId) (q : D → Bool) : List D → Hp → Nm → Option (Prop × (D → Hp → Prop)) := fun args Hs nn =>
  match args with
  | el :: rest => some (Hs = Hp.none ∧ CallsA P g (el :: rest) Hp.none nn (Pu (db (q el)) Hp.none), Pu (db (q el)) Hp.none)
  | [] => Option.none
theorem tc_q {P : Program} {g : FuncId} {q : D → Bool} {T : Tbl} (hf : fnOk P g = true) (hT : TblOk P T) : TblOk P (tc g (rowQ P g q) T) :=
  tc_row hf (fun args Hs nn pre R hr hp => by
    unfold rowQ at hr
    split at hr
    · cases hr
      obtain ⟨rfl, hp⟩ := hp
      exact ⟨⟨_, Hp.none, rfl, rfl⟩, hp⟩
    · cases hr) hT
def ipsOf : List D → Option (List (List D))
  | [] => some []
  | .ip r :: l => match ipsOf l with
    | some ls => some (r :: ls)
    | Option.none => Option.none
  | _ => Option.none
theorem ipsOf_eq : ∀ {l : List D} {ls : List (List D)}, ipsOf l = some ls → l = ips ls
  | [], ls, h => by rw [ipsOf] at h; cases h; rfl
  | d :: l, ls, h => by
    cases d <;> rw [ipsOf] at h <;> try cases h
    split at h
    · rename_i ms hm
      cases h
      rw [ipsOf_eq hm]
      rfl
    · cases h
end Go.Proofs.Ytadjhfjiimgddaa

/- Compiled code of some functions (printed by a program), each checked by the kernel. -/
namespace Go.Proofs.Ytadjhfjiimgddaa
open Go
set_option maxRecDepth 100000
end Go.Proofs.Ytadjhfjiimgddaa

/- Functions of the library that look through slices with a function. -/
namespace Go.Proofs.Ytadjhfjiimgddaa
open Go
set_option linter.unusedVariables false
set_option linter.unusedSimpArgs false
set_option maxRecDepth 100000

end Go.Proofs.Ytadjhfjiimgddaa

/- Loops over ranges: a rule. -/
namespace Go.Proofs.Ytadjhfjiimgddaa
open Go
set_option linter.unusedVariables false
set_option linter.unusedSimpArgs false

def RngI (n : Nat) (st : Nat → St) (P : Nat → Prop) (m : Nat) (s : St) : Prop := ∃ j, j + m = n ∧ P j ∧ s = st j
theorem rng_loop {T : Tbl} {N : Nat → Nm} {J : List Nm} {c : C} {Q : Ex → St → Prop} {s : St} (n : Nat) (st : Nat → St) (P : Nat → Prop) (h0 : Weak J s (st 0)) (hP : P 0)
    (hs : ∀ j, j < n → P j → vc T N J c (loopQ J (RngI n st P) (n - j) Q) (st j)) (he : P n → vc T N J c (loopQ J (RngI n st P) 0 Q) (st n)) : vc T N J (.loop c) Q s := by
  rw [vc_loop]
  refine ⟨RngI n st P, ⟨n, _, h0, 0, by omega, hP, rfl⟩, ?_⟩
  rintro m s' ⟨j, hj, hPj, rfl⟩
  by_cases h : j < n
  · obtain rfl : m = n - j := by omega
    exact hs j h hPj
  · obtain rfl : j = n := by omega
    obtain rfl : m = 0 := by omega
    exact he hPj
theorem rng_next {J : List Nm} {n : Nat} {st : Nat → St} {P : Nat → Prop} {j : Nat} {s : St} (hj : j < n) (w : Weak J s (st (j + 1))) (hp : P (j + 1)) : ∃ k' s', k' < n - j ∧ Weak J s s' ∧ RngI n st P k' s' :=
  ⟨n - (j + 1), _, by omega, w, j + 1, by omega, hp, rfl⟩
theorem weak0 {F : Fr} {H : Hp} {l : List (Nat × D)} (h1 : coverS F H [] l) (h2 : refsF [] l = true) : Weak [] ⟨F, H⟩ ⟨fr l, Hp.none⟩ := weak_eq [] [] l h1 h2 trivial (by simp) rfl
theorem drop_all {α : Type} {p : α → Bool} {l : List α} {j : Nat} {b : Bool} (hj : j < l.length) (he : (l.drop j).all p = b) : (p l[j] = false → b = false) ∧ (p l[j] = true → (l.drop (j + 1)).all p = b) := by
  rw [List.drop_eq_getElem_cons hj, List.all_cons] at he
  exact ⟨fun h => by rw [h] at he; simpa using he.symm, fun h => by rw [h] at he; simpa using he⟩
theorem drop_all_end {α : Type} {p : α → Bool} {l : List α} {b : Bool} (he : (l.drop l.length).all p = b) : b = true := by
  rw [List.drop_of_length_le (Nat.le_refl _)] at he
  exact he.symm
/-- The index of a round, as a number. -/
theorem idx_next {j : Nat} (h : (j : Int) ≤ 1000000000000) : IntKind.i64.wrap ((j : Int) + 1) = ((j + 1 : Nat) : Int) := by rw [wrap_i (by omega)]; rfl
theorem idx_nn (j : Nat) : (0 : Int) ≤ (j : Int) := Int.natCast_nonneg j
end Go.Proofs.Ytadjhfjiimgddaa

/- Compiled code of some functions (printed by a program), each checked by the kernel. -/
namespace Go.Proofs.Ytadjhfjiimgddaa
open Go
set_option maxRecDepth 100000
def c67_1 : C := (.ops false [oP 28 (.bin .add (.t 20) (cI 1)), oP 20 (.mv (.t 28))])
def c67_2 : C := (.seq (.block 1 (.seq (.ops false [oP 22 (.mv (.t 20)), oP 3 (.mv (.t 22))]) (.seq (.ops false [oP 23 (.mv (.t 0)), oP 24 (.mv (.t 3)), oP 25 (.ixS (.t 23) (.t 24)), oB 26 (.call 120 [(.t 25)]), oP 27 (.bin .eql (.t 26) (cI 0))]) (.cond (.t 27) (.seq (.ops false [oP 2 (.mv (cB false))]) .ret) .skip)))) c67_1)
def c67_3 : C := (.seq (.ops false [oP 21 (.bin .lss (.t 20) (.t 19))]) (.seq (.cond (.t 21) .skip (.exit 0)) c67_2))
def c67_4 : C := (.seq (.ops false [oP 2 (.mv (cB true))]) .ret)
def c67_5 : C := (.seq (.seq (.ops false [oP 18 (.mv (.t 0)), oP 19 (.lenS (.t 18)), oP 20 (.mv (cI 0))]) (.block 0 (.loop c67_3))) c67_4)
def c67 : C := (.seq (.ops false [oP 2 (.mv (cB false))]) (.seq (.seq (.ops false [oP 4 (.mv (.t 0)), oP 5 (.lenS (.t 4)), oP 6 (.bin .lss (.t 5) (cI 1)), oP 7 (.mv (.t 6)), oG 8 7 false (.mv (.t 0)), oG 9 7 false (.lenS (.t 8)), oG 10 7 false (.bin .gtr (.t 9) (cI 12)), oP 11 (.pick (.t 7) (cB true) (.t 10)), oP 12 (.mv (.t 11)), oG 13 12 false (.mv (.t 0)), oG 14 12 false (.ixS (.t 13) (cI 0)), ⟨(.some 15),
  (.some (12, false)), (.call 120 [(.t 14)]), 15, [], true⟩, oG 16 12 false (.bin .neq (.t 15) (cI 1)), oP 17 (.pick (.t 12) (cB true) (.t 16))]) (.cond (.t 17) (.seq (.ops false [oP 2 (.mv (cB false))]) .ret) .skip)) c67_5))
def r67 : List RV := [(.tmp 2)]
theorem c67_ok : ∃ code, Try.f67.body = some code ∧ compC Try.prog Try.f67.ntmps code = some (C.strip c67) := ⟨_, rfl, by kernel_rfl⟩
theorem r67_ok : compRes Try.prog Try.f67.results.toList = some r67 := by kernel_rfl
theorem f67_ok : fnOk Try.prog 67 = true := by kernel_rfl
def c68_1 : C := (.ops false [oP 26 (.mv (.t 3)), oP 27 (.bin .add (.t 26) (cI 1)), oP 3 (.mv (.t 27))])
def c68_2 : C := (.seq (.block 1 (.seq (.ops false [oP 28 (.mv (.t 0)), oP 29 (.mv (.t 3)), oP 30 (.ixS (.t 28) (.t 29)), oP 31 (.bin .lss (.t 30) (.c (.v (.int .u8 97)))), oP 32 (.mv (.t 31)), oG 33 32 false (.mv (.t 0)), oG 34 32 false (.mv (.t 3)), oG 35 32 false (.ixS (.t 33) (.t 34)), oG 36 32 false (.bin .gtr (.t 35) (.c (.v (.int .u8 122)))), oP 37 (.pick (.t 32) (cB true) (.t 36)), oP 38 (.mv (.t 37)),
  oG 39 38 true (.mv (.t 0)), oG 40 38 true (.mv (.t 3)), oG 41 38 true (.ixS (.t 39) (.t 40)), oG 42 38 true (.bin .lss (.t 41) (.c (.v (.int .u8 48)))), oG 43 38 true (.mv (.t 42)), oG 44 43 false (.mv (.t 0)), oG 45 43 false (.mv (.t 3)), oG 46 43 false (.ixS (.t 44) (.t 45)), oG 47 43 false (.bin .gtr (.t 46) (.c (.v (.int .u8 57)))), oG 48 38 true (.pick (.t 43) (cB true) (.t 47)),
  oP 49 (.pick (.t 38) (.t 48) (cB false)), oP 50 (.mv (.t 49)), oG 51 50 true (.mv (.t 0)), oG 52 50 true (.mv (.t 3)), oG 53 50 true (.ixS (.t 51) (.t 52)), oG 54 50 true (.bin .neq (.t 53) (.c (.v (.int .u8 45)))), oP 55 (.pick (.t 50) (.t 54) (cB false))]) (.cond (.t 55) (.seq (.ops false [oP 2 (.mv (cB false))]) .ret) .skip))) c68_1)
def c68_3 : C := (.seq (.seq (.ops false [oP 22 (.mv (.t 3)), oP 23 (.mv (.t 0)), oP 24 (.lenS (.t 23)), oP 25 (.bin .lss (.t 22) (.t 24))]) (.cond (.t 25) .skip (.exit 0))) c68_2)
def c68_4 : C := (.seq (.ops false [oP 2 (.mv (cB true))]) .ret)
def c68_5 : C := (.seq (.seq (.ops false [oP 3 (.mv (cI 0))]) (.block 0 (.loop c68_3))) c68_4)
def c68 : C := (.seq (.ops false [oP 2 (.mv (cB false))]) (.seq (.seq (.ops false [oP 4 (.mv (.t 0)), oP 5 (.lenS (.t 4)), oP 6 (.bin .lss (.t 5) (cI 1)), oP 7 (.mv (.t 6)), oG 8 7 false (.mv (.t 0)), oG 9 7 false (.lenS (.t 8)), oG 10 7 false (.bin .gtr (.t 9) (cI 12)), oP 11 (.pick (.t 7) (cB true) (.t 10)), oP 12 (.mv (.t 11)), oG 13 12 false (.mv (.t 0)), oG 14 12 false (.ixS (.t 13) (cI 0)),
  oG 15 12 false (.bin .lss (.t 14) (.c (.v (.int .u8 97)))), oP 16 (.pick (.t 12) (cB true) (.t 15)), oP 17 (.mv (.t 16)), oG 18 17 false (.mv (.t 0)), oG 19 17 false (.ixS (.t 18) (cI 0)), oG 20 17 false (.bin .gtr (.t 19) (.c (.v (.int .u8 122)))), oP 21 (.pick (.t 17) (cB true) (.t 20))]) (.cond (.t 21) (.seq (.ops false [oP 2 (.mv (cB false))]) .ret) .skip)) c68_5))
def r68 : List RV := [(.tmp 2)]
theorem c68_ok : ∃ code, Try.f68.body = some code ∧ compC Try.prog Try.f68.ntmps code = some (C.strip c68) := ⟨_, rfl, by kernel_rfl⟩
theorem r68_ok : compRes Try.prog Try.f68.results.toList = some r68 := by kernel_rfl
theorem f68_ok : fnOk Try.prog 68 = true := by kernel_rfl
def c120_1 : C := (.seq (.ops false [oP 18 (.mv (.t 0)), oP 19 (.bin .eql (.t 18) (.c (.v (.int .u8 45)))), oP 17 (.mv (.t 19))]) (.cond (.t 17) (.exit 3) .skip))
def c120_2 : C := (.seq (.seq (.ops false [oP 11 (.mv (.t 0)), oP 12 (.bin .geq (.t 11) (.c (.v (.int .u8 48)))), oP 13 (.mv (.t 12)), oG 14 13 true (.mv (.t 0)), oG 15 13 true (.bin .leq (.t 14) (.c (.v (.int .u8 57)))), oP 16 (.pick (.t 13) (.t 15) (cB false)), oP 10 (.mv (.t 16))]) (.cond (.t 10) (.exit 2) .skip)) c120_1)
def c120_3 : C := (.exit 0)
def c120_4 : C := (.seq (.seq (.ops false [oP 2 (.mv (cI 1))]) .ret) (.exit 0))
def c120_5 : C := (.seq (.seq (.ops false [oP 2 (.mv (cI 2))]) .ret) (.exit 0))
def c120_6 : C := (.seq (.ops false [oP 2 (.mv (cI 0))]) .ret)
def c120 : C := (.seq (.ops false [oP 2 (.mv (cI 0))]) (.seq (.block 0 (.seq (.block 3 (.block 2 (.seq (.block 1 (.seq (.seq (.seq (.ops false [oP 4 (.mv (.t 0)), oP 5 (.bin .geq (.t 4) (.c (.v (.int .u8 97)))), oP 6 (.mv (.t 5)), oG 7 6 true (.mv (.t 0)), oG 8 6 true (.bin .leq (.t 7) (.c (.v (.int .u8 122)))), oP 9 (.pick (.t 6) (.t 8) (cB false)), oP 3 (.mv (.t 9))]) (.cond (.t 3) (.exit 1) .skip)) c120_2)
  c120_3)) c120_4))) c120_5)) c120_6))
def r120 : List RV := [(.tmp 2)]
theorem c120_ok : ∃ code, Try.f120.body = some code ∧ compC Try.prog Try.f120.ntmps code = some (C.strip c120) := ⟨_, rfl, by kernel_rfl⟩
theorem r120_ok : compRes Try.prog Try.f120.results.toList = some r120 := by kernel_rfl
theorem f120_ok : fnOk Try.prog 120 = true := by kernel_rfl
end Go.Proofs.Ytadjhfjiimgddaa

/- Names: lines.Name and ref03.Name. -/
namespace Go.Proofs.Ytadjhfjiimgddaa
open Go
set_option linter.unusedVariables false
set_option linter.unusedSimpArgs false
set_option maxRecDepth 100000

def placeI (c : Int) : Int := if 97 ≤ c ∧ c ≤ 122 then 1 else if 48 ≤ c ∧ c ≤ 57 then 2 else if c = 45 then 2 else 0
def byteI (s : ByteArray) (k : Nat) : Int := (s.data.getD k 0).toNat
def bytesI (s : ByteArray) : List Int := (List.range s.size).map (byteI s)
def nameB (s : ByteArray) : Bool := if s.size < 1 then false else if 12 < s.size then false else if placeI (byteI s 0) = 1 then (bytesI s).all (fun c => decide (placeI c ≠ 0)) else false
theorem bytesI_len (s : ByteArray) : (bytesI s).length = s.size := by simp [bytesI]
theorem bytesI_at (s : ByteArray) {j : Nat} (h : j < (bytesI s).length) : (bytesI s)[j] = byteI s j := by simp [bytesI]
set_option maxHeartbeats 4000000 in
theorem place_c (c : Int) (nn : Nm) : CallsA Try.prog 120 [.v (.int .u8 c)] Hp.none nn (Pu (di (placeI c)) Hp.none) := by
  obtain ⟨code, h1, h2⟩ := c120_ok
  refine callsA_of (T0_ok _) mixed (N := fun t => (0, t)) Try.func120 h1 h2 r120_ok [] false js_nil js_nil' (by simp [Try.f120]) ?_
  by_cases a1 : 97 ≤ c
  · by_cases a2 : c ≤ 122
    · simp (config := { maxSteps := 500000 }) only [↓vp, vv, implies_true, forall_const, undef, InI, ↓reduceIte, simprocAttr, c120, r120, c120_1, c120_2, c120_3, c120_4, c120_5, c120_6, a1, a2, placeI, Pu, decide_true, decide_false]
    · have a3 : ¬ c ≤ 57 := by omega
      have a4 : 48 ≤ c := by omega
      have a5 : (c == 45) = false := beq_false_of_ne (by omega)
      have a6 : ¬ c = 45 := by omega
      simp (config := { maxSteps := 500000 }) only [↓vp, vv, implies_true, forall_const, undef, InI, ↓reduceIte, simprocAttr, c120, r120, c120_1, c120_2, c120_3, c120_4, c120_5, c120_6, a1, a2, a3, a4, a5, a6, placeI, Pu, decide_true, decide_false]
  · by_cases a2 : 48 ≤ c
    · by_cases a3 : c ≤ 57
      · simp (config := { maxSteps := 500000 }) only [↓vp, vv, implies_true, forall_const, undef, InI, ↓reduceIte, simprocAttr, c120, r120, c120_1, c120_2, c120_3, c120_4, c120_5, c120_6, a1, a2, a3, placeI, Pu, decide_true, decide_false]
      · have a5 : (c == 45) = false := beq_false_of_ne (by omega)
        have a6 : ¬ c = 45 := by omega
        simp (config := { maxSteps := 500000 }) only [↓vp, vv, implies_true, forall_const, undef, InI, ↓reduceIte, simprocAttr, c120, r120, c120_1, c120_2, c120_3, c120_4, c120_5, c120_6, a1, a2, a3, a5, a6, placeI, Pu, decide_true, decide_false]
    · by_cases a5 : c = 45
      · have a6 : (c == 45) = true := beq_iff_eq.2 a5
        simp (config := { maxSteps := 500000 }) only [↓vp, vv, implies_true, forall_const, undef, InI, ↓reduceIte, simprocAttr, c120, r120, c120_1, c120_2, c120_3, c120_4, c120_5, c120_6, a1, a2, a5, a6, placeI, Pu, decide_true, decide_false]
      · have a6 : (c == 45) = false := beq_false_of_ne a5
        simp (config := { maxSteps := 500000 }) only [↓vp, vv, implies_true, forall_const, undef, InI, ↓reduceIte, simprocAttr, c120, r120, c120_1, c120_2, c120_3, c120_4, c120_5, c120_6, a1, a2, a5, a6, placeI, Pu, decide_true, decide_false]
def selPlace : List D → Option (Prop × D)
  | [.v (.int .u8 c)] => some (True, di (placeI c))
  | _ => Option.none
def TP : Tbl := tc 120 (rowPu selPlace) T0
theorem TP_ok : TblOk Try.prog TP := by
  refine tc_pu f120_ok (fun args pre d h hp nn => ?_) (T0_ok _)
  unfold selPlace at h
  split at h <;> cases h
  exact place_c _ nn
theorem byteI_eq (s : ByteArray) (k : Nat) : ((s.data.getD k 0).toNat : Int) = byteI s k := rfl
set_option maxHeartbeats 4000000 in
theorem lname_c (s : ByteArray) (nn : Nm) : CallsA Try.prog 67 [ds s] Hp.none nn (Pu (db (nameB s)) Hp.none) := by
  obtain ⟨code, h1, h2⟩ := c67_ok
  refine callsA_of TP_ok mixed (N := fun t => (0, t)) Try.func67 h1 h2 r67_ok [] false js_nil js_nil' (by simp [Try.f67]) ?_
  by_cases a1 : (s.size : Int) < 1
  · have b1 : s.size < 1 := by omega
    simp (config := { maxSteps := 500000 }) only [↓vp, vv, implies_true, forall_const, undef, InI, ↓reduceIte, simprocAttr, c67, r67, c67_1, c67_2, c67_3, c67_4, c67_5, a1, b1, nameB, Pu, decide_true, decide_false]
  · by_cases a2 : (12 : Int) < s.size
    · have b1 : ¬ s.size < 1 := by omega
      have b2 : 12 < s.size := by omega
      simp (config := { maxSteps := 500000 }) only [↓vp, vv, implies_true, forall_const, undef, InI, ↓reduceIte, simprocAttr, c67, r67, c67_1, c67_2, c67_3, c67_4, c67_5, a1, a2, b1, b2, nameB, Pu, decide_true, decide_false]
    · have b1 : ¬ s.size < 1 := by omega
      have b2 : ¬ 12 < s.size := by omega
      have b3 : (0 : Int) < s.size := by omega
      by_cases a3 : placeI (byteI s 0) = 1
      · have e0 : nameB s = (bytesI s).all (fun c => decide (placeI c ≠ 0)) := by unfold nameB; rw [if_neg b1, if_neg b2, if_pos a3]
        rw [e0]
        generalize hb : (bytesI s).all (fun c => decide (placeI c ≠ 0)) = b
        simp (config := { maxSteps := 500000 }) only [↓vp, vv, implies_true, forall_const, undef, InI, ↓reduceIte, simprocAttr, c67, c67_5, TP, selPlace, a1, a2, a3, b3, byteI_eq, bne_self_eq_false, decide_true, decide_false]
        refine rng_loop s.size (fun j => ⟨fr [(0, ds s), (19, di s.size), (20, di j)], Hp.none⟩) (fun j => ((bytesI s).drop j).all (fun c => decide (placeI c ≠ 0)) = b) (weak0 (by simp (config := { maxSteps := 500000 }) only [↓vp, vv, implies_true, forall_const, undef, InI, ↓reduceIte, simprocAttr, coverS]) (by simp (config := { maxSteps := 500000 }) only [↓vp, vv, implies_true, forall_const, undef, InI, ↓reduceIte, simprocAttr, refsF])) hb (fun j hj he => ?_) (fun he => ?_)
        · have hj' : (j : Int) < s.size := by omega
          have hn := idx_nn j
          have w1 := idx_next (j := j) (by omega)
          obtain ⟨hf, ht⟩ := drop_all (by rw [bytesI_len]; exact hj) he
          rw [bytesI_at] at hf ht
          by_cases a4 : placeI (byteI s j) = 0
          · have e5 : b = false := hf (by simp [a4])
            subst e5
            simp (config := { maxSteps := 500000 }) only [↓vp, vv, implies_true, forall_const, undef, InI, ↓reduceIte, simprocAttr, c67, r67, c67_1, c67_2, c67_3, c67_4, c67_5, TP, selPlace, hj', hn, Int.toNat_natCast, byteI_eq, a4, w1, Pu, decide_true, decide_false]
          · have a5 : (placeI (byteI s j) == 0) = false := beq_false_of_ne a4
            simp (config := { maxSteps := 500000 }) only [↓vp, vv, implies_true, forall_const, undef, InI, ↓reduceIte, simprocAttr, c67, r67, c67_1, c67_2, c67_3, c67_4, c67_5, TP, selPlace, hj', hn, Int.toNat_natCast, byteI_eq, a5, w1, decide_true, decide_false]
            exact rng_next hj (weak0 (by simp (config := { maxSteps := 500000 }) only [↓vp, vv, implies_true, forall_const, undef, InI, ↓reduceIte, simprocAttr, coverS, w1]) (by simp (config := { maxSteps := 500000 }) only [↓vp, vv, implies_true, forall_const, undef, InI, ↓reduceIte, simprocAttr, refsF])) (ht (by simp [a4]))
        · have e5 : b = true := drop_all_end (by rw [bytesI_len]; exact he)
          subst e5
          simp (config := { maxSteps := 500000 }) only [↓vp, vv, implies_true, forall_const, undef, InI, ↓reduceIte, simprocAttr, c67, r67, c67_1, c67_2, c67_3, c67_4, c67_5, TP, selPlace, Int.lt_irrefl, Pu, decide_true, decide_false]
      · have a5 : (placeI (byteI s 0) != 1) = true := by simp [a3]
        simp (config := { maxSteps := 500000 }) only [↓vp, vv, implies_true, forall_const, undef, InI, ↓reduceIte, simprocAttr, c67, r67, c67_1, c67_2, c67_3, c67_4, c67_5, TP, selPlace, a1, a2, a3, a5, b1, b2, b3, byteI_eq, nameB, Pu, decide_true, decide_false]
end Go.Proofs.Ytadjhfjiimgddaa

/- Tanks: the plain laws of volumes and levels. -/
namespace Go.Proofs.Ytadjhfjiimgddaa
open Go
set_option linter.unusedVariables false
set_option linter.unusedSimpArgs false

structure Strap where
  lv : Int
  vl : Int
def st (l : List Strap) (i : Nat) : Strap := l.getD i ⟨0, 0⟩
theorem st_get {l : List Strap} {i : Nat} (h : i < l.length) : l[i] = st l i := by
  unfold st
  rw [List.getD_eq_getElem?_getD, List.getElem?_eq_getElem h]
  rfl
def stNum (s : Strap) : Prop := (0 ≤ s.lv ∧ s.lv ≤ 1048576) ∧ (0 ≤ s.vl ∧ s.vl ≤ 1099511627776)
def stUp (a b : Strap) : Prop := a.lv < b.lv ∧ a.vl < b.vl
def stOk (l : List Strap) (i : Nat) : Prop := stNum (st l i) ∧ (0 < i → stUp (st l (i - 1)) (st l i))
def tOk (nm : ByteArray) (l : List Strap) (lo hi : Int) : Prop :=
  nameB nm = true ∧ (2 ≤ l.length ∧ l.length ≤ 16) ∧ (∀ i, i < l.length → stOk l i) ∧ (st l 0).lv ≤ lo ∧ hi ≤ (st l (l.length - 1)).lv ∧ lo < hi
instance (nm : ByteArray) (l : List Strap) (lo hi : Int) : Decidable (tOk nm l lo hi) := by unfold tOk stOk stNum stUp; infer_instance
def tValid (nm : ByteArray) (l : List Strap) (lo hi : Int) : Bool := decide (tOk nm l lo hi)
/-- The levels ascend. -/
def Asc (l : List Strap) : Prop := ∀ a b, a < b → b < l.length → stUp (st l a) (st l b)
theorem asc_of {l : List Strap} (h : ∀ i, i < l.length → stOk l i) : Asc l := by
  intro a b hab
  induction b with
  | zero => omega
  | succ b ih =>
    intro hb
    have h1 := (h (b + 1) hb).2 (by omega)
    rw [Nat.add_sub_cancel] at h1
    rcases Nat.lt_or_eq_of_le (Nat.lt_succ_iff.1 hab) with h2 | rfl
    · have := ih h2 (by omega)
      unfold stUp at *
      omega
    · exact h1
/-- The straps j and j + 1 are those around the level x. -/
def Around (l : List Strap) (x : Int) (j : Nat) : Prop :=
  j + 1 < l.length ∧ (st l j).lv ≤ x ∧ x ≤ (st l (j + 1)).lv ∧ (0 < j → (st l j).lv < x)
def segV (a b : Strap) (x : Int) : Int := a.vl + (b.vl - a.vl) * (x - a.lv) / (b.lv - a.lv)
theorem around_lt {l : List Strap} {x : Int} {j k : Nat} (h : Around l x j) (ha : Asc l) (hk : k ≤ j) (h0 : 0 < k) : (st l k).lv < x := by
  have h1 := h.2.2.2 (by omega)
  rcases Nat.lt_or_eq_of_le hk with h2 | rfl
  · have := ha k j h2 (by have := h.1; omega)
    unfold stUp at this; omega
  · exact h1
/-- The numbers of a segment. -/
structure StSeg (a b : Strap) (x : Int) : Prop where
  na : stNum a
  nb : stNum b
  up : stUp a b
  lo : a.lv ≤ x
  hi : x ≤ b.lv
theorem stSeg_of {l : List Strap} {x : Int} {j : Nat} (h : Around l x j) (hs : ∀ i, i < l.length → stOk l i) : StSeg (st l j) (st l (j + 1)) x :=
  ⟨(hs j (by have := h.1; omega)).1, (hs (j + 1) h.1).1, asc_of hs j (j + 1) (by omega) h.1, h.2.1, h.2.2.1⟩
theorem seg_bd {a b : Strap} {x : Int} (h : StSeg a b x) : (0 ≤ (b.vl - a.vl) * (x - a.lv) ∧ (b.vl - a.vl) * (x - a.lv) ≤ 1099511627776 * 1048576) ∧
    (0 ≤ (b.vl - a.vl) * (x - a.lv) / (b.lv - a.lv) ∧ (b.vl - a.vl) * (x - a.lv) / (b.lv - a.lv) ≤ b.vl - a.vl) ∧ (a.vl ≤ segV a b x ∧ segV a b x ≤ b.vl) := by
  obtain ⟨⟨⟨a1, a2⟩, a3, a4⟩, ⟨⟨b1, b2⟩, b3, b4⟩, ⟨u1, u2⟩, l1, l2⟩ := h
  have m0 : 0 ≤ (b.vl - a.vl) * (x - a.lv) := Int.mul_nonneg (by omega) (by omega)
  have m1 : (b.vl - a.vl) * (x - a.lv) ≤ 1099511627776 * 1048576 := Int.le_trans (Int.mul_le_mul_of_nonneg_right (show b.vl - a.vl ≤ 1099511627776 by omega) (by omega)) (Int.mul_le_mul_of_nonneg_left (by omega) (by omega))
  have m2 : (b.vl - a.vl) * (x - a.lv) ≤ (b.vl - a.vl) * (b.lv - a.lv) := Int.mul_le_mul_of_nonneg_left (by omega) (by omega)
  have d0 : 0 ≤ (b.vl - a.vl) * (x - a.lv) / (b.lv - a.lv) := Int.ediv_nonneg m0 (by omega)
  have d1 : (b.vl - a.vl) * (x - a.lv) / (b.lv - a.lv) ≤ b.vl - a.vl := Int.ediv_le_of_le_mul (by omega) m2
  refine ⟨⟨m0, m1⟩, ⟨d0, d1⟩, ?_⟩
  unfold segV
  omega
def ixGo (l : List Strap) (x : Int) : Nat → Nat → Nat
  | 0, j => j
  | f + 1, j => if x ≤ (st l (j + 1)).lv then j else ixGo l x f (j + 1)
/-- The strap below a level. -/
def ix (l : List Strap) (x : Int) : Nat := ixGo l x (l.length - 2) 0
def vol (l : List Strap) (x : Int) : Int := segV (st l (ix l x)) (st l (ix l x + 1)) x
/-- Straps as a valid tank has them. -/
structure Straps (l : List Strap) : Prop where
  two : 2 ≤ l.length
  most : l.length ≤ 16
  ok : ∀ i, i < l.length → stOk l i
def fst (l : List Strap) : Strap := st l 0
def lst (l : List Strap) : Strap := st l (l.length - 1)
/-- A level between the first and the last one. -/
def InL (l : List Strap) (x : Int) : Prop := (fst l).lv ≤ x ∧ x ≤ (lst l).lv
instance (l : List Strap) (x : Int) : Decidable (InL l x) := by unfold InL; infer_instance
theorem ixGo_around {l : List Strap} {x : Int} (h : Straps l) (hx : InL l x) : ∀ f j, j + f = l.length - 2 → (st l j).lv ≤ x → (0 < j → (st l j).lv < x) → Around l x (ixGo l x f j)
  | 0, j, e, h1, h2 => by
    have := h.two
    refine ⟨by unfold ixGo; omega, h1, ?_, h2⟩
    have hl := hx.2
    unfold lst at hl
    rw [show l.length - 1 = j + 1 by omega] at hl
    exact hl
  | f + 1, j, e, h1, h2 => by
    have := h.two
    unfold ixGo
    by_cases hc : x ≤ (st l (j + 1)).lv
    · rw [if_pos hc]
      exact ⟨by omega, h1, hc, h2⟩
    · rw [if_neg hc]
      exact ixGo_around h hx f (j + 1) (by omega) (by omega) (fun _ => by omega)
theorem ix_around {l : List Strap} {x : Int} (h : Straps l) (hx : InL l x) : Around l x (ix l x) :=
  ixGo_around h hx _ 0 (by have := h.two; omega) hx.1 (fun h => absurd h (by omega))
theorem around_eq {l : List Strap} {x : Int} {i j : Nat} (h : Straps l) (hi : Around l x i) (hj : Around l x j) : i = j := by
  have ha := asc_of h.ok
  have up := fun a b (hab : a < b) (hb : b < l.length) => (ha a b hab hb).1
  rcases Nat.lt_trichotomy i j with hlt | he | hlt
  · have h1 := hj.2.2.2 (by omega)
    have h2 := hi.2.2.1
    rcases Nat.lt_or_eq_of_le (show i + 1 ≤ j by omega) with h3 | h3
    · have := up (i + 1) j h3 (by have := hj.1; omega); omega
    · rw [h3] at h2; omega
  · exact he
  · have h1 := hi.2.2.2 (by omega)
    have h2 := hj.2.2.1
    rcases Nat.lt_or_eq_of_le (show j + 1 ≤ i by omega) with h3 | h3
    · have := up (j + 1) i h3 (by have := hi.1; omega); omega
    · rw [h3] at h2; omega
theorem vol_bd {l : List Strap} {x : Int} (h : Straps l) (hx : InL l x) : (st l (ix l x)).vl ≤ vol l x ∧ vol l x ≤ (st l (ix l x + 1)).vl :=
  (seg_bd (stSeg_of (ix_around h hx) h.ok)).2.2
theorem vol_num {l : List Strap} {x : Int} (h : Straps l) (hx : InL l x) : 0 ≤ vol l x ∧ vol l x ≤ 1099511627776 := by
  have h1 := vol_bd h hx
  have ar := ix_around h hx
  have h2 := (h.ok (ix l x) (by have := ar.1; omega)).1.2
  have h3 := (h.ok (ix l x + 1) ar.1).1.2
  omega
theorem seg_mono {a b : Strap} {x y : Int} (h : StSeg a b x) (h' : StSeg a b y) (hxy : x ≤ y) : segV a b x ≤ segV a b y := by
  unfold segV
  have up := h.up
  have : (b.vl - a.vl) * (x - a.lv) / (b.lv - a.lv) ≤ (b.vl - a.vl) * (y - a.lv) / (b.lv - a.lv) :=
    Int.ediv_le_ediv (by have := up.1; omega) (Int.mul_le_mul_of_nonneg_left (by omega) (by have := up.2; omega))
  omega
theorem ix_mono {l : List Strap} {x y : Int} (h : Straps l) (hx : InL l x) (hy : InL l y) (hxy : x ≤ y) : ix l x ≤ ix l y := by
  rcases Nat.lt_or_ge (ix l y) (ix l x) with hlt | hge
  · exfalso
    have ax := ix_around h hx
    have ay := ix_around h hy
    have h1 := around_lt ax (asc_of h.ok) (Nat.le_refl _) (by omega)
    have h2 := ay.2.2.1
    have h3 := around_lt ax (asc_of h.ok) (k := ix l y + 1) (by omega) (by omega)
    omega
  · exact hge
theorem vol_mono {l : List Strap} {x y : Int} (h : Straps l) (hx : InL l x) (hy : InL l y) (hxy : x ≤ y) : vol l x ≤ vol l y := by
  have ax := ix_around h hx
  have ay := ix_around h hy
  rcases Nat.lt_or_eq_of_le (ix_mono h hx hy hxy) with hlt | heq
  · have b1 := (vol_bd h hx).2
    have b2 := (vol_bd h hy).1
    rcases Nat.lt_or_eq_of_le (show ix l x + 1 ≤ ix l y by omega) with h3 | h3
    · have := (asc_of h.ok (ix l x + 1) (ix l y) h3 (by have := ay.1; omega)).2; omega
    · rw [h3] at b1; omega
  · have sx := stSeg_of ax h.ok
    have sy := stSeg_of ay h.ok
    rw [← heq] at sy
    have := seg_mono sx sy hxy
    unfold vol
    rw [← heq]
    exact this
theorem vol_at {l : List Strap} {x : Int} {j : Nat} (h : Straps l) (hx : Around l x j) (hi : InL l x) : vol l x = segV (st l j) (st l (j + 1)) x := by
  unfold vol
  rw [around_eq h (ix_around h hi) hx]
theorem seg_lo (a b : Strap) : segV a b a.lv = a.vl := by unfold segV; rw [Int.sub_self, Int.mul_zero, Int.zero_ediv, Int.add_zero]
theorem seg_hi {a b : Strap} (h : a.lv < b.lv) : segV a b b.lv = b.vl := by
  unfold segV
  rw [Int.mul_ediv_cancel _ (by omega)]; omega
/-- At a strap's level the volume is the strap's. -/
theorem vol_strap {l : List Strap} (h : Straps l) {i : Nat} (hi : i < l.length) : InL l (st l i).lv ∧ vol l (st l i).lv = (st l i).vl := by
  have ha := asc_of h.ok
  have h2 := h.two
  have hin : InL l (st l i).lv := by
    unfold InL fst lst
    constructor
    · rcases Nat.eq_zero_or_pos i with h0 | h0
      · rw [h0]; exact Int.le_refl _
      · have := (ha 0 i h0 hi).1; omega
    · rcases Nat.lt_or_eq_of_le (show i ≤ l.length - 1 by omega) with h0 | h0
      · have := (ha i (l.length - 1) h0 (by omega)).1; omega
      · rw [← h0]; exact Int.le_refl _
  refine ⟨hin, ?_⟩
  rcases Nat.eq_zero_or_pos i with h0 | h0
  · subst h0
    have ar : Around l (st l 0).lv 0 := ⟨by omega, Int.le_refl _, by have := (ha 0 1 (by omega) (by omega)).1; show (st l 0).lv ≤ (st l 1).lv; omega, fun h => absurd h (by omega)⟩
    rw [vol_at h ar hin, seg_lo]
  · obtain ⟨j, rfl⟩ : ∃ j, i = j + 1 := ⟨i - 1, by omega⟩
    have up := (ha j (j + 1) (by omega) hi).1
    have ar : Around l (st l (j + 1)).lv j := ⟨hi, by omega, Int.le_refl _, fun _ => up⟩
    rw [vol_at h ar hin, seg_hi up]
theorem straps_of {nm : ByteArray} {l : List Strap} {lo hi : Int} (h : tOk nm l lo hi) : Straps l := ⟨h.2.1.1, h.2.1.2, h.2.2.1⟩
theorem tok_in {nm : ByteArray} {l : List Strap} {lo hi : Int} (h : tOk nm l lo hi) : InL l lo ∧ InL l hi ∧ lo < hi := by
  obtain ⟨_, _, _, h1, h2, h3⟩ := h
  unfold InL fst lst
  omega
/-- The least number from k on, at most f further, at which the test says yes. -/
def leastN (p : Nat → Bool) : Nat → Nat → Nat
  | 0, k => k
  | f + 1, k => if p k = true then k else leastN p f (k + 1)
theorem leastN_spec (p : Nat → Bool) : ∀ f k, k ≤ leastN p f k ∧ leastN p f k ≤ k + f ∧ (∀ i, k ≤ i → i < leastN p f k → p i = false) ∧ (leastN p f k = k + f ∨ p (leastN p f k) = true)
  | 0, k => ⟨Nat.le_refl _, Nat.le_refl _, fun i h1 h2 => absurd h2 (by unfold leastN; omega), .inl rfl⟩
  | f + 1, k => by
    unfold leastN
    by_cases h : p k = true
    · rw [if_pos h]
      exact ⟨Nat.le_refl _, by omega, fun i h1 h2 => absurd h2 (by omega), .inr h⟩
    · rw [if_neg h]
      obtain ⟨a, b, c, d⟩ := leastN_spec p f (k + 1)
      refine ⟨by omega, by omega, fun i h1 h2 => ?_, by rcases d with d | d; exact .inl (by omega); exact .inr d⟩
      rcases Nat.lt_or_eq_of_le h1 with h3 | h3
      · exact c i h3 h2
      · subst h3; simpa using h
theorem found_least {n r : Nat} {p : Nat → Bool} (mono : ∀ a b, a ≤ b → b < n → p a = true → p b = true) (h0 : r ≤ n) (h1 : r = 0 ∨ p (r - 1) = false) (h2 : r = n ∨ p r = true) : r = leastN p n 0 := by
  obtain ⟨_, b, c, d⟩ := leastN_spec p n 0
  rcases Nat.lt_trichotomy r (leastN p n 0) with h | h | h
  · have := c r (Nat.zero_le _) h
    rcases h2 with h2 | h2
    · omega
    · rw [this] at h2; cases h2
  · exact h
  · rcases d with d | d
    · omega
    · rcases h1 with h1 | h1
      · omega
      · rw [mono _ (r - 1) (by omega) (by omega) d] at h1; cases h1
/-- The test of a search for a level: whether the level that is k above the first one has at least v. -/
def lvP (l : List Strap) (v : Int) (k : Nat) : Bool := decide (v ≤ vol l ((fst l).lv + k))
def lvN (l : List Strap) : Nat := ((lst l).lv - (fst l).lv).toNat
/-- The level of a volume. -/
def lvl (l : List Strap) (v : Int) : Int := (fst l).lv + (leastN (lvP l v) (lvN l) 0 : Nat)
theorem ends_lt {l : List Strap} (h : Straps l) : (fst l).lv < (lst l).lv ∧ (fst l).vl < (lst l).vl ∧ stNum (fst l) ∧ stNum (lst l) := by
  have h2 := h.two
  have := asc_of h.ok 0 (l.length - 1) (by omega) (by omega)
  exact ⟨this.1, this.2, (h.ok 0 (by omega)).1, (h.ok (l.length - 1) (by omega)).1⟩
theorem inL_add {l : List Strap} (h : Straps l) {k : Nat} (hk : k ≤ lvN l) : InL l ((fst l).lv + k) := by
  have := (ends_lt h).1
  unfold lvN at hk
  exact ⟨by omega, by omega⟩
theorem lvP_mono {l : List Strap} (h : Straps l) (v : Int) : ∀ a b, a ≤ b → b < lvN l → lvP l v a = true → lvP l v b = true := by
  intro a b hab hb ha
  have h1 := of_decide_eq_true ha
  have h2 := vol_mono h (inL_add h (show a ≤ lvN l by omega)) (inL_add h (show b ≤ lvN l by omega)) (by omega)
  exact decide_eq_true (by omega)
/-- What the level of a volume is: the least one at which the tank has at least so much. -/
theorem lvl_spec {l : List Strap} (h : Straps l) {v : Int} (hv : (fst l).vl ≤ v ∧ v ≤ (lst l).vl) : InL l (lvl l v) ∧ v ≤ vol l (lvl l v) ∧ (lvl l v = (fst l).lv ∨ vol l (lvl l v - 1) < v) := by
  obtain ⟨_, b, c, d⟩ := leastN_spec (lvP l v) (lvN l) 0
  rw [Nat.zero_add] at b d
  have e := ends_lt h
  have hin := inL_add h b
  refine ⟨hin, ?_, ?_⟩
  · rcases d with d | d
    · unfold lvl
      rw [d]
      have : (fst l).lv + (lvN l : Int) = (lst l).lv := by unfold lvN; omega
      rw [this]
      have := (vol_strap h (i := l.length - 1) (by have := h.two; omega)).2
      unfold lst at hv ⊢
      rw [this]; exact hv.2
    · exact of_decide_eq_true d
  · unfold lvl
    rcases Nat.eq_zero_or_pos (leastN (lvP l v) (lvN l) 0) with h0 | h0
    · left; rw [h0]; simp
    · right
      have := of_decide_eq_false (c (leastN (lvP l v) (lvN l) 0 - 1) (Nat.zero_le _) (by omega))
      rw [show (fst l).lv + ((leastN (lvP l v) (lvN l) 0 : Nat) : Int) - 1 = (fst l).lv + ((leastN (lvP l v) (lvN l) 0 - 1 : Nat) : Int) by omega]
      omega
theorem lvl_unique {l : List Strap} (h : Straps l) {v m : Int} (hv : (fst l).vl ≤ v ∧ v ≤ (lst l).vl) (h1 : InL l m) (h2 : v ≤ vol l m) (h3 : m = (fst l).lv ∨ vol l (m - 1) < v) : m = lvl l v := by
  obtain ⟨a, b, c⟩ := lvl_spec h hv
  rcases Int.lt_trichotomy m (lvl l v) with hlt | heq | hgt
  · have hin : InL l (lvl l v - 1) := ⟨by have := h1.1; omega, by have := a.2; omega⟩
    rcases c with c | c
    · have := h1.1; omega
    · have := vol_mono h h1 hin (by omega); omega
  · exact heq
  · have hin : InL l (m - 1) := ⟨by have := a.1; omega, by have := h1.2; omega⟩
    rcases h3 with h3 | h3
    · have := a.1; omega
    · have := vol_mono h a hin (by omega); omega
end Go.Proofs.Ytadjhfjiimgddaa

/- Compiled code of some functions (printed by a program), each checked by the kernel. -/
namespace Go.Proofs.Ytadjhfjiimgddaa
open Go
set_option maxRecDepth 100000
def c8 : C := (.seq (.ops false [oP 2 (.mv (.c (.v (.pointer Option.none))))]) (.seq (.ops false [oP 3 (.mv (.t 0)), oP 4 (.mv (.t 0)), oP 5 (.len (.t 4)), oP 6 (.mnx false (.t 5) (cI 2000)), oP 7 (.slc 1 (.t 3) Option.none (.some (.t 6))), oP 8 (.bld [.mt, (.v (.int .i64 0))] [(0, (1, (.t 7)))]), oP 9 (.box 2 (.t 8)), oP 2 (.mv (.t 9))]) .ret))
def r8 : List RV := [(.tmp 2)]
theorem c8_ok : ∃ code, Try.f8.body = some code ∧ compC Try.prog Try.f8.ntmps code = some (C.strip c8) := ⟨_, rfl, by kernel_rfl⟩
theorem r8_ok : compRes Try.prog Try.f8.results.toList = some r8 := by kernel_rfl
theorem f8_ok : fnOk Try.prog 8 = true := by kernel_rfl
def c13 : C := (.seq (.ops false [oP 4 (.mv (cI 0))]) (.seq (.ops false [oP 5 (.mv (.t 0)), oB 6 (.call 70 [(.t 5)]), oP 7 (.mv (.t 1)), oB 8 (.call 69 [(.t 6), (.t 7)]), oP 4 (.mv (.t 8))]) .ret))
def r13 : List RV := [(.tmp 4)]
theorem c13_ok : ∃ code, Try.f13.body = some code ∧ compC Try.prog Try.f13.ntmps code = some (C.strip c13) := ⟨_, rfl, by kernel_rfl⟩
theorem r13_ok : compRes Try.prog Try.f13.results.toList = some r13 := by kernel_rfl
theorem f13_ok : fnOk Try.prog 13 = true := by kernel_rfl
def c25 : C := (.seq (.ops false [oP 6 (.mv (cI 0))]) (.seq (.ops false [oP 7 (.mv (.t 1)), oP 8 (.mv (.t 0)), oP 9 (.mv (.t 2)), oP 10 (.mv (.t 1)), oP 11 (.bin .sub (.t 9) (.t 10)), oP 12 (.bin .add (.t 11) (cI 1)), oB 13 (.call 13 [(.t 8), (.t 12)]), oP 14 (.bin .add (.t 7) (.t 13)), oP 6 (.mv (.t 14))]) .ret))
def r25 : List RV := [(.tmp 6)]
theorem c25_ok : ∃ code, Try.f25.body = some code ∧ compC Try.prog Try.f25.ntmps code = some (C.strip c25) := ⟨_, rfl, by kernel_rfl⟩
theorem r25_ok : compRes Try.prog Try.f25.results.toList = some r25 := by kernel_rfl
theorem f25_ok : fnOk Try.prog 25 = true := by kernel_rfl
def c65 : C := (.seq (.ops false [oP 4 (.mv (.c (.v (.string ({ data := #[] })))))]) (.seq (.ops false [oP 5 (.mv (.t 0)), oP 6 (.mv (.t 1)), oP 7 (.bin .rem (.t 6) (cI 26)), oP 8 (.bin .add (cI 97) (.t 7)), oP 9 (.cvi .u8 (.t 8)), oP 10 (.bsl 1 1 [(.v (.int .u8 0))] [(0, (.t 9))]), oP 11 (.bts (.t 10)), oP 12 (.bin .add (.t 5) (.t 11)), oP 4 (.mv (.t 12))]) .ret))
def r65 : List RV := [(.tmp 4)]
theorem c65_ok : ∃ code, Try.f65.body = some code ∧ compC Try.prog Try.f65.ntmps code = some (C.strip c65) := ⟨_, rfl, by kernel_rfl⟩
theorem r65_ok : compRes Try.prog Try.f65.results.toList = some r65 := by kernel_rfl
theorem f65_ok : fnOk Try.prog 65 = true := by kernel_rfl
def c66 : C := (.seq (.ops false [oP 4 (.mv (cI 0))]) (.seq (.ops false [oP 5 (.mv (.t 1)), oP 6 (.mv (.t 0)), oP 7 (.mv (.t 1)), oP 8 (.len (.t 7)), oB 9 (.call 13 [(.t 6), (.t 8)]), oP 10 (.iaS 1 (.t 5) (.t 9)), oP 11 (.ld 1 false (.t 10)), oP 4 (.mv (.t 11))]) .ret))
def r66 : List RV := [(.tmp 4)]
theorem c66_ok : ∃ code, Try.f66.body = some code ∧ compC Try.prog Try.f66.ntmps code = some (C.strip c66) := ⟨_, rfl, by kernel_rfl⟩
theorem r66_ok : compRes Try.prog Try.f66.results.toList = some r66 := by kernel_rfl
theorem f66_ok : fnOk Try.prog 66 = true := by kernel_rfl
def c69_1 : C := (.seq (.ops false [oP 15 (.mv (.t 0)), oP 4 (.mv (.t 15))]) .ret)
def c69_2 : C := (.seq (.ops false [oP 7 (.mv (.t 0)), oP 8 (.mv (.t 1)), oP 9 (.bin .rem (.t 7) (.t 8)), oP 0 (.mv (.t 9))]) (.seq (.seq (.ops false [oP 10 (.mv (.t 0)), oP 11 (.bin .lss (.t 10) (cI 0))]) (.cond (.t 11) (.ops false [oP 12 (.mv (.t 0)), oP 13 (.mv (.t 1)), oP 14 (.bin .add (.t 12) (.t 13)), oP 0 (.mv (.t 14))]) .skip)) c69_1))
def c69 : C := (.seq (.ops false [oP 4 (.mv (cI 0))]) (.seq (.seq (.ops false [oP 5 (.mv (.t 1)), oP 6 (.bin .lss (.t 5) (cI 1))]) (.cond (.t 6) (.seq (.ops false [oP 4 (.mv (cI 0))]) .ret) .skip)) c69_2))
def r69 : List RV := [(.tmp 4)]
theorem c69_ok : ∃ code, Try.f69.body = some code ∧ compC Try.prog Try.f69.ntmps code = some (C.strip c69) := ⟨_, rfl, by kernel_rfl⟩
theorem r69_ok : compRes Try.prog Try.f69.results.toList = some r69 := by kernel_rfl
theorem f69_ok : fnOk Try.prog 69 = true := by kernel_rfl
def c70_1 : C := (.seq (.ops false [oP 13 (.mv (.t 0)), oP 14 (.nck (.t 13)), oP 15 (.fa 1 (.t 14)), oP 16 (.ld 1 false (.t 15)), oP 17 (.bin .add (.t 16) (cI 1)), oP 18 (.nck (.t 13)), oP 19 (.fa 1 (.t 18)), oS (.st 1 (.t 19) (.t 17))]) (.seq (.ops true [oP 20 (.mv (.t 0)), oA 21 (.nck (.t 20)) [0], oA 22 (.fa 0 (.t 21)) [0, 1], oA 23 (.ld 1 false (.t 22)) [1, 0, 2], oP 24 (.mv (.t 0)), oA 25 (.nck (.t 24)) [4],
  oA 26 (.fa 1 (.t 25)) [4, 5], oA 27 (.ld 1 false (.t 26)) [5, 4, 6], oA 28 (.bin .sub (.t 27) (cI 1)) [6, 4, 5, 7], oA 29 (.iaS 1 (.t 23) (.t 28)) [7, 5, 4, 6, 2, 0, 1, 8, 3], oA 30 (.ld 1 false (.t 29)) [3, 8, 1, 0, 2, 6, 4, 5, 7, 9], oA 2 (.mv (.t 30)) [9, 8, 7, 6, 5, 4, 3, 2, 1, 0, 10]]) .ret))
def c70 : C := (.seq (.ops false [oP 2 (.mv (cI 0))]) (.seq (.seq (.ops true [oP 3 (.mv (.t 0)), oA 4 (.nck (.t 3)) [0], oA 5 (.fa 1 (.t 4)) [0, 1], oA 6 (.ld 1 false (.t 5)) [1, 0, 2], oP 7 (.mv (.t 0)), oA 8 (.nck (.t 7)) [4], oA 9 (.fa 0 (.t 8)) [4, 5], oA 10 (.ld 1 false (.t 9)) [5, 4, 6], oA 11 (.len (.t 10)) [6, 4, 5, 7], oA 12 (.bin .geq (.t 6) (.t 11)) [7, 5, 4, 6, 2, 0, 1, 8, 3]]) (.cond (.t 12)
  (.seq (.ops false [oP 2 (.mv (cI 0))]) .ret) .skip)) c70_1))
def r70 : List RV := [(.tmp 2)]
theorem c70_ok : ∃ code, Try.f70.body = some code ∧ compC Try.prog Try.f70.ntmps code = some (C.strip c70) := ⟨_, rfl, by kernel_rfl⟩
theorem r70_ok : compRes Try.prog Try.f70.results.toList = some r70 := by kernel_rfl
theorem f70_ok : fnOk Try.prog 70 = true := by kernel_rfl
def c94 : C := (.seq (.ops false [oP 4 (.mv (.c (.v (.string ({ data := #[] })))))]) (.seq (.ops false [oP 5 (.mv (.t 1)), oP 6 (.mv (.t 0)), oP 7 (.mv (.t 1)), oP 8 (.len (.t 7)), oB 9 (.call 13 [(.t 6), (.t 8)]), oP 10 (.iaS 1 (.t 5) (.t 9)), oP 11 (.ld 1 false (.t 10)), oP 4 (.mv (.t 11))]) .ret))
def r94 : List RV := [(.tmp 4)]
theorem c94_ok : ∃ code, Try.f94.body = some code ∧ compC Try.prog Try.f94.ntmps code = some (C.strip c94) := ⟨_, rfl, by kernel_rfl⟩
theorem r94_ok : compRes Try.prog Try.f94.results.toList = some r94 := by kernel_rfl
theorem f94_ok : fnOk Try.prog 94 = true := by kernel_rfl
end Go.Proofs.Ytadjhfjiimgddaa

/- The source of numbers: small functions. -/
namespace Go.Proofs.Ytadjhfjiimgddaa
open Go
set_option linter.unusedVariables false
set_option maxRecDepth 100000
set_option linter.unusedSimpArgs false

def modI (x n : Int) : Int := if n < 1 then 0 else if x.tmod n < 0 then x.tmod n + n else x.tmod n
theorem modI_in (x n : Int) : 0 ≤ modI x n ∧ (1 ≤ n → modI x n < n) ∧ (n < 1 → modI x n = 0) := by
  unfold modI
  split
  · exact ⟨by omega, fun h => by omega, fun _ => rfl⟩
  · have h1 := Int.lt_tmod_of_pos x (b := n) (by omega)
    have h2 := Int.tmod_lt_of_pos x (b := n) (by omega)
    split <;> exact ⟨by omega, fun _ => by omega, fun h => by omega⟩
set_option maxHeartbeats 2000000 in
theorem Mod_c (x n : Int) (hn : InI n) (nn : Nm) : CallsA Try.prog 69 [di x, di n] Hp.none nn (Pu (di (modI x n)) Hp.none) := by
  obtain ⟨code, h1, h2⟩ := c69_ok
  refine callsA_of (T0_ok _) mixed (N := fun t => (0, t)) Try.func69 h1 h2 r69_ok [] false js_nil js_nil' (by simp [Try.f69]) ?_
  have hi := modI_in x n
  by_cases hb : n < 1
  · simp (config := { maxSteps := 500000 }) only [↓vp, vv, implies_true, forall_const, undef, InI, ↓reduceIte, simprocAttr, c69, r69, c69_1, c69_2, hb, Pu, modI, decide_true]
  · have h0 : n ≠ 0 := by omega
    have h2 := Int.lt_tmod_of_pos x (b := n) (by omega)
    have h3 := Int.tmod_lt_of_pos x (b := n) (by omega)
    by_cases hr : x.tmod n < 0
    · have hw : IntKind.i64.wrap (x.tmod n + n) = x.tmod n + n := wrap_i (by omega)
      simp (config := { maxSteps := 500000 }) only [↓vp, vv, implies_true, forall_const, undef, InI, ↓reduceIte, simprocAttr, c69, r69, c69_1, c69_2, hb, hr, hw, Pu, modI, decide_true, decide_false, ne_eq, h0, not_false_eq_true]
    · simp (config := { maxSteps := 500000 }) only [↓vp, vv, implies_true, forall_const, undef, InI, ↓reduceIte, simprocAttr, c69, r69, c69_1, c69_2, hb, hr, Pu, modI, decide_true, decide_false, ne_eq, h0, not_false_eq_true]
set_option maxHeartbeats 4000000 in
theorem Raw_c : SrcC Try.prog 70 [] InI di := by
  intro i L at' nn ho
  obtain ⟨code, h1, h2⟩ := c70_ok
  refine callsA_of (T0_ok _) mixed (N := fun t => (i.1 + 1, t)) Try.func70 h1 h2 r70_ok [i] false js_one js_one' (by simp [Try.f70]) ?_
  obtain ⟨ns, hL, hns⟩ := ho.ints
  have hlo := ho.lo
  have hhi := ho.hi
  have hlen := ho.len
  by_cases hb : (L.length : Int) ≤ at'
  · simp (config := { maxSteps := 500000 }) only [↓vp, vv, implies_true, forall_const, undef, InI, ↓reduceIte, simprocAttr, c70, r70, c70_1, hb, decide_true]
    exact ⟨at', 0, ho, by decide, rfl, rfl⟩
  · have hw : IntKind.i64.wrap (at' + 1) = at' + 1 := wrap_i (by omega)
    have hw2 : IntKind.i64.wrap (at' + 1 - 1) = at' := by rw [Int.add_sub_cancel]; exact wrap_i (by omega)
    obtain ⟨k, rfl⟩ : ∃ k : Nat, at' = k := ⟨at'.toNat, by omega⟩
    have hk : k < ns.length := by rw [hL, List.length_map] at hb; omega
    have hg : L.getD k [] = [di ns[k]] := by rw [hL, List.getD_eq_getElem?_getD, List.getElem?_map, List.getElem?_eq_getElem hk]; rfl
    have h0 : (0 : Int) ≤ k := by omega
    have hkL : (k : Int) < L.length := by omega
    simp (config := { maxSteps := 500000 }) only [↓vp, vv, implies_true, forall_const, undef, InI, ↓reduceIte, simprocAttr, c70, r70, c70_1, hb, hw, hw2, decide_true, decide_false, hg, Int.toNat_natCast, h0, hkL]
    exact ⟨k + 1, ns[k], ⟨by omega, by omega, hlen, ns, hL, hns⟩, hns _ (List.getElem_mem hk), rfl, rfl⟩
def sel0 {α : Type} (post : α → Prop) : List D → Option (Prop × (α → Prop))
  | [] => some (True, post)
  | _ => Option.none
def selMod : List D → Option (Prop × D)
  | [.v (.int .i64 x), .v (.int .i64 n)] => some (InI n, di (modI x n))
  | _ => Option.none
def TN : Tbl := tc 70 (rowSrc (sel0 InI) di) (tc 69 (rowPu selMod) T0)
theorem TN_ok : TblOk Try.prog TN := by
  refine tc_src f70_ok (fun args pre post h hp => ?_) (tc_pu f69_ok (fun args pre d h hp nn => ?_) (T0_ok _))
  · unfold sel0 at h
    split at h <;> cases h
    exact ⟨⟨0, by omega⟩, Raw_c⟩
  · unfold selMod at h
    split at h <;> cases h
    exact Mod_c _ _ hp nn
def NPost (n x : Int) : Prop := 0 ≤ x ∧ (1 ≤ n → x < n) ∧ (n < 1 → x = 0)
set_option maxHeartbeats 4000000 in
theorem N_c (n : Int) (hn : InI n) : SrcC Try.prog 13 [di n] (NPost n) di := by
  intro i L at' nn ho
  obtain ⟨code, h1, h2⟩ := c13_ok
  refine callsA_of TN_ok mixed (N := fun t => (i.1 + 1, t)) Try.func13 h1 h2 r13_ok [i] false js_one js_one' (by simp [Try.f13]) ?_
  simp (config := { maxSteps := 500000 }) only [↓vp, vv, implies_true, forall_const, undef, InI, ↓reduceIte, simprocAttr, c13, r13, TN, sel0, selMod, ho]
  exact fun ⟨at2, ho2⟩ x hx => ⟨hn, at2, _, ho2, modI_in x n, rfl, rfl⟩
end Go.Proofs.Ytadjhfjiimgddaa
