
/- Rows of tables: pure functions; functions that read from a source. -/
import Derived.Test.YtkjibmfggeibjaaV3
import Derived.Test.YtkjibmfggeibjaaProg
/- Rows of tables: pure functions; functions that read from a source. -/
namespace Go.Proofs.Ytkjibmfggeibjaa
open Go
set_option linter.unusedVariables false
set_option linter.unusedSimpArgs false

theorem mixed : Try.prog.follows .mixedOrders = true := by kernel_rfl
abbrev InI (n : Int) : Prop := -9223372036854775808 ≤ n ∧ n ≤ 9223372036854775807
/-- A list of numbers that lies in memory, and how far it was read. -/
structure SrcOk (L : List (List D)) (at' : Int) : Prop where
  lo : 0 ≤ at'
  hi : at' ≤ L.length
  len : (L.length : Int) ≤ 2000
  ints : ∃ ns : List Int, L = ns.map (fun n => [di n]) ∧ ∀ n ∈ ns, InI n
def sE (L : List (List D)) (at' : Int) : En := ⟨0, 2, [[.sl L, di at']]⟩
def intOf : List D → Option Int
  | [.v (.int .i64 n)] => some n
  | _ => Option.none
def intsOf : List (List D) → Option (List Int)
  | [] => some []
  | [.v (.int .i64 n)] :: l => match intsOf l with
    | some ns => some (n :: ns)
    | Option.none => Option.none
  | _ => Option.none
theorem intsOf_map (ns : List Int) : intsOf (ns.map fun n => [di n]) = some ns := by
  induction ns with
  | nil => rfl
  | cons n ns ih => rw [List.map_cons, intsOf, ih]
theorem intsOf_eq : ∀ {l : List (List D)} {ns : List Int}, intsOf l = some ns → l = ns.map (fun n => [di n])
  | [], ns, h => by rw [intsOf] at h; cases h; rfl
  | [.v (.int .i64 n)] :: l, ns, h => by
    rw [intsOf] at h
    split at h
    · rename_i ms hm
      cases h
      rw [List.map_cons, ← intsOf_eq hm]
    · cases h
def strsOf : List (List D) → Option (List ByteArray)
  | [] => some []
  | [.v (.string n)] :: l => match strsOf l with
    | some ns => some (n :: ns)
    | Option.none => Option.none
  | _ => Option.none
theorem strsOf_eq : ∀ {l : List (List D)} {ns : List ByteArray}, strsOf l = some ns → l = ns.map (fun n => [ds n])
  | [], ns, h => by rw [strsOf] at h; cases h; rfl
  | [.v (.string n)] :: l, ns, h => by
    rw [strsOf] at h
    split at h
    · rename_i ms hm
      cases h
      rw [List.map_cons, ← strsOf_eq hm]
    · cases h
/-- What a function yields that reads from a source. -/
def SrcR {α : Type} (i : Nm) (L : List (List D)) (post : α → Prop) (val : α → D) : D → Hp → Prop := fun v H' => ∃ at' a, SrcOk L at' ∧ post a ∧ v = val a ∧ H' = Hp.none.put i (sE L at')
/-- How far a source was read. -/
abbrev SA (L : List (List D)) := { at' : Int // SrcOk L at' }
theorem sa_ok {L : List (List D)} (a : SA L) : SrcOk L a.1 = True := eq_true a.2
theorem SrcR_all {α : Type} (i : Nm) (L : List (List D)) (post : α → Prop) (val : α → D) (K : D → Hp → Prop) : (∀ v H', SrcR i L post val v H' → K v H') = ∀ (at' : SA L) (a : α), post a → K (val a) (Hp.none.put i (sE L at'.1)) :=
  propext ⟨fun h at' a h2 => h _ _ ⟨at'.1, a, at'.2, h2, rfl, rfl⟩, fun h v H' ⟨at', a, h1, h2, e1, e2⟩ => by rw [e1, e2]; exact h ⟨at', h1⟩ a h2⟩
theorem SrcR_ex {α : Type} (i : Nm) (L : List (List D)) (post : α → Prop) (val : α → D) (a : α) (at' : Int) (h1 : SrcOk L at') (h2 : post a) : ∃ v H', SrcR i L post val v H' := ⟨_, _, at', a, h1, h2, rfl, rfl⟩
/-- A row whose contract was shown once. -/
theorem tc_row {P : Program} {f : FuncId} {r : List D → Hp → Nm → Option (Prop × (D → Hp → Prop))} {T : Tbl} (hf : fnOk P f = true) (hr : ∀ args Hs nn pre R, r args Hs nn = some (pre, R) → pre → (∃ v H', R v H') ∧ CallsA P f args Hs nn R) (h : TblOk P T) : TblOk P (tc f r T) := fun f' args Hs nn pre R hT => by
  rw [tc_at] at hT
  split at hT
  · rename_i e
    subst e
    exact ⟨hf, hr args Hs nn pre R hT⟩
  · exact h f' args Hs nn pre R hT
theorem nm1 (i : Nm) (t : Nat) : (i = (i.1 + 1, t)) = False := eq_false fun h => by have := congrArg Prod.fst h; dsimp only at this; omega
theorem nm2 (i : Nm) (t : Nat) : ((i.1 + 1, t) = i) = False := eq_false fun h => by have := congrArg Prod.fst h; dsimp only at this; omega
theorem forall_nil {α : Type} (p : α → Prop) : (∀ x, x ∈ ([] : List α) → p x) = True := eq_true fun x h => by cases h
theorem bq_t (b : Bool) : (b == true) = b := by cases b <;> rfl
theorem bq_f (b : Bool) : (b == false) = !b := by cases b <;> rfl
theorem tq_b (b : Bool) : (true == b) = b := by cases b <;> rfl
theorem fq_b (b : Bool) : (false == b) = !b := by cases b <;> rfl
theorem weak_eq {J : List Nm} {F : Fr} {H H' : Hp} (ks js : List Nm) (l : List (Nat × D)) (h1 : coverS F H ks l) (h2 : refsF js l = true) (h3 : ClosedH (H.kills ks) js js) (h4 : ∀ i ∈ J, i ∈ js) (h5 : (H.kills ks).restr js = H') : Weak J ⟨F, H⟩ ⟨fr l, H'⟩ := h5 ▸ weak_to ks js l h1 h2 h3 h4
/-- The row of a pure function. -/
def rowPu (sel : List D → Option (Prop × D)) : List D → Hp → Nm → Option (Prop × (D → Hp → Prop)) := fun args Hs nn =>
  match sel args with
  | some (pre, d) => some (Hs = Hp.none ∧ pre, Pu d Hp.none)
  | Option.none => Option.none
theorem tc_pu {P : Program} {f : FuncId} {sel : List D → Option (Prop × D)} {T : Tbl} (hf : fnOk P f = true) (h : ∀ args pre d, sel args = some (pre, d) → pre → ∀ nn, CallsA P f args Hp.none nn (Pu d Hp.none)) (hT : TblOk P T) : TblOk P (tc f (rowPu sel) T) :=
  tc_row hf (fun args Hs nn pre R hr hp => by
    unfold rowPu at hr
    split at hr
    · rename_i pre' d hs
      cases hr
      obtain ⟨rfl, hp⟩ := hp
      exact ⟨⟨d, Hp.none, rfl, rfl⟩, h args pre' d hs hp nn⟩
    · cases hr) hT
/-- The row of a function that yields one of some values. -/
def PuE {α : Type} (post : α → Prop) (val : α → D) (Hs : Hp) : D → Hp → Prop := fun v H' => ∃ a, post a ∧ v = val a ∧ H' = Hs
theorem PuE_all {α : Type} (post : α → Prop) (val : α → D) (Hs : Hp) (K : D → Hp → Prop) : (∀ v H', PuE post val Hs v H' → K v H') = ∀ a, post a → K (val a) Hs :=
  propext ⟨fun h a h1 => h _ _ ⟨a, h1, rfl, rfl⟩, fun h v H' ⟨a, h1, e1, e2⟩ => by rw [e1, e2]; exact h a h1⟩
def rowPuE {α : Type} (sel : List D → Option (Prop × (α → Prop))) (val : α → D) : List D → Hp → Nm → Option (Prop × (D → Hp → Prop)) := fun args Hs nn =>
  match sel args with
  | some (pre, post) => some (Hs = Hp.none ∧ pre, PuE post val Hp.none)
  | Option.none => Option.none
theorem tc_puE {P : Program} {f : FuncId} {α : Type} {sel : List D → Option (Prop × (α → Prop))} {val : α → D} {T : Tbl} (hf : fnOk P f = true) (h : ∀ args pre post, sel args = some (pre, post) → pre → (∃ a, post a) ∧ ∀ nn, CallsA P f args Hp.none nn (PuE post val Hp.none)) (hT : TblOk P T) : TblOk P (tc f (rowPuE sel val) T) :=
  tc_row hf (fun args Hs nn pre R hr hp => by
    unfold rowPuE at hr
    split at hr
    · rename_i pre' post hs
      cases hr
      obtain ⟨rfl, hp⟩ := hp
      obtain ⟨⟨a, ha⟩, hc⟩ := h args pre' post hs hp
      exact ⟨⟨val a, Hp.none, a, ha, rfl, rfl⟩, hc nn⟩
    · cases hr) hT
/-- The row of a function that reads from a source. -/
def rowSrc {α : Type} (sel : List D → Option (Prop × (α → Prop))) (val : α → D) : List D → Hp → Nm → Option (Prop × (D → Hp → Prop)) := fun args Hs nn =>
  match args with
  | .ptr i g r c :: args =>
    match sel args, Hs i with
    | some (pre, post), some ⟨_, _, [[.sl L, .v (.int .i64 at')]]⟩ => some ((Hs = Hp.none.put i (sE L at') ∧ g = 0 ∧ r = 0 ∧ c = 0) ∧ SrcOk L at' ∧ pre, SrcR i L post val)
    | _, _ => Option.none
  | _ => Option.none
def SrcC {α : Type} (P : Program) (f : FuncId) (args : List D) (post : α → Prop) (val : α → D) : Prop := ∀ i L at' nn, SrcOk L at' → CallsA P f (.ptr i 0 0 0 :: args) (Hp.none.put i (sE L at')) nn (SrcR i L post val)
theorem tc_src {P : Program} {f : FuncId} {α : Type} {sel : List D → Option (Prop × (α → Prop))} {val : α → D} {T : Tbl} (hf : fnOk P f = true) (h : ∀ args pre post, sel args = some (pre, post) → pre → (∃ a, post a) ∧ SrcC P f args post val) (hT : TblOk P T) : TblOk P (tc f (rowSrc sel val) T) :=
  tc_row hf (fun args Hs nn pre R hr hp => by
    unfold rowSrc at hr
    split at hr
    · rename_i i g r c args
      split at hr
      · rename_i pre' post g' sz L at' hs hH
        cases hr
        obtain ⟨⟨rfl, rfl, rfl, rfl⟩, ho, hp⟩ := hp
        obtain ⟨⟨a, ha⟩, hc⟩ := h args pre' post hs hp
        exact ⟨⟨val a, _, at', a, ho, ha, rfl, rfl⟩, hc i L at' nn ho⟩
      · cases hr
    · cases hr) hT
/-- A nil slice in a struct of one's own is a slice of one's own. -/
theorem weak_ownC {J : List Nm} {F : Fr} {H : Hp} (j : Nm) (g sz : Nat) (pre post : List D) (i : Nm) (isz : Nat) (hj : H j = some ⟨g, sz, [pre ++ .mt :: post]⟩) (hi : H i = Option.none) :
    Weak J ⟨F, H⟩ ⟨F, (H.put i ⟨0, isz, []⟩).put j ⟨g, sz, [pre ++ .own i 0 0 0 :: post]⟩⟩ := by
  intro E hE Im p a w hR
  have hne : j ≠ i := fun h => by rw [h, hi] at hj; cases hj
  have T : Turn Im p H w.heap i ⟨0, 0, []⟩ ⟨0, isz, []⟩ (0, 0) w.heap := ⟨.inr ⟨hi, rfl⟩, .inl hi, fun _ _ _ => rfl, Nat.le_refl _, fun h => absurd rfl h, fun h => absurd rfl h⟩
  have G := T.grows hR.hp
  have R1 := T.relH hR.hp
  have X1 := T.relE hR.hp hR.en rfl rfl rfl
  generalize p.put i (0, 0) = p1 at *
  have hj1 : (H.put i ⟨0, isz, []⟩) j = some ⟨g, sz, [pre ++ .mt :: post]⟩ := by rw [Hp.put_other _ hne]; exact hj
  have hi1 : (H.put i ⟨0, isz, []⟩) i = some ⟨0, isz, []⟩ := Hp.put_same _ _ _
  generalize H.put i ⟨0, isz, []⟩ = H1 at *
  have G2 : Grows Im p1 H1 w.heap Im p1 (H1.put j ⟨g, sz, [pre ++ .own i 0 0 0 :: post]⟩) w.heap := ⟨fun _ h => h, fun _ _ => rfl, fun k ek hk => by
    by_cases h : k = j
    · subst h
      rw [hj1] at hk
      cases hk
      exact ⟨_, Hp.put_same _ _ _, Nat.le_refl _, fun _ => ⟨rfl, rfl, fun _ => ⟨by simp, fun c t hc => ⟨c, hc, rfl⟩⟩⟩⟩
    · exact ⟨ek, by rw [Hp.put_other _ h]; exact hk, Nat.le_refl _, fun _ => ⟨rfl, rfl, fun hn => ⟨hn, fun c t hc => ⟨c, hc, rfl⟩⟩⟩⟩⟩
  have key : ∀ k ek, (H1.put j ⟨g, sz, [pre ++ .own i 0 0 0 :: post]⟩) k = some ek → ek.rows ≠ [] → ∃ ek', H1 k = some ek' ∧ ek'.rows ≠ [] := fun k ek hk hn => by
    by_cases h : k = j
    · subst h
      exact ⟨_, hj1, by simp⟩
    · rw [Hp.put_other _ h] at hk
      exact ⟨ek, hk, hn⟩
  refine ⟨Im, p1, hR.sz, fun k => ((hR.fr k).mono G).mono G2, ⟨fun k ek hk hn => ?_, fun k l ek el hk hl nk nl hkl => ?_, R1.im⟩, ⟨X1.os, X1.tape, X1.output, X1.size, X1.block, X1.im, X1.im', fun k ek hk hn => ?_⟩, (hR.gr.trans G).trans G2, hR.df⟩
  · dsimp only at hk ⊢
    by_cases h : k = j
    · subst h
      rw [Hp.put_same] at hk
      cases hk
      obtain ⟨c, t, k1, k2, k3⟩ := R1.cell k _ hj1 (by simp)
      refine ⟨c, t, k1, k2, fun r hr => ?_, k3.le, fun r q row d hr hd => ?_⟩
      · have := k3.len _ (List.mem_cons_self ..)
        rw [List.mem_singleton.1 hr]
        simpa using this
      · cases r with
        | succ r => simp at hr
        | zero =>
          cases hr
          by_cases hq : q = pre.length
          · subst hq
            rw [List.getElem?_append_right (Nat.le_refl _), Nat.sub_self] at hd
            cases hd
            obtain ⟨u, u1, u2, u3⟩ := k3.cell 0 pre.length _ .mt rfl (by rw [List.getElem?_append_right (Nat.le_refl _), Nat.sub_self]; rfl)
            refine ⟨u, u1, ?_, u3⟩
            obtain ⟨ao, rfl⟩ := rel_mt u2
            exact .own i 0 0 0 _ 0 ⟨0, isz, []⟩ (by rw [Hp.put_other _ (Ne.symm hne)]; exact hi1) (Nat.le_refl _) (Nat.le_refl _) fun _ h => absurd h (Nat.lt_irrefl _)
          · have e : (pre ++ D.mt :: post)[q]? = some d := by
              rcases Nat.lt_or_ge q pre.length with h | h
              · rw [List.getElem?_append_left h] at hd ⊢
                exact hd
              · rw [List.getElem?_append_right h] at hd ⊢
                rw [show q - pre.length = (q - pre.length - 1) + 1 by omega, List.getElem?_cons_succ] at hd ⊢
                exact hd
            obtain ⟨u, u1, u2, u3⟩ := k3.cell 0 q _ d rfl e
            exact ⟨u, u1, u2.mono G2, u3⟩
    · rw [Hp.put_other _ h] at hk
      obtain ⟨c, t, k1, k2, k3⟩ := R1.cell k ek hk hn
      exact ⟨c, t, k1, k2, k3.mono G2⟩
  · obtain ⟨_, a1, a2⟩ := key k ek hk nk
    obtain ⟨_, b1, b2⟩ := key l el hl nl
    exact R1.inj k l _ _ a1 b1 a2 b2 hkl
  · obtain ⟨_, a1, a2⟩ := key k ek hk hn
    exact X1.ids k _ a1 a2
set_option linter.defProp false
def vp0 := And.intro @vc_skip (And.intro @vc_opsD (And.intro @vc_opsL (And.intro @vc_seq (And.intro @vc_cond (And.intro @vc_block (And.intro @vc_exit (And.intro @vc_ret (And.intro @runL_n (And.intro @runL_c (And.intro @runD_n (And.intro @runD_c (And.intro @KL_at (And.intro @KD_at (And.intro @run1_at (And.intro @thenQ_n (And.intro @thenQ_e (And.intro @thenQ_r (And.intro @blockQ_n (And.intro @blockQ_e (And.intro @blockQ_r (And.intro @loopQ_n (And.intro @loopQ_e (And.intro @loopQ_r (And.intro @finQ_n (And.intro @finQ_r (And.intro @Pu_all (And.intro @SrcR_all (@PuE_all))))))))))))))))))))))))))))
def vp := And.intro vp0 (And.intro @vc_opsF (And.intro @runF_n (And.intro @runF_f (And.intro @runF_t @KF_at))))
def v1 := And.intro @guardD.eq_1 (And.intro @guardD.eq_2 (And.intro @callee.eq_1 (And.intro @callee.eq_2 (And.intro @callee.eq_3 (And.intro @callRun.eq_1 (And.intro @callRun1.eq_1 (And.intro @callRun2.eq_1 (And.intro @callRun3_at (And.intro @sO_s (And.intro @sC_s (And.intro @sC_n (And.intro @sG_s (And.intro @sT_s (And.intro @sB_v (And.intro @ite_vb (And.intro @List.length_map.{0,0} (And.intro @List.length_append.{0} (And.intro @List.isEmpty_nil.{0} (And.intro @List.isEmpty_cons.{0} (And.intro @D.flat.eq_1 (And.intro @D.flat.eq_2 (And.intro @D.flat.eq_3 (And.intro @D.flat.eq_4 (And.intro @D.flat.eq_5 (And.intro @flatL.eq_1 (And.intro @flatL.eq_2 (And.intro @eff.eq_1 (And.intro @eff.eq_2 (And.intro @eff.eq_3 (And.intro @eff.eq_4 (And.intro @eff.eq_5 (And.intro @eff.eq_6 (And.intro @eff.eq_7 (And.intro @eff.eq_8 (And.intro @eff.eq_9 (And.intro @eff.eq_10 (And.intro @eff.eq_11 (And.intro @eff.eq_12 (@eff.eq_13)))))))))))))))))))))))))))))))))))))))
def v2 := And.intro @eff.eq_14 (And.intro @eff.eq_15 (And.intro @eff.eq_16 (And.intro @eff.eq_17 (And.intro @eff.eq_18 (And.intro @eff.eq_19 (And.intro @eff.eq_20 (And.intro @eff.eq_21 (And.intro @eff.eq_22 (And.intro @eff.eq_23 (And.intro @eff.eq_24 (And.intro @eff.eq_25 (And.intro @eff.eq_26 (And.intro @eff.eq_27 (And.intro @eff.eq_28 (And.intro @eff.eq_29 (And.intro @eff.eq_30 (And.intro @eff.eq_31 (And.intro @eff.eq_32 (And.intro @Opd.ev.eq_1 (And.intro @Opd.ev.eq_2 (And.intro @mapEv.eq_1 (And.intro @mapEv.eq_2 (And.intro @putF_at (And.intro @putF_no (And.intro @arg_at (And.intro @arg_no (And.intro @fr_at (And.intro @fr_no (And.intro @hput_at (And.intro @hno_at (And.intro @hput_put (And.intro @Out.pure.eq_1 (And.intro @Hp.puto.eq_1 (And.intro @Hp.puto.eq_2 (And.intro @wid.eq_1 (And.intro @wid.eq_2 (And.intro @past.eq_1 (And.intro @past.eq_2 (@chk.eq_1)))))))))))))))))))))))))))))))))))))))
def v3 := And.intro @chk.eq_2 (And.intro @natIn.eq_1 (And.intro @natIn.eq_2 (And.intro @nmIn.eq_1 (And.intro @nmIn.eq_2 (And.intro @indep.eq_1 (And.intro @disj.eq_1 (And.intro @disj.eq_2 (And.intro @binD.eq_1 (And.intro @binD.eq_2 (And.intro @binD.eq_3 (And.intro @binD.eq_4 (And.intro @binD.eq_5 (And.intro @binD.eq_6 (And.intro @binD.eq_7 (And.intro @binI.eq_1 (And.intro @binI.eq_2 (And.intro @binI.eq_3 (And.intro @binI.eq_4 (And.intro @binI.eq_5 (And.intro @binI.eq_6 (And.intro @binI.eq_7 (And.intro @binI.eq_8 (And.intro @binI.eq_9 (And.intro @binI.eq_10 (And.intro @cmpI.eq_1 (And.intro @cmpI.eq_2 (And.intro @cmpI.eq_3 (And.intro @cmpI.eq_4 (And.intro @cmpI.eq_5 (And.intro @cmpI.eq_6 (And.intro @cmpI.eq_7 (And.intro @D.nat.eq_1 (And.intro @D.nat.eq_2 (And.intro @D.cells.eq_1 (And.intro @D.cells.eq_2 (And.intro @D.cells.eq_3 (And.intro @D.cells.eq_4 (And.intro @D.cells.eq_5 (@one.eq_1)))))))))))))))))))))))))))))))))))))))
def v4 := And.intro @one.eq_2 (And.intro @one.eq_3 (And.intro @cellsAt.eq_1 (And.intro @put1.eq_1 (And.intro @put1.eq_2 (And.intro @fillD.eq_1 (And.intro @fillD.eq_2 (And.intro @fillR.eq_1 (And.intro @fillR.eq_2 (And.intro @rowsOf.eq_1 (And.intro @rowsOf.eq_2 (And.intro @rowsOf.eq_3 (And.intro @rowsOf.eq_4 (And.intro @lenOf.eq_1 (And.intro @lenOf.eq_2 (And.intro @lenOf.eq_3 (And.intro @lenOf.eq_4 (And.intro @bnd.eq_1 (And.intro @bnd.eq_2 (And.intro @lend.eq_1 (And.intro @lend.eq_2 (And.intro @lend1.eq_1 (And.intro @lend1.eq_2 (And.intro @lend1.eq_3 (And.intro @lendNm.eq_1 (And.intro @lendNm.eq_2 (And.intro @lendNm1.eq_1 (And.intro @lendNm1.eq_2 (And.intro @lendOkL'.eq_1 (And.intro @lendOkL'.eq_2 (And.intro @lendOk.eq_1 (And.intro @lendOk.eq_2 (And.intro @lendOk1.eq_1 (And.intro @lendOk1.eq_2 (And.intro @lendOkL.eq_1 (And.intro @lendOkL.eq_2 (And.intro @lendT.eq_1 (And.intro @lendT.eq_2 (And.intro @lendNmT.eq_1 (@lendNmT.eq_2)))))))))))))))))))))))))))))))))))))))
def v5 := And.intro @lendOkT.eq_1 (And.intro @lendOkT.eq_2 (And.intro @Hp.kills.eq_1 (And.intro @Hp.kills.eq_2 (And.intro @Hp.kill.eq_1 (And.intro @Hp.over.eq_1 (And.intro @Hp.over.eq_2 (And.intro @Hp.restr.eq_1 (And.intro @Hp.restr.eq_2 (And.intro @reach.eq_1 (And.intro @take_map (And.intro @take_mapS (And.intro @natc0 (And.intro @natc1 (And.intro @natc2 (And.intro @natc3 (And.intro @natc4 (And.intro @natc5 (And.intro @natc6 (And.intro @natc7 (And.intro @beq_self_eq_true.{0} (And.intro @Nat.le_refl (And.intro @Int.le_refl (And.intro @plain_v (And.intro @plain_any (And.intro @plain_sl (And.intro @plain_mt (And.intro @List.forall_mem_append.{0} (And.intro @List.forall_mem_map.{0,0} (And.intro @addNm.eq_1 (And.intro @addNm.eq_2 (And.intro @nmsL.eq_1 (And.intro @nmsL.eq_2 (And.intro @D.nms.eq_1 (And.intro @D.nms.eq_2 (And.intro @D.nms.eq_3 (And.intro @D.nms.eq_4 (And.intro @D.nms.eq_5 (And.intro @D.nms.eq_6 (@D.nms.eq_7)))))))))))))))))))))))))))))))))))))))
def v6 := And.intro @D.nms.eq_8 (And.intro @D.nms.eq_9 (And.intro @D.nms.eq_10 (And.intro @cellNms.eq_1 (And.intro @cellNms.eq_2 (And.intro @refsInL.eq_1 (And.intro @refsInL.eq_2 (And.intro @D.refsIn.eq_1 (And.intro @D.refsIn.eq_2 (And.intro @D.refsIn.eq_3 (And.intro @D.refsIn.eq_4 (And.intro @D.refsIn.eq_5 (And.intro @D.refsIn.eq_6 (And.intro @D.refsIn.eq_7 (And.intro @D.refsIn.eq_8 (And.intro @D.refsIn.eq_9 (And.intro @D.refsIn.eq_10 (And.intro @ClosedH.eq_1 (And.intro @ClosedH.eq_2 (And.intro @resL.eq_1 (And.intro @resL.eq_2 (And.intro @resD.eq_1 (And.intro @resD.eq_2 (And.intro @retA.eq_1 (And.intro @retB.eq_1 (And.intro @packD.eq_1 (And.intro @packD.eq_2 (And.intro @tc_at (And.intro @rowR_at (And.intro @Pu_ex (And.intro @true_and (And.intro @and_true (And.intro @and_false (And.intro @false_and (And.intro @or_true (And.intro @true_or (And.intro @or_false (And.intro @false_or (And.intro @and_self (@List.map_cons.{0,0})))))))))))))))))))))))))))))))))))))))
def v7 := And.intro @List.map_nil.{0,0} (And.intro @List.flatMap_cons.{0,0} (And.intro @List.flatMap_nil.{0,0} (And.intro @List.append_nil.{0} (And.intro @List.nil_append.{0} (And.intro @List.cons_append.{0} (And.intro @Bool.false_eq_true (And.intro @Prod.mk.injEq.{0,0} (And.intro @List.length_cons.{0} (And.intro @List.length_nil.{0} (And.intro @Nat.add_zero (And.intro @Nat.zero_add (And.intro @List.getD_cons_zero.{0} (And.intro @List.getD_cons_succ.{0} (And.intro @List.drop_zero.{0} (And.intro @List.drop_succ_cons.{0} (And.intro @List.take_succ_cons.{0} (And.intro @List.take_zero.{0} (And.intro @List.set_cons_zero.{0} (And.intro @List.set_cons_succ.{0} (And.intro @List.replicate.eq_1.{0} (And.intro @List.replicate.eq_2.{0} (And.intro @Bool.not_true (And.intro @Bool.not_false (And.intro @Bool.true_and (And.intro @Bool.and_true (And.intro @Bool.false_and (And.intro @Bool.and_false (And.intro @Bool.or_true (And.intro @Bool.true_or (And.intro @Bool.or_false (And.intro @Bool.false_or (And.intro @eq_self.{1} (And.intro @imp_self (And.intro @ge_iff_le.{0} (And.intro @gt_iff_lt.{0} (And.intro @decide_eq_true_eq (@intsOf.eq_1)))))))))))))))))))))))))))))))))))))
def v8 := And.intro @intsOf.eq_2 (And.intro @intsOf.eq_3 (And.intro @intsOf_map (And.intro @strsOf.eq_1 (And.intro @strsOf.eq_2 (And.intro @strsOf.eq_3 (And.intro @sE.eq_1 (And.intro @ne_eq.{1} (And.intro @not_false_eq_true (And.intro @bq_t (And.intro @bq_f (And.intro @tq_b (And.intro @fq_b (And.intro @List.forall_mem_cons.{0} (And.intro @forall_nil (And.intro @sa_ok (And.intro @rowPu.eq_1 (And.intro @rowPuE.eq_1 (And.intro @rowSrc.eq_1 (And.intro @rowSrc.eq_2 (And.intro @nm1 (@nm2)))))))))))))))))))))
def v9 := And.intro @oP_at (And.intro @oB_at (And.intro @oG_at (And.intro @oA_at (And.intro @oS_at (And.intro @cI_at @cB_at)))))
def v10 := And.intro @runKC_s (And.intro @runKT_s (And.intro @D.oflat.eq_1 (And.intro @D.oflat.eq_2 (And.intro @D.oflat.eq_3 (And.intro @D.oflat.eq_4 (And.intro @D.oflat.eq_5 (And.intro @oflatL.eq_1 (And.intro @oflatL.eq_2 (And.intro @flatAt.eq_1 (And.intro @flatRs.eq_1 (And.intro @flatRs.eq_2 @eff.eq_33)))))))))))
def vv := And.intro v10 (And.intro v9 (And.intro v1 (And.intro v2 (And.intro v3 (And.intro v4 (And.intro v5 (And.intro v6 (And.intro v7 v8))))))))
end Go.Proofs.Ytkjibmfggeibjaa
