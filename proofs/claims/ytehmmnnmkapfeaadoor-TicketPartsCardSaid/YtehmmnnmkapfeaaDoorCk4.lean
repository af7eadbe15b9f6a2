/- TicketParts: Vt Vu CodeS GF Vw CodeN Nm CmL CodeCM. -/
import Derived.Test.YtehmmnnmkapfeaaDoorCk3
import Derived.Test.YtehmmnnmkapfeaaDoorProg
set_option linter.defProp false
set_option linter.unusedSimpArgs false
set_option linter.unusedVariables false
set_option maxRecDepth 100000

/- Rows of tables: pure functions; functions that read from a source. -/
/- Rows of tables: pure functions; functions that read from a source. -/
namespace Go.Proofs.YtehmmnnmkapfeaaDoor
open Go
theorem mixed : Tryd.prog.follows .mixedOrders = true := by kernel_rfl
abbrev InI (n : Int) : Prop := -9223372036854775808 ≤ n ∧ n ≤ 9223372036854775807
structure SrcOk (L : List (List D)) (at' : Int) : Prop where
  lo : 0 ≤ at'
  hi : at' ≤ L.length
  len : (L.length : Int) ≤ 2000
  ints : ∃ ns : List Int, L = ns.map (fun n => [di n]) ∧ ∀ n ∈ ns, InI n
def sE (L : List (List D)) (at' : Int) : En := ⟨0, 2, [[.sl L, di at']]⟩
def intsOf : List (List D) → Option (List Int)
  | [] => some []
  | [.v (.int .i64 n)] :: l => match intsOf l with
    | some ns => some (n :: ns)
    | Option.none => Option.none
  | _ => Option.none
theorem intsOf_map (ns : List Int) : intsOf (ns.map fun n => [di n]) = some ns := by
  induction ns with
  | nil => rfl
  | cons n ns ih => rw [List.map_cons, intsOf, ih]
theorem intsOf_eq : ∀ {l : List (List D)} {ns : List Int}, intsOf l = some ns → l = ns.map (fun n => [di n])
  | [], ns, h => by rw [intsOf] at h; cases h; rfl
  | [.v (.int .i64 n)] :: l, ns, h => by
    rw [intsOf] at h
    split at h
    · rename_i ms hm
      cases h
      rw [List.map_cons, ← intsOf_eq hm]
    · cases h
def strsOf : List (List D) → Option (List ByteArray)
  | [] => some []
  | [.v (.string n)] :: l => match strsOf l with
    | some ns => some (n :: ns)
    | Option.none => Option.none
  | _ => Option.none
theorem strsOf_eq : ∀ {l : List (List D)} {ns : List ByteArray}, strsOf l = some ns → l = ns.map (fun n => [ds n])
  | [], ns, h => by rw [strsOf] at h; cases h; rfl
  | [.v (.string n)] :: l, ns, h => by
    rw [strsOf] at h
    split at h
    · rename_i ms hm
      cases h
      rw [List.map_cons, ← strsOf_eq hm]
    · cases h
def SrcR {α : Type} (i : Nm) (L : List (List D)) (post : α → Prop) (val : α → D) : D → Hp → Prop := fun v H' => ∃ at' a, SrcOk L at' ∧ post a ∧ v = val a ∧ H' = Hp.none.put i (sE L at')
abbrev SA (L : List (List D)) := { at' : Int // SrcOk L at' }
theorem sa_ok {L : List (List D)} (a : SA L) : SrcOk L a.1 = True := eq_true a.2
theorem SrcR_all {α : Type} (i : Nm) (L : List (List D)) (post : α → Prop) (val : α → D) (K : D → Hp → Prop) : (∀ v H', SrcR i L post val v H' → K v H') = ∀ (at' : SA L) (a : α), post a → K (val a) (Hp.none.put i (sE L at'.1)) :=
  propext ⟨fun h at' a h2 => h _ _ ⟨at'.1, a, at'.2, h2, rfl, rfl⟩, fun h v H' ⟨at', a, h1, h2, e1, e2⟩ => by rw [e1, e2]; exact h ⟨at', h1⟩ a h2⟩
theorem tc_row {P : Program} {f : FuncId} {r : List D → Hp → Nm → Option (Prop × (D → Hp → Prop))} {T : Tbl} (hf : fnOk P f = true) (hr : ∀ args Hs nn pre R, r args Hs nn = some (pre, R) → pre → (∃ v H', R v H') ∧ CallsA P f args Hs nn R) (h : TblOk P T) : TblOk P (tc f r T) := fun f' args Hs nn pre R hT => by
  rw [tc_at] at hT
  split at hT
  · rename_i e
    subst e
    exact ⟨hf, hr args Hs nn pre R hT⟩
  · exact h f' args Hs nn pre R hT
theorem nm1 (i : Nm) (t : Nat) : (i = (i.1 + 1, t)) = False := eq_false fun h => by have := congrArg Prod.fst h; dsimp only at this; omega
theorem nm2 (i : Nm) (t : Nat) : ((i.1 + 1, t) = i) = False := eq_false fun h => by have := congrArg Prod.fst h; dsimp only at this; omega
theorem forall_nil {α : Type} (p : α → Prop) : (∀ x, x ∈ ([] : List α) → p x) = True := eq_true fun x h => by cases h
theorem bq_t (b : Bool) : (b == true) = b := by cases b <;> rfl
theorem bq_f (b : Bool) : (b == false) = !b := by cases b <;> rfl
theorem tq_b (b : Bool) : (true == b) = b := by cases b <;> rfl
theorem fq_b (b : Bool) : (false == b) = !b := by cases b <;> rfl
theorem weak_eq {J : List Nm} {F : Fr} {H H' : Hp} (ks js : List Nm) (l : List (Nat × D)) (h1 : coverS F H ks l) (h2 : refsF js l = true) (h3 : ClosedH (H.kills ks) js js) (h4 : ∀ i ∈ J, i ∈ js) (h5 : (H.kills ks).restr js = H') : Weak J ⟨F, H⟩ ⟨fr l, H'⟩ := h5 ▸ weak_to ks js l h1 h2 h3 h4
def rowPu (sel : List D → Option (Prop × D)) : List D → Hp → Nm → Option (Prop × (D → Hp → Prop)) := fun args Hs nn =>
  match sel args with
  | some (pre, d) => some (Hs = Hp.none ∧ pre, Pu d Hp.none)
  | Option.none => Option.none
theorem tc_pu {P : Program} {f : FuncId} {sel : List D → Option (Prop × D)} {T : Tbl} (hf : fnOk P f = true) (h : ∀ args pre d, sel args = some (pre, d) → pre → ∀ nn, CallsA P f args Hp.none nn (Pu d Hp.none)) (hT : TblOk P T) : TblOk P (tc f (rowPu sel) T) :=
  tc_row hf (fun args Hs nn pre R hr hp => by
    unfold rowPu at hr
    split at hr
    · rename_i pre' d hs
      cases hr
      obtain ⟨rfl, hp⟩ := hp
      exact ⟨⟨d, Hp.none, rfl, rfl⟩, h args pre' d hs hp nn⟩
    · cases hr) hT
def PuE {α : Type} (post : α → Prop) (val : α → D) (Hs : Hp) : D → Hp → Prop := fun v H' => ∃ a, post a ∧ v = val a ∧ H' = Hs
theorem PuE_all {α : Type} (post : α → Prop) (val : α → D) (Hs : Hp) (K : D → Hp → Prop) : (∀ v H', PuE post val Hs v H' → K v H') = ∀ a, post a → K (val a) Hs :=
  propext ⟨fun h a h1 => h _ _ ⟨a, h1, rfl, rfl⟩, fun h v H' ⟨a, h1, e1, e2⟩ => by rw [e1, e2]; exact h a h1⟩
def rowPuE {α : Type} (sel : List D → Option (Prop × (α → Prop))) (val : α → D) : List D → Hp → Nm → Option (Prop × (D → Hp → Prop)) := fun args Hs nn =>
  match sel args with
  | some (pre, post) => some (Hs = Hp.none ∧ pre, PuE post val Hp.none)
  | Option.none => Option.none
def rowSrc {α : Type} (sel : List D → Option (Prop × (α → Prop))) (val : α → D) : List D → Hp → Nm → Option (Prop × (D → Hp → Prop)) := fun args Hs nn =>
  match args with
  | .ptr i g r c :: args =>
    match sel args, Hs i with
    | some (pre, post), some ⟨_, _, [[.sl L, .v (.int .i64 at')]]⟩ => some ((Hs = Hp.none.put i (sE L at') ∧ g = 0 ∧ r = 0 ∧ c = 0) ∧ SrcOk L at' ∧ pre, SrcR i L post val)
    | _, _ => Option.none
  | _ => Option.none
def SrcC {α : Type} (P : Program) (f : FuncId) (args : List D) (post : α → Prop) (val : α → D) : Prop := ∀ i L at' nn, SrcOk L at' → CallsA P f (.ptr i 0 0 0 :: args) (Hp.none.put i (sE L at')) nn (SrcR i L post val)
theorem tc_src {P : Program} {f : FuncId} {α : Type} {sel : List D → Option (Prop × (α → Prop))} {val : α → D} {T : Tbl} (hf : fnOk P f = true) (h : ∀ args pre post, sel args = some (pre, post) → pre → (∃ a, post a) ∧ SrcC P f args post val) (hT : TblOk P T) : TblOk P (tc f (rowSrc sel val) T) :=
  tc_row hf (fun args Hs nn pre R hr hp => by
    unfold rowSrc at hr
    split at hr
    · rename_i i g r c args
      split at hr
      · rename_i pre' post g' sz L at' hs hH
        cases hr
        obtain ⟨⟨rfl, rfl, rfl, rfl⟩, ho, hp⟩ := hp
        obtain ⟨⟨a, ha⟩, hc⟩ := h args pre' post hs hp
        exact ⟨⟨val a, _, at', a, ho, ha, rfl, rfl⟩, hc i L at' nn ho⟩
      · cases hr
    · cases hr) hT
def vp0 := And.intro @vc_skip (And.intro @vc_opsD (And.intro @vc_opsL (And.intro @vc_seq (And.intro @vc_cond (And.intro @vc_block (And.intro @vc_exit (And.intro @vc_ret (And.intro @runL_n (And.intro @runL_c (And.intro @runD_n (And.intro @runD_c (And.intro @KL_at (And.intro @KD_at (And.intro @run1_at (And.intro @thenQ_n (And.intro @thenQ_e (And.intro @thenQ_r (And.intro @blockQ_n (And.intro @blockQ_e (And.intro @blockQ_r (And.intro @loopQ_n (And.intro @loopQ_e (And.intro @loopQ_r (And.intro @finQ_n (And.intro @finQ_r (And.intro @Pu_all (And.intro @SrcR_all (@PuE_all))))))))))))))))))))))))))))
def vp := And.intro vp0 (And.intro @vc_opsF (And.intro @runF_n (And.intro @runF_f (And.intro @runF_t (And.intro @KF_at (And.intro @vc_opsG (And.intro @runDG_n (And.intro @runDG_f (And.intro @runDG_t (And.intro @KG_at (And.intro @sGQ_s (And.intro @runKCQ_n (And.intro @runKCQ_s @runKDQ_s)))))))))))))
def v1 := And.intro @guardD.eq_1 (And.intro @guardD.eq_2 (And.intro @callee.eq_1 (And.intro @callee.eq_2 (And.intro @callee.eq_3 (And.intro @callRun.eq_1 (And.intro @callRun1.eq_1 (And.intro @callRun2.eq_1 (And.intro @callRun3_at (And.intro @sO_s (And.intro @sC_s (And.intro @sC_n (And.intro @sG_s (And.intro @sT_s (And.intro @sB_v (And.intro @ite_vb (And.intro @List.length_map.{0,0} (And.intro @List.length_append.{0} (And.intro @List.isEmpty_nil.{0} (And.intro @List.isEmpty_cons.{0} (And.intro @D.flat.eq_1 (And.intro @D.flat.eq_2 (And.intro @D.flat.eq_3 (And.intro @D.flat.eq_4 (And.intro @D.flat.eq_5 (And.intro @flatL.eq_1 (And.intro @flatL.eq_2 (And.intro @eff.eq_1 (And.intro @eff.eq_2 (And.intro @eff.eq_3 (And.intro @eff.eq_4 (And.intro @eff.eq_5 (And.intro @eff.eq_6 (And.intro @eff.eq_7 (And.intro @eff.eq_8 (And.intro @eff.eq_9 (And.intro @eff.eq_10 (And.intro @eff.eq_11 (And.intro @eff.eq_12 (@eff.eq_13)))))))))))))))))))))))))))))))))))))))
def v2 := And.intro @eff.eq_14 (And.intro @eff.eq_15 (And.intro @eff.eq_16 (And.intro @eff.eq_17 (And.intro @eff.eq_18 (And.intro @eff.eq_19 (And.intro @eff.eq_20 (And.intro @eff.eq_21 (And.intro @eff.eq_22 (And.intro @eff.eq_23 (And.intro @eff.eq_24 (And.intro @eff.eq_25 (And.intro @eff.eq_26 (And.intro @eff.eq_27 (And.intro @eff.eq_28 (And.intro @eff.eq_29 (And.intro @eff.eq_30 (And.intro @eff.eq_31 (And.intro @eff.eq_32 (And.intro @Opd.ev.eq_1 (And.intro @Opd.ev.eq_2 (And.intro @mapEv.eq_1 (And.intro @mapEv.eq_2 (And.intro @putF_at (And.intro @putF_no (And.intro @arg_at (And.intro @arg_no (And.intro @fr_at (And.intro @fr_no (And.intro @hput_at (And.intro @hno_at (And.intro @hput_put (And.intro @Out.pure.eq_1 (And.intro @Hp.puto.eq_1 (And.intro @Hp.puto.eq_2 (And.intro @wid.eq_1 (And.intro @wid.eq_2 (And.intro @past.eq_1 (And.intro @past.eq_2 (@chk.eq_1)))))))))))))))))))))))))))))))))))))))
def v3 := And.intro @chk.eq_2 (And.intro @natIn.eq_1 (And.intro @natIn.eq_2 (And.intro @nmIn.eq_1 (And.intro @nmIn.eq_2 (And.intro @indep.eq_1 (And.intro @disj.eq_1 (And.intro @disj.eq_2 (And.intro @binD.eq_1 (And.intro @binD.eq_2 (And.intro @binD.eq_3 (And.intro @binD.eq_4 (And.intro @binD.eq_5 (And.intro @binD.eq_6 (And.intro @binD.eq_7 (And.intro @binI.eq_1 (And.intro @binI.eq_2 (And.intro @binI.eq_3 (And.intro @binI.eq_4 (And.intro @binI.eq_5 (And.intro @binI.eq_6 (And.intro @binI.eq_7 (And.intro @binI.eq_8 (And.intro @binI.eq_9 (And.intro @binI.eq_10 (And.intro @cmpI.eq_1 (And.intro @cmpI.eq_2 (And.intro @cmpI.eq_3 (And.intro @cmpI.eq_4 (And.intro @cmpI.eq_5 (And.intro @cmpI.eq_6 (And.intro @cmpI.eq_7 (And.intro @D.nat.eq_1 (And.intro @D.nat.eq_2 (And.intro @D.cells.eq_1 (And.intro @D.cells.eq_2 (And.intro @D.cells.eq_3 (And.intro @D.cells.eq_4 (And.intro @D.cells.eq_5 (@one.eq_1)))))))))))))))))))))))))))))))))))))))
def v4 := And.intro @one.eq_2 (And.intro @one.eq_3 (And.intro @cellsAt.eq_1 (And.intro @put1.eq_1 (And.intro @put1.eq_2 (And.intro @fillD.eq_1 (And.intro @fillD.eq_2 (And.intro @fillR.eq_1 (And.intro @fillR.eq_2 (And.intro @rowsOf.eq_1 (And.intro @rowsOf.eq_2 (And.intro @rowsOf.eq_3 (And.intro @rowsOf.eq_4 (And.intro @lenOf.eq_1 (And.intro @lenOf.eq_2 (And.intro @lenOf.eq_3 (And.intro @lenOf.eq_4 (And.intro @bnd.eq_1 (And.intro @bnd.eq_2 (And.intro @lend.eq_1 (And.intro @lend.eq_2 (And.intro @lend1.eq_1 (And.intro @lend1.eq_2 (And.intro @lend1.eq_3 (And.intro @lendNm.eq_1 (And.intro @lendNm.eq_2 (And.intro @lendNm1.eq_1 (And.intro @lendNm1.eq_2 (And.intro @lendOkL'.eq_1 (And.intro @lendOkL'.eq_2 (And.intro @lendOk.eq_1 (And.intro @lendOk.eq_2 (And.intro @lendOk1.eq_1 (And.intro @lendOk1.eq_2 (And.intro @lendOkL.eq_1 (And.intro @lendOkL.eq_2 (And.intro @lendT.eq_1 (And.intro @lendT.eq_2 (And.intro @lendNmT.eq_1 (@lendNmT.eq_2)))))))))))))))))))))))))))))))))))))))
def v5 := And.intro @lendOkT.eq_1 (And.intro @lendOkT.eq_2 (And.intro @Hp.kills.eq_1 (And.intro @Hp.kills.eq_2 (And.intro @Hp.kill.eq_1 (And.intro @Hp.over.eq_1 (And.intro @Hp.over.eq_2 (And.intro @Hp.restr.eq_1 (And.intro @Hp.restr.eq_2 (And.intro @reach.eq_1 (And.intro @take_map (And.intro @take_mapS (And.intro @natc0 (And.intro @natc1 (And.intro @natc2 (And.intro @natc3 (And.intro @natc4 (And.intro @natc5 (And.intro @natc6 (And.intro @natc7 (And.intro @beq_self_eq_true.{0} (And.intro @Nat.le_refl (And.intro @Int.le_refl (And.intro @plain_v (And.intro @plain_any (And.intro @plain_sl (And.intro @plain_mt (And.intro @List.forall_mem_append.{0} (And.intro @List.forall_mem_map.{0,0} (And.intro @addNm.eq_1 (And.intro @addNm.eq_2 (And.intro @nmsL.eq_1 (And.intro @nmsL.eq_2 (And.intro @D.nms.eq_1 (And.intro @D.nms.eq_2 (And.intro @D.nms.eq_3 (And.intro @D.nms.eq_4 (And.intro @D.nms.eq_5 (And.intro @D.nms.eq_6 (@D.nms.eq_7)))))))))))))))))))))))))))))))))))))))
def v6 := And.intro @D.nms.eq_8 (And.intro @D.nms.eq_9 (And.intro @D.nms.eq_10 (And.intro @cellNms.eq_1 (And.intro @cellNms.eq_2 (And.intro @refsInL.eq_1 (And.intro @refsInL.eq_2 (And.intro @D.refsIn.eq_1 (And.intro @D.refsIn.eq_2 (And.intro @D.refsIn.eq_3 (And.intro @D.refsIn.eq_4 (And.intro @D.refsIn.eq_5 (And.intro @D.refsIn.eq_6 (And.intro @D.refsIn.eq_7 (And.intro @D.refsIn.eq_8 (And.intro @D.refsIn.eq_9 (And.intro @D.refsIn.eq_10 (And.intro @ClosedH.eq_1 (And.intro @ClosedH.eq_2 (And.intro @resL.eq_1 (And.intro @resL.eq_2 (And.intro @resD.eq_1 (And.intro @resD.eq_2 (And.intro @retA.eq_1 (And.intro @retB.eq_1 (And.intro @packD.eq_1 (And.intro @packD.eq_2 (And.intro @tc_at (And.intro @rowR_at (And.intro @Pu_ex (And.intro @true_and (And.intro @and_true (And.intro @and_false (And.intro @false_and (And.intro @or_true (And.intro @true_or (And.intro @or_false (And.intro @false_or (And.intro @and_self (@List.map_cons.{0,0})))))))))))))))))))))))))))))))))))))))
def v7 := And.intro @List.map_nil.{0,0} (And.intro @List.flatMap_cons.{0,0} (And.intro @List.flatMap_nil.{0,0} (And.intro @List.append_nil.{0} (And.intro @List.nil_append.{0} (And.intro @List.cons_append.{0} (And.intro @Bool.false_eq_true (And.intro @Prod.mk.injEq.{0,0} (And.intro @List.length_cons.{0} (And.intro @List.length_nil.{0} (And.intro @Nat.add_zero (And.intro @Nat.zero_add (And.intro @List.getD_cons_zero.{0} (And.intro @List.getD_cons_succ.{0} (And.intro @List.drop_zero.{0} (And.intro @List.drop_succ_cons.{0} (And.intro @List.take_succ_cons.{0} (And.intro @List.take_zero.{0} (And.intro @List.set_cons_zero.{0} (And.intro @List.set_cons_succ.{0} (And.intro @List.replicate.eq_1.{0} (And.intro @List.replicate.eq_2.{0} (And.intro @Bool.not_true (And.intro @Bool.not_false (And.intro @Bool.true_and (And.intro @Bool.and_true (And.intro @Bool.false_and (And.intro @Bool.and_false (And.intro @Bool.or_true (And.intro @Bool.true_or (And.intro @Bool.or_false (And.intro @Bool.false_or (And.intro @eq_self.{1} (And.intro @imp_self (And.intro @ge_iff_le.{0} (And.intro @gt_iff_lt.{0} (And.intro @decide_eq_true_eq (@intsOf.eq_1)))))))))))))))))))))))))))))))))))))
def v8 := And.intro @intsOf.eq_2 (And.intro @intsOf.eq_3 (And.intro @intsOf_map (And.intro @strsOf.eq_1 (And.intro @strsOf.eq_2 (And.intro @strsOf.eq_3 (And.intro @sE.eq_1 (And.intro @ne_eq.{1} (And.intro @not_false_eq_true (And.intro @bq_t (And.intro @bq_f (And.intro @tq_b (And.intro @fq_b (And.intro @List.forall_mem_cons.{0} (And.intro @forall_nil (And.intro @sa_ok (And.intro @rowPu.eq_1 (And.intro @rowPuE.eq_1 (And.intro @rowSrc.eq_1 (And.intro @rowSrc.eq_2 (And.intro @nm1 (@nm2)))))))))))))))))))))
def v9 := And.intro @oH_at (And.intro @oD_at (And.intro @oE_at (And.intro @oT_at (And.intro @oP_at (And.intro @oB_at (And.intro @oG_at (And.intro @oA_at (And.intro @oS_at (And.intro @cI_at @cB_at)))))))))
def v10 := And.intro @implies_true.{0} (And.intro @implies_true.{1} (And.intro @forall_const.{0} (And.intro @forall_const.{1} (And.intro @undef.eq_1 (And.intro @InI.eq_1 (And.intro @runKC_n (And.intro @runKD_s (And.intro @runKB_s (And.intro @runKC_s (And.intro @runKT_s (And.intro @D.oflat.eq_1 (And.intro @D.oflat.eq_2 (And.intro @D.oflat.eq_3 (And.intro @D.oflat.eq_4 (And.intro @D.oflat.eq_5 (And.intro @oflatL.eq_1 (And.intro @oflatL.eq_2 (And.intro @flatAt.eq_1 (And.intro @flatRs.eq_1 (And.intro @flatRs.eq_2 @eff.eq_33))))))))))))))))))))
def vv := And.intro v10 (And.intro v9 (And.intro v1 (And.intro v2 (And.intro v3 (And.intro v4 (And.intro v5 (And.intro v6 (And.intro v7 v8))))))))
def D.done : D → Bool
  | .v _ => true
  | .any => true
  | .sl _ => true
  | _ => false
end Go.Proofs.YtehmmnnmkapfeaaDoor

/- Functions of the library that look through slices with a function. -/
namespace Go.Proofs.YtehmmnnmkapfeaaDoor
open Go
def RngI (n : Nat) (st : Nat → St) (P : Nat → Prop) (m : Nat) (s : St) : Prop := ∃ j, j + m = n ∧ P j ∧ s = st j
theorem rng_loop {T : Tbl} {N : Nat → Nm} {J : List Nm} {c : C} {Q : Ex → St → Prop} {s : St} (n : Nat) (st : Nat → St) (P : Nat → Prop) (h0 : Weak J s (st 0)) (hP : P 0)
    (hs : ∀ j, j < n → P j → vc T N J c (loopQ J (RngI n st P) (n - j) Q) (st j)) (he : P n → vc T N J c (loopQ J (RngI n st P) 0 Q) (st n)) : vc T N J (.loop c) Q s := by
  rw [vc_loop]
  refine ⟨RngI n st P, ⟨n, _, h0, 0, by omega, hP, rfl⟩, ?_⟩
  rintro m s' ⟨j, hj, hPj, rfl⟩
  by_cases h : j < n
  · obtain rfl : m = n - j := by omega
    exact hs j h hPj
  · obtain rfl : j = n := by omega
    obtain rfl : m = 0 := by omega
    exact he hPj
theorem rng_next {J : List Nm} {n : Nat} {st : Nat → St} {P : Nat → Prop} {j : Nat} {s : St} (hj : j < n) (w : Weak J s (st (j + 1))) (hp : P (j + 1)) : ∃ k' s', k' < n - j ∧ Weak J s s' ∧ RngI n st P k' s' :=
  ⟨n - (j + 1), _, by omega, w, j + 1, by omega, hp, rfl⟩
theorem weak0 {F : Fr} {H : Hp} {l : List (Nat × D)} (h1 : coverS F H [] l) (h2 : refsF [] l = true) : Weak [] ⟨F, H⟩ ⟨fr l, Hp.none⟩ := weak_eq [] [] l h1 h2 trivial (by simp) rfl
theorem drop_all {α : Type} {p : α → Bool} {l : List α} {j : Nat} {b : Bool} (hj : j < l.length) (he : (l.drop j).all p = b) : (p l[j] = false → b = false) ∧ (p l[j] = true → (l.drop (j + 1)).all p = b) := by
  rw [List.drop_eq_getElem_cons hj, List.all_cons] at he
  exact ⟨fun h => by rw [h] at he; simpa using he.symm, fun h => by rw [h] at he; simpa using he⟩
theorem drop_all_end {α : Type} {p : α → Bool} {l : List α} {b : Bool} (he : (l.drop l.length).all p = b) : b = true := by
  rw [List.drop_of_length_le (Nat.le_refl _)] at he
  exact he.symm
theorem idx_next {j : Nat} (h : (j : Int) ≤ 1000000000000) : IntKind.i64.wrap ((j : Int) + 1) = ((j + 1 : Nat) : Int) := by rw [wrap_i (by omega)]; rfl
theorem idx_nn (j : Nat) : (0 : Int) ≤ (j : Int) := Int.natCast_nonneg j
def c113_1 : C := (.ops false [oP 28 (.bin .add (.t 20) (cI 1)), oP 20 (.mv (.t 28))])
def c113_2 : C := (.seq (.block 1 (.seq (.ops false [oP 22 (.mv (.t 20)), oP 3 (.mv (.t 22))]) (.seq (.ops false [oP 23 (.mv (.t 0)), oP 24 (.mv (.t 3)), oP 25 (.ixS (.t 23) (.t 24)), oB 26 (.call 137 [(.t 25)]), oP 27 (.bin .eql (.t 26) (cI 0))]) (.cond (.t 27) (.seq (.ops false [oP 2 (.mv (cB false))]) .ret) .skip)))) c113_1)
def c113_3 : C := (.seq (.ops false [oP 21 (.bin .lss (.t 20) (.t 19))]) (.seq (.cond (.t 21) .skip (.exit 0)) c113_2))
def c113_4 : C := (.seq (.ops false [oP 2 (.mv (cB true))]) .ret)
def c113_5 : C := (.seq (.seq (.ops false [oP 18 (.mv (.t 0)), oP 19 (.lenS (.t 18)), oP 20 (.mv (cI 0))]) (.block 0 (.loop c113_3))) c113_4)
def c113 : C := (.seq (.ops false [oP 2 (.mv (cB false))]) (.seq (.seq (.ops false [oP 4 (.mv (.t 0)), oP 5 (.lenS (.t 4)), oP 6 (.bin .lss (.t 5) (cI 1)), oP 7 (.mv (.t 6)), oG 8 7 false (.mv (.t 0)), oG 9 7 false (.lenS (.t 8)), oG 10 7 false (.bin .gtr (.t 9) (cI 12)), oP 11 (.pick (.t 7) (cB true) (.t 10)), oP 12 (.mv (.t 11)), oG 13 12 false (.mv (.t 0)), oG 14 12 false (.ixS (.t 13) (cI 0)),
  oD 15 12 false (.call 137 [(.t 14)]) [], oG 16 12 false (.bin .neq (.t 15) (cI 1)), oP 17 (.pick (.t 12) (cB true) (.t 16))]) (.cond (.t 17) (.seq (.ops false [oP 2 (.mv (cB false))]) .ret) .skip)) c113_5))
def r113 : List RV := [(.tmp 2)]
theorem c113_ok : ∃ code, Tryd.f113.body = some code ∧ compC Tryd.prog Tryd.f113.ntmps code = some (C.strip c113) := ⟨_, rfl, by kernel_rfl⟩
theorem r113_ok : compRes Tryd.prog Tryd.f113.results.toList = some r113 := by kernel_rfl
theorem f113_ok : fnOk Tryd.prog 113 = true := by kernel_rfl
def c137_1 : C := (.seq (.ops false [oP 18 (.mv (.t 0)), oP 19 (.bin .eql (.t 18) (.c (.v (.int .u8 45)))), oP 17 (.mv (.t 19))]) (.cond (.t 17) (.exit 3) .skip))
def c137_2 : C := (.seq (.seq (.ops false [oP 11 (.mv (.t 0)), oP 12 (.bin .geq (.t 11) (.c (.v (.int .u8 48)))), oP 13 (.mv (.t 12)), oG 14 13 true (.mv (.t 0)), oG 15 13 true (.bin .leq (.t 14) (.c (.v (.int .u8 57)))), oP 16 (.pick (.t 13) (.t 15) (cB false)), oP 10 (.mv (.t 16))]) (.cond (.t 10) (.exit 2) .skip)) c137_1)
def c137_3 : C := (.exit 0)
def c137_4 : C := (.seq (.seq (.ops false [oP 2 (.mv (cI 1))]) .ret) (.exit 0))
def c137_5 : C := (.seq (.seq (.ops false [oP 2 (.mv (cI 2))]) .ret) (.exit 0))
def c137_6 : C := (.seq (.ops false [oP 2 (.mv (cI 0))]) .ret)
def c137 : C := (.seq (.ops false [oP 2 (.mv (cI 0))]) (.seq (.block 0 (.seq (.block 3 (.block 2 (.seq (.block 1 (.seq (.seq (.seq (.ops false [oP 4 (.mv (.t 0)), oP 5 (.bin .geq (.t 4) (.c (.v (.int .u8 97)))), oP 6 (.mv (.t 5)), oG 7 6 true (.mv (.t 0)), oG 8 6 true (.bin .leq (.t 7) (.c (.v (.int .u8 122)))), oP 9 (.pick (.t 6) (.t 8) (cB false)), oP 3 (.mv (.t 9))]) (.cond (.t 3) (.exit 1) .skip)) c137_2)
  c137_3)) c137_4))) c137_5)) c137_6))
def r137 : List RV := [(.tmp 2)]
theorem c137_ok : ∃ code, Tryd.f137.body = some code ∧ compC Tryd.prog Tryd.f137.ntmps code = some (C.strip c137) := ⟨_, rfl, by kernel_rfl⟩
theorem r137_ok : compRes Tryd.prog Tryd.f137.results.toList = some r137 := by kernel_rfl
theorem f137_ok : fnOk Tryd.prog 137 = true := by kernel_rfl
def placeI (c : Int) : Int := if 97 ≤ c ∧ c ≤ 122 then 1 else if 48 ≤ c ∧ c ≤ 57 then 2 else if c = 45 then 2 else 0
def byteI (s : ByteArray) (k : Nat) : Int := (s.data.getD k 0).toNat
def bytesI (s : ByteArray) : List Int := (List.range s.size).map (byteI s)
def nameB (s : ByteArray) : Bool := if s.size < 1 then false else if 12 < s.size then false else if placeI (byteI s 0) = 1 then (bytesI s).all (fun c => decide (placeI c ≠ 0)) else false
theorem bytesI_len (s : ByteArray) : (bytesI s).length = s.size := by simp [bytesI]
theorem bytesI_at (s : ByteArray) {j : Nat} (h : j < (bytesI s).length) : (bytesI s)[j] = byteI s j := by simp [bytesI]
set_option maxHeartbeats 4000000 in
theorem place_c (c : Int) (nn : Nm) : CallsA Tryd.prog 137 [.v (.int .u8 c)] Hp.none nn (Pu (di (placeI c)) Hp.none) := by
  obtain ⟨code, h1, h2⟩ := c137_ok
  refine callsA_of (T0_ok _) mixed (N := fun t => (0, t)) Tryd.func137 h1 h2 r137_ok [] false js_nil js_nil' (by simp [Tryd.f137]) ?_
  by_cases a1 : 97 ≤ c
  · by_cases a2 : c ≤ 122
    · simp (maxSteps:=500000) only [↓vp, vv, ↓reduceIte, simprocAttr, c137, r137, c137_1, c137_2, c137_3, c137_4, c137_5, c137_6, a1, a2, placeI, Pu, decide_true, decide_false]
    · have a3 : ¬ c ≤ 57 := by omega
      have a4 : 48 ≤ c := by omega
      have a5 : (c == 45) = false := beq_false_of_ne (by omega)
      have a6 : ¬ c = 45 := by omega
      simp (maxSteps:=500000) only [↓vp, vv, ↓reduceIte, simprocAttr, c137, r137, c137_1, c137_2, c137_3, c137_4, c137_5, c137_6, a1, a2, a3, a4, a5, a6, placeI, Pu, decide_true, decide_false]
  · by_cases a2 : 48 ≤ c
    · by_cases a3 : c ≤ 57
      · simp (maxSteps:=500000) only [↓vp, vv, ↓reduceIte, simprocAttr, c137, r137, c137_1, c137_2, c137_3, c137_4, c137_5, c137_6, a1, a2, a3, placeI, Pu, decide_true, decide_false]
      · have a5 : (c == 45) = false := beq_false_of_ne (by omega)
        have a6 : ¬ c = 45 := by omega
        simp (maxSteps:=500000) only [↓vp, vv, ↓reduceIte, simprocAttr, c137, r137, c137_1, c137_2, c137_3, c137_4, c137_5, c137_6, a1, a2, a3, a5, a6, placeI, Pu, decide_true, decide_false]
    · by_cases a5 : c = 45
      · have a6 : (c == 45) = true := beq_iff_eq.2 a5
        simp (maxSteps:=500000) only [↓vp, vv, ↓reduceIte, simprocAttr, c137, r137, c137_1, c137_2, c137_3, c137_4, c137_5, c137_6, a1, a2, a5, a6, placeI, Pu, decide_true, decide_false]
      · have a6 : (c == 45) = false := beq_false_of_ne a5
        simp (maxSteps:=500000) only [↓vp, vv, ↓reduceIte, simprocAttr, c137, r137, c137_1, c137_2, c137_3, c137_4, c137_5, c137_6, a1, a2, a5, a6, placeI, Pu, decide_true, decide_false]
def selPlace : List D → Option (Prop × D)
  | [.v (.int .u8 c)] => some (True, di (placeI c))
  | _ => Option.none
def TP : Tbl := tc 137 (rowPu selPlace) T0
theorem TP_ok : TblOk Tryd.prog TP := by
  refine tc_pu f137_ok (fun args pre d h hp nn => ?_) (T0_ok _)
  unfold selPlace at h
  split at h <;> cases h
  exact place_c _ nn
theorem byteI_eq (s : ByteArray) (k : Nat) : ((s.data.getD k 0).toNat : Int) = byteI s k := rfl
set_option maxHeartbeats 4000000 in
theorem lname_c (s : ByteArray) (nn : Nm) : CallsA Tryd.prog 113 [ds s] Hp.none nn (Pu (db (nameB s)) Hp.none) := by
  obtain ⟨code, h1, h2⟩ := c113_ok
  refine callsA_of TP_ok mixed (N := fun t => (0, t)) Tryd.func113 h1 h2 r113_ok [] false js_nil js_nil' (by simp [Tryd.f113]) ?_
  by_cases a1 : (s.size : Int) < 1
  · have b1 : s.size < 1 := by omega
    simp (maxSteps:=500000) only [↓vp, vv, ↓reduceIte, simprocAttr, c113, r113, c113_1, c113_2, c113_3, c113_4, c113_5, a1, b1, nameB, Pu, decide_true, decide_false]
  · by_cases a2 : (12 : Int) < s.size
    · have b1 : ¬ s.size < 1 := by omega
      have b2 : 12 < s.size := by omega
      simp (maxSteps:=500000) only [↓vp, vv, ↓reduceIte, simprocAttr, c113, r113, c113_1, c113_2, c113_3, c113_4, c113_5, a1, a2, b1, b2, nameB, Pu, decide_true, decide_false]
    · have b1 : ¬ s.size < 1 := by omega
      have b2 : ¬ 12 < s.size := by omega
      have b3 : (0 : Int) < s.size := by omega
      by_cases a3 : placeI (byteI s 0) = 1
      · have e0 : nameB s = (bytesI s).all (fun c => decide (placeI c ≠ 0)) := by unfold nameB; rw [if_neg b1, if_neg b2, if_pos a3]
        rw [e0]
        generalize hb : (bytesI s).all (fun c => decide (placeI c ≠ 0)) = b
        simp (maxSteps:=500000) only [↓vp, vv, ↓reduceIte, simprocAttr, c113, c113_5, TP, selPlace, a1, a2, a3, b3, byteI_eq, bne_self_eq_false, decide_true, decide_false]
        refine rng_loop s.size (fun j => ⟨fr [(0, ds s), (19, di s.size), (20, di j)], Hp.none⟩) (fun j => ((bytesI s).drop j).all (fun c => decide (placeI c ≠ 0)) = b) (weak0 (by simp (maxSteps:=500000) only [↓vp, vv, ↓reduceIte, simprocAttr, coverS]) (by simp (maxSteps:=500000) only [↓vp, vv, ↓reduceIte, simprocAttr, refsF])) hb (fun j hj he => ?_) (fun he => ?_)
        · have hj' : (j : Int) < s.size := by omega
          have hn := idx_nn j
          have w1 := idx_next (j := j) (by omega)
          obtain ⟨hf, ht⟩ := drop_all (by rw [bytesI_len]; exact hj) he
          rw [bytesI_at] at hf ht
          by_cases a4 : placeI (byteI s j) = 0
          · have e5 : b = false := hf (by simp [a4])
            subst e5
            simp (maxSteps:=500000) only [↓vp, vv, ↓reduceIte, simprocAttr, c113, r113, c113_1, c113_2, c113_3, c113_4, c113_5, TP, selPlace, hj', hn, Int.toNat_natCast, byteI_eq, a4, w1, Pu, decide_true, decide_false]
          · have a5 : (placeI (byteI s j) == 0) = false := beq_false_of_ne a4
            simp (maxSteps:=500000) only [↓vp, vv, ↓reduceIte, simprocAttr, c113, r113, c113_1, c113_2, c113_3, c113_4, c113_5, TP, selPlace, hj', hn, Int.toNat_natCast, byteI_eq, a5, w1, decide_true, decide_false]
            exact rng_next hj (weak0 (by simp (maxSteps:=500000) only [↓vp, vv, ↓reduceIte, simprocAttr, coverS, w1]) (by simp (maxSteps:=500000) only [↓vp, vv, ↓reduceIte, simprocAttr, refsF])) (ht (by simp [a4]))
        · have e5 : b = true := drop_all_end (by rw [bytesI_len]; exact he)
          subst e5
          simp (maxSteps:=500000) only [↓vp, vv, ↓reduceIte, simprocAttr, c113, r113, c113_1, c113_2, c113_3, c113_4, c113_5, TP, selPlace, Int.lt_irrefl, Pu, decide_true, decide_false]
      · have a5 : (placeI (byteI s 0) != 1) = true := by simp [a3]
        simp (maxSteps:=500000) only [↓vp, vv, ↓reduceIte, simprocAttr, c113, r113, c113_1, c113_2, c113_3, c113_4, c113_5, TP, selPlace, a1, a2, a3, a5, b1, b2, b3, byteI_eq, nameB, Pu, decide_true, decide_false]
theorem tdiv_pos (a b : Int) (hb : 1 ≤ b) (h : 0 ≤ a.tmod b) : a.tdiv b = a / b ∧ a.tmod b = a % b := by
  have e := Int.tmod_add_mul_tdiv a b
  have l := Int.tmod_lt_of_pos a (show 0 < b by omega)
  have := (Int.ediv_emod_unique (a := a) (b := b) (r := a.tmod b) (q := a.tdiv b) (by omega)).2 ⟨e, h, l⟩
  exact ⟨this.1.symm, this.2.symm⟩
theorem tdiv_neg (a b : Int) (hb : 1 ≤ b) (h : a.tmod b < 0) : a.tdiv b - 1 = a / b ∧ a.tmod b + b = a % b := by
  have e := Int.tmod_add_mul_tdiv a b
  have l := Int.lt_tmod_of_pos a (show 0 < b by omega)
  have := (Int.ediv_emod_unique (a := a) (b := b) (r := a.tmod b + b) (q := a.tdiv b - 1) (by omega)).2 ⟨by rw [Int.mul_sub]; omega, by omega, by omega⟩
  exact ⟨this.1.symm, this.2.symm⟩
theorem tdiv_bd (a b : Int) (ha : -2305843009213693952 ≤ a) (ha' : a ≤ 2305843009213693952) :
    -2305843009213693952 ≤ a.tdiv b ∧ a.tdiv b ≤ 2305843009213693952 := by
  have h : (a.tdiv b).natAbs = a.natAbs / b.natAbs := Int.natAbs_tdiv a b
  have h2 : a.natAbs / b.natAbs ≤ a.natAbs := Nat.div_le_self _ _
  generalize a.natAbs / b.natAbs = q at h h2
  generalize a.tdiv b = x at *
  omega
def hf (a b : Int) : Int := if b ≤ 2 * (a % b) then a / b + 1 else a / b
theorem mul_rng {e d E D1 D2 : Int} (e0 : 0 ≤ e) (e1 : e ≤ E) (d1 : D1 ≤ d) (d2 : d ≤ D2) (h1 : D1 ≤ 0) (h2 : 0 ≤ D2) : E * D1 ≤ e * d ∧ e * d ≤ E * D2 :=
  ⟨Int.le_trans (Int.mul_le_mul_of_nonpos_right e1 h1) (Int.mul_le_mul_of_nonneg_left d1 e0), Int.le_trans (Int.mul_le_mul_of_nonneg_left d2 e0) (Int.mul_le_mul_of_nonneg_right e1 h2)⟩
theorem hf_rng {a b : Int} (hb : 0 < b) {L U : Int} (h1 : b * L ≤ a) (h2 : a ≤ b * U) : L ≤ hf a b ∧ hf a b ≤ U := by
  have e := Int.mul_ediv_add_emod a b
  have m0 := Int.emod_nonneg a (show b ≠ 0 by omega)
  have m1 := Int.emod_lt_of_pos a hb
  have l1 : L ≤ a / b := (Int.le_ediv_iff_mul_le hb).2 (by rw [Int.mul_comm]; exact h1)
  have l2 : a / b ≤ U := Int.ediv_le_of_le_mul hb (by rw [Int.mul_comm]; exact h2)
  unfold hf
  split
  · refine ⟨by omega, ?_⟩
    rcases Int.lt_or_eq_of_le l2 with h | h
    · omega
    · rw [h] at e; omega
  · exact ⟨l1, l2⟩
def fHeat (ex t : Int) : Int := 1000000 - hf (ex * (t - 150)) 10
def fPress (co p : Int) : Int := 1000000 + hf (co * p) 1000
def fac (ex co t p : Int) : Int := hf (fHeat ex t * fPress co p) 1000000
def cdOk (t p : Int) : Prop := (-400 ≤ t ∧ t ≤ 1000) ∧ (0 ≤ p ∧ p ≤ 20000)
instance (t p : Int) : Decidable (cdOk t p) := by unfold cdOk; infer_instance
theorem heat_bd {ex t : Int} (h : 0 ≤ ex ∧ ex ≤ 2000) (ht : -400 ≤ t ∧ t ≤ 1000) : (-1100000 ≤ ex * (t - 150) ∧ ex * (t - 150) ≤ 1700000) ∧ (-110000 ≤ hf (ex * (t - 150)) 10 ∧ hf (ex * (t - 150)) 10 ≤ 170000) ∧ (830000 ≤ fHeat ex t ∧ fHeat ex t ≤ 1110000) := by
  have h1 := mul_rng (E := 2000) (D1 := -550) (D2 := 850) h.1 h.2 (show -550 ≤ t - 150 by omega) (by omega) (by omega) (by omega)
  have h2 := hf_rng (a := ex * (t - 150)) (b := 10) (by omega) (L := -110000) (U := 170000) (by omega) (by omega)
  refine ⟨by omega, h2, ?_⟩
  unfold fHeat
  omega
theorem press_bd {co p : Int} (h : 0 ≤ co ∧ co ≤ 5000) (hp : 0 ≤ p ∧ p ≤ 20000) : (0 ≤ co * p ∧ co * p ≤ 100000000) ∧ (0 ≤ hf (co * p) 1000 ∧ hf (co * p) 1000 ≤ 100000) ∧ (1000000 ≤ fPress co p ∧ fPress co p ≤ 1100000) := by
  have h1 := mul_rng (E := 5000) (D1 := 0) (D2 := 20000) h.1 h.2 hp.1 hp.2 (by omega) (by omega)
  have h2 := hf_rng (a := co * p) (b := 1000) (by omega) (L := 0) (U := 100000) (by omega) (by omega)
  refine ⟨by omega, h2, ?_⟩
  unfold fPress
  omega
theorem fac_bd {ex co t p : Int} (he : 0 ≤ ex ∧ ex ≤ 2000) (hc : 0 ≤ co ∧ co ≤ 5000) (h : cdOk t p) : (0 ≤ fHeat ex t * fPress co p ∧ fHeat ex t * fPress co p ≤ 1221000000000) ∧ (830000 ≤ fac ex co t p ∧ fac ex co t p ≤ 1221000) := by
  have a := (heat_bd he h.1).2.2
  have b := (press_bd hc h.2).2.2
  have h1 := mul_rng (E := 1110000) (D1 := 0) (D2 := 1100000) (show 0 ≤ fHeat ex t by omega) a.2 (show 0 ≤ fPress co p by omega) b.2 (by omega) (by omega)
  have h2 : 830000 * 1000000 ≤ fHeat ex t * fPress co p := Int.le_trans (Int.mul_le_mul_of_nonneg_right a.1 (by omega)) (Int.mul_le_mul_of_nonneg_left b.1 (by omega))
  have h3 := hf_rng (a := fHeat ex t * fPress co p) (b := 1000000) (by omega) (L := 830000) (U := 1221000) (by omega) (by omega)
  exact ⟨by omega, h3⟩
def vfOk (g f : Int) : Prop := (0 ≤ g ∧ g ≤ 1099511627776) ∧ (1 ≤ f ∧ f ≤ 2000000)
instance (g f : Int) : Decidable (vfOk g f) := by unfold vfOk; infer_instance
theorem vf_mul {g f : Int} (h : vfOk g f) : 0 ≤ g * f ∧ g * f ≤ 2199023255552000000 := by
  have := mul_rng (E := 1099511627776) (D1 := 0) (D2 := 2000000) h.1.1 h.1.2 (show 0 ≤ f by have := h.2; omega) h.2.2 (by omega) (by omega)
  omega
def mLit (p f n : Int) : Int := n * f / (100 * p)
theorem mLit_le {p f n n' : Int} (p1 : 1 ≤ p) (f1 : 0 ≤ f) (h : n ≤ n') : mLit p f n ≤ mLit p f n' :=
  Int.ediv_le_ediv (by omega) (Int.mul_le_mul_of_nonneg_right h f1)
structure Mtr where
  pl : Int
  bits : Int
  fac : Int
def Mtr.row (m : Mtr) : List D := [di m.pl, di m.bits, di m.fac]
def Mtr.enc (m : Mtr) : D := .agg m.row
structure Cnt where
  last : Int
  pul : Int
theorem Cnt.ext_iff2 (a b : Cnt) : (a.last = b.last ∧ a.pul = b.pul) ↔ a = b := ⟨fun h => by cases a; cases b; simp only at h; obtain ⟨h0, h1⟩ := h; simp only [h0, h1], fun h => by cases h; exact ⟨rfl, rfl⟩⟩
instance : DecidableEq Cnt := fun a b => decidable_of_iff _ (Cnt.ext_iff2 a b)
def Cnt.row (c : Cnt) : List D := [di c.last, di c.pul]
def Cnt.enc (c : Cnt) : D := .agg c.row
structure Cnd where
  te : Int
  pr : Int
theorem Cnd.ext_iff2 (a b : Cnd) : (a.te = b.te ∧ a.pr = b.pr) ↔ a = b := ⟨fun h => by cases a; cases b; simp only at h; obtain ⟨h0, h1⟩ := h; simp only [h0, h1], fun h => by cases h; exact ⟨rfl, rfl⟩⟩
instance : DecidableEq Cnd := fun a b => decidable_of_iff _ (Cnd.ext_iff2 a b)
def Cnd.row (c : Cnd) : List D := [di c.te, di c.pr]
def Cnd.enc (c : Cnd) : D := .agg c.row
structure Prd where
  nm : ByteArray
  de : Int
  ex : Int
  co : Int
  fr : Int
def Prd.row (p : Prd) : List D := [ds p.nm, di p.de, di p.ex, di p.co, di p.fr]
def Prd.enc (p : Prd) : D := .agg p.row
structure Run where
  vol : Int
  rest : Int
theorem Run.ext_iff2 (a b : Run) : (a.vol = b.vol ∧ a.rest = b.rest) ↔ a = b := ⟨fun h => by cases a; cases b; simp only at h; obtain ⟨h0, h1⟩ := h; simp only [h0, h1], fun h => by cases h; exact ⟨rfl, rfl⟩⟩
instance : DecidableEq Run := fun a b => decidable_of_iff _ (Run.ext_iff2 a b)
def Run.row (c : Run) : List D := [di c.vol, di c.rest]
def Run.enc (c : Run) : D := .agg c.row
structure Tic where
  ba : Int
  fl : Int
  fp : Int
  tl : Int
  tp : Int
  te : Int
  pr : Int
  vol : Int
theorem Tic.ext_iff2 (a b : Tic) : (a.ba = b.ba ∧ a.fl = b.fl ∧ a.fp = b.fp ∧ a.tl = b.tl ∧ a.tp = b.tp ∧ a.te = b.te ∧ a.pr = b.pr ∧ a.vol = b.vol) ↔ a = b := ⟨fun h => by cases a; cases b; simp only at h; obtain ⟨h0, h1, h2, h3, h4, h5, h6, h7⟩ := h; simp only [h0, h1, h2, h3, h4, h5, h6, h7], fun h => by cases h; exact ⟨rfl, rfl, rfl, rfl, rfl, rfl, rfl, rfl⟩⟩
instance : DecidableEq Tic := fun a b => decidable_of_iff _ (Tic.ext_iff2 a b)
def Tic.row (t : Tic) : List D := [di t.ba, di t.fl, di t.fp, di t.tl, di t.tp, di t.te, di t.pr, di t.vol]
def Tic.enc (t : Tic) : D := .agg t.row
def Tic.zero : Tic := ⟨0, 0, 0, 0, 0, 0, 0, 0⟩
structure MtrOk (m : Mtr) : Prop where
  pl : 1 ≤ m.pl ∧ m.pl ≤ 1048576
  bits : m.bits = 16 ∨ m.bits = 32
  fac : 50000 ≤ m.fac ∧ m.fac ≤ 200000
instance (m : Mtr) : Decidable (MtrOk m) := decidable_of_iff ((1 ≤ m.pl ∧ m.pl ≤ 1048576) ∧ (m.bits = 16 ∨ m.bits = 32) ∧ (50000 ≤ m.fac ∧ m.fac ≤ 200000)) ⟨fun h => ⟨h.1, h.2.1, h.2.2⟩, fun h => ⟨h.pl, h.bits, h.fac⟩⟩
def mV (m : Mtr) : Bool := decide (MtrOk m)
theorem mV_f {m : Mtr} (h : MtrOk m → False) : mV m = false := decide_eq_false h
theorem mV_t {m : Mtr} (h : MtrOk m) : mV m = true := decide_eq_true h
theorem mV_o {m : Mtr} (h : mV m = true) : MtrOk m := of_decide_eq_true h
def spanI (m : Mtr) : Int := if m.bits = 16 then 65536 else 4294967296
theorem spanI_le (m : Mtr) : 65536 ≤ spanI m ∧ spanI m ≤ 4294967296 := by unfold spanI; split <;> omega
structure CntOk (m : Mtr) (c : Cnt) : Prop where
  last : 0 ≤ c.last ∧ c.last < spanI m
  pul : 0 ≤ c.pul ∧ c.pul ≤ 1099511627776
instance (m : Mtr) (c : Cnt) : Decidable (CntOk m c) := decidable_of_iff ((0 ≤ c.last ∧ c.last < spanI m) ∧ (0 ≤ c.pul ∧ c.pul ≤ 1099511627776)) ⟨fun h => ⟨h.1, h.2⟩, fun h => ⟨h.last, h.pul⟩⟩
def cV (m : Mtr) (c : Cnt) : Bool := decide (CntOk m c)
theorem cV_t {m : Mtr} {c : Cnt} (h : CntOk m c) : cV m c = true := decide_eq_true h
theorem cV_o {m : Mtr} {c : Cnt} (h : cV m c = true) : CntOk m c := of_decide_eq_true h
def litI (m : Mtr) (n : Int) : Int := mLit m.pl m.fac n
def betI (m : Mtr) (a b : Cnt) : Int × Int := if mV m && cV m a && cV m b then (if a.pul ≤ b.pul then (litI m b.pul - litI m a.pul, 0) else (0, 6)) else (0, 9)
theorem lit_bd {m : Mtr} (h : MtrOk m) {n : Int} (h0 : 0 ≤ n) (h1 : n ≤ 1099511627776) : (0 ≤ n * m.fac ∧ n * m.fac ≤ 219902325555200000) ∧ (100 ≤ 100 * m.pl ∧ 100 * m.pl ≤ 104857600) ∧ (0 ≤ litI m n ∧ litI m n ≤ 2199023255552000) := by
  have h2 := h.pl
  have h3 := h.fac
  have m1 := mul_rng (E := 1099511627776) (D1 := 0) (D2 := 200000) h0 h1 (show 0 ≤ m.fac by omega) h3.2 (by omega) (by omega)
  refine ⟨by omega, by omega, Int.ediv_nonneg (by omega) (by omega), Int.ediv_le_of_le_mul (by omega) ?_⟩
  omega
structure PrdOk (p : Prd) : Prop where
  nm : nameB p.nm = true
  de : 400 ≤ p.de ∧ p.de ≤ 1200
  ex : 0 ≤ p.ex ∧ p.ex ≤ 2000
  co : 0 ≤ p.co ∧ p.co ≤ 5000
  fr : 1 ≤ p.fr ∧ p.fr ≤ 2000
instance (p : Prd) : Decidable (PrdOk p) := decidable_of_iff (nameB p.nm = true ∧ (400 ≤ p.de ∧ p.de ≤ 1200) ∧ (0 ≤ p.ex ∧ p.ex ≤ 2000) ∧ (0 ≤ p.co ∧ p.co ≤ 5000) ∧ (1 ≤ p.fr ∧ p.fr ≤ 2000)) ⟨fun h => ⟨h.1, h.2.1, h.2.2.1, h.2.2.2.1, h.2.2.2.2⟩, fun h => ⟨h.nm, h.de, h.ex, h.co, h.fr⟩⟩
def pV (p : Prd) : Bool := decide (PrdOk p)
theorem pV_f {p : Prd} (h : PrdOk p → False) : pV p = false := decide_eq_false h
theorem pV_t {p : Prd} (h : PrdOk p) : pV p = true := decide_eq_true h
theorem pV_o {p : Prd} (h : pV p = true) : PrdOk p := of_decide_eq_true h
def cdV (c : Cnd) : Bool := decide (cdOk c.te c.pr)
theorem cdV_f {c : Cnd} (h : cdOk c.te c.pr → False) : cdV c = false := decide_eq_false h
theorem cdV_t {c : Cnd} (h : cdOk c.te c.pr) : cdV c = true := decide_eq_true h
def facI (p : Prd) (c : Cnd) : Int × Int := if pV p then (if cdV c then (fac p.ex p.co c.te c.pr, 0) else (0, 1)) else (0, 9)
def vfV (g f : Int) : Bool := decide (vfOk g f)
theorem vfV_f {g f : Int} (h : vfOk g f → False) : vfV g f = false := decide_eq_false h
theorem vfV_t {g f : Int} (h : vfOk g f) : vfV g f = true := decide_eq_true h
theorem vfV_o {g f : Int} (h : vfV g f = true) : vfOk g f := of_decide_eq_true h
structure RunOk (r : Run) : Prop where
  vol : 0 ≤ r.vol ∧ r.vol ≤ 1099511627776
  rest : 0 ≤ r.rest ∧ r.rest ≤ 999999
instance (r : Run) : Decidable (RunOk r) := decidable_of_iff ((0 ≤ r.vol ∧ r.vol ≤ 1099511627776) ∧ (0 ≤ r.rest ∧ r.rest ≤ 999999)) ⟨fun h => ⟨h.1, h.2⟩, fun h => ⟨h.vol, h.rest⟩⟩
def rV (r : Run) : Bool := decide (RunOk r)
theorem rV_f {r : Run} (h : RunOk r → False) : rV r = false := decide_eq_false h
theorem rV_t {r : Run} (h : RunOk r) : rV r = true := decide_eq_true h
theorem rV_o {r : Run} (h : rV r = true) : RunOk r := of_decide_eq_true h
def Run.zero : Run := ⟨0, 0⟩
def addI (r : Run) (g f : Int) : Run × Int := if rV r then (if vfV g f then (if r.vol + (g * f + r.rest) / 1000000 ≤ 1099511627776 then (⟨r.vol + (g * f + r.rest) / 1000000, (g * f + r.rest) % 1000000⟩, 0) else (Run.zero, 4)) else (Run.zero, 1)) else (Run.zero, 9)
theorem add_ok {r : Run} {g f : Int} {x : Run} (h : addI r g f = (x, 0)) : RunOk x ∧ r.vol ≤ x.vol := by
  unfold addI at h
  split at h
  · rename_i h1
    split at h
    · rename_i h2
      split at h
      · rename_i h3
        cases h
        have := rV_o h1
        have m := vf_mul (vfV_o h2)
        have a1 := this.vol
        have a2 := this.rest
        refine ⟨⟨⟨?_, h3⟩, ?_, ?_⟩, ?_⟩ <;> dsimp only <;> omega
      · cases h
    · cases h
  · cases h
def begI (m : Mtr) (p : Prd) (b : Int) : Int := if mV m && pV p then (if 0 ≤ b ∧ b < 1000 then 0 else 8) else 9
def ticOf (b : Int) (x y : Cnt) (c : Cnd) (v : Int) : Tic := ⟨b, x.last, x.pul, y.last, y.pul, c.te, c.pr, v⟩
def Tic.fr (t : Tic) : Cnt := ⟨t.fl, t.fp⟩
def Tic.to (t : Tic) : Cnt := ⟨t.tl, t.tp⟩
def Tic.cd (t : Tic) : Cnd := ⟨t.te, t.pr⟩
def stepI (m : Mtr) (p : Prd) (b : Int) (r : Run) (x y : Cnt) (c : Cnd) : Tic × Run × Int :=
  if (betI m x y).2 = 0 then (if (facI p c).2 = 0 then (if (addI r (betI m x y).1 (facI p c).1).2 = 0 then (ticOf b x y c ((addI r (betI m x y).1 (facI p c).1).1.vol - r.vol), (addI r (betI m x y).1 (facI p c).1).1, 0)
    else (Tic.zero, Run.zero, (addI r (betI m x y).1 (facI p c).1).2)) else (Tic.zero, Run.zero, (facI p c).2)) else (Tic.zero, Run.zero, (betI m x y).2)
def chGo (m : Mtr) (p : Prd) (b : Int) (cs : List Cnt) : List Cnd → Nat → Run → List Tic → List Tic × Run × Int
  | [], _, r, out => (out, r, 0)
  | c :: l, i, r, out => if (stepI m p b r (cs.getD i ⟨0, 0⟩) (cs.getD (i + 1) ⟨0, 0⟩) c).2.2 = 0 then chGo m p b cs l (i + 1) (stepI m p b r (cs.getD i ⟨0, 0⟩) (cs.getD (i + 1) ⟨0, 0⟩) c).2.1 (out ++ [(stepI m p b r (cs.getD i ⟨0, 0⟩) (cs.getD (i + 1) ⟨0, 0⟩) c).1])
    else ([], Run.zero, (stepI m p b r (cs.getD i ⟨0, 0⟩) (cs.getD (i + 1) ⟨0, 0⟩) c).2.2)
def chI (m : Mtr) (p : Prd) (b : Int) (cs : List Cnt) (l : List Cnd) : List Tic × Run × Int :=
  if begI m p 0 = 0 ∧ cs.length = l.length + 1 ∧ l.length ≤ 1000 then (if begI m p b = 0 then chGo m p b cs l 0 Run.zero [] else ([], Run.zero, begI m p b)) else ([], Run.zero, 9)
def c56_1 : C := (.seq (.ops true [oP 31 (.ld 3 true (.t 3)), oP 32 (.fa 1 (.t 5)), oA 33 (.ld 1 false (.t 32)) [1], oE 34 (.call 93 [(.t 31), (.t 33)]) [1, 2, 0], oP 35 (.ld 3 true (.t 3)), oP 36 (.fa 1 (.t 4)), oA 37 (.ld 1 false (.t 36)) [5], oE 38 (.call 93 [(.t 35), (.t 37)]) [0, 2, 1, 5, 3, 6, 4], oA 39 (.bin .sub (.t 34) (.t 38)) [4, 6, 5, 0, 2, 1, 7, 3], oA 6 (.mv (.t 39)) [6, 5, 4, 3, 2, 1, 0, 7, 8],
  oA 7 (.mv (cI 0)) [8, 7, 6, 5, 4, 3, 2, 1, 0, 9]]) .ret)
def c56_2 : C := (.seq (.seq (.ops false [oP 26 (.fa 1 (.t 5)), oP 27 (.ld 1 false (.t 26)), oP 28 (.fa 1 (.t 4)), oP 29 (.ld 1 false (.t 28)), oP 30 (.bin .lss (.t 27) (.t 29))]) (.cond (.t 30) (.seq (.ops false [oP 6 (.mv (cI 0)), oP 7 (.mv (cI 6))]) .ret) .skip)) c56_1)
def c56_3 : C := (.seq (.seq (.ops false [oP 23 (.ld 2 true (.t 4)), oP 24 (.ld 2 true (.t 5)), oP 25 (.eqa false [0, 0] (.t 23) (.t 24))]) (.cond (.t 25) (.seq (.ops false [oP 6 (.mv (cI 0)), oP 7 (.mv (cI 0))]) .ret) .skip)) c56_2)
def c56 : C := (.seq (.ops false [oP 3 (.box 3 (.t 0)), oP 4 (.box 2 (.t 1)), oP 5 (.box 2 (.t 2)), oP 6 (.mv (cI 0)), oP 7 (.mv (cI 0))]) (.seq (.seq (.ops false [oP 8 (.ld 3 true (.t 3)), oB 9 (.call 90 [(.t 8)]), oP 10 (.not (.t 9)), oP 11 (.mv (.t 10)), oG 12 11 false (.ld 3 true (.t 3)), oG 13 11 false (.ld 2 true (.t 4)), oD 14 11 false (.call 92 [(.t 12), (.t 13)]) [], oG 15 11 false (.not (.t 14)),
  oP 16 (.pick (.t 11) (cB true) (.t 15)), oP 17 (.mv (.t 16)), oG 18 17 false (.ld 3 true (.t 3)), oG 19 17 false (.ld 2 true (.t 5)), oD 20 17 false (.call 92 [(.t 18), (.t 19)]) [], oG 21 17 false (.not (.t 20)), oP 22 (.pick (.t 17) (cB true) (.t 21))]) (.cond (.t 22) (.seq (.ops false [oP 6 (.mv (cI 0)), oP 7 (.mv (cI 9))]) .ret) .skip)) c56_3))
def r56 : List RV := [(.tmp 6), (.tmp 7)]
theorem c56_ok : ∃ code, Tryd.f56.body = some code ∧ compC Tryd.prog Tryd.f56.ntmps code = some (C.strip c56) := ⟨_, rfl, by kernel_rfl⟩
theorem r56_ok : compRes Tryd.prog Tryd.f56.results.toList = some r56 := by kernel_rfl
theorem f56_ok : fnOk Tryd.prog 56 = true := by kernel_rfl
def c57_1 : C := (.seq (.block 1 (.seq (.ops false [oP 38 (.iaS 1 (.t 34) (.t 36)), oP 39 (.ld 1 false (.t 38)), oP 8 (.mv (.t 39))]) (.ops false [oP 40 (.mv (.t 6)), oP 41 (.mv (.t 8)), oP 42 (.ld 2 true (.t 3)), oP 43 (.callv (.t 41) [(.t 42)]), oP 44 (.bin .mul (.t 40) (.t 43)), oP 6 (.mv (.t 44))]))) (.ops false [oP 45 (.bin .add (.t 36) (cI 1)), oP 36 (.mv (.t 45))]))
def c57_2 : C := (.seq (.ops false [oP 37 (.bin .lss (.t 36) (.t 35))]) (.seq (.cond (.t 37) .skip (.exit 0)) c57_1))
def c57_3 : C := (.seq (.ops false [oP 46 (.mv (.t 6)), oB 47 (.call 96 [(.t 46), (cI 1000000)]), oP 4 (.mv (.t 47)), oP 5 (.mv (cI 0))]) .ret)
def c57_4 : C := (.seq (.ops false [oP 6 (.mv (cI 1))]) (.seq (.seq (.ops false [oP 30 (.ld 5 true (.t 2)), oP 31 (.mkf 94 [(.t 30)] []), oP 32 (.ld 5 true (.t 2)), oP 33 (.mkf 95 [(.t 32)] []), oP 34 (.bsl 1 2 [(.v .nilFunc)] [(0, (.t 31)), (1, (.t 33))]), oP 35 (.len (.t 34)), oP 36 (.mv (cI 0))]) (.block 0 (.loop c57_2))) c57_3))
def c57_5 : C := (.seq (.seq (.ops false [oP 12 (.fa 0 (.t 3)), oP 13 (.ld 1 false (.t 12)), oP 14 (.bin .lss (.t 13) (cI (-400))), oP 15 (.mv (.t 14)), oG 16 15 false (.fa 0 (.t 3)), oG 17 15 false (.ld 1 false (.t 16)), oG 18 15 false (.bin .gtr (.t 17) (cI 1000)), oP 19 (.pick (.t 15) (cB true) (.t 18)), oP 20 (.mv (.t 19)), oG 21 20 false (.fa 1 (.t 3)), oG 22 20 false (.ld 1 false (.t 21)),
  oG 23 20 false (.bin .lss (.t 22) (cI 0)), oP 24 (.pick (.t 20) (cB true) (.t 23)), oP 25 (.mv (.t 24)), oG 26 25 false (.fa 1 (.t 3)), oG 27 25 false (.ld 1 false (.t 26)), oG 28 25 false (.bin .gtr (.t 27) (cI 20000)), oP 29 (.pick (.t 25) (cB true) (.t 28))]) (.cond (.t 29) (.seq (.ops false [oP 4 (.mv (cI 0)), oP 5 (.mv (cI 1))]) .ret) .skip)) c57_4)
def c57 : C := (.seq (.ops false [oP 2 (.box 5 (.t 0)), oP 3 (.box 2 (.t 1)), oP 4 (.mv (cI 0)), oP 5 (.mv (cI 0))]) (.seq (.seq (.ops false [oP 9 (.ld 5 true (.t 2)), oB 10 (.call 91 [(.t 9)]), oP 11 (.not (.t 10))]) (.cond (.t 11) (.seq (.ops false [oP 4 (.mv (cI 0)), oP 5 (.mv (cI 9))]) .ret) .skip)) c57_5))
def r57 : List RV := [(.tmp 4), (.tmp 5)]
theorem c57_ok : ∃ code, Tryd.f57.body = some code ∧ compC Tryd.prog Tryd.f57.ntmps code = some (C.strip c57) := ⟨_, rfl, by kernel_rfl⟩
theorem r57_ok : compRes Tryd.prog Tryd.f57.results.toList = some r57 := by kernel_rfl
theorem f57_ok : fnOk Tryd.prog 57 = true := by kernel_rfl
def c62_1 : C := (.seq (.ops false [oP 52 (.ld 2 true (.t 9)), oS (.st 2 (.t 6) (.t 52)), oP 7 (.mv (cI 0))]) .ret)
def c62_2 : C := (.seq (.ops false [oP 34 (.mv (.t 1)), oP 35 (.mv (.t 2)), oP 36 (.bin .mul (.t 34) (.t 35)), oP 37 (.fa 1 (.t 3)), oP 38 (.ld 1 false (.t 37)), oP 39 (.bin .add (.t 36) (.t 38)), oP 8 (.mv (.t 39))]) (.seq (.ops false [oP 40 (.fa 0 (.t 3)), oP 41 (.ld 1 false (.t 40)), oP 42 (.mv (.t 8)), oP 43 (.bin .quo (.t 42) (cI 1000000)), oP 44 (.bin .add (.t 41) (.t 43)), oP 45 (.mv (.t 8)),
  oP 46 (.bin .rem (.t 45) (cI 1000000)), oP 47 (.bld [(.v (.int .i64 0)), (.v (.int .i64 0))] [(0, (1, (.t 44))), (1, (1, (.t 46)))]), oP 9 (.new [(.v (.int .i64 0)), (.v (.int .i64 0))]), oS (.st 2 (.t 9) (.t 47))]) (.seq (.seq (.ops false [oP 48 (.fa 0 (.t 9)), oP 49 (.ld 1 false (.t 48)), oP 50 (.bin .gtr (.t 49) (cI 1099511627776))]) (.cond (.t 50)
  (.seq (.ops false [oP 51 (.bld [(.v (.int .i64 0)), (.v (.int .i64 0))] []), oS (.st 2 (.t 6) (.t 51)), oP 7 (.mv (cI 4))]) .ret) .skip)) c62_1)))
def c62_3 : C := (.seq (.seq (.ops false [oP 29 (.mv (.t 1)), oP 30 (.mv (.t 2)), oB 31 (.call 97 [(.t 29), (.t 30)]), oP 32 (.not (.t 31))]) (.cond (.t 32) (.seq (.ops false [oP 33 (.bld [(.v (.int .i64 0)), (.v (.int .i64 0))] []), oS (.st 2 (.t 6) (.t 33)), oP 7 (.mv (cI 1))]) .ret) .skip)) c62_2)
def c62 : C := (.seq (.ops false [oP 3 (.box 2 (.t 0)), oP 6 (.new [(.v (.int .i64 0)), (.v (.int .i64 0))]), oP 7 (.mv (cI 0))]) (.seq (.seq (.ops false [oP 10 (.fa 0 (.t 3)), oP 11 (.ld 1 false (.t 10)), oP 12 (.bin .lss (.t 11) (cI 0)), oP 13 (.mv (.t 12)), oG 14 13 false (.fa 0 (.t 3)), oG 15 13 false (.ld 1 false (.t 14)), oG 16 13 false (.bin .gtr (.t 15) (cI 1099511627776)), oP 17 (.pick (.t 13) (cB true)
  (.t 16)), oP 18 (.mv (.t 17)), oG 19 18 false (.fa 1 (.t 3)), oG 20 18 false (.ld 1 false (.t 19)), oG 21 18 false (.bin .lss (.t 20) (cI 0)), oP 22 (.pick (.t 18) (cB true) (.t 21)), oP 23 (.mv (.t 22)), oG 24 23 false (.fa 1 (.t 3)), oG 25 23 false (.ld 1 false (.t 24)), oG 26 23 false (.bin .geq (.t 25) (cI 1000000)), oP 27 (.pick (.t 23) (cB true) (.t 26))]) (.cond (.t 27)
  (.seq (.ops false [oP 28 (.bld [(.v (.int .i64 0)), (.v (.int .i64 0))] []), oS (.st 2 (.t 6) (.t 28)), oP 7 (.mv (cI 9))]) .ret) .skip)) c62_3))
def r62 : List RV := [(.cell 6 2 true), (.tmp 7)]
theorem c62_ok : ∃ code, Tryd.f62.body = some code ∧ compC Tryd.prog Tryd.f62.ntmps code = some (C.strip c62) := ⟨_, rfl, by kernel_rfl⟩
theorem r62_ok : compRes Tryd.prog Tryd.f62.results.toList = some r62 := by kernel_rfl
theorem f62_ok : fnOk Tryd.prog 62 = true := by kernel_rfl
def c90 : C := (.seq (.ops false [oP 1 (.box 3 (.t 0)), oP 2 (.mv (cB false))]) (.seq (.ops false [oP 3 (.fa 0 (.t 1)), oP 4 (.ld 1 false (.t 3)), oP 5 (.bin .geq (.t 4) (cI 1)), oP 6 (.mv (.t 5)), oG 7 6 true (.fa 0 (.t 1)), oG 8 6 true (.ld 1 false (.t 7)), oG 9 6 true (.bin .leq (.t 8) (cI 1048576)), oP 10 (.pick (.t 6) (.t 9) (cB false)), oP 11 (.mv (.t 10)), oG 12 11 true (.fa 1 (.t 1)),
  oG 13 11 true (.ld 1 false (.t 12)), oG 14 11 true (.bin .eql (.t 13) (cI 16)), oG 15 11 true (.mv (.t 14)), oG 16 15 false (.fa 1 (.t 1)), oG 17 15 false (.ld 1 false (.t 16)), oG 18 15 false (.bin .eql (.t 17) (cI 32)), oG 19 11 true (.pick (.t 15) (cB true) (.t 18)), oP 20 (.pick (.t 11) (.t 19) (cB false)), oP 21 (.mv (.t 20)), oG 22 21 true (.fa 2 (.t 1)), oG 23 21 true (.ld 1 false (.t 22)),
  oG 24 21 true (.bin .geq (.t 23) (cI 50000)), oP 25 (.pick (.t 21) (.t 24) (cB false)), oP 26 (.mv (.t 25)), oG 27 26 true (.fa 2 (.t 1)), oG 28 26 true (.ld 1 false (.t 27)), oG 29 26 true (.bin .leq (.t 28) (cI 200000)), oP 30 (.pick (.t 26) (.t 29) (cB false)), oP 2 (.mv (.t 30))]) .ret))
def r90 : List RV := [(.tmp 2)]
theorem c90_ok : ∃ code, Tryd.f90.body = some code ∧ compC Tryd.prog Tryd.f90.ntmps code = some (C.strip c90) := ⟨_, rfl, by kernel_rfl⟩
theorem r90_ok : compRes Tryd.prog Tryd.f90.results.toList = some r90 := by kernel_rfl
theorem f90_ok : fnOk Tryd.prog 90 = true := by kernel_rfl
def c91_1 : C := (.ops false [oP 27 (.bin .add (.t 9) (cI 1)), oP 9 (.mv (.t 27))])
def c91_2 : C := (.seq (.block 1 (.seq (.ops false [oP 11 (.mv (.t 9)), oP 12 (.ixA 4 2 true (.t 8) (.t 9)), oP 5 (.new [(.v (.int .i64 0)), (.v (.int .i64 0))]), oP 4 (.mv (.t 11)), oS (.st 2 (.t 5) (.t 12))]) (.seq (.ops true [oP 13 (.mv (.t 4)), oA 14 (.iaA 4 1 (.t 3) (.t 13)) [0], oA 15 (.ld 1 false (.t 14)) [0, 1], oP 16 (.fa 0 (.t 5)), oA 17 (.ld 1 false (.t 16)) [3], oA 18 (.bin .lss (.t 15) (.t 17)) [3, 1,
  0, 4, 2], oA 19 (.mv (.t 18)) [2, 4, 0, 1, 3, 5], oH 20 19 false (.mv (.t 4)) [5, 3, 1, 0, 4, 2, 6], oH 21 19 false (.iaA 4 1 (.t 3) (.t 20)) [2, 4, 0, 1, 3, 5, 6, 7], oH 22 19 false (.ld 1 false (.t 21)) [7, 5, 3, 1, 0, 4, 2, 6, 8], oH 23 19 false (.fa 1 (.t 5)) [5, 3, 1, 0, 4, 2, 6], oH 24 19 false (.ld 1 false (.t 23)) [2, 4, 0, 1, 3, 5, 6, 10], oH 25 19 false (.bin .gtr (.t 22) (.t 24)) [10,
  8, 2, 4, 0, 1, 3, 5, 7, 6, 11, 9], oA 26 (.pick (.t 19) (cB true) (.t 25)) [9, 11, 7, 8, 10, 5, 3, 1, 0, 4, 2, 12, 6]]) (.cond (.t 26) (.seq (.ops false [oP 2 (.mv (cB false))]) .ret) .skip)))) c91_1)
def c91_3 : C := (.seq (.ops false [oP 10 (.bin .lss (.t 9) (cI 4))]) (.seq (.cond (.t 10) .skip (.exit 0)) c91_2))
def c91_4 : C := (.seq (.ops false [oP 28 (.fa 0 (.t 1)), oP 29 (.ld 1 false (.t 28)), oB 30 (.call 113 [(.t 29)]), oP 2 (.mv (.t 30))]) .ret)
def c91 : C := (.seq (.ops false [oP 1 (.box 5 (.t 0)), oP 2 (.mv (cB false))]) (.seq (.ops false [oP 6 (.ld 5 true (.t 1)), oB 7 (.call 127 [(.t 6)]), oP 3 (.new [(.v (.int .i64 0)), (.v (.int .i64 0)), (.v (.int .i64 0)), (.v (.int .i64 0))]), oS (.st 4 (.t 3) (.t 7))]) (.seq (.seq (.ops false [oP 8 (.ld 8 true (.c (.ip [(.v (.int .i64 400)), (.v (.int .i64 1200)), (.v (.int .i64 0)), (.v (.int .i64 2000)),
  (.v (.int .i64 0)), (.v (.int .i64 5000)), (.v (.int .i64 1)), (.v (.int .i64 2000))]))), oP 9 (.mv (cI 0))]) (.block 0 (.loop c91_3))) c91_4)))
def r91 : List RV := [(.tmp 2)]
theorem c91_ok : ∃ code, Tryd.f91.body = some code ∧ compC Tryd.prog Tryd.f91.ntmps code = some (C.strip c91) := ⟨_, rfl, by kernel_rfl⟩
theorem r91_ok : compRes Tryd.prog Tryd.f91.results.toList = some r91 := by kernel_rfl
theorem f91_ok : fnOk Tryd.prog 91 = true := by kernel_rfl
def c92 : C := (.seq (.ops false [oP 2 (.box 3 (.t 0)), oP 3 (.box 2 (.t 1)), oP 4 (.mv (cB false))]) (.seq (.ops false [oP 5 (.ld 3 true (.t 2)), oP 6 (.fa 0 (.t 3)), oP 7 (.ld 1 false (.t 6)), oB 8 (.call 128 [(.t 5), (.t 7)]), oP 9 (.mv (.t 8)), oG 10 9 true (.fa 1 (.t 3)), oG 11 9 true (.ld 1 false (.t 10)), oG 12 9 true (.bin .geq (.t 11) (cI 0)), oP 13 (.pick (.t 9) (.t 12) (cB false)),
  oP 14 (.mv (.t 13)), oG 15 14 true (.fa 1 (.t 3)), oG 16 14 true (.ld 1 false (.t 15)), oG 17 14 true (.bin .leq (.t 16) (cI 1099511627776)), oP 18 (.pick (.t 14) (.t 17) (cB false)), oP 4 (.mv (.t 18))]) .ret))
def r92 : List RV := [(.tmp 4)]
theorem c92_ok : ∃ code, Tryd.f92.body = some code ∧ compC Tryd.prog Tryd.f92.ntmps code = some (C.strip c92) := ⟨_, rfl, by kernel_rfl⟩
theorem r92_ok : compRes Tryd.prog Tryd.f92.results.toList = some r92 := by kernel_rfl
theorem f92_ok : fnOk Tryd.prog 92 = true := by kernel_rfl
def c93 : C := (.seq (.ops false [oP 2 (.box 3 (.t 0)), oP 4 (.mv (cI 0))]) (.seq (.ops false [oP 5 (.mv (.t 1)), oP 6 (.fa 2 (.t 2)), oP 7 (.ld 1 false (.t 6)), oP 8 (.bin .mul (.t 5) (.t 7)), oP 9 (.fa 0 (.t 2)), oP 10 (.ld 1 false (.t 9)), oP 11 (.bin .mul (cI 100) (.t 10)), oB 12 (.call 129 [(.t 8), (.t 11)]), oP 4 (.mv (.t 12))]) .ret))
def r93 : List RV := [(.tmp 4)]
theorem c93_ok : ∃ code, Tryd.f93.body = some code ∧ compC Tryd.prog Tryd.f93.ntmps code = some (C.strip c93) := ⟨_, rfl, by kernel_rfl⟩
theorem r93_ok : compRes Tryd.prog Tryd.f93.results.toList = some r93 := by kernel_rfl
theorem f93_ok : fnOk Tryd.prog 93 = true := by kernel_rfl
def c94 : C := (.seq (.ops false [oP 2 (.box 5 (.t 0)), oP 3 (.box 2 (.t 1)), oP 4 (.mv (cI 0))]) (.seq (.ops false [oP 5 (.fa 2 (.t 2)), oP 6 (.ld 1 false (.t 5)), oP 7 (.fa 0 (.t 3)), oP 8 (.ld 1 false (.t 7)), oP 9 (.bin .sub (.t 8) (cI 150)), oP 10 (.bin .mul (.t 6) (.t 9)), oB 11 (.call 96 [(.t 10), (cI 10)]), oP 12 (.bin .sub (cI 1000000) (.t 11)), oP 4 (.mv (.t 12))]) .ret))
def r94 : List RV := [(.tmp 4)]
theorem c94_ok : ∃ code, Tryd.f94.body = some code ∧ compC Tryd.prog Tryd.f94.ntmps code = some (C.strip c94) := ⟨_, rfl, by kernel_rfl⟩
theorem r94_ok : compRes Tryd.prog Tryd.f94.results.toList = some r94 := by kernel_rfl
theorem f94_ok : fnOk Tryd.prog 94 = true := by kernel_rfl
def c95 : C := (.seq (.ops false [oP 2 (.box 5 (.t 0)), oP 3 (.box 2 (.t 1)), oP 4 (.mv (cI 0))]) (.seq (.ops false [oP 5 (.fa 3 (.t 2)), oP 6 (.ld 1 false (.t 5)), oP 7 (.fa 1 (.t 3)), oP 8 (.ld 1 false (.t 7)), oP 9 (.bin .mul (.t 6) (.t 8)), oB 10 (.call 96 [(.t 9), (cI 1000)]), oP 11 (.bin .add (cI 1000000) (.t 10)), oP 4 (.mv (.t 11))]) .ret))
def r95 : List RV := [(.tmp 4)]
theorem c95_ok : ∃ code, Tryd.f95.body = some code ∧ compC Tryd.prog Tryd.f95.ntmps code = some (C.strip c95) := ⟨_, rfl, by kernel_rfl⟩
theorem r95_ok : compRes Tryd.prog Tryd.f95.results.toList = some r95 := by kernel_rfl
theorem f95_ok : fnOk Tryd.prog 95 = true := by kernel_rfl
def c96_1 : C := (.seq (.ops false [oP 24 (.mv (.t 5)), oP 4 (.mv (.t 24))]) .ret)
def c96 : C := (.seq (.ops false [oP 4 (.mv (cI 0))]) (.seq (.ops false [oP 9 (.mv (.t 0)), oP 10 (.mv (.t 1)), oB 11 (.call 130 [(.t 9), (.t 10)]), oP 8 (.mv (.t 11)), oP 12 (.ext (.t 8) 0), oP 13 (.ext (.t 8) 1), oP 14 (.ext (.t 8) 2), oP 5 (.mv (.t 12)), oP 6 (.mv (.t 13)), oP 7 (.mv (.t 14))]) (.seq (.seq (.ops false [oP 15 (.mv (.t 7)), oP 16 (.mv (.t 15)), oG 17 16 true (.mv (.t 6)),
  oG 18 16 true (.bin .mul (cI 2) (.t 17)), oG 19 16 true (.mv (.t 1)), oG 20 16 true (.bin .geq (.t 18) (.t 19)), oP 21 (.pick (.t 16) (.t 20) (cB false))]) (.cond (.t 21) (.ops false [oP 22 (.mv (.t 5)), oP 23 (.bin .add (.t 22) (cI 1)), oP 5 (.mv (.t 23))]) .skip)) c96_1)))
def r96 : List RV := [(.tmp 4)]
theorem c96_ok : ∃ code, Tryd.f96.body = some code ∧ compC Tryd.prog Tryd.f96.ntmps code = some (C.strip c96) := ⟨_, rfl, by kernel_rfl⟩
theorem r96_ok : compRes Tryd.prog Tryd.f96.results.toList = some r96 := by kernel_rfl
theorem f96_ok : fnOk Tryd.prog 96 = true := by kernel_rfl
def c97 : C := (.seq (.ops false [oP 4 (.mv (cB false))]) (.seq (.ops false [oP 5 (.mv (.t 0)), oP 6 (.bin .geq (.t 5) (cI 0)), oP 7 (.mv (.t 6)), oG 8 7 true (.mv (.t 0)), oG 9 7 true (.bin .leq (.t 8) (cI 1099511627776)), oP 10 (.pick (.t 7) (.t 9) (cB false)), oP 11 (.mv (.t 10)), oG 12 11 true (.mv (.t 1)), oG 13 11 true (.bin .geq (.t 12) (cI 1)), oP 14 (.pick (.t 11) (.t 13) (cB false)),
  oP 15 (.mv (.t 14)), oG 16 15 true (.mv (.t 1)), oG 17 15 true (.bin .leq (.t 16) (cI 2000000)), oP 18 (.pick (.t 15) (.t 17) (cB false)), oP 4 (.mv (.t 18))]) .ret))
def r97 : List RV := [(.tmp 4)]
theorem c97_ok : ∃ code, Tryd.f97.body = some code ∧ compC Tryd.prog Tryd.f97.ntmps code = some (C.strip c97) := ⟨_, rfl, by kernel_rfl⟩
theorem r97_ok : compRes Tryd.prog Tryd.f97.results.toList = some r97 := by kernel_rfl
theorem f97_ok : fnOk Tryd.prog 97 = true := by kernel_rfl
def c127 : C := (.seq (.ops false [oP 1 (.box 5 (.t 0)), oP 2 (.new [(.v (.int .i64 0)), (.v (.int .i64 0)), (.v (.int .i64 0)), (.v (.int .i64 0))])]) (.seq (.ops false [oP 3 (.fa 1 (.t 1)), oP 4 (.ld 1 false (.t 3)), oP 5 (.fa 2 (.t 1)), oP 6 (.ld 1 false (.t 5)), oP 7 (.fa 3 (.t 1)), oP 8 (.ld 1 false (.t 7)), oP 9 (.fa 4 (.t 1)), oP 10 (.ld 1 false (.t 9)), oP 11 (.bld [(.v (.int .i64 0)), (.v (.int .i64 0)),
  (.v (.int .i64 0)), (.v (.int .i64 0))] [(0, (1, (.t 4))), (1, (1, (.t 6))), (2, (1, (.t 8))), (3, (1, (.t 10)))]), oS (.st 4 (.t 2) (.t 11))]) .ret))
def r127 : List RV := [(.cell 2 4 true)]
theorem c127_ok : ∃ code, Tryd.f127.body = some code ∧ compC Tryd.prog Tryd.f127.ntmps code = some (C.strip c127) := ⟨_, rfl, by kernel_rfl⟩
theorem r127_ok : compRes Tryd.prog Tryd.f127.results.toList = some r127 := by kernel_rfl
theorem f127_ok : fnOk Tryd.prog 127 = true := by kernel_rfl
def c128 : C := (.seq (.ops false [oP 2 (.box 3 (.t 0)), oP 4 (.mv (cB false))]) (.seq (.ops false [oP 5 (.mv (.t 1)), oP 6 (.bin .geq (.t 5) (cI 0)), oP 7 (.mv (.t 6)), oG 8 7 true (.mv (.t 1)), oG 9 7 true (.fa 1 (.t 2)), oG 10 7 true (.ld 1 false (.t 9)), oD 11 7 true (.call 150 [(.t 10)]) [], oG 12 7 true (.bin .lss (.t 8) (.t 11)), oP 13 (.pick (.t 7) (.t 12) (cB false)), oP 4 (.mv (.t 13))]) .ret))
def r128 : List RV := [(.tmp 4)]
theorem c128_ok : ∃ code, Tryd.f128.body = some code ∧ compC Tryd.prog Tryd.f128.ntmps code = some (C.strip c128) := ⟨_, rfl, by kernel_rfl⟩
theorem r128_ok : compRes Tryd.prog Tryd.f128.results.toList = some r128 := by kernel_rfl
theorem f128_ok : fnOk Tryd.prog 128 = true := by kernel_rfl
def c129 : C := (.seq (.ops false [oP 4 (.mv (cI 0))]) (.seq (.ops false [oP 9 (.mv (.t 0)), oP 10 (.mv (.t 1)), oB 11 (.call 130 [(.t 9), (.t 10)]), oP 8 (.mv (.t 11)), oP 12 (.ext (.t 8) 0), oP 13 (.ext (.t 8) 1), oP 14 (.ext (.t 8) 2), oP 5 (.mv (.t 12)), oP 6 (.mv (.t 13)), oP 7 (.mv (.t 14))]) (.seq (.ops false [oP 15 (.mv (.t 5)), oP 4 (.mv (.t 15))]) .ret)))
def r129 : List RV := [(.tmp 4)]
theorem c129_ok : ∃ code, Tryd.f129.body = some code ∧ compC Tryd.prog Tryd.f129.ntmps code = some (C.strip c129) := ⟨_, rfl, by kernel_rfl⟩
theorem r129_ok : compRes Tryd.prog Tryd.f129.results.toList = some r129 := by kernel_rfl
theorem f129_ok : fnOk Tryd.prog 129 = true := by kernel_rfl
def c130_1 : C := (.seq (.ops false [oP 36 (.mv (.t 7)), oP 37 (.mv (.t 8)), oP 4 (.mv (.t 36)), oP 5 (.mv (.t 37)), oP 6 (.mv (cB true))]) .ret)
def c130_2 : C := (.seq (.ops true [oP 23 (.mv (.t 0)), oP 24 (.mv (.t 1)), oA 25 (.bin .quo (.t 23) (.t 24)) [1, 0], oP 26 (.mv (.t 0)), oP 27 (.mv (.t 1)), oA 28 (.bin .rem (.t 26) (.t 27)) [4, 3], oA 7 (.mv (.t 25)) [1, 0, 2], oA 8 (.mv (.t 28)) [4, 3, 2, 1, 0, 6, 5]]) (.seq (.seq (.ops false [oP 29 (.mv (.t 8)), oP 30 (.bin .lss (.t 29) (cI 0))]) (.cond (.t 30) (.ops false [oP 31 (.mv (.t 7)),
  oP 32 (.bin .sub (.t 31) (cI 1)), oP 33 (.mv (.t 8)), oP 34 (.mv (.t 1)), oP 35 (.bin .add (.t 33) (.t 34)), oP 7 (.mv (.t 32)), oP 8 (.mv (.t 35))]) .skip)) c130_1))
def c130 : C := (.seq (.ops false [oP 4 (.mv (cI 0)), oP 5 (.mv (cI 0)), oP 6 (.mv (cB false))]) (.seq (.seq (.ops false [oP 9 (.mv (.t 1)), oP 10 (.bin .lss (.t 9) (cI 1)), oP 11 (.mv (.t 10)), oG 12 11 false (.mv (.t 1)), oG 13 11 false (.bin .gtr (.t 12) (cI 1099511627776)), oP 14 (.pick (.t 11) (cB true) (.t 13)), oP 15 (.mv (.t 14)), oG 16 15 false (.mv (.t 0)), oG 17 15 false (.bin .lss (.t 16)
  (cI (-2305843009213693952))), oP 18 (.pick (.t 15) (cB true) (.t 17)), oP 19 (.mv (.t 18)), oG 20 19 false (.mv (.t 0)), oG 21 19 false (.bin .gtr (.t 20) (cI 2305843009213693952)), oP 22 (.pick (.t 19) (cB true) (.t 21))]) (.cond (.t 22) (.seq (.ops false [oP 4 (.mv (cI 0)), oP 5 (.mv (cI 0)), oP 6 (.mv (cB false))]) .ret) .skip)) c130_2))
def r130 : List RV := [(.tmp 4), (.tmp 5), (.tmp 6)]
theorem c130_ok : ∃ code, Tryd.f130.body = some code ∧ compC Tryd.prog Tryd.f130.ntmps code = some (C.strip c130) := ⟨_, rfl, by kernel_rfl⟩
theorem r130_ok : compRes Tryd.prog Tryd.f130.results.toList = some r130 := by kernel_rfl
theorem f130_ok : fnOk Tryd.prog 130 = true := by kernel_rfl
def c150 : C := (.seq (.ops false [oP 2 (.mv (cI 0))]) (.seq (.ops false [oP 3 (.mv (.t 0)), oP 4 (.cvi .u64 (.t 3)), oP 5 (.bin .shl (.c (.v (.int .u64 1))) (.t 4)), oP 6 (.cvi .i64 (.t 5)), oP 2 (.mv (.t 6))]) .ret))
def r150 : List RV := [(.tmp 2)]
theorem c150_ok : ∃ code, Tryd.f150.body = some code ∧ compC Tryd.prog Tryd.f150.ntmps code = some (C.strip c150) := ⟨_, rfl, by kernel_rfl⟩
theorem r150_ok : compRes Tryd.prog Tryd.f150.results.toList = some r150 := by kernel_rfl
theorem f150_ok : fnOk Tryd.prog 150 = true := by kernel_rfl
end Go.Proofs.YtehmmnnmkapfeaaDoor
