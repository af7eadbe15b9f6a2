/- TicketMade: Vt Vu CodeS GF Vw CodeN Nm CmL. -/
import Derived.Test.YtehmmnnmkapfeaaDoorCm3
import Derived.Test.YtehmmnnmkapfeaaDoorProg
set_option linter.defProp false
set_option linter.unusedSimpArgs false
set_option linter.unusedVariables false
set_option maxRecDepth 100000

/- Rows of tables: pure functions; functions that read from a source. -/
/- Rows of tables: pure functions; functions that read from a source. -/
namespace Go.Proofs.YtehmmnnmkapfeaaDoor
open Go
theorem mixed : Tryd.prog.follows .mixedOrders = true := by kernel_rfl
abbrev InI (n : Int) : Prop := -9223372036854775808 ≤ n ∧ n ≤ 9223372036854775807
structure SrcOk (L : List (List D)) (at' : Int) : Prop where
  lo : 0 ≤ at'
  hi : at' ≤ L.length
  len : (L.length : Int) ≤ 2000
  ints : ∃ ns : List Int, L = ns.map (fun n => [di n]) ∧ ∀ n ∈ ns, InI n
def sE (L : List (List D)) (at' : Int) : En := ⟨0, 2, [[.sl L, di at']]⟩
def intsOf : List (List D) → Option (List Int)
  | [] => some []
  | [.v (.int .i64 n)] :: l => match intsOf l with
    | some ns => some (n :: ns)
    | Option.none => Option.none
  | _ => Option.none
theorem intsOf_map (ns : List Int) : intsOf (ns.map fun n => [di n]) = some ns := by
  induction ns with
  | nil => rfl
  | cons n ns ih => rw [List.map_cons, intsOf, ih]
theorem intsOf_eq : ∀ {l : List (List D)} {ns : List Int}, intsOf l = some ns → l = ns.map (fun n => [di n])
  | [], ns, h => by rw [intsOf] at h; cases h; rfl
  | [.v (.int .i64 n)] :: l, ns, h => by
    rw [intsOf] at h
    split at h
    · rename_i ms hm
      cases h
      rw [List.map_cons, ← intsOf_eq hm]
    · cases h
def strsOf : List (List D) → Option (List ByteArray)
  | [] => some []
  | [.v (.string n)] :: l => match strsOf l with
    | some ns => some (n :: ns)
    | Option.none => Option.none
  | _ => Option.none
theorem strsOf_eq : ∀ {l : List (List D)} {ns : List ByteArray}, strsOf l = some ns → l = ns.map (fun n => [ds n])
  | [], ns, h => by rw [strsOf] at h; cases h; rfl
  | [.v (.string n)] :: l, ns, h => by
    rw [strsOf] at h
    split at h
    · rename_i ms hm
      cases h
      rw [List.map_cons, ← strsOf_eq hm]
    · cases h
def SrcR {α : Type} (i : Nm) (L : List (List D)) (post : α → Prop) (val : α → D) : D → Hp → Prop := fun v H' => ∃ at' a, SrcOk L at' ∧ post a ∧ v = val a ∧ H' = Hp.none.put i (sE L at')
abbrev SA (L : List (List D)) := { at' : Int // SrcOk L at' }
theorem sa_ok {L : List (List D)} (a : SA L) : SrcOk L a.1 = True := eq_true a.2
theorem SrcR_all {α : Type} (i : Nm) (L : List (List D)) (post : α → Prop) (val : α → D) (K : D → Hp → Prop) : (∀ v H', SrcR i L post val v H' → K v H') = ∀ (at' : SA L) (a : α), post a → K (val a) (Hp.none.put i (sE L at'.1)) :=
  propext ⟨fun h at' a h2 => h _ _ ⟨at'.1, a, at'.2, h2, rfl, rfl⟩, fun h v H' ⟨at', a, h1, h2, e1, e2⟩ => by rw [e1, e2]; exact h ⟨at', h1⟩ a h2⟩
theorem tc_row {P : Program} {f : FuncId} {r : List D → Hp → Nm → Option (Prop × (D → Hp → Prop))} {T : Tbl} (hf : fnOk P f = true) (hr : ∀ args Hs nn pre R, r args Hs nn = some (pre, R) → pre → (∃ v H', R v H') ∧ CallsA P f args Hs nn R) (h : TblOk P T) : TblOk P (tc f r T) := fun f' args Hs nn pre R hT => by
  rw [tc_at] at hT
  split at hT
  · rename_i e
    subst e
    exact ⟨hf, hr args Hs nn pre R hT⟩
  · exact h f' args Hs nn pre R hT
theorem nm1 (i : Nm) (t : Nat) : (i = (i.1 + 1, t)) = False := eq_false fun h => by have := congrArg Prod.fst h; dsimp only at this; omega
theorem nm2 (i : Nm) (t : Nat) : ((i.1 + 1, t) = i) = False := eq_false fun h => by have := congrArg Prod.fst h; dsimp only at this; omega
theorem forall_nil {α : Type} (p : α → Prop) : (∀ x, x ∈ ([] : List α) → p x) = True := eq_true fun x h => by cases h
theorem bq_t (b : Bool) : (b == true) = b := by cases b <;> rfl
theorem bq_f (b : Bool) : (b == false) = !b := by cases b <;> rfl
theorem tq_b (b : Bool) : (true == b) = b := by cases b <;> rfl
theorem fq_b (b : Bool) : (false == b) = !b := by cases b <;> rfl
theorem weak_eq {J : List Nm} {F : Fr} {H H' : Hp} (ks js : List Nm) (l : List (Nat × D)) (h1 : coverS F H ks l) (h2 : refsF js l = true) (h3 : ClosedH (H.kills ks) js js) (h4 : ∀ i ∈ J, i ∈ js) (h5 : (H.kills ks).restr js = H') : Weak J ⟨F, H⟩ ⟨fr l, H'⟩ := h5 ▸ weak_to ks js l h1 h2 h3 h4
def rowPu (sel : List D → Option (Prop × D)) : List D → Hp → Nm → Option (Prop × (D → Hp → Prop)) := fun args Hs nn =>
  match sel args with
  | some (pre, d) => some (Hs = Hp.none ∧ pre, Pu d Hp.none)
  | Option.none => Option.none
theorem tc_pu {P : Program} {f : FuncId} {sel : List D → Option (Prop × D)} {T : Tbl} (hf : fnOk P f = true) (h : ∀ args pre d, sel args = some (pre, d) → pre → ∀ nn, CallsA P f args Hp.none nn (Pu d Hp.none)) (hT : TblOk P T) : TblOk P (tc f (rowPu sel) T) :=
  tc_row hf (fun args Hs nn pre R hr hp => by
    unfold rowPu at hr
    split at hr
    · rename_i pre' d hs
      cases hr
      obtain ⟨rfl, hp⟩ := hp
      exact ⟨⟨d, Hp.none, rfl, rfl⟩, h args pre' d hs hp nn⟩
    · cases hr) hT
def PuE {α : Type} (post : α → Prop) (val : α → D) (Hs : Hp) : D → Hp → Prop := fun v H' => ∃ a, post a ∧ v = val a ∧ H' = Hs
theorem PuE_all {α : Type} (post : α → Prop) (val : α → D) (Hs : Hp) (K : D → Hp → Prop) : (∀ v H', PuE post val Hs v H' → K v H') = ∀ a, post a → K (val a) Hs :=
  propext ⟨fun h a h1 => h _ _ ⟨a, h1, rfl, rfl⟩, fun h v H' ⟨a, h1, e1, e2⟩ => by rw [e1, e2]; exact h a h1⟩
def rowPuE {α : Type} (sel : List D → Option (Prop × (α → Prop))) (val : α → D) : List D → Hp → Nm → Option (Prop × (D → Hp → Prop)) := fun args Hs nn =>
  match sel args with
  | some (pre, post) => some (Hs = Hp.none ∧ pre, PuE post val Hp.none)
  | Option.none => Option.none
def rowSrc {α : Type} (sel : List D → Option (Prop × (α → Prop))) (val : α → D) : List D → Hp → Nm → Option (Prop × (D → Hp → Prop)) := fun args Hs nn =>
  match args with
  | .ptr i g r c :: args =>
    match sel args, Hs i with
    | some (pre, post), some ⟨_, _, [[.sl L, .v (.int .i64 at')]]⟩ => some ((Hs = Hp.none.put i (sE L at') ∧ g = 0 ∧ r = 0 ∧ c = 0) ∧ SrcOk L at' ∧ pre, SrcR i L post val)
    | _, _ => Option.none
  | _ => Option.none
def SrcC {α : Type} (P : Program) (f : FuncId) (args : List D) (post : α → Prop) (val : α → D) : Prop := ∀ i L at' nn, SrcOk L at' → CallsA P f (.ptr i 0 0 0 :: args) (Hp.none.put i (sE L at')) nn (SrcR i L post val)
theorem tc_src {P : Program} {f : FuncId} {α : Type} {sel : List D → Option (Prop × (α → Prop))} {val : α → D} {T : Tbl} (hf : fnOk P f = true) (h : ∀ args pre post, sel args = some (pre, post) → pre → (∃ a, post a) ∧ SrcC P f args post val) (hT : TblOk P T) : TblOk P (tc f (rowSrc sel val) T) :=
  tc_row hf (fun args Hs nn pre R hr hp => by
    unfold rowSrc at hr
    split at hr
    · rename_i i g r c args
      split at hr
      · rename_i pre' post g' sz L at' hs hH
        cases hr
        obtain ⟨⟨rfl, rfl, rfl, rfl⟩, ho, hp⟩ := hp
        obtain ⟨⟨a, ha⟩, hc⟩ := h args pre' post hs hp
        exact ⟨⟨val a, _, at', a, ho, ha, rfl, rfl⟩, hc i L at' nn ho⟩
      · cases hr
    · cases hr) hT
def vp0 := And.intro @vc_skip (And.intro @vc_opsD (And.intro @vc_opsL (And.intro @vc_seq (And.intro @vc_cond (And.intro @vc_block (And.intro @vc_exit (And.intro @vc_ret (And.intro @runL_n (And.intro @runL_c (And.intro @runD_n (And.intro @runD_c (And.intro @KL_at (And.intro @KD_at (And.intro @run1_at (And.intro @thenQ_n (And.intro @thenQ_e (And.intro @thenQ_r (And.intro @blockQ_n (And.intro @blockQ_e (And.intro @blockQ_r (And.intro @loopQ_n (And.intro @loopQ_e (And.intro @loopQ_r (And.intro @finQ_n (And.intro @finQ_r (And.intro @Pu_all (And.intro @SrcR_all (@PuE_all))))))))))))))))))))))))))))
def vp := And.intro vp0 (And.intro @vc_opsF (And.intro @runF_n (And.intro @runF_f (And.intro @runF_t (And.intro @KF_at (And.intro @vc_opsG (And.intro @runDG_n (And.intro @runDG_f (And.intro @runDG_t (And.intro @KG_at (And.intro @sGQ_s (And.intro @runKCQ_n (And.intro @runKCQ_s @runKDQ_s)))))))))))))
def v1 := And.intro @guardD.eq_1 (And.intro @guardD.eq_2 (And.intro @callee.eq_1 (And.intro @callee.eq_2 (And.intro @callee.eq_3 (And.intro @callRun.eq_1 (And.intro @callRun1.eq_1 (And.intro @callRun2.eq_1 (And.intro @callRun3_at (And.intro @sO_s (And.intro @sC_s (And.intro @sC_n (And.intro @sG_s (And.intro @sT_s (And.intro @sB_v (And.intro @ite_vb (And.intro @List.length_map.{0,0} (And.intro @List.length_append.{0} (And.intro @List.isEmpty_nil.{0} (And.intro @List.isEmpty_cons.{0} (And.intro @D.flat.eq_1 (And.intro @D.flat.eq_2 (And.intro @D.flat.eq_3 (And.intro @D.flat.eq_4 (And.intro @D.flat.eq_5 (And.intro @flatL.eq_1 (And.intro @flatL.eq_2 (And.intro @eff.eq_1 (And.intro @eff.eq_2 (And.intro @eff.eq_3 (And.intro @eff.eq_4 (And.intro @eff.eq_5 (And.intro @eff.eq_6 (And.intro @eff.eq_7 (And.intro @eff.eq_8 (And.intro @eff.eq_9 (And.intro @eff.eq_10 (And.intro @eff.eq_11 (And.intro @eff.eq_12 (@eff.eq_13)))))))))))))))))))))))))))))))))))))))
def v2 := And.intro @eff.eq_14 (And.intro @eff.eq_15 (And.intro @eff.eq_16 (And.intro @eff.eq_17 (And.intro @eff.eq_18 (And.intro @eff.eq_19 (And.intro @eff.eq_20 (And.intro @eff.eq_21 (And.intro @eff.eq_22 (And.intro @eff.eq_23 (And.intro @eff.eq_24 (And.intro @eff.eq_25 (And.intro @eff.eq_26 (And.intro @eff.eq_27 (And.intro @eff.eq_28 (And.intro @eff.eq_29 (And.intro @eff.eq_30 (And.intro @eff.eq_31 (And.intro @eff.eq_32 (And.intro @Opd.ev.eq_1 (And.intro @Opd.ev.eq_2 (And.intro @mapEv.eq_1 (And.intro @mapEv.eq_2 (And.intro @putF_at (And.intro @putF_no (And.intro @arg_at (And.intro @arg_no (And.intro @fr_at (And.intro @fr_no (And.intro @hput_at (And.intro @hno_at (And.intro @hput_put (And.intro @Out.pure.eq_1 (And.intro @Hp.puto.eq_1 (And.intro @Hp.puto.eq_2 (And.intro @wid.eq_1 (And.intro @wid.eq_2 (And.intro @past.eq_1 (And.intro @past.eq_2 (@chk.eq_1)))))))))))))))))))))))))))))))))))))))
def v3 := And.intro @chk.eq_2 (And.intro @natIn.eq_1 (And.intro @natIn.eq_2 (And.intro @nmIn.eq_1 (And.intro @nmIn.eq_2 (And.intro @indep.eq_1 (And.intro @disj.eq_1 (And.intro @disj.eq_2 (And.intro @binD.eq_1 (And.intro @binD.eq_2 (And.intro @binD.eq_3 (And.intro @binD.eq_4 (And.intro @binD.eq_5 (And.intro @binD.eq_6 (And.intro @binD.eq_7 (And.intro @binI.eq_1 (And.intro @binI.eq_2 (And.intro @binI.eq_3 (And.intro @binI.eq_4 (And.intro @binI.eq_5 (And.intro @binI.eq_6 (And.intro @binI.eq_7 (And.intro @binI.eq_8 (And.intro @binI.eq_9 (And.intro @binI.eq_10 (And.intro @cmpI.eq_1 (And.intro @cmpI.eq_2 (And.intro @cmpI.eq_3 (And.intro @cmpI.eq_4 (And.intro @cmpI.eq_5 (And.intro @cmpI.eq_6 (And.intro @cmpI.eq_7 (And.intro @D.nat.eq_1 (And.intro @D.nat.eq_2 (And.intro @D.cells.eq_1 (And.intro @D.cells.eq_2 (And.intro @D.cells.eq_3 (And.intro @D.cells.eq_4 (And.intro @D.cells.eq_5 (@one.eq_1)))))))))))))))))))))))))))))))))))))))
def v4 := And.intro @one.eq_2 (And.intro @one.eq_3 (And.intro @cellsAt.eq_1 (And.intro @put1.eq_1 (And.intro @put1.eq_2 (And.intro @fillD.eq_1 (And.intro @fillD.eq_2 (And.intro @fillR.eq_1 (And.intro @fillR.eq_2 (And.intro @rowsOf.eq_1 (And.intro @rowsOf.eq_2 (And.intro @rowsOf.eq_3 (And.intro @rowsOf.eq_4 (And.intro @lenOf.eq_1 (And.intro @lenOf.eq_2 (And.intro @lenOf.eq_3 (And.intro @lenOf.eq_4 (And.intro @bnd.eq_1 (And.intro @bnd.eq_2 (And.intro @lend.eq_1 (And.intro @lend.eq_2 (And.intro @lend1.eq_1 (And.intro @lend1.eq_2 (And.intro @lend1.eq_3 (And.intro @lendNm.eq_1 (And.intro @lendNm.eq_2 (And.intro @lendNm1.eq_1 (And.intro @lendNm1.eq_2 (And.intro @lendOkL'.eq_1 (And.intro @lendOkL'.eq_2 (And.intro @lendOk.eq_1 (And.intro @lendOk.eq_2 (And.intro @lendOk1.eq_1 (And.intro @lendOk1.eq_2 (And.intro @lendOkL.eq_1 (And.intro @lendOkL.eq_2 (And.intro @lendT.eq_1 (And.intro @lendT.eq_2 (And.intro @lendNmT.eq_1 (@lendNmT.eq_2)))))))))))))))))))))))))))))))))))))))
def v5 := And.intro @lendOkT.eq_1 (And.intro @lendOkT.eq_2 (And.intro @Hp.kills.eq_1 (And.intro @Hp.kills.eq_2 (And.intro @Hp.kill.eq_1 (And.intro @Hp.over.eq_1 (And.intro @Hp.over.eq_2 (And.intro @Hp.restr.eq_1 (And.intro @Hp.restr.eq_2 (And.intro @reach.eq_1 (And.intro @take_map (And.intro @take_mapS (And.intro @natc0 (And.intro @natc1 (And.intro @natc2 (And.intro @natc3 (And.intro @natc4 (And.intro @natc5 (And.intro @natc6 (And.intro @natc7 (And.intro @beq_self_eq_true.{0} (And.intro @Nat.le_refl (And.intro @Int.le_refl (And.intro @plain_v (And.intro @plain_any (And.intro @plain_sl (And.intro @plain_mt (And.intro @List.forall_mem_append.{0} (And.intro @List.forall_mem_map.{0,0} (And.intro @addNm.eq_1 (And.intro @addNm.eq_2 (And.intro @nmsL.eq_1 (And.intro @nmsL.eq_2 (And.intro @D.nms.eq_1 (And.intro @D.nms.eq_2 (And.intro @D.nms.eq_3 (And.intro @D.nms.eq_4 (And.intro @D.nms.eq_5 (And.intro @D.nms.eq_6 (@D.nms.eq_7)))))))))))))))))))))))))))))))))))))))
def v6 := And.intro @D.nms.eq_8 (And.intro @D.nms.eq_9 (And.intro @D.nms.eq_10 (And.intro @cellNms.eq_1 (And.intro @cellNms.eq_2 (And.intro @refsInL.eq_1 (And.intro @refsInL.eq_2 (And.intro @D.refsIn.eq_1 (And.intro @D.refsIn.eq_2 (And.intro @D.refsIn.eq_3 (And.intro @D.refsIn.eq_4 (And.intro @D.refsIn.eq_5 (And.intro @D.refsIn.eq_6 (And.intro @D.refsIn.eq_7 (And.intro @D.refsIn.eq_8 (And.intro @D.refsIn.eq_9 (And.intro @D.refsIn.eq_10 (And.intro @ClosedH.eq_1 (And.intro @ClosedH.eq_2 (And.intro @resL.eq_1 (And.intro @resL.eq_2 (And.intro @resD.eq_1 (And.intro @resD.eq_2 (And.intro @retA.eq_1 (And.intro @retB.eq_1 (And.intro @packD.eq_1 (And.intro @packD.eq_2 (And.intro @tc_at (And.intro @rowR_at (And.intro @Pu_ex (And.intro @true_and (And.intro @and_true (And.intro @and_false (And.intro @false_and (And.intro @or_true (And.intro @true_or (And.intro @or_false (And.intro @false_or (And.intro @and_self (@List.map_cons.{0,0})))))))))))))))))))))))))))))))))))))))
def v7 := And.intro @List.map_nil.{0,0} (And.intro @List.flatMap_cons.{0,0} (And.intro @List.flatMap_nil.{0,0} (And.intro @List.append_nil.{0} (And.intro @List.nil_append.{0} (And.intro @List.cons_append.{0} (And.intro @Bool.false_eq_true (And.intro @Prod.mk.injEq.{0,0} (And.intro @List.length_cons.{0} (And.intro @List.length_nil.{0} (And.intro @Nat.add_zero (And.intro @Nat.zero_add (And.intro @List.getD_cons_zero.{0} (And.intro @List.getD_cons_succ.{0} (And.intro @List.drop_zero.{0} (And.intro @List.drop_succ_cons.{0} (And.intro @List.take_succ_cons.{0} (And.intro @List.take_zero.{0} (And.intro @List.set_cons_zero.{0} (And.intro @List.set_cons_succ.{0} (And.intro @List.replicate.eq_1.{0} (And.intro @List.replicate.eq_2.{0} (And.intro @Bool.not_true (And.intro @Bool.not_false (And.intro @Bool.true_and (And.intro @Bool.and_true (And.intro @Bool.false_and (And.intro @Bool.and_false (And.intro @Bool.or_true (And.intro @Bool.true_or (And.intro @Bool.or_false (And.intro @Bool.false_or (And.intro @eq_self.{1} (And.intro @imp_self (And.intro @ge_iff_le.{0} (And.intro @gt_iff_lt.{0} (And.intro @decide_eq_true_eq (@intsOf.eq_1)))))))))))))))))))))))))))))))))))))
def v8 := And.intro @intsOf.eq_2 (And.intro @intsOf.eq_3 (And.intro @intsOf_map (And.intro @strsOf.eq_1 (And.intro @strsOf.eq_2 (And.intro @strsOf.eq_3 (And.intro @sE.eq_1 (And.intro @ne_eq.{1} (And.intro @not_false_eq_true (And.intro @bq_t (And.intro @bq_f (And.intro @tq_b (And.intro @fq_b (And.intro @List.forall_mem_cons.{0} (And.intro @forall_nil (And.intro @sa_ok (And.intro @rowPu.eq_1 (And.intro @rowPuE.eq_1 (And.intro @rowSrc.eq_1 (And.intro @rowSrc.eq_2 (And.intro @nm1 (@nm2)))))))))))))))))))))
def v9 := And.intro @oH_at (And.intro @oD_at (And.intro @oE_at (And.intro @oT_at (And.intro @oP_at (And.intro @oB_at (And.intro @oG_at (And.intro @oA_at (And.intro @oS_at (And.intro @cI_at @cB_at)))))))))
def v10 := And.intro @implies_true.{0} (And.intro @implies_true.{1} (And.intro @forall_const.{0} (And.intro @forall_const.{1} (And.intro @undef.eq_1 (And.intro @InI.eq_1 (And.intro @runKC_n (And.intro @runKD_s (And.intro @runKB_s (And.intro @runKC_s (And.intro @runKT_s (And.intro @D.oflat.eq_1 (And.intro @D.oflat.eq_2 (And.intro @D.oflat.eq_3 (And.intro @D.oflat.eq_4 (And.intro (And.intro @D.oflat.eq_5 @D.oflat.eq_6) (And.intro @oflatL.eq_1 (And.intro @oflatL.eq_2 (And.intro @flatAt.eq_1 (And.intro @flatRs.eq_1 (And.intro @flatRs.eq_2 @eff.eq_33))))))))))))))))))))
def vv := And.intro v10 (And.intro v9 (And.intro v1 (And.intro v2 (And.intro v3 (And.intro v4 (And.intro v5 (And.intro v6 (And.intro v7 v8))))))))
def D.done : D → Bool
  | .v _ => true
  | .any => true
  | .sl _ => true
  | _ => false
end Go.Proofs.YtehmmnnmkapfeaaDoor

/- Functions of the library that look through slices with a function. -/
namespace Go.Proofs.YtehmmnnmkapfeaaDoor
open Go
def RngI (n : Nat) (st : Nat → St) (P : Nat → Prop) (m : Nat) (s : St) : Prop := ∃ j, j + m = n ∧ P j ∧ s = st j
theorem rng_loop {T : Tbl} {N : Nat → Nm} {J : List Nm} {c : C} {Q : Ex → St → Prop} {s : St} (n : Nat) (st : Nat → St) (P : Nat → Prop) (h0 : Weak J s (st 0)) (hP : P 0)
    (hs : ∀ j, j < n → P j → vc T N J c (loopQ J (RngI n st P) (n - j) Q) (st j)) (he : P n → vc T N J c (loopQ J (RngI n st P) 0 Q) (st n)) : vc T N J (.loop c) Q s := by
  rw [vc_loop]
  refine ⟨RngI n st P, ⟨n, _, h0, 0, by omega, hP, rfl⟩, ?_⟩
  rintro m s' ⟨j, hj, hPj, rfl⟩
  by_cases h : j < n
  · obtain rfl : m = n - j := by omega
    exact hs j h hPj
  · obtain rfl : j = n := by omega
    obtain rfl : m = 0 := by omega
    exact he hPj
theorem rng_next {J : List Nm} {n : Nat} {st : Nat → St} {P : Nat → Prop} {j : Nat} {s : St} (hj : j < n) (w : Weak J s (st (j + 1))) (hp : P (j + 1)) : ∃ k' s', k' < n - j ∧ Weak J s s' ∧ RngI n st P k' s' :=
  ⟨n - (j + 1), _, by omega, w, j + 1, by omega, hp, rfl⟩
theorem weak0 {F : Fr} {H : Hp} {l : List (Nat × D)} (h1 : coverS F H [] l) (h2 : refsF [] l = true) : Weak [] ⟨F, H⟩ ⟨fr l, Hp.none⟩ := weak_eq [] [] l h1 h2 trivial (by simp) rfl
theorem drop_all {α : Type} {p : α → Bool} {l : List α} {j : Nat} {b : Bool} (hj : j < l.length) (he : (l.drop j).all p = b) : (p l[j] = false → b = false) ∧ (p l[j] = true → (l.drop (j + 1)).all p = b) := by
  rw [List.drop_eq_getElem_cons hj, List.all_cons] at he
  exact ⟨fun h => by rw [h] at he; simpa using he.symm, fun h => by rw [h] at he; simpa using he⟩
theorem drop_all_end {α : Type} {p : α → Bool} {l : List α} {b : Bool} (he : (l.drop l.length).all p = b) : b = true := by
  rw [List.drop_of_length_le (Nat.le_refl _)] at he
  exact he.symm
theorem idx_next {j : Nat} (h : (j : Int) ≤ 1000000000000) : IntKind.i64.wrap ((j : Int) + 1) = ((j + 1 : Nat) : Int) := by rw [wrap_i (by omega)]; rfl
theorem idx_nn (j : Nat) : (0 : Int) ≤ (j : Int) := Int.natCast_nonneg j
def c101_1 : C := (.ops false [oP 26 (.mv (.t 3)), oP 27 (.bin .add (.t 26) (cI 1)), oP 3 (.mv (.t 27))])
def c101_2 : C := (.seq (.block 1 (.seq (.ops false [oP 28 (.mv (.t 0)), oP 29 (.mv (.t 3)), oP 30 (.ixS (.t 28) (.t 29)), oP 31 (.bin .lss (.t 30) (.c (.v (.int .u8 97)))), oP 32 (.mv (.t 31)), oG 33 32 false (.mv (.t 0)), oG 34 32 false (.mv (.t 3)), oG 35 32 false (.ixS (.t 33) (.t 34)), oG 36 32 false (.bin .gtr (.t 35) (.c (.v (.int .u8 122)))), oP 37 (.pick (.t 32) (cB true) (.t 36)), oP 38 (.mv (.t 37)),
  oG 39 38 true (.mv (.t 0)), oG 40 38 true (.mv (.t 3)), oG 41 38 true (.ixS (.t 39) (.t 40)), oG 42 38 true (.bin .lss (.t 41) (.c (.v (.int .u8 48)))), oG 43 38 true (.mv (.t 42)), oG 44 43 false (.mv (.t 0)), oG 45 43 false (.mv (.t 3)), oG 46 43 false (.ixS (.t 44) (.t 45)), oG 47 43 false (.bin .gtr (.t 46) (.c (.v (.int .u8 57)))), oG 48 38 true (.pick (.t 43) (cB true) (.t 47)),
  oP 49 (.pick (.t 38) (.t 48) (cB false)), oP 50 (.mv (.t 49)), oG 51 50 true (.mv (.t 0)), oG 52 50 true (.mv (.t 3)), oG 53 50 true (.ixS (.t 51) (.t 52)), oG 54 50 true (.bin .neq (.t 53) (.c (.v (.int .u8 45)))), oP 55 (.pick (.t 50) (.t 54) (cB false))]) (.cond (.t 55) (.seq (.ops false [oP 2 (.mv (cB false))]) .ret) .skip))) c101_1)
def c101_3 : C := (.seq (.seq (.ops false [oP 22 (.mv (.t 3)), oP 23 (.mv (.t 0)), oP 24 (.lenS (.t 23)), oP 25 (.bin .lss (.t 22) (.t 24))]) (.cond (.t 25) .skip (.exit 0))) c101_2)
def c101_4 : C := (.seq (.ops false [oP 2 (.mv (cB true))]) .ret)
def c101_5 : C := (.seq (.seq (.ops false [oP 3 (.mv (cI 0))]) (.block 0 (.loop c101_3))) c101_4)
def c101 : C := (.seq (.ops false [oP 2 (.mv (cB false))]) (.seq (.seq (.ops false [oP 4 (.mv (.t 0)), oP 5 (.lenS (.t 4)), oP 6 (.bin .lss (.t 5) (cI 1)), oP 7 (.mv (.t 6)), oG 8 7 false (.mv (.t 0)), oG 9 7 false (.lenS (.t 8)), oG 10 7 false (.bin .gtr (.t 9) (cI 12)), oP 11 (.pick (.t 7) (cB true) (.t 10)), oP 12 (.mv (.t 11)), oG 13 12 false (.mv (.t 0)), oG 14 12 false (.ixS (.t 13) (cI 0)),
  oG 15 12 false (.bin .lss (.t 14) (.c (.v (.int .u8 97)))), oP 16 (.pick (.t 12) (cB true) (.t 15)), oP 17 (.mv (.t 16)), oG 18 17 false (.mv (.t 0)), oG 19 17 false (.ixS (.t 18) (cI 0)), oG 20 17 false (.bin .gtr (.t 19) (.c (.v (.int .u8 122)))), oP 21 (.pick (.t 17) (cB true) (.t 20))]) (.cond (.t 21) (.seq (.ops false [oP 2 (.mv (cB false))]) .ret) .skip)) c101_5))
def r101 : List RV := [(.tmp 2)]
theorem c101_ok : ∃ code, Tryd.f101.body = some code ∧ compC Tryd.prog Tryd.f101.ntmps code = some (C.strip c101) := ⟨_, rfl, by kernel_rfl⟩
theorem r101_ok : compRes Tryd.prog Tryd.f101.results.toList = some r101 := by kernel_rfl
theorem f101_ok : fnOk Tryd.prog 101 = true := by kernel_rfl
def c113_1 : C := (.ops false [oP 28 (.bin .add (.t 20) (cI 1)), oP 20 (.mv (.t 28))])
def c113_2 : C := (.seq (.block 1 (.seq (.ops false [oP 22 (.mv (.t 20)), oP 3 (.mv (.t 22))]) (.seq (.ops false [oP 23 (.mv (.t 0)), oP 24 (.mv (.t 3)), oP 25 (.ixS (.t 23) (.t 24)), oB 26 (.call 137 [(.t 25)]), oP 27 (.bin .eql (.t 26) (cI 0))]) (.cond (.t 27) (.seq (.ops false [oP 2 (.mv (cB false))]) .ret) .skip)))) c113_1)
def c113_3 : C := (.seq (.ops false [oP 21 (.bin .lss (.t 20) (.t 19))]) (.seq (.cond (.t 21) .skip (.exit 0)) c113_2))
def c113_4 : C := (.seq (.ops false [oP 2 (.mv (cB true))]) .ret)
def c113_5 : C := (.seq (.seq (.ops false [oP 18 (.mv (.t 0)), oP 19 (.lenS (.t 18)), oP 20 (.mv (cI 0))]) (.block 0 (.loop c113_3))) c113_4)
def c113 : C := (.seq (.ops false [oP 2 (.mv (cB false))]) (.seq (.seq (.ops false [oP 4 (.mv (.t 0)), oP 5 (.lenS (.t 4)), oP 6 (.bin .lss (.t 5) (cI 1)), oP 7 (.mv (.t 6)), oG 8 7 false (.mv (.t 0)), oG 9 7 false (.lenS (.t 8)), oG 10 7 false (.bin .gtr (.t 9) (cI 12)), oP 11 (.pick (.t 7) (cB true) (.t 10)), oP 12 (.mv (.t 11)), oG 13 12 false (.mv (.t 0)), oG 14 12 false (.ixS (.t 13) (cI 0)),
  oD 15 12 false (.call 137 [(.t 14)]) [], oG 16 12 false (.bin .neq (.t 15) (cI 1)), oP 17 (.pick (.t 12) (cB true) (.t 16))]) (.cond (.t 17) (.seq (.ops false [oP 2 (.mv (cB false))]) .ret) .skip)) c113_5))
def r113 : List RV := [(.tmp 2)]
theorem c113_ok : ∃ code, Tryd.f113.body = some code ∧ compC Tryd.prog Tryd.f113.ntmps code = some (C.strip c113) := ⟨_, rfl, by kernel_rfl⟩
theorem r113_ok : compRes Tryd.prog Tryd.f113.results.toList = some r113 := by kernel_rfl
theorem f113_ok : fnOk Tryd.prog 113 = true := by kernel_rfl
def c137_1 : C := (.seq (.ops false [oP 18 (.mv (.t 0)), oP 19 (.bin .eql (.t 18) (.c (.v (.int .u8 45)))), oP 17 (.mv (.t 19))]) (.cond (.t 17) (.exit 3) .skip))
def c137_2 : C := (.seq (.seq (.ops false [oP 11 (.mv (.t 0)), oP 12 (.bin .geq (.t 11) (.c (.v (.int .u8 48)))), oP 13 (.mv (.t 12)), oG 14 13 true (.mv (.t 0)), oG 15 13 true (.bin .leq (.t 14) (.c (.v (.int .u8 57)))), oP 16 (.pick (.t 13) (.t 15) (cB false)), oP 10 (.mv (.t 16))]) (.cond (.t 10) (.exit 2) .skip)) c137_1)
def c137_3 : C := (.exit 0)
def c137_4 : C := (.seq (.seq (.ops false [oP 2 (.mv (cI 1))]) .ret) (.exit 0))
def c137_5 : C := (.seq (.seq (.ops false [oP 2 (.mv (cI 2))]) .ret) (.exit 0))
def c137_6 : C := (.seq (.ops false [oP 2 (.mv (cI 0))]) .ret)
def c137 : C := (.seq (.ops false [oP 2 (.mv (cI 0))]) (.seq (.block 0 (.seq (.block 3 (.block 2 (.seq (.block 1 (.seq (.seq (.seq (.ops false [oP 4 (.mv (.t 0)), oP 5 (.bin .geq (.t 4) (.c (.v (.int .u8 97)))), oP 6 (.mv (.t 5)), oG 7 6 true (.mv (.t 0)), oG 8 6 true (.bin .leq (.t 7) (.c (.v (.int .u8 122)))), oP 9 (.pick (.t 6) (.t 8) (cB false)), oP 3 (.mv (.t 9))]) (.cond (.t 3) (.exit 1) .skip)) c137_2)
  c137_3)) c137_4))) c137_5)) c137_6))
def r137 : List RV := [(.tmp 2)]
theorem c137_ok : ∃ code, Tryd.f137.body = some code ∧ compC Tryd.prog Tryd.f137.ntmps code = some (C.strip c137) := ⟨_, rfl, by kernel_rfl⟩
theorem r137_ok : compRes Tryd.prog Tryd.f137.results.toList = some r137 := by kernel_rfl
theorem f137_ok : fnOk Tryd.prog 137 = true := by kernel_rfl
def placeI (c : Int) : Int := if 97 ≤ c ∧ c ≤ 122 then 1 else if 48 ≤ c ∧ c ≤ 57 then 2 else if c = 45 then 2 else 0
def byteI (s : ByteArray) (k : Nat) : Int := (s.data.getD k 0).toNat
def bytesI (s : ByteArray) : List Int := (List.range s.size).map (byteI s)
def nameB (s : ByteArray) : Bool := if s.size < 1 then false else if 12 < s.size then false else if placeI (byteI s 0) = 1 then (bytesI s).all (fun c => decide (placeI c ≠ 0)) else false
theorem bytesI_len (s : ByteArray) : (bytesI s).length = s.size := by simp [bytesI]
theorem bytesI_at (s : ByteArray) {j : Nat} (h : j < (bytesI s).length) : (bytesI s)[j] = byteI s j := by simp [bytesI]
set_option maxHeartbeats 4000000 in
theorem place_c (c : Int) (nn : Nm) : CallsA Tryd.prog 137 [.v (.int .u8 c)] Hp.none nn (Pu (di (placeI c)) Hp.none) := by
  obtain ⟨code, h1, h2⟩ := c137_ok
  refine callsA_of (T0_ok _) mixed (N := fun t => (0, t)) Tryd.func137 h1 h2 r137_ok [] false js_nil js_nil' (by simp [Tryd.f137]) ?_
  by_cases a1 : 97 ≤ c
  · by_cases a2 : c ≤ 122
    · simp (maxSteps:=500000) only [↓vp, vv, ↓reduceIte, simprocAttr, c137, r137, c137_1, c137_2, c137_3, c137_4, c137_5, c137_6, a1, a2, placeI, Pu, decide_true, decide_false]
    · have a3 : ¬ c ≤ 57 := by omega
      have a4 : 48 ≤ c := by omega
      have a5 : (c == 45) = false := beq_false_of_ne (by omega)
      have a6 : ¬ c = 45 := by omega
      simp (maxSteps:=500000) only [↓vp, vv, ↓reduceIte, simprocAttr, c137, r137, c137_1, c137_2, c137_3, c137_4, c137_5, c137_6, a1, a2, a3, a4, a5, a6, placeI, Pu, decide_true, decide_false]
  · by_cases a2 : 48 ≤ c
    · by_cases a3 : c ≤ 57
      · simp (maxSteps:=500000) only [↓vp, vv, ↓reduceIte, simprocAttr, c137, r137, c137_1, c137_2, c137_3, c137_4, c137_5, c137_6, a1, a2, a3, placeI, Pu, decide_true, decide_false]
      · have a5 : (c == 45) = false := beq_false_of_ne (by omega)
        have a6 : ¬ c = 45 := by omega
        simp (maxSteps:=500000) only [↓vp, vv, ↓reduceIte, simprocAttr, c137, r137, c137_1, c137_2, c137_3, c137_4, c137_5, c137_6, a1, a2, a3, a5, a6, placeI, Pu, decide_true, decide_false]
    · by_cases a5 : c = 45
      · have a6 : (c == 45) = true := beq_iff_eq.2 a5
        simp (maxSteps:=500000) only [↓vp, vv, ↓reduceIte, simprocAttr, c137, r137, c137_1, c137_2, c137_3, c137_4, c137_5, c137_6, a1, a2, a5, a6, placeI, Pu, decide_true, decide_false]
      · have a6 : (c == 45) = false := beq_false_of_ne a5
        simp (maxSteps:=500000) only [↓vp, vv, ↓reduceIte, simprocAttr, c137, r137, c137_1, c137_2, c137_3, c137_4, c137_5, c137_6, a1, a2, a5, a6, placeI, Pu, decide_true, decide_false]
def selPlace : List D → Option (Prop × D)
  | [.v (.int .u8 c)] => some (True, di (placeI c))
  | _ => Option.none
def TP : Tbl := tc 137 (rowPu selPlace) T0
theorem TP_ok : TblOk Tryd.prog TP := by
  refine tc_pu f137_ok (fun args pre d h hp nn => ?_) (T0_ok _)
  unfold selPlace at h
  split at h <;> cases h
  exact place_c _ nn
theorem byteI_eq (s : ByteArray) (k : Nat) : ((s.data.getD k 0).toNat : Int) = byteI s k := rfl
set_option maxHeartbeats 4000000 in
theorem lname_c (s : ByteArray) (nn : Nm) : CallsA Tryd.prog 113 [ds s] Hp.none nn (Pu (db (nameB s)) Hp.none) := by
  obtain ⟨code, h1, h2⟩ := c113_ok
  refine callsA_of TP_ok mixed (N := fun t => (0, t)) Tryd.func113 h1 h2 r113_ok [] false js_nil js_nil' (by simp [Tryd.f113]) ?_
  by_cases a1 : (s.size : Int) < 1
  · have b1 : s.size < 1 := by omega
    simp (maxSteps:=500000) only [↓vp, vv, ↓reduceIte, simprocAttr, c113, r113, c113_1, c113_2, c113_3, c113_4, c113_5, a1, b1, nameB, Pu, decide_true, decide_false]
  · by_cases a2 : (12 : Int) < s.size
    · have b1 : ¬ s.size < 1 := by omega
      have b2 : 12 < s.size := by omega
      simp (maxSteps:=500000) only [↓vp, vv, ↓reduceIte, simprocAttr, c113, r113, c113_1, c113_2, c113_3, c113_4, c113_5, a1, a2, b1, b2, nameB, Pu, decide_true, decide_false]
    · have b1 : ¬ s.size < 1 := by omega
      have b2 : ¬ 12 < s.size := by omega
      have b3 : (0 : Int) < s.size := by omega
      by_cases a3 : placeI (byteI s 0) = 1
      · have e0 : nameB s = (bytesI s).all (fun c => decide (placeI c ≠ 0)) := by unfold nameB; rw [if_neg b1, if_neg b2, if_pos a3]
        rw [e0]
        generalize hb : (bytesI s).all (fun c => decide (placeI c ≠ 0)) = b
        simp (maxSteps:=500000) only [↓vp, vv, ↓reduceIte, simprocAttr, c113, c113_5, TP, selPlace, a1, a2, a3, b3, byteI_eq, bne_self_eq_false, decide_true, decide_false]
        refine rng_loop s.size (fun j => ⟨fr [(0, ds s), (19, di s.size), (20, di j)], Hp.none⟩) (fun j => ((bytesI s).drop j).all (fun c => decide (placeI c ≠ 0)) = b) (weak0 (by simp (maxSteps:=500000) only [↓vp, vv, ↓reduceIte, simprocAttr, coverS]) (by simp (maxSteps:=500000) only [↓vp, vv, ↓reduceIte, simprocAttr, refsF])) hb (fun j hj he => ?_) (fun he => ?_)
        · have hj' : (j : Int) < s.size := by omega
          have hn := idx_nn j
          have w1 := idx_next (j := j) (by omega)
          obtain ⟨hf, ht⟩ := drop_all (by rw [bytesI_len]; exact hj) he
          rw [bytesI_at] at hf ht
          by_cases a4 : placeI (byteI s j) = 0
          · have e5 : b = false := hf (by simp [a4])
            subst e5
            simp (maxSteps:=500000) only [↓vp, vv, ↓reduceIte, simprocAttr, c113, r113, c113_1, c113_2, c113_3, c113_4, c113_5, TP, selPlace, hj', hn, Int.toNat_natCast, byteI_eq, a4, w1, Pu, decide_true, decide_false]
          · have a5 : (placeI (byteI s j) == 0) = false := beq_false_of_ne a4
            simp (maxSteps:=500000) only [↓vp, vv, ↓reduceIte, simprocAttr, c113, r113, c113_1, c113_2, c113_3, c113_4, c113_5, TP, selPlace, hj', hn, Int.toNat_natCast, byteI_eq, a5, w1, decide_true, decide_false]
            exact rng_next hj (weak0 (by simp (maxSteps:=500000) only [↓vp, vv, ↓reduceIte, simprocAttr, coverS, w1]) (by simp (maxSteps:=500000) only [↓vp, vv, ↓reduceIte, simprocAttr, refsF])) (ht (by simp [a4]))
        · have e5 : b = true := drop_all_end (by rw [bytesI_len]; exact he)
          subst e5
          simp (maxSteps:=500000) only [↓vp, vv, ↓reduceIte, simprocAttr, c113, r113, c113_1, c113_2, c113_3, c113_4, c113_5, TP, selPlace, Int.lt_irrefl, Pu, decide_true, decide_false]
      · have a5 : (placeI (byteI s 0) != 1) = true := by simp [a3]
        simp (maxSteps:=500000) only [↓vp, vv, ↓reduceIte, simprocAttr, c113, r113, c113_1, c113_2, c113_3, c113_4, c113_5, TP, selPlace, a1, a2, a3, a5, b1, b2, b3, byteI_eq, nameB, Pu, decide_true, decide_false]
theorem tdiv_pos (a b : Int) (hb : 1 ≤ b) (h : 0 ≤ a.tmod b) : a.tdiv b = a / b ∧ a.tmod b = a % b := by
  have e := Int.tmod_add_mul_tdiv a b
  have l := Int.tmod_lt_of_pos a (show 0 < b by omega)
  have := (Int.ediv_emod_unique (a := a) (b := b) (r := a.tmod b) (q := a.tdiv b) (by omega)).2 ⟨e, h, l⟩
  exact ⟨this.1.symm, this.2.symm⟩
theorem tdiv_neg (a b : Int) (hb : 1 ≤ b) (h : a.tmod b < 0) : a.tdiv b - 1 = a / b ∧ a.tmod b + b = a % b := by
  have e := Int.tmod_add_mul_tdiv a b
  have l := Int.lt_tmod_of_pos a (show 0 < b by omega)
  have := (Int.ediv_emod_unique (a := a) (b := b) (r := a.tmod b + b) (q := a.tdiv b - 1) (by omega)).2 ⟨by rw [Int.mul_sub]; omega, by omega, by omega⟩
  exact ⟨this.1.symm, this.2.symm⟩
theorem tdiv_bd (a b : Int) (ha : -2305843009213693952 ≤ a) (ha' : a ≤ 2305843009213693952) :
    -2305843009213693952 ≤ a.tdiv b ∧ a.tdiv b ≤ 2305843009213693952 := by
  have h : (a.tdiv b).natAbs = a.natAbs / b.natAbs := Int.natAbs_tdiv a b
  have h2 : a.natAbs / b.natAbs ≤ a.natAbs := Nat.div_le_self _ _
  generalize a.natAbs / b.natAbs = q at h h2
  generalize a.tdiv b = x at *
  omega
def hf (a b : Int) : Int := if b ≤ 2 * (a % b) then a / b + 1 else a / b
theorem mul_rng {e d E D1 D2 : Int} (e0 : 0 ≤ e) (e1 : e ≤ E) (d1 : D1 ≤ d) (d2 : d ≤ D2) (h1 : D1 ≤ 0) (h2 : 0 ≤ D2) : E * D1 ≤ e * d ∧ e * d ≤ E * D2 :=
  ⟨Int.le_trans (Int.mul_le_mul_of_nonpos_right e1 h1) (Int.mul_le_mul_of_nonneg_left d1 e0), Int.le_trans (Int.mul_le_mul_of_nonneg_left d2 e0) (Int.mul_le_mul_of_nonneg_right e1 h2)⟩
theorem hf_rng {a b : Int} (hb : 0 < b) {L U : Int} (h1 : b * L ≤ a) (h2 : a ≤ b * U) : L ≤ hf a b ∧ hf a b ≤ U := by
  have e := Int.mul_ediv_add_emod a b
  have m0 := Int.emod_nonneg a (show b ≠ 0 by omega)
  have m1 := Int.emod_lt_of_pos a hb
  have l1 : L ≤ a / b := (Int.le_ediv_iff_mul_le hb).2 (by rw [Int.mul_comm]; exact h1)
  have l2 : a / b ≤ U := Int.ediv_le_of_le_mul hb (by rw [Int.mul_comm]; exact h2)
  unfold hf
  split
  · refine ⟨by omega, ?_⟩
    rcases Int.lt_or_eq_of_le l2 with h | h
    · omega
    · rw [h] at e; omega
  · exact ⟨l1, l2⟩
def fHeat (ex t : Int) : Int := 1000000 - hf (ex * (t - 150)) 10
def fPress (co p : Int) : Int := 1000000 + hf (co * p) 1000
def fac (ex co t p : Int) : Int := hf (fHeat ex t * fPress co p) 1000000
def cdOk (t p : Int) : Prop := (-400 ≤ t ∧ t ≤ 1000) ∧ (0 ≤ p ∧ p ≤ 20000)
instance (t p : Int) : Decidable (cdOk t p) := by unfold cdOk; infer_instance
theorem heat_bd {ex t : Int} (h : 0 ≤ ex ∧ ex ≤ 2000) (ht : -400 ≤ t ∧ t ≤ 1000) : (-1100000 ≤ ex * (t - 150) ∧ ex * (t - 150) ≤ 1700000) ∧ (-110000 ≤ hf (ex * (t - 150)) 10 ∧ hf (ex * (t - 150)) 10 ≤ 170000) ∧ (830000 ≤ fHeat ex t ∧ fHeat ex t ≤ 1110000) := by
  have h1 := mul_rng (E := 2000) (D1 := -550) (D2 := 850) h.1 h.2 (show -550 ≤ t - 150 by omega) (by omega) (by omega) (by omega)
  have h2 := hf_rng (a := ex * (t - 150)) (b := 10) (by omega) (L := -110000) (U := 170000) (by omega) (by omega)
  refine ⟨by omega, h2, ?_⟩
  unfold fHeat
  omega
theorem press_bd {co p : Int} (h : 0 ≤ co ∧ co ≤ 5000) (hp : 0 ≤ p ∧ p ≤ 20000) : (0 ≤ co * p ∧ co * p ≤ 100000000) ∧ (0 ≤ hf (co * p) 1000 ∧ hf (co * p) 1000 ≤ 100000) ∧ (1000000 ≤ fPress co p ∧ fPress co p ≤ 1100000) := by
  have h1 := mul_rng (E := 5000) (D1 := 0) (D2 := 20000) h.1 h.2 hp.1 hp.2 (by omega) (by omega)
  have h2 := hf_rng (a := co * p) (b := 1000) (by omega) (L := 0) (U := 100000) (by omega) (by omega)
  refine ⟨by omega, h2, ?_⟩
  unfold fPress
  omega
theorem fac_bd {ex co t p : Int} (he : 0 ≤ ex ∧ ex ≤ 2000) (hc : 0 ≤ co ∧ co ≤ 5000) (h : cdOk t p) : (0 ≤ fHeat ex t * fPress co p ∧ fHeat ex t * fPress co p ≤ 1221000000000) ∧ (830000 ≤ fac ex co t p ∧ fac ex co t p ≤ 1221000) := by
  have a := (heat_bd he h.1).2.2
  have b := (press_bd hc h.2).2.2
  have h1 := mul_rng (E := 1110000) (D1 := 0) (D2 := 1100000) (show 0 ≤ fHeat ex t by omega) a.2 (show 0 ≤ fPress co p by omega) b.2 (by omega) (by omega)
  have h2 : 830000 * 1000000 ≤ fHeat ex t * fPress co p := Int.le_trans (Int.mul_le_mul_of_nonneg_right a.1 (by omega)) (Int.mul_le_mul_of_nonneg_left b.1 (by omega))
  have h3 := hf_rng (a := fHeat ex t * fPress co p) (b := 1000000) (by omega) (L := 830000) (U := 1221000) (by omega) (by omega)
  exact ⟨by omega, h3⟩
def vfOk (g f : Int) : Prop := (0 ≤ g ∧ g ≤ 1099511627776) ∧ (1 ≤ f ∧ f ≤ 2000000)
instance (g f : Int) : Decidable (vfOk g f) := by unfold vfOk; infer_instance
theorem vf_mul {g f : Int} (h : vfOk g f) : 0 ≤ g * f ∧ g * f ≤ 2199023255552000000 := by
  have := mul_rng (E := 1099511627776) (D1 := 0) (D2 := 2000000) h.1.1 h.1.2 (show 0 ≤ f by have := h.2; omega) h.2.2 (by omega) (by omega)
  omega
def stdV (g f : Int) : Int := hf (g * f) 1000000
def mLit (p f n : Int) : Int := n * f / (100 * p)
structure Mtr where
  pl : Int
  bits : Int
  fac : Int
def Mtr.row (m : Mtr) : List D := [di m.pl, di m.bits, di m.fac]
def Mtr.enc (m : Mtr) : D := .agg m.row
structure Cnt where
  last : Int
  pul : Int
theorem Cnt.ext_iff2 (a b : Cnt) : (a.last = b.last ∧ a.pul = b.pul) ↔ a = b := ⟨fun h => by cases a; cases b; simp only at h; obtain ⟨h0, h1⟩ := h; simp only [h0, h1], fun h => by cases h; exact ⟨rfl, rfl⟩⟩
instance : DecidableEq Cnt := fun a b => decidable_of_iff _ (Cnt.ext_iff2 a b)
def Cnt.row (c : Cnt) : List D := [di c.last, di c.pul]
def Cnt.enc (c : Cnt) : D := .agg c.row
structure Cnd where
  te : Int
  pr : Int
theorem Cnd.ext_iff2 (a b : Cnd) : (a.te = b.te ∧ a.pr = b.pr) ↔ a = b := ⟨fun h => by cases a; cases b; simp only at h; obtain ⟨h0, h1⟩ := h; simp only [h0, h1], fun h => by cases h; exact ⟨rfl, rfl⟩⟩
instance : DecidableEq Cnd := fun a b => decidable_of_iff _ (Cnd.ext_iff2 a b)
def Cnd.row (c : Cnd) : List D := [di c.te, di c.pr]
def Cnd.enc (c : Cnd) : D := .agg c.row
structure Prd where
  nm : ByteArray
  de : Int
  ex : Int
  co : Int
  fr : Int
def Prd.row (p : Prd) : List D := [ds p.nm, di p.de, di p.ex, di p.co, di p.fr]
def Prd.enc (p : Prd) : D := .agg p.row
structure Run where
  vol : Int
  rest : Int
theorem Run.ext_iff2 (a b : Run) : (a.vol = b.vol ∧ a.rest = b.rest) ↔ a = b := ⟨fun h => by cases a; cases b; simp only at h; obtain ⟨h0, h1⟩ := h; simp only [h0, h1], fun h => by cases h; exact ⟨rfl, rfl⟩⟩
instance : DecidableEq Run := fun a b => decidable_of_iff _ (Run.ext_iff2 a b)
def Run.row (c : Run) : List D := [di c.vol, di c.rest]
def Run.enc (c : Run) : D := .agg c.row
structure Tic where
  ba : Int
  fl : Int
  fp : Int
  tl : Int
  tp : Int
  te : Int
  pr : Int
  vol : Int
theorem Tic.ext_iff2 (a b : Tic) : (a.ba = b.ba ∧ a.fl = b.fl ∧ a.fp = b.fp ∧ a.tl = b.tl ∧ a.tp = b.tp ∧ a.te = b.te ∧ a.pr = b.pr ∧ a.vol = b.vol) ↔ a = b := ⟨fun h => by cases a; cases b; simp only at h; obtain ⟨h0, h1, h2, h3, h4, h5, h6, h7⟩ := h; simp only [h0, h1, h2, h3, h4, h5, h6, h7], fun h => by cases h; exact ⟨rfl, rfl, rfl, rfl, rfl, rfl, rfl, rfl⟩⟩
instance : DecidableEq Tic := fun a b => decidable_of_iff _ (Tic.ext_iff2 a b)
def Tic.row (t : Tic) : List D := [di t.ba, di t.fl, di t.fp, di t.tl, di t.tp, di t.te, di t.pr, di t.vol]
def Tic.enc (t : Tic) : D := .agg t.row
def Tic.zero : Tic := ⟨0, 0, 0, 0, 0, 0, 0, 0⟩
structure MtrOk (m : Mtr) : Prop where
  pl : 1 ≤ m.pl ∧ m.pl ≤ 1048576
  bits : m.bits = 16 ∨ m.bits = 32
  fac : 50000 ≤ m.fac ∧ m.fac ≤ 200000
instance (m : Mtr) : Decidable (MtrOk m) := decidable_of_iff ((1 ≤ m.pl ∧ m.pl ≤ 1048576) ∧ (m.bits = 16 ∨ m.bits = 32) ∧ (50000 ≤ m.fac ∧ m.fac ≤ 200000)) ⟨fun h => ⟨h.1, h.2.1, h.2.2⟩, fun h => ⟨h.pl, h.bits, h.fac⟩⟩
def mV (m : Mtr) : Bool := decide (MtrOk m)
theorem mV_f {m : Mtr} (h : MtrOk m → False) : mV m = false := decide_eq_false h
theorem mV_t {m : Mtr} (h : MtrOk m) : mV m = true := decide_eq_true h
theorem mV_o {m : Mtr} (h : mV m = true) : MtrOk m := of_decide_eq_true h
def spanI (m : Mtr) : Int := if m.bits = 16 then 65536 else 4294967296
structure CntOk (m : Mtr) (c : Cnt) : Prop where
  last : 0 ≤ c.last ∧ c.last < spanI m
  pul : 0 ≤ c.pul ∧ c.pul ≤ 1099511627776
instance (m : Mtr) (c : Cnt) : Decidable (CntOk m c) := decidable_of_iff ((0 ≤ c.last ∧ c.last < spanI m) ∧ (0 ≤ c.pul ∧ c.pul ≤ 1099511627776)) ⟨fun h => ⟨h.1, h.2⟩, fun h => ⟨h.last, h.pul⟩⟩
def cV (m : Mtr) (c : Cnt) : Bool := decide (CntOk m c)
theorem cV_o {m : Mtr} {c : Cnt} (h : cV m c = true) : CntOk m c := of_decide_eq_true h
def litI (m : Mtr) (n : Int) : Int := mLit m.pl m.fac n
def betI (m : Mtr) (a b : Cnt) : Int × Int := if mV m && cV m a && cV m b then (if a.pul ≤ b.pul then (litI m b.pul - litI m a.pul, 0) else (0, 6)) else (0, 9)
theorem lit_bd {m : Mtr} (h : MtrOk m) {n : Int} (h0 : 0 ≤ n) (h1 : n ≤ 1099511627776) : (0 ≤ n * m.fac ∧ n * m.fac ≤ 219902325555200000) ∧ (100 ≤ 100 * m.pl ∧ 100 * m.pl ≤ 104857600) ∧ (0 ≤ litI m n ∧ litI m n ≤ 2199023255552000) := by
  have h2 := h.pl
  have h3 := h.fac
  have m1 := mul_rng (E := 1099511627776) (D1 := 0) (D2 := 200000) h0 h1 (show 0 ≤ m.fac by omega) h3.2 (by omega) (by omega)
  refine ⟨by omega, by omega, Int.ediv_nonneg (by omega) (by omega), Int.ediv_le_of_le_mul (by omega) ?_⟩
  omega
structure PrdOk (p : Prd) : Prop where
  nm : nameB p.nm = true
  de : 400 ≤ p.de ∧ p.de ≤ 1200
  ex : 0 ≤ p.ex ∧ p.ex ≤ 2000
  co : 0 ≤ p.co ∧ p.co ≤ 5000
  fr : 1 ≤ p.fr ∧ p.fr ≤ 2000
instance (p : Prd) : Decidable (PrdOk p) := decidable_of_iff (nameB p.nm = true ∧ (400 ≤ p.de ∧ p.de ≤ 1200) ∧ (0 ≤ p.ex ∧ p.ex ≤ 2000) ∧ (0 ≤ p.co ∧ p.co ≤ 5000) ∧ (1 ≤ p.fr ∧ p.fr ≤ 2000)) ⟨fun h => ⟨h.1, h.2.1, h.2.2.1, h.2.2.2.1, h.2.2.2.2⟩, fun h => ⟨h.nm, h.de, h.ex, h.co, h.fr⟩⟩
def pV (p : Prd) : Bool := decide (PrdOk p)
theorem pV_f {p : Prd} (h : PrdOk p → False) : pV p = false := decide_eq_false h
theorem pV_t {p : Prd} (h : PrdOk p) : pV p = true := decide_eq_true h
theorem pV_o {p : Prd} (h : pV p = true) : PrdOk p := of_decide_eq_true h
def cdV (c : Cnd) : Bool := decide (cdOk c.te c.pr)
theorem cdV_f {c : Cnd} (h : cdOk c.te c.pr → False) : cdV c = false := decide_eq_false h
theorem cdV_t {c : Cnd} (h : cdOk c.te c.pr) : cdV c = true := decide_eq_true h
def facI (p : Prd) (c : Cnd) : Int × Int := if pV p then (if cdV c then (fac p.ex p.co c.te c.pr, 0) else (0, 1)) else (0, 9)
def vfV (g f : Int) : Bool := decide (vfOk g f)
theorem vfV_f {g f : Int} (h : vfOk g f → False) : vfV g f = false := decide_eq_false h
theorem vfV_t {g f : Int} (h : vfOk g f) : vfV g f = true := decide_eq_true h
theorem vfV_o {g f : Int} (h : vfV g f = true) : vfOk g f := of_decide_eq_true h
def stdI (g f : Int) : Int × Int := if vfV g f then (stdV g f, 0) else (0, 1)
structure RunOk (r : Run) : Prop where
  vol : 0 ≤ r.vol ∧ r.vol ≤ 1099511627776
  rest : 0 ≤ r.rest ∧ r.rest ≤ 999999
instance (r : Run) : Decidable (RunOk r) := decidable_of_iff ((0 ≤ r.vol ∧ r.vol ≤ 1099511627776) ∧ (0 ≤ r.rest ∧ r.rest ≤ 999999)) ⟨fun h => ⟨h.1, h.2⟩, fun h => ⟨h.vol, h.rest⟩⟩
def rV (r : Run) : Bool := decide (RunOk r)
theorem rV_f {r : Run} (h : RunOk r → False) : rV r = false := decide_eq_false h
theorem rV_t {r : Run} (h : RunOk r) : rV r = true := decide_eq_true h
theorem rV_o {r : Run} (h : rV r = true) : RunOk r := of_decide_eq_true h
def Run.zero : Run := ⟨0, 0⟩
def addI (r : Run) (g f : Int) : Run × Int := if rV r then (if vfV g f then (if r.vol + (g * f + r.rest) / 1000000 ≤ 1099511627776 then (⟨r.vol + (g * f + r.rest) / 1000000, (g * f + r.rest) % 1000000⟩, 0) else (Run.zero, 4)) else (Run.zero, 1)) else (Run.zero, 9)
theorem add_ok {r : Run} {g f : Int} {x : Run} (h : addI r g f = (x, 0)) : RunOk x ∧ r.vol ≤ x.vol := by
  unfold addI at h
  split at h
  · rename_i h1
    split at h
    · rename_i h2
      split at h
      · rename_i h3
        cases h
        have := rV_o h1
        have m := vf_mul (vfV_o h2)
        have a1 := this.vol
        have a2 := this.rest
        refine ⟨⟨⟨?_, h3⟩, ?_, ?_⟩, ?_⟩ <;> dsimp only <;> omega
      · cases h
    · cases h
  · cases h
def begI (m : Mtr) (p : Prd) (b : Int) : Int := if mV m && pV p then (if 0 ≤ b ∧ b < 1000 then 0 else 8) else 9
def ticOf (b : Int) (x y : Cnt) (c : Cnd) (v : Int) : Tic := ⟨b, x.last, x.pul, y.last, y.pul, c.te, c.pr, v⟩
def makI (m : Mtr) (p : Prd) (b : Int) (x y : Cnt) (c : Cnd) : Tic × Int :=
  if begI m p b = 0 then (if (betI m x y).2 = 0 then (if (facI p c).2 = 0 then (if (stdI (betI m x y).1 (facI p c).1).2 = 0 then (ticOf b x y c (stdI (betI m x y).1 (facI p c).1).1, 0)
    else (Tic.zero, (stdI (betI m x y).1 (facI p c).1).2)) else (Tic.zero, (facI p c).2)) else (Tic.zero, (betI m x y).2)) else (Tic.zero, begI m p b)
def Tic.fr (t : Tic) : Cnt := ⟨t.fl, t.fp⟩
def Tic.to (t : Tic) : Cnt := ⟨t.tl, t.tp⟩
def Tic.cd (t : Tic) : Cnd := ⟨t.te, t.pr⟩
def chkI (m : Mtr) (p : Prd) (t : Tic) : Int := if (makI m p t.ba t.fr t.to t.cd).2 = 0 then (if (makI m p t.ba t.fr t.to t.cd).1 = t then 0 else 26) else (makI m p t.ba t.fr t.to t.cd).2
def stepI (m : Mtr) (p : Prd) (b : Int) (r : Run) (x y : Cnt) (c : Cnd) : Tic × Run × Int :=
  if (betI m x y).2 = 0 then (if (facI p c).2 = 0 then (if (addI r (betI m x y).1 (facI p c).1).2 = 0 then (ticOf b x y c ((addI r (betI m x y).1 (facI p c).1).1.vol - r.vol), (addI r (betI m x y).1 (facI p c).1).1, 0)
    else (Tic.zero, Run.zero, (addI r (betI m x y).1 (facI p c).1).2)) else (Tic.zero, Run.zero, (facI p c).2)) else (Tic.zero, Run.zero, (betI m x y).2)
def chGo (m : Mtr) (p : Prd) (b : Int) (cs : List Cnt) : List Cnd → Nat → Run → List Tic → List Tic × Run × Int
  | [], _, r, out => (out, r, 0)
  | c :: l, i, r, out => if (stepI m p b r (cs.getD i ⟨0, 0⟩) (cs.getD (i + 1) ⟨0, 0⟩) c).2.2 = 0 then chGo m p b cs l (i + 1) (stepI m p b r (cs.getD i ⟨0, 0⟩) (cs.getD (i + 1) ⟨0, 0⟩) c).2.1 (out ++ [(stepI m p b r (cs.getD i ⟨0, 0⟩) (cs.getD (i + 1) ⟨0, 0⟩) c).1])
    else ([], Run.zero, (stepI m p b r (cs.getD i ⟨0, 0⟩) (cs.getD (i + 1) ⟨0, 0⟩) c).2.2)
def chI (m : Mtr) (p : Prd) (b : Int) (cs : List Cnt) (l : List Cnd) : List Tic × Run × Int :=
  if begI m p 0 = 0 ∧ cs.length = l.length + 1 ∧ l.length ≤ 1000 then (if begI m p b = 0 then chGo m p b cs l 0 Run.zero [] else ([], Run.zero, begI m p b)) else ([], Run.zero, 9)
def ticB (b : Int) (t : Tic) : Bool := t.ba == b && (decide (0 ≤ t.vol) && decide (t.vol ≤ 1099511627776))
def totGo (b : Int) : List Tic → Int → Int
  | [], s => s
  | t :: l, s => totGo b l (if ticB b t then IntKind.i64.wrap (s + t.vol) else s)
def totI (b : Int) (l : List Tic) : Int := totGo b l 0
end Go.Proofs.YtehmmnnmkapfeaaDoor
