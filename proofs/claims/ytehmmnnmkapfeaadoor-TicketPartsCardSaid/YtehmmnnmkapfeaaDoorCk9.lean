/- TicketParts: Hints CtE Nw CtR CtL Base Spn Laid Src Args Bridge CtH CodeCZ CodeSE. -/
import Derived.Test.YtehmmnnmkapfeaaDoorCk8
import Derived.Test.YtehmmnnmkapfeaaDoorCk4
import Derived.Test.YtehmmnnmkapfeaaDoorCk5
import Derived.Test.YtehmmnnmkapfeaaDoorCk7
import Derived.Test.YtehmmnnmkapfeaaDoorCk6
import Derived.WalkKit
import Derived.WalkSpells
import Derived.WalkLawsBesides
import Derived.Deep.QuietTactic
import Derived.BigQuiet
import Derived.Lib.Hide
import Derived.Handy
import Derived.OpenShut
import Derived.Test.YtehmmnnmkapfeaaDoorRows
import Derived.LaidLaws
import Derived.ChangeArms
import Derived.Test.YtehmmnnmkapfeaaDoorCk3
import Derived.Test.YtehmmnnmkapfeaaDoorProg
set_option linter.unusedSimpArgs false
set_option linter.unusedVariables false
set_option maxRecDepth 100000
/- What runs of functions must know of their loops (printed by a program). -/
namespace Go.Proofs.YtehmmnnmkapfeaaDoor
open Go
def hints : List (FuncId × Hint) := [
  (3, ⟨[([1, 2, 7, 8, 9, 10, 11, 12, 13], [])], false, []⟩),
  (4, ⟨[([1, 5, 6, 7, 8, 9, 10], []), ([6, 7, 8, 9, 13, 18], [])], false, []⟩),
  (6, ⟨[([0, 1, 2, 7, 8, 9, 10, 11, 12], [])], false, []⟩),
  (7, ⟨[([1, 2, 7, 8, 9, 10, 11, 12, 13, 14], []), ([1, 2, 7, 13, 17, 23, 24], [])], false, []⟩),
  (8, ⟨[([4, 5, 6, 7, 10, 13, 14, 15, 16], [])], false, []⟩),
  (15, ⟨[([0, 3, 5, 6, 7], [])], false, []⟩),
  (21, ⟨[([2, 3, 5, 6, 11, 15, 16, 50, 51, 52], [])], false, []⟩),
  (22, ⟨[([2, 3, 4, 5, 6, 11, 14, 15, 16], [])], false, []⟩),
  (23, ⟨[([0, 1, 5], [])], false, []⟩),
  (26, ⟨[([1, 5, 8, 9, 10], [])], false, []⟩),
  (27, ⟨[([0, 1, 5, 6], [])], false, []⟩),
  (29, ⟨[([0, 3, 4], [])], false, []⟩),
  (30, ⟨[([0, 1, 2, 7, 8], [])], false, []⟩),
  (31, ⟨[([0, 1, 2, 7], [])], false, []⟩),
  (34, ⟨[([0, 1, 2, 7, 27, 28, 29], []), ([0, 1, 7, 13, 59, 60, 61], [])], false, []⟩),
  (37, ⟨[([2, 7, 20, 21, 22], [])], false, []⟩),
  (39, ⟨[([0, 2, 3, 4], []), ([0, 2, 3, 5, 6], []), ([0, 2, 3, 5, 7], []), ([0, 2, 3, 5, 9], [])], false, []⟩),
  (40, ⟨[([0, 2, 7, 11, 12, 13], [])], false, []⟩),
  (41, ⟨[([0, 3, 4, 5, 6], [])], false, []⟩),
  (42, ⟨[([1, 2, 4, 13, 37, 38, 39], [])], false, []⟩),
  (43, ⟨[([1, 2, 3, 4, 13, 14], [])], false, []⟩),
  (44, ⟨[([0, 1, 5], [])], false, []⟩),
  (45, ⟨[([0, 1, 2, 7, 11], []), ([0, 1, 2, 7, 12, 13], [])], false, []⟩),
  (46, ⟨[([0, 1, 6], []), ([0, 1, 7, 8], []), ([0, 1, 9], []), ([0, 1, 10, 11], [])], false, []⟩),
  (48, ⟨[([0, 3, 4, 5, 6], []), ([0, 3, 4, 5, 7, 8], []), ([0, 3, 4, 5, 7, 8, 9, 10, 11, 12, 13], []), ([0, 3, 4, 5, 7, 8, 9, 10, 11, 12, 13, 90, 91, 92], []), ([0, 3, 4, 5, 7, 8, 9, 10, 11, 12, 13, 16, 139, 140, 141], []), ([0, 3, 4, 5, 7, 8, 11, 239, 240, 241], [])], false, []⟩),
  (49, ⟨[([0, 2, 4, 7, 8], [])], false, []⟩),
  (50, ⟨[([1, 3, 4, 6, 12, 13, 14, 15, 60, 61], []), ([3, 4, 6, 12, 13, 14, 15, 80, 81, 82], []), ([3, 4, 6, 12, 13, 14, 15, 20, 21, 22, 23, 24, 80, 81, 82, 87, 88, 89], []), ([3, 4, 6, 12, 13, 14, 15, 20, 21, 22, 23, 24, 80, 81, 82, 146, 147, 148], []), ([3, 4, 6, 12, 13, 14, 15, 23, 24, 31, 80, 81, 82, 209, 210, 211], []), ([3, 4, 6, 12, 13, 14, 15, 23, 31, 80, 81, 82, 224, 225, 226], []), ([12, 13, 14, 15, 272, 273], []), ([12, 13, 15, 295, 296], [])], false, []⟩),
  (57, ⟨[([3, 6, 34, 35, 36], [])], false, []⟩),
  (66, ⟨[([0, 10, 11, 12], []), ([0, 20, 21, 22], [])], false, []⟩),
  (67, ⟨[([0, 8, 9, 10], [])], false, []⟩),
  (68, ⟨[([3, 6, 7, 8], [])], false, []⟩),
  (70, ⟨[([0, 3, 9, 10, 11], [])], false, []⟩),
  (71, ⟨[([0, 3, 6, 7], [])], false, []⟩),
  (74, ⟨[([3, 7, 8, 9], [])], false, []⟩),
  (76, ⟨[([0, 8, 9, 10, 11], [])], false, []⟩),
  (77, ⟨[([1, 9, 10], [])], false, []⟩),
  (78, ⟨[([1, 51, 52, 53], []), ([1, 5, 65, 66], []), ([1, 5, 65, 66, 69, 70, 71], []), ([1, 80, 81], []), ([1, 89, 90], []), ([1, 12, 13, 89, 90], []), ([1, 14, 117, 118, 119], []), ([1, 14, 137, 138, 139], []), ([1, 14, 150, 151, 152], []), ([1, 163, 164, 165], []), ([1, 174, 175, 176], []), ([1, 186, 187, 188], [])], false, []⟩),
  (79, ⟨[([0, 9, 10], []), ([0, 21, 22], [])], false, []⟩),
  (81, ⟨[([1, 2, 3, 13, 14], []), ([1, 2, 3, 31, 32], [])], false, []⟩),
  (82, ⟨[([3, 31, 32], [])], false, []⟩),
  (86, ⟨[([3, 6, 7, 8], [])], false, []⟩),
  (87, ⟨[([1, 5, 6, 19, 20, 21], []), ([1, 5, 6, 8, 9, 10, 19, 20, 21], []), ([1, 5, 6, 8, 9, 19, 20, 21, 43, 44], []), ([5, 71, 72], [])], false, []⟩),
  (88, ⟨[([0, 3, 4], [])], false, []⟩),
  (91, ⟨[([1, 3, 8, 9], [])], false, []⟩),
  (101, ⟨[([0, 3], [])], false, []⟩),
  (104, ⟨[([3, 6, 7, 8], [])], false, []⟩),
  (108, ⟨[([0, 1, 7, 8], [])], false, []⟩),
  (110, ⟨[([1, 2, 3, 14, 15, 16], []), ([1, 2, 3, 29, 30, 31], []), ([2, 3, 44, 45, 46], [])], false, []⟩),
  (113, ⟨[([0, 19, 20], [])], false, []⟩),
  (114, ⟨[([1, 10, 11], []), ([1, 4, 10, 11, 14, 15, 16], []), ([1, 29, 30, 31], [])], false, []⟩),
  (115, ⟨[([1, 3, 11, 12, 13], []), ([1, 3, 26, 27, 28], []), ([1, 3, 39, 40, 41], [])], false, []⟩),
  (118, ⟨[([1, 2, 3, 14, 15, 16], []), ([1, 2, 3, 29, 30, 31], []), ([2, 3, 44, 45, 46], [])], false, []⟩),
  (119, ⟨[([0, 6, 7], []), ([0, 3, 4, 6, 7], [])], false, []⟩),
  (120, ⟨[([1, 51, 52, 53], [])], false, []⟩),
  (121, ⟨[([0, 1, 7, 8], [])], false, []⟩),
  (122, ⟨[([1, 2, 20, 21], []), ([1, 2, 32, 33], [])], false, []⟩),
  (123, ⟨[([2, 3, 45, 46, 47], []), ([2, 3, 70, 71, 72], []), ([2, 3, 85, 86], [])], false, []⟩),
  (124, ⟨[([2, 3, 5, 6], []), ([2, 3, 5, 6, 7, 20, 21], []), ([2, 3, 5, 6, 7, 8, 9, 20, 21, 30, 31, 32], [])], false, []⟩),
  (125, ⟨[([0, 1, 5, 8, 9], [])], false, []⟩),
  (126, ⟨[([1, 6, 7, 11, 12, 13], [])], false, []⟩),
  (132, ⟨[([0, 1, 7, 8], [])], false, []⟩),
  (136, ⟨[([0, 1, 7, 8], [])], false, []⟩),
  (138, ⟨[([0, 1, 7, 8], [])], false, []⟩),
  (139, ⟨[([0, 1, 7, 8], [])], false, []⟩),
  (143, ⟨[([1, 29, 30, 31], [])], false, []⟩),
  (149, ⟨[([2, 3, 4, 8, 9, 17, 18, 19], []), ([2, 4, 8, 9, 64, 65, 66], [])], false, []⟩),
  (151, ⟨[([0, 1, 7, 8], [])], false, []⟩),
  (152, ⟨[([0, 1, 7, 8], [])], false, []⟩)]
theorem awake37_c (nn : Nm) : CallsA Tryd.prog 10 [] Hp.none nn (Pu (db true) Hp.none) := run_c mixed hints 200 30 (by kernel_rfl)
def rowNew : List D → Hp → Nm → Option (Prop × (D → Hp → Prop)) := fun args Hs nn =>
  match args with
  | [.sl L] => some (Hs = Hp.none, Pu (.ptr nn 0 0 0) (Hp.none.put nn (sE (L.take 2000) 0)))
  | _ => Option.none
theorem tc_new {T : Tbl} (hT : TblOk Tryd.prog T) : TblOk Tryd.prog (tc 11 rowNew T) :=
  tc_row f11_ok (fun args Hs nn pre R hr hp => by
    unfold rowNew at hr
    split at hr
    · cases hr
      subst hp
      exact ⟨⟨_, _, rfl, rfl⟩, New_c _ nn⟩
    · cases hr) hT
theorem AllI.one {α : Type} {P : Nat → α → Prop} {x : α} (h : P 0 x) : AllI P [x] := (AllI.nil P).snoc h
theorem AllI.two {α : Type} {P : Nat → α → Prop} {x y : α} (h : P 0 x) (k : P 1 y) : AllI P [x, y] := (AllI.one h).snoc k
def selAw : List D → Option (Prop × D)
  | [] => some (True, db true)
  | _ => Option.none
theorem src_new (ns : List Int) (h : ∀ n ∈ ns, InI n) : SrcOk ((ns.map fun n => [di n]).take 2000) 0 :=
  ⟨Int.le_refl _, Int.natCast_nonneg _, by rw [List.length_take]; omega, ns.take 2000, by rw [List.map_take], fun n hn => h n (List.mem_of_mem_take hn)⟩
theorem tc_meter {T : Tbl} (hT : TblOk Tryd.prog T) : TblOk Tryd.prog (tc 12 (rowSrc (sel0 MtrOk) Mtr.enc) T) :=
  tc_src f12_ok (fun args pre post h hp => by
    unfold sel0 at h
    split at h <;> cases h
    exact ⟨⟨⟨1, 16, 100000⟩, by decide, by decide, by decide⟩, Meter_s⟩) hT
theorem tc_cond {T : Tbl} (hT : TblOk Tryd.prog T) : TblOk Tryd.prog (tc 16 (rowSrc (sel0 CndIn) Cnd.enc) T) :=
  tc_src f16_ok (fun args pre post h hp => by
    unfold sel0 at h
    split at h <;> cases h
    exact ⟨⟨⟨150, 0⟩, by unfold CndIn cdOk; decide⟩, Condition_s⟩) hT
def selPd : List D → Option (Prop × (Prd → Prop))
  | [.v (.int .i64 n)] => some (0 ≤ n ∧ n < 26, PrdIn n)
  | _ => Option.none
theorem tc_prod {T : Tbl} (hT : TblOk Tryd.prog T) : TblOk Tryd.prog (tc 13 (rowSrc selPd Prd.enc) T) :=
  tc_src f13_ok (fun args pre post h hp => by
    unfold selPd at h
    split at h <;> cases h
    exact ⟨⟨⟨nm1B ⟨#[112]⟩ _, 800, 0, 0, 1000⟩, rfl, ⟨by dsimp only; omega, by dsimp only; omega⟩, ⟨by dsimp only; omega, by dsimp only; omega⟩, ⟨by dsimp only; omega, by dsimp only; omega⟩, ⟨by dsimp only; omega, by dsimp only; omega⟩⟩, Product_s _ hp⟩) hT
def rowCts : List D → Hp → Nm → Option (Prop × (D → Hp → Prop)) := fun args Hs nn =>
  match args with
  | [.ptr i g r c, .agg a] =>
    match Hs i, mtrOf a with
    | some ⟨_, _, [[.sl L, .v (.int .i64 at')]]⟩, some m => some ((Hs = Hp.none.put i (sE L at') ∧ g = 0 ∧ r = 0 ∧ c = 0) ∧ SrcOk L at' ∧ (nn.1 ≤ i.1 ∧ nn ≠ i) ∧ MtrOk m, SrcO i nn L 2 Cnt.row (CtsOk m))
    | _, _ => Option.none
  | _ => Option.none
theorem cts_one (m : Mtr) : CtsOk m [⟨0, 0⟩] := ⟨by simp, rfl, fun j hj => by
    obtain rfl : j = 0 := by simp at hj; exact hj
    exact ⟨by show (0 : Int) = 0 % spI m.bits; rw [Int.zero_emod], by decide, by decide⟩, fun j hj => by simp at hj⟩
theorem tc_cts {T : Tbl} (hT : TblOk Tryd.prog T) : TblOk Tryd.prog (tc 15 rowCts T) :=
  tc_row f15_ok (fun args Hs nn pre R hr hp => by
    unfold rowCts at hr
    split at hr
    · split at hr
      · rename_i e
        cases hr
        obtain ⟨⟨h1, rfl, rfl, rfl⟩, h2, h3, h4⟩ := hp
        rw [h1, mtrOf_eq e]
        exact ⟨⟨_, _, _, 0, [⟨0, 0⟩], h2, cts_one _, rfl, rfl⟩, counts_o _ h4 _ _ _ _ h2 h3.1 h3.2⟩
      · cases hr
    · cases hr) hT
def rowChn : List D → Hp → Nm → Option (Prop × (D → Hp → Prop)) := fun args Hs nn =>
  match decCh args with
  | some a => some (Hs = Hp.none ∧ ChOk a, ChR nn (chI a.m a.p a.b a.cs a.l))
  | Option.none => Option.none
theorem chR_ex (nn : Nm) (X : List Tic × Run × Int) : ∃ v H', ChR nn X v H' := by
  by_cases h : X.2.2 = 0
  · exact ⟨_, _, .inr ⟨h, 0, rfl, rfl⟩⟩
  · exact ⟨_, _, .inl ⟨h, rfl, .inl rfl⟩⟩
theorem tc_chn {T : Tbl} (hT : TblOk Tryd.prog T) : TblOk Tryd.prog (tc 21 rowChn T) :=
  tc_row f21_ok (fun args Hs nn pre R hr hp => by
    unfold rowChn at hr
    split at hr
    · rename_i a e
      cases hr
      obtain ⟨rfl, h⟩ := hp
      rw [decCh_eq _ _ e]
      exact ⟨chR_ex _ _, tchain_o _ _ _ _ _ h nn⟩
    · cases hr) hT
theorem cts_asc {m : Mtr} {cs : List Cnt} (h : CtsOk m cs) (i : Nat) : ∀ n, i + n < cs.length → (cnA cs i).pul ≤ (cnA cs (i + n)).pul
  | 0, _ => Int.le_refl _
  | n + 1, hn => Int.le_trans (cts_asc h i n (by omega)) (h.asc (i + n) (by omega))
theorem cts_cnt {m : Mtr} (hm : MtrOk m) {cs : List Cnt} (h : CtsOk m cs) {j : Nat} (hj : j < cs.length) : CntOk m (cnA cs j) := by
  obtain ⟨h1, h2⟩ := h.ok j hj
  have hl := h.len
  have e : spI m.bits = spanI m := by
    unfold spI spanI
    rcases hm.bits with e | e <;> rw [e] <;> rfl
  have sb := spanI_le m
  refine ⟨?_, by omega⟩
  rw [h1, e]
  exact ⟨Int.emod_nonneg _ (by omega), Int.emod_lt_of_pos _ (by omega)⟩
theorem cts_lit {m : Mtr} (hm : MtrOk m) {n : Int} (h0 : 0 ≤ n) (h1 : n ≤ 300000) : 0 ≤ litI m n ∧ litI m n ≤ 600000000 := by
  have h2 := hm.pl
  have h3 := hm.fac
  have m1 := mul_rng (E := 300000) (D1 := 0) (D2 := 200000) h0 h1 (show 0 ≤ m.fac by omega) h3.2 (by omega) (by omega)
  refine ⟨Int.ediv_nonneg (by omega) (by omega), Int.ediv_le_of_le_mul (by omega) ?_⟩
  omega
theorem cts_bet {m : Mtr} (hm : MtrOk m) {cs : List Cnt} (h : CtsOk m cs) (i n : Nat) (hj : i + n < cs.length) :
    betI m (cnA cs i) (cnA cs (i + n)) = (litI m (cnA cs (i + n)).pul - litI m (cnA cs i).pul, 0) ∧ (0 ≤ litI m (cnA cs (i + n)).pul - litI m (cnA cs i).pul ∧ litI m (cnA cs (i + n)).pul - litI m (cnA cs i).pul ≤ 600000000) := by
  have a := cts_asc h i n hj
  have hl := h.len
  have b1 := (h.ok i (by omega)).2
  have b2 := (h.ok (i + n) hj).2
  refine ⟨?_, ?_⟩
  · unfold betI
    rw [mV_t hm, cV_t (cts_cnt hm h (by omega)), cV_t (cts_cnt hm h hj)]
    simp [a]
  · have c1 := cts_lit hm b1.1 (by omega)
    have c2 := cts_lit hm b2.1 (by omega)
    have c3 : litI m (cnA cs i).pul ≤ litI m (cnA cs (i + n)).pul := mLit_le hm.pl.1 (by have := hm.fac; omega) a
    omega
theorem cts_step {m : Mtr} (hm : MtrOk m) {p : Prd} (hp : PrdOk p) {cs : List Cnt} (h : CtsOk m cs) (b : Int) {r : Run} (hr : RunOk r) (hv : r.vol ≤ 5000000000) {c : Cnd} (hc : cdOk c.te c.pr) (i n : Nat) (hj : i + n < cs.length) :
    ∃ t x, stepI m p b r (cnA cs i) (cnA cs (i + n)) c = (t, x, 0) ∧ RunOk x ∧ x.vol ≤ r.vol + 1000000000 ∧ x.vol * 1000000 + x.rest = r.vol * 1000000 + r.rest + (litI m (cnA cs (i + n)).pul - litI m (cnA cs i).pul) * fac p.ex p.co c.te c.pr := by
  obtain ⟨e1, g1⟩ := cts_bet hm h i n hj
  have e2 : facI p c = (fac p.ex p.co c.te c.pr, 0) := by unfold facI; rw [pV_t hp, cdV_t hc]; simp
  have f1 := (fac_bd hp.ex hp.co hc).2
  generalize litI m (cnA cs (i + n)).pul - litI m (cnA cs i).pul = g at e1 g1 ⊢
  generalize fac p.ex p.co c.te c.pr = f at e2 f1 ⊢
  have m1 := mul_rng (E := 600000000) (D1 := 0) (D2 := 1221000) g1.1 g1.2 (show 0 ≤ f by omega) f1.2 (by omega) (by omega)
  have q1 := hr.vol
  have q2 := hr.rest
  have e3 : addI r g f = (⟨r.vol + (g * f + r.rest) / 1000000, (g * f + r.rest) % 1000000⟩, 0) := by
    unfold addI
    rw [rV_t hr, vfV_t ⟨⟨by omega, by omega⟩, by omega, by omega⟩]
    rw [if_pos rfl, if_pos rfl, if_pos (by omega)]
  refine ⟨_, _, step_o (by rw [e1]) (by rw [e2]) (by rw [e1, e2, e3]), ?_⟩
  rw [e1, e2]
  dsimp only
  rw [e3]
  dsimp only
  exact ⟨⟨⟨by dsimp only; omega, by dsimp only; omega⟩, by dsimp only; omega, by dsimp only; omega⟩, by omega, by omega⟩
theorem chGo_cong (m : Mtr) (p : Prd) (b : Int) (cs cs' : List Cnt) : ∀ (l : List Cnd) (i : Nat) (r : Run) (out : List Tic), (∀ j, i ≤ j → j < i + l.length + 1 → cnA cs j = cnA cs' j) → chGo m p b cs l i r out = chGo m p b cs' l i r out
  | [], i, r, out, _ => rfl
  | c :: l, i, r, out, h => by
    have h0 := h i (Nat.le_refl _) (by simp only [List.length_cons]; omega)
    have h1 := h (i + 1) (by omega) (by simp only [List.length_cons]; omega)
    unfold cnA at h0 h1
    rw [chGo, chGo, h0, h1]
    split
    · exact chGo_cong m p b cs cs' l (i + 1) _ _ (fun j g1 g2 => h j (by omega) (by simp only [List.length_cons]; omega))
    · rfl
theorem chGo_cts {m : Mtr} (hm : MtrOk m) {p : Prd} (hp : PrdOk p) {cs : List Cnt} (h : CtsOk m cs) (b : Int) (l : List Cnd) : ∀ (i : Nat) (r : Run) (out : List Tic), i + l.length < cs.length → (∀ c, c ∈ l → cdOk c.te c.pr) → RunOk r → r.vol ≤ (i : Int) * 1000000000 →
    ∃ ts x, chGo m p b cs l i r out = (out ++ ts, x, 0) ∧ ts.length = l.length ∧ RunOk x ∧ (∀ k, k ≤ l.length → ∃ r', chGo m p b cs (l.take k) i r out = (out ++ ts.take k, r', 0)) ∧
      (∀ d, (∀ c, c ∈ l → c = d) → x.vol * 1000000 + x.rest = r.vol * 1000000 + r.rest + (litI m (cnA cs (i + l.length)).pul - litI m (cnA cs i).pul) * fac p.ex p.co d.te d.pr) := by
  induction l with
  | nil => exact fun i r out _ _ hr _ => ⟨[], r, by rw [chGo, List.append_nil], rfl, hr, fun k hk => ⟨r, by rw [List.take_nil, List.take_nil, chGo, List.append_nil]⟩, fun d _ => by simp [Int.sub_self]⟩
  | cons c l ih =>
    intro i r out hi hc hr hv
    simp only [List.length_cons] at hi
    have hl := h.len
    obtain ⟨t, x, s1, s2, s3, s4⟩ := cts_step hm hp h b hr (by omega) (hc c (List.mem_cons_self ..)) i 1 (by omega)
    obtain ⟨ts, y, y1, y2, y3, y4, y5⟩ := ih (i + 1) x (out ++ [t]) (by omega) (fun c h => hc c (List.mem_cons_of_mem _ h)) s2 (by omega)
    have s1' := s1
    unfold cnA at s1'
    refine ⟨t :: ts, y, ?_, by simp [y2], y3, fun k hk => ?_, fun d hd => ?_⟩
    · rw [chGo, s1', if_pos rfl, y1, List.append_assoc, List.singleton_append]
    · match k, hk with
      | 0, _ => exact ⟨r, by rw [List.take_zero, List.take_zero, chGo, List.append_nil]⟩
      | k + 1, hk =>
        obtain ⟨r', h'⟩ := y4 k (by simp at hk; omega)
        refine ⟨r', ?_⟩
        rw [List.take_succ_cons, List.take_succ_cons, chGo, s1', if_pos rfl, h', List.append_assoc, List.singleton_append]
    · have g1 := y5 d (fun c h => hd c (List.mem_cons_of_mem _ h))
      have g2 := hd c (List.mem_cons_self ..)
      rw [g2] at s4
      rw [g1, s4, List.length_cons, show i + (l.length + 1) = i + 1 + l.length by omega, Int.add_assoc, ← Int.add_mul]
      congr 2
      omega
theorem begI_ok {m : Mtr} (hm : MtrOk m) {p : Prd} (hp : PrdOk p) : begI m p 0 = 0 := by
  unfold begI
  rw [mV_t hm, pV_t hp]
  rfl
theorem cn_take {cs : List Cnt} {k j : Nat} (h : j < k) : cnA (cs.take k) j = cnA cs j := by
  unfold cnA
  rw [List.getD_eq_getElem?_getD, List.getD_eq_getElem?_getD, List.getElem?_take_of_lt h]
theorem run_det {x y : Run} (hx : RunOk x) (hy : RunOk y) (h : x.vol * 1000000 + x.rest = y.vol * 1000000 + y.rest) : x = y := by
  have a := hx.rest
  have b := hy.rest
  cases x
  cases y
  dsimp only at *
  congr 1 <;> omega
theorem parts_ok {m : Mtr} (hm : MtrOk m) {p : Prd} (hp : PrdOk p) {cs : List Cnt} (h : CtsOk m cs) {l : List Cnd} (hl : cs.length = l.length + 1) (hc : ∀ c, c ∈ l → cdOk c.te c.pr) :
    ∃ ts r, chI m p 0 cs l = (ts, r, 0) ∧ ts.length = l.length ∧ ∀ k, k ≤ l.length → ∃ r', chI m p 0 (cs.take (k + 1)) (l.take k) = (ts.take k, r', 0) := by
  have hn := h.len
  obtain ⟨ts, x, y1, y2, y3, y4, y5⟩ := chGo_cts hm hp h 0 l 0 Run.zero [] (by omega) hc ⟨⟨by decide, by decide⟩, by decide, by decide⟩ (by decide)
  refine ⟨ts, x, ?_, y2, fun k hk => ?_⟩
  · unfold chI
    rw [if_pos ⟨begI_ok hm hp, hl, by omega⟩, if_pos (begI_ok hm hp), y1, List.nil_append]
  · obtain ⟨r', h'⟩ := y4 k hk
    refine ⟨r', ?_⟩
    unfold chI
    rw [if_pos ⟨begI_ok hm hp, by simp; omega, by simp; omega⟩, if_pos (begI_ok hm hp), chGo_cong m p 0 _ cs _ 0 _ _ (fun j g1 g2 => cn_take (by simp at g2; omega)), h', List.nil_append]
theorem parts_one {m : Mtr} (hm : MtrOk m) {p : Prd} (hp : PrdOk p) {cs : List Cnt} (h : CtsOk m cs) {l : List Cnd} (hl : cs.length = l.length + 1) {d : Cnd} (hd : cdOk d.te d.pr) (hc : ∀ c, c ∈ l → c = d) :
    ∃ ts r ts', chI m p 0 cs l = (ts, r, 0) ∧ ts.length = l.length ∧ chI m p 0 [cnA cs 0, cnA cs (cs.length - 1)] [d] = (ts', r, 0) := by
  have hn := h.len
  have z : RunOk Run.zero := ⟨⟨by decide, by decide⟩, by decide, by decide⟩
  obtain ⟨ts, x, y1, y2, y3, y4, y5⟩ := chGo_cts hm hp h 0 l 0 Run.zero [] (by omega) (fun c h => by rw [hc c h]; exact hd) z (by decide)
  obtain ⟨t, r, s1, s2, s3, s4⟩ := cts_step hm hp h 0 z (by decide) hd 0 (cs.length - 1) (by omega)
  have e := y5 d hc
  rw [Nat.zero_add] at s1 s4 e
  rw [show cs.length - 1 = l.length by omega, ← e] at s4
  have e2 := run_det s2 y3 s4
  subst e2
  refine ⟨ts, r, [t], ?_, y2, ?_⟩
  · unfold chI
    rw [if_pos ⟨begI_ok hm hp, hl, by omega⟩, if_pos (begI_ok hm hp), y1, List.nil_append]
  · unfold chI
    rw [if_pos ⟨begI_ok hm hp, rfl, by simp⟩, if_pos (begI_ok hm hp), chGo]
    show (if (stepI m p 0 Run.zero (cnA cs 0) (cnA cs (cs.length - 1)) d).2.2 = 0 then _ else _) = _
    rw [if_pos (by rw [s1])]
    show chGo m p 0 _ [] 1 (stepI m p 0 Run.zero (cnA cs 0) (cnA cs (cs.length - 1)) d).2.1 ([] ++ [(stepI m p 0 Run.zero (cnA cs 0) (cnA cs (cs.length - 1)) d).1]) = _
    rw [s1]
    rfl
end Go.Proofs.YtehmmnnmkapfeaaDoor

/- Small plain notions for walks over worlds: 'Only': no old block but one has changed; 'Kept': no old block has changed. No program in sight. -/
namespace Go.Proofs.YtehmmnnmkapfeaaDoor
open Go.RowKit
abbrev Kept (w w' : World) : Prop := Below w.heap.size w w'
theorem Kept.refl (w : World) : Kept w w := Below.refl _ _
theorem Kept.trans {a b c : World} (h : Kept a b) (k : Kept b c) : Kept a c := Below.trans h (Below.mono k h.size)
theorem Kept.alloc {a w : World} (h : Kept a w) (o : Obj) : Kept a (w.alloc o) := Below.alloc h h.size o
theorem Kept.drew {a w : World} (h : Kept a w) : Kept a w.drew := Below.drew h
theorem Kept.setCell {a w : World} (h : Kept a w) {p : Addr} (hp : a.heap.size ≤ p.block) (u : Value) : Kept a (w.setCell p u) := Below.setCell h hp u
structure Only (bs : Nat) (w w' : World) : Prop where
  os : w'.os = w.os
  tape : w'.tape = w.tape
  output : w'.output = w.output
  size : w.heap.size ≤ w'.heap.size
  block : ∀ k, k < w.heap.size → k ≠ bs → w'.heap[k]? = w.heap[k]?
theorem Only.refl (bs : Nat) (w : World) : Only bs w w := ⟨rfl, rfl, rfl, Nat.le_refl _, fun _ _ _ => rfl⟩
theorem Only.trans {bs : Nat} {a b c : World} (h : Only bs a b) (k : Only bs b c) : Only bs a c :=
  ⟨k.os.trans h.os, k.tape.trans h.tape, k.output.trans h.output, Nat.le_trans h.size k.size, fun i hi hn => (k.block i (Nat.lt_of_lt_of_le hi h.size) hn).trans (h.block i hi hn)⟩
theorem Only.of_kept {bs : Nat} {w w' : World} (h : Kept w w') : Only bs w w' := ⟨h.os, h.tape, h.output, h.size, fun k hk _ => h.block k hk⟩
theorem Only.kept {bs : Nat} {a w w' : World} (h : Kept a w) (k : Only bs w w') (hb : a.heap.size ≤ bs) : Kept a w' :=
  ⟨k.os.trans h.os, k.tape.trans h.tape, k.output.trans h.output, Nat.le_trans h.size k.size, fun i hi => (k.block i (Nat.lt_of_lt_of_le hi h.size) (by omega)).trans (h.block i hi)⟩
theorem Only.alloc {bs : Nat} {a w : World} (h : Only bs a w) (o : Obj) : Only bs a (w.alloc o) := h.trans (.of_kept ((Kept.refl w).alloc o))
theorem Only.drew {bs : Nat} {a w : World} (h : Only bs a w) : Only bs a w.drew := ⟨h.os, h.tape, h.output, h.size, h.block⟩
theorem Only.setCell {bs : Nat} {a w : World} (h : Only bs a w) {p : Addr} (hp : p.block = bs ∨ a.heap.size ≤ p.block) (u : Value) : Only bs a (w.setCell p u) :=
  ⟨h.os, h.tape, h.output, by have := h.size; simpa [World.setCell] using this, fun k hk hn => by rw [Below.heap_setCell _ _ _ _ (by omega)]; exact h.block k hk hn⟩
def farCell (w : World) (b o : Nat) : Option Value := w.cell? ⟨b, o, none⟩
def farFree (w : World) (b o : Nat) : Bool := w.frozen? ⟨b, o, none⟩
theorem kcell {w w' : World} (hb : Kept w w') : (∀ b o, w'.cell? ⟨b, o, none⟩ = if b < w.heap.size then w.cell? ⟨b, o, none⟩ else farCell w' b o) ∧ (∀ b o, w'.frozen? ⟨b, o, none⟩ = if b < w.heap.size then w.frozen? ⟨b, o, none⟩ else farFree w' b o) :=
  ⟨fun b o => by split; · exact Below.cell hb (p := ⟨b, o, none⟩) ‹_›
                 · rfl,
   fun b o => by split; · exact Below.frozen hb (p := ⟨b, o, none⟩) ‹_›
                 · rfl⟩
theorem ocell {bs : Nat} {w w' : World} (hb : Only bs w w') : (∀ b o, w'.cell? ⟨b, o, none⟩ = if b < w.heap.size ∧ b ≠ bs then w.cell? ⟨b, o, none⟩ else farCell w' b o) ∧ (∀ b o, w'.frozen? ⟨b, o, none⟩ = if b < w.heap.size ∧ b ≠ bs then w.frozen? ⟨b, o, none⟩ else farFree w' b o) :=
  ⟨fun b o => by split; · exact World.cell?_of_block (w := w) (hb.block b (by omega) (by omega))
                 · rfl,
   fun b o => by split; · exact World.frozen?_of_block (w := w) (hb.block b (by omega) (by omega))
                 · rfl⟩
@[go_sem] theorem cell_alloc_ite (w : World) (c : Array Value) (t : TypeId) (fr : Nat × Nat) (n i : Nat) : (w.alloc (.cells c t fr)).cell? ⟨n, i, none⟩ = if n < w.heap.size then w.cell? ⟨n, i, none⟩ else if n = w.heap.size then c[i]? else farCell (w.alloc (.cells c t fr)) n i := by
  split
  · exact World.cell?_alloc_lt _ _ _ ‹_›
  split
  · subst n
    show (match (w.heap.push _)[w.heap.size]? with | some (.cells c _ _) => _ | _ => _) = _
    simp
  · rfl
@[go_sem] theorem free_alloc_ite (w : World) (c : Array Value) (t : TypeId) (n i : Nat) : (w.alloc (.cells c t)).frozen? ⟨n, i, none⟩ = if n < w.heap.size then w.frozen? ⟨n, i, none⟩ else if n = w.heap.size then false else farFree (w.alloc (.cells c t)) n i := by
  split
  · exact World.frozen?_alloc_past _ _ _ ‹_›
  split
  · exact World.frozen?_alloc_at _ _ _ _ ‹_›
  · rfl
@[go_sem] theorem cell_set_ite (w : World) (b o n i : Nat) (v : Value) : (w.setCell ⟨b, o, none⟩ v).cell? ⟨n, i, none⟩ = if b = n ∧ o = i then (w.cell? ⟨n, i, none⟩).map (fun _ => v) else w.cell? ⟨n, i, none⟩ := by
  split
  · obtain ⟨rfl, rfl⟩ := ‹_ ∧ _›
    cases hc : w.cell? ⟨b, o, none⟩ with
    | some u => exact World.cell?_setCell_same _ _ _ hc
    | none =>
      simp only [World.cell?, World.setCell, Array.getElem?_modify, if_pos] at hc ⊢
      cases hh : w.heap[b]? with
      | none => simp
      | some x =>
        rw [hh] at hc
        cases x <;> simp at hc ⊢
        omega
  · exact World.cell?_setCell_other _ _ _ _ (fun e => by injection e with e1 e2; exact (‹¬ (b = n ∧ o = i)› ⟨e1, e2⟩).elim)
theorem kcell1 {w w' : World} (hb : Kept w w') {b : Nat} (h : b < w.heap.size) (o : Nat) : w'.cell? ⟨b, o, none⟩ = w.cell? ⟨b, o, none⟩ := Below.cell hb (p := ⟨b, o, none⟩) h
theorem ocell1 {bs : Nat} {w w' : World} (hb : Only bs w w') {b : Nat} (h : b < w.heap.size) (hn : b ≠ bs) (o : Nat) : w'.cell? ⟨b, o, none⟩ = w.cell? ⟨b, o, none⟩ := World.cell?_of_block (w := w) (hb.block b h hn)
structure KW (w : World) where
  it : World
  kept : Kept w it
structure OW (bs : Nat) (w : World) where
  it : World
  only : Only bs w it
instance (w : World) : Nonempty (KW w) := ⟨⟨w, Kept.refl w⟩⟩
instance (bs : Nat) (w : World) : Nonempty (OW bs w) := ⟨⟨w, Only.refl bs w⟩⟩
@[go_sem] theorem kw_cell {w : World} (k : KW w) (b o : Nat) : k.it.cell? ⟨b, o, none⟩ = if b < w.heap.size then w.cell? ⟨b, o, none⟩ else farCell k.it b o := (kcell k.kept).1 b o
@[go_sem] theorem ow_cell {bs : Nat} {w : World} (k : OW bs w) (b o : Nat) : k.it.cell? ⟨b, o, none⟩ = if b < w.heap.size ∧ b ≠ bs then w.cell? ⟨b, o, none⟩ else farCell k.it b o := (ocell k.only).1 b o
theorem wp_region_kw {P : Program} {id : Nat} {Q : Exit → Act → World → Prop} {a : Act} {w : World} {l : List Oper} (hm : P.follows .mixedOrders = true) (hB : Region.lexB .any l.toArray = true)
    (h : wpQuiet P l.toArray (fun w' => ∃ k : KW w, w' = k.it) (fun a' => ∀ w', (∃ k : KW w, w' = k.it) → Q .normal a' w') l a) : (Code.region id l.toArray true).wp P Q a w :=
  wp_region_quiet (C := fun w' => ∃ k : KW w, w' = k.it) hm hB ⟨⟨w.drew, (Kept.refl w).drew⟩, rfl⟩ (by simpa using h)
def Ret (v : Value) (w : World) (e : Ending) (w' : World) : Prop := e = .returned v ∧ Kept w w'
theorem heap_new (w : World) (o : Obj) : (w.alloc o).heap[w.heap.size]? = some o := by
  show (w.heap.push o)[_]? = _
  simp
def Box (w : World) (b : Nat) (c : Array Value) : Prop := ∃ t, w.heap[b]? = some (.cells c t (0, 0))
theorem Box.cell {w : World} {b : Nat} {c : Array Value} (h : Box w b c) (i : Nat) : w.cell? ⟨b, i, none⟩ = c[i]? := by
  obtain ⟨t, h⟩ := h
  simp [World.cell?, h]
theorem Box.lt {w : World} {b : Nat} {c : Array Value} (h : Box w b c) : b < w.heap.size := by
  obtain ⟨t, h⟩ := h
  rcases Nat.lt_or_ge b w.heap.size with hl | hl
  · exact hl
  · rw [Array.getElem?_eq_none hl] at h; cases h
theorem Box.kept {w w' : World} {b : Nat} {c : Array Value} (h : Box w b c) (k : Kept w w') : Box w' b c := by
  have hl := h.lt
  obtain ⟨t, h⟩ := h
  exact ⟨t, by rw [k.block b hl]; exact h⟩
theorem Box.only {w w' : World} {b bs : Nat} {c : Array Value} (h : Box w b c) (k : Only bs w w') (hn : b ≠ bs) : Box w' b c := by
  have hl := h.lt
  obtain ⟨t, h⟩ := h
  exact ⟨t, by rw [k.block b hl hn]; exact h⟩
theorem Box.new {w : World} {b : Nat} {c : Array Value} {t : TypeId} (hb : b = w.heap.size) : Box (w.alloc (.cells c t)) b c := ⟨t, by subst hb; exact heap_new w _⟩
theorem Box.old {w : World} {b : Nat} {c : Array Value} (h : Box w b c) (o : Obj) : Box (w.alloc o) b c := h.kept ((Kept.refl w).alloc o)
theorem Box.drew {w : World} {b : Nat} {c : Array Value} (h : Box w b c) : Box w.drew b c := h
theorem Box.set {w : World} {b i : Nat} {c c' : Array Value} {v : Value} (h : Box w b c) (hc : c' = c.setIfInBounds i v) : Box (w.setCell ⟨b, i, none⟩ v) b c' := by
  obtain ⟨t, h⟩ := h
  refine ⟨t, ?_⟩
  subst hc
  simp [World.setCell, Array.getElem?_modify, h]
theorem Box.other {w : World} {b : Nat} {c : Array Value} {p : Addr} {v : Value} (h : Box w b c) (hn : b ≠ p.block) : Box (w.setCell p v) b c := by
  obtain ⟨t, h⟩ := h
  exact ⟨t, by rw [Below.heap_setCell _ _ _ _ hn]; exact h⟩
def I64 (n : Int) : Prop := -9223372036854775808 ≤ n ∧ n ≤ 9223372036854775807
def IsSrc (base : Nat) (w : World) (bs : Nat) : Prop :=
  ∃ (a : Option Addr) (len cap at' : Nat) (t : TypeId), base ≤ bs ∧ bs < w.heap.size ∧ len ≤ 2000 ∧ at' ≤ len ∧
    w.heap[bs]? = some (.cells #[.slice a len cap, .int .i64 at'] t (0, 0)) ∧
    (0 < len → ∃ b o, a = some ⟨b, o, none⟩ ∧ b < base ∧ ∀ i, i < len → ∃ n : Int, I64 n ∧ w.cell? ⟨b, o + i, none⟩ = some (.int .i64 n))
theorem IsSrc.lt {base : Nat} {w : World} {bs : Nat} (h : IsSrc base w bs) : base ≤ bs ∧ bs < w.heap.size := by
  obtain ⟨a, len, cap, at', t, h1, h2, _⟩ := h
  exact ⟨h1, h2⟩
theorem IsSrc.keep {base : Nat} {w w' : World} {bs : Nat} (h : IsSrc base w bs) (hs : w.heap.size ≤ w'.heap.size) (hb : w'.heap[bs]? = w.heap[bs]?) (hl : ∀ k, k < base → w'.heap[k]? = w.heap[k]?) : IsSrc base w' bs := by
  obtain ⟨a, len, cap, at', t, h1, h2, h3, h4, h5, h6⟩ := h
  refine ⟨a, len, cap, at', t, h1, by omega, h3, h4, by rw [hb]; exact h5, fun hp => ?_⟩
  obtain ⟨b, o, e, hbb, hc⟩ := h6 hp
  refine ⟨b, o, e, hbb, fun i hi => ?_⟩
  obtain ⟨n, hn, hcell⟩ := hc i hi
  exact ⟨n, hn, by rw [World.cell?_of_block (w := w) (hl b hbb)]; exact hcell⟩
theorem IsSrc.kept {base : Nat} {w w' : World} {bs : Nat} (h : IsSrc base w bs) (k : Kept w w') : IsSrc base w' bs :=
  h.keep k.size (k.block _ h.lt.2) (fun i hi => k.block i (by have := h.lt; omega))
theorem IsSrc.only {base : Nat} {w w' : World} {bs b2 : Nat} (h : IsSrc base w bs) (k : Only b2 w w') (hn : b2 ≠ bs) (hb : base ≤ b2) : IsSrc base w' bs :=
  h.keep k.size (k.block _ h.lt.2 (Ne.symm hn)) (fun i hi => k.block i (by have := h.lt; omega) (by omega))
theorem IsSrc.heap {base : Nat} {w w' : World} {bs : Nat} (h : IsSrc base w bs) (e : w'.heap = w.heap) : IsSrc base w' bs :=
  h.keep (by rw [e]; exact Nat.le_refl _) (by rw [e]) (fun k _ => by rw [e])
theorem IsSrc.alloc {base : Nat} {w : World} {bs : Nat} (h : IsSrc base w bs) (o : Obj) : IsSrc base (w.alloc o) bs := h.kept ((Kept.refl w).alloc o)
theorem IsSrc.drew {base : Nat} {w : World} {bs : Nat} (h : IsSrc base w bs) : IsSrc base w.drew bs := h.kept (Kept.refl w).drew
theorem IsSrc.setCell {base : Nat} {w : World} {bs : Nat} (h : IsSrc base w bs) {p : Addr} (hn : p.block ≠ bs) (hp : base ≤ p.block) (u : Value) : IsSrc base (w.setCell p u) bs :=
  h.keep (by simp [World.setCell]) (Below.heap_setCell _ _ _ _ (by omega)) (fun k hk => Below.heap_setCell _ _ _ _ (by omega))
abbrev spansC : Array Value := #[.int .i64 400, .int .i64 1200, .int .i64 0, .int .i64 2000, .int .i64 0, .int .i64 5000, .int .i64 1, .int .i64 2000]
abbrev Spans (w : World) : Prop := Box w 0 spansC
end Go.Proofs.YtehmmnnmkapfeaaDoor

/- The package's table of ranges, as the condition of the tied rows gives it. -/
namespace Go.Proofs.YtehmmnnmkapfeaaDoor
open Go.RowKit Go.ChangeShapes Go.WideShapes
theorem spans_glob : Tryd.prog.globalNamed "batchline/product.spans" = some 0 := by kernel_rfl
theorem spans_type : (Tryd.prog.globals[0]?).map (·.type) = some 167 := by kernel_rfl
theorem spans_cells4 : Tryd.prog.cellsOf 167 = 8 := by kernel_rfl
theorem spans_cells1 : Tryd.prog.cellsOf 166 = 2 := by kernel_rfl
theorem spans_cells0 : Tryd.prog.cellsOf 3 = 1 := by kernel_rfl
theorem span_of_trod {W : World} {fuel : Nat} {c d : Value} {x y : Int} {p : List MemPlace} (h : DataW.trod (fun _ => ()) Tryd.prog W 0 (fun _ => true) false fuel 166 [c, d] = some (.agg [.lit (.int .i64 x), .lit (.int .i64 y)], p)) :
    c = .int .i64 x ∧ d = .int .i64 y := by
  obtain ⟨xs, n, _, hx, _, hl, hf⟩ := DataW.trod_struct Tryd.underlying166 h
  obtain ⟨a, b, rfl⟩ : ∃ a b, xs = [a, b] := match xs, hl with | [a, b], _ => ⟨a, b, rfl⟩
  have h0 := hf 0 _ rfl
  have h1 := hf 1 _ rfl
  simp only [spans_cells0, List.drop_zero, List.take_succ_cons, List.take_zero, List.drop_succ_cons, List.getElem?_cons_zero, List.getElem?_cons_succ] at h0 h1
  obtain ⟨m, hm, rfl, _⟩ := DataW.trod_int Tryd.underlying3 h0
  obtain ⟨k, hk, rfl, _⟩ := DataW.trod_int Tryd.underlying3 h1
  injection hm with hm _
  injection hk with hk _
  subst hm hk
  simp at hx
  obtain ⟨⟨rfl, rfl⟩, _⟩ := hx
  exact ⟨rfl, rfl⟩
theorem spans_of_laid {W : World} (h : laidMet Tryd.prog [("batchline/product.spans", Rows.laid_batchline_product_spans)] W) : Spans W := by
  obtain ⟨ps, ⟨g, t, cs, fuel, p, q, hg, ht, hvar, hd, _, hps⟩, _, hcell⟩ := h
  obtain rfl := Option.some.inj (spans_glob.symm.trans hg)
  obtain rfl := Option.some.inj (spans_type.symm.trans ht)
  obtain ⟨xs, m, _, hx, hcl, hl, hf⟩ := DataW.trod_array Tryd.underlying167 hd
  rw [spans_cells4] at hcl
  obtain ⟨l⟩ := cs
  simp only at hcl hf
  obtain ⟨c0, c1, c2, c3, c4, c5, c6, c7, rfl⟩ : ∃ c0 c1 c2 c3 c4 c5 c6 c7, l = [c0, c1, c2, c3, c4, c5, c6, c7] := match l, hcl with | [a, b, c, d, e, f, g, h], _ => ⟨a, b, c, d, e, f, g, h, rfl⟩
  obtain ⟨y0, y1, y2, y3, rfl⟩ : ∃ a b c d, xs = [a, b, c, d] := match xs, hl with | [a, b, c, d], _ => ⟨a, b, c, d, rfl⟩
  have h0 := hf 0 (by omega)
  have h1 := hf 1 (by omega)
  have h2 := hf 2 (by omega)
  have h3 := hf 3 (by omega)
  rw [spans_cells1] at h0 h1 h2 h3
  simp at h0 h1 h2 h3
  obtain ⟨d0, p0⟩ := y0
  obtain ⟨d1, p1⟩ := y1
  obtain ⟨d2, p2⟩ := y2
  obtain ⟨d3, p3⟩ := y3
  simp [Rows.laid_batchline_product_spans] at hx
  obtain ⟨⟨rfl, rfl, rfl, rfl⟩, _⟩ := hx
  obtain ⟨rfl, rfl⟩ := span_of_trod h0
  obtain ⟨rfl, rfl⟩ := span_of_trod h1
  obtain ⟨rfl, rfl⟩ := span_of_trod h2
  obtain ⟨rfl, rfl⟩ := span_of_trod h3
  obtain ⟨⟨c, t, hb⟩, _⟩ := hcell 0 0 (by rw [hps]; simp [MemPlace.row])
  refine ⟨t, ?_⟩
  rw [hb]
  unfold World.var? at hvar
  rw [spans_glob] at hvar
  simp only [Option.bind_some, hb, Option.some.injEq] at hvar
  rw [hvar]
abbrev LaidFacts (w : World) : Prop := Spans w
theorem laidFacts_of {W : World} (h : laidMetH Tryd.prog [("batchline/product.spans", Rows.laid_batchline_product_spans)] W) : LaidFacts W := spans_of_laid h
end Go.Proofs.YtehmmnnmkapfeaaDoor

/- Walks of the reader of numbers: batchlinekeep.Mod, Src.Raw, Src.N, Src.Range, Src.Pick. -/
namespace Go.Proofs.YtehmmnnmkapfeaaDoor
open Go.RowKit
def RowOf (w : World) (b o len : Nat) (Q : Value → Prop) : Prop := ∀ i, i < len → ∃ v, Q v ∧ w.cell? ⟨b, o + i, none⟩ = some v
theorem RowOf.only {w w' : World} {b o len bs : Nat} {Q : Value → Prop} (h : RowOf w b o len Q) (k : Only bs w w') (hb : b < w.heap.size) (hn : b ≠ bs) : RowOf w' b o len Q := fun i hi => by
  obtain ⟨v, hv, hc⟩ := h i hi
  exact ⟨v, hv, by rw [ocell1 k hb hn]; exact hc⟩
theorem RowOf.new {w : World} {n k : Nat} {c : Array Value} {t : TypeId} {fr : Nat × Nat} {Q : Value → Prop} (hn : n = w.heap.size) (hk : k = c.size) (h : ∀ v ∈ c, Q v) : RowOf (w.alloc (.cells c t fr)) n 0 k Q := fun i hi => by
  subst hn hk
  refine ⟨c[i], h _ (Array.getElem_mem hi), ?_⟩
  rw [cell_alloc_ite, if_neg (by omega), if_pos rfl]
  simp [hi]
def IntIs (P : Int → Prop) (v : Value) : Prop := ∃ n, P n ∧ v = .int .i64 n
def ArgInts (w : World) (a : Option Addr) (len cap : Nat) : Prop :=
  len ≤ cap ∧ cap ≤ maxLen ∧ (0 < len → ∃ b o, a = some ⟨b, o, none⟩ ∧ b < w.heap.size ∧ RowOf w b o len (IntIs I64))
def IsRow (k : IntKind) (w : World) (a : Option Addr) (len cap : Nat) (zs : List Int) : Prop :=
  (a = none ∧ len = 0 ∧ cap = 0 ∧ zs = []) ∨
  ∃ x, a = some x ∧ len ≤ cap ∧ cap ≤ maxLen ∧ zs.length = cap ∧ (∀ i, i < zs.length → w.cell? (x.add i) = some (.int k (zs.getD i 0))) ∧ ∀ n ∈ zs, (Lit.int k n).wf = true
theorem argInts_of {w : World} {a : Option Addr} {len cap : Nat} {zs : List Int} (h : IsRow .i64 w a len cap zs) : ArgInts w a len cap := by
  rcases h with ⟨rfl, rfl, rfl, _⟩ | ⟨x, rfl, h1, h2, h3, h4, h5⟩
  · exact ⟨Nat.le_refl _, Nat.zero_le _, fun h => absurd h (by omega)⟩
  · refine ⟨h1, h2, fun hp => ?_⟩
    obtain ⟨b, o, rfl, hc⟩ := ints_at h4 (by omega)
    refine ⟨b, o, rfl, ?_, fun i hi => ?_⟩
    · rcases Nat.lt_or_ge b w.heap.size with h | h
      · exact h
      · exfalso
        have hc0 := hc 0 (by omega)
        simp only [World.cell?] at hc0
        rw [Array.getElem?_eq_none h] at hc0
        simp at hc0
    · refine ⟨_, ⟨zs.getD i 0, ?_, rfl⟩, hc i (by omega)⟩
      have hm : zs.getD i 0 ∈ zs := by
        rw [List.getD_eq_getElem?_getD, List.getElem?_eq_getElem (by omega)]
        exact List.getElem_mem _
      exact bounds_i64 (h5 _ hm)
end Go.Proofs.YtehmmnnmkapfeaaDoor

/- A slice of ints that came in stays one where no old block changes. -/
namespace Go.Proofs.YtehmmnnmkapfeaaDoor
open Go.RowKit
theorem ArgInts.kept {w w' : World} {a : Option Addr} {len cap : Nat} (h : ArgInts w a len cap) (k : Kept w w') : ArgInts w' a len cap := by
  obtain ⟨h1, h2, h3⟩ := h
  refine ⟨h1, h2, fun hp => ?_⟩
  obtain ⟨b, o, e, hb, hr⟩ := h3 hp
  refine ⟨b, o, e, Nat.lt_of_lt_of_le hb k.size, fun i hi => ?_⟩
  obtain ⟨v, hv, hc⟩ := hr i hi
  exact ⟨v, hv, by rw [kcell1 k hb]; exact hc⟩
theorem RowOf.drew {w : World} {b o len : Nat} {Q : Value → Prop} (h : RowOf w b o len Q) : RowOf w.drew b o len Q := h
def plainV (us : List Value) : List D := us.map D.v
theorem ints_data {w : World} {a : Option Addr} {len cap : Nat} (h : ArgInts w a len cap) : ∃ (ns : List Int) (Im : Nat → Prop), (∀ n ∈ ns, InI n) ∧ (∀ b, Im b → b < w.heap.size) ∧ RelP Im w.heap (.sl (ns.map fun n => [di n])) (.slice a len cap) := by
  obtain ⟨h1, h2, h3⟩ := h
  rcases Nat.eq_zero_or_pos len with h0 | h0
  · subst h0
    exact ⟨[], fun _ => False, fun n hn => (by cases hn), fun b hb => hb.elim, .sl0 a cap⟩
  · obtain ⟨b, o, rfl, hb, hr⟩ := h3 h0
    have hv : ∀ i, i < len → ∃ n, I64 n ∧ hc w.heap b (o + i) = some (.int .i64 n) := fun i hi => by
      obtain ⟨v, ⟨n, hn, rfl⟩, hcell⟩ := hr i hi
      exact ⟨n, hn, by rw [← hc_cell]; exact hcell⟩
    let f : Nat → Int := fun i => match hc w.heap b (o + i) with
      | some (.int .i64 n) => n
      | _ => 0
    have hf : ∀ i, i < len → hc w.heap b (o + i) = some (.int .i64 (f i)) ∧ I64 (f i) := fun i hi => by
      obtain ⟨n, hn, e⟩ := hv i hi
      have : f i = n := by show (match hc w.heap b (o + i) with | some (.int .i64 n) => n | _ => 0) = n; rw [e]
      rw [this]
      exact ⟨e, hn⟩
    refine ⟨(List.range len).map f, fun b' => b' = b, fun n hn => ?_, fun b' hb' => by rw [hb']; exact hb, ?_⟩
    · obtain ⟨i, hi, rfl⟩ := List.mem_map.1 hn
      exact (hf i (List.mem_range.1 hi)).2
    · refine .sl1 _ b o len cap 1 (fun i _ => .int .i64 (f i)) (by simp) h1 (fun r hr => ?_) rfl (fun i j hi hj => ?_) (fun i j hi hj => ?_)
      · obtain ⟨n, _, rfl⟩ := List.mem_map.1 hr
        rfl
      · obtain rfl : j = 0 := by omega
        rw [show o + i * 1 + 0 = o + i by omega]
        exact ⟨(hf i hi).1, rfl⟩
      · have hi' : i < len := by simpa using hi
        have e : ((((List.range len).map f).map fun n => [di n])[i]'hi) = [di (f i)] := by simp
        have hj' : j = 0 := by
          have : j < [di (f i)].length := by rw [← e]; exact hj
          simpa using this
        subst hj'
        have e2 : (((((List.range len).map f).map fun n => [di n])[i]'hi)[0]'hj) = di (f i) := by simp
        rw [e2]
        exact .v _
theorem kept_of {P : Program} {R : D → Hp → Prop} {Im Im' : Nat → Prop} {p p' : Pl} {w w' : World} {e : Ending} {v : D} {H' : Hp} {u : Value} {nn : Nm} (L : Left P Hp.none nn R Im p w e w' Im' p' v H' u) : Kept w w' := by
  have X := L.relE 0
  exact ⟨X.os, X.tape, X.output, X.size, fun b hb => X.block b hb fun ⟨i, e, hi, _⟩ => by cases hi⟩
abbrev AllIm (w : World) : Nat → Prop := fun b => b < w.heap.size
theorem law_intsG {f : FuncId} {us : List Value} {a : Option Addr} {len cap : Nat} {w : World} (hg : GlOk (AllIm w) w.heap) (h : ArgInts w a len cap) (hc : ∀ ns : List Int, (∀ n ∈ ns, InI n) → CallsA Tryd.prog f (.sl (ns.map fun n => [di n]) :: plainV us) Hp.none (0, 0) (Pu (db true) Hp.none)) :
    Calls Tryd.prog f (Value.slice a len cap :: us).toArray w (Ret (.bool true) w) := by
  obtain ⟨ns, Im, h1, h2, h3⟩ := ints_data h
  refine (hc ns h1 w (AllIm w) (fun _ => (0, 0)) (Value.slice a len cap :: us).toArray (by simp [plainV]) (fun j d u hd hu => ?_) ⟨fun i e hi => (by cases hi), fun i j e e' hi => (by cases hi), fun b hb => hb⟩ (fun k _ => rfl) hg).mono ?_
  · cases j with
    | zero =>
      simp at hd hu
      subst hd hu
      exact .p (h3.mono h2 fun _ _ => rfl)
    | succ j =>
      simp [plainV] at hd hu
      obtain ⟨x, hx, rfl⟩ := hd
      rw [hu] at hx
      cases hx
      exact .p (.v _)
  · rintro e w' ⟨Im', p', v, H', u, L⟩
    obtain ⟨rfl, rfl⟩ := L.post
    have := rel_v L.rel
    subst this
    exact ⟨L.end_, kept_of L⟩
theorem glOk_of {w : World} (h : LaidFacts w) : GlOk (AllIm w) w.heap := by
  obtain ⟨t, hb⟩ := h
  intro g f hg
  unfold GL glAt at hg
  split at hg
  · rename_i e
    cases hg
    subst e
    refine ⟨lt_of_some hb, fun j => spansC[j]?.getD undef, fun j hj => ?_, fun j d hd => ?_⟩
    · unfold hc
      rw [hb]
      dsimp only
      simp only [List.length_cons, List.length_nil] at hj
      match j, hj with
      | 0, _ => exact ⟨rfl, rfl⟩
      | 1, _ => exact ⟨rfl, rfl⟩
      | 2, _ => exact ⟨rfl, rfl⟩
      | 3, _ => exact ⟨rfl, rfl⟩
      | 4, _ => exact ⟨rfl, rfl⟩
      | 5, _ => exact ⟨rfl, rfl⟩
      | 6, _ => exact ⟨rfl, rfl⟩
      | 7, _ => exact ⟨rfl, rfl⟩
    · match j, hd with
      | 0, hd => cases hd; exact .v _
      | 1, hd => cases hd; exact .v _
      | 2, hd => cases hd; exact .v _
      | 3, hd => cases hd; exact .v _
      | 4, hd => cases hd; exact .v _
      | 5, hd => cases hd; exact .v _
      | 6, hd => cases hd; exact .v _
      | 7, hd => cases hd; exact .v _
      | j + 8, hd => simp at hd
  · unfold glAt at hg
    cases hg
def c4_1 : C := (.seq (.block 1 (.ops false [oP 41 (.mv (.t 9)), oP 42 (.mv (.t 5)), oB 43 (.call 16 [(.t 42)]), oP 44 (.bsl 2 1 [(.v (.int .i64 0)), (.v (.int .i64 0))] [(0, (.t 43))]), oP 45 (.app 2 16 (.t 41) (.t 44)), oP 9 (.mv (.t 45))])) (.ops false [oP 39 (.mv (.t 10)), oP 40 (.bin .add (.t 39) (cI 1)), oP 10 (.mv (.t 40))]))
def c4_2 : C := (.seq (.seq (.ops false [oP 35 (.mv (.t 10)), oP 36 (.mv (.t 8)), oP 37 (.len (.t 36)), oP 38 (.bin .lss (.t 35) (.t 37))]) (.cond (.t 38) .skip (.exit 0))) c4_1)
def c4_3 : C := (.seq (.block 3 (.ops false [oP 107 (.mv (.t 9)), oP 108 (.mv (.t 18)), oP 109 (.mv (.t 9)), oP 110 (.iaS 2 (.t 109) (cI 0)), oP 111 (.ld 2 true (.t 110)), oP 112 (.iaS 2 (.t 107) (.t 108)), oS (.st 2 (.t 112) (.t 111))])) (.ops false [oP 105 (.mv (.t 18)), oP 106 (.bin .add (.t 105) (cI 1)), oP 18 (.mv (.t 106))]))
def c4_4 : C := (.seq (.seq (.ops false [oP 101 (.mv (.t 18)), oP 102 (.mv (.t 9)), oP 103 (.len (.t 102)), oP 104 (.bin .lss (.t 101) (.t 103))]) (.cond (.t 104) .skip (.exit 2))) c4_3)
def c4_5 : C := (.seq (.opsF true [(false, oP 131 (.ld 3 true (.t 6))), (false, oP 132 (.ld 5 true (.t 7))), (false, oP 133 (.mv (.t 8))), (false, oA 134 (.iaS 2 (.t 133) (cI 0)) [2]), (false, oA 135 (.ld 2 true (.t 134)) [2, 3]), (false, oP 136 (.mv (.t 8))), (false, oP 137 (.mv (.t 8))), (false, oA 138 (.len (.t 137)) [6]), (false, oA 139 (.bin .sub (.t 138) (cI 1)) [6, 7]), (false, oA 140 (.iaS 2 (.t 136)
  (.t 139)) [7, 6, 8, 5]), (false, oA 141 (.ld 2 true (.t 140)) [5, 8, 6, 7, 9]), (false, oA 142 (.bsl 2 2 [(.v (.int .i64 0)), (.v (.int .i64 0))] [(0, (.t 135)), (1, (.t 141))]) [9, 7, 6, 8, 5, 3, 2, 10, 4]), (false, oP 143 (.mv (.t 9))), (false, oA 144 (.slc 2 (.t 143) Option.none (.some (cI 1))) [12]), (true, oA 145 (.call 21 [(.t 131), (.t 132), (cI 0), (.t 142), (.t 144)]) [12, 4, 10, 2, 3, 5,
  8, 6, 7, 9, 13, 11, 1, 0]), (false, oA 130 (.mv (.t 145)) [0, 1, 11, 13, 9, 7, 6, 8, 5, 3, 2, 10, 4, 12, 14]), (false, oA 146 (.ext (.t 130) 0) [14, 12, 4, 10, 2, 3, 5, 8, 6, 7, 9, 13, 11, 1, 0, 15]), (false, oA 147 (.ext (.t 130) 1) [14, 12, 4, 10, 2, 3, 5, 8, 6, 7, 9, 13, 11, 1, 0, 15]), (false, oA 148 (.ext (.t 130) 2) [14, 12, 4, 10, 2, 3, 5, 8, 6, 7, 9, 13, 11, 1, 0, 15]), (false,
  oP 20 (.new [(.v (.int .i64 0)), (.v (.int .i64 0))])), (false, oA 19 (.mv (.t 146)) [19, 15, 13, 12, 11, 10, 9, 8, 7, 6, 5, 4, 3, 2, 1, 0, 14, 16]), (false, oT (.st 2 (.t 20) (.t 147)) [16, 15, 14, 13, 12, 11, 10, 9, 8, 7, 6, 5, 4, 3, 2, 1, 0, 20, 17, 19]), (false, oA 21 (.mv (.t 148)) [20, 19, 17, 16, 15, 14, 13, 12, 11, 10, 9, 8, 7, 6, 5, 4, 3, 2, 1, 0, 21, 18])])
  (.seq (.ops false [oP 149 (.mv (.t 14)), oP 150 (.bin .eql (.t 149) (cI 0)), oP 151 (.mv (.t 150)), oG 152 151 true (.mv (.t 21)), oG 153 151 true (.bin .eql (.t 152) (cI 0)), oP 154 (.pick (.t 151) (.t 153) (cB false)), oP 155 (.mv (.t 154)), oG 156 155 true (.ld 2 true (.t 20)), oG 157 155 true (.ld 2 true (.t 13)), oG 158 155 true (.eqa false [0, 0] (.t 156) (.t 157)), oP 159 (.pick (.t 155)
  (.t 158) (cB false)), oP 160 (.mv (.t 159)), oG 161 160 true (.mv (.t 12)), oG 162 160 true (.len (.t 161)), oG 163 160 true (.mv (.t 9)), oG 164 160 true (.len (.t 163)), oG 165 160 true (.bin .eql (.t 162) (.t 164)), oP 166 (.pick (.t 160) (.t 165) (cB false)), oP 167 (.mv (.t 166)), oD 168 167 true (.call 10 []) [], oP 169 (.pick (.t 167) (.t 168) (cB false)), oP 4 (.mv (.t 169))]) .ret))
def c4_6 : C := (.seq (.opsF false [(false, oP 114 (.ld 3 true (.t 6))), (false, oP 115 (.ld 5 true (.t 7))), (false, oP 116 (.mv (.t 8))), (false, oP 117 (.mv (.t 9))), (true, oP 118 (.call 21 [(.t 114), (.t 115), (cI 0), (.t 116), (.t 117)])), (false, oP 113 (.mv (.t 118))), (false, oP 119 (.ext (.t 113) 0)), (false, oP 120 (.ext (.t 113) 1)), (false, oP 121 (.ext (.t 113) 2)), (false, oP 12 (.mv (.t 119))),
  (false, oS (.st 2 (.t 13) (.t 120))), (false, oP 14 (.mv (.t 121)))]) (.seq (.seq (.ops false [oP 122 (.mv (.t 9)), oP 123 (.len (.t 122)), oP 124 (.bin .eql (.t 123) (cI 0))]) (.cond (.t 124) (.seq (.ops false [oP 125 (.mv (.t 14)), oP 126 (.bin .eql (.t 125) (cI 0)), oP 127 (.mv (.t 126)), oD 128 127 true (.call 10 []) [], oP 129 (.pick (.t 127) (.t 128) (cB false)), oP 4 (.mv (.t 129))]) .ret)
  .skip)) c4_5))
def c4_7 : C := (.seq (.seq (.ops false [oP 18 (.mv (cI 1))]) (.block 2 (.loop c4_4))) (.weak c4_6))
def c4_8 : C := (.seq (.ops false [oP 46 (.mv (.t 1)), oP 47 (.cvi .i64 (.t 46)), oP 48 (.mv (.t 8)), oP 49 (.len (.t 48)), oP 50 (.bin .rem (.t 47) (.t 49)), oP 11 (.mv (.t 50))]) (.seq (.opsF false [(false, oP 52 (.ld 3 true (.t 6))), (false, oP 53 (.ld 5 true (.t 7))), (false, oP 54 (.mv (.t 8))), (false, oP 55 (.mv (.t 9))), (true, oP 56 (.call 21 [(.t 52), (.t 53), (cI 0), (.t 54), (.t 55)])), (false,
  oP 51 (.mv (.t 56))), (false, oP 57 (.ext (.t 51) 0)), (false, oP 58 (.ext (.t 51) 1)), (false, oP 59 (.ext (.t 51) 2)), (false, oP 13 (.new [(.v (.int .i64 0)), (.v (.int .i64 0))])), (false, oP 12 (.mv (.t 57))), (false, oS (.st 2 (.t 13) (.t 58))), (false, oP 14 (.mv (.t 59)))]) (.seq (.opsF true [(false, oP 61 (.ld 3 true (.t 6))), (false, oP 62 (.ld 5 true (.t 7))), (false,
  oP 63 (.mv (.t 8))), (false, oP 64 (.mv (.t 11))), (false, oA 65 (.bin .add (.t 64) (cI 1)) [3]), (false, oA 66 (.slc 2 (.t 63) Option.none (.some (.t 65))) [3, 4, 2]), (false, oP 67 (.mv (.t 9))), (false, oP 68 (.mv (.t 11))), (false, oA 69 (.slc 2 (.t 67) Option.none (.some (.t 68))) [7, 6]), (true, oA 70 (.call 21 [(.t 61), (.t 62), (cI 0), (.t 66), (.t 69)]) [6, 7, 2, 4, 3, 8, 5, 1, 0]),
  (false, oA 60 (.mv (.t 70)) [0, 1, 5, 8, 3, 4, 2, 7, 6, 9]), (false, oA 71 (.ext (.t 60) 0) [9, 6, 7, 2, 4, 3, 8, 5, 1, 0, 10]), (false, oA 72 (.ext (.t 60) 1) [9, 6, 7, 2, 4, 3, 8, 5, 1, 0, 10]), (false, oA 73 (.ext (.t 60) 2) [9, 6, 7, 2, 4, 3, 8, 5, 1, 0, 10]), (false, oP 16 (.new [(.v (.int .i64 0)), (.v (.int .i64 0))])), (false, oA 15 (.mv (.t 71)) [14, 10, 8, 7, 6, 5, 4, 3, 2, 1, 0, 9,
  11]), (false, oT (.st 2 (.t 16) (.t 72)) [11, 10, 9, 8, 7, 6, 5, 4, 3, 2, 1, 0, 15, 12, 14]), (false, oA 17 (.mv (.t 73)) [15, 14, 12, 11, 10, 9, 8, 7, 6, 5, 4, 3, 2, 1, 0, 16, 13])]) (.seq (.seq (.ops false [oP 74 (.mv (.t 14)), oP 75 (.bin .neq (.t 74) (cI 0)), oP 76 (.mv (.t 75)), oG 77 76 false (.mv (.t 17)), oG 78 76 false (.bin .neq (.t 77) (cI 0)), oP 79 (.pick (.t 76) (cB true) (.t 78)),
  oP 80 (.mv (.t 79)), oG 81 80 false (.mv (.t 15)), oG 82 80 false (.len (.t 81)), oG 83 80 false (.mv (.t 11)), oG 84 80 false (.bin .neq (.t 82) (.t 83)), oP 85 (.pick (.t 80) (cB true) (.t 84)), oP 86 (.mv (.t 85)), oG 87 86 false (.mv (.t 12)), oG 88 86 false (.len (.t 87)), oG 89 86 false (.mv (.t 9)), oG 90 86 false (.len (.t 89)), oG 91 86 false (.bin .neq (.t 88) (.t 90)),
  oP 92 (.pick (.t 86) (cB true) (.t 91)), oP 93 (.mv (.t 92)), oG 94 93 false (.mv (.t 15)), oG 95 93 false (.mv (.t 12)), oG 96 93 false (.mv (.t 11)), oG 97 93 false (.slc 8 (.t 95) Option.none (.some (.t 96))), oD 98 93 false (.call 23 [(.t 94), (.t 97)]) [], oG 99 93 false (.not (.t 98)), oP 100 (.pick (.t 93) (cB true) (.t 99))]) (.cond (.t 100) (.seq (.ops false [oP 4 (.mv (cB false))]) .ret)
  .skip)) c4_7))))
def c4_9 : C := (.seq (.ops false [oP 26 (.mv (.t 0)), oP 27 (.call 11 [(.t 26)]), oP 5 (.mv (.t 27))]) (.seq (.ops false [oP 28 (.mv (.t 5)), oB 29 (.call 12 [(.t 28)]), oP 30 (.mv (.t 5)), oB 31 (.call 13 [(.t 30), (cI 0)]), oP 6 (.new [(.v (.int .i64 0)), (.v (.int .i64 0)), (.v (.int .i64 0))]), oP 7 (.new [(.v (.string ({ data := #[] }))), (.v (.int .i64 0)), (.v (.int .i64 0)), (.v (.int .i64 0)),
  (.v (.int .i64 0))]), oS (.st 3 (.t 6) (.t 29)), oS (.st 5 (.t 7) (.t 31))]) (.seq (.ops false [oP 32 (.mv (.t 5)), oP 33 (.ld 3 true (.t 6)), oP 34 (.call 15 [(.t 32), (.t 33)]), oP 8 (.mv (.t 34))]) (.seq (.ops false [oP 9 (.mv (.c .mt))]) (.seq (.seq (.ops false [oP 10 (.mv (cI 1))]) (.block 0 (.loop c4_2))) (.weak c4_8))))))
def c4 : C := (.seq (.ops false [oP 4 (.mv (cB false))]) (.seq (.seq (.ops false [oP 22 (.mv (.t 0)), oB 23 (.call 9 [(.t 22)]), oP 24 (.not (.t 23))]) (.cond (.t 24) (.seq (.ops false [oB 25 (.call 10 []), oP 4 (.mv (.t 25))]) .ret) .skip)) c4_9))
def r4 : List RV := [(.tmp 4)]
theorem c4_ok : ∃ code, Tryd.f4.body = some code ∧ compC Tryd.prog Tryd.f4.ntmps code = some (C.strip c4) := ⟨_, rfl, by kernel_rfl⟩
theorem r4_ok : compRes Tryd.prog Tryd.f4.results.toList = some r4 := by kernel_rfl
def c9 : C := (.seq (.ops false [oP 2 (.mv (cB false))]) (.seq (.ops false [oP 3 (.mv (.t 0)), oP 4 (.len (.t 3)), oP 5 (.bin .leq (.t 4) (cI 400)), oP 2 (.mv (.t 5))]) .ret))
def r9 : List RV := [(.tmp 2)]
theorem c9_ok : ∃ code, Tryd.f9.body = some code ∧ compC Tryd.prog Tryd.f9.ntmps code = some (C.strip c9) := ⟨_, rfl, by kernel_rfl⟩
theorem r9_ok : compRes Tryd.prog Tryd.f9.results.toList = some r9 := by kernel_rfl
theorem f9_ok : fnOk Tryd.prog 9 = true := by kernel_rfl
end Go.Proofs.YtehmmnnmkapfeaaDoor
