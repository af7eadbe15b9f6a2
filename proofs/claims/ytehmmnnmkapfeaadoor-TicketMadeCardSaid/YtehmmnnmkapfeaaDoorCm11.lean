/- TicketMade: Hints CtE Nw CtR Base Spn Laid Src Args Bridge CtH CodeCY CodeSE. -/
import Derived.Test.YtehmmnnmkapfeaaDoorCm10
import Derived.Test.YtehmmnnmkapfeaaDoorCm4
import Derived.Test.YtehmmnnmkapfeaaDoorCm6
import Derived.Test.YtehmmnnmkapfeaaDoorCm9
import Derived.WalkKit
import Derived.WalkSpells
import Derived.WalkLawsBesides
import Derived.Deep.QuietTactic
import Derived.BigQuiet
import Derived.Lib.Hide
import Derived.Handy
import Derived.OpenShut
import Derived.Test.YtehmmnnmkapfeaaDoorRows
import Derived.LaidLaws
import Derived.ChangeArms
import Derived.Test.YtehmmnnmkapfeaaDoorCm3
import Derived.Test.YtehmmnnmkapfeaaDoorProg
set_option linter.unusedSimpArgs false
set_option linter.unusedVariables false
set_option maxRecDepth 100000
/- What runs of functions must know of their loops (printed by a program). -/
namespace Go.Proofs.YtehmmnnmkapfeaaDoor
open Go
def hints : List (FuncId × Hint) := [
  (3, ⟨[([1, 2, 7, 8, 9, 10, 11, 12, 13], [])], false, []⟩),
  (4, ⟨[([1, 5, 6, 7, 8, 9, 10], []), ([6, 7, 8, 9, 13, 18], [])], false, []⟩),
  (6, ⟨[([0, 1, 2, 7, 8, 9, 10, 11, 12], [])], false, []⟩),
  (7, ⟨[([1, 2, 7, 8, 9, 10, 11, 12, 13, 14], []), ([1, 2, 7, 13, 17, 23, 24], [])], false, []⟩),
  (8, ⟨[([4, 5, 6, 7, 10, 13, 14, 15, 16], [])], false, []⟩),
  (15, ⟨[([0, 3, 5, 6, 7], [])], false, []⟩),
  (21, ⟨[([2, 3, 5, 6, 11, 15, 16, 50, 51, 52], [])], false, []⟩),
  (22, ⟨[([2, 3, 4, 5, 6, 11, 14, 15, 16], [])], false, []⟩),
  (23, ⟨[([0, 1, 5], [])], false, []⟩),
  (26, ⟨[([1, 5, 8, 9, 10], [])], false, []⟩),
  (27, ⟨[([0, 1, 5, 6], [])], false, []⟩),
  (29, ⟨[([0, 3, 4], [])], false, []⟩),
  (30, ⟨[([0, 1, 2, 7, 8], [])], false, []⟩),
  (31, ⟨[([0, 1, 2, 7], [])], false, []⟩),
  (34, ⟨[([0, 1, 2, 7, 27, 28, 29], []), ([0, 1, 7, 13, 59, 60, 61], [])], false, []⟩),
  (37, ⟨[([2, 7, 20, 21, 22], [])], false, []⟩),
  (39, ⟨[([0, 2, 3, 4], []), ([0, 2, 3, 5, 6], []), ([0, 2, 3, 5, 7], []), ([0, 2, 3, 5, 9], [])], false, []⟩),
  (40, ⟨[([0, 2, 7, 11, 12, 13], [])], false, []⟩),
  (41, ⟨[([0, 3, 4, 5, 6], [])], false, []⟩),
  (42, ⟨[([1, 2, 4, 13, 37, 38, 39], [])], false, []⟩),
  (43, ⟨[([1, 2, 3, 4, 13, 14], [])], false, []⟩),
  (44, ⟨[([0, 1, 5], [])], false, []⟩),
  (45, ⟨[([0, 1, 2, 7, 11], []), ([0, 1, 2, 7, 12, 13], [])], false, []⟩),
  (46, ⟨[([0, 1, 6], []), ([0, 1, 7, 8], []), ([0, 1, 9], []), ([0, 1, 10, 11], [])], false, []⟩),
  (48, ⟨[([0, 3, 4, 5, 6], []), ([0, 3, 4, 5, 7, 8], []), ([0, 3, 4, 5, 7, 8, 9, 10, 11, 12, 13], []), ([0, 3, 4, 5, 7, 8, 9, 10, 11, 12, 13, 90, 91, 92], []), ([0, 3, 4, 5, 7, 8, 9, 10, 11, 12, 13, 16, 139, 140, 141], []), ([0, 3, 4, 5, 7, 8, 11, 239, 240, 241], [])], false, []⟩),
  (49, ⟨[([0, 2, 4, 7, 8], [])], false, []⟩),
  (50, ⟨[([1, 3, 4, 6, 12, 13, 14, 15, 60, 61], []), ([3, 4, 6, 12, 13, 14, 15, 80, 81, 82], []), ([3, 4, 6, 12, 13, 14, 15, 20, 21, 22, 23, 24, 80, 81, 82, 87, 88, 89], []), ([3, 4, 6, 12, 13, 14, 15, 20, 21, 22, 23, 24, 80, 81, 82, 146, 147, 148], []), ([3, 4, 6, 12, 13, 14, 15, 23, 24, 31, 80, 81, 82, 209, 210, 211], []), ([3, 4, 6, 12, 13, 14, 15, 23, 31, 80, 81, 82, 224, 225, 226], []), ([12, 13, 14, 15, 272, 273], []), ([12, 13, 15, 295, 296], [])], false, []⟩),
  (57, ⟨[([3, 6, 34, 35, 36], [])], false, []⟩),
  (66, ⟨[([0, 10, 11, 12], []), ([0, 20, 21, 22], [])], false, []⟩),
  (67, ⟨[([0, 8, 9, 10], [])], false, []⟩),
  (68, ⟨[([3, 6, 7, 8], [])], false, []⟩),
  (70, ⟨[([0, 3, 9, 10, 11], [])], false, []⟩),
  (71, ⟨[([0, 3, 6, 7], [])], false, []⟩),
  (74, ⟨[([3, 7, 8, 9], [])], false, []⟩),
  (76, ⟨[([0, 8, 9, 10, 11], [])], false, []⟩),
  (77, ⟨[([1, 9, 10], [])], false, []⟩),
  (78, ⟨[([1, 51, 52, 53], []), ([1, 5, 65, 66], []), ([1, 5, 65, 66, 69, 70, 71], []), ([1, 80, 81], []), ([1, 89, 90], []), ([1, 12, 13, 89, 90], []), ([1, 14, 117, 118, 119], []), ([1, 14, 137, 138, 139], []), ([1, 14, 150, 151, 152], []), ([1, 163, 164, 165], []), ([1, 174, 175, 176], []), ([1, 186, 187, 188], [])], false, []⟩),
  (79, ⟨[([0, 9, 10], []), ([0, 21, 22], [])], false, []⟩),
  (81, ⟨[([1, 2, 3, 13, 14], []), ([1, 2, 3, 31, 32], [])], false, []⟩),
  (82, ⟨[([3, 31, 32], [])], false, []⟩),
  (86, ⟨[([3, 6, 7, 8], [])], false, []⟩),
  (87, ⟨[([1, 5, 6, 19, 20, 21], []), ([1, 5, 6, 8, 9, 10, 19, 20, 21], []), ([1, 5, 6, 8, 9, 19, 20, 21, 43, 44], []), ([5, 71, 72], [])], false, []⟩),
  (88, ⟨[([0, 3, 4], [])], false, []⟩),
  (91, ⟨[([1, 3, 8, 9], [])], false, []⟩),
  (101, ⟨[([0, 3], [])], false, []⟩),
  (104, ⟨[([3, 6, 7, 8], [])], false, []⟩),
  (108, ⟨[([0, 1, 7, 8], [])], false, []⟩),
  (110, ⟨[([1, 2, 3, 14, 15, 16], []), ([1, 2, 3, 29, 30, 31], []), ([2, 3, 44, 45, 46], [])], false, []⟩),
  (113, ⟨[([0, 19, 20], [])], false, []⟩),
  (114, ⟨[([1, 10, 11], []), ([1, 4, 10, 11, 14, 15, 16], []), ([1, 29, 30, 31], [])], false, []⟩),
  (115, ⟨[([1, 3, 11, 12, 13], []), ([1, 3, 26, 27, 28], []), ([1, 3, 39, 40, 41], [])], false, []⟩),
  (118, ⟨[([1, 2, 3, 14, 15, 16], []), ([1, 2, 3, 29, 30, 31], []), ([2, 3, 44, 45, 46], [])], false, []⟩),
  (119, ⟨[([0, 6, 7], []), ([0, 3, 4, 6, 7], [])], false, []⟩),
  (120, ⟨[([1, 51, 52, 53], [])], false, []⟩),
  (121, ⟨[([0, 1, 7, 8], [])], false, []⟩),
  (122, ⟨[([1, 2, 20, 21], []), ([1, 2, 32, 33], [])], false, []⟩),
  (123, ⟨[([2, 3, 45, 46, 47], []), ([2, 3, 70, 71, 72], []), ([2, 3, 85, 86], [])], false, []⟩),
  (124, ⟨[([2, 3, 5, 6], []), ([2, 3, 5, 6, 7, 20, 21], []), ([2, 3, 5, 6, 7, 8, 9, 20, 21, 30, 31, 32], [])], false, []⟩),
  (125, ⟨[([0, 1, 5, 8, 9], [])], false, []⟩),
  (126, ⟨[([1, 6, 7, 11, 12, 13], [])], false, []⟩),
  (132, ⟨[([0, 1, 7, 8], [])], false, []⟩),
  (136, ⟨[([0, 1, 7, 8], [])], false, []⟩),
  (138, ⟨[([0, 1, 7, 8], [])], false, []⟩),
  (139, ⟨[([0, 1, 7, 8], [])], false, []⟩),
  (143, ⟨[([1, 29, 30, 31], [])], false, []⟩),
  (149, ⟨[([2, 3, 4, 8, 9, 17, 18, 19], []), ([2, 4, 8, 9, 64, 65, 66], [])], false, []⟩),
  (151, ⟨[([0, 1, 7, 8], [])], false, []⟩),
  (152, ⟨[([0, 1, 7, 8], [])], false, []⟩)]
theorem awake37_c (nn : Nm) : CallsA Tryd.prog 10 [] Hp.none nn (Pu (db true) Hp.none) := run_c mixed hints 200 30 (by kernel_rfl)
def rowNew : List D → Hp → Nm → Option (Prop × (D → Hp → Prop)) := fun args Hs nn =>
  match args with
  | [.sl L] => some (Hs = Hp.none, Pu (.ptr nn 0 0 0) (Hp.none.put nn (sE (L.take 2000) 0)))
  | _ => Option.none
theorem tc_new {T : Tbl} (hT : TblOk Tryd.prog T) : TblOk Tryd.prog (tc 11 rowNew T) :=
  tc_row f11_ok (fun args Hs nn pre R hr hp => by
    unfold rowNew at hr
    split at hr
    · cases hr
      subst hp
      exact ⟨⟨_, _, rfl, rfl⟩, New_c _ nn⟩
    · cases hr) hT
theorem AllI.one {α : Type} {P : Nat → α → Prop} {x : α} (h : P 0 x) : AllI P [x] := (AllI.nil P).snoc h
theorem AllI.two {α : Type} {P : Nat → α → Prop} {x y : α} (h : P 0 x) (k : P 1 y) : AllI P [x, y] := (AllI.one h).snoc k
def selAw : List D → Option (Prop × D)
  | [] => some (True, db true)
  | _ => Option.none
theorem src_new (ns : List Int) (h : ∀ n ∈ ns, InI n) : SrcOk ((ns.map fun n => [di n]).take 2000) 0 :=
  ⟨Int.le_refl _, Int.natCast_nonneg _, by rw [List.length_take]; omega, ns.take 2000, by rw [List.map_take], fun n hn => h n (List.mem_of_mem_take hn)⟩
theorem tc_meter {T : Tbl} (hT : TblOk Tryd.prog T) : TblOk Tryd.prog (tc 12 (rowSrc (sel0 MtrOk) Mtr.enc) T) :=
  tc_src f12_ok (fun args pre post h hp => by
    unfold sel0 at h
    split at h <;> cases h
    exact ⟨⟨⟨1, 16, 100000⟩, by decide, by decide, by decide⟩, Meter_s⟩) hT
theorem tc_cond {T : Tbl} (hT : TblOk Tryd.prog T) : TblOk Tryd.prog (tc 16 (rowSrc (sel0 CndIn) Cnd.enc) T) :=
  tc_src f16_ok (fun args pre post h hp => by
    unfold sel0 at h
    split at h <;> cases h
    exact ⟨⟨⟨150, 0⟩, by unfold CndIn cdOk; decide⟩, Condition_s⟩) hT
def selPd : List D → Option (Prop × (Prd → Prop))
  | [.v (.int .i64 n)] => some (0 ≤ n ∧ n < 26, PrdIn n)
  | _ => Option.none
theorem tc_prod {T : Tbl} (hT : TblOk Tryd.prog T) : TblOk Tryd.prog (tc 13 (rowSrc selPd Prd.enc) T) :=
  tc_src f13_ok (fun args pre post h hp => by
    unfold selPd at h
    split at h <;> cases h
    exact ⟨⟨⟨nm1B ⟨#[112]⟩ _, 800, 0, 0, 1000⟩, rfl, ⟨by dsimp only; omega, by dsimp only; omega⟩, ⟨by dsimp only; omega, by dsimp only; omega⟩, ⟨by dsimp only; omega, by dsimp only; omega⟩, ⟨by dsimp only; omega, by dsimp only; omega⟩⟩, Product_s _ hp⟩) hT
def selOdd : List D → Option (Prop × (Prd → Prop))
  | [.agg r] => match prdOf r with
    | some _ => some (True, fun _ => True)
    | Option.none => Option.none
  | _ => Option.none
theorem tc_odd {T : Tbl} (hT : TblOk Tryd.prog T) : TblOk Tryd.prog (tc 18 (rowSrc selOdd Prd.enc) T) :=
  tc_src f18_ok (fun args pre post h hp => by
    unfold selOdd at h
    split at h
    · split at h
      · rename_i e
        cases h
        rw [prdOf_eq e]
        exact ⟨⟨⟨⟨#[]⟩, 0, 0, 0, 0⟩, trivial⟩, Odd_s _⟩
      · cases h
    · cases h) hT
def rowCts : List D → Hp → Nm → Option (Prop × (D → Hp → Prop)) := fun args Hs nn =>
  match args with
  | [.ptr i g r c, .agg a] =>
    match Hs i, mtrOf a with
    | some ⟨_, _, [[.sl L, .v (.int .i64 at')]]⟩, some m => some ((Hs = Hp.none.put i (sE L at') ∧ g = 0 ∧ r = 0 ∧ c = 0) ∧ SrcOk L at' ∧ (nn.1 ≤ i.1 ∧ nn ≠ i) ∧ MtrOk m, SrcO i nn L 2 Cnt.row (CtsOk m))
    | _, _ => Option.none
  | _ => Option.none
theorem cts_one (m : Mtr) : CtsOk m [⟨0, 0⟩] := ⟨by simp, rfl, fun j hj => by
    obtain rfl : j = 0 := by simp at hj; exact hj
    exact ⟨by show (0 : Int) = 0 % spI m.bits; rw [Int.zero_emod], by decide, by decide⟩, fun j hj => by simp at hj⟩
theorem tc_cts {T : Tbl} (hT : TblOk Tryd.prog T) : TblOk Tryd.prog (tc 15 rowCts T) :=
  tc_row f15_ok (fun args Hs nn pre R hr hp => by
    unfold rowCts at hr
    split at hr
    · split at hr
      · rename_i e
        cases hr
        obtain ⟨⟨h1, rfl, rfl, rfl⟩, h2, h3, h4⟩ := hp
        rw [h1, mtrOf_eq e]
        exact ⟨⟨_, _, _, 0, [⟨0, 0⟩], h2, cts_one _, rfl, rfl⟩, counts_o _ h4 _ _ _ _ h2 h3.1 h3.2⟩
      · cases hr
    · cases hr) hT
def rowChn : List D → Hp → Nm → Option (Prop × (D → Hp → Prop)) := fun args Hs nn =>
  match decCh args with
  | some a => some (Hs = Hp.none ∧ ChOk a, ChR nn (chI a.m a.p a.b a.cs a.l))
  | Option.none => Option.none
theorem chR_ex (nn : Nm) (X : List Tic × Run × Int) : ∃ v H', ChR nn X v H' := by
  by_cases h : X.2.2 = 0
  · exact ⟨_, _, .inr ⟨h, 0, rfl, rfl⟩⟩
  · exact ⟨_, _, .inl ⟨h, rfl, .inl rfl⟩⟩
theorem tc_chn {T : Tbl} (hT : TblOk Tryd.prog T) : TblOk Tryd.prog (tc 21 rowChn T) :=
  tc_row f21_ok (fun args Hs nn pre R hr hp => by
    unfold rowChn at hr
    split at hr
    · rename_i a e
      cases hr
      obtain ⟨rfl, h⟩ := hp
      rw [decCh_eq _ _ e]
      exact ⟨chR_ex _ _, tchain_o _ _ _ _ _ h nn⟩
    · cases hr) hT
theorem tc_rchn {T : Tbl} (hT : TblOk Tryd.prog T) : TblOk Tryd.prog (tc 22 rowChn T) :=
  tc_row f22_ok (fun args Hs nn pre R hr hp => by
    unfold rowChn at hr
    split at hr
    · rename_i a e
      cases hr
      obtain ⟨rfl, h⟩ := hp
      rw [decCh_eq _ _ e]
      exact ⟨chR_ex _ _, rchain_o _ _ _ _ _ h nn⟩
    · cases hr) hT
end Go.Proofs.YtehmmnnmkapfeaaDoor

/- Small plain notions for walks over worlds: 'Only': no old block but one has changed; 'Kept': no old block has changed. No program in sight. -/
namespace Go.Proofs.YtehmmnnmkapfeaaDoor
open Go.RowKit
abbrev Kept (w w' : World) : Prop := Below w.heap.size w w'
theorem Kept.refl (w : World) : Kept w w := Below.refl _ _
theorem Kept.trans {a b c : World} (h : Kept a b) (k : Kept b c) : Kept a c := Below.trans h (Below.mono k h.size)
theorem Kept.alloc {a w : World} (h : Kept a w) (o : Obj) : Kept a (w.alloc o) := Below.alloc h h.size o
theorem Kept.drew {a w : World} (h : Kept a w) : Kept a w.drew := Below.drew h
theorem Kept.setCell {a w : World} (h : Kept a w) {p : Addr} (hp : a.heap.size ≤ p.block) (u : Value) : Kept a (w.setCell p u) := Below.setCell h hp u
structure Only (bs : Nat) (w w' : World) : Prop where
  os : w'.os = w.os
  tape : w'.tape = w.tape
  output : w'.output = w.output
  size : w.heap.size ≤ w'.heap.size
  block : ∀ k, k < w.heap.size → k ≠ bs → w'.heap[k]? = w.heap[k]?
theorem Only.refl (bs : Nat) (w : World) : Only bs w w := ⟨rfl, rfl, rfl, Nat.le_refl _, fun _ _ _ => rfl⟩
theorem Only.trans {bs : Nat} {a b c : World} (h : Only bs a b) (k : Only bs b c) : Only bs a c :=
  ⟨k.os.trans h.os, k.tape.trans h.tape, k.output.trans h.output, Nat.le_trans h.size k.size, fun i hi hn => (k.block i (Nat.lt_of_lt_of_le hi h.size) hn).trans (h.block i hi hn)⟩
theorem Only.of_kept {bs : Nat} {w w' : World} (h : Kept w w') : Only bs w w' := ⟨h.os, h.tape, h.output, h.size, fun k hk _ => h.block k hk⟩
theorem Only.kept {bs : Nat} {a w w' : World} (h : Kept a w) (k : Only bs w w') (hb : a.heap.size ≤ bs) : Kept a w' :=
  ⟨k.os.trans h.os, k.tape.trans h.tape, k.output.trans h.output, Nat.le_trans h.size k.size, fun i hi => (k.block i (Nat.lt_of_lt_of_le hi h.size) (by omega)).trans (h.block i hi)⟩
theorem Only.alloc {bs : Nat} {a w : World} (h : Only bs a w) (o : Obj) : Only bs a (w.alloc o) := h.trans (.of_kept ((Kept.refl w).alloc o))
theorem Only.drew {bs : Nat} {a w : World} (h : Only bs a w) : Only bs a w.drew := ⟨h.os, h.tape, h.output, h.size, h.block⟩
theorem Only.setCell {bs : Nat} {a w : World} (h : Only bs a w) {p : Addr} (hp : p.block = bs ∨ a.heap.size ≤ p.block) (u : Value) : Only bs a (w.setCell p u) :=
  ⟨h.os, h.tape, h.output, by have := h.size; simpa [World.setCell] using this, fun k hk hn => by rw [Below.heap_setCell _ _ _ _ (by omega)]; exact h.block k hk hn⟩
def farCell (w : World) (b o : Nat) : Option Value := w.cell? ⟨b, o, none⟩
def farFree (w : World) (b o : Nat) : Bool := w.frozen? ⟨b, o, none⟩
theorem kcell {w w' : World} (hb : Kept w w') : (∀ b o, w'.cell? ⟨b, o, none⟩ = if b < w.heap.size then w.cell? ⟨b, o, none⟩ else farCell w' b o) ∧ (∀ b o, w'.frozen? ⟨b, o, none⟩ = if b < w.heap.size then w.frozen? ⟨b, o, none⟩ else farFree w' b o) :=
  ⟨fun b o => by split; · exact Below.cell hb (p := ⟨b, o, none⟩) ‹_›
                 · rfl,
   fun b o => by split; · exact Below.frozen hb (p := ⟨b, o, none⟩) ‹_›
                 · rfl⟩
theorem ocell {bs : Nat} {w w' : World} (hb : Only bs w w') : (∀ b o, w'.cell? ⟨b, o, none⟩ = if b < w.heap.size ∧ b ≠ bs then w.cell? ⟨b, o, none⟩ else farCell w' b o) ∧ (∀ b o, w'.frozen? ⟨b, o, none⟩ = if b < w.heap.size ∧ b ≠ bs then w.frozen? ⟨b, o, none⟩ else farFree w' b o) :=
  ⟨fun b o => by split; · exact World.cell?_of_block (w := w) (hb.block b (by omega) (by omega))
                 · rfl,
   fun b o => by split; · exact World.frozen?_of_block (w := w) (hb.block b (by omega) (by omega))
                 · rfl⟩
@[go_sem] theorem cell_alloc_ite (w : World) (c : Array Value) (t : TypeId) (fr : Nat × Nat) (n i : Nat) : (w.alloc (.cells c t fr)).cell? ⟨n, i, none⟩ = if n < w.heap.size then w.cell? ⟨n, i, none⟩ else if n = w.heap.size then c[i]? else farCell (w.alloc (.cells c t fr)) n i := by
  split
  · exact World.cell?_alloc_lt _ _ _ ‹_›
  split
  · subst n
    show (match (w.heap.push _)[w.heap.size]? with | some (.cells c _ _) => _ | _ => _) = _
    simp
  · rfl
@[go_sem] theorem free_alloc_ite (w : World) (c : Array Value) (t : TypeId) (n i : Nat) : (w.alloc (.cells c t)).frozen? ⟨n, i, none⟩ = if n < w.heap.size then w.frozen? ⟨n, i, none⟩ else if n = w.heap.size then false else farFree (w.alloc (.cells c t)) n i := by
  split
  · exact World.frozen?_alloc_past _ _ _ ‹_›
  split
  · exact World.frozen?_alloc_at _ _ _ _ ‹_›
  · rfl
@[go_sem] theorem cell_set_ite (w : World) (b o n i : Nat) (v : Value) : (w.setCell ⟨b, o, none⟩ v).cell? ⟨n, i, none⟩ = if b = n ∧ o = i then (w.cell? ⟨n, i, none⟩).map (fun _ => v) else w.cell? ⟨n, i, none⟩ := by
  split
  · obtain ⟨rfl, rfl⟩ := ‹_ ∧ _›
    cases hc : w.cell? ⟨b, o, none⟩ with
    | some u => exact World.cell?_setCell_same _ _ _ hc
    | none =>
      simp only [World.cell?, World.setCell, Array.getElem?_modify, if_pos] at hc ⊢
      cases hh : w.heap[b]? with
      | none => simp
      | some x =>
        rw [hh] at hc
        cases x <;> simp at hc ⊢
        omega
  · exact World.cell?_setCell_other _ _ _ _ (fun e => by injection e with e1 e2; exact (‹¬ (b = n ∧ o = i)› ⟨e1, e2⟩).elim)
theorem kcell1 {w w' : World} (hb : Kept w w') {b : Nat} (h : b < w.heap.size) (o : Nat) : w'.cell? ⟨b, o, none⟩ = w.cell? ⟨b, o, none⟩ := Below.cell hb (p := ⟨b, o, none⟩) h
theorem ocell1 {bs : Nat} {w w' : World} (hb : Only bs w w') {b : Nat} (h : b < w.heap.size) (hn : b ≠ bs) (o : Nat) : w'.cell? ⟨b, o, none⟩ = w.cell? ⟨b, o, none⟩ := World.cell?_of_block (w := w) (hb.block b h hn)
structure KW (w : World) where
  it : World
  kept : Kept w it
structure OW (bs : Nat) (w : World) where
  it : World
  only : Only bs w it
instance (w : World) : Nonempty (KW w) := ⟨⟨w, Kept.refl w⟩⟩
instance (bs : Nat) (w : World) : Nonempty (OW bs w) := ⟨⟨w, Only.refl bs w⟩⟩
@[go_sem] theorem kw_cell {w : World} (k : KW w) (b o : Nat) : k.it.cell? ⟨b, o, none⟩ = if b < w.heap.size then w.cell? ⟨b, o, none⟩ else farCell k.it b o := (kcell k.kept).1 b o
@[go_sem] theorem ow_cell {bs : Nat} {w : World} (k : OW bs w) (b o : Nat) : k.it.cell? ⟨b, o, none⟩ = if b < w.heap.size ∧ b ≠ bs then w.cell? ⟨b, o, none⟩ else farCell k.it b o := (ocell k.only).1 b o
theorem wp_region_kw {P : Program} {id : Nat} {Q : Exit → Act → World → Prop} {a : Act} {w : World} {l : List Oper} (hm : P.follows .mixedOrders = true) (hB : Region.lexB .any l.toArray = true)
    (h : wpQuiet P l.toArray (fun w' => ∃ k : KW w, w' = k.it) (fun a' => ∀ w', (∃ k : KW w, w' = k.it) → Q .normal a' w') l a) : (Code.region id l.toArray true).wp P Q a w :=
  wp_region_quiet (C := fun w' => ∃ k : KW w, w' = k.it) hm hB ⟨⟨w.drew, (Kept.refl w).drew⟩, rfl⟩ (by simpa using h)
def Ret (v : Value) (w : World) (e : Ending) (w' : World) : Prop := e = .returned v ∧ Kept w w'
theorem heap_new (w : World) (o : Obj) : (w.alloc o).heap[w.heap.size]? = some o := by
  show (w.heap.push o)[_]? = _
  simp
def Box (w : World) (b : Nat) (c : Array Value) : Prop := ∃ t, w.heap[b]? = some (.cells c t (0, 0))
theorem Box.cell {w : World} {b : Nat} {c : Array Value} (h : Box w b c) (i : Nat) : w.cell? ⟨b, i, none⟩ = c[i]? := by
  obtain ⟨t, h⟩ := h
  simp [World.cell?, h]
theorem Box.lt {w : World} {b : Nat} {c : Array Value} (h : Box w b c) : b < w.heap.size := by
  obtain ⟨t, h⟩ := h
  rcases Nat.lt_or_ge b w.heap.size with hl | hl
  · exact hl
  · rw [Array.getElem?_eq_none hl] at h; cases h
theorem Box.kept {w w' : World} {b : Nat} {c : Array Value} (h : Box w b c) (k : Kept w w') : Box w' b c := by
  have hl := h.lt
  obtain ⟨t, h⟩ := h
  exact ⟨t, by rw [k.block b hl]; exact h⟩
theorem Box.only {w w' : World} {b bs : Nat} {c : Array Value} (h : Box w b c) (k : Only bs w w') (hn : b ≠ bs) : Box w' b c := by
  have hl := h.lt
  obtain ⟨t, h⟩ := h
  exact ⟨t, by rw [k.block b hl hn]; exact h⟩
theorem Box.new {w : World} {b : Nat} {c : Array Value} {t : TypeId} (hb : b = w.heap.size) : Box (w.alloc (.cells c t)) b c := ⟨t, by subst hb; exact heap_new w _⟩
theorem Box.old {w : World} {b : Nat} {c : Array Value} (h : Box w b c) (o : Obj) : Box (w.alloc o) b c := h.kept ((Kept.refl w).alloc o)
theorem Box.drew {w : World} {b : Nat} {c : Array Value} (h : Box w b c) : Box w.drew b c := h
theorem Box.set {w : World} {b i : Nat} {c c' : Array Value} {v : Value} (h : Box w b c) (hc : c' = c.setIfInBounds i v) : Box (w.setCell ⟨b, i, none⟩ v) b c' := by
  obtain ⟨t, h⟩ := h
  refine ⟨t, ?_⟩
  subst hc
  simp [World.setCell, Array.getElem?_modify, h]
theorem Box.other {w : World} {b : Nat} {c : Array Value} {p : Addr} {v : Value} (h : Box w b c) (hn : b ≠ p.block) : Box (w.setCell p v) b c := by
  obtain ⟨t, h⟩ := h
  exact ⟨t, by rw [Below.heap_setCell _ _ _ _ hn]; exact h⟩
def I64 (n : Int) : Prop := -9223372036854775808 ≤ n ∧ n ≤ 9223372036854775807
def IsSrc (base : Nat) (w : World) (bs : Nat) : Prop :=
  ∃ (a : Option Addr) (len cap at' : Nat) (t : TypeId), base ≤ bs ∧ bs < w.heap.size ∧ len ≤ 2000 ∧ at' ≤ len ∧
    w.heap[bs]? = some (.cells #[.slice a len cap, .int .i64 at'] t (0, 0)) ∧
    (0 < len → ∃ b o, a = some ⟨b, o, none⟩ ∧ b < base ∧ ∀ i, i < len → ∃ n : Int, I64 n ∧ w.cell? ⟨b, o + i, none⟩ = some (.int .i64 n))
theorem IsSrc.lt {base : Nat} {w : World} {bs : Nat} (h : IsSrc base w bs) : base ≤ bs ∧ bs < w.heap.size := by
  obtain ⟨a, len, cap, at', t, h1, h2, _⟩ := h
  exact ⟨h1, h2⟩
theorem IsSrc.keep {base : Nat} {w w' : World} {bs : Nat} (h : IsSrc base w bs) (hs : w.heap.size ≤ w'.heap.size) (hb : w'.heap[bs]? = w.heap[bs]?) (hl : ∀ k, k < base → w'.heap[k]? = w.heap[k]?) : IsSrc base w' bs := by
  obtain ⟨a, len, cap, at', t, h1, h2, h3, h4, h5, h6⟩ := h
  refine ⟨a, len, cap, at', t, h1, by omega, h3, h4, by rw [hb]; exact h5, fun hp => ?_⟩
  obtain ⟨b, o, e, hbb, hc⟩ := h6 hp
  refine ⟨b, o, e, hbb, fun i hi => ?_⟩
  obtain ⟨n, hn, hcell⟩ := hc i hi
  exact ⟨n, hn, by rw [World.cell?_of_block (w := w) (hl b hbb)]; exact hcell⟩
theorem IsSrc.kept {base : Nat} {w w' : World} {bs : Nat} (h : IsSrc base w bs) (k : Kept w w') : IsSrc base w' bs :=
  h.keep k.size (k.block _ h.lt.2) (fun i hi => k.block i (by have := h.lt; omega))
theorem IsSrc.only {base : Nat} {w w' : World} {bs b2 : Nat} (h : IsSrc base w bs) (k : Only b2 w w') (hn : b2 ≠ bs) (hb : base ≤ b2) : IsSrc base w' bs :=
  h.keep k.size (k.block _ h.lt.2 (Ne.symm hn)) (fun i hi => k.block i (by have := h.lt; omega) (by omega))
theorem IsSrc.heap {base : Nat} {w w' : World} {bs : Nat} (h : IsSrc base w bs) (e : w'.heap = w.heap) : IsSrc base w' bs :=
  h.keep (by rw [e]; exact Nat.le_refl _) (by rw [e]) (fun k _ => by rw [e])
theorem IsSrc.alloc {base : Nat} {w : World} {bs : Nat} (h : IsSrc base w bs) (o : Obj) : IsSrc base (w.alloc o) bs := h.kept ((Kept.refl w).alloc o)
theorem IsSrc.drew {base : Nat} {w : World} {bs : Nat} (h : IsSrc base w bs) : IsSrc base w.drew bs := h.kept (Kept.refl w).drew
theorem IsSrc.setCell {base : Nat} {w : World} {bs : Nat} (h : IsSrc base w bs) {p : Addr} (hn : p.block ≠ bs) (hp : base ≤ p.block) (u : Value) : IsSrc base (w.setCell p u) bs :=
  h.keep (by simp [World.setCell]) (Below.heap_setCell _ _ _ _ (by omega)) (fun k hk => Below.heap_setCell _ _ _ _ (by omega))
abbrev spansC : Array Value := #[.int .i64 400, .int .i64 1200, .int .i64 0, .int .i64 2000, .int .i64 0, .int .i64 5000, .int .i64 1, .int .i64 2000]
abbrev Spans (w : World) : Prop := Box w 0 spansC
end Go.Proofs.YtehmmnnmkapfeaaDoor

/- The package's table of ranges, as the condition of the tied rows gives it. -/
namespace Go.Proofs.YtehmmnnmkapfeaaDoor
open Go.RowKit Go.ChangeShapes Go.WideShapes
theorem spans_glob : Tryd.prog.globalNamed "batchline/product.spans" = some 0 := by kernel_rfl
theorem spans_type : (Tryd.prog.globals[0]?).map (·.type) = some 167 := by kernel_rfl
theorem spans_cells4 : Tryd.prog.cellsOf 167 = 8 := by kernel_rfl
theorem spans_cells1 : Tryd.prog.cellsOf 166 = 2 := by kernel_rfl
theorem spans_cells0 : Tryd.prog.cellsOf 3 = 1 := by kernel_rfl
theorem span_of_trod {W : World} {fuel : Nat} {c d : Value} {x y : Int} {p : List MemPlace} (h : DataW.trod (fun _ => ()) Tryd.prog W 0 (fun _ => true) false fuel 166 [c, d] = some (.agg [.lit (.int .i64 x), .lit (.int .i64 y)], p)) :
    c = .int .i64 x ∧ d = .int .i64 y := by
  obtain ⟨xs, n, _, hx, _, hl, hf⟩ := DataW.trod_struct Tryd.underlying166 h
  obtain ⟨a, b, rfl⟩ : ∃ a b, xs = [a, b] := match xs, hl with | [a, b], _ => ⟨a, b, rfl⟩
  have h0 := hf 0 _ rfl
  have h1 := hf 1 _ rfl
  simp only [spans_cells0, List.drop_zero, List.take_succ_cons, List.take_zero, List.drop_succ_cons, List.getElem?_cons_zero, List.getElem?_cons_succ] at h0 h1
  obtain ⟨m, hm, rfl, _⟩ := DataW.trod_int Tryd.underlying3 h0
  obtain ⟨k, hk, rfl, _⟩ := DataW.trod_int Tryd.underlying3 h1
  injection hm with hm _
  injection hk with hk _
  subst hm hk
  simp at hx
  obtain ⟨⟨rfl, rfl⟩, _⟩ := hx
  exact ⟨rfl, rfl⟩
theorem spans_of_laid {W : World} (h : laidMet Tryd.prog [("batchline/product.spans", Rows.laid_batchline_product_spans)] W) : Spans W := by
  obtain ⟨ps, ⟨g, t, cs, fuel, p, q, hg, ht, hvar, hd, _, hps⟩, _, hcell⟩ := h
  obtain rfl := Option.some.inj (spans_glob.symm.trans hg)
  obtain rfl := Option.some.inj (spans_type.symm.trans ht)
  obtain ⟨xs, m, _, hx, hcl, hl, hf⟩ := DataW.trod_array Tryd.underlying167 hd
  rw [spans_cells4] at hcl
  obtain ⟨l⟩ := cs
  simp only at hcl hf
  obtain ⟨c0, c1, c2, c3, c4, c5, c6, c7, rfl⟩ : ∃ c0 c1 c2 c3 c4 c5 c6 c7, l = [c0, c1, c2, c3, c4, c5, c6, c7] := match l, hcl with | [a, b, c, d, e, f, g, h], _ => ⟨a, b, c, d, e, f, g, h, rfl⟩
  obtain ⟨y0, y1, y2, y3, rfl⟩ : ∃ a b c d, xs = [a, b, c, d] := match xs, hl with | [a, b, c, d], _ => ⟨a, b, c, d, rfl⟩
  have h0 := hf 0 (by omega)
  have h1 := hf 1 (by omega)
  have h2 := hf 2 (by omega)
  have h3 := hf 3 (by omega)
  rw [spans_cells1] at h0 h1 h2 h3
  simp at h0 h1 h2 h3
  obtain ⟨d0, p0⟩ := y0
  obtain ⟨d1, p1⟩ := y1
  obtain ⟨d2, p2⟩ := y2
  obtain ⟨d3, p3⟩ := y3
  simp [Rows.laid_batchline_product_spans] at hx
  obtain ⟨⟨rfl, rfl, rfl, rfl⟩, _⟩ := hx
  obtain ⟨rfl, rfl⟩ := span_of_trod h0
  obtain ⟨rfl, rfl⟩ := span_of_trod h1
  obtain ⟨rfl, rfl⟩ := span_of_trod h2
  obtain ⟨rfl, rfl⟩ := span_of_trod h3
  obtain ⟨⟨c, t, hb⟩, _⟩ := hcell 0 0 (by rw [hps]; simp [MemPlace.row])
  refine ⟨t, ?_⟩
  rw [hb]
  unfold World.var? at hvar
  rw [spans_glob] at hvar
  simp only [Option.bind_some, hb, Option.some.injEq] at hvar
  rw [hvar]
abbrev LaidFacts (w : World) : Prop := Spans w
theorem laidFacts_of {W : World} (h : laidMetH Tryd.prog [("batchline/product.spans", Rows.laid_batchline_product_spans)] W) : LaidFacts W := spans_of_laid h
end Go.Proofs.YtehmmnnmkapfeaaDoor

/- Walks of the reader of numbers: batchlinekeep.Mod, Src.Raw, Src.N, Src.Range, Src.Pick. -/
namespace Go.Proofs.YtehmmnnmkapfeaaDoor
open Go.RowKit
def RowOf (w : World) (b o len : Nat) (Q : Value → Prop) : Prop := ∀ i, i < len → ∃ v, Q v ∧ w.cell? ⟨b, o + i, none⟩ = some v
theorem RowOf.only {w w' : World} {b o len bs : Nat} {Q : Value → Prop} (h : RowOf w b o len Q) (k : Only bs w w') (hb : b < w.heap.size) (hn : b ≠ bs) : RowOf w' b o len Q := fun i hi => by
  obtain ⟨v, hv, hc⟩ := h i hi
  exact ⟨v, hv, by rw [ocell1 k hb hn]; exact hc⟩
theorem RowOf.new {w : World} {n k : Nat} {c : Array Value} {t : TypeId} {fr : Nat × Nat} {Q : Value → Prop} (hn : n = w.heap.size) (hk : k = c.size) (h : ∀ v ∈ c, Q v) : RowOf (w.alloc (.cells c t fr)) n 0 k Q := fun i hi => by
  subst hn hk
  refine ⟨c[i], h _ (Array.getElem_mem hi), ?_⟩
  rw [cell_alloc_ite, if_neg (by omega), if_pos rfl]
  simp [hi]
def IntIs (P : Int → Prop) (v : Value) : Prop := ∃ n, P n ∧ v = .int .i64 n
def ArgInts (w : World) (a : Option Addr) (len cap : Nat) : Prop :=
  len ≤ cap ∧ cap ≤ maxLen ∧ (0 < len → ∃ b o, a = some ⟨b, o, none⟩ ∧ b < w.heap.size ∧ RowOf w b o len (IntIs I64))
def IsRow (k : IntKind) (w : World) (a : Option Addr) (len cap : Nat) (zs : List Int) : Prop :=
  (a = none ∧ len = 0 ∧ cap = 0 ∧ zs = []) ∨
  ∃ x, a = some x ∧ len ≤ cap ∧ cap ≤ maxLen ∧ zs.length = cap ∧ (∀ i, i < zs.length → w.cell? (x.add i) = some (.int k (zs.getD i 0))) ∧ ∀ n ∈ zs, (Lit.int k n).wf = true
theorem argInts_of {w : World} {a : Option Addr} {len cap : Nat} {zs : List Int} (h : IsRow .i64 w a len cap zs) : ArgInts w a len cap := by
  rcases h with ⟨rfl, rfl, rfl, _⟩ | ⟨x, rfl, h1, h2, h3, h4, h5⟩
  · exact ⟨Nat.le_refl _, Nat.zero_le _, fun h => absurd h (by omega)⟩
  · refine ⟨h1, h2, fun hp => ?_⟩
    obtain ⟨b, o, rfl, hc⟩ := ints_at h4 (by omega)
    refine ⟨b, o, rfl, ?_, fun i hi => ?_⟩
    · rcases Nat.lt_or_ge b w.heap.size with h | h
      · exact h
      · exfalso
        have hc0 := hc 0 (by omega)
        simp only [World.cell?] at hc0
        rw [Array.getElem?_eq_none h] at hc0
        simp at hc0
    · refine ⟨_, ⟨zs.getD i 0, ?_, rfl⟩, hc i (by omega)⟩
      have hm : zs.getD i 0 ∈ zs := by
        rw [List.getD_eq_getElem?_getD, List.getElem?_eq_getElem (by omega)]
        exact List.getElem_mem _
      exact bounds_i64 (h5 _ hm)
end Go.Proofs.YtehmmnnmkapfeaaDoor

/- A slice of ints that came in stays one where no old block changes. -/
namespace Go.Proofs.YtehmmnnmkapfeaaDoor
open Go.RowKit
theorem ArgInts.kept {w w' : World} {a : Option Addr} {len cap : Nat} (h : ArgInts w a len cap) (k : Kept w w') : ArgInts w' a len cap := by
  obtain ⟨h1, h2, h3⟩ := h
  refine ⟨h1, h2, fun hp => ?_⟩
  obtain ⟨b, o, e, hb, hr⟩ := h3 hp
  refine ⟨b, o, e, Nat.lt_of_lt_of_le hb k.size, fun i hi => ?_⟩
  obtain ⟨v, hv, hc⟩ := hr i hi
  exact ⟨v, hv, by rw [kcell1 k hb]; exact hc⟩
theorem RowOf.drew {w : World} {b o len : Nat} {Q : Value → Prop} (h : RowOf w b o len Q) : RowOf w.drew b o len Q := h
def plainV (us : List Value) : List D := us.map D.v
theorem ints_data {w : World} {a : Option Addr} {len cap : Nat} (h : ArgInts w a len cap) : ∃ (ns : List Int) (Im : Nat → Prop), (∀ n ∈ ns, InI n) ∧ (∀ b, Im b → b < w.heap.size) ∧ RelP Im w.heap (.sl (ns.map fun n => [di n])) (.slice a len cap) := by
  obtain ⟨h1, h2, h3⟩ := h
  rcases Nat.eq_zero_or_pos len with h0 | h0
  · subst h0
    exact ⟨[], fun _ => False, fun n hn => (by cases hn), fun b hb => hb.elim, .sl0 a cap⟩
  · obtain ⟨b, o, rfl, hb, hr⟩ := h3 h0
    have hv : ∀ i, i < len → ∃ n, I64 n ∧ hc w.heap b (o + i) = some (.int .i64 n) := fun i hi => by
      obtain ⟨v, ⟨n, hn, rfl⟩, hcell⟩ := hr i hi
      exact ⟨n, hn, by rw [← hc_cell]; exact hcell⟩
    let f : Nat → Int := fun i => match hc w.heap b (o + i) with
      | some (.int .i64 n) => n
      | _ => 0
    have hf : ∀ i, i < len → hc w.heap b (o + i) = some (.int .i64 (f i)) ∧ I64 (f i) := fun i hi => by
      obtain ⟨n, hn, e⟩ := hv i hi
      have : f i = n := by show (match hc w.heap b (o + i) with | some (.int .i64 n) => n | _ => 0) = n; rw [e]
      rw [this]
      exact ⟨e, hn⟩
    refine ⟨(List.range len).map f, fun b' => b' = b, fun n hn => ?_, fun b' hb' => by rw [hb']; exact hb, ?_⟩
    · obtain ⟨i, hi, rfl⟩ := List.mem_map.1 hn
      exact (hf i (List.mem_range.1 hi)).2
    · refine .sl1 _ b o len cap 1 (fun i _ => .int .i64 (f i)) (by simp) h1 (fun r hr => ?_) rfl (fun i j hi hj => ?_) (fun i j hi hj => ?_)
      · obtain ⟨n, _, rfl⟩ := List.mem_map.1 hr
        rfl
      · obtain rfl : j = 0 := by omega
        rw [show o + i * 1 + 0 = o + i by omega]
        exact ⟨(hf i hi).1, rfl⟩
      · have hi' : i < len := by simpa using hi
        have e : ((((List.range len).map f).map fun n => [di n])[i]'hi) = [di (f i)] := by simp
        have hj' : j = 0 := by
          have : j < [di (f i)].length := by rw [← e]; exact hj
          simpa using this
        subst hj'
        have e2 : (((((List.range len).map f).map fun n => [di n])[i]'hi)[0]'hj) = di (f i) := by simp
        rw [e2]
        exact .v _
theorem kept_of {P : Program} {R : D → Hp → Prop} {Im Im' : Nat → Prop} {p p' : Pl} {w w' : World} {e : Ending} {v : D} {H' : Hp} {u : Value} {nn : Nm} (L : Left P Hp.none nn R Im p w e w' Im' p' v H' u) : Kept w w' := by
  have X := L.relE 0
  exact ⟨X.os, X.tape, X.output, X.size, fun b hb => X.block b hb fun ⟨i, e, hi, _⟩ => by cases hi⟩
abbrev AllIm (w : World) : Nat → Prop := fun b => b < w.heap.size
theorem law_intsG {f : FuncId} {us : List Value} {a : Option Addr} {len cap : Nat} {w : World} (hg : GlOk (AllIm w) w.heap) (h : ArgInts w a len cap) (hc : ∀ ns : List Int, (∀ n ∈ ns, InI n) → CallsA Tryd.prog f (.sl (ns.map fun n => [di n]) :: plainV us) Hp.none (0, 0) (Pu (db true) Hp.none)) :
    Calls Tryd.prog f (Value.slice a len cap :: us).toArray w (Ret (.bool true) w) := by
  obtain ⟨ns, Im, h1, h2, h3⟩ := ints_data h
  refine (hc ns h1 w (AllIm w) (fun _ => (0, 0)) (Value.slice a len cap :: us).toArray (by simp [plainV]) (fun j d u hd hu => ?_) ⟨fun i e hi => (by cases hi), fun i j e e' hi => (by cases hi), fun b hb => hb⟩ (fun k _ => rfl) hg).mono ?_
  · cases j with
    | zero =>
      simp at hd hu
      subst hd hu
      exact .p (h3.mono h2 fun _ _ => rfl)
    | succ j =>
      simp [plainV] at hd hu
      obtain ⟨x, hx, rfl⟩ := hd
      rw [hu] at hx
      cases hx
      exact .p (.v _)
  · rintro e w' ⟨Im', p', v, H', u, L⟩
    obtain ⟨rfl, rfl⟩ := L.post
    have := rel_v L.rel
    subst this
    exact ⟨L.end_, kept_of L⟩
theorem glOk_of {w : World} (h : LaidFacts w) : GlOk (AllIm w) w.heap := by
  obtain ⟨t, hb⟩ := h
  intro g f hg
  unfold GL glAt at hg
  split at hg
  · rename_i e
    cases hg
    subst e
    refine ⟨lt_of_some hb, fun j => spansC[j]?.getD undef, fun j hj => ?_, fun j d hd => ?_⟩
    · unfold hc
      rw [hb]
      dsimp only
      simp only [List.length_cons, List.length_nil] at hj
      match j, hj with
      | 0, _ => exact ⟨rfl, rfl⟩
      | 1, _ => exact ⟨rfl, rfl⟩
      | 2, _ => exact ⟨rfl, rfl⟩
      | 3, _ => exact ⟨rfl, rfl⟩
      | 4, _ => exact ⟨rfl, rfl⟩
      | 5, _ => exact ⟨rfl, rfl⟩
      | 6, _ => exact ⟨rfl, rfl⟩
      | 7, _ => exact ⟨rfl, rfl⟩
    · match j, hd with
      | 0, hd => cases hd; exact .v _
      | 1, hd => cases hd; exact .v _
      | 2, hd => cases hd; exact .v _
      | 3, hd => cases hd; exact .v _
      | 4, hd => cases hd; exact .v _
      | 5, hd => cases hd; exact .v _
      | 6, hd => cases hd; exact .v _
      | 7, hd => cases hd; exact .v _
      | j + 8, hd => simp at hd
  · unfold glAt at hg
    cases hg
def c3_1 : C := (.seq (.block 1 (.ops false [oP 45 (.mv (.t 12)), oP 46 (.mv (.t 7)), oB 47 (.call 16 [(.t 46)]), oP 48 (.bsl 2 1 [(.v (.int .i64 0)), (.v (.int .i64 0))] [(0, (.t 47))]), oP 49 (.app 2 16 (.t 45) (.t 48)), oP 12 (.mv (.t 49))])) (.ops false [oP 43 (.mv (.t 13)), oP 44 (.bin .add (.t 43) (cI 1)), oP 13 (.mv (.t 44))]))
def c3_2 : C := (.seq (.seq (.ops false [oP 39 (.mv (.t 13)), oP 40 (.mv (.t 11)), oP 41 (.len (.t 40)), oP 42 (.bin .lss (.t 39) (.t 41))]) (.cond (.t 42) .skip (.exit 0))) c3_1)
def c3_3 : C := (.seq (.opsF true [(false, oP 209 (.ld 3 true (.t 8))), (false, oP 210 (.ld 5 true (.t 9))), (false, oP 211 (.ld 8 true (.t 16))), (false, oE 212 (.call 24 [(.t 209), (.t 210), (.t 211)]) [2, 1, 0]), (false, oP 213 (.ld 3 true (.t 8))), (false, oP 214 (.ld 5 true (.t 9))), (false, oP 215 (.ld 8 true (.t 16))), (false, oE 216 (.call 25 [(.t 213), (.t 214), (.t 215)]) [0, 1, 2, 3, 6, 5, 4]), (false,
  oA 217 (.bin .eql (.t 212) (.t 216)) [4, 5, 6, 0, 1, 2, 7, 3]), (false, oA 218 (.mv (.t 217)) [3, 2, 1, 0, 6, 5, 4, 7, 8]), (false, oH 219 218 true (.mv (.t 21)) [8, 7, 4, 5, 6, 0, 1, 2, 3, 9]), (false, oH 220 218 true (.ld 8 true (.t 16)) [8, 7, 4, 5, 6, 0, 1, 2, 3, 9]), (false, oH 221 218 true (.bsl 8 1 [(.v (.int .i64 0)), (.v (.int .i64 0)), (.v (.int .i64 0)), (.v (.int .i64 0)),
  (.v (.int .i64 0)), (.v (.int .i64 0)), (.v (.int .i64 0)), (.v (.int .i64 0))] [(0, (.t 220))]) [3, 2, 1, 0, 6, 5, 4, 7, 8, 9, 11]), (true, oH 222 218 true (.app 8 64 (.t 219) (.t 221)) [11, 3, 2, 1, 0, 6, 5, 4, 7, 8, 9, 12, 10]), (false, oH 223 218 true (.mv (.t 10)) [8, 7, 4, 5, 6, 0, 1, 2, 3, 9]), (true, oD 224 218 true (.call 26 [(.t 222), (.t 223)]) [10, 12, 8, 7, 4, 5, 6, 0, 1, 2, 3, 11, 9,
  14, 13]), (false, oH 225 218 true (.mv (.t 21)) [8, 7, 4, 5, 6, 0, 1, 2, 3, 9]), (false, oH 226 218 true (.ld 8 true (.t 16)) [8, 7, 4, 5, 6, 0, 1, 2, 3, 9]), (false, oH 227 218 true (.bsl 8 1 [(.v (.int .i64 0)), (.v (.int .i64 0)), (.v (.int .i64 0)), (.v (.int .i64 0)), (.v (.int .i64 0)), (.v (.int .i64 0)), (.v (.int .i64 0)), (.v (.int .i64 0))] [(0, (.t 226))]) [3, 2, 1, 0, 6, 5, 4, 7, 8,
  9, 17]), (true, oH 228 218 true (.app 8 64 (.t 225) (.t 227)) [13, 14, 11, 12, 10, 17, 3, 2, 1, 0, 6, 5, 4, 7, 8, 9, 15, 18, 16]), (false, oH 229 218 true (.mv (.t 10)) [8, 7, 4, 5, 6, 0, 1, 2, 3, 9]), (true, oD 230 218 true (.call 27 [(.t 228), (.t 229)]) [16, 18, 15, 8, 7, 4, 5, 6, 0, 1, 2, 3, 17, 10, 12, 11, 14, 13, 9, 20, 19]), (false, oH 231 218 true (.bin .eql (.t 224) (.t 230)) [19, 20, 17,
  18, 16, 13, 14, 11, 3, 2, 1, 0, 6, 5, 4, 7, 8, 12, 10, 9, 21, 15]), (false, oA 232 (.pick (.t 218) (.t 231) (cB false)) [15, 21, 10, 12, 11, 14, 13, 16, 18, 17, 20, 19, 8, 7, 4, 5, 6, 0, 1, 2, 3, 22, 9]), (false, oA 233 (.mv (.t 232)) [9, 22, 3, 2, 1, 0, 6, 5, 4, 7, 8, 19, 20, 17, 18, 16, 13, 14, 11, 12, 10, 15, 21, 23]), (false, oD 234 233 true (.call 10 []) [23, 21, 15, 10, 12, 11, 14, 13, 16,
  18, 17, 20, 19, 8, 7, 4, 5, 6, 0, 1, 2, 3, 22, 9, 24]), (false, oA 235 (.pick (.t 233) (.t 234) (cB false)) [23, 21, 15, 10, 12, 11, 14, 13, 16, 18, 17, 20, 19, 8, 7, 4, 5, 6, 0, 1, 2, 3, 22, 9, 25, 24]), (false, oA 6 (.mv (.t 235)) [24, 23, 22, 21, 20, 19, 18, 17, 16, 15, 14, 13, 12, 11, 10, 9, 8, 7, 6, 5, 4, 3, 2, 1, 0, 25, 26])]) .ret)
def c3_4 : C := (.seq (.seq (.ops false [oP 189 (.mv (.t 1)), oB 190 (.call 17 [(.t 189), (cI 12)])]) (.block 3 (.seq (.ops false [oP 192 (.bin .eql (.t 190) (cI 7)), oP 191 (.mv (.t 192))]) (.cond (.t 191) (.ops false [oP 193 (.fa 7 (.t 16)), oP 194 (.ld 1 false (.t 193)), oP 195 (.bin .add (.t 194) (cI 1)), oP 196 (.fa 7 (.t 16)), oS (.st 1 (.t 196) (.t 195))]) (.seq (.ops false [oP 198 (.bin .eql (.t 190)
  (cI 8)), oP 197 (.mv (.t 198))]) (.cond (.t 197) (.ops false [oP 199 (.mv (.t 2)), oB 200 (.call 17 [(.t 199), (cI 9)]), oP 201 (.bin .sub (.t 200) (cI 1)), oP 202 (.fa 0 (.t 16)), oS (.st 1 (.t 202) (.t 201))]) (.seq (.ops false [oP 204 (.bin .eql (.t 190) (cI 9)), oP 203 (.mv (.t 204))]) (.cond (.t 203) (.ops false [oP 205 (.mv (.t 2)), oB 206 (.call 17 [(.t 205), (cI 300)]),
  oP 207 (.fa 5 (.t 16)), oP 208 (.fa 1 (.t 207)), oS (.st 1 (.t 208) (.t 206))]) .skip)))))))) (.weak c3_3))
def c3_5 : C := (.seq (.ops true [oP 100 (.ld 3 true (.t 8)), oP 101 (.ld 5 true (.t 9)), oP 102 (.mv (.t 10)), oP 103 (.mv (.t 11)), oA 104 (.iaS 2 (.t 103) (cI 0)) [3], oA 105 (.ld 2 true (.t 104)) [3, 4], oP 106 (.mv (.t 11)), oP 107 (.mv (.t 11)), oA 108 (.len (.t 107)) [7], oA 109 (.bin .sub (.t 108) (cI 1)) [7, 8], oA 110 (.iaS 2 (.t 106) (.t 109)) [8, 7, 9, 6], oA 111 (.ld 2 true (.t 110)) [6, 9, 7, 8,
  10], oP 112 (.mv (.t 12)), oA 113 (.iaS 2 (.t 112) (cI 0)) [12], oA 114 (.ld 2 true (.t 113)) [12, 13], oE 115 (.call 19 [(.t 100), (.t 101), (.t 102), (.t 105), (.t 111), (.t 114)]) [13, 12, 10, 8, 7, 9, 6, 4, 3, 14, 11, 5, 2, 1, 0], oA 99 (.mv (.t 115)) [0, 1, 2, 5, 11, 14, 3, 4, 6, 9, 7, 8, 10, 12, 13, 15], oA 116 (.ext (.t 99) 0) [15, 13, 12, 10, 8, 7, 9, 6, 4, 3, 14, 11, 5, 2, 1, 0, 16],
  oA 117 (.ext (.t 99) 1) [15, 13, 12, 10, 8, 7, 9, 6, 4, 3, 14, 11, 5, 2, 1, 0, 16], oP 14 (.new [(.v (.int .i64 0)), (.v (.int .i64 0)), (.v (.int .i64 0)), (.v (.int .i64 0)), (.v (.int .i64 0)), (.v (.int .i64 0)), (.v (.int .i64 0)), (.v (.int .i64 0))]), oT (.st 8 (.t 14) (.t 116)) [16, 14, 13, 12, 11, 10, 9, 8, 7, 6, 5, 4, 3, 2, 1, 0, 15, 17, 19], oA 15 (.mv (.t 117)) [19, 17, 16, 15, 14, 13,
  12, 11, 10, 9, 8, 7, 6, 5, 4, 3, 2, 1, 0, 20, 18]]) (.seq (.ops true [oP 119 (.ld 3 true (.t 8)), oP 120 (.ld 5 true (.t 9)), oP 121 (.mv (.t 10)), oP 122 (.mv (.t 11)), oA 123 (.iaS 2 (.t 122) (cI 0)) [3], oA 124 (.ld 2 true (.t 123)) [3, 4], oP 125 (.mv (.t 11)), oP 126 (.mv (.t 11)), oA 127 (.len (.t 126)) [7], oA 128 (.bin .sub (.t 127) (cI 1)) [7, 8], oA 129 (.iaS 2 (.t 125) (.t 128)) [8, 7,
  9, 6], oA 130 (.ld 2 true (.t 129)) [6, 9, 7, 8, 10], oP 131 (.mv (.t 12)), oA 132 (.iaS 2 (.t 131) (cI 0)) [12], oA 133 (.ld 2 true (.t 132)) [12, 13], oE 134 (.call 20 [(.t 119), (.t 120), (.t 121), (.t 124), (.t 130), (.t 133)]) [13, 12, 10, 8, 7, 9, 6, 4, 3, 14, 11, 5, 2, 1, 0], oA 118 (.mv (.t 134)) [0, 1, 2, 5, 11, 14, 3, 4, 6, 9, 7, 8, 10, 12, 13, 15], oA 135 (.ext (.t 118) 0) [15, 13, 12,
  10, 8, 7, 9, 6, 4, 3, 14, 11, 5, 2, 1, 0, 16], oA 136 (.ext (.t 118) 1) [15, 13, 12, 10, 8, 7, 9, 6, 4, 3, 14, 11, 5, 2, 1, 0, 16], oP 16 (.new [(.v (.int .i64 0)), (.v (.int .i64 0)), (.v (.int .i64 0)), (.v (.int .i64 0)), (.v (.int .i64 0)), (.v (.int .i64 0)), (.v (.int .i64 0)), (.v (.int .i64 0))]), oT (.st 8 (.t 16) (.t 135)) [16, 14, 13, 12, 11, 10, 9, 8, 7, 6, 5, 4, 3, 2, 1, 0, 15, 17,
  19], oA 17 (.mv (.t 136)) [19, 17, 16, 15, 14, 13, 12, 11, 10, 9, 8, 7, 6, 5, 4, 3, 2, 1, 0, 20, 18]]) (.seq (.opsF true [(false, oP 138 (.ld 3 true (.t 8))), (false, oP 139 (.ld 5 true (.t 9))), (false, oP 140 (.mv (.t 10))), (false, oP 141 (.mv (.t 11))), (false, oP 142 (.mv (.t 12))), (false, oP 143 (.mv (.t 12))), (false, oA 144 (.len (.t 143)) [5]), (false, oA 145 (.bin .sub (.t 144) (cI 1))
  [5, 6]), (false, oA 146 (.slc 2 (.t 142) Option.none (.some (.t 145))) [6, 5, 7, 4]), (true, oA 147 (.call 21 [(.t 138), (.t 139), (.t 140), (.t 141), (.t 146)]) [4, 7, 5, 6, 8, 3, 2, 1, 0]), (false, oA 137 (.mv (.t 147)) [0, 1, 2, 3, 8, 6, 5, 7, 4, 9]), (false, oA 148 (.ext (.t 137) 0) [9, 4, 7, 5, 6, 8, 3, 2, 1, 0, 10]), (false, oA 149 (.ext (.t 137) 1) [9, 4, 7, 5, 6, 8, 3, 2, 1, 0, 10]),
  (false, oA 150 (.ext (.t 137) 2) [9, 4, 7, 5, 6, 8, 3, 2, 1, 0, 10]), (false, oP 19 (.new [(.v (.int .i64 0)), (.v (.int .i64 0))])), (false, oA 18 (.mv (.t 148)) [14, 10, 8, 7, 6, 5, 4, 3, 2, 1, 0, 9, 11]), (false, oT (.st 2 (.t 19) (.t 149)) [11, 10, 9, 8, 7, 6, 5, 4, 3, 2, 1, 0, 15, 12, 14]), (false, oA 20 (.mv (.t 150)) [15, 14, 12, 11, 10, 9, 8, 7, 6, 5, 4, 3, 2, 1, 0, 16, 13])])
  (.seq (.opsF true [(false, oP 152 (.ld 3 true (.t 8))), (false, oP 153 (.ld 5 true (.t 9))), (false, oP 154 (.mv (.t 10))), (false, oP 155 (.mv (.t 11))), (false, oP 156 (.mv (.t 12))), (false, oP 157 (.mv (.t 12))), (false, oA 158 (.len (.t 157)) [5]), (false, oA 159 (.bin .sub (.t 158) (cI 1)) [5, 6]), (false, oA 160 (.slc 2 (.t 156) Option.none (.some (.t 159))) [6, 5, 7, 4]), (true,
  oA 161 (.call 22 [(.t 152), (.t 153), (.t 154), (.t 155), (.t 160)]) [4, 7, 5, 6, 8, 3, 2, 1, 0]), (false, oA 151 (.mv (.t 161)) [0, 1, 2, 3, 8, 6, 5, 7, 4, 9]), (false, oA 162 (.ext (.t 151) 0) [9, 4, 7, 5, 6, 8, 3, 2, 1, 0, 10]), (false, oA 163 (.ext (.t 151) 1) [9, 4, 7, 5, 6, 8, 3, 2, 1, 0, 10]), (false, oA 164 (.ext (.t 151) 2) [9, 4, 7, 5, 6, 8, 3, 2, 1, 0, 10]), (false,
  oP 22 (.new [(.v (.int .i64 0)), (.v (.int .i64 0))])), (false, oA 21 (.mv (.t 162)) [14, 10, 8, 7, 6, 5, 4, 3, 2, 1, 0, 9, 11]), (false, oT (.st 2 (.t 22) (.t 163)) [11, 10, 9, 8, 7, 6, 5, 4, 3, 2, 1, 0, 15, 12, 14]), (false, oA 23 (.mv (.t 164)) [15, 14, 12, 11, 10, 9, 8, 7, 6, 5, 4, 3, 2, 1, 0, 16, 13])]) (.seq (.seq (.opsF false [(false, oP 165 (.mv (.t 15))), (false, oP 166 (.mv (.t 17))),
  (false, oP 167 (.bin .neq (.t 165) (.t 166))), (false, oP 168 (.mv (.t 167))), (false, oG 169 168 false (.ld 8 true (.t 14))), (false, oG 170 168 false (.ld 8 true (.t 16))), (false, oG 171 168 false (.eqa true [0, 0, 0, 0, 0, 0, 0, 0] (.t 169) (.t 170))), (false, oP 172 (.pick (.t 168) (cB true) (.t 171))), (false, oP 173 (.mv (.t 172))), (false, oG 174 173 false (.mv (.t 20))), (false,
  oG 175 173 false (.mv (.t 23))), (false, oG 176 173 false (.bin .neq (.t 174) (.t 175))), (false, oP 177 (.pick (.t 173) (cB true) (.t 176))), (false, oP 178 (.mv (.t 177))), (false, oG 179 178 false (.ld 2 true (.t 19))), (false, oG 180 178 false (.ld 2 true (.t 22))), (false, oG 181 178 false (.eqa true [0, 0] (.t 179) (.t 180))), (false, oP 182 (.pick (.t 178) (cB true) (.t 181))), (false,
  oP 183 (.mv (.t 182))), (false, oG 184 183 false (.mv (.t 18))), (false, oG 185 183 false (.mv (.t 21))), (true, oD 186 183 false (.call 23 [(.t 184), (.t 185)]) []), (false, oG 187 183 false (.not (.t 186))), (false, oP 188 (.pick (.t 183) (cB true) (.t 187)))]) (.cond (.t 188) (.seq (.ops false [oP 6 (.mv (cB false))]) .ret) .skip)) (.weak c3_4))))))
def c3_6 : C := (.seq (.ops false [oP 50 (.mv (.t 12)), oP 51 (.mv (.t 7)), oB 52 (.call 16 [(.t 51)]), oP 53 (.bsl 2 1 [(.v (.int .i64 0)), (.v (.int .i64 0))] [(0, (.t 52))]), oP 54 (.app 2 16 (.t 50) (.t 53)), oP 12 (.mv (.t 54))]) (.seq (.seq (.ops false [oP 55 (.mv (.t 1)), oB 56 (.call 17 [(.t 55), (cI 12)])]) (.block 2 (.seq (.ops false [oP 58 (.bin .eql (.t 56) (cI 0)), oP 57 (.mv (.t 58))])
  (.cond (.t 57) (.ops false [oP 59 (.mv (.t 2)), oP 60 (.fa 0 (.t 8)), oS (.st 1 (.t 60) (.t 59))]) (.seq (.ops false [oP 62 (.bin .eql (.t 56) (cI 1)), oP 61 (.mv (.t 62))]) (.cond (.t 61) (.ops false [oP 63 (.mv (.t 7)), oP 64 (.ld 5 true (.t 9)), oB 65 (.call 18 [(.t 63), (.t 64)]), oS (.st 5 (.t 9) (.t 65))]) (.seq (.ops false [oP 67 (.bin .eql (.t 56) (cI 2)), oP 66 (.mv (.t 67))])
  (.cond (.t 66) (.ops false [oP 68 (.mv (.t 2)), oB 69 (.call 17 [(.t 68), (cI 1003)]), oP 70 (.bin .sub (.t 69) (cI 1)), oP 10 (.mv (.t 70))]) (.seq (.ops false [oP 72 (.bin .eql (.t 56) (cI 3)), oP 71 (.mv (.t 72))]) (.cond (.t 71) (.ops false [oP 73 (.mv (.t 11)), oP 74 (.mv (.t 2)), oP 75 (.iaS 2 (.t 73) (cI 0)), oP 76 (.fa 1 (.t 75)), oS (.st 1 (.t 76) (.t 74))])
  (.seq (.ops false [oP 78 (.bin .eql (.t 56) (cI 4)), oP 77 (.mv (.t 78))]) (.cond (.t 77) (.ops false [oP 79 (.mv (.t 12)), oP 80 (.mv (.t 2)), oP 81 (.iaS 2 (.t 79) (cI 0)), oP 82 (.fa 0 (.t 81)), oS (.st 1 (.t 82) (.t 80))]) (.seq (.ops false [oP 84 (.bin .eql (.t 56) (cI 5)), oP 83 (.mv (.t 84))]) (.cond (.t 83) (.ops false [oP 85 (.mv (.t 12)), oP 86 (.mv (.t 12)), oP 87 (.iaS 2 (.t 86)
  (cI 0)), oP 88 (.ld 2 true (.t 87)), oP 89 (.bsl 2 1 [(.v (.int .i64 0)), (.v (.int .i64 0))] [(0, (.t 88))]), oP 90 (.app 2 16 (.t 85) (.t 89)), oP 12 (.mv (.t 90))]) (.seq (.ops false [oP 92 (.bin .eql (.t 56) (cI 6)), oP 91 (.mv (.t 92))]) (.cond (.t 91) (.ops false [oP 93 (.mv (.t 11)), oP 94 (.mv (.t 11)), oP 95 (.len (.t 94)), oP 96 (.bin .sub (.t 95) (cI 1)), oP 97 (.iaS 2 (.t 93) (.t 96)),
  oP 98 (.fa 0 (.t 97)), oS (.st 1 (.t 98) (cI (-1)))]) .skip)))))))))))))))) (.weak c3_5)))
def c3_7 : C := (.seq (.ops false [oP 28 (.mv (.t 0)), oP 29 (.call 11 [(.t 28)]), oP 7 (.mv (.t 29))]) (.seq (.ops false [oP 30 (.mv (.t 7)), oB 31 (.call 12 [(.t 30)]), oP 32 (.mv (.t 7)), oB 33 (.call 13 [(.t 32), (cI 0)]), oP 34 (.mv (.t 7)), oB 35 (.call 14 [(.t 34), (cI 5)]), oP 8 (.new [(.v (.int .i64 0)), (.v (.int .i64 0)), (.v (.int .i64 0))]), oP 9 (.new [(.v (.string ({ data := #[] }))),
  (.v (.int .i64 0)), (.v (.int .i64 0)), (.v (.int .i64 0)), (.v (.int .i64 0))]), oS (.st 3 (.t 8) (.t 31)), oS (.st 5 (.t 9) (.t 33)), oP 10 (.mv (.t 35))]) (.seq (.ops false [oP 36 (.mv (.t 7)), oP 37 (.ld 3 true (.t 8)), oP 38 (.call 15 [(.t 36), (.t 37)]), oP 11 (.mv (.t 38))]) (.seq (.ops false [oP 12 (.mv (.c .mt))]) (.seq (.seq (.ops false [oP 13 (.mv (cI 1))]) (.block 0 (.loop c3_2)))
  (.weak c3_6))))))
def c3 : C := (.seq (.ops false [oP 6 (.mv (cB false))]) (.seq (.seq (.ops false [oP 24 (.mv (.t 0)), oB 25 (.call 9 [(.t 24)]), oP 26 (.not (.t 25))]) (.cond (.t 26) (.seq (.ops false [oB 27 (.call 10 []), oP 6 (.mv (.t 27))]) .ret) .skip)) c3_7))
def r3 : List RV := [(.tmp 6)]
theorem c3_ok : ∃ code, Tryd.f3.body = some code ∧ compC Tryd.prog Tryd.f3.ntmps code = some (C.strip c3) := ⟨_, rfl, by kernel_rfl⟩
theorem r3_ok : compRes Tryd.prog Tryd.f3.results.toList = some r3 := by kernel_rfl
def c9 : C := (.seq (.ops false [oP 2 (.mv (cB false))]) (.seq (.ops false [oP 3 (.mv (.t 0)), oP 4 (.len (.t 3)), oP 5 (.bin .leq (.t 4) (cI 400)), oP 2 (.mv (.t 5))]) .ret))
def r9 : List RV := [(.tmp 2)]
theorem c9_ok : ∃ code, Tryd.f9.body = some code ∧ compC Tryd.prog Tryd.f9.ntmps code = some (C.strip c9) := ⟨_, rfl, by kernel_rfl⟩
theorem r9_ok : compRes Tryd.prog Tryd.f9.results.toList = some r9 := by kernel_rfl
theorem f9_ok : fnOk Tryd.prog 9 = true := by kernel_rfl
def c17 : C := (.seq (.ops false [oP 4 (.mv (cI 0))]) (.seq (.ops false [oP 5 (.mv (.t 0)), oP 6 (.mv (.t 1)), oB 7 (.call 52 [(.t 5), (.t 6)]), oP 4 (.mv (.t 7))]) .ret))
def r17 : List RV := [(.tmp 4)]
theorem c17_ok : ∃ code, Tryd.f17.body = some code ∧ compC Tryd.prog Tryd.f17.ntmps code = some (C.strip c17) := ⟨_, rfl, by kernel_rfl⟩
theorem r17_ok : compRes Tryd.prog Tryd.f17.results.toList = some r17 := by kernel_rfl
theorem f17_ok : fnOk Tryd.prog 17 = true := by kernel_rfl
end Go.Proofs.YtehmmnnmkapfeaaDoor
