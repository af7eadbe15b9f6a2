
/- Walks of packages product (Valid) and correct (heat, press, Factor, right, Standard, Gross, Add). -/
import Derived.Test.YtbclfphnhbmhoaaDoorName
import Derived.Test.YtbclfphnhbmhoaaDoorHalf
import Derived.Test.YtbclfphnhbmhoaaDoorSrc
namespace Go.Proofs.YtbclfphnhbmhoaaDoor
open Go.RowKit
set_option linter.unusedVariables false
set_option linter.unusedSimpArgs false

abbrev prd (s : ByteArray) (de ex co fr : Int) : Value := .agg #[.string s, .int .i64 de, .int .i64 ex, .int .i64 co, .int .i64 fr]
abbrev cnd (t p : Int) : Value := .agg #[.int .i64 t, .int .i64 p]
/-- The package's table of ranges, as its initialiser lays it. -/
abbrev spansC : Array Value := #[.int .i64 400, .int .i64 1200, .int .i64 0, .int .i64 2000, .int .i64 0, .int .i64 5000, .int .i64 1, .int .i64 2000]
abbrev Spans (w : World) : Prop := Box w 0 spansC
def pNums (de ex co fr : Int) : Prop := (400 ≤ de ∧ de ≤ 1200) ∧ (0 ≤ ex ∧ ex ≤ 2000) ∧ (0 ≤ co ∧ co ≤ 5000) ∧ (1 ≤ fr ∧ fr ≤ 2000)
instance (de ex co fr : Int) : Decidable (pNums de ex co fr) := by unfold pNums; infer_instance
def pValid (s : ByteArray) (de ex co fr : Int) : Bool := decide (pNums de ex co fr) && nameOk s
def pOk (s : ByteArray) (de ex co fr : Int) : Prop := pNums de ex co fr ∧ nameOk s = true
theorem pValid_iff (s : ByteArray) (de ex co fr : Int) : pValid s de ex co fr = true ↔ pOk s de ex co fr := by
  unfold pValid pOk
  simp only [Bool.and_eq_true, decide_eq_true_eq]
instance (s : ByteArray) (de ex co fr : Int) : Decidable (pOk s de ex co fr) := decidable_of_iff _ (pValid_iff s de ex co fr)

set_option maxHeartbeats 400000 in
theorem numbers_any (s : ByteArray) (de ex co fr : Int) (w : World) :
    Calls Tryd.prog 61 #[prd s de ex co fr] w (Ret (.agg #[.int .i64 de, .int .i64 ex, .int .i64 co, .int .i64 fr]) w) := by
  go_enter Tryd.func61, Tryd.ntmps61
  go_wp2
  exact bodyPost_ret (v := .agg #[.int .i64 de, .int .i64 ex, .int .i64 co, .int .i64 fr]) (by simp [results, Tryd.results61, go_sem, ↓IntWalk.iteOmega]) rfl ⟨rfl, (by repeat (first | (with_reducible exact Kept.refl _) | (with_reducible assumption) | (with_reducible refine Kept.alloc ?_ _) | (with_reducible refine Kept.drew ?_) | (with_reducible refine Kept.drewN ?_ _) | (with_reducible refine Kept.setCell ?_ ?_ _) | (with_reducible refine Kept.trans ?_ (by with_reducible assumption)) | (simp only [World.size_alloc, World.size_setCell, World.size_drew, size_drewN]; omega) | omega | (dsimp only; omega)))⟩

theorem span0_at (w : World) : (Instr.index 92 (.agg spansC) (.int .i64 0)).run Tryd.prog w = .ok (.agg #[.int .i64 400, .int .i64 1200]) w := by kernel_rfl
theorem span1_at (w : World) : (Instr.index 92 (.agg spansC) (.int .i64 1)).run Tryd.prog w = .ok (.agg #[.int .i64 0, .int .i64 2000]) w := by kernel_rfl
theorem span2_at (w : World) : (Instr.index 92 (.agg spansC) (.int .i64 2)).run Tryd.prog w = .ok (.agg #[.int .i64 0, .int .i64 5000]) w := by kernel_rfl
theorem span3_at (w : World) : (Instr.index 92 (.agg spansC) (.int .i64 3)).run Tryd.prog w = .ok (.agg #[.int .i64 1, .int .i64 2000]) w := by kernel_rfl

set_option maxHeartbeats 1000000 in
theorem prodValid_any (s : ByteArray) (de ex co fr : Int) (w : World) (hs : s.size ≤ 140737488351232) (hsp : Spans w) :
    Calls Tryd.prog 50 #[prd s de ex co fr] w (Ret (.bool (pValid s de ex co fr)) w) := by
  have cS := hsp.cell
  have lS := hsp.lt
  go_enter Tryd.func50, Tryd.ntmps50
  go_wp2_with fail
  refine (numbers_any _ _ _ _ _ _).mono ?_
  rintro e v1 ⟨rfl, c1⟩
  have c1_c := (kcell c1).1; have c1_f := (kcell c1).2; have c1_z := c1.size; try simp only [World.size_alloc, World.size_setCell, World.size_drew, size_drewN] at c1_c c1_f c1_z
  go_wp2_with fail
  have bN : Box (v1.alloc (Obj.cells #[.int .i64 de, .int .i64 ex, .int .i64 co, .int .i64 fr] 88)) v1.heap.size #[.int .i64 de, .int .i64 ex, .int .i64 co, .int .i64 fr] := (by repeat (first | (with_reducible assumption) | (with_reducible apply Box.new; first | (with_reducible rfl) | omega | (simp only [World.size_alloc, World.size_setCell, World.size_drew, size_drewN] <;> omega)) | (with_reducible apply Box.old) | (with_reducible apply Box.drew) | (with_reducible apply Box.drewN) | (with_reducible apply Box.set) | (with_reducible apply Box.other) | (with_reducible apply Box.only_ (by with_reducible assumption)) | (with_reducible apply Box.kept_ (by with_reducible assumption)) | (simp only [World.size_alloc, World.size_setCell, World.size_drew, size_drewN]; omega) | omega | (dsimp only; omega) | rfl | (simp; done)))
  have kw1 : Kept w (v1.alloc (Obj.cells #[.int .i64 de, .int .i64 ex, .int .i64 co, .int .i64 fr] 88)) := (by repeat (first | (with_reducible exact Kept.refl _) | (with_reducible assumption) | (with_reducible refine Kept.alloc ?_ _) | (with_reducible refine Kept.drew ?_) | (with_reducible refine Kept.drewN ?_ _) | (with_reducible refine Kept.setCell ?_ ?_ _) | (with_reducible refine Kept.trans ?_ (by with_reducible assumption)) | (simp only [World.size_alloc, World.size_setCell, World.size_drew, size_drewN]; omega) | omega | (dsimp only; omega)))
  have kz := c1.size
  simp only [World.size_alloc] at kz
  go_loopw [9] (fun i wr => ∃ k : Nat, k ≤ 4 ∧ i = .int .i64 k ∧ Kept w wr ∧ Box wr w.heap.size #[.string s, .int .i64 de, .int .i64 ex, .int .i64 co, .int .i64 fr] ∧ Box wr v1.heap.size #[.int .i64 de, .int .i64 ex, .int .i64 co, .int .i64 fr] ∧ Hid ((0 < k → 400 ≤ de ∧ de ≤ 1200) ∧ (1 < k → 0 ≤ ex ∧ ex ≤ 2000) ∧ (2 < k → 0 ≤ co ∧ co ≤ 5000) ∧ (3 < k → 1 ≤ fr ∧ fr ≤ 2000))) (fun i _ => 4 - (intOf i).toNat)
  case atStart => exact ⟨0, by omega, rfl, kw1, Box.old (Box.kept (Box.new rfl) c1) _, bN, ⟨fun h => absurd h (by omega), fun h => absurd h (by omega), fun h => absurd h (by omega), fun h => absurd h (by omega)⟩⟩
  case round =>
    clear bN kw1 c1_c c1_f c1_z cS
    obtain ⟨k, hk, rfl, kw, bP, bN, hp⟩ := hrel
    have eN := bN.cell
    have lN := bN.lt
    have eP := bP.cell
    have lP := bP.lt
    have hk4 : k = 0 ∨ k = 1 ∨ k = 2 ∨ k = 3 ∨ k = 4 := by omega
    clear hk
    rcases hk4 with rfl | rfl | rfl | rfl | rfl
    · have ix := span0_at
      by_cases h1 : de < 400
      · have H := Lib.hid (show pValid s de ex co fr = false by unfold pValid; rw [decide_eq_false (fun h => by unfold pNums at h; omega)]; rfl)
        go_wp2_with fail
        go_quiet (fail)
        go_wp2
        go_ret
        exact ⟨ret_b H.out.symm, (by repeat (first | (with_reducible exact Kept.refl _) | (with_reducible assumption) | (with_reducible refine Kept.alloc ?_ _) | (with_reducible refine Kept.drew ?_) | (with_reducible refine Kept.drewN ?_ _) | (with_reducible refine Kept.setCell ?_ ?_ _) | (with_reducible refine Kept.trans ?_ (by with_reducible assumption)) | (simp only [World.size_alloc, World.size_setCell, World.size_drew, size_drewN]; omega) | omega | (dsimp only; omega)))⟩
      by_cases h2 : 1200 < de
      · have H := Lib.hid (show pValid s de ex co fr = false by unfold pValid; rw [decide_eq_false (fun h => by unfold pNums at h; omega)]; rfl)
        have h3 : 400 ≤ de := by omega
        clear h1
        go_wp2_with fail
        go_quiet (fail)
        go_wp2
        go_ret
        exact ⟨ret_b H.out.symm, (by repeat (first | (with_reducible exact Kept.refl _) | (with_reducible assumption) | (with_reducible refine Kept.alloc ?_ _) | (with_reducible refine Kept.drew ?_) | (with_reducible refine Kept.drewN ?_ _) | (with_reducible refine Kept.setCell ?_ ?_ _) | (with_reducible refine Kept.trans ?_ (by with_reducible assumption)) | (simp only [World.size_alloc, World.size_setCell, World.size_drew, size_drewN]; omega) | omega | (dsimp only; omega)))⟩
      have h3 : 400 ≤ de := by omega
      have h4 : de ≤ 1200 := by omega
      clear h1 h2
      go_wp2_with fail
      go_quiet (fail)
      go_wp2
      go_roundw
      case rel => exact ⟨1, by omega, by go_num, (by repeat (first | (with_reducible exact Kept.refl _) | (with_reducible assumption) | (with_reducible refine Kept.alloc ?_ _) | (with_reducible refine Kept.drew ?_) | (with_reducible refine Kept.drewN ?_ _) | (with_reducible refine Kept.setCell ?_ ?_ _) | (with_reducible refine Kept.trans ?_ (by with_reducible assumption)) | (simp only [World.size_alloc, World.size_setCell, World.size_drew, size_drewN]; omega) | omega | (dsimp only; omega))), Box.old bP _, Box.old bN _, ⟨(fun _ => by omega), (fun h => absurd h (by omega)), (fun h => absurd h (by omega)), (fun h => absurd h (by omega))⟩⟩
      case measure => simp [intOf]
    · have ix := span1_at
      by_cases h1 : ex < 0
      · have H := Lib.hid (show pValid s de ex co fr = false by unfold pValid; rw [decide_eq_false (fun h => by unfold pNums at h; omega)]; rfl)
        go_wp2_with fail
        go_quiet (fail)
        go_wp2
        go_ret
        exact ⟨ret_b H.out.symm, (by repeat (first | (with_reducible exact Kept.refl _) | (with_reducible assumption) | (with_reducible refine Kept.alloc ?_ _) | (with_reducible refine Kept.drew ?_) | (with_reducible refine Kept.drewN ?_ _) | (with_reducible refine Kept.setCell ?_ ?_ _) | (with_reducible refine Kept.trans ?_ (by with_reducible assumption)) | (simp only [World.size_alloc, World.size_setCell, World.size_drew, size_drewN]; omega) | omega | (dsimp only; omega)))⟩
      by_cases h2 : 2000 < ex
      · have H := Lib.hid (show pValid s de ex co fr = false by unfold pValid; rw [decide_eq_false (fun h => by unfold pNums at h; omega)]; rfl)
        have h3 : 0 ≤ ex := by omega
        clear h1
        go_wp2_with fail
        go_quiet (fail)
        go_wp2
        go_ret
        exact ⟨ret_b H.out.symm, (by repeat (first | (with_reducible exact Kept.refl _) | (with_reducible assumption) | (with_reducible refine Kept.alloc ?_ _) | (with_reducible refine Kept.drew ?_) | (with_reducible refine Kept.drewN ?_ _) | (with_reducible refine Kept.setCell ?_ ?_ _) | (with_reducible refine Kept.trans ?_ (by with_reducible assumption)) | (simp only [World.size_alloc, World.size_setCell, World.size_drew, size_drewN]; omega) | omega | (dsimp only; omega)))⟩
      have h3 : 0 ≤ ex := by omega
      have h4 : ex ≤ 2000 := by omega
      clear h1 h2
      go_wp2_with fail
      go_quiet (fail)
      go_wp2
      go_roundw
      case rel => exact ⟨2, by omega, by go_num, (by repeat (first | (with_reducible exact Kept.refl _) | (with_reducible assumption) | (with_reducible refine Kept.alloc ?_ _) | (with_reducible refine Kept.drew ?_) | (with_reducible refine Kept.drewN ?_ _) | (with_reducible refine Kept.setCell ?_ ?_ _) | (with_reducible refine Kept.trans ?_ (by with_reducible assumption)) | (simp only [World.size_alloc, World.size_setCell, World.size_drew, size_drewN]; omega) | omega | (dsimp only; omega))), Box.old bP _, Box.old bN _, ⟨(fun _ => hp.out.1 (by omega)), (fun _ => by omega), (fun h => absurd h (by omega)), (fun h => absurd h (by omega))⟩⟩
      case measure => simp [intOf]
    · have ix := span2_at
      by_cases h1 : co < 0
      · have H := Lib.hid (show pValid s de ex co fr = false by unfold pValid; rw [decide_eq_false (fun h => by unfold pNums at h; omega)]; rfl)
        go_wp2_with fail
        go_quiet (fail)
        go_wp2
        go_ret
        exact ⟨ret_b H.out.symm, (by repeat (first | (with_reducible exact Kept.refl _) | (with_reducible assumption) | (with_reducible refine Kept.alloc ?_ _) | (with_reducible refine Kept.drew ?_) | (with_reducible refine Kept.drewN ?_ _) | (with_reducible refine Kept.setCell ?_ ?_ _) | (with_reducible refine Kept.trans ?_ (by with_reducible assumption)) | (simp only [World.size_alloc, World.size_setCell, World.size_drew, size_drewN]; omega) | omega | (dsimp only; omega)))⟩
      by_cases h2 : 5000 < co
      · have H := Lib.hid (show pValid s de ex co fr = false by unfold pValid; rw [decide_eq_false (fun h => by unfold pNums at h; omega)]; rfl)
        have h3 : 0 ≤ co := by omega
        clear h1
        go_wp2_with fail
        go_quiet (fail)
        go_wp2
        go_ret
        exact ⟨ret_b H.out.symm, (by repeat (first | (with_reducible exact Kept.refl _) | (with_reducible assumption) | (with_reducible refine Kept.alloc ?_ _) | (with_reducible refine Kept.drew ?_) | (with_reducible refine Kept.drewN ?_ _) | (with_reducible refine Kept.setCell ?_ ?_ _) | (with_reducible refine Kept.trans ?_ (by with_reducible assumption)) | (simp only [World.size_alloc, World.size_setCell, World.size_drew, size_drewN]; omega) | omega | (dsimp only; omega)))⟩
      have h3 : 0 ≤ co := by omega
      have h4 : co ≤ 5000 := by omega
      clear h1 h2
      go_wp2_with fail
      go_quiet (fail)
      go_wp2
      go_roundw
      case rel => exact ⟨3, by omega, by go_num, (by repeat (first | (with_reducible exact Kept.refl _) | (with_reducible assumption) | (with_reducible refine Kept.alloc ?_ _) | (with_reducible refine Kept.drew ?_) | (with_reducible refine Kept.drewN ?_ _) | (with_reducible refine Kept.setCell ?_ ?_ _) | (with_reducible refine Kept.trans ?_ (by with_reducible assumption)) | (simp only [World.size_alloc, World.size_setCell, World.size_drew, size_drewN]; omega) | omega | (dsimp only; omega))), Box.old bP _, Box.old bN _, ⟨(fun _ => hp.out.1 (by omega)), (fun _ => hp.out.2.1 (by omega)), (fun _ => by omega), (fun h => absurd h (by omega))⟩⟩
      case measure => simp [intOf]
    · have ix := span3_at
      by_cases h1 : fr < 1
      · have H := Lib.hid (show pValid s de ex co fr = false by unfold pValid; rw [decide_eq_false (fun h => by unfold pNums at h; omega)]; rfl)
        go_wp2_with fail
        go_quiet (fail)
        go_wp2
        go_ret
        exact ⟨ret_b H.out.symm, (by repeat (first | (with_reducible exact Kept.refl _) | (with_reducible assumption) | (with_reducible refine Kept.alloc ?_ _) | (with_reducible refine Kept.drew ?_) | (with_reducible refine Kept.drewN ?_ _) | (with_reducible refine Kept.setCell ?_ ?_ _) | (with_reducible refine Kept.trans ?_ (by with_reducible assumption)) | (simp only [World.size_alloc, World.size_setCell, World.size_drew, size_drewN]; omega) | omega | (dsimp only; omega)))⟩
      by_cases h2 : 2000 < fr
      · have H := Lib.hid (show pValid s de ex co fr = false by unfold pValid; rw [decide_eq_false (fun h => by unfold pNums at h; omega)]; rfl)
        have h3 : 1 ≤ fr := by omega
        clear h1
        go_wp2_with fail
        go_quiet (fail)
        go_wp2
        go_ret
        exact ⟨ret_b H.out.symm, (by repeat (first | (with_reducible exact Kept.refl _) | (with_reducible assumption) | (with_reducible refine Kept.alloc ?_ _) | (with_reducible refine Kept.drew ?_) | (with_reducible refine Kept.drewN ?_ _) | (with_reducible refine Kept.setCell ?_ ?_ _) | (with_reducible refine Kept.trans ?_ (by with_reducible assumption)) | (simp only [World.size_alloc, World.size_setCell, World.size_drew, size_drewN]; omega) | omega | (dsimp only; omega)))⟩
      have h3 : 1 ≤ fr := by omega
      have h4 : fr ≤ 2000 := by omega
      clear h1 h2
      go_wp2_with fail
      go_quiet (fail)
      go_wp2
      go_roundw
      case rel => exact ⟨4, by omega, by go_num, (by repeat (first | (with_reducible exact Kept.refl _) | (with_reducible assumption) | (with_reducible refine Kept.alloc ?_ _) | (with_reducible refine Kept.drew ?_) | (with_reducible refine Kept.drewN ?_ _) | (with_reducible refine Kept.setCell ?_ ?_ _) | (with_reducible refine Kept.trans ?_ (by with_reducible assumption)) | (simp only [World.size_alloc, World.size_setCell, World.size_drew, size_drewN]; omega) | omega | (dsimp only; omega))), Box.old bP _, Box.old bN _, ⟨(fun _ => hp.out.1 (by omega)), (fun _ => hp.out.2.1 (by omega)), (fun _ => hp.out.2.2.1 (by omega)), (fun _ => by omega)⟩⟩
      case measure => simp [intOf]
    · have H := Lib.hid (show pValid s de ex co fr = nameOk s by unfold pValid; rw [decide_eq_true ⟨hp.out.1 (by omega), hp.out.2.1 (by omega), hp.out.2.2.1 (by omega), hp.out.2.2.2 (by omega)⟩]; rfl)
      go_wp2_with (go_at_call 62; refine (Name_any _ _ hs).mono ?_; rintro e w' ⟨rfl, rfl⟩)
      go_ret
      exact ⟨ret_b H.out.symm, (by repeat (first | (with_reducible exact Kept.refl _) | (with_reducible assumption) | (with_reducible refine Kept.alloc ?_ _) | (with_reducible refine Kept.drew ?_) | (with_reducible refine Kept.drewN ?_ _) | (with_reducible refine Kept.setCell ?_ ?_ _) | (with_reducible refine Kept.trans ?_ (by with_reducible assumption)) | (simp only [World.size_alloc, World.size_setCell, World.size_drew, size_drewN]; omega) | omega | (dsimp only; omega)))⟩
end Go.Proofs.YtbclfphnhbmhoaaDoor
