
/- Walks of package meter and its reference: Valid, reading, valid, Read, litres, Litres, Between. -/
import Derived.Test.YtbclfphnhbmhoaaDoorRows
import Derived.Test.YtbclfphnhbmhoaaDoorBase
import Derived.Test.YtbclfphnhbmhoaaDoorRound
import Derived.Test.YtbclfphnhbmhoaaDoorSrc
namespace Go.Proofs.YtbclfphnhbmhoaaDoor
open Go.RowKit
set_option linter.unusedVariables false
set_option linter.unusedSimpArgs false

abbrev mtr (p b f : Int) : Value := .agg #[.int .i64 p, .int .i64 b, .int .i64 f]
abbrev cnt (l n : Int) : Value := .agg #[.int .i64 l, .int .i64 n]
def mOk (p b f : Int) : Prop := 1 ≤ p ∧ p ≤ 1048576 ∧ (b = 16 ∨ b = 32) ∧ 50000 ≤ f ∧ f ≤ 200000
instance (p b f : Int) : Decidable (mOk p b f) := by unfold mOk; infer_instance
def mValid (p b f : Int) : Bool := decide (mOk p b f)
def mSpan (b : Int) : Int := if b = 16 then 65536 else 4294967296
set_option maxHeartbeats 400000 in
theorem meterValid_any (p b f : Int) (w : World) :
    Calls Tryd.prog 49 #[mtr p b f] w (Ret (.bool (mValid p b f)) w) := by
  go_enter Tryd.func49, Tryd.ntmps49
  go_wp2
  all_goals
    go_ret
    exact ⟨ret_b (by first | exact (decide_eq_false (by unfold mOk; omega)).symm | exact decide_eq_decide.2 (by unfold mOk; omega)), (Kept.refl w).alloc _⟩

set_option maxHeartbeats 400000 in
theorem span_in (b : Int) (w : World) (h : b = 16 ∨ b = 32) :
    Calls Tryd.prog 67 #[.int .i64 b] w (Ret (.int .i64 (mSpan b)) w) := by
  rcases h with rfl | rfl
  all_goals
    go_enter Tryd.func67, Tryd.ntmps67
    go_wp2
    go_ret
    exact ⟨by rfl, Kept.refl _⟩

def mReading (b n : Int) : Prop := 0 ≤ n ∧ n < mSpan b
instance (b n : Int) : Decidable (mReading b n) := by unfold mReading; infer_instance
theorem mSpan_bd (b : Int) : 65536 ≤ mSpan b ∧ mSpan b ≤ 4294967296 := by unfold mSpan; split <;> omega

set_option maxHeartbeats 400000 in
theorem reading_in (p b f n : Int) (w : World) (h : b = 16 ∨ b = 32) :
    Calls Tryd.prog 63 #[mtr p b f, .int .i64 n] w (Ret (.bool (decide (mReading b n))) w) := by
  by_cases h0 : 0 ≤ n
  · go_enter Tryd.func63, Tryd.ntmps63
    go_wp2_with (go_at_call 67; refine (span_in b _ h).mono ?_; rintro e w' ⟨rfl, hk⟩)
    go_ret
    exact ⟨ret_b (decide_eq_decide.2 (by unfold mReading; omega)), ((Kept.refl w).alloc _).trans hk⟩
  · go_enter Tryd.func63, Tryd.ntmps63
    go_wp2
    go_ret
    exact ⟨ret_b (decide_eq_false (by unfold mReading; omega)).symm, (Kept.refl w).alloc _⟩

def cOk (b l n : Int) : Prop := mReading b l ∧ 0 ≤ n ∧ n ≤ 1099511627776
instance (b l n : Int) : Decidable (cOk b l n) := by unfold cOk; infer_instance

set_option maxHeartbeats 400000 in
theorem valid_in (p b f l n : Int) (w : World) (h : b = 16 ∨ b = 32) :
    Calls Tryd.prog 51 #[mtr p b f, cnt l n] w (Ret (.bool (decide (cOk b l n))) w) := by
  by_cases hr : mReading b l
  · have hd := decide_eq_true hr
    go_enter Tryd.func51, Tryd.ntmps51
    go_wp2_with (go_at_call 63; refine (reading_in _ _ _ _ _ h).mono ?_; rintro e w' ⟨rfl, hk⟩; rw [hd]; have hk_c := (kcell hk).1; have hk_f := (kcell hk).2; have hk_z := hk.size; try simp only [World.size_alloc, World.size_setCell, World.size_drew, size_drewN] at hk_c hk_f hk_z)
    all_goals
      go_ret
      exact ⟨ret_b (by first | exact (decide_eq_false (by unfold cOk; omega)).symm | exact decide_eq_decide.2 ⟨fun h => ⟨hr, by omega, by omega⟩, fun h => by have := h.2; omega⟩), (by repeat (first | (with_reducible exact Kept.refl _) | (with_reducible assumption) | (with_reducible refine Kept.alloc ?_ _) | (with_reducible refine Kept.drew ?_) | (with_reducible refine Kept.drewN ?_ _) | (with_reducible refine Kept.setCell ?_ ?_ _) | (with_reducible refine Kept.trans ?_ (by with_reducible assumption)) | (simp only [World.size_alloc, World.size_setCell, World.size_drew, size_drewN]; omega) | omega | (dsimp only; omega)))⟩
  · have hd := decide_eq_false hr
    go_enter Tryd.func51, Tryd.ntmps51
    go_wp2_with (go_at_call 63; refine (reading_in _ _ _ _ _ h).mono ?_; rintro e w' ⟨rfl, hk⟩; rw [hd]; have hk_c := (kcell hk).1; have hk_f := (kcell hk).2; have hk_z := hk.size; try simp only [World.size_alloc, World.size_setCell, World.size_drew, size_drewN] at hk_c hk_f hk_z)
    go_ret
    exact ⟨ret_b (decide_eq_false (fun h => hr h.1)).symm, (by repeat (first | (with_reducible exact Kept.refl _) | (with_reducible assumption) | (with_reducible refine Kept.alloc ?_ _) | (with_reducible refine Kept.drew ?_) | (with_reducible refine Kept.drewN ?_ _) | (with_reducible refine Kept.setCell ?_ ?_ _) | (with_reducible refine Kept.trans ?_ (by with_reducible assumption)) | (simp only [World.size_alloc, World.size_setCell, World.size_drew, size_drewN]; omega) | omega | (dsimp only; omega)))⟩

/-- A count and an error number. -/
def RetCE (l n e' : Int) (w : World) (e : Ending) (w' : World) : Prop := Ret (.tuple #[cnt l n, .int .i64 e']) w e w'

/-- The pulses between two readings. -/
def mStep (b l x : Int) : Int := (x - l + mSpan b) % mSpan b
theorem mStep_bd (b l x : Int) : 0 ≤ mStep b l x ∧ mStep b l x < mSpan b := by
  have := mSpan_bd b
  exact ⟨Int.emod_nonneg _ (by omega), Int.emod_lt_of_pos _ (by omega)⟩

end Go.Proofs.YtbclfphnhbmhoaaDoor
