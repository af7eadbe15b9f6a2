
/- Walks of the makers of products and conditions (batchlinekeep: Product, Condition). -/
import Derived.Test.YtbclfphnhbmhoaaDoorGenName
import Derived.Test.YtbclfphnhbmhoaaDoorCorrect2
namespace Go.Proofs.YtbclfphnhbmhoaaDoor
open Go.RowKit
set_option linter.unusedVariables false
set_option linter.unusedSimpArgs false

/-- The call has made a valid product, whose name is 'p' and a letter. -/
def MadePrd (n : Int) (base bs : Nat) (w : World) (e : Ending) (w' : World) : Prop :=
  ∃ de ex co fr : Int, pNums de ex co fr ∧ e = .returned (prd (nmOf ⟨#[112]⟩ n) de ex co fr) ∧ IsSrc base w' bs ∧ Only bs w w'
theorem plc112 : plc (112 : UInt8).toNat = 1 := by decide
theorem pOk_made {n de ex co fr : Int} (h : pNums de ex co fr) : pOk (nmOf ⟨#[112]⟩ n) de ex co fr := ⟨h, nameOk_nm 112 n plc112⟩
theorem pName_size (n : Int) : (nmOf ⟨#[112]⟩ n).size ≤ 140737488351232 := by rw [nm_size]; decide

set_option maxHeartbeats 1000000 in
theorem Product_any (base : Nat) (w : World) (bs : Nat) (n : Int) (hs : IsSrc base w bs) (h0 : 0 ≤ n) (h1 : n ≤ 1000000) :
    Calls Tryd.prog 11 #[.pointer (some ⟨bs, 0, none⟩), .int .i64 n] w (MadePrd n base bs w) := by
  have hlt := hs.lt
  go_enter Tryd.func11, Tryd.ntmps11
  go_wp2_with fail
  refine (name_any _ _ _ h0 h1 (by decide)).mono ?_
  rintro e v1 ⟨rfl, c1⟩
  have c1_c := (kcell c1).1; have c1_f := (kcell c1).2; have c1_z := c1.size; try simp only [World.size_alloc, World.size_setCell, World.size_drew, size_drewN] at c1_c c1_f c1_z
  go_wp2_with fail
  refine (Range_any base _ bs 400 1200 (by repeat (first | (with_reducible assumption) | (with_reducible refine IsSrc.alloc ?_ _) | (with_reducible refine IsSrc.drew ?_) | (with_reducible refine IsSrc.drewN ?_ _) | (with_reducible refine IsSrc.setCell ?_ ?_ ?_ _) | (with_reducible refine IsSrc.kept ?_ (by with_reducible assumption)) | omega | (dsimp only; omega))) (by omega) (by omega) (by omega) (by omega)).mono ?_
  rintro e v2 ⟨de, hde, rfl, s2, o2⟩
  have o2_c := (ocell o2).1; have o2_f := (ocell o2).2; have o2_z := o2.size; try simp only [World.size_alloc, World.size_setCell, World.size_drew, size_drewN] at o2_c o2_f o2_z
  go_wp2_with fail
  refine (Pick_any base _ bs _ _ _ _ (fun n => 0 ≤ n ∧ n ≤ 2000) (by repeat (first | (with_reducible assumption) | (with_reducible refine IsSrc.alloc ?_ _) | (with_reducible refine IsSrc.drew ?_) | (with_reducible refine IsSrc.drewN ?_ _) | (with_reducible refine IsSrc.setCell ?_ ?_ ?_ _) | (with_reducible refine IsSrc.kept ?_ (by with_reducible assumption)) | omega | (dsimp only; omega))) (by omega) (by omega) (by simp) (by simp; omega) (RowOf.new (by simp) (by simp) (by simp [IntIs]))).mono ?_
  rintro e v3 ⟨ex, hex, rfl, s3, o3⟩
  have o3_c := (ocell o3).1; have o3_f := (ocell o3).2; have o3_z := o3.size; try simp only [World.size_alloc, World.size_setCell, World.size_drew, size_drewN] at o3_c o3_f o3_z
  go_wp2_with fail
  refine (Pick_any base _ bs _ _ _ _ (fun n => 0 ≤ n ∧ n ≤ 5000) (by repeat (first | (with_reducible assumption) | (with_reducible refine IsSrc.alloc ?_ _) | (with_reducible refine IsSrc.drew ?_) | (with_reducible refine IsSrc.drewN ?_ _) | (with_reducible refine IsSrc.setCell ?_ ?_ ?_ _) | (with_reducible refine IsSrc.kept ?_ (by with_reducible assumption)) | omega | (dsimp only; omega))) (by omega) (by omega) (by simp) (by simp; omega) (RowOf.new (by simp) (by simp) (by simp [IntIs]))).mono ?_
  rintro e v4 ⟨co, hco, rfl, s4, o4⟩
  have o4_c := (ocell o4).1; have o4_f := (ocell o4).2; have o4_z := o4.size; try simp only [World.size_alloc, World.size_setCell, World.size_drew, size_drewN] at o4_c o4_f o4_z
  go_wp2_with fail
  refine (Pick_any base _ bs _ _ _ _ (fun n => 1 ≤ n ∧ n ≤ 2000) (by repeat (first | (with_reducible assumption) | (with_reducible refine IsSrc.alloc ?_ _) | (with_reducible refine IsSrc.drew ?_) | (with_reducible refine IsSrc.drewN ?_ _) | (with_reducible refine IsSrc.setCell ?_ ?_ ?_ _) | (with_reducible refine IsSrc.kept ?_ (by with_reducible assumption)) | omega | (dsimp only; omega))) (by omega) (by omega) (by simp) (by simp; omega) (RowOf.new (by simp) (by simp) (by simp [IntIs]))).mono ?_
  rintro e v5 ⟨fr, hfr, rfl, s5, o5⟩
  have o5_c := (ocell o5).1; have o5_f := (ocell o5).2; have o5_z := o5.size; try simp only [World.size_alloc, World.size_setCell, World.size_drew, size_drewN] at o5_c o5_f o5_z
  go_wp2
  refine bodyPost_ret (v := prd (nmOf ⟨#[112]⟩ n) de ex co fr) (by simp [results, Tryd.results11, go_sem, ↓IntWalk.iteOmega, o5_c, o4_c, o3_c, o2_c, c1_c]) rfl ⟨de, ex, co, fr, ⟨hde, hex, hco, hfr⟩, rfl, (by repeat (first | (with_reducible assumption) | (with_reducible refine IsSrc.alloc ?_ _) | (with_reducible refine IsSrc.drew ?_) | (with_reducible refine IsSrc.drewN ?_ _) | (with_reducible refine IsSrc.setCell ?_ ?_ ?_ _) | (with_reducible refine IsSrc.kept ?_ (by with_reducible assumption)) | omega | (dsimp only; omega))), (by repeat (first | (with_reducible exact Only.refl _ _) | (with_reducible assumption) | (with_reducible refine Only.alloc ?_ _) | (with_reducible refine Only.drew ?_) | (with_reducible refine Only.drewN ?_ _) | (with_reducible refine Only.setCell ?_ ?_ _) | (with_reducible refine Only.trans ?_ (by with_reducible assumption)) | (with_reducible refine Only.trans ?_ (Only.of_kept (by with_reducible assumption))) | (simp only [World.size_alloc, World.size_setCell, World.size_drew, size_drewN]; omega) | omega | (dsimp only; omega)))⟩

/-- The call has made a valid condition. -/
def MadeCnd (base bs : Nat) (w : World) (e : Ending) (w' : World) : Prop :=
  ∃ t p : Int, cOk' t p ∧ e = .returned (cnd t p) ∧ IsSrc base w' bs ∧ Only bs w w'
set_option maxHeartbeats 1000000 in
theorem Condition_any (base : Nat) (w : World) (bs : Nat) (hs : IsSrc base w bs) :
    Calls Tryd.prog 12 #[.pointer (some ⟨bs, 0, none⟩)] w (MadeCnd base bs w) := by
  have hlt := hs.lt
  go_enter Tryd.func12, Tryd.ntmps12
  go_wp2_with fail
  refine (Pick_any base _ bs _ _ _ _ (fun n => -400 ≤ n ∧ n ≤ 1000) (by repeat (first | (with_reducible assumption) | (with_reducible refine IsSrc.alloc ?_ _) | (with_reducible refine IsSrc.drew ?_) | (with_reducible refine IsSrc.drewN ?_ _) | (with_reducible refine IsSrc.setCell ?_ ?_ ?_ _) | (with_reducible refine IsSrc.kept ?_ (by with_reducible assumption)) | omega | (dsimp only; omega))) (by omega) (by omega) (by simp) (by simp; omega) (RowOf.new (by simp) (by simp) (by simp [IntIs]))).mono ?_
  rintro e v1 ⟨t, ht, rfl, s1, o1⟩
  have o1_c := (ocell o1).1; have o1_f := (ocell o1).2; have o1_z := o1.size; try simp only [World.size_alloc, World.size_setCell, World.size_drew, size_drewN] at o1_c o1_f o1_z
  go_wp2_with fail
  refine (Pick_any base _ bs _ _ _ _ (fun n => 0 ≤ n ∧ n ≤ 20000) (by repeat (first | (with_reducible assumption) | (with_reducible refine IsSrc.alloc ?_ _) | (with_reducible refine IsSrc.drew ?_) | (with_reducible refine IsSrc.drewN ?_ _) | (with_reducible refine IsSrc.setCell ?_ ?_ ?_ _) | (with_reducible refine IsSrc.kept ?_ (by with_reducible assumption)) | omega | (dsimp only; omega))) (by omega) (by omega) (by simp) (by simp; omega) (RowOf.new (by simp) (by simp) (by simp [IntIs]))).mono ?_
  rintro e v2 ⟨p, hp, rfl, s2, o2⟩
  have o2_c := (ocell o2).1; have o2_f := (ocell o2).2; have o2_z := o2.size; try simp only [World.size_alloc, World.size_setCell, World.size_drew, size_drewN] at o2_c o2_f o2_z
  go_wp2
  refine bodyPost_ret (v := cnd t p) (by simp [results, Tryd.results12, go_sem, ↓IntWalk.iteOmega, o2_c, o1_c]) rfl ⟨t, p, ⟨ht, hp⟩, rfl, (by repeat (first | (with_reducible assumption) | (with_reducible refine IsSrc.alloc ?_ _) | (with_reducible refine IsSrc.drew ?_) | (with_reducible refine IsSrc.drewN ?_ _) | (with_reducible refine IsSrc.setCell ?_ ?_ ?_ _) | (with_reducible refine IsSrc.kept ?_ (by with_reducible assumption)) | omega | (dsimp only; omega))), (by repeat (first | (with_reducible exact Only.refl _ _) | (with_reducible assumption) | (with_reducible refine Only.alloc ?_ _) | (with_reducible refine Only.drew ?_) | (with_reducible refine Only.drewN ?_ _) | (with_reducible refine Only.setCell ?_ ?_ _) | (with_reducible refine Only.trans ?_ (by with_reducible assumption)) | (with_reducible refine Only.trans ?_ (Only.of_kept (by with_reducible assumption))) | (simp only [World.size_alloc, World.size_setCell, World.size_drew, size_drewN]; omega) | omega | (dsimp only; omega)))⟩

end Go.Proofs.YtbclfphnhbmhoaaDoor
