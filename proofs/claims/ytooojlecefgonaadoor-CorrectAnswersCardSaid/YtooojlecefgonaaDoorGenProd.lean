/- Walks of the makers of products and conditions (batchlinekeep: Product, Condition). -/
import Derived.Test.YtooojlecefgonaaDoorGenName
import Derived.Test.YtooojlecefgonaaDoorCorrect2
namespace Go.Proofs.YtooojlecefgonaaDoor
open Go.RowKit
set_option linter.unusedVariables false
set_option linter.unusedSimpArgs false

/-- The call has made a valid product, whose name is 'p' and a letter. -/
def MadePrd (n : Int) (base bs : Nat) (w : World) (e : Ending) (w' : World) : Prop :=
  ∃ de ex co fr : Int, pNums de ex co fr ∧ e = .returned (prd (nmOf ⟨#[112]⟩ n) de ex co fr) ∧ IsSrc base w' bs ∧ Only bs w w'
theorem plc112 : plc (112 : UInt8).toNat = 1 := by decide
theorem pOk_made {n de ex co fr : Int} (h : pNums de ex co fr) : pOk (nmOf ⟨#[112]⟩ n) de ex co fr := ⟨h, nameOk_nm 112 n plc112⟩
theorem pName_size (n : Int) : (nmOf ⟨#[112]⟩ n).size ≤ 140737488351232 := by rw [nm_size]; decide

set_option maxHeartbeats 1000000 in
theorem Product_any (base : Nat) (w : World) (bs : Nat) (n : Int) (hs : IsSrc base w bs) (h0 : 0 ≤ n) (h1 : n ≤ 1000000) :
    Calls Tryd.prog 10 #[.pointer (some ⟨bs, 0, none⟩), .int .i64 n] w (MadePrd n base bs w) := by
  have hlt := hs.lt
  go_enter Tryd.func10, Tryd.ntmps10
  go_wp2_with fail
  refine (name_any _ _ _ h0 h1 (by decide)).mono ?_
  rintro e v1 ⟨rfl, c1⟩
  have c1_c := (kcell c1).1; have c1_f := (kcell c1).2; have c1_z := c1.size; try simp only [World.size_alloc, World.size_setCell, World.size_drew, size_drewN] at c1_c c1_f c1_z
  go_wp2_with fail
  refine (Range_any base _ bs 400 1200 (by repeat (first | (with_reducible assumption) | (with_reducible refine IsSrc.alloc ?_ _) | (with_reducible refine IsSrc.drew ?_) | (with_reducible refine IsSrc.drewN ?_ _) | (with_reducible refine IsSrc.setCell ?_ ?_ ?_ _) | (with_reducible refine IsSrc.kept ?_ (by with_reducible assumption)) | omega | (dsimp only; omega))) (by omega) (by omega) (by omega) (by omega)).mono ?_
  rintro e v2 ⟨de, hde, rfl, s2, o2⟩
  have o2_c := (ocell o2).1; have o2_f := (ocell o2).2; have o2_z := o2.size; try simp only [World.size_alloc, World.size_setCell, World.size_drew, size_drewN] at o2_c o2_f o2_z
  go_wp2_with fail
  refine (Pick_any base _ bs _ _ _ _ (fun n => 0 ≤ n ∧ n ≤ 2000) (by repeat (first | (with_reducible assumption) | (with_reducible refine IsSrc.alloc ?_ _) | (with_reducible refine IsSrc.drew ?_) | (with_reducible refine IsSrc.drewN ?_ _) | (with_reducible refine IsSrc.setCell ?_ ?_ ?_ _) | (with_reducible refine IsSrc.kept ?_ (by with_reducible assumption)) | omega | (dsimp only; omega))) (by omega) (by omega) (by simp) (by simp; omega) (RowOf.new (by simp) (by simp) (by simp [IntIs]))).mono ?_
  rintro e v3 ⟨ex, hex, rfl, s3, o3⟩
  have o3_c := (ocell o3).1; have o3_f := (ocell o3).2; have o3_z := o3.size; try simp only [World.size_alloc, World.size_setCell, World.size_drew, size_drewN] at o3_c o3_f o3_z
  go_wp2_with fail
  refine (Pick_any base _ bs _ _ _ _ (fun n => 0 ≤ n ∧ n ≤ 5000) (by repeat (first | (with_reducible assumption) | (with_reducible refine IsSrc.alloc ?_ _) | (with_reducible refine IsSrc.drew ?_) | (with_reducible refine IsSrc.drewN ?_ _) | (with_reducible refine IsSrc.setCell ?_ ?_ ?_ _) | (with_reducible refine IsSrc.kept ?_ (by with_reducible assumption)) | omega | (dsimp only; omega))) (by omega) (by omega) (by simp) (by simp; omega) (RowOf.new (by simp) (by simp) (by simp [IntIs]))).mono ?_
  rintro e v4 ⟨co, hco, rfl, s4, o4⟩
  have o4_c := (ocell o4).1; have o4_f := (ocell o4).2; have o4_z := o4.size; try simp only [World.size_alloc, World.size_setCell, World.size_drew, size_drewN] at o4_c o4_f o4_z
  go_wp2_with fail
  refine (Pick_any base _ bs _ _ _ _ (fun n => 1 ≤ n ∧ n ≤ 2000) (by repeat (first | (with_reducible assumption) | (with_reducible refine IsSrc.alloc ?_ _) | (with_reducible refine IsSrc.drew ?_) | (with_reducible refine IsSrc.drewN ?_ _) | (with_reducible refine IsSrc.setCell ?_ ?_ ?_ _) | (with_reducible refine IsSrc.kept ?_ (by with_reducible assumption)) | omega | (dsimp only; omega))) (by omega) (by omega) (by simp) (by simp; omega) (RowOf.new (by simp) (by simp) (by simp [IntIs]))).mono ?_
  rintro e v5 ⟨fr, hfr, rfl, s5, o5⟩
  have o5_c := (ocell o5).1; have o5_f := (ocell o5).2; have o5_z := o5.size; try simp only [World.size_alloc, World.size_setCell, World.size_drew, size_drewN] at o5_c o5_f o5_z
  go_wp2
  refine bodyPost_ret (v := prd (nmOf ⟨#[112]⟩ n) de ex co fr) (by simp [results, Tryd.results10, go_sem, ↓IntWalk.iteOmega, o5_c, o4_c, o3_c, o2_c, c1_c]) rfl ⟨de, ex, co, fr, ⟨hde, hex, hco, hfr⟩, rfl, (by repeat (first | (with_reducible assumption) | (with_reducible refine IsSrc.alloc ?_ _) | (with_reducible refine IsSrc.drew ?_) | (with_reducible refine IsSrc.drewN ?_ _) | (with_reducible refine IsSrc.setCell ?_ ?_ ?_ _) | (with_reducible refine IsSrc.kept ?_ (by with_reducible assumption)) | omega | (dsimp only; omega))), (by repeat (first | (with_reducible exact Only.refl _ _) | (with_reducible assumption) | (with_reducible refine Only.alloc ?_ _) | (with_reducible refine Only.drew ?_) | (with_reducible refine Only.drewN ?_ _) | (with_reducible refine Only.setCell ?_ ?_ _) | (with_reducible refine Only.trans ?_ (by with_reducible assumption)) | (with_reducible refine Only.trans ?_ (Only.of_kept (by with_reducible assumption))) | (simp only [World.size_alloc, World.size_setCell, World.size_drew, size_drewN]; omega) | omega | (dsimp only; omega)))⟩

/-- The call has made a valid condition. -/
def MadeCnd (base bs : Nat) (w : World) (e : Ending) (w' : World) : Prop :=
  ∃ t p : Int, cOk' t p ∧ e = .returned (cnd t p) ∧ IsSrc base w' bs ∧ Only bs w w'
set_option maxHeartbeats 1000000 in
theorem Condition_any (base : Nat) (w : World) (bs : Nat) (hs : IsSrc base w bs) :
    Calls Tryd.prog 16 #[.pointer (some ⟨bs, 0, none⟩)] w (MadeCnd base bs w) := by
  have hlt := hs.lt
  go_enter Tryd.func16, Tryd.ntmps16
  go_wp2_with fail
  refine (Pick_any base _ bs _ _ _ _ (fun n => -400 ≤ n ∧ n ≤ 1000) (by repeat (first | (with_reducible assumption) | (with_reducible refine IsSrc.alloc ?_ _) | (with_reducible refine IsSrc.drew ?_) | (with_reducible refine IsSrc.drewN ?_ _) | (with_reducible refine IsSrc.setCell ?_ ?_ ?_ _) | (with_reducible refine IsSrc.kept ?_ (by with_reducible assumption)) | omega | (dsimp only; omega))) (by omega) (by omega) (by simp) (by simp; omega) (RowOf.new (by simp) (by simp) (by simp [IntIs]))).mono ?_
  rintro e v1 ⟨t, ht, rfl, s1, o1⟩
  have o1_c := (ocell o1).1; have o1_f := (ocell o1).2; have o1_z := o1.size; try simp only [World.size_alloc, World.size_setCell, World.size_drew, size_drewN] at o1_c o1_f o1_z
  go_wp2_with fail
  refine (Pick_any base _ bs _ _ _ _ (fun n => 0 ≤ n ∧ n ≤ 20000) (by repeat (first | (with_reducible assumption) | (with_reducible refine IsSrc.alloc ?_ _) | (with_reducible refine IsSrc.drew ?_) | (with_reducible refine IsSrc.drewN ?_ _) | (with_reducible refine IsSrc.setCell ?_ ?_ ?_ _) | (with_reducible refine IsSrc.kept ?_ (by with_reducible assumption)) | omega | (dsimp only; omega))) (by omega) (by omega) (by simp) (by simp; omega) (RowOf.new (by simp) (by simp) (by simp [IntIs]))).mono ?_
  rintro e v2 ⟨p, hp, rfl, s2, o2⟩
  have o2_c := (ocell o2).1; have o2_f := (ocell o2).2; have o2_z := o2.size; try simp only [World.size_alloc, World.size_setCell, World.size_drew, size_drewN] at o2_c o2_f o2_z
  go_wp2
  refine bodyPost_ret (v := cnd t p) (by simp [results, Tryd.results16, go_sem, ↓IntWalk.iteOmega, o2_c, o1_c]) rfl ⟨t, p, ⟨ht, hp⟩, rfl, (by repeat (first | (with_reducible assumption) | (with_reducible refine IsSrc.alloc ?_ _) | (with_reducible refine IsSrc.drew ?_) | (with_reducible refine IsSrc.drewN ?_ _) | (with_reducible refine IsSrc.setCell ?_ ?_ ?_ _) | (with_reducible refine IsSrc.kept ?_ (by with_reducible assumption)) | omega | (dsimp only; omega))), (by repeat (first | (with_reducible exact Only.refl _ _) | (with_reducible assumption) | (with_reducible refine Only.alloc ?_ _) | (with_reducible refine Only.drew ?_) | (with_reducible refine Only.drewN ?_ _) | (with_reducible refine Only.setCell ?_ ?_ _) | (with_reducible refine Only.trans ?_ (by with_reducible assumption)) | (with_reducible refine Only.trans ?_ (Only.of_kept (by with_reducible assumption))) | (simp only [World.size_alloc, World.size_setCell, World.size_drew, size_drewN]; omega) | omega | (dsimp only; omega)))⟩

theorem name_diesel : nameOk ⟨#[100, 105, 101, 115, 101, 108]⟩ = true := by decide +kernel
set_option maxHeartbeats 400000 in
theorem diesel_any (w : World) : Calls Tryd.prog 31 #[] w (Ret (prd ⟨#[100, 105, 101, 115, 101, 108]⟩ 840 830 800 1200) w) := by
  go_enter Tryd.func31, Tryd.ntmps31
  go_wp2
  exact bodyPost_ret (v := prd ⟨#[100, 105, 101, 115, 101, 108]⟩ 840 830 800 1200) (by simp [results, Tryd.results31, go_sem, ↓IntWalk.iteOmega]) rfl ⟨rfl, (by repeat (first | (with_reducible exact Kept.refl _) | (with_reducible assumption) | (with_reducible refine Kept.alloc ?_ _) | (with_reducible refine Kept.drew ?_) | (with_reducible refine Kept.drewN ?_ _) | (with_reducible refine Kept.setCell ?_ ?_ _) | (with_reducible refine Kept.trans ?_ (by with_reducible assumption)) | (simp only [World.size_alloc, World.size_setCell, World.size_drew, size_drewN]; omega) | omega | (dsimp only; omega)))⟩
theorem Add_ok (v r g f v' r' : Int) (w : World) (hr : rOk v r) (h : vfOk g f) (hv : v + (g * f + r) / 1000000 = v') (hr' : (g * f + r) % 1000000 = r') (hl : v' ≤ 1099511627776) :
    Calls Tryd.prog 15 #[rng v r, .int .i64 g, .int .i64 f] w (RetGE v' r' 0 w) := by
  have := Add_in v r g f w hr h
  rw [hv, hr', if_pos hl] at this
  exact this
set_option maxHeartbeats 1000000 in
theorem corAwake (w : World) (hsp : Spans w) : Calls Tryd.prog 12 #[] w (Ret (.bool true) w) := by
  have hp : pOk ⟨#[100, 105, 101, 115, 101, 108]⟩ 840 830 800 1200 := ⟨by decide, name_diesel⟩
  have hz : (⟨#[100, 105, 101, 115, 101, 108]⟩ : ByteArray).size ≤ 140737488351232 := by decide
  have e1 : fac 830 800 250 5000 = 995667 := by decide
  have e2 : stdV 1000 995667 = 996 := by decide
  go_enter Tryd.func12, Tryd.ntmps12
  go_wp2_with fail
  refine (diesel_any _).mono ?_
  rintro e v1 ⟨rfl, c1⟩
  have c1_c := (kcell c1).1; have c1_f := (kcell c1).2; have c1_z := c1.size; try simp only [World.size_alloc, World.size_setCell, World.size_drew, size_drewN] at c1_c c1_f c1_z
  go_wp2_with fail
  refine (Factor_in _ _ _ _ _ _ _ _ hz (Box.kept hsp (by repeat (first | (with_reducible exact Kept.refl _) | (with_reducible assumption) | (with_reducible refine Kept.alloc ?_ _) | (with_reducible refine Kept.drew ?_) | (with_reducible refine Kept.drewN ?_ _) | (with_reducible refine Kept.setCell ?_ ?_ _) | (with_reducible refine Kept.trans ?_ (by with_reducible assumption)) | (simp only [World.size_alloc, World.size_setCell, World.size_drew, size_drewN]; omega) | omega | (dsimp only; omega)))) hp (by decide)).mono ?_
  rw [e1]
  rintro e v2 ⟨rfl, c2⟩
  have c2_c := (kcell c2).1; have c2_f := (kcell c2).2; have c2_z := c2.size; try simp only [World.size_alloc, World.size_setCell, World.size_drew, size_drewN] at c2_c c2_f c2_z
  go_wp2_with fail
  refine (Standard_in _ _ _ (by decide)).mono ?_
  rw [e2]
  rintro e v3 ⟨rfl, c3⟩
  have c3_c := (kcell c3).1; have c3_f := (kcell c3).2; have c3_z := c3.size; try simp only [World.size_alloc, World.size_setCell, World.size_drew, size_drewN] at c3_c c3_f c3_z
  go_wp2_with fail
  refine (Add_ok 995 667000 1000 995667 1991 334000 _ (by decide) (by decide) (by decide) (by decide) (by decide)).mono ?_
  rintro e v4 ⟨rfl, c4⟩
  have c4_c := (kcell c4).1; have c4_f := (kcell c4).2; have c4_z := c4.size; try simp only [World.size_alloc, World.size_setCell, World.size_drew, size_drewN] at c4_c c4_f c4_z
  go_wp2
  go_ret
  exact ⟨rfl, (by repeat (first | (with_reducible exact Kept.refl _) | (with_reducible assumption) | (with_reducible refine Kept.alloc ?_ _) | (with_reducible refine Kept.drew ?_) | (with_reducible refine Kept.drewN ?_ _) | (with_reducible refine Kept.setCell ?_ ?_ _) | (with_reducible refine Kept.trans ?_ (by with_reducible assumption)) | (simp only [World.size_alloc, World.size_setCell, World.size_drew, size_drewN]; omega) | omega | (dsimp only; omega)))⟩
end Go.Proofs.YtooojlecefgonaaDoor
