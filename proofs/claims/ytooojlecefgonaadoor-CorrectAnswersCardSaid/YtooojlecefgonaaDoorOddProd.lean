/- The walk of batchlinekeep's Odd: a product with one thing changed. -/
import Derived.Test.YtooojlecefgonaaDoorRefCor
import Derived.Test.YtooojlecefgonaaDoorText
namespace Go.Proofs.YtooojlecefgonaaDoor
open Go.RowKit
set_option linter.unusedVariables false
set_option linter.unusedSimpArgs false

theorem strs7 : ∀ v ∈ (#[.string ⟨#[]⟩, .string ⟨#[97]⟩, .string ⟨#[65]⟩, .string ⟨#[55, 117, 112]⟩, .string ⟨#[97, 98, 99, 100, 101, 102, 103, 104, 105, 106, 107, 108]⟩, .string ⟨#[97, 98, 99, 100, 101, 102, 103, 104, 105, 106, 107, 108, 109]⟩, .string ⟨#[112, 32, 97]⟩] : Array Value), StrIs (fun s => s.size ≤ 60) v := by
  intro v hv
  simp only [List.mem_toArray, List.mem_cons, List.not_mem_nil, or_false] at hv
  rcases hv with rfl | rfl | rfl | rfl | rfl | rfl | rfl
  all_goals exact ⟨_, by decide, rfl⟩

/-- The call has made some product, whose name is short. -/
def MadeOdd (base bs : Nat) (w : World) (e : Ending) (w' : World) : Prop :=
  ∃ (s : ByteArray) (de ex co fr : Int), s.size ≤ 60 ∧ e = .returned (prd s de ex co fr) ∧ IsSrc base w' bs ∧ Only bs w w'

set_option maxHeartbeats 4000000 in
theorem Odd_any (base : Nat) (w : World) (bs : Nat) (s : ByteArray) (de ex co fr : Int) (hz : s.size ≤ 60) (hs : IsSrc base w bs) :
    Calls Tryd.prog 19 #[.pointer (some ⟨bs, 0, none⟩), prd s de ex co fr] w (MadeOdd base bs w) := by
  have hlt := hs.lt
  go_enter Tryd.func19, Tryd.ntmps19
  go_wp2_with fail
  refine (N_any base _ bs 5 (by repeat (first | (with_reducible assumption) | (with_reducible refine IsSrc.alloc ?_ _) | (with_reducible refine IsSrc.drew ?_) | (with_reducible refine IsSrc.drewN ?_ _) | (with_reducible refine IsSrc.setCell ?_ ?_ ?_ _) | (with_reducible refine IsSrc.kept ?_ (by with_reducible assumption)) | omega | (dsimp only; omega))) (by omega) (by omega)).mono ?_
  rintro e v6 ⟨k, ⟨k0, k1⟩, rfl, s6, o6⟩
  have o6_c := (ocell o6).1; have o6_f := (ocell o6).2; have o6_z := o6.size; try simp only [World.size_alloc, World.size_setCell, World.size_drew, size_drewN] at o6_c o6_f o6_z
  have hk : k = 0 ∨ k = 1 ∨ k = 2 ∨ k = 3 ∨ k = 4 := by omega
  clear k0 k1
  rcases hk with rfl | rfl | rfl | rfl | rfl
  · go_wp2_with fail
    refine (Text_any base _ bs _ _ _ _ (fun s => s.size ≤ 60) (by repeat (first | (with_reducible assumption) | (with_reducible refine IsSrc.alloc ?_ _) | (with_reducible refine IsSrc.drew ?_) | (with_reducible refine IsSrc.drewN ?_ _) | (with_reducible refine IsSrc.setCell ?_ ?_ ?_ _) | (with_reducible refine IsSrc.kept ?_ (by with_reducible assumption)) | omega | (dsimp only; omega))) (by omega) (by omega) (by simp) (by omega) (RowOf.new (by simp) (by simp) strs7)).mono ?_
    rintro e v7 ⟨x, hx, rfl, s7, o7⟩
    have o7_c := (ocell o7).1; have o7_f := (ocell o7).2; have o7_z := o7.size; try simp only [World.size_alloc, World.size_setCell, World.size_drew, size_drewN] at o7_c o7_f o7_z
    go_wp2
    refine bodyPost_ret (v := prd x de ex co fr) (by simp [results, Tryd.results19, go_sem, ↓IntWalk.iteOmega, o7_c, o6_c]) rfl ⟨x, de, ex, co, fr, hx, rfl, (by repeat (first | (with_reducible assumption) | (with_reducible refine IsSrc.alloc ?_ _) | (with_reducible refine IsSrc.drew ?_) | (with_reducible refine IsSrc.drewN ?_ _) | (with_reducible refine IsSrc.setCell ?_ ?_ ?_ _) | (with_reducible refine IsSrc.kept ?_ (by with_reducible assumption)) | omega | (dsimp only; omega))), (by repeat (first | (with_reducible exact Only.refl _ _) | (with_reducible assumption) | (with_reducible refine Only.alloc ?_ _) | (with_reducible refine Only.drew ?_) | (with_reducible refine Only.drewN ?_ _) | (with_reducible refine Only.setCell ?_ ?_ _) | (with_reducible refine Only.trans ?_ (by with_reducible assumption)) | (with_reducible refine Only.trans ?_ (Only.of_kept (by with_reducible assumption))) | (simp only [World.size_alloc, World.size_setCell, World.size_drew, size_drewN]; omega) | omega | (dsimp only; omega)))⟩
  · go_wp2_with fail
    refine (Pick_any base _ bs _ _ _ _ (fun n => True) (by repeat (first | (with_reducible assumption) | (with_reducible refine IsSrc.alloc ?_ _) | (with_reducible refine IsSrc.drew ?_) | (with_reducible refine IsSrc.drewN ?_ _) | (with_reducible refine IsSrc.setCell ?_ ?_ ?_ _) | (with_reducible refine IsSrc.kept ?_ (by with_reducible assumption)) | omega | (dsimp only; omega))) (by omega) (by omega) (by simp) (by omega) (RowOf.new (by simp) (by simp) (by simp [IntIs]))).mono ?_
    rintro e v7 ⟨x, hx, rfl, s7, o7⟩
    have o7_c := (ocell o7).1; have o7_f := (ocell o7).2; have o7_z := o7.size; try simp only [World.size_alloc, World.size_setCell, World.size_drew, size_drewN] at o7_c o7_f o7_z
    go_wp2
    refine bodyPost_ret (v := prd s x ex co fr) (by simp [results, Tryd.results19, go_sem, ↓IntWalk.iteOmega, o7_c, o6_c]) rfl ⟨s, x, ex, co, fr, hz, rfl, (by repeat (first | (with_reducible assumption) | (with_reducible refine IsSrc.alloc ?_ _) | (with_reducible refine IsSrc.drew ?_) | (with_reducible refine IsSrc.drewN ?_ _) | (with_reducible refine IsSrc.setCell ?_ ?_ ?_ _) | (with_reducible refine IsSrc.kept ?_ (by with_reducible assumption)) | omega | (dsimp only; omega))), (by repeat (first | (with_reducible exact Only.refl _ _) | (with_reducible assumption) | (with_reducible refine Only.alloc ?_ _) | (with_reducible refine Only.drew ?_) | (with_reducible refine Only.drewN ?_ _) | (with_reducible refine Only.setCell ?_ ?_ _) | (with_reducible refine Only.trans ?_ (by with_reducible assumption)) | (with_reducible refine Only.trans ?_ (Only.of_kept (by with_reducible assumption))) | (simp only [World.size_alloc, World.size_setCell, World.size_drew, size_drewN]; omega) | omega | (dsimp only; omega)))⟩
  · go_wp2_with fail
    refine (Pick_any base _ bs _ _ _ _ (fun n => True) (by repeat (first | (with_reducible assumption) | (with_reducible refine IsSrc.alloc ?_ _) | (with_reducible refine IsSrc.drew ?_) | (with_reducible refine IsSrc.drewN ?_ _) | (with_reducible refine IsSrc.setCell ?_ ?_ ?_ _) | (with_reducible refine IsSrc.kept ?_ (by with_reducible assumption)) | omega | (dsimp only; omega))) (by omega) (by omega) (by simp) (by omega) (RowOf.new (by simp) (by simp) (by simp [IntIs]))).mono ?_
    rintro e v7 ⟨x, hx, rfl, s7, o7⟩
    have o7_c := (ocell o7).1; have o7_f := (ocell o7).2; have o7_z := o7.size; try simp only [World.size_alloc, World.size_setCell, World.size_drew, size_drewN] at o7_c o7_f o7_z
    go_wp2
    refine bodyPost_ret (v := prd s de x co fr) (by simp [results, Tryd.results19, go_sem, ↓IntWalk.iteOmega, o7_c, o6_c]) rfl ⟨s, de, x, co, fr, hz, rfl, (by repeat (first | (with_reducible assumption) | (with_reducible refine IsSrc.alloc ?_ _) | (with_reducible refine IsSrc.drew ?_) | (with_reducible refine IsSrc.drewN ?_ _) | (with_reducible refine IsSrc.setCell ?_ ?_ ?_ _) | (with_reducible refine IsSrc.kept ?_ (by with_reducible assumption)) | omega | (dsimp only; omega))), (by repeat (first | (with_reducible exact Only.refl _ _) | (with_reducible assumption) | (with_reducible refine Only.alloc ?_ _) | (with_reducible refine Only.drew ?_) | (with_reducible refine Only.drewN ?_ _) | (with_reducible refine Only.setCell ?_ ?_ _) | (with_reducible refine Only.trans ?_ (by with_reducible assumption)) | (with_reducible refine Only.trans ?_ (Only.of_kept (by with_reducible assumption))) | (simp only [World.size_alloc, World.size_setCell, World.size_drew, size_drewN]; omega) | omega | (dsimp only; omega)))⟩
  · go_wp2_with fail
    refine (Pick_any base _ bs _ _ _ _ (fun n => True) (by repeat (first | (with_reducible assumption) | (with_reducible refine IsSrc.alloc ?_ _) | (with_reducible refine IsSrc.drew ?_) | (with_reducible refine IsSrc.drewN ?_ _) | (with_reducible refine IsSrc.setCell ?_ ?_ ?_ _) | (with_reducible refine IsSrc.kept ?_ (by with_reducible assumption)) | omega | (dsimp only; omega))) (by omega) (by omega) (by simp) (by omega) (RowOf.new (by simp) (by simp) (by simp [IntIs]))).mono ?_
    rintro e v7 ⟨x, hx, rfl, s7, o7⟩
    have o7_c := (ocell o7).1; have o7_f := (ocell o7).2; have o7_z := o7.size; try simp only [World.size_alloc, World.size_setCell, World.size_drew, size_drewN] at o7_c o7_f o7_z
    go_wp2
    refine bodyPost_ret (v := prd s de ex x fr) (by simp [results, Tryd.results19, go_sem, ↓IntWalk.iteOmega, o7_c, o6_c]) rfl ⟨s, de, ex, x, fr, hz, rfl, (by repeat (first | (with_reducible assumption) | (with_reducible refine IsSrc.alloc ?_ _) | (with_reducible refine IsSrc.drew ?_) | (with_reducible refine IsSrc.drewN ?_ _) | (with_reducible refine IsSrc.setCell ?_ ?_ ?_ _) | (with_reducible refine IsSrc.kept ?_ (by with_reducible assumption)) | omega | (dsimp only; omega))), (by repeat (first | (with_reducible exact Only.refl _ _) | (with_reducible assumption) | (with_reducible refine Only.alloc ?_ _) | (with_reducible refine Only.drew ?_) | (with_reducible refine Only.drewN ?_ _) | (with_reducible refine Only.setCell ?_ ?_ _) | (with_reducible refine Only.trans ?_ (by with_reducible assumption)) | (with_reducible refine Only.trans ?_ (Only.of_kept (by with_reducible assumption))) | (simp only [World.size_alloc, World.size_setCell, World.size_drew, size_drewN]; omega) | omega | (dsimp only; omega)))⟩
  · go_wp2_with fail
    refine (Pick_any base _ bs _ _ _ _ (fun n => True) (by repeat (first | (with_reducible assumption) | (with_reducible refine IsSrc.alloc ?_ _) | (with_reducible refine IsSrc.drew ?_) | (with_reducible refine IsSrc.drewN ?_ _) | (with_reducible refine IsSrc.setCell ?_ ?_ ?_ _) | (with_reducible refine IsSrc.kept ?_ (by with_reducible assumption)) | omega | (dsimp only; omega))) (by omega) (by omega) (by simp) (by omega) (RowOf.new (by simp) (by simp) (by simp [IntIs]))).mono ?_
    rintro e v7 ⟨x, hx, rfl, s7, o7⟩
    have o7_c := (ocell o7).1; have o7_f := (ocell o7).2; have o7_z := o7.size; try simp only [World.size_alloc, World.size_setCell, World.size_drew, size_drewN] at o7_c o7_f o7_z
    go_wp2
    refine bodyPost_ret (v := prd s de ex co x) (by simp [results, Tryd.results19, go_sem, ↓IntWalk.iteOmega, o7_c, o6_c]) rfl ⟨s, de, ex, co, x, hz, rfl, (by repeat (first | (with_reducible assumption) | (with_reducible refine IsSrc.alloc ?_ _) | (with_reducible refine IsSrc.drew ?_) | (with_reducible refine IsSrc.drewN ?_ _) | (with_reducible refine IsSrc.setCell ?_ ?_ ?_ _) | (with_reducible refine IsSrc.kept ?_ (by with_reducible assumption)) | omega | (dsimp only; omega))), (by repeat (first | (with_reducible exact Only.refl _ _) | (with_reducible assumption) | (with_reducible refine Only.alloc ?_ _) | (with_reducible refine Only.drew ?_) | (with_reducible refine Only.drewN ?_ _) | (with_reducible refine Only.setCell ?_ ?_ _) | (with_reducible refine Only.trans ?_ (by with_reducible assumption)) | (with_reducible refine Only.trans ?_ (Only.of_kept (by with_reducible assumption))) | (simp only [World.size_alloc, World.size_setCell, World.size_drew, size_drewN]; omega) | omega | (dsimp only; omega)))⟩
end Go.Proofs.YtooojlecefgonaaDoor
