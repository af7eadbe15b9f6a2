/- made with one thing wrong; the walk of StationAnswers. -/
import Derived.Test.YtbodabbgcbjkcaaStation4
import Derived.Test.YtbodabbgcbjkcaaText
import Derived.Test.YtbodabbgcbjkcaaArgs
import Derived.Test.YtbodabbgcbjkcaaIntsBlk
namespace Go.Proofs.Ytbodabbgcbjkcaa
open Go.RowKit
set_option linter.unusedVariables false
set_option linter.unusedSimpArgs false

theorem strs2 : ∀ v ∈ (#[.string ⟨#[]⟩, .string ⟨#[65]⟩] : Array Value), StrIs (fun s => s.size ≤ 60) v := by
  intro v hv
  simp only [List.mem_toArray, List.mem_cons, List.not_mem_nil, or_false] at hv
  rcases hv with rfl | rfl
  · exact ⟨_, by decide, rfl⟩
  · exact ⟨_, by decide, rfl⟩

/-- The call has made some station, whose name is short. -/
def MadeAny (base bs : Nat) (w : World) (e : Ending) (w' : World) : Prop :=
  ∃ (s : ByteArray) (nd hd fl su : Int), s.size ≤ 60 ∧ e = .returned (stn s nd hd fl su) ∧ IsSrc base w' bs ∧ Only bs w w'

set_option maxHeartbeats 4000000 in
theorem made_any (base : Nat) (w : World) (bs : Nat) (odd : Int) (hs : IsSrc base w bs) :
    Calls Try.prog 30 #[.pointer (some ⟨bs, 0, none⟩), .int .i64 odd] w (MadeAny base bs w) := by
  by_cases ho : odd = 0
  · subst ho
    refine (made_ok base w bs hs).mono ?_
    rintro e w' ⟨nd, hd, fl, su, _, he, h1, h2⟩
    exact ⟨_, nd, hd, fl, su, by decide, he, h1, h2⟩
  have hod : (odd == 0) = false := by rw [beq_eq_false_iff_ne]; exact ho
  clear ho
  have hlt := hs.lt
  go_enter Try.func30, Try.ntmps30
  go_wp2_with fail
  refine (N_any base _ bs 24 (by repeat (first | (with_reducible assumption) | (with_reducible refine IsSrc.alloc ?_ _) | (with_reducible refine IsSrc.drew ?_) | (with_reducible refine IsSrc.drewN ?_ _) | (with_reducible refine IsSrc.setCell ?_ ?_ ?_ _) | (with_reducible refine IsSrc.kept ?_ (by with_reducible assumption)) | omega | (dsimp only; omega))) (by omega) (by omega)).mono ?_
  rintro e v1 ⟨nd, ⟨n0, n1⟩, rfl, s1, o1⟩
  have o1_c := (ocell o1).1; have o1_f := (ocell o1).2; have o1_z := o1.size; try simp only [World.size_alloc, World.size_setCell, World.size_drew, size_drewN] at o1_c o1_f o1_z
  go_wp2_with fail
  refine (N_any base _ bs 1000000 (by repeat (first | (with_reducible assumption) | (with_reducible refine IsSrc.alloc ?_ _) | (with_reducible refine IsSrc.drew ?_) | (with_reducible refine IsSrc.drewN ?_ _) | (with_reducible refine IsSrc.setCell ?_ ?_ ?_ _) | (with_reducible refine IsSrc.kept ?_ (by with_reducible assumption)) | omega | (dsimp only; omega))) (by omega) (by omega)).mono ?_
  rintro e v2 ⟨h0, ⟨h1, h2⟩, rfl, s2, o2⟩
  have o2_c := (ocell o2).1; have o2_f := (ocell o2).2; have o2_z := o2.size; try simp only [World.size_alloc, World.size_setCell, World.size_drew, size_drewN] at o2_c o2_f o2_z
  go_wp2_with fail
  refine (Pick_any base _ bs _ _ _ _ (fun n => True) (by repeat (first | (with_reducible assumption) | (with_reducible refine IsSrc.alloc ?_ _) | (with_reducible refine IsSrc.drew ?_) | (with_reducible refine IsSrc.drewN ?_ _) | (with_reducible refine IsSrc.setCell ?_ ?_ ?_ _) | (with_reducible refine IsSrc.kept ?_ (by with_reducible assumption)) | omega | (dsimp only; omega))) (by omega) (by omega) (by simp) (by omega) (RowOf.new (by simp) (by simp) (by simp [IntIs]))).mono ?_
  rintro e v3 ⟨hd, hhd, rfl, s3, o3⟩
  have o3_c := (ocell o3).1; have o3_f := (ocell o3).2; have o3_z := o3.size; try simp only [World.size_alloc, World.size_setCell, World.size_drew, size_drewN] at o3_c o3_f o3_z
  go_wp2_with fail
  refine (Pick_any base _ bs _ _ _ _ (fun n => True) (by repeat (first | (with_reducible assumption) | (with_reducible refine IsSrc.alloc ?_ _) | (with_reducible refine IsSrc.drew ?_) | (with_reducible refine IsSrc.drewN ?_ _) | (with_reducible refine IsSrc.setCell ?_ ?_ ?_ _) | (with_reducible refine IsSrc.kept ?_ (by with_reducible assumption)) | omega | (dsimp only; omega))) (by omega) (by omega) (by simp) (by omega) (RowOf.new (by simp) (by simp) (by simp [IntIs]))).mono ?_
  rintro e v4 ⟨fl, hfl, rfl, s4, o4⟩
  have o4_c := (ocell o4).1; have o4_f := (ocell o4).2; have o4_z := o4.size; try simp only [World.size_alloc, World.size_setCell, World.size_drew, size_drewN] at o4_c o4_f o4_z
  go_wp2_with fail
  refine (Pick_any base _ bs _ _ _ _ (fun n => True) (by repeat (first | (with_reducible assumption) | (with_reducible refine IsSrc.alloc ?_ _) | (with_reducible refine IsSrc.drew ?_) | (with_reducible refine IsSrc.drewN ?_ _) | (with_reducible refine IsSrc.setCell ?_ ?_ ?_ _) | (with_reducible refine IsSrc.kept ?_ (by with_reducible assumption)) | omega | (dsimp only; omega))) (by omega) (by omega) (by simp) (by omega) (RowOf.new (by simp) (by simp) (by simp [IntIs]))).mono ?_
  rintro e v5 ⟨su, hsu, rfl, s5, o5⟩
  have o5_c := (ocell o5).1; have o5_f := (ocell o5).2; have o5_z := o5.size; try simp only [World.size_alloc, World.size_setCell, World.size_drew, size_drewN] at o5_c o5_f o5_z
  go_wp2_with fail
  refine (N_any base _ bs 6 (by repeat (first | (with_reducible assumption) | (with_reducible refine IsSrc.alloc ?_ _) | (with_reducible refine IsSrc.drew ?_) | (with_reducible refine IsSrc.drewN ?_ _) | (with_reducible refine IsSrc.setCell ?_ ?_ ?_ _) | (with_reducible refine IsSrc.kept ?_ (by with_reducible assumption)) | omega | (dsimp only; omega))) (by omega) (by omega)).mono ?_
  rintro e v6 ⟨k, ⟨k0, k1⟩, rfl, s6, o6⟩
  have o6_c := (ocell o6).1; have o6_f := (ocell o6).2; have o6_z := o6.size; try simp only [World.size_alloc, World.size_setCell, World.size_drew, size_drewN] at o6_c o6_f o6_z
  have hk : k = 0 ∨ k = 1 ∨ k = 2 ∨ k = 3 ∨ k = 4 ∨ k = 5 := by omega
  clear k0 k1
  rcases hk with rfl | rfl | rfl | rfl | rfl | rfl
  · go_wp2_with fail
    refine (Text_any base _ bs _ _ _ _ (fun s => s.size ≤ 60) (by repeat (first | (with_reducible assumption) | (with_reducible refine IsSrc.alloc ?_ _) | (with_reducible refine IsSrc.drew ?_) | (with_reducible refine IsSrc.drewN ?_ _) | (with_reducible refine IsSrc.setCell ?_ ?_ ?_ _) | (with_reducible refine IsSrc.kept ?_ (by with_reducible assumption)) | omega | (dsimp only; omega))) (by omega) (by omega) (by simp) (by omega) (RowOf.new (by simp) (by simp) strs2)).mono ?_
    rintro e v7 ⟨x, hx, rfl, s7, o7⟩
    have o7_c := (ocell o7).1; have o7_f := (ocell o7).2; have o7_z := o7.size; try simp only [World.size_alloc, World.size_setCell, World.size_drew, size_drewN] at o7_c o7_f o7_z
    go_wp2
    refine bodyPost_ret (v := stn x nd hd fl su) (by simp [results, Try.results30, go_sem, ↓IntWalk.iteOmega, o7_c, o6_c, o5_c, o4_c, o3_c, o2_c, o1_c]) rfl ⟨x, nd, hd, fl, su, hx, rfl, (by repeat (first | (with_reducible assumption) | (with_reducible refine IsSrc.alloc ?_ _) | (with_reducible refine IsSrc.drew ?_) | (with_reducible refine IsSrc.drewN ?_ _) | (with_reducible refine IsSrc.setCell ?_ ?_ ?_ _) | (with_reducible refine IsSrc.kept ?_ (by with_reducible assumption)) | omega | (dsimp only; omega))), (by repeat (first | (with_reducible exact Only.refl _ _) | (with_reducible assumption) | (with_reducible refine Only.alloc ?_ _) | (with_reducible refine Only.drew ?_) | (with_reducible refine Only.drewN ?_ _) | (with_reducible refine Only.setCell ?_ ?_ _) | (with_reducible refine Only.trans ?_ (by with_reducible assumption)) | (with_reducible refine Only.trans ?_ (Only.of_kept (by with_reducible assumption))) | (simp only [World.size_alloc, World.size_setCell, World.size_drew, size_drewN]; omega) | omega | (dsimp only; omega)))⟩
  · go_wp2_with fail
    refine (Pick_any base _ bs _ _ _ _ (fun n => True) (by repeat (first | (with_reducible assumption) | (with_reducible refine IsSrc.alloc ?_ _) | (with_reducible refine IsSrc.drew ?_) | (with_reducible refine IsSrc.drewN ?_ _) | (with_reducible refine IsSrc.setCell ?_ ?_ ?_ _) | (with_reducible refine IsSrc.kept ?_ (by with_reducible assumption)) | omega | (dsimp only; omega))) (by omega) (by omega) (by simp) (by omega) (RowOf.new (by simp) (by simp) (by simp [IntIs]))).mono ?_
    rintro e v7 ⟨x, hx, rfl, s7, o7⟩
    have o7_c := (ocell o7).1; have o7_f := (ocell o7).2; have o7_z := o7.size; try simp only [World.size_alloc, World.size_setCell, World.size_drew, size_drewN] at o7_c o7_f o7_z
    go_wp2
    refine bodyPost_ret (v := stn ⟨#[115, 97]⟩ x hd fl su) (by simp [results, Try.results30, go_sem, ↓IntWalk.iteOmega, o7_c, o6_c, o5_c, o4_c, o3_c, o2_c, o1_c]) rfl ⟨_, x, hd, fl, su, by decide, rfl, (by repeat (first | (with_reducible assumption) | (with_reducible refine IsSrc.alloc ?_ _) | (with_reducible refine IsSrc.drew ?_) | (with_reducible refine IsSrc.drewN ?_ _) | (with_reducible refine IsSrc.setCell ?_ ?_ ?_ _) | (with_reducible refine IsSrc.kept ?_ (by with_reducible assumption)) | omega | (dsimp only; omega))), (by repeat (first | (with_reducible exact Only.refl _ _) | (with_reducible assumption) | (with_reducible refine Only.alloc ?_ _) | (with_reducible refine Only.drew ?_) | (with_reducible refine Only.drewN ?_ _) | (with_reducible refine Only.setCell ?_ ?_ _) | (with_reducible refine Only.trans ?_ (by with_reducible assumption)) | (with_reducible refine Only.trans ?_ (Only.of_kept (by with_reducible assumption))) | (simp only [World.size_alloc, World.size_setCell, World.size_drew, size_drewN]; omega) | omega | (dsimp only; omega)))⟩
  · go_wp2_with fail
    refine (Pick_any base _ bs _ _ _ _ (fun n => True) (by repeat (first | (with_reducible assumption) | (with_reducible refine IsSrc.alloc ?_ _) | (with_reducible refine IsSrc.drew ?_) | (with_reducible refine IsSrc.drewN ?_ _) | (with_reducible refine IsSrc.setCell ?_ ?_ ?_ _) | (with_reducible refine IsSrc.kept ?_ (by with_reducible assumption)) | omega | (dsimp only; omega))) (by omega) (by omega) (by simp) (by omega) (RowOf.new (by simp) (by simp) (by simp [IntIs]))).mono ?_
    rintro e v7 ⟨x, hx, rfl, s7, o7⟩
    have o7_c := (ocell o7).1; have o7_f := (ocell o7).2; have o7_z := o7.size; try simp only [World.size_alloc, World.size_setCell, World.size_drew, size_drewN] at o7_c o7_f o7_z
    go_wp2
    refine bodyPost_ret (v := stn ⟨#[115, 97]⟩ nd x fl su) (by simp [results, Try.results30, go_sem, ↓IntWalk.iteOmega, o7_c, o6_c, o5_c, o4_c, o3_c, o2_c, o1_c]) rfl ⟨_, nd, x, fl, su, by decide, rfl, (by repeat (first | (with_reducible assumption) | (with_reducible refine IsSrc.alloc ?_ _) | (with_reducible refine IsSrc.drew ?_) | (with_reducible refine IsSrc.drewN ?_ _) | (with_reducible refine IsSrc.setCell ?_ ?_ ?_ _) | (with_reducible refine IsSrc.kept ?_ (by with_reducible assumption)) | omega | (dsimp only; omega))), (by repeat (first | (with_reducible exact Only.refl _ _) | (with_reducible assumption) | (with_reducible refine Only.alloc ?_ _) | (with_reducible refine Only.drew ?_) | (with_reducible refine Only.drewN ?_ _) | (with_reducible refine Only.setCell ?_ ?_ _) | (with_reducible refine Only.trans ?_ (by with_reducible assumption)) | (with_reducible refine Only.trans ?_ (Only.of_kept (by with_reducible assumption))) | (simp only [World.size_alloc, World.size_setCell, World.size_drew, size_drewN]; omega) | omega | (dsimp only; omega)))⟩
  · go_wp2_with fail
    refine (Pick_any base _ bs _ _ _ _ (fun n => True) (by repeat (first | (with_reducible assumption) | (with_reducible refine IsSrc.alloc ?_ _) | (with_reducible refine IsSrc.drew ?_) | (with_reducible refine IsSrc.drewN ?_ _) | (with_reducible refine IsSrc.setCell ?_ ?_ ?_ _) | (with_reducible refine IsSrc.kept ?_ (by with_reducible assumption)) | omega | (dsimp only; omega))) (by omega) (by omega) (by simp) (by omega) (RowOf.new (by simp) (by simp) (by simp [IntIs]))).mono ?_
    rintro e v7 ⟨x, hx, rfl, s7, o7⟩
    have o7_c := (ocell o7).1; have o7_f := (ocell o7).2; have o7_z := o7.size; try simp only [World.size_alloc, World.size_setCell, World.size_drew, size_drewN] at o7_c o7_f o7_z
    go_wp2
    refine bodyPost_ret (v := stn ⟨#[115, 97]⟩ nd hd x su) (by simp [results, Try.results30, go_sem, ↓IntWalk.iteOmega, o7_c, o6_c, o5_c, o4_c, o3_c, o2_c, o1_c]) rfl ⟨_, nd, hd, x, su, by decide, rfl, (by repeat (first | (with_reducible assumption) | (with_reducible refine IsSrc.alloc ?_ _) | (with_reducible refine IsSrc.drew ?_) | (with_reducible refine IsSrc.drewN ?_ _) | (with_reducible refine IsSrc.setCell ?_ ?_ ?_ _) | (with_reducible refine IsSrc.kept ?_ (by with_reducible assumption)) | omega | (dsimp only; omega))), (by repeat (first | (with_reducible exact Only.refl _ _) | (with_reducible assumption) | (with_reducible refine Only.alloc ?_ _) | (with_reducible refine Only.drew ?_) | (with_reducible refine Only.drewN ?_ _) | (with_reducible refine Only.setCell ?_ ?_ _) | (with_reducible refine Only.trans ?_ (by with_reducible assumption)) | (with_reducible refine Only.trans ?_ (Only.of_kept (by with_reducible assumption))) | (simp only [World.size_alloc, World.size_setCell, World.size_drew, size_drewN]; omega) | omega | (dsimp only; omega)))⟩
  · go_wp2_with fail
    refine (Pick_any base _ bs _ _ _ _ (fun n => True) (by repeat (first | (with_reducible assumption) | (with_reducible refine IsSrc.alloc ?_ _) | (with_reducible refine IsSrc.drew ?_) | (with_reducible refine IsSrc.drewN ?_ _) | (with_reducible refine IsSrc.setCell ?_ ?_ ?_ _) | (with_reducible refine IsSrc.kept ?_ (by with_reducible assumption)) | omega | (dsimp only; omega))) (by omega) (by omega) (by simp) (by omega) (RowOf.new (by simp) (by simp) (by simp [IntIs]))).mono ?_
    rintro e v7 ⟨x, hx, rfl, s7, o7⟩
    have o7_c := (ocell o7).1; have o7_f := (ocell o7).2; have o7_z := o7.size; try simp only [World.size_alloc, World.size_setCell, World.size_drew, size_drewN] at o7_c o7_f o7_z
    go_wp2
    refine bodyPost_ret (v := stn ⟨#[115, 97]⟩ nd hd fl x) (by simp [results, Try.results30, go_sem, ↓IntWalk.iteOmega, o7_c, o6_c, o5_c, o4_c, o3_c, o2_c, o1_c]) rfl ⟨_, nd, hd, fl, x, by decide, rfl, (by repeat (first | (with_reducible assumption) | (with_reducible refine IsSrc.alloc ?_ _) | (with_reducible refine IsSrc.drew ?_) | (with_reducible refine IsSrc.drewN ?_ _) | (with_reducible refine IsSrc.setCell ?_ ?_ ?_ _) | (with_reducible refine IsSrc.kept ?_ (by with_reducible assumption)) | omega | (dsimp only; omega))), (by repeat (first | (with_reducible exact Only.refl _ _) | (with_reducible assumption) | (with_reducible refine Only.alloc ?_ _) | (with_reducible refine Only.drew ?_) | (with_reducible refine Only.drewN ?_ _) | (with_reducible refine Only.setCell ?_ ?_ _) | (with_reducible refine Only.trans ?_ (by with_reducible assumption)) | (with_reducible refine Only.trans ?_ (Only.of_kept (by with_reducible assumption))) | (simp only [World.size_alloc, World.size_setCell, World.size_drew, size_drewN]; omega) | omega | (dsimp only; omega)))⟩
  · go_wp2
    refine bodyPost_ret (v := stn ⟨#[115, 97]⟩ nd hd fl su) (by simp [results, Try.results30, go_sem, ↓IntWalk.iteOmega, o6_c, o5_c, o4_c, o3_c, o2_c, o1_c]) rfl ⟨_, nd, hd, fl, su, by decide, rfl, (by repeat (first | (with_reducible assumption) | (with_reducible refine IsSrc.alloc ?_ _) | (with_reducible refine IsSrc.drew ?_) | (with_reducible refine IsSrc.drewN ?_ _) | (with_reducible refine IsSrc.setCell ?_ ?_ ?_ _) | (with_reducible refine IsSrc.kept ?_ (by with_reducible assumption)) | omega | (dsimp only; omega))), (by repeat (first | (with_reducible exact Only.refl _ _) | (with_reducible assumption) | (with_reducible refine Only.alloc ?_ _) | (with_reducible refine Only.drew ?_) | (with_reducible refine Only.drewN ?_ _) | (with_reducible refine Only.setCell ?_ ?_ _) | (with_reducible refine Only.trans ?_ (by with_reducible assumption)) | (with_reducible refine Only.trans ?_ (Only.of_kept (by with_reducible assumption))) | (simp only [World.size_alloc, World.size_setCell, World.size_drew, size_drewN]; omega) | omega | (dsimp only; omega)))⟩

/-- Block b holds n stations, whose names are short. -/
def StnBlk (w : World) (b n : Nat) : Prop := b < w.heap.size ∧ ∀ i, i < n → ∃ (s : ByteArray) (nd hd fl su : Int), s.size ≤ 60 ∧ w.cell? ⟨b, i * 5, none⟩ = some (.string s) ∧ w.cell? ⟨b, i * 5 + 1, none⟩ = some (.int .i64 nd) ∧ w.cell? ⟨b, i * 5 + 2, none⟩ = some (.int .i64 hd) ∧ w.cell? ⟨b, i * 5 + 3, none⟩ = some (.int .i64 fl) ∧ w.cell? ⟨b, i * 5 + 4, none⟩ = some (.int .i64 su)
theorem StnBlk.only {w w' : World} {b n bs : Nat} (h : StnBlk w b n) (k : Only bs w w') (hn : b ≠ bs) : StnBlk w' b n :=
  ⟨Nat.lt_of_lt_of_le h.1 k.size, fun i hi => by
    obtain ⟨s, nd, hd, fl, su, h0, h1, h2, h3, h4, h5⟩ := h.2 i hi
    exact ⟨s, nd, hd, fl, su, h0, by rw [ocell1 k h.1 hn]; exact h1, by rw [ocell1 k h.1 hn]; exact h2, by rw [ocell1 k h.1 hn]; exact h3, by rw [ocell1 k h.1 hn]; exact h4, by rw [ocell1 k h.1 hn]; exact h5⟩⟩
theorem stnBlk3 {w : World} {b : Nat} {s s' s'' : ByteArray} {a1 a2 a3 a4 b1 b2 b3 b4 c1 c2 c3 c4 : Int} (h : Box w b #[.string s, .int .i64 a1, .int .i64 a2, .int .i64 a3, .int .i64 a4, .string s', .int .i64 b1, .int .i64 b2, .int .i64 b3, .int .i64 b4, .string s'', .int .i64 c1, .int .i64 c2, .int .i64 c3, .int .i64 c4]) (h1 : s.size ≤ 60) (h2 : s'.size ≤ 60) (h3 : s''.size ≤ 60) : StnBlk w b 3 :=
  ⟨h.lt, fun i hi => by
    have h3' : i = 0 ∨ i = 1 ∨ i = 2 := by omega
    rcases h3' with rfl | rfl | rfl
    · exact ⟨_, _, _, _, _, h1, by rw [h.cell]; rfl, by rw [h.cell]; rfl, by rw [h.cell]; rfl, by rw [h.cell]; rfl, by rw [h.cell]; rfl⟩
    · exact ⟨_, _, _, _, _, h2, by rw [h.cell]; rfl, by rw [h.cell]; rfl, by rw [h.cell]; rfl, by rw [h.cell]; rfl, by rw [h.cell]; rfl⟩
    · exact ⟨_, _, _, _, _, h3, by rw [h.cell]; rfl, by rw [h.cell]; rfl, by rw [h.cell]; rfl, by rw [h.cell]; rfl, by rw [h.cell]; rfl⟩⟩
end Go.Proofs.Ytbodabbgcbjkcaa
