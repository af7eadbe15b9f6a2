/- The walks of CorrectAdds and CorrectParts. -/
import Derived.Test.YtooojlecefgonaaDoorGenProd
namespace Go.Proofs.YtooojlecefgonaaDoor
open Go.RowKit
set_option linter.unusedVariables false
set_option linter.unusedSimpArgs false

theorem addOne {T g f : Int} (v r v' r' : Int) (hv : v = T * f / 1000000) (hr : r = T * f % 1000000) (hv' : v' = (T + g) * f / 1000000) (hr' : r' = (T + g) * f % 1000000) : v + (g * f + r) / 1000000 = v' ∧ (g * f + r) % 1000000 = r' := by
  have e : (T + g) * f = T * f + g * f := Int.add_mul _ _ _
  rw [e] at hv' hr'
  generalize T * f = A at *
  generalize g * f = B at *
  omega

set_option maxRecDepth 100000 in
set_option maxHeartbeats 4000000 in
theorem CorrectAdds_law (a : Option Addr) (len cap : Nat) (x : Int) (w : World) (h : ArgInts w a len cap) (x0 : 0 ≤ x) (x1 : x ≤ 4294967295) (hsp : Spans w) :
    Calls Tryd.prog 4 #[.slice a len cap, .int .u32 x] w (Ret (.bool true) w) := by
  go_enter Tryd.func4, Tryd.ntmps4
  go_wp2_with fail
  refine (New_any _ _ _ _ h).mono ?_
  rintro e w1 ⟨bs, rfl, hs1, k1⟩
  have k1_c := (kcell k1).1; have k1_f := (kcell k1).2; have k1_z := k1.size; try simp only [World.size_alloc, World.size_setCell, World.size_drew, size_drewN] at k1_c k1_f k1_z
  have hlt := hs1.lt
  obtain ⟨f, hf⟩ : ∃ f, f = 1 + x % 2000000 := ⟨_, rfl⟩
  have f0 : 1 ≤ f := by omega
  have f1 : f ≤ 2000000 := by omega
  go_wp2_with fail
  refine (N_any w.heap.size _ bs 12 (by repeat (first | (with_reducible assumption) | (with_reducible refine IsSrc.alloc ?_ _) | (with_reducible refine IsSrc.drew ?_) | (with_reducible refine IsSrc.drewN ?_ _) | (with_reducible refine IsSrc.setCell ?_ ?_ ?_ _) | (with_reducible refine IsSrc.kept ?_ (by with_reducible assumption)) | omega | (dsimp only; omega))) (by omega) (by omega)).mono ?_
  rintro e v2 ⟨n, ⟨n0, n1⟩, rfl, s2, o2⟩
  have o2_c := (ocell o2).1; have o2_f := (ocell o2).2; have o2_z := o2.size; try simp only [World.size_alloc, World.size_setCell, World.size_drew, size_drewN] at o2_c o2_f o2_z
  rw [← hf]
  clear hf
  have kw2 : Kept w v2 := Only.kept (Kept.trans k1 (by repeat (first | (with_reducible exact Kept.refl _) | (with_reducible assumption) | (with_reducible refine Kept.alloc ?_ _) | (with_reducible refine Kept.drew ?_) | (with_reducible refine Kept.drewN ?_ _) | (with_reducible refine Kept.setCell ?_ ?_ _) | (with_reducible refine Kept.trans ?_ (by with_reducible assumption)) | (simp only [World.size_alloc, World.size_setCell, World.size_drew, size_drewN]; omega) | omega | (dsimp only; omega)))) o2 hlt.1
  have bR : Box v2 w1.heap.size #[.int .i64 0, .int .i64 0] := (by repeat (first | (with_reducible assumption) | (with_reducible apply Box.new; first | (with_reducible rfl) | omega | (simp only [World.size_alloc, World.size_setCell, World.size_drew, size_drewN] <;> omega)) | (with_reducible apply Box.old) | (with_reducible apply Box.drew) | (with_reducible apply Box.drewN) | (with_reducible apply Box.set) | (with_reducible apply Box.other) | (with_reducible apply Box.only_ (by with_reducible assumption)) | (with_reducible apply Box.kept_ (by with_reducible assumption)) | (simp only [World.size_alloc, World.size_setCell, World.size_drew, size_drewN]; omega) | omega | (dsimp only; omega) | rfl | (simp; done)))
  have hbW : bs < w1.heap.size := hlt.2
  clear k1 k1_c k1_f k1_z o2 o2_c o2_f o2_z hs1
  generalize w1.heap.size = B at *
  go_wp2_with fail
  go_loopw [8, 9] (fun t i wr => ∃ T I : Int, t = .int .i64 T ∧ i = .int .i64 I ∧ 0 ≤ T ∧ T ≤ (11 - I) * 1048575 ∧ 0 ≤ I ∧ I ≤ 11 ∧ IsSrc w.heap.size wr bs ∧ Kept w wr ∧ Box wr B #[.int .i64 (T * f / 1000000), .int .i64 (T * f % 1000000)]) (fun _ i _ => (intOf i).toNat)
  case atStart => exact ⟨0, n, rfl, rfl, by omega, by omega, by omega, by omega, s2, kw2, by simpa using bR⟩
  case round =>
    clear bR s2 kw2 n0 n1
    obtain ⟨T, I, rfl, rfl, hT0, hT1, hI0, hI, hs, hk, hB⟩ := hrel
    have eB := hB.cell
    have fB := hB.free
    have lB := hB.lt
    have m := mul_rng (E := 11534325) (D1 := 0) (D2 := 2000000) hT0 (by omega) (show 0 ≤ f by omega) f1 (by omega) (by omega)
    by_cases hi : 0 < I
    · go_wp2_with fail
      refine (Pick_any w.heap.size _ bs _ _ _ _ (fun n => 1 ≤ n ∧ n ≤ 1048576) (by repeat (first | (with_reducible assumption) | (with_reducible refine IsSrc.alloc ?_ _) | (with_reducible refine IsSrc.drew ?_) | (with_reducible refine IsSrc.drewN ?_ _) | (with_reducible refine IsSrc.setCell ?_ ?_ ?_ _) | (with_reducible refine IsSrc.kept ?_ (by with_reducible assumption)) | omega | (dsimp only; omega))) (by omega) (by omega) (by simp) (by simp; omega) (RowOf.new (by simp) (by simp) (by simp [IntIs]))).mono ?_
      rintro e v3 ⟨r, ⟨r0, r1⟩, rfl, s3, o3⟩
      have o3_c := (ocell o3).1; have o3_f := (ocell o3).2; have o3_z := o3.size; try simp only [World.size_alloc, World.size_setCell, World.size_drew, size_drewN] at o3_c o3_f o3_z
      go_wp2_with fail
      refine (N_any w.heap.size _ bs r (by repeat (first | (with_reducible assumption) | (with_reducible refine IsSrc.alloc ?_ _) | (with_reducible refine IsSrc.drew ?_) | (with_reducible refine IsSrc.drewN ?_ _) | (with_reducible refine IsSrc.setCell ?_ ?_ ?_ _) | (with_reducible refine IsSrc.kept ?_ (by with_reducible assumption)) | omega | (dsimp only; omega))) (by omega) (by omega)).mono ?_
      rintro e v4 ⟨g, ⟨g0, g1⟩, rfl, s4, o4⟩
      have o4_c := (ocell o4).1; have o4_f := (ocell o4).2; have o4_z := o4.size; try simp only [World.size_alloc, World.size_setCell, World.size_drew, size_drewN] at o4_c o4_f o4_z
      have kk4 : Kept w v4 := Only.kept (Only.kept (by repeat (first | (with_reducible exact Kept.refl _) | (with_reducible assumption) | (with_reducible refine Kept.alloc ?_ _) | (with_reducible refine Kept.drew ?_) | (with_reducible refine Kept.drewN ?_ _) | (with_reducible refine Kept.setCell ?_ ?_ _) | (with_reducible refine Kept.trans ?_ (by with_reducible assumption)) | (simp only [World.size_alloc, World.size_setCell, World.size_drew, size_drewN]; omega) | omega | (dsimp only; omega))) o3 hlt.1) o4 hlt.1
      have bB : Box v4 B #[.int .i64 (T * f / 1000000), .int .i64 (T * f % 1000000)] := Box.only (Box.only (Box.old hB _) o3 (by omega)) o4 (by omega)
      have m' := mul_rng (E := 11534325) (D1 := 0) (D2 := 2000000) (show 0 ≤ T + g by omega) (by omega) (show 0 ≤ f by omega) f1 (by omega) (by omega)
      have ad := addOne (T := T) (g := g) (f := f) _ _ _ _ rfl rfl rfl rfl
      have AD := Lib.hid ad
      clear ad
      go_wp2_with fail
      refine (Add_ok _ _ _ _ _ _ _ ⟨⟨by omega, by omega⟩, by omega, by omega⟩ ⟨⟨by omega, by omega⟩, by omega, by omega⟩ AD.out.1 AD.out.2 (by omega)).mono ?_
      rintro e v5 ⟨rfl, c5⟩
      have fB5 := (bB.kept c5).free
      have c5_c := (kcell c5).1; have c5_f := (kcell c5).2; have c5_z := c5.size; try simp only [World.size_alloc, World.size_setCell, World.size_drew, size_drewN] at c5_c c5_f c5_z
      go_wp2
      go_roundw
      case rel => exact ⟨T + g, I - 1, rfl, rfl, by omega, by omega, by omega, by omega, (by repeat (first | (with_reducible assumption) | (with_reducible refine IsSrc.alloc ?_ _) | (with_reducible refine IsSrc.drew ?_) | (with_reducible refine IsSrc.drewN ?_ _) | (with_reducible refine IsSrc.setCell ?_ ?_ ?_ _) | (with_reducible refine IsSrc.kept ?_ (by with_reducible assumption)) | omega | (dsimp only; omega))), (by repeat (first | (with_reducible exact Kept.refl _) | (with_reducible assumption) | (with_reducible refine Kept.alloc ?_ _) | (with_reducible refine Kept.drew ?_) | (with_reducible refine Kept.drewN ?_ _) | (with_reducible refine Kept.setCell ?_ ?_ _) | (with_reducible refine Kept.trans ?_ (by with_reducible assumption)) | (simp only [World.size_alloc, World.size_setCell, World.size_drew, size_drewN]; omega) | omega | (dsimp only; omega))), (by repeat (first | (with_reducible assumption) | (with_reducible apply Box.new; first | (with_reducible rfl) | omega | (simp only [World.size_alloc, World.size_setCell, World.size_drew, size_drewN] <;> omega)) | (with_reducible apply Box.old) | (with_reducible apply Box.drew) | (with_reducible apply Box.drewN) | (with_reducible apply Box.set) | (with_reducible apply Box.other) | (with_reducible apply Box.only_ (by with_reducible assumption)) | (with_reducible apply Box.kept_ (by with_reducible assumption)) | (simp only [World.size_alloc, World.size_setCell, World.size_drew, size_drewN]; omega) | omega | (dsimp only; omega) | rfl | (simp; done)))⟩
      case measure => simp [intOf]; omega
    · go_wp2_with fail
      refine (Add_ok 0 0 T f (T * f / 1000000) (T * f % 1000000) _ ⟨⟨by omega, by omega⟩, by omega, by omega⟩ ⟨⟨by omega, by omega⟩, by omega, by omega⟩ (by simp) (by simp) (by omega)).mono ?_
      rintro e v5 ⟨rfl, c5⟩
      have c5_c := (kcell c5).1; have c5_f := (kcell c5).2; have c5_z := c5.size; try simp only [World.size_alloc, World.size_setCell, World.size_drew, size_drewN] at c5_c c5_f c5_z
      have q1 : (T * f / 1000000 * 1000000 + T * f % 1000000 == T * f) = true := by rw [beq_iff_eq]; omega
      go_wp2_with fail
      refine (corAwake _ (Box.kept hsp (by repeat (first | (with_reducible exact Kept.refl _) | (with_reducible assumption) | (with_reducible refine Kept.alloc ?_ _) | (with_reducible refine Kept.drew ?_) | (with_reducible refine Kept.drewN ?_ _) | (with_reducible refine Kept.setCell ?_ ?_ _) | (with_reducible refine Kept.trans ?_ (by with_reducible assumption)) | (simp only [World.size_alloc, World.size_setCell, World.size_drew, size_drewN]; omega) | omega | (dsimp only; omega))))).mono ?_
      rintro e v6 ⟨rfl, c6⟩
      have c6_c := (kcell c6).1; have c6_f := (kcell c6).2; have c6_z := c6.size; try simp only [World.size_alloc, World.size_setCell, World.size_drew, size_drewN] at c6_c c6_f c6_z
      go_wp2
      go_ret
      exact ⟨rfl, (by repeat (first | (with_reducible exact Kept.refl _) | (with_reducible assumption) | (with_reducible refine Kept.alloc ?_ _) | (with_reducible refine Kept.drew ?_) | (with_reducible refine Kept.drewN ?_ _) | (with_reducible refine Kept.setCell ?_ ?_ _) | (with_reducible refine Kept.trans ?_ (by with_reducible assumption)) | (simp only [World.size_alloc, World.size_setCell, World.size_drew, size_drewN]; omega) | omega | (dsimp only; omega)))⟩

theorem half_off {g f : Int} : -1000000 < 2 * (1000000 * stdV g f - g * f) ∧ 2 * (1000000 * stdV g f - g * f) ≤ 1000000 ∧ (stdV g f = g * f / 1000000 ∨ stdV g f = g * f / 1000000 + 1) := by
  unfold stdV hf
  split <;> omega

set_option maxRecDepth 100000 in
set_option maxHeartbeats 4000000 in
theorem CorrectParts_law (a : Option Addr) (len cap : Nat) (x : Int) (w : World) (h : ArgInts w a len cap) (x0 : 0 ≤ x) (x1 : x ≤ 4294967295) (hsp : Spans w) :
    Calls Tryd.prog 6 #[.slice a len cap, .int .u32 x] w (Ret (.bool true) w) := by
  go_enter Tryd.func6, Tryd.ntmps6
  go_wp2_with fail
  refine (New_any _ _ _ _ h).mono ?_
  rintro e w1 ⟨bs, rfl, hs1, k1⟩
  have k1_c := (kcell k1).1; have k1_f := (kcell k1).2; have k1_z := k1.size; try simp only [World.size_alloc, World.size_setCell, World.size_drew, size_drewN] at k1_c k1_f k1_z
  have hlt := hs1.lt
  obtain ⟨f, hf⟩ : ∃ f, f = 1 + x % 2000000 := ⟨_, rfl⟩
  have f0 : 1 ≤ f := by omega
  have f1 : f ≤ 2000000 := by omega
  go_wp2_with fail
  refine (N_any w.heap.size _ bs 10 (by repeat (first | (with_reducible assumption) | (with_reducible refine IsSrc.alloc ?_ _) | (with_reducible refine IsSrc.drew ?_) | (with_reducible refine IsSrc.drewN ?_ _) | (with_reducible refine IsSrc.setCell ?_ ?_ ?_ _) | (with_reducible refine IsSrc.kept ?_ (by with_reducible assumption)) | omega | (dsimp only; omega))) (by omega) (by omega)).mono ?_
  rintro e v2 ⟨n, ⟨n0, n1⟩, rfl, s2, o2⟩
  have o2_c := (ocell o2).1; have o2_f := (ocell o2).2; have o2_z := o2.size; try simp only [World.size_alloc, World.size_setCell, World.size_drew, size_drewN] at o2_c o2_f o2_z
  rw [← hf]
  clear hf
  have kw2 : Kept w v2 := Only.kept k1 o2 hlt.1
  clear k1 k1_c k1_f k1_z o2 o2_c o2_f o2_z hs1
  go_wp2_with fail
  go_loopw [7, 8, 9, 10] (fun t q m i wr => ∃ T P N I : Int, t = .int .i64 T ∧ q = .int .i64 P ∧ m = .int .i64 N ∧ i = .int .i64 I ∧ 0 ≤ T ∧ T ≤ (9 - I) * 1048575 ∧ 0 ≤ I ∧ I ≤ 9 ∧ 0 ≤ N ∧ N ≤ 9 - I ∧ -1000000 * N ≤ 2 * (1000000 * P - T * f) ∧ 2 * (1000000 * P - T * f) ≤ 1000000 * N ∧ IsSrc w.heap.size wr bs ∧ Kept w wr) (fun _ _ _ i _ => (intOf i).toNat)
  case atStart => exact ⟨0, 0, 0, n, rfl, rfl, rfl, rfl, by omega, by omega, by omega, by omega, by omega, by omega, by simp, by simp, s2, kw2⟩
  case round =>
    clear s2 kw2 n0 n1
    obtain ⟨T, P, N, I, rfl, rfl, rfl, rfl, hT0, hT1, hI0, hI, hN0, hN1, hP0, hP1, hs, hk⟩ := hrel
    have hS := hs.lt
    have m := mul_rng (E := 9437175) (D1 := 0) (D2 := 2000000) hT0 (by omega) (show 0 ≤ f by omega) f1 (by omega) (by omega)
    by_cases hi : 0 < I
    · go_wp2_with fail
      refine (Pick_any w.heap.size _ bs _ _ _ _ (fun n => 1 ≤ n ∧ n ≤ 1048576) (by repeat (first | (with_reducible assumption) | (with_reducible refine IsSrc.alloc ?_ _) | (with_reducible refine IsSrc.drew ?_) | (with_reducible refine IsSrc.drewN ?_ _) | (with_reducible refine IsSrc.setCell ?_ ?_ ?_ _) | (with_reducible refine IsSrc.kept ?_ (by with_reducible assumption)) | omega | (dsimp only; omega))) (by omega) (by omega) (by simp) (by simp; omega) (RowOf.new (by simp) (by simp) (by simp [IntIs]))).mono ?_
      rintro e v3 ⟨r, ⟨r0, r1⟩, rfl, s3, o3⟩
      have o3_c := (ocell o3).1; have o3_f := (ocell o3).2; have o3_z := o3.size; try simp only [World.size_alloc, World.size_setCell, World.size_drew, size_drewN] at o3_c o3_f o3_z
      go_wp2_with fail
      refine (N_any w.heap.size _ bs r (by repeat (first | (with_reducible assumption) | (with_reducible refine IsSrc.alloc ?_ _) | (with_reducible refine IsSrc.drew ?_) | (with_reducible refine IsSrc.drewN ?_ _) | (with_reducible refine IsSrc.setCell ?_ ?_ ?_ _) | (with_reducible refine IsSrc.kept ?_ (by with_reducible assumption)) | omega | (dsimp only; omega))) (by omega) (by omega)).mono ?_
      rintro e v4 ⟨g, ⟨g0, g1⟩, rfl, s4, o4⟩
      have o4_c := (ocell o4).1; have o4_f := (ocell o4).2; have o4_z := o4.size; try simp only [World.size_alloc, World.size_setCell, World.size_drew, size_drewN] at o4_c o4_f o4_z
      have kk4 : Kept w v4 := Only.kept (Only.kept (by repeat (first | (with_reducible exact Kept.refl _) | (with_reducible assumption) | (with_reducible refine Kept.alloc ?_ _) | (with_reducible refine Kept.drew ?_) | (with_reducible refine Kept.drewN ?_ _) | (with_reducible refine Kept.setCell ?_ ?_ _) | (with_reducible refine Kept.trans ?_ (by with_reducible assumption)) | (simp only [World.size_alloc, World.size_setCell, World.size_drew, size_drewN]; omega) | omega | (dsimp only; omega))) o3 hlt.1) o4 hlt.1
      have m' := mul_rng (E := 1048575) (D1 := 0) (D2 := 2000000) (show 0 ≤ g by omega) (by omega) (show 0 ≤ f by omega) f1 (by omega) (by omega)
      have ho := half_off (g := g) (f := f)
      have e : (T + g) * f = T * f + g * f := Int.add_mul _ _ _
      have EM := Lib.hid e
      clear e
      have hv : 0 ≤ stdV g f ∧ stdV g f ≤ 2097150 := by omega
      go_wp2_with fail
      refine (Standard_in _ _ _ ⟨⟨by omega, by omega⟩, by omega, by omega⟩).mono ?_
      rintro e v5 ⟨rfl, c5⟩
      have c5_c := (kcell c5).1; have c5_f := (kcell c5).2; have c5_z := c5.size; try simp only [World.size_alloc, World.size_setCell, World.size_drew, size_drewN] at c5_c c5_f c5_z
      go_wp2
      go_roundw
      case rel => exact ⟨T + g, P + stdV g f, N + 1, I - 1, rfl, rfl, rfl, rfl, by omega, by omega, by omega, by omega, by omega, by omega, by rw [EM.out]; omega, by rw [EM.out]; omega, (by repeat (first | (with_reducible assumption) | (with_reducible refine IsSrc.alloc ?_ _) | (with_reducible refine IsSrc.drew ?_) | (with_reducible refine IsSrc.drewN ?_ _) | (with_reducible refine IsSrc.setCell ?_ ?_ ?_ _) | (with_reducible refine IsSrc.kept ?_ (by with_reducible assumption)) | omega | (dsimp only; omega))), (by repeat (first | (with_reducible exact Kept.refl _) | (with_reducible assumption) | (with_reducible refine Kept.alloc ?_ _) | (with_reducible refine Kept.drew ?_) | (with_reducible refine Kept.drewN ?_ _) | (with_reducible refine Kept.setCell ?_ ?_ _) | (with_reducible refine Kept.trans ?_ (by with_reducible assumption)) | (simp only [World.size_alloc, World.size_setCell, World.size_drew, size_drewN]; omega) | omega | (dsimp only; omega)))⟩
      case measure => simp [intOf]; omega
    · have ho := half_off (g := T) (f := f)
      have hv : 0 ≤ stdV T f ∧ stdV T f ≤ 18874350 := by omega
      have t0 : 0 ≤ T * f / 1000000 ∧ T * f / 1000000 ≤ 18874350 := by omega
      obtain ⟨o1, o2, o3⟩ := ho
      have q1 : 2 * (stdV T f - P) ≤ N + 1 := by omega
      have q2 : 2 * (P - stdV T f) ≤ N + 1 := by omega
      have q3 : 0 ≤ stdV T f - T * f / 1000000 := by omega
      have q4 : stdV T f - T * f / 1000000 ≤ 1 := by omega
      have q5 : -10 ≤ P ∧ P ≤ 18874360 := by omega
      clear o1 o2 o3 hP0 hP1
      go_wp2_with fail
      refine (Standard_in _ _ _ ⟨⟨by omega, by omega⟩, by omega, by omega⟩).mono ?_
      rintro e v5 ⟨rfl, c5⟩
      have c5_c := (kcell c5).1; have c5_f := (kcell c5).2; have c5_z := c5.size; try simp only [World.size_alloc, World.size_setCell, World.size_drew, size_drewN] at c5_c c5_f c5_z
      go_wp2_with fail
      refine (Add_ok 0 0 T f (T * f / 1000000) (T * f % 1000000) _ ⟨⟨by omega, by omega⟩, by omega, by omega⟩ ⟨⟨by omega, by omega⟩, by omega, by omega⟩ (by simp) (by simp) (by omega)).mono ?_
      rintro e v6 ⟨rfl, c6⟩
      have c6_c := (kcell c6).1; have c6_f := (kcell c6).2; have c6_z := c6.size; try simp only [World.size_alloc, World.size_setCell, World.size_drew, size_drewN] at c6_c c6_f c6_z
      go_wp2_with fail
      refine (corAwake _ (Box.kept hsp (by repeat (first | (with_reducible exact Kept.refl _) | (with_reducible assumption) | (with_reducible refine Kept.alloc ?_ _) | (with_reducible refine Kept.drew ?_) | (with_reducible refine Kept.drewN ?_ _) | (with_reducible refine Kept.setCell ?_ ?_ _) | (with_reducible refine Kept.trans ?_ (by with_reducible assumption)) | (simp only [World.size_alloc, World.size_setCell, World.size_drew, size_drewN]; omega) | omega | (dsimp only; omega))))).mono ?_
      rintro e v7 ⟨rfl, c7⟩
      have c7_c := (kcell c7).1; have c7_f := (kcell c7).2; have c7_z := c7.size; try simp only [World.size_alloc, World.size_setCell, World.size_drew, size_drewN] at c7_c c7_f c7_z
      go_wp2
      go_ret
      exact ⟨rfl, (by repeat (first | (with_reducible exact Kept.refl _) | (with_reducible assumption) | (with_reducible refine Kept.alloc ?_ _) | (with_reducible refine Kept.drew ?_) | (with_reducible refine Kept.drewN ?_ _) | (with_reducible refine Kept.setCell ?_ ?_ _) | (with_reducible refine Kept.trans ?_ (by with_reducible assumption)) | (simp only [World.size_alloc, World.size_setCell, World.size_drew, size_drewN]; omega) | omega | (dsimp only; omega)))⟩
end Go.Proofs.YtooojlecefgonaaDoor
