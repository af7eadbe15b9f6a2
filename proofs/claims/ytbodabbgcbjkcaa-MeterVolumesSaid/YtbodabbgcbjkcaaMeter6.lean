/- The walk of MeterVolumes. -/
import Derived.Test.YtbodabbgcbjkcaaMeter3
import Derived.Deep.RegionHeld3
namespace Go.Proofs.Ytbodabbgcbjkcaa
open Go.RowKit
set_option linter.unusedVariables false
set_option linter.unusedSimpArgs false

theorem vol_facts (p f n k : Int) (p1 : 1 ≤ p) (p2 : p ≤ 1048576) (f1 : 50000 ≤ f) (f2 : f ≤ 200000) (n0 : 0 ≤ n) (n1 : n ≤ 1000000) (k0 : 0 ≤ k) (k1 : k ≤ 4999) (v : Int) (hv : v = mLit p f (n + k) - mLit p f n) :
    0 ≤ v ∧ v ≤ 1200000000 ∧ (v - 1) * 100 * p < k * f ∧ k * f < (v + 1) * 100 * p ∧ 0 ≤ k * f ∧ k * f ≤ 4999 * 200000 ∧ -104857600 ≤ (v - 1) * 100 * p ∧ (v + 1) * 100 * p ≤ 4999 * 200000 + 209715200 := by
  have hk := mul_bd (N := 4999) (F := 200000) k0 k1 (show 0 ≤ f by omega) f2
  have e : (n + k) * f = n * f + k * f := Int.add_mul _ _ _
  unfold mLit at hv
  rw [e] at hv
  generalize n * f = A at *
  generalize k * f = K at *
  have a1 := Int.mul_ediv_add_emod A (100 * p)
  have a2 := Int.mul_ediv_add_emod (A + K) (100 * p)
  have a3 := Int.emod_nonneg A (show 100 * p ≠ 0 by omega)
  have a4 := Int.emod_lt_of_pos A (show 0 < 100 * p by omega)
  have a5 := Int.emod_nonneg (A + K) (show 100 * p ≠ 0 by omega)
  have a6 := Int.emod_lt_of_pos (A + K) (show 0 < 100 * p by omega)
  have a7 : A / (100 * p) ≤ (A + K) / (100 * p) := Int.ediv_le_ediv (by omega) (by omega)
  generalize A / (100 * p) = x at *
  generalize (A + K) / (100 * p) = y at *
  generalize A % (100 * p) = r at *
  generalize (A + K) % (100 * p) = s at *
  have ev : 100 * p * v = 100 * p * y - 100 * p * x := by rw [hv, Int.mul_sub]
  have e1 : (v - 1) * 100 * p = 100 * p * v - 100 * p := by
    rw [Int.mul_assoc, Int.sub_mul, Int.mul_comm v]; omega
  have e2 : (v + 1) * 100 * p = 100 * p * v + 100 * p := by
    rw [Int.mul_assoc, Int.add_mul, Int.mul_comm v]; omega
  have v0 : 0 ≤ v := by omega
  have vb : v * 1 ≤ v * (100 * p) := Int.mul_le_mul_of_nonneg_left (by omega) v0
  rw [Int.mul_comm v (100 * p)] at vb
  rw [e1, e2]
  generalize 100 * p * v = V at *
  generalize 100 * p * x = X at *
  generalize 100 * p * y = Y at *
  refine ⟨v0, by omega, by omega, by omega, by omega, by omega, by omega, by omega⟩

set_option maxHeartbeats 1000000 in
theorem MeterVolumes_law (a : Option Addr) (len cap : Nat) (w : World) (h : ArgInts w a len cap) :
    Calls Try.prog 13 #[.slice a len cap] w (Ret (.bool true) w) := by
  go_enter Try.func13, Try.ntmps13
  go_wp2_with fail
  refine (New_any _ _ _ _ h).mono ?_
  rintro e w1 ⟨bs, rfl, hs1, k1⟩
  have k1_c := (kcell k1).1; have k1_f := (kcell k1).2; have k1_z := k1.size; try simp only [World.size_alloc, World.size_setCell, World.size_drew, size_drewN] at k1_c k1_f k1_z
  have hlt := hs1.lt
  go_wp2_with fail
  refine (SrcMeter_any _ _ bs hs1).mono ?_
  rintro e w2 ⟨p, b, f, hm, rfl, hs2, k2⟩
  have k2_c := (ocell k2).1; have k2_f := (ocell k2).2; have k2_z := k2.size; try simp only [World.size_alloc, World.size_setCell, World.size_drew, size_drewN] at k2_c k2_f k2_z
  go_wp2_with fail
  refine (N_any w.heap.size _ bs 100000 (by repeat (first | (with_reducible assumption) | (with_reducible refine IsSrc.alloc ?_ _) | (with_reducible refine IsSrc.drew ?_) | (with_reducible refine IsSrc.drewN ?_ _) | (with_reducible refine IsSrc.setCell ?_ ?_ ?_ _) | (with_reducible refine IsSrc.kept ?_ (by with_reducible assumption)) | omega | (dsimp only; omega))) (by omega) (by omega)).mono ?_
  rintro e w3 ⟨n, ⟨n0, n1⟩, rfl, hs3, k3⟩
  have k3_c := (ocell k3).1; have k3_f := (ocell k3).2; have k3_z := k3.size; try simp only [World.size_alloc, World.size_setCell, World.size_drew, size_drewN] at k3_c k3_f k3_z
  go_wp2_with fail
  refine (N_any w.heap.size _ bs 10 (by repeat (first | (with_reducible assumption) | (with_reducible refine IsSrc.alloc ?_ _) | (with_reducible refine IsSrc.drew ?_) | (with_reducible refine IsSrc.drewN ?_ _) | (with_reducible refine IsSrc.setCell ?_ ?_ ?_ _) | (with_reducible refine IsSrc.kept ?_ (by with_reducible assumption)) | omega | (dsimp only; omega))) (by omega) (by omega)).mono ?_
  rintro e w4 ⟨i, ⟨i0, i1⟩, rfl, hs4, k4⟩
  have k4_c := (ocell k4).1; have k4_f := (ocell k4).2; have k4_z := k4.size; try simp only [World.size_alloc, World.size_setCell, World.size_drew, size_drewN] at k4_c k4_f k4_z
  go_wp2_with fail
  have bM : Box w4 w2.heap.size #[.int .i64 p, .int .i64 b, .int .i64 f] := (by repeat (first | (with_reducible assumption) | (with_reducible apply Box.new; first | (with_reducible rfl) | omega | (simp only [World.size_alloc, World.size_setCell, World.size_drew, size_drewN]; omega)) | (with_reducible apply Box.old) | (with_reducible apply Box.drew) | (with_reducible apply Box.drewN) | (with_reducible apply Box.set) | (with_reducible apply Box.other) | (with_reducible apply Box.only_ (by with_reducible assumption)) | (with_reducible apply Box.kept_ (by with_reducible assumption)) | (simp only [World.size_alloc, World.size_setCell, World.size_drew, size_drewN]; omega) | omega | (dsimp only; omega) | rfl | (simp; done)))
  have bS : Box w4 w3.heap.size #[.int .i64 0, .int .i64 n] := (by repeat (first | (with_reducible assumption) | (with_reducible apply Box.new; first | (with_reducible rfl) | omega | (simp only [World.size_alloc, World.size_setCell, World.size_drew, size_drewN]; omega)) | (with_reducible apply Box.old) | (with_reducible apply Box.drew) | (with_reducible apply Box.drewN) | (with_reducible apply Box.set) | (with_reducible apply Box.other) | (with_reducible apply Box.only_ (by with_reducible assumption)) | (with_reducible apply Box.kept_ (by with_reducible assumption)) | (simp only [World.size_alloc, World.size_setCell, World.size_drew, size_drewN]; omega) | omega | (dsimp only; omega) | rfl | (simp; done)))
  have bC : Box w4 (w3.heap.size + 1) #[.int .i64 0, .int .i64 n] := (by repeat (first | (with_reducible assumption) | (with_reducible apply Box.new; first | (with_reducible rfl) | omega | (simp only [World.size_alloc, World.size_setCell, World.size_drew, size_drewN]; omega)) | (with_reducible apply Box.old) | (with_reducible apply Box.drew) | (with_reducible apply Box.drewN) | (with_reducible apply Box.set) | (with_reducible apply Box.other) | (with_reducible apply Box.only_ (by with_reducible assumption)) | (with_reducible apply Box.kept_ (by with_reducible assumption)) | (simp only [World.size_alloc, World.size_setCell, World.size_drew, size_drewN]; omega) | omega | (dsimp only; omega) | rfl | (simp; done)))
  have q2 : Kept w w2 := Only.kept k1 k2 hlt.1
  have q3 : Kept w w3 := Only.kept (by repeat (first | (with_reducible exact Kept.refl _) | (with_reducible assumption) | (with_reducible refine Kept.alloc ?_ _) | (with_reducible refine Kept.drew ?_) | (with_reducible refine Kept.drewN ?_ _) | (with_reducible refine Kept.setCell ?_ ?_ _) | (with_reducible refine Kept.trans ?_ (by with_reducible assumption)) | (simp only [World.size_alloc, World.size_setCell, World.size_drew, size_drewN]; omega) | omega | (dsimp only; omega))) k3 hlt.1
  have q4 : Kept w w4 := Only.kept (by repeat (first | (with_reducible exact Kept.refl _) | (with_reducible assumption) | (with_reducible refine Kept.alloc ?_ _) | (with_reducible refine Kept.drew ?_) | (with_reducible refine Kept.drewN ?_ _) | (with_reducible refine Kept.setCell ?_ ?_ _) | (with_reducible refine Kept.trans ?_ (by with_reducible assumption)) | (simp only [World.size_alloc, World.size_setCell, World.size_drew, size_drewN]; omega) | omega | (dsimp only; omega))) k4 hlt.1
  have hb1 : bs < w2.heap.size := by omega
  have hb2 : w.heap.size ≤ w2.heap.size := q2.size
  have hb3 : w2.heap.size < w3.heap.size := by omega
  clear k1_c k1_f k2_c k2_f k3_c k3_f k4_c k4_f k1 k2 k3 k4 hs1 hs2 hs3 h q2 q3
  generalize w2.heap.size = M at *
  generalize w3.heap.size = C at *
  clear w2 w3
  obtain ⟨p1, p2, hb, f1, f2⟩ := id hm
  have hc0 : ∀ m, 0 ≤ m → m ≤ 1000000 → cOk b 0 m := fun m m0 m1 => ⟨⟨by omega, by have := mSpan_bd b; omega⟩, m0, by omega⟩
  have HC0 := Lib.hid hc0
  clear hc0
  go_loopw [7, 8] (fun t i wr => ∃ S I m : Int, t = .int .i64 S ∧ i = .int .i64 I ∧ n ≤ m ∧ m ≤ n + (9 - I) * 4999 ∧ I ≤ 9 ∧ 0 ≤ I ∧ Hid (S = mLit p f m - mLit p f n) ∧ IsSrc w.heap.size wr bs ∧ Kept w wr ∧ Box wr M #[.int .i64 p, .int .i64 b, .int .i64 f] ∧ Box wr C #[.int .i64 0, .int .i64 n] ∧ Box wr (C + 1) #[.int .i64 0, .int .i64 m]) (fun _ i _ => (intOf i).toNat)
  case atStart => exact ⟨0, i, n, rfl, rfl, by omega, by omega, by omega, by omega, (Int.sub_self _).symm, hs4, q4, bM, bS, bC⟩
  case round =>
    obtain ⟨S, I, m, rfl, rfl, m0, m1, hI, hI0, hS, hs, hk, hM, hSt, hC⟩ := hrel
    clear bM bS bC q4 hs4
    have hMl := hM.lt
    have hCl := hC.lt
    have cM := hM.cell
    have cS := hSt.cell
    have cC := hC.cell
    have fC := hC.free
    have bl1 := mLit_bd p f m p1 (by omega) f2 (by omega) (by omega)
    have bl2 := mLit_bd p f n p1 (by omega) f2 (by omega) (by omega)
    have S0 : -219902325555200000 ≤ S ∧ S ≤ 219902325555200000 := by have := hS.out; omega
    clear bl1 bl2
    by_cases hi : 0 < I
    · go_wp2_with fail
      go_region_held3 (fun w' => w'.cell? ⟨C + 1, 0, none⟩ = some (.int .i64 0) ∧ w'.cell? ⟨C + 1, 1, none⟩ = some (.int .i64 m)) (first | (refine ⟨?_, ?_⟩ <;> simp [go_sem, cC, ↓IntWalk.iteOmega]; done) | (have c0 := ocell1 o1 (b := C + 1) (by simp; omega) (by omega); have l1 := o1.size; simp at c0 l1; refine ⟨?_, ?_⟩ <;> simp [go_sem, c0, cC, ↓IntWalk.iteOmega]))
        ((go_at_call 25; refine (N_any w.heap.size _ bs 5000 (by repeat (first | (with_reducible assumption) | (with_reducible refine IsSrc.alloc ?_ _) | (with_reducible refine IsSrc.drew ?_) | (with_reducible refine IsSrc.drewN ?_ _) | (with_reducible refine IsSrc.setCell ?_ ?_ ?_ _) | (with_reducible refine IsSrc.kept ?_ (by with_reducible assumption)) | omega | (dsimp only; omega))) (by omega) (by omega)).mono ?_; rintro e v1 ⟨k, ⟨r0, r1⟩, rfl, s1, o1⟩; have o1_c := (ocell o1).1; have o1_f := (ocell o1).2; have o1_z := o1.size; try simp only [World.size_alloc, World.size_setCell, World.size_drew, size_drewN] at o1_c o1_f o1_z))
      all_goals
        have ew : IntKind.i64.wrap (m + k) = m + k := IntWalk.i64_in _ (by omega)
        have ek : m + k - m = k := by omega
        obtain ⟨v, hv⟩ : ∃ v, v = mLit p f (m + k) - mLit p f m := ⟨_, rfl⟩
        have vf := vol_facts p f m k p1 p2 f1 f2 (by omega) (by omega) r0 (by omega) v hv
        have hBt : ∀ W, Calls Try.prog 42 #[mtr p b f, cnt 0 m, cnt 0 (m + k)] W (RetIE v 0 W) := fun W => by
          rw [hv]; exact Between_in p b f 0 m 0 (m + k) W hm (HC0.out _ (by omega) (by omega)) (HC0.out _ (by omega) (by omega)) (by omega)
        have HV := Lib.hid hv
        have HBt := Lib.hid hBt
        clear hv hBt
        go_wp2_with fail
        refine (HBt.out _).mono ?_
        rintro e v2 ⟨rfl, c2⟩
        have c2_c := (kcell c2).1; have c2_f := (kcell c2).2; have c2_z := c2.size; try simp only [World.size_alloc, World.size_setCell, World.size_drew, size_drewN] at c2_c c2_f c2_z
        go_wp2
        have kk1 : Kept w v1 := Only.kept (by repeat (first | (with_reducible exact Kept.refl _) | (with_reducible assumption) | (with_reducible refine Kept.alloc ?_ _) | (with_reducible refine Kept.drew ?_) | (with_reducible refine Kept.drewN ?_ _) | (with_reducible refine Kept.setCell ?_ ?_ _) | (with_reducible refine Kept.trans ?_ (by with_reducible assumption)) | (simp only [World.size_alloc, World.size_setCell, World.size_drew, size_drewN]; omega) | omega | (dsimp only; omega))) o1 hlt.1
        have HS2 : Hid (S + v = mLit p f (m + k) - mLit p f n) := by have := hS.out; have := HV.out; show S + v = _; omega
        rw [ew] at *
        go_roundw
        case rel => exact ⟨S + v, I - 1, m + k, rfl, rfl, by omega, by omega, by omega, by omega, HS2, (by repeat (first | (with_reducible assumption) | (with_reducible refine IsSrc.alloc ?_ _) | (with_reducible refine IsSrc.drew ?_) | (with_reducible refine IsSrc.drewN ?_ _) | (with_reducible refine IsSrc.setCell ?_ ?_ ?_ _) | (with_reducible refine IsSrc.kept ?_ (by with_reducible assumption)) | omega | (dsimp only; omega))), (by repeat (first | (with_reducible exact Kept.refl _) | (with_reducible assumption) | (with_reducible refine Kept.alloc ?_ _) | (with_reducible refine Kept.drew ?_) | (with_reducible refine Kept.drewN ?_ _) | (with_reducible refine Kept.setCell ?_ ?_ _) | (with_reducible refine Kept.trans ?_ (by with_reducible assumption)) | (simp only [World.size_alloc, World.size_setCell, World.size_drew, size_drewN]; omega) | omega | (dsimp only; omega))), (by repeat (first | (with_reducible assumption) | (with_reducible apply Box.new; first | (with_reducible rfl) | omega | (simp only [World.size_alloc, World.size_setCell, World.size_drew, size_drewN]; omega)) | (with_reducible apply Box.old) | (with_reducible apply Box.drew) | (with_reducible apply Box.drewN) | (with_reducible apply Box.set) | (with_reducible apply Box.other) | (with_reducible apply Box.only_ (by with_reducible assumption)) | (with_reducible apply Box.kept_ (by with_reducible assumption)) | (simp only [World.size_alloc, World.size_setCell, World.size_drew, size_drewN]; omega) | omega | (dsimp only; omega) | rfl | (simp; done))), (by repeat (first | (with_reducible assumption) | (with_reducible apply Box.new; first | (with_reducible rfl) | omega | (simp only [World.size_alloc, World.size_setCell, World.size_drew, size_drewN]; omega)) | (with_reducible apply Box.old) | (with_reducible apply Box.drew) | (with_reducible apply Box.drewN) | (with_reducible apply Box.set) | (with_reducible apply Box.other) | (with_reducible apply Box.only_ (by with_reducible assumption)) | (with_reducible apply Box.kept_ (by with_reducible assumption)) | (simp only [World.size_alloc, World.size_setCell, World.size_drew, size_drewN]; omega) | omega | (dsimp only; omega) | rfl | (simp; done))), (by repeat (first | (with_reducible assumption) | (with_reducible apply Box.new; first | (with_reducible rfl) | omega | (simp only [World.size_alloc, World.size_setCell, World.size_drew, size_drewN]; omega)) | (with_reducible apply Box.old) | (with_reducible apply Box.drew) | (with_reducible apply Box.drewN) | (with_reducible apply Box.set) | (with_reducible apply Box.other) | (with_reducible apply Box.only_ (by with_reducible assumption)) | (with_reducible apply Box.kept_ (by with_reducible assumption)) | (simp only [World.size_alloc, World.size_setCell, World.size_drew, size_drewN]; omega) | omega | (dsimp only; omega) | rfl | (simp; done)))⟩
        case measure => simp [intOf]; omega
    · obtain rfl : I = 0 := by omega
      have hBt : ∀ W, Calls Try.prog 42 #[mtr p b f, cnt 0 n, cnt 0 m] W (RetIE S 0 W) := fun W => by
        rw [hS.out]; exact Between_in p b f 0 n 0 m W hm (HC0.out _ (by omega) (by omega)) (HC0.out _ (by omega) (by omega)) (by omega)
      have HBt := Lib.hid hBt
      clear hBt
      go_wp2_with fail
      refine (HBt.out _).mono ?_
      rintro e v2 ⟨rfl, c2⟩
      have c2_c := (kcell c2).1; have c2_f := (kcell c2).2; have c2_z := c2.size; try simp only [World.size_alloc, World.size_setCell, World.size_drew, size_drewN] at c2_c c2_f c2_z
      go_wp2_with fail
      refine (meterAwake _).mono ?_
      rintro e v3 ⟨rfl, c3⟩
      go_wp2
      go_ret
      exact ⟨rfl, (by repeat (first | (with_reducible exact Kept.refl _) | (with_reducible assumption) | (with_reducible refine Kept.alloc ?_ _) | (with_reducible refine Kept.drew ?_) | (with_reducible refine Kept.drewN ?_ _) | (with_reducible refine Kept.setCell ?_ ?_ _) | (with_reducible refine Kept.trans ?_ (by with_reducible assumption)) | (simp only [World.size_alloc, World.size_setCell, World.size_drew, size_drewN]; omega) | omega | (dsimp only; omega)))⟩
end Go.Proofs.Ytbodabbgcbjkcaa
