/- The walk of MeterCounts. -/
import Derived.Test.YtbodabbgcbjkcaaMeter3
namespace Go.Proofs.Ytbodabbgcbjkcaa
open Go.RowKit
set_option linter.unusedVariables false
set_option linter.unusedSimpArgs false

set_option maxHeartbeats 1000000 in
theorem MeterCounts_law (a : Option Addr) (len cap : Nat) (x : Int) (w : World) (h : ArgInts w a len cap) (x0 : 0 ≤ x) (x1 : x ≤ 65535) :
    Calls Try.prog 5 #[.slice a len cap, .int .u16 x] w (Ret (.bool true) w) := by
  go_enter Try.func5, Try.ntmps5
  go_wp2_with fail
  refine (New_any _ _ _ _ h).mono ?_
  rintro e w1 ⟨bs, rfl, hs1, k1⟩
  have k1_c := (kcell k1).1; have k1_f := (kcell k1).2; have k1_z := k1.size; try simp only [World.size_alloc, World.size_setCell, World.size_drew, size_drewN] at k1_c k1_f k1_z
  have hlt := hs1.lt
  go_wp2_with fail
  refine (SrcMeter_any _ _ bs hs1).mono ?_
  rintro e w2 ⟨p, b, f, hm, rfl, hs2, k2⟩
  have k2_c := (ocell k2).1; have k2_f := (ocell k2).2; have k2_z := k2.size; try simp only [World.size_alloc, World.size_setCell, World.size_drew, size_drewN] at k2_c k2_f k2_z
  have hm16 : mOk p 16 f := ⟨hm.1, hm.2.1, .inl rfl, hm.2.2.2⟩
  clear hm
  go_wp2_with fail
  refine (N_any w.heap.size _ bs 15 (by repeat (first | (with_reducible assumption) | (with_reducible refine IsSrc.alloc ?_ _) | (with_reducible refine IsSrc.drew ?_) | (with_reducible refine IsSrc.drewN ?_ _) | (with_reducible refine IsSrc.setCell ?_ ?_ ?_ _) | (with_reducible refine IsSrc.kept ?_ (by with_reducible assumption)) | omega | (dsimp only; omega))) (by omega) (by omega)).mono ?_
  rintro e w3 ⟨n, ⟨n0, n1⟩, rfl, hs3, k3⟩
  have k3_c := (ocell k3).1; have k3_f := (ocell k3).2; have k3_z := k3.size; try simp only [World.size_alloc, World.size_setCell, World.size_drew, size_drewN] at k3_c k3_f k3_z
  go_wp2_with fail
  have bM : Box w3 w2.heap.size #[.int .i64 p, .int .i64 16, .int .i64 f] := (by repeat (first | (with_reducible assumption) | (with_reducible apply Box.new; first | (with_reducible rfl) | omega | (simp only [World.size_alloc, World.size_setCell, World.size_drew, size_drewN]; omega)) | (with_reducible apply Box.old) | (with_reducible apply Box.drew) | (with_reducible apply Box.drewN) | (with_reducible apply Box.set) | (with_reducible apply Box.other) | (with_reducible apply Box.only_ (by with_reducible assumption)) | (with_reducible apply Box.kept_ (by with_reducible assumption)) | (simp only [World.size_alloc, World.size_setCell, World.size_drew, size_drewN]; omega) | omega | (dsimp only; omega) | rfl | (simp; done)))
  have bC : Box w3 (w2.heap.size + 1) #[.int .i64 x, .int .i64 0] := (by repeat (first | (with_reducible assumption) | (with_reducible apply Box.new; first | (with_reducible rfl) | omega | (simp only [World.size_alloc, World.size_setCell, World.size_drew, size_drewN]; omega)) | (with_reducible apply Box.old) | (with_reducible apply Box.drew) | (with_reducible apply Box.drewN) | (with_reducible apply Box.set) | (with_reducible apply Box.other) | (with_reducible apply Box.only_ (by with_reducible assumption)) | (with_reducible apply Box.kept_ (by with_reducible assumption)) | (simp only [World.size_alloc, World.size_setCell, World.size_drew, size_drewN]; omega) | omega | (dsimp only; omega) | rfl | (simp; done)))
  have kw3 : Kept w w3 := Only.kept (Only.kept k1 k2 hlt.1 |>.trans (by repeat (first | (with_reducible exact Kept.refl _) | (with_reducible assumption) | (with_reducible refine Kept.alloc ?_ _) | (with_reducible refine Kept.drew ?_) | (with_reducible refine Kept.drewN ?_ _) | (with_reducible refine Kept.setCell ?_ ?_ _) | (with_reducible refine Kept.trans ?_ (by with_reducible assumption)) | (simp only [World.size_alloc, World.size_setCell, World.size_drew, size_drewN]; omega) | omega | (dsimp only; omega)))) k3 hlt.1
  have hb1 : bs < w2.heap.size := by omega
  have hb2 : w.heap.size ≤ w2.heap.size := by have := hlt.1; omega
  clear k1_c k1_f k2_c k2_f k3_c k3_f k1 k2 k3 hs1 hs2 h
  generalize w2.heap.size = M at *
  clear w2
  go_loopw [8, 9] (fun t i wr => ∃ T I : Int, t = .int .i64 T ∧ i = .int .i64 I ∧ 0 ≤ T ∧ T ≤ (14 - I) * 65535 ∧ I ≤ 14 ∧ IsSrc w.heap.size wr bs ∧ Kept w wr ∧ Box wr M #[.int .i64 p, .int .i64 16, .int .i64 f] ∧ Box wr (M + 1) #[.int .i64 ((x + T) % 65536), .int .i64 T]) (fun _ i _ => (intOf i).toNat)
  case atStart => exact ⟨0, n, rfl, rfl, by omega, by omega, by omega, hs3, kw3, bM, by rw [show (x + 0) % 65536 = x by omega]; exact bC⟩
  case round =>
    obtain ⟨T, I, rfl, rfl, hT0, hT1, hI, hs, hk, hM, hC⟩ := hrel
    clear bM bC kw3 hs3
    by_cases hi : 0 < I
    · have hMl := hM.lt
      have hCl := hC.lt
      have cM := hM.cell
      have cC := hC.cell
      have fC := hC.free
      go_wp2_with fail
      refine (Pick_any w.heap.size _ bs _ _ _ _ (fun n => 1 ≤ n ∧ n ≤ 65536) (by repeat (first | (with_reducible assumption) | (with_reducible refine IsSrc.alloc ?_ _) | (with_reducible refine IsSrc.drew ?_) | (with_reducible refine IsSrc.drewN ?_ _) | (with_reducible refine IsSrc.setCell ?_ ?_ ?_ _) | (with_reducible refine IsSrc.kept ?_ (by with_reducible assumption)) | omega | (dsimp only; omega))) (by omega) (by omega) (by simp) (by omega) (RowOf.new (by simp) (by simp) (by simp [IntIs]))).mono ?_
      rintro e v1 ⟨r, ⟨r0, r1⟩, rfl, s1, o1⟩
      have kk1 : Kept w v1 := Only.kept (by repeat (first | (with_reducible exact Kept.refl _) | (with_reducible assumption) | (with_reducible refine Kept.alloc ?_ _) | (with_reducible refine Kept.drew ?_) | (with_reducible refine Kept.drewN ?_ _) | (with_reducible refine Kept.setCell ?_ ?_ _) | (with_reducible refine Kept.trans ?_ (by with_reducible assumption)) | (simp only [World.size_alloc, World.size_setCell, World.size_drew, size_drewN]; omega) | omega | (dsimp only; omega))) o1 hlt.1
      have o1_c := (ocell o1).1; have o1_f := (ocell o1).2; have o1_z := o1.size; try simp only [World.size_alloc, World.size_setCell, World.size_drew, size_drewN] at o1_c o1_f o1_z
      go_wp2_with fail
      refine (N_any w.heap.size _ bs r s1 (by omega) (by omega)).mono ?_
      rintro e v2 ⟨k, ⟨q0, q1⟩, rfl, s2, o2⟩
      have kk2 : Kept w v2 := Only.kept (by repeat (first | (with_reducible exact Kept.refl _) | (with_reducible assumption) | (with_reducible refine Kept.alloc ?_ _) | (with_reducible refine Kept.drew ?_) | (with_reducible refine Kept.drewN ?_ _) | (with_reducible refine Kept.setCell ?_ ?_ _) | (with_reducible refine Kept.trans ?_ (by with_reducible assumption)) | (simp only [World.size_alloc, World.size_setCell, World.size_drew, size_drewN]; omega) | omega | (dsimp only; omega))) o2 hlt.1
      have o2_c := (ocell o2).1; have o2_f := (ocell o2).2; have o2_z := o2.size; try simp only [World.size_alloc, World.size_setCell, World.size_drew, size_drewN] at o2_c o2_f o2_z
      go_wp2_with fail
      refine (Read_ok p 16 f _ _ _ (T + k) _ hm16 ⟨mReading16.2 ⟨by omega, by omega⟩, by omega, by omega⟩ (mReading16.2 ⟨by omega, by omega⟩) (by rw [mStep16 (s := k) (by omega) (by omega) (by omega) (by omega) (by omega)]) (by omega)).mono ?_
      rintro e v3 ⟨rfl, c3⟩
      have c3_c := (kcell c3).1; have c3_f := (kcell c3).2; have c3_z := c3.size; try simp only [World.size_alloc, World.size_setCell, World.size_drew, size_drewN] at c3_c c3_f c3_z
      go_wp2_with fail
      refine (Read_ok p 16 f _ _ _ (T + k) _ hm16 ⟨mReading16.2 ⟨by omega, by omega⟩, by omega, by omega⟩ (mReading16.2 ⟨by omega, by omega⟩) (by rw [mStep16 (s := 0) (by omega) (by omega) (by omega) (by omega) (by omega)]; omega) (by omega)).mono ?_
      rintro e v4 ⟨rfl, c4⟩
      have c4_c := (kcell c4).1; have c4_f := (kcell c4).2; have c4_z := c4.size; try simp only [World.size_alloc, World.size_setCell, World.size_drew, size_drewN] at c4_c c4_f c4_z
      go_wp2
      go_roundw
      case rel => exact ⟨T + k, I - 1, rfl, rfl, by omega, by omega, by omega, (by repeat (first | (with_reducible assumption) | (with_reducible refine IsSrc.alloc ?_ _) | (with_reducible refine IsSrc.drew ?_) | (with_reducible refine IsSrc.drewN ?_ _) | (with_reducible refine IsSrc.setCell ?_ ?_ ?_ _) | (with_reducible refine IsSrc.kept ?_ (by with_reducible assumption)) | omega | (dsimp only; omega))), (by repeat (first | (with_reducible exact Kept.refl _) | (with_reducible assumption) | (with_reducible refine Kept.alloc ?_ _) | (with_reducible refine Kept.drew ?_) | (with_reducible refine Kept.drewN ?_ _) | (with_reducible refine Kept.setCell ?_ ?_ _) | (with_reducible refine Kept.trans ?_ (by with_reducible assumption)) | (simp only [World.size_alloc, World.size_setCell, World.size_drew, size_drewN]; omega) | omega | (dsimp only; omega))), (by repeat (first | (with_reducible assumption) | (with_reducible apply Box.new; first | (with_reducible rfl) | omega | (simp only [World.size_alloc, World.size_setCell, World.size_drew, size_drewN]; omega)) | (with_reducible apply Box.old) | (with_reducible apply Box.drew) | (with_reducible apply Box.drewN) | (with_reducible apply Box.set) | (with_reducible apply Box.other) | (with_reducible apply Box.only_ (by with_reducible assumption)) | (with_reducible apply Box.kept_ (by with_reducible assumption)) | (simp only [World.size_alloc, World.size_setCell, World.size_drew, size_drewN]; omega) | omega | (dsimp only; omega) | rfl | (simp; done))), (by repeat (first | (with_reducible assumption) | (with_reducible apply Box.new; first | (with_reducible rfl) | omega | (simp only [World.size_alloc, World.size_setCell, World.size_drew, size_drewN]; omega)) | (with_reducible apply Box.old) | (with_reducible apply Box.drew) | (with_reducible apply Box.drewN) | (with_reducible apply Box.set) | (with_reducible apply Box.other) | (with_reducible apply Box.only_ (by with_reducible assumption)) | (with_reducible apply Box.kept_ (by with_reducible assumption)) | (simp only [World.size_alloc, World.size_setCell, World.size_drew, size_drewN]; omega) | omega | (dsimp only; omega) | rfl | (simp; done)))⟩
      case measure => simp [intOf]; omega
    · go_wp2_with fail
      refine (meterAwake _).mono ?_
      rintro e v1 ⟨rfl, c1⟩
      go_wp2
      go_ret
      exact ⟨rfl, hk.trans c1⟩
end Go.Proofs.Ytbodabbgcbjkcaa
