/- The walk of StationAnswers. -/
import Derived.Test.YtbodabbgcbjkcaaStation5
namespace Go.Proofs.Ytbodabbgcbjkcaa
open Go.RowKit
set_option linter.unusedVariables false
set_option linter.unusedSimpArgs false

theorem step3s {bs a b n : Nat} {c : Array Value} {w2 w3 W : World} (h : Only bs w3 W) (q : Only bs w2 w3) (hb : Box w3 a c) (hi : StnBlk w3 b n) (ha : a ≠ bs) (hb' : b ≠ bs) : Only bs w2 W ∧ Box W a c ∧ StnBlk W b n :=
  ⟨q.trans h, hb.only h ha, hi.only h hb'⟩

def CellsOf5 (w : World) (b : Nat) (v0 v1 v2 v3 v4 : Value) : Prop := w.cell? ⟨b, 0, none⟩ = some v0 ∧ w.cell? ⟨b, 1, none⟩ = some v1 ∧ w.cell? ⟨b, 2, none⟩ = some v2 ∧ w.cell? ⟨b, 3, none⟩ = some v3 ∧ w.cell? ⟨b, 4, none⟩ = some v4
theorem boxS5 {w : World} {b : Nat} {v0 v1 v2 v3 v4 : Value} (h : Box w b #[v0, v1, v2, v3, v4]) : w.cell? ⟨b, 0, none⟩ = some v0 ∧ w.cell? ⟨b, 1, none⟩ = some v1 ∧ w.cell? ⟨b, 2, none⟩ = some v2 ∧ w.cell? ⟨b, 3, none⟩ = some v3 ∧ w.cell? ⟨b, 4, none⟩ = some v4 :=
  ⟨by rw [h.cell]; rfl, by rw [h.cell]; rfl, by rw [h.cell]; rfl, by rw [h.cell]; rfl, by rw [h.cell]; rfl⟩

theorem boxS2 {w : World} {b : Nat} {v0 v1 : Value} (h : Box w b #[v0, v1]) : w.cell? ⟨b, 0, none⟩ = some v0 ∧ w.cell? ⟨b, 1, none⟩ = some v1 :=
  ⟨by rw [h.cell]; rfl, by rw [h.cell]; rfl⟩

set_option maxRecDepth 100000 in
set_option maxHeartbeats 8000000 in
theorem StationAnswers_law (rn : ByteArray) (r1 r2 r3 r4 rate lo hi : Int) (a : Option Addr) (len cap : Nat) (w : World) (hrn : rn.size ≤ maxLen) (h : ArgInts w a len cap) :
    Calls Try.prog 10 #[stn rn r1 r2 r3 r4, .int .i64 rate, bnd lo hi, .slice a len cap] w (Ret (.bool true) w) := by
  unfold maxLen at hrn
  by_cases hl : 60 < rn.size
  · go_enter Try.func10, Try.ntmps10
    go_wp2_with fail
    refine (stnAwake _).mono ?_
    rintro e v1 ⟨rfl, c1⟩
    have c1_c := (kcell c1).1; have c1_f := (kcell c1).2; have c1_z := c1.size; try simp only [World.size_alloc, World.size_setCell, World.size_drew, size_drewN] at c1_c c1_f c1_z
    go_wp2
    go_ret
    exact ⟨rfl, (by repeat (first | (with_reducible exact Kept.refl _) | (with_reducible assumption) | (with_reducible refine Kept.alloc ?_ _) | (with_reducible refine Kept.drew ?_) | (with_reducible refine Kept.drewN ?_ _) | (with_reducible refine Kept.setCell ?_ ?_ _) | (with_reducible refine Kept.trans ?_ (by with_reducible assumption)) | (simp only [World.size_alloc, World.size_setCell, World.size_drew, size_drewN]; omega) | omega | (dsimp only; omega)))⟩
  have hrn60 : rn.size ≤ 60 := by omega
  clear hrn
  go_enter Try.func10, Try.ntmps10
  go_wp2_with fail
  refine (New_any _ _ _ _ (h.kept (by repeat (first | (with_reducible exact Kept.refl _) | (with_reducible assumption) | (with_reducible refine Kept.alloc ?_ _) | (with_reducible refine Kept.drew ?_) | (with_reducible refine Kept.drewN ?_ _) | (with_reducible refine Kept.setCell ?_ ?_ _) | (with_reducible refine Kept.trans ?_ (by with_reducible assumption)) | (simp only [World.size_alloc, World.size_setCell, World.size_drew, size_drewN]; omega) | omega | (dsimp only; omega))))).mono ?_
  rintro e w1 ⟨bs, rfl, hs1, k1⟩
  have k1_c := (kcell k1).1; have k1_f := (kcell k1).2; have k1_z := k1.size; try simp only [World.size_alloc, World.size_setCell, World.size_drew, size_drewN] at k1_c k1_f k1_z
  have hlt := hs1.lt
  simp only [World.size_alloc] at hlt hs1
  have hs1' := hs1
  go_wp2_with fail
  have bA : Box w1 w.heap.size #[.string rn, .int .i64 r1, .int .i64 r2, .int .i64 r3, .int .i64 r4] := Box.kept (Box.old (Box.new rfl) _) k1
  have bB : Box w1 (w.heap.size + 1) #[.int .i64 lo, .int .i64 hi] := Box.kept (Box.new (by simp)) k1
  have kw1 : Kept w w1 := (by repeat (first | (with_reducible exact Kept.refl _) | (with_reducible assumption) | (with_reducible refine Kept.alloc ?_ _) | (with_reducible refine Kept.drew ?_) | (with_reducible refine Kept.drewN ?_ _) | (with_reducible refine Kept.setCell ?_ ?_ _) | (with_reducible refine Kept.trans ?_ (by with_reducible assumption)) | (simp only [World.size_alloc, World.size_setCell, World.size_drew, size_drewN]; omega) | omega | (dsimp only; omega)))
  have eA := bA.cell
  clear eA k1_c k1_f k1 hs1
  have hs1 : IsSrc (w.heap.size + 1 + 1) w1 bs := hs1'
  go_region_held3 (fun w' => w'.cell? ⟨w.heap.size, 0, none⟩ = some (.string rn) ∧ w'.cell? ⟨w.heap.size, 1, none⟩ = some (.int .i64 r1) ∧ w'.cell? ⟨w.heap.size, 2, none⟩ = some (.int .i64 r2) ∧ w'.cell? ⟨w.heap.size, 3, none⟩ = some (.int .i64 r3) ∧ w'.cell? ⟨w.heap.size, 4, none⟩ = some (.int .i64 r4)) (exact boxS5 (by repeat (first | (with_reducible assumption) | (with_reducible apply Box.new; first | (with_reducible rfl) | omega | (simp only [World.size_alloc, World.size_setCell, World.size_drew, size_drewN] <;> omega)) | (with_reducible apply Box.old) | (with_reducible apply Box.drew) | (with_reducible apply Box.drewN) | (with_reducible apply Box.set) | (with_reducible apply Box.other) | (with_reducible apply Box.only_ (by with_reducible assumption)) | (with_reducible apply Box.kept_ (by with_reducible assumption)) | (simp only [World.size_alloc, World.size_setCell, World.size_drew, size_drewN]; omega) | omega | (dsimp only; omega) | rfl | (simp; done))))
    ((go_at_call 30; refine (made_any (w.heap.size + 1 + 1) _ bs _ (by repeat (first | (with_reducible assumption) | (with_reducible refine IsSrc.alloc ?_ _) | (with_reducible refine IsSrc.drew ?_) | (with_reducible refine IsSrc.drewN ?_ _) | (with_reducible refine IsSrc.setCell ?_ ?_ ?_ _) | (with_reducible refine IsSrc.kept ?_ (by with_reducible assumption)) | omega | (dsimp only; omega)))).mono ?_; rintro e v2 ⟨n2, a2, b2, c2, d2, hn2, rfl, s2, o2⟩; have z2 := o2.size; (try simp only [World.size_drew] at z2); have kk2 : Kept w v2 := Only.kept (by repeat (first | (with_reducible exact Kept.refl _) | (with_reducible assumption) | (with_reducible refine Kept.alloc ?_ _) | (with_reducible refine Kept.drew ?_) | (with_reducible refine Kept.drewN ?_ _) | (with_reducible refine Kept.setCell ?_ ?_ _) | (with_reducible refine Kept.trans ?_ (by with_reducible assumption)) | (simp only [World.size_alloc, World.size_setCell, World.size_drew, size_drewN]; omega) | omega | (dsimp only; omega))) o2 (by omega); have bb2 : Box v2 (w.heap.size + 1) #[.int .i64 lo, .int .i64 hi] := Box.only (by repeat (first | (with_reducible assumption) | (with_reducible apply Box.new; first | (with_reducible rfl) | omega | (simp only [World.size_alloc, World.size_setCell, World.size_drew, size_drewN] <;> omega)) | (with_reducible apply Box.old) | (with_reducible apply Box.drew) | (with_reducible apply Box.drewN) | (with_reducible apply Box.set) | (with_reducible apply Box.other) | (with_reducible apply Box.only_ (by with_reducible assumption)) | (with_reducible apply Box.kept_ (by with_reducible assumption)) | (simp only [World.size_alloc, World.size_setCell, World.size_drew, size_drewN]; omega) | omega | (dsimp only; omega) | rfl | (simp; done))) o2 (by omega)))
  go_wp2_with fail
  have hz := kk2.size
  have hbs := s2.lt
  generalize hX : v2.heap.size = X at *
  go_loopw [38] (fun i wr => ∃ k : Nat, k ≤ 3 ∧ i = .int .i64 k ∧ IsSrc (w.heap.size + 1 + 1) wr bs ∧ Kept w wr ∧ Box wr (w.heap.size + 1) #[.int .i64 lo, .int .i64 hi] ∧ StnBlk wr X 3) (fun i _ => 3 - (intOf i).toNat)
  case atStart => exact ⟨0, by omega, rfl, (by repeat (first | (with_reducible assumption) | (with_reducible refine IsSrc.alloc ?_ _) | (with_reducible refine IsSrc.drew ?_) | (with_reducible refine IsSrc.drewN ?_ _) | (with_reducible refine IsSrc.setCell ?_ ?_ ?_ _) | (with_reducible refine IsSrc.kept ?_ (by with_reducible assumption)) | omega | (dsimp only; omega))), (by repeat (first | (with_reducible exact Kept.refl _) | (with_reducible assumption) | (with_reducible refine Kept.alloc ?_ _) | (with_reducible refine Kept.drew ?_) | (with_reducible refine Kept.drewN ?_ _) | (with_reducible refine Kept.setCell ?_ ?_ _) | (with_reducible refine Kept.trans ?_ (by with_reducible assumption)) | (simp only [World.size_alloc, World.size_setCell, World.size_drew, size_drewN]; omega) | omega | (dsimp only; omega))), Box.old bb2 _, stnBlk3 (Box.new hX.symm) hrn60 (by assumption) (by assumption)⟩
  case round =>
    clear kk2 bb2 s2 hz o2 z2
    obtain ⟨k, hk, rfl, s6, kw6, dB, dI⟩ := hrel
    have lS := s6.lt
    have lX := dI.1
    by_cases hlt3 : k < 3
    · have hkd : decide ((k : Int) < 3) = true := by simp; omega
      obtain ⟨N, A, B, C, D, hN, c0, c1, c2, c3, c4⟩ := dI.2 k hlt3
      have hN' : N.size ≤ 140737488351232 := by omega
      obtain ⟨wo, rfl⟩ : ∃ wo : World, wo = wr := ⟨_, rfl⟩
      go_wp2_with fail
      refine wp_region_kw (by kernel_rfl) (by kernel_rfl) ?_
      repeat (go_big_quiet_step ((first | (go_at_call 33; exact kw_call (stnValid_any _ _ _ _ _ _ hN')) | (go_at_call 34; exact kw_call (refStnValid_any _ _ _ _ _ _ hN')))))
      refine wpQuiet_nil ?_
      intro _ hw'
      obtain ⟨kq, hw''⟩ := hw'
      subst hw''
      obtain ⟨wq, hwq⟩ := kq
      dsimp only
      have qS : IsSrc (w.heap.size + 1 + 1) wq bs := (by repeat (first | (with_reducible assumption) | (with_reducible refine IsSrc.alloc ?_ _) | (with_reducible refine IsSrc.drew ?_) | (with_reducible refine IsSrc.drewN ?_ _) | (with_reducible refine IsSrc.setCell ?_ ?_ ?_ _) | (with_reducible refine IsSrc.kept ?_ (by with_reducible assumption)) | omega | (dsimp only; omega)))
      have zq := hwq.size
      simp only [World.size_alloc] at zq
      go_wp2_with fail
      refine (N_any (w.heap.size + 1 + 1) _ bs 3000 (by repeat (first | (with_reducible assumption) | (with_reducible refine IsSrc.alloc ?_ _) | (with_reducible refine IsSrc.drew ?_) | (with_reducible refine IsSrc.drewN ?_ _) | (with_reducible refine IsSrc.setCell ?_ ?_ ?_ _) | (with_reducible refine IsSrc.kept ?_ (by with_reducible assumption)) | omega | (dsimp only; omega))) (by omega) (by omega)).mono ?_
      rintro e v7 ⟨y0, ⟨hy0, hy1⟩, rfl, s7, o7⟩
      have o7_c := (ocell o7).1; have o7_f := (ocell o7).2; have o7_z := o7.size; try simp only [World.size_alloc, World.size_setCell, World.size_drew, size_drewN] at o7_c o7_f o7_z
      go_wp2_with fail
      have qO : Only bs wo v7 := (by repeat (first | (with_reducible exact Only.refl _ _) | (with_reducible assumption) | (with_reducible refine Only.alloc ?_ _) | (with_reducible refine Only.drew ?_) | (with_reducible refine Only.drewN ?_ _) | (with_reducible refine Only.setCell ?_ ?_ _) | (with_reducible refine Only.trans ?_ (by with_reducible assumption)) | (with_reducible refine Only.trans ?_ (Only.of_kept (by with_reducible assumption))) | (simp only [World.size_alloc, World.size_setCell, World.size_drew, size_drewN]; omega) | omega | (dsimp only; omega)))
      have qP : Box v7 wo.heap.size #[.string N, .int .i64 A, .int .i64 B, .int .i64 C, .int .i64 D] := Box.only (Box.kept (Box.new rfl) hwq) o7 (by omega)
      have lS1 := s7.lt
      clear o7_c o7_f o7_z o7 hwq qS zq c0 c1 c2 c3 c4
      generalize hT : v7.heap.size = T at *
      go_loopw [52] (fun i wr => ∃ j : Nat, j ≤ 5 ∧ i = .int .i64 j ∧ IsSrc (w.heap.size + 1 + 1) wr bs ∧ Only bs wo wr ∧ Box wr wo.heap.size #[.string N, .int .i64 A, .int .i64 B, .int .i64 C, .int .i64 D] ∧ IntsBlk wr T 5) (fun i _ => 5 - (intOf i).toNat)
      case atStart => exact ⟨0, by omega, rfl, (by repeat (first | (with_reducible assumption) | (with_reducible refine IsSrc.alloc ?_ _) | (with_reducible refine IsSrc.drew ?_) | (with_reducible refine IsSrc.drewN ?_ _) | (with_reducible refine IsSrc.setCell ?_ ?_ ?_ _) | (with_reducible refine IsSrc.kept ?_ (by with_reducible assumption)) | omega | (dsimp only; omega))), (by repeat (first | (with_reducible exact Only.refl _ _) | (with_reducible assumption) | (with_reducible refine Only.alloc ?_ _) | (with_reducible refine Only.drew ?_) | (with_reducible refine Only.drewN ?_ _) | (with_reducible refine Only.setCell ?_ ?_ _) | (with_reducible refine Only.trans ?_ (by with_reducible assumption)) | (with_reducible refine Only.trans ?_ (Only.of_kept (by with_reducible assumption))) | (simp only [World.size_alloc, World.size_setCell, World.size_drew, size_drewN]; omega) | omega | (dsimp only; omega))), Box.old qP _, .of_box (Box.new hT.symm) ints5⟩
      case round =>
        clear qO qP hT s7
        obtain ⟨j, hj, rfl, qS, qO, qP, qI⟩ := hrel
        have gB := (dB.only qO (by omega))
        have eB := gB.cell
        have eP := qP.cell
        have lT := qI.1
        have lO := qO.size
        have lS7 := qS.lt
        have lP := qP.lt
        by_cases hj3 : j < 5
        · have hjd : decide ((j : Int) < 5) = true := by simp; omega
          obtain ⟨R, hR⟩ := qI.2 j hj3
          obtain ⟨w2, rfl⟩ : ∃ w2 : World, w2 = wr := ⟨_, rfl⟩
          go_wp2_with fail
          refine (Boost_any _ _ _ _ _ _ _ hN').mono ?_
          rintro e v8 ⟨rfl, c8⟩
          have c8_c := (kcell c8).1; have c8_f := (kcell c8).2; have c8_z := c8.size; try simp only [World.size_alloc, World.size_setCell, World.size_drew, size_drewN] at c8_c c8_f c8_z
          go_wp2_with fail
          refine (refBoost_any _ _ _ _ _ _ _ hN').mono ?_
          rintro e v9 ⟨rfl, c9⟩
          have c9_c := (kcell c9).1; have c9_f := (kcell c9).2; have c9_z := c9.size; try simp only [World.size_alloc, World.size_setCell, World.size_drew, size_drewN] at c9_c c9_f c9_z
          go_wp2_with fail
          have q9 : Only bs w2 v9 := (by repeat (first | (with_reducible exact Only.refl _ _) | (with_reducible assumption) | (with_reducible refine Only.alloc ?_ _) | (with_reducible refine Only.drew ?_) | (with_reducible refine Only.drewN ?_ _) | (with_reducible refine Only.setCell ?_ ?_ _) | (with_reducible refine Only.trans ?_ (by with_reducible assumption)) | (with_reducible refine Only.trans ?_ (Only.of_kept (by with_reducible assumption))) | (simp only [World.size_alloc, World.size_setCell, World.size_drew, size_drewN]; omega) | omega | (dsimp only; omega)))
          have s9 : IsSrc (w.heap.size + 1 + 1) v9 bs := (by repeat (first | (with_reducible assumption) | (with_reducible refine IsSrc.alloc ?_ _) | (with_reducible refine IsSrc.drew ?_) | (with_reducible refine IsSrc.drewN ?_ _) | (with_reducible refine IsSrc.setCell ?_ ?_ ?_ _) | (with_reducible refine IsSrc.kept ?_ (by with_reducible assumption)) | omega | (dsimp only; omega)))
          have b9 : Box v9 (w.heap.size + 1) #[.int .i64 lo, .int .i64 hi] := Box.only gB q9 (by omega)
          clear c8_c c8_f c8_z c8 c9_c c9_f c9_z c9
          have z9 := q9.size
          go_region_held3 (fun w' => w'.cell? ⟨w.heap.size + 1, 0, none⟩ = some (.int .i64 lo) ∧ w'.cell? ⟨w.heap.size + 1, 1, none⟩ = some (.int .i64 hi)) (exact boxS2 (by repeat (first | (with_reducible assumption) | (with_reducible apply Box.new; first | (with_reducible rfl) | omega | (simp only [World.size_alloc, World.size_setCell, World.size_drew, size_drewN] <;> omega)) | (with_reducible apply Box.old) | (with_reducible apply Box.drew) | (with_reducible apply Box.drewN) | (with_reducible apply Box.set) | (with_reducible apply Box.other) | (with_reducible apply Box.only_ (by with_reducible assumption)) | (with_reducible apply Box.kept_ (by with_reducible assumption)) | (simp only [World.size_alloc, World.size_setCell, World.size_drew, size_drewN]; omega) | omega | (dsimp only; omega) | rfl | (simp; done))))
            ((go_at_call 25; refine (N_any (w.heap.size + 1 + 1) _ bs _ (by repeat (first | (with_reducible assumption) | (with_reducible refine IsSrc.alloc ?_ _) | (with_reducible refine IsSrc.drew ?_) | (with_reducible refine IsSrc.drewN ?_ _) | (with_reducible refine IsSrc.setCell ?_ ?_ ?_ _) | (with_reducible refine IsSrc.kept ?_ (by with_reducible assumption)) | omega | (dsimp only; omega))) (by omega) (by omega)).mono ?_; rintro e v10 ⟨y, ⟨hy0, hy1⟩, rfl, s10, o10⟩; have z10 := o10.size; (try simp only [World.size_drew] at z10); have q10 : Only bs w2 v10 := (by repeat (first | (with_reducible exact Only.refl _ _) | (with_reducible assumption) | (with_reducible refine Only.alloc ?_ _) | (with_reducible refine Only.drew ?_) | (with_reducible refine Only.drewN ?_ _) | (with_reducible refine Only.setCell ?_ ?_ _) | (with_reducible refine Only.trans ?_ (by with_reducible assumption)) | (with_reducible refine Only.trans ?_ (Only.of_kept (by with_reducible assumption))) | (simp only [World.size_alloc, World.size_setCell, World.size_drew, size_drewN]; omega) | omega | (dsimp only; omega)))))
          generalize IntKind.i64.wrap (2 ^ y.toNat) = sh
          go_wp2_with fail
          have lS10 := s10.lt
          have gP := qP.only q10 (by omega)
          have lP10 := gP.lt
          clear q9 s9 b9 z9 z10
          generalize hT3 : v10.heap.size = T3 at *
          go_loopw [86] (fun i wr => ∃ m : Nat, m ≤ 3 ∧ i = .int .i64 m ∧ IsSrc (w.heap.size + 1 + 1) wr bs ∧ Only bs w2 wr ∧ Box wr wo.heap.size #[.string N, .int .i64 A, .int .i64 B, .int .i64 C, .int .i64 D] ∧ IntsBlk wr T3 6) (fun i _ => 3 - (intOf i).toNat)
          case atStart => exact ⟨0, by omega, rfl, (by repeat (first | (with_reducible assumption) | (with_reducible refine IsSrc.alloc ?_ _) | (with_reducible refine IsSrc.drew ?_) | (with_reducible refine IsSrc.drewN ?_ _) | (with_reducible refine IsSrc.setCell ?_ ?_ ?_ _) | (with_reducible refine IsSrc.kept ?_ (by with_reducible assumption)) | omega | (dsimp only; omega))), (by repeat (first | (with_reducible exact Only.refl _ _) | (with_reducible assumption) | (with_reducible refine Only.alloc ?_ _) | (with_reducible refine Only.drew ?_) | (with_reducible refine Only.drewN ?_ _) | (with_reducible refine Only.setCell ?_ ?_ _) | (with_reducible refine Only.trans ?_ (by with_reducible assumption)) | (with_reducible refine Only.trans ?_ (Only.of_kept (by with_reducible assumption))) | (simp only [World.size_alloc, World.size_setCell, World.size_drew, size_drewN]; omega) | omega | (dsimp only; omega))), Box.old gP _, .of_box (Box.new hT3.symm) ints6⟩
          case round =>
            clear hT3 s10 q10 gP eP eB
            obtain ⟨m, hm, rfl, s7, q7, qL, q2⟩ := hrel
            have eP := qL.cell
            have lT3 := q2.1
            have l2 := q7.size
            have lS8 := s7.lt
            have lP8 := qL.lt
            obtain ⟨w3, rfl⟩ : ∃ w3 : World, w3 = wr := ⟨_, rfl⟩
            by_cases hm2 : m < 3
            · obtain ⟨U, hU⟩ := q2.2 (m * 2) (by omega)
              obtain ⟨V, hV⟩ := q2.2 (m * 2 + 1) (by omega)
              go_wp2_with fail
              refine (Raise_any _ _ _ _ _ _ _ _ _ hN').mono ?_
              rintro e v11 ⟨rfl, c11⟩
              have c11_c := (kcell c11).1; have c11_f := (kcell c11).2; have c11_z := c11.size; try simp only [World.size_alloc, World.size_setCell, World.size_drew, size_drewN] at c11_c c11_f c11_z
              go_wp2_with fail
              refine (refRaise_any _ _ _ _ _ _ _ _ _ hN').mono ?_
              rintro e v12 ⟨rfl, c12⟩
              have c12_c := (kcell c12).1; have c12_f := (kcell c12).2; have c12_z := c12.size; try simp only [World.size_alloc, World.size_setCell, World.size_drew, size_drewN] at c12_c c12_f c12_z
              go_wp2
              go_roundw
              case rel => exact ⟨m + 1, by omega, by go_num, (by repeat (first | (with_reducible assumption) | (with_reducible refine IsSrc.alloc ?_ _) | (with_reducible refine IsSrc.drew ?_) | (with_reducible refine IsSrc.drewN ?_ _) | (with_reducible refine IsSrc.setCell ?_ ?_ ?_ _) | (with_reducible refine IsSrc.kept ?_ (by with_reducible assumption)) | omega | (dsimp only; omega))), step3 (by repeat (first | (with_reducible exact Only.refl _ _) | (with_reducible assumption) | (with_reducible refine Only.alloc ?_ _) | (with_reducible refine Only.drew ?_) | (with_reducible refine Only.drewN ?_ _) | (with_reducible refine Only.setCell ?_ ?_ _) | (with_reducible refine Only.trans ?_ (by with_reducible assumption)) | (with_reducible refine Only.trans ?_ (Only.of_kept (by with_reducible assumption))) | (simp only [World.size_alloc, World.size_setCell, World.size_drew, size_drewN]; omega) | omega | (dsimp only; omega))) q7 qL q2 (by omega) (by omega)⟩
              case measure => simp [intOf]; omega
            · go_wp2_with fail
              go_roundw
              case rel => exact ⟨j + 1, by omega, by go_num, s7, step3 q7 qO qP qI (by omega) (by omega)⟩
              case measure => simp [intOf]; omega
        · go_wp2_with fail
          go_roundw
          case rel => exact ⟨k + 1, by omega, by go_num, qS, Only.kept kw6 qO (by omega), dB.only qO (by omega), dI.only qO (by omega)⟩
          case measure => simp [intOf]; omega
    · go_wp2_with fail
      refine (stnAwake _).mono ?_
      rintro e v9 ⟨rfl, c9⟩
      go_wp2
      go_ret
      exact ⟨rfl, kw6.trans c9⟩
end Go.Proofs.Ytbodabbgcbjkcaa
