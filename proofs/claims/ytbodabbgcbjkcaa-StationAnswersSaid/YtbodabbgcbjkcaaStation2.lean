/- Walks of the statements about stations: made, StationFalls, StationScales, StationRaises. -/
import Derived.Test.YtbodabbgcbjkcaaStation
namespace Go.Proofs.Ytbodabbgcbjkcaa
open Go.RowKit
set_option linter.unusedVariables false
set_option linter.unusedSimpArgs false

/-- The call has made a valid station of the name 'sa'. -/
def MadeStn (base bs : Nat) (w : World) (e : Ending) (w' : World) : Prop :=
  ∃ nd hd fl su : Int, sOk ⟨#[115, 97]⟩ nd hd fl su ∧ e = .returned (stn ⟨#[115, 97]⟩ nd hd fl su) ∧ IsSrc base w' bs ∧ Only bs w w'

set_option maxHeartbeats 1000000 in
theorem made_ok (base : Nat) (w : World) (bs : Nat) (hs : IsSrc base w bs) :
    Calls Try.prog 30 #[.pointer (some ⟨bs, 0, none⟩), .int .i64 0] w (MadeStn base bs w) := by
  have hlt := hs.lt
  go_enter Try.func30, Try.ntmps30
  go_wp2_with fail
  refine (N_any base _ bs 24 (by repeat (first | (with_reducible assumption) | (with_reducible refine IsSrc.alloc ?_ _) | (with_reducible refine IsSrc.drew ?_) | (with_reducible refine IsSrc.drewN ?_ _) | (with_reducible refine IsSrc.setCell ?_ ?_ ?_ _) | (with_reducible refine IsSrc.kept ?_ (by with_reducible assumption)) | omega | (dsimp only; omega))) (by omega) (by omega)).mono ?_
  rintro e w1 ⟨nd, ⟨n0, n1⟩, rfl, hs1, k1⟩
  have k1_c := (ocell k1).1; have k1_f := (ocell k1).2; have k1_z := k1.size; try simp only [World.size_alloc, World.size_setCell, World.size_drew, size_drewN] at k1_c k1_f k1_z
  go_wp2_with fail
  refine (N_any base _ bs 1000000 (by repeat (first | (with_reducible assumption) | (with_reducible refine IsSrc.alloc ?_ _) | (with_reducible refine IsSrc.drew ?_) | (with_reducible refine IsSrc.drewN ?_ _) | (with_reducible refine IsSrc.setCell ?_ ?_ ?_ _) | (with_reducible refine IsSrc.kept ?_ (by with_reducible assumption)) | omega | (dsimp only; omega))) (by omega) (by omega)).mono ?_
  rintro e w2 ⟨h0, ⟨h1, h2⟩, rfl, hs2, k2⟩
  have k2_c := (ocell k2).1; have k2_f := (ocell k2).2; have k2_z := k2.size; try simp only [World.size_alloc, World.size_setCell, World.size_drew, size_drewN] at k2_c k2_f k2_z
  go_wp2_with fail
  refine (Pick_any base _ bs _ _ _ _ (fun n => 0 ≤ n ∧ n ≤ 100000000) (by repeat (first | (with_reducible assumption) | (with_reducible refine IsSrc.alloc ?_ _) | (with_reducible refine IsSrc.drew ?_) | (with_reducible refine IsSrc.drewN ?_ _) | (with_reducible refine IsSrc.setCell ?_ ?_ ?_ _) | (with_reducible refine IsSrc.kept ?_ (by with_reducible assumption)) | omega | (dsimp only; omega))) (by omega) (by omega) (by simp) (by omega) (RowOf.new (by simp) (by simp) (by simp [IntIs]; omega))).mono ?_
  rintro e w3 ⟨hd, hhd, rfl, hs3, k3⟩
  have k3_c := (ocell k3).1; have k3_f := (ocell k3).2; have k3_z := k3.size; try simp only [World.size_alloc, World.size_setCell, World.size_drew, size_drewN] at k3_c k3_f k3_z
  go_wp2_with fail
  refine (Pick_any base _ bs _ _ _ _ (fun n => 0 ≤ n ∧ n ≤ 100000) (by repeat (first | (with_reducible assumption) | (with_reducible refine IsSrc.alloc ?_ _) | (with_reducible refine IsSrc.drew ?_) | (with_reducible refine IsSrc.drewN ?_ _) | (with_reducible refine IsSrc.setCell ?_ ?_ ?_ _) | (with_reducible refine IsSrc.kept ?_ (by with_reducible assumption)) | omega | (dsimp only; omega))) (by omega) (by omega) (by simp) (by omega) (RowOf.new (by simp) (by simp) (by simp [IntIs]))).mono ?_
  rintro e w4 ⟨fl, hfl, rfl, hs4, k4⟩
  have k4_c := (ocell k4).1; have k4_f := (ocell k4).2; have k4_z := k4.size; try simp only [World.size_alloc, World.size_setCell, World.size_drew, size_drewN] at k4_c k4_f k4_z
  go_wp2_with fail
  refine (Pick_any base _ bs _ _ _ _ (fun n => 0 ≤ n ∧ n ≤ 100000000) (by repeat (first | (with_reducible assumption) | (with_reducible refine IsSrc.alloc ?_ _) | (with_reducible refine IsSrc.drew ?_) | (with_reducible refine IsSrc.drewN ?_ _) | (with_reducible refine IsSrc.setCell ?_ ?_ ?_ _) | (with_reducible refine IsSrc.kept ?_ (by with_reducible assumption)) | omega | (dsimp only; omega))) (by omega) (by omega) (by simp) (by omega) (RowOf.new (by simp) (by simp) (by simp [IntIs]))).mono ?_
  rintro e w5 ⟨su, hsu, rfl, hs5, k5⟩
  have k5_c := (ocell k5).1; have k5_f := (ocell k5).2; have k5_z := k5.size; try simp only [World.size_alloc, World.size_setCell, World.size_drew, size_drewN] at k5_c k5_f k5_z
  go_wp2
  refine bodyPost_ret (v := stn ⟨#[115, 97]⟩ nd hd fl su) (by simp [results, Try.results30, go_sem, ↓IntWalk.iteOmega, k5_c, k4_c, k3_c, k2_c, k1_c]) rfl ⟨nd, hd, fl, su, ⟨name_sa, ⟨n0, by omega⟩, hhd, hfl, hsu⟩, rfl, (by repeat (first | (with_reducible assumption) | (with_reducible refine IsSrc.alloc ?_ _) | (with_reducible refine IsSrc.drew ?_) | (with_reducible refine IsSrc.drewN ?_ _) | (with_reducible refine IsSrc.setCell ?_ ?_ ?_ _) | (with_reducible refine IsSrc.kept ?_ (by with_reducible assumption)) | omega | (dsimp only; omega))), (by repeat (first | (with_reducible exact Only.refl _ _) | (with_reducible assumption) | (with_reducible refine Only.alloc ?_ _) | (with_reducible refine Only.drew ?_) | (with_reducible refine Only.drewN ?_ _) | (with_reducible refine Only.setCell ?_ ?_ _) | (with_reducible refine Only.trans ?_ (by with_reducible assumption)) | (with_reducible refine Only.trans ?_ (Only.of_kept (by with_reducible assumption))) | (simp only [World.size_alloc, World.size_setCell, World.size_drew, size_drewN]; omega) | omega | (dsimp only; omega)))⟩

theorem bst_mono (hd fl r r' : Int) (f0 : 0 ≤ fl) (r0 : 0 ≤ r) (h : r ≤ r') : bst hd fl r' ≤ bst hd fl r := by
  have h1 : fl * r ≤ fl * r' := Int.mul_le_mul_of_nonneg_left h f0
  have h2 : fl * r * r ≤ fl * r' * r' := Int.le_trans (Int.mul_le_mul_of_nonneg_right h1 r0) (Int.mul_le_mul_of_nonneg_left h (Int.mul_nonneg f0 (by omega)))
  unfold bst
  omega
theorem bst_zero (hd fl : Int) (h : 0 ≤ hd) : bst hd fl 0 = hd := by unfold bst; simp; omega

theorem bst_nonneg (hd fl r : Int) : 0 ≤ bst hd fl r := by unfold bst; omega
theorem bst_le (hd fl r : Int) (h : 0 ≤ hd) (f0 : 0 ≤ fl) (r0 : 0 ≤ r) : bst hd fl r ≤ hd := by
  have := bst_mono hd fl 0 r f0 (by omega) r0
  rw [bst_zero hd fl h] at this
  exact this

set_option maxHeartbeats 2000000 in
theorem StationFalls_law (a : Option Addr) (len cap : Nat) (x y : Int) (w : World) (h : ArgInts w a len cap) (x0 : 0 ≤ x) (x1 : x ≤ 65535) (y0 : 0 ≤ y) (y1 : y ≤ 65535) :
    Calls Try.prog 8 #[.slice a len cap, .int .u16 x, .int .u16 y] w (Ret (.bool true) w) := by
  have hz : (⟨#[115, 97]⟩ : ByteArray).size ≤ 140737488351232 := by decide
  rcases Int.lt_trichotomy x y with hxy | hxy | hxy
  · by_cases hsw : y % 32001 < x % 32001
    · go_enter Try.func8, Try.ntmps8
      go_wp2_with fail
      refine (New_any _ _ _ _ h).mono ?_
      rintro e w1 ⟨bs, rfl, hs1, k1⟩
      have k1_c := (kcell k1).1; have k1_f := (kcell k1).2; have k1_z := k1.size; try simp only [World.size_alloc, World.size_setCell, World.size_drew, size_drewN] at k1_c k1_f k1_z
      have hlt := hs1.lt
      go_wp2_with fail
      refine (made_ok _ _ bs hs1).mono ?_
      rintro e w2 ⟨nd, hd, fl, su, ho, rfl, hs2, k2⟩
      have kk2 : Kept w w2 := Only.kept k1 k2 hlt.1
      have k2_c := (ocell k2).1; have k2_f := (ocell k2).2; have k2_z := k2.size; try simp only [World.size_alloc, World.size_setCell, World.size_drew, size_drewN] at k2_c k2_f k2_z
      have ho2 := ho
      obtain ⟨_, _, hd0, fl0, _⟩ := ho
      have ho := Lib.hid ho2
      clear ho2
      have g1 := bst_mono hd fl (y % 32001) (x % 32001) fl0.1 (by omega) (by omega)
      have g2 := bst_le hd fl (y % 32001) hd0.1 fl0.1 (by omega)
      have g3 := bst_nonneg hd fl (x % 32001)
      have e0 := bst_zero hd fl hd0.1
      have E0 := Lib.hid e0
      clear e0
      go_wp2_with fail
      refine (Boost_in _ _ _ _ _ _ _ hz ho.out (by omega) (by omega)).mono ?_
      rintro e v1 ⟨rfl, c1⟩
      have c1_c := (kcell c1).1; have c1_f := (kcell c1).2; have c1_z := c1.size; try simp only [World.size_alloc, World.size_setCell, World.size_drew, size_drewN] at c1_c c1_f c1_z
      go_wp2_with fail
      refine (Boost_in _ _ _ _ _ _ _ hz ho.out (by omega) (by omega)).mono ?_
      rintro e v2 ⟨rfl, c2⟩
      have c2_c := (kcell c2).1; have c2_f := (kcell c2).2; have c2_z := c2.size; try simp only [World.size_alloc, World.size_setCell, World.size_drew, size_drewN] at c2_c c2_f c2_z
      go_wp2_with fail
      refine (Boost_in _ _ _ _ _ _ _ hz ho.out (by omega) (by omega)).mono ?_
      rw [E0.out]
      rintro e v3 ⟨rfl, c3⟩
      have c3_c := (kcell c3).1; have c3_f := (kcell c3).2; have c3_z := c3.size; try simp only [World.size_alloc, World.size_setCell, World.size_drew, size_drewN] at c3_c c3_f c3_z
      go_wp2_with fail
      refine (stnAwake _).mono ?_
      rintro e v4 ⟨rfl, c4⟩
      go_wp2
      go_ret
      exact ⟨rfl, (by repeat (first | (with_reducible exact Kept.refl _) | (with_reducible assumption) | (with_reducible refine Kept.alloc ?_ _) | (with_reducible refine Kept.drew ?_) | (with_reducible refine Kept.drewN ?_ _) | (with_reducible refine Kept.setCell ?_ ?_ _) | (with_reducible refine Kept.trans ?_ (by with_reducible assumption)) | (simp only [World.size_alloc, World.size_setCell, World.size_drew, size_drewN]; omega) | omega | (dsimp only; omega)))⟩
    · go_enter Try.func8, Try.ntmps8
      go_wp2_with fail
      refine (New_any _ _ _ _ h).mono ?_
      rintro e w1 ⟨bs, rfl, hs1, k1⟩
      have k1_c := (kcell k1).1; have k1_f := (kcell k1).2; have k1_z := k1.size; try simp only [World.size_alloc, World.size_setCell, World.size_drew, size_drewN] at k1_c k1_f k1_z
      have hlt := hs1.lt
      go_wp2_with fail
      refine (made_ok _ _ bs hs1).mono ?_
      rintro e w2 ⟨nd, hd, fl, su, ho, rfl, hs2, k2⟩
      have kk2 : Kept w w2 := Only.kept k1 k2 hlt.1
      have k2_c := (ocell k2).1; have k2_f := (ocell k2).2; have k2_z := k2.size; try simp only [World.size_alloc, World.size_setCell, World.size_drew, size_drewN] at k2_c k2_f k2_z
      have ho2 := ho
      obtain ⟨_, _, hd0, fl0, _⟩ := ho
      have ho := Lib.hid ho2
      clear ho2
      have g1 := bst_mono hd fl (x % 32001) (y % 32001) fl0.1 (by omega) (by omega)
      have g2 := bst_le hd fl (x % 32001) hd0.1 fl0.1 (by omega)
      have g3 := bst_nonneg hd fl (y % 32001)
      have e0 := bst_zero hd fl hd0.1
      have E0 := Lib.hid e0
      clear e0
      go_wp2_with fail
      refine (Boost_in _ _ _ _ _ _ _ hz ho.out (by omega) (by omega)).mono ?_
      rintro e v1 ⟨rfl, c1⟩
      have c1_c := (kcell c1).1; have c1_f := (kcell c1).2; have c1_z := c1.size; try simp only [World.size_alloc, World.size_setCell, World.size_drew, size_drewN] at c1_c c1_f c1_z
      go_wp2_with fail
      refine (Boost_in _ _ _ _ _ _ _ hz ho.out (by omega) (by omega)).mono ?_
      rintro e v2 ⟨rfl, c2⟩
      have c2_c := (kcell c2).1; have c2_f := (kcell c2).2; have c2_z := c2.size; try simp only [World.size_alloc, World.size_setCell, World.size_drew, size_drewN] at c2_c c2_f c2_z
      go_wp2_with fail
      refine (Boost_in _ _ _ _ _ _ _ hz ho.out (by omega) (by omega)).mono ?_
      rw [E0.out]
      rintro e v3 ⟨rfl, c3⟩
      have c3_c := (kcell c3).1; have c3_f := (kcell c3).2; have c3_z := c3.size; try simp only [World.size_alloc, World.size_setCell, World.size_drew, size_drewN] at c3_c c3_f c3_z
      go_wp2_with fail
      refine (stnAwake _).mono ?_
      rintro e v4 ⟨rfl, c4⟩
      go_wp2
      go_ret
      exact ⟨rfl, (by repeat (first | (with_reducible exact Kept.refl _) | (with_reducible assumption) | (with_reducible refine Kept.alloc ?_ _) | (with_reducible refine Kept.drew ?_) | (with_reducible refine Kept.drewN ?_ _) | (with_reducible refine Kept.setCell ?_ ?_ _) | (with_reducible refine Kept.trans ?_ (by with_reducible assumption)) | (simp only [World.size_alloc, World.size_setCell, World.size_drew, size_drewN]; omega) | omega | (dsimp only; omega)))⟩
  · subst hxy
    go_enter Try.func8, Try.ntmps8
    go_wp2_with fail
    refine (New_any _ _ _ _ h).mono ?_
    rintro e w1 ⟨bs, rfl, hs1, k1⟩
    have k1_c := (kcell k1).1; have k1_f := (kcell k1).2; have k1_z := k1.size; try simp only [World.size_alloc, World.size_setCell, World.size_drew, size_drewN] at k1_c k1_f k1_z
    have hlt := hs1.lt
    go_wp2_with fail
    refine (made_ok _ _ bs hs1).mono ?_
    rintro e w2 ⟨nd, hd, fl, su, ho, rfl, hs2, k2⟩
    have kk2 : Kept w w2 := Only.kept k1 k2 hlt.1
    have k2_c := (ocell k2).1; have k2_f := (ocell k2).2; have k2_z := k2.size; try simp only [World.size_alloc, World.size_setCell, World.size_drew, size_drewN] at k2_c k2_f k2_z
    have ho2 := ho
    obtain ⟨_, _, hd0, fl0, _⟩ := ho
    have ho := Lib.hid ho2
    clear ho2
    have g1 := bst_mono hd fl (x % 32001) (x % 32001) fl0.1 (by omega) (by omega)
    have g2 := bst_le hd fl (x % 32001) hd0.1 fl0.1 (by omega)
    have g3 := bst_nonneg hd fl (x % 32001)
    have e0 := bst_zero hd fl hd0.1
    have E0 := Lib.hid e0
    clear e0
    go_wp2_with fail
    refine (Boost_in _ _ _ _ _ _ _ hz ho.out (by omega) (by omega)).mono ?_
    rintro e v1 ⟨rfl, c1⟩
    have c1_c := (kcell c1).1; have c1_f := (kcell c1).2; have c1_z := c1.size; try simp only [World.size_alloc, World.size_setCell, World.size_drew, size_drewN] at c1_c c1_f c1_z
    go_wp2_with fail
    refine (Boost_in _ _ _ _ _ _ _ hz ho.out (by omega) (by omega)).mono ?_
    rintro e v2 ⟨rfl, c2⟩
    have c2_c := (kcell c2).1; have c2_f := (kcell c2).2; have c2_z := c2.size; try simp only [World.size_alloc, World.size_setCell, World.size_drew, size_drewN] at c2_c c2_f c2_z
    go_wp2_with fail
    refine (Boost_in _ _ _ _ _ _ _ hz ho.out (by omega) (by omega)).mono ?_
    rw [E0.out]
    rintro e v3 ⟨rfl, c3⟩
    have c3_c := (kcell c3).1; have c3_f := (kcell c3).2; have c3_z := c3.size; try simp only [World.size_alloc, World.size_setCell, World.size_drew, size_drewN] at c3_c c3_f c3_z
    go_wp2_with fail
    refine (stnAwake _).mono ?_
    rintro e v4 ⟨rfl, c4⟩
    go_wp2
    go_ret
    exact ⟨rfl, (by repeat (first | (with_reducible exact Kept.refl _) | (with_reducible assumption) | (with_reducible refine Kept.alloc ?_ _) | (with_reducible refine Kept.drew ?_) | (with_reducible refine Kept.drewN ?_ _) | (with_reducible refine Kept.setCell ?_ ?_ _) | (with_reducible refine Kept.trans ?_ (by with_reducible assumption)) | (simp only [World.size_alloc, World.size_setCell, World.size_drew, size_drewN]; omega) | omega | (dsimp only; omega)))⟩
  · by_cases hsw : x % 32001 < y % 32001
    · go_enter Try.func8, Try.ntmps8
      go_wp2_with fail
      refine (New_any _ _ _ _ h).mono ?_
      rintro e w1 ⟨bs, rfl, hs1, k1⟩
      have k1_c := (kcell k1).1; have k1_f := (kcell k1).2; have k1_z := k1.size; try simp only [World.size_alloc, World.size_setCell, World.size_drew, size_drewN] at k1_c k1_f k1_z
      have hlt := hs1.lt
      go_wp2_with fail
      refine (made_ok _ _ bs hs1).mono ?_
      rintro e w2 ⟨nd, hd, fl, su, ho, rfl, hs2, k2⟩
      have kk2 : Kept w w2 := Only.kept k1 k2 hlt.1
      have k2_c := (ocell k2).1; have k2_f := (ocell k2).2; have k2_z := k2.size; try simp only [World.size_alloc, World.size_setCell, World.size_drew, size_drewN] at k2_c k2_f k2_z
      have ho2 := ho
      obtain ⟨_, _, hd0, fl0, _⟩ := ho
      have ho := Lib.hid ho2
      clear ho2
      have g1 := bst_mono hd fl (x % 32001) (y % 32001) fl0.1 (by omega) (by omega)
      have g2 := bst_le hd fl (x % 32001) hd0.1 fl0.1 (by omega)
      have g3 := bst_nonneg hd fl (y % 32001)
      have e0 := bst_zero hd fl hd0.1
      have E0 := Lib.hid e0
      clear e0
      go_wp2_with fail
      refine (Boost_in _ _ _ _ _ _ _ hz ho.out (by omega) (by omega)).mono ?_
      rintro e v1 ⟨rfl, c1⟩
      have c1_c := (kcell c1).1; have c1_f := (kcell c1).2; have c1_z := c1.size; try simp only [World.size_alloc, World.size_setCell, World.size_drew, size_drewN] at c1_c c1_f c1_z
      go_wp2_with fail
      refine (Boost_in _ _ _ _ _ _ _ hz ho.out (by omega) (by omega)).mono ?_
      rintro e v2 ⟨rfl, c2⟩
      have c2_c := (kcell c2).1; have c2_f := (kcell c2).2; have c2_z := c2.size; try simp only [World.size_alloc, World.size_setCell, World.size_drew, size_drewN] at c2_c c2_f c2_z
      go_wp2_with fail
      refine (Boost_in _ _ _ _ _ _ _ hz ho.out (by omega) (by omega)).mono ?_
      rw [E0.out]
      rintro e v3 ⟨rfl, c3⟩
      have c3_c := (kcell c3).1; have c3_f := (kcell c3).2; have c3_z := c3.size; try simp only [World.size_alloc, World.size_setCell, World.size_drew, size_drewN] at c3_c c3_f c3_z
      go_wp2_with fail
      refine (stnAwake _).mono ?_
      rintro e v4 ⟨rfl, c4⟩
      go_wp2
      go_ret
      exact ⟨rfl, (by repeat (first | (with_reducible exact Kept.refl _) | (with_reducible assumption) | (with_reducible refine Kept.alloc ?_ _) | (with_reducible refine Kept.drew ?_) | (with_reducible refine Kept.drewN ?_ _) | (with_reducible refine Kept.setCell ?_ ?_ _) | (with_reducible refine Kept.trans ?_ (by with_reducible assumption)) | (simp only [World.size_alloc, World.size_setCell, World.size_drew, size_drewN]; omega) | omega | (dsimp only; omega)))⟩
    · go_enter Try.func8, Try.ntmps8
      go_wp2_with fail
      refine (New_any _ _ _ _ h).mono ?_
      rintro e w1 ⟨bs, rfl, hs1, k1⟩
      have k1_c := (kcell k1).1; have k1_f := (kcell k1).2; have k1_z := k1.size; try simp only [World.size_alloc, World.size_setCell, World.size_drew, size_drewN] at k1_c k1_f k1_z
      have hlt := hs1.lt
      go_wp2_with fail
      refine (made_ok _ _ bs hs1).mono ?_
      rintro e w2 ⟨nd, hd, fl, su, ho, rfl, hs2, k2⟩
      have kk2 : Kept w w2 := Only.kept k1 k2 hlt.1
      have k2_c := (ocell k2).1; have k2_f := (ocell k2).2; have k2_z := k2.size; try simp only [World.size_alloc, World.size_setCell, World.size_drew, size_drewN] at k2_c k2_f k2_z
      have ho2 := ho
      obtain ⟨_, _, hd0, fl0, _⟩ := ho
      have ho := Lib.hid ho2
      clear ho2
      have g1 := bst_mono hd fl (y % 32001) (x % 32001) fl0.1 (by omega) (by omega)
      have g2 := bst_le hd fl (y % 32001) hd0.1 fl0.1 (by omega)
      have g3 := bst_nonneg hd fl (x % 32001)
      have e0 := bst_zero hd fl hd0.1
      have E0 := Lib.hid e0
      clear e0
      go_wp2_with fail
      refine (Boost_in _ _ _ _ _ _ _ hz ho.out (by omega) (by omega)).mono ?_
      rintro e v1 ⟨rfl, c1⟩
      have c1_c := (kcell c1).1; have c1_f := (kcell c1).2; have c1_z := c1.size; try simp only [World.size_alloc, World.size_setCell, World.size_drew, size_drewN] at c1_c c1_f c1_z
      go_wp2_with fail
      refine (Boost_in _ _ _ _ _ _ _ hz ho.out (by omega) (by omega)).mono ?_
      rintro e v2 ⟨rfl, c2⟩
      have c2_c := (kcell c2).1; have c2_f := (kcell c2).2; have c2_z := c2.size; try simp only [World.size_alloc, World.size_setCell, World.size_drew, size_drewN] at c2_c c2_f c2_z
      go_wp2_with fail
      refine (Boost_in _ _ _ _ _ _ _ hz ho.out (by omega) (by omega)).mono ?_
      rw [E0.out]
      rintro e v3 ⟨rfl, c3⟩
      have c3_c := (kcell c3).1; have c3_f := (kcell c3).2; have c3_z := c3.size; try simp only [World.size_alloc, World.size_setCell, World.size_drew, size_drewN] at c3_c c3_f c3_z
      go_wp2_with fail
      refine (stnAwake _).mono ?_
      rintro e v4 ⟨rfl, c4⟩
      go_wp2
      go_ret
      exact ⟨rfl, (by repeat (first | (with_reducible exact Kept.refl _) | (with_reducible assumption) | (with_reducible refine Kept.alloc ?_ _) | (with_reducible refine Kept.drew ?_) | (with_reducible refine Kept.drewN ?_ _) | (with_reducible refine Kept.setCell ?_ ?_ _) | (with_reducible refine Kept.trans ?_ (by with_reducible assumption)) | (simp only [World.size_alloc, World.size_setCell, World.size_drew, size_drewN]; omega) | omega | (dsimp only; omega)))⟩
end Go.Proofs.Ytbodabbgcbjkcaa
