/- Walks of the statements StationScales and StationRaises; station.Raise. -/
import Derived.Test.YtbodabbgcbjkcaaStation2
namespace Go.Proofs.Ytbodabbgcbjkcaa
open Go.RowKit
set_option linter.unusedVariables false
set_option linter.unusedSimpArgs false

theorem bst_twice (hd fl r : Int) (f0 : 0 ≤ fl) (r0 : 0 ≤ r) (h : 0 < bst hd fl (2 * r)) :
    4 * (hd - bst hd fl r) ≤ hd - bst hd fl (2 * r) ∧ hd - bst hd fl (2 * r) ≤ 4 * (hd - bst hd fl r) + 3 := by
  have e : fl * (2 * r) * (2 * r) = 4 * (fl * r * r) := by
    rw [show fl * (2 * r) = 2 * (fl * r) from Int.mul_left_comm _ _ _, Int.mul_left_comm _ 2 r, Int.mul_assoc 2 (fl * r) r]; omega
  have k0 : 0 ≤ fl * r * r := Int.mul_nonneg (Int.mul_nonneg f0 r0) r0
  unfold bst at h ⊢
  simp only [e] at h ⊢
  omega

set_option maxHeartbeats 2000000 in
theorem StationScales_law (a : Option Addr) (len cap : Nat) (x : Int) (w : World) (h : ArgInts w a len cap) (x0 : 0 ≤ x) (x1 : x ≤ 65535) :
    Calls Try.prog 9 #[.slice a len cap, .int .u16 x] w (Ret (.bool true) w) := by
  have hz : (⟨#[115, 97]⟩ : ByteArray).size ≤ 140737488351232 := by decide
  go_enter Try.func9, Try.ntmps9
  go_wp2_with fail
  refine (New_any _ _ _ _ h).mono ?_
  rintro e w1 ⟨bs, rfl, hs1, k1⟩
  have k1_c := (kcell k1).1; have k1_f := (kcell k1).2; have k1_z := k1.size; try simp only [World.size_alloc, World.size_setCell, World.size_drew, size_drewN] at k1_c k1_f k1_z
  have hlt := hs1.lt
  go_wp2_with fail
  refine (made_ok _ _ bs hs1).mono ?_
  rintro e w2 ⟨nd, hd, fl, su, ho, rfl, hs2, k2⟩
  have kk2 : Kept w w2 := Only.kept k1 k2 hlt.1
  have k2_c := (ocell k2).1; have k2_f := (ocell k2).2; have k2_z := k2.size; try simp only [World.size_alloc, World.size_setCell, World.size_drew, size_drewN] at k2_c k2_f k2_z
  have ho2 := ho
  obtain ⟨_, _, hd0, fl0, _⟩ := ho
  have ho := Lib.hid ho2
  clear ho2
  have g1 := bst_nonneg hd fl (x % 16001)
  have g2 := bst_nonneg hd fl (2 * (x % 16001))
  have g3 := bst_le hd fl (x % 16001) hd0.1 fl0.1 (by omega)
  have g4 := bst_le hd fl (2 * (x % 16001)) hd0.1 fl0.1 (by omega)
  have tw := bst_twice hd fl (x % 16001) fl0.1 (by omega)
  have TW := Lib.hid tw
  clear tw
  have e1 : IntKind.i64.wrap (hd - bst hd fl (x % 16001)) = hd - bst hd fl (x % 16001) := IntWalk.i64_in _ (by omega)
  have e2 : IntKind.i64.wrap (hd - bst hd fl (2 * (x % 16001))) = hd - bst hd fl (2 * (x % 16001)) := IntWalk.i64_in _ (by omega)
  have E1 := Lib.hid e1
  have E2 := Lib.hid e2
  clear e1 e2
  by_cases hb0 : bst hd fl (2 * (x % 16001)) = 0
  · have q0 : (bst hd fl (2 * (x % 16001)) == 0) = true := by rw [hb0]; rfl
    clear hb0 g2 g4 E1 E2 TW
    go_wp2_with fail
    refine (Boost_in _ _ _ _ _ _ _ hz ho.out (by omega) (by omega)).mono ?_
    rintro e v1 ⟨rfl, c1⟩
    have c1_c := (kcell c1).1; have c1_f := (kcell c1).2; have c1_z := c1.size; try simp only [World.size_alloc, World.size_setCell, World.size_drew, size_drewN] at c1_c c1_f c1_z
    go_wp2_with fail
    refine (Boost_in _ _ _ _ _ _ _ hz ho.out (by omega) (by omega)).mono ?_
    rintro e v2 ⟨rfl, c2⟩
    have c2_c := (kcell c2).1; have c2_f := (kcell c2).2; have c2_z := c2.size; try simp only [World.size_alloc, World.size_setCell, World.size_drew, size_drewN] at c2_c c2_f c2_z
    go_wp2_with fail
    refine (stnAwake _).mono ?_
    rintro e v4 ⟨rfl, c4⟩
    go_wp2
    go_ret
    exact ⟨rfl, (by repeat (first | (with_reducible exact Kept.refl _) | (with_reducible assumption) | (with_reducible refine Kept.alloc ?_ _) | (with_reducible refine Kept.drew ?_) | (with_reducible refine Kept.drewN ?_ _) | (with_reducible refine Kept.setCell ?_ ?_ _) | (with_reducible refine Kept.trans ?_ (by with_reducible assumption)) | (simp only [World.size_alloc, World.size_setCell, World.size_drew, size_drewN]; omega) | omega | (dsimp only; omega)))⟩
  · have q0 : (bst hd fl (2 * (x % 16001)) == 0) = false := by rw [beq_eq_false_iff_ne]; exact hb0
    obtain ⟨t1, t2⟩ := TW.out (by omega)
    clear hb0
    go_wp2_with fail
    refine (Boost_in _ _ _ _ _ _ _ hz ho.out (by omega) (by omega)).mono ?_
    rintro e v1 ⟨rfl, c1⟩
    have c1_c := (kcell c1).1; have c1_f := (kcell c1).2; have c1_z := c1.size; try simp only [World.size_alloc, World.size_setCell, World.size_drew, size_drewN] at c1_c c1_f c1_z
    go_wp2_with fail
    refine (Boost_in _ _ _ _ _ _ _ hz ho.out (by omega) (by omega)).mono ?_
    rintro e v2 ⟨rfl, c2⟩
    have c2_c := (kcell c2).1; have c2_f := (kcell c2).2; have c2_z := c2.size; try simp only [World.size_alloc, World.size_setCell, World.size_drew, size_drewN] at c2_c c2_f c2_z
    go_wp2_with fail
    have e1 := E1.out
    have e2 := E2.out
    go_quiet (fail)
    clear e1 e2
    go_wp2_with fail
    refine (stnAwake _).mono ?_
    rintro e v4 ⟨rfl, c4⟩
    go_wp2
    go_ret
    exact ⟨rfl, (by repeat (first | (with_reducible exact Kept.refl _) | (with_reducible assumption) | (with_reducible refine Kept.alloc ?_ _) | (with_reducible refine Kept.drew ?_) | (with_reducible refine Kept.drewN ?_ _) | (with_reducible refine Kept.setCell ?_ ?_ _) | (with_reducible refine Kept.trans ?_ (by with_reducible assumption)) | (simp only [World.size_alloc, World.size_setCell, World.size_drew, size_drewN]; omega) | omega | (dsimp only; omega)))⟩

abbrev bnd (lo hi : Int) : Value := .agg #[.int .i64 lo, .int .i64 hi]
def RetBE (lo hi e' : Int) (w : World) (e : Ending) (w' : World) : Prop := Ret (.tuple #[bnd lo hi, .int .i64 e']) w e w'
def bOk (lo hi : Int) : Prop := lo ≤ hi ∧ -1125899906842624 ≤ lo ∧ hi ≤ 1125899906842624
instance (lo hi : Int) : Decidable (bOk lo hi) := by unfold bOk; infer_instance

theorem bst_top (hd fl r : Int) (h : 0 ≤ hd) (h1 : hd ≤ 100000000) (f0 : 0 ≤ fl) (r0 : 0 ≤ r) : 0 ≤ bst hd fl r ∧ bst hd fl r ≤ 100000000 := by
  have := bst_le hd fl r h f0 r0
  have := bst_nonneg hd fl r
  omega

set_option maxHeartbeats 1000000 in
theorem Raise_in (s : ByteArray) (nd hd fl su lo hi r : Int) (w : World) (hs : s.size ≤ 140737488351232) (h : sOk s nd hd fl su) (r0 : 0 ≤ r) (r1 : r ≤ 32000) (hb : bOk lo hi) :
    Calls Try.prog 36 #[stn s nd hd fl su, bnd lo hi, .int .i64 r] w (RetBE (lo + bst hd fl r) (hi + bst hd fl r) 0 w) := by
  obtain ⟨b1, b2, b3⟩ := hb
  obtain ⟨_, _, hd0, fl0, _⟩ := id h
  have tp := bst_top hd fl r hd0.1 hd0.2 fl0.1 r0
  have h := Lib.hid h
  go_enter Try.func36, Try.ntmps36
  go_wp2_with fail
  refine (Boost_in _ _ _ _ _ _ _ hs h.out r0 r1).mono ?_
  rintro e w1 ⟨rfl, k1⟩
  have k1_c := (kcell k1).1; have k1_f := (kcell k1).2; have k1_z := k1.size; try simp only [World.size_alloc, World.size_setCell, World.size_drew, size_drewN] at k1_c k1_f k1_z
  go_wp2
  refine bodyPost_ret (v := .tuple #[bnd (lo + bst hd fl r) (hi + bst hd fl r), .int .i64 0]) (by simp [results, Try.results36, go_sem, ↓IntWalk.iteOmega, k1_c]) rfl ⟨rfl, (by repeat (first | (with_reducible exact Kept.refl _) | (with_reducible assumption) | (with_reducible refine Kept.alloc ?_ _) | (with_reducible refine Kept.drew ?_) | (with_reducible refine Kept.drewN ?_ _) | (with_reducible refine Kept.setCell ?_ ?_ _) | (with_reducible refine Kept.trans ?_ (by with_reducible assumption)) | (simp only [World.size_alloc, World.size_setCell, World.size_drew, size_drewN]; omega) | omega | (dsimp only; omega)))⟩

set_option maxHeartbeats 400000 in
theorem Proper_in (lo hi : Int) (w : World) (hb : bOk lo hi) :
    Calls Try.prog 38 #[bnd lo hi] w (Ret (.bool true) w) := by
  obtain ⟨b1, b2, b3⟩ := hb
  go_enter Try.func38, Try.ntmps38
  go_wp2
  go_ret
  exact ⟨ret_b (by simp; try omega), (by repeat (first | (with_reducible exact Kept.refl _) | (with_reducible assumption) | (with_reducible refine Kept.alloc ?_ _) | (with_reducible refine Kept.drew ?_) | (with_reducible refine Kept.drewN ?_ _) | (with_reducible refine Kept.setCell ?_ ?_ _) | (with_reducible refine Kept.trans ?_ (by with_reducible assumption)) | (simp only [World.size_alloc, World.size_setCell, World.size_drew, size_drewN]; omega) | omega | (dsimp only; omega)))⟩

set_option maxHeartbeats 2000000 in
theorem StationRaises_law (a : Option Addr) (len cap : Nat) (x lo mo : Int) (w : World) (h : ArgInts w a len cap) (x0 : 0 ≤ x) (x1 : x ≤ 65535) (l0 : -2147483648 ≤ lo) (l1 : lo ≤ 2147483647) (m0 : 0 ≤ mo) (m1 : mo ≤ 65535) :
    Calls Try.prog 11 #[.slice a len cap, .int .u16 x, .int .i32 lo, .int .u16 mo] w (Ret (.bool true) w) := by
  have hz : (⟨#[115, 97]⟩ : ByteArray).size ≤ 140737488351232 := by decide
  go_enter Try.func11, Try.ntmps11
  go_wp2_with fail
  refine (New_any _ _ _ _ h).mono ?_
  rintro e w1 ⟨bs, rfl, hs1, k1⟩
  have k1_c := (kcell k1).1; have k1_f := (kcell k1).2; have k1_z := k1.size; try simp only [World.size_alloc, World.size_setCell, World.size_drew, size_drewN] at k1_c k1_f k1_z
  have hlt := hs1.lt
  go_wp2_with fail
  refine (made_ok _ _ bs hs1).mono ?_
  rintro e w2 ⟨nd, hd, fl, su, ho, rfl, hs2, k2⟩
  have kk2 : Kept w w2 := Only.kept k1 k2 hlt.1
  have k2_c := (ocell k2).1; have k2_f := (ocell k2).2; have k2_z := k2.size; try simp only [World.size_alloc, World.size_setCell, World.size_drew, size_drewN] at k2_c k2_f k2_z
  have ho2 := ho
  obtain ⟨_, _, hd0, fl0, _⟩ := ho
  have ho := Lib.hid ho2
  clear ho2
  have tp := bst_top hd fl (x % 32001) hd0.1 hd0.2 fl0.1 (by omega)
  go_wp2_with fail
  refine (Boost_in _ _ _ _ _ _ _ hz ho.out (by omega) (by omega)).mono ?_
  rintro e v1 ⟨rfl, c1⟩
  have c1_c := (kcell c1).1; have c1_f := (kcell c1).2; have c1_z := c1.size; try simp only [World.size_alloc, World.size_setCell, World.size_drew, size_drewN] at c1_c c1_f c1_z
  go_wp2_with fail
  refine (Raise_in _ _ _ _ _ _ _ _ _ hz ho.out (by omega) (by omega) ⟨by omega, by omega, by omega⟩).mono ?_
  rintro e v2 ⟨rfl, c2⟩
  have c2_c := (kcell c2).1; have c2_f := (kcell c2).2; have c2_z := c2.size; try simp only [World.size_alloc, World.size_setCell, World.size_drew, size_drewN] at c2_c c2_f c2_z
  go_wp2_with fail
  refine (Proper_in _ _ _ ⟨by omega, by omega, by omega⟩).mono ?_
  rintro e v3 ⟨rfl, c3⟩
  have c3_c := (kcell c3).1; have c3_f := (kcell c3).2; have c3_z := c3.size; try simp only [World.size_alloc, World.size_setCell, World.size_drew, size_drewN] at c3_c c3_f c3_z
  go_wp2_with fail
  refine (stnAwake _).mono ?_
  rintro e v4 ⟨rfl, c4⟩
  go_wp2
  go_ret
  exact ⟨rfl, (by repeat (first | (with_reducible exact Kept.refl _) | (with_reducible assumption) | (with_reducible refine Kept.alloc ?_ _) | (with_reducible refine Kept.drew ?_) | (with_reducible refine Kept.drewN ?_ _) | (with_reducible refine Kept.setCell ?_ ?_ _) | (with_reducible refine Kept.trans ?_ (by with_reducible assumption)) | (simp only [World.size_alloc, World.size_setCell, World.size_drew, size_drewN]; omega) | omega | (dsimp only; omega)))⟩
end Go.Proofs.Ytbodabbgcbjkcaa
