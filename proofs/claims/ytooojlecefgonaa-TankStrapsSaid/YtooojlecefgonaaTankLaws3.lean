/- The walk of TankRoom. -/
import Derived.Test.YtooojlecefgonaaTankLaws2
namespace Go.Proofs.Ytooojlecefgonaa
open Go.RowKit
set_option linter.unusedVariables false
set_option linter.unusedSimpArgs false

set_option maxRecDepth 100000 in
set_option maxHeartbeats 1200000 in
theorem TankRoom_law (a : Option Addr) (len cap : Nat) (x y : Int) (w : World) (h : ArgInts w a len cap) (x0 : 0 ≤ x) (x1 : x ≤ 65535) (y0 : 0 ≤ y) (y1 : y ≤ 65535) :
    Calls Try.prog 8 #[.slice a len cap, .int .u16 x, .int .u16 y] w (Ret (.bool true) w) := by
  go_enter Try.func8, Try.ntmps8
  go_wp2_with fail
  refine (New_any _ _ _ _ h).mono ?_
  rintro e w1 ⟨bs, rfl, hs1, k1⟩
  have hlt := hs1.lt
  go_wp2_with fail
  refine (Tank_any _ _ bs hs1).mono ?_
  rintro e v2 ⟨nm, ta, tl, tc, lo, hi, l, hok, nz, l6, rfl, hS, s2, o2⟩
  have kw2 : Kept w v2 := Only.kept k1 o2 hlt.1
  clear h k1 o2 s2 hs1 l6
  have hll := hS.1
  have hmax := hS.2.2.1
  have hcap := hS.2.1
  unfold maxLen at hmax
  have ht := straps_of hok
  have h2 := ht.two
  obtain ⟨hlo, hhi, hlh⟩ := tok_in hok
  obtain ⟨n, rfl⟩ : ∃ n, tl = n + 1 := ⟨tl - 1, by omega⟩
  have hn1 : 1 ≤ n := by omega
  have hn2 : n ≤ 15 := by have := ht.most; omega
  obtain ⟨b, o, rfl, hbw, _⟩ := ends_at hS (Kept.refl v2)
  obtain ⟨e1, e2, ⟨⟨n1, n2⟩, n3, n4⟩, ⟨⟨m1, m2⟩, m3, m4⟩⟩ := ends_lt ht
  have HS := Lib.hid hS
  have HT := Lib.hid ht
  have HO := Lib.hid hok
  have HLL := Lib.hid hll
  clear hS ht hok hll h2
  have bT : Box (v2.alloc (Obj.cells #[.string nm, .slice (some ⟨b, o, none⟩) (n + 1) tc, .int .i64 lo, .int .i64 hi] 26)) v2.heap.size #[.string nm, .slice (some ⟨b, o, none⟩) (n + 1) tc, .int .i64 lo, .int .i64 hi] := Box.new rfl
  go_upto_region 2 with fail
  go_cut [8, 9] (fun p q wx => p = .int .i64 (fst l).lv ∧ q = .int .i64 (lst l).lv ∧ Box wx v2.heap.size #[.string nm, .slice (some ⟨b, o, none⟩) (n + 1) tc, .int .i64 lo, .int .i64 hi] ∧ Kept v2 wx)
  case first =>
    obtain ⟨b', o', ea, _, d0, d1, d2, d3⟩ := ends_at HS.out (Kept.refl v2)
    obtain ⟨rfl, rfl⟩ : b' = b ∧ o' = o := by injection ea with ea; injection ea with e1 e2 _; exact ⟨e1.symm, e2.symm⟩
    clear ea
    have g1 : IntKind.i64.wrap ((n : Int) + 1 - 1) = n := by rw [show (n : Int) + 1 - 1 = n by omega]; exact IntWalk.i64_in _ (by omega)
    have g2 : (n : Int) < (n : Int) + 1 := by omega
    have g3 : (0 : Int) < (n : Int) + 1 := by omega
    generalize fst l = A at *
    generalize lst l = B at *
    obtain ⟨A1, V1⟩ := A
    obtain ⟨A2, V2⟩ := B
    dsimp only at d0 d1 d2 d3
    go_quiet (fail)
    go_wp2
    go_meet
    exact ⟨rfl, rfl, (by repeat (first | (with_reducible assumption) | (with_reducible apply Box.new; first | (with_reducible rfl) | omega | (simp only [World.size_alloc, World.size_setCell, World.size_drew, size_drewN] <;> omega)) | (with_reducible apply Box.old) | (with_reducible apply Box.drew) | (with_reducible apply Box.drewN) | (with_reducible apply Box.set) | (with_reducible apply Box.other) | (with_reducible apply Box.only_ (by with_reducible assumption)) | (with_reducible apply Box.kept_ (by with_reducible assumption)) | (simp only [World.size_alloc, World.size_setCell, World.size_drew, size_drewN]; omega) | omega | (dsimp only; omega) | rfl | (simp; done))), (by repeat (first | (with_reducible exact Kept.refl _) | (with_reducible assumption) | (with_reducible refine Kept.alloc ?_ _) | (with_reducible refine Kept.drew ?_) | (with_reducible refine Kept.drewN ?_ _) | (with_reducible refine Kept.setCell ?_ ?_ _) | (with_reducible refine Kept.trans ?_ (by with_reducible assumption)) | (simp only [World.size_alloc, World.size_setCell, World.size_drew, size_drewN]; omega) | omega | (dsimp only; omega)))⟩
  case rest =>
    clear bT
    obtain ⟨rfl, rfl, bT, kw3⟩ := hcut
    go_upto_region 3 with fail
    have fT := bT.cell
    have lT := bT.lt
    go_cut [10, 11] (fun s t wx => ∃ X Y : Int, s = .int .i64 X ∧ t = .int .i64 Y ∧ (lo ≤ X ∧ X ≤ hi) ∧ InL l Y ∧ Box wx v2.heap.size #[.string nm, .slice (some ⟨b, o, none⟩) (n + 1) tc, .int .i64 lo, .int .i64 hi] ∧ Kept v2 wx)
    case first =>
      have qy := mod_in HT.out (x := y)
      have QY := Lib.hid qy
      have r0 := Int.emod_nonneg x (show hi - lo + 1 ≠ 0 by omega)
      have r1 := Int.emod_lt_of_pos x (show 0 < hi - lo + 1 by omega)
      obtain ⟨qy1, qy2⟩ := qy
      obtain ⟨l1, l2⟩ := hlo
      obtain ⟨h1, h2⟩ := hhi
      generalize (fst l).lv = A1 at *
      generalize (lst l).lv = A2 at *
      have w1' : IntKind.i64.wrap (hi - lo) = hi - lo := IntWalk.i64_in _ (by omega)
      have w2' : IntKind.i64.wrap (hi - lo + 1) = hi - lo + 1 := IntWalk.i64_in _ (by omega)
      have w3' : x.tmod (hi - lo + 1) = x % (hi - lo + 1) := Int.tmod_eq_emod_of_nonneg x0
      have w4' : IntKind.i64.wrap (x % (hi - lo + 1)) = x % (hi - lo + 1) := IntWalk.i64_in _ (by omega)
      have w5' : IntKind.i64.wrap (lo + x % (hi - lo + 1)) = lo + x % (hi - lo + 1) := IntWalk.i64_in _ (by omega)
      have w6' : (hi - lo + 1 == 0) = false := by rw [beq_eq_false_iff_ne]; omega
      have w7' : IntKind.i64.wrap x = x := IntWalk.i64_in _ (by omega)
      have y1' : IntKind.i64.wrap (A2 - A1) = A2 - A1 := IntWalk.i64_in _ (by omega)
      have y2' : IntKind.i64.wrap (A2 - A1 + 1) = A2 - A1 + 1 := IntWalk.i64_in _ (by omega)
      have y3' : y.tmod (A2 - A1 + 1) = y % (A2 - A1 + 1) := Int.tmod_eq_emod_of_nonneg y0
      have y4' : IntKind.i64.wrap (y % (A2 - A1 + 1)) = y % (A2 - A1 + 1) := IntWalk.i64_in _ (by omega)
      have y5' : IntKind.i64.wrap (A1 + y % (A2 - A1 + 1)) = A1 + y % (A2 - A1 + 1) := IntWalk.i64_in _ (by omega)
      have y6' : (A2 - A1 + 1 == 0) = false := by rw [beq_eq_false_iff_ne]; omega
      have y7' : IntKind.i64.wrap y = y := IntWalk.i64_in _ (by omega)
      have rr : lo ≤ lo + x % (hi - lo + 1) ∧ lo + x % (hi - lo + 1) ≤ hi := ⟨by omega, by omega⟩
      have RR := Lib.hid rr
      clear rr
      go_quiet (fail)
      go_wp2
      go_meet
      exact ⟨_, _, rfl, rfl, RR.out, QY.out, (by repeat (first | (with_reducible assumption) | (with_reducible apply Box.new; first | (with_reducible rfl) | omega | (simp only [World.size_alloc, World.size_setCell, World.size_drew, size_drewN] <;> omega)) | (with_reducible apply Box.old) | (with_reducible apply Box.drew) | (with_reducible apply Box.drewN) | (with_reducible apply Box.set) | (with_reducible apply Box.other) | (with_reducible apply Box.only_ (by with_reducible assumption)) | (with_reducible apply Box.kept_ (by with_reducible assumption)) | (simp only [World.size_alloc, World.size_setCell, World.size_drew, size_drewN]; omega) | omega | (dsimp only; omega) | rfl | (simp; done))), (by repeat (first | (with_reducible exact Kept.refl _) | (with_reducible assumption) | (with_reducible refine Kept.alloc ?_ _) | (with_reducible refine Kept.drew ?_) | (with_reducible refine Kept.drewN ?_ _) | (with_reducible refine Kept.setCell ?_ ?_ _) | (with_reducible refine Kept.trans ?_ (by with_reducible assumption)) | (simp only [World.size_alloc, World.size_setCell, World.size_drew, size_drewN]; omega) | omega | (dsimp only; omega)))⟩
    case rest =>
      clear bT kw3 fT lT
      obtain ⟨X, Y, rfl, rfl, hX, hY, bT, kw3⟩ := hcut
      have fT := bT.cell
      have lT := bT.lt
      have hXin : InL l X := by unfold InL at *; omega
      have HR := Lib.hid (fun W k => Room_good X nz (HS.out.kept StrapR.stays (w' := W) k) HO.out hXin)
      have HA := Lib.hid (fun W k => Avail_good X nz (HS.out.kept StrapR.stays (w' := W) k) HO.out hXin)
      have HL := Lib.hid (fun W k => Volume_good lo nz (HS.out.kept StrapR.stays (w' := W) k) HO.out hlo)
      have HH := Lib.hid (fun W k => Volume_good hi nz (HS.out.kept StrapR.stays (w' := W) k) HO.out hhi)
      have HR2 := Lib.hid (fun W k => Room_good Y nz (HS.out.kept StrapR.stays (w' := W) k) HO.out hY)
      have HA2 := Lib.hid (fun W k => Avail_good Y nz (HS.out.kept StrapR.stays (w' := W) k) HO.out hY)
      have m1' := vol_mono HT.out hlo hXin hX.1
      have m2' := vol_mono HT.out hXin hhi hX.2
      have n1' := vol_num HT.out hlo
      have n2' := vol_num HT.out hhi
      have n3' := vol_num HT.out hY
      clear hlo hhi hXin hX hY
      generalize vol l lo = VL at *
      generalize vol l hi = VH at *
      generalize vol l X = VX at *
      generalize vol l Y = VY at *
      have a1 : max 0 (VH - VX) = VH - VX := by omega
      have a2 : max 0 (VX - VL) = VX - VL := by omega
      have a3 : 0 ≤ max 0 (VH - VY) := by omega
      have a4 : 0 ≤ max 0 (VY - VL) := by omega
      rw [a1] at HR
      rw [a2] at HA
      generalize max 0 (VH - VY) = R2 at *
      generalize max 0 (VY - VL) = A2 at *
      clear a1 a2
      have s1 : IntKind.i64.wrap (VH - VX + (VX - VL)) = VH - VL := by rw [show VH - VX + (VX - VL) = VH - VL by omega]; exact IntWalk.i64_in _ (by omega)
      have s2 : IntKind.i64.wrap (VH - VL) = VH - VL := IntWalk.i64_in _ (by omega)
      go_wp2_with fail
      refine (HR.out _ (by repeat (first | (with_reducible exact Kept.refl _) | (with_reducible assumption) | (with_reducible refine Kept.alloc ?_ _) | (with_reducible refine Kept.drew ?_) | (with_reducible refine Kept.drewN ?_ _) | (with_reducible refine Kept.setCell ?_ ?_ _) | (with_reducible refine Kept.trans ?_ (by with_reducible assumption)) | (simp only [World.size_alloc, World.size_setCell, World.size_drew, size_drewN]; omega) | omega | (dsimp only; omega)))).mono ?_
      rintro e v4 ⟨rfl, c4⟩
      have c4_c := (kcell c4).1; have c4_f := (kcell c4).2; have c4_z := c4.size; try simp only [World.size_alloc, World.size_setCell, World.size_drew, size_drewN] at c4_c c4_f c4_z
      go_wp2_with fail
      refine (HA.out _ (by repeat (first | (with_reducible exact Kept.refl _) | (with_reducible assumption) | (with_reducible refine Kept.alloc ?_ _) | (with_reducible refine Kept.drew ?_) | (with_reducible refine Kept.drewN ?_ _) | (with_reducible refine Kept.setCell ?_ ?_ _) | (with_reducible refine Kept.trans ?_ (by with_reducible assumption)) | (simp only [World.size_alloc, World.size_setCell, World.size_drew, size_drewN]; omega) | omega | (dsimp only; omega)))).mono ?_
      rintro e v5 ⟨rfl, c5⟩
      have c5_c := (kcell c5).1; have c5_f := (kcell c5).2; have c5_z := c5.size; try simp only [World.size_alloc, World.size_setCell, World.size_drew, size_drewN] at c5_c c5_f c5_z
      go_wp2_with fail
      refine (HL.out _ (by repeat (first | (with_reducible exact Kept.refl _) | (with_reducible assumption) | (with_reducible refine Kept.alloc ?_ _) | (with_reducible refine Kept.drew ?_) | (with_reducible refine Kept.drewN ?_ _) | (with_reducible refine Kept.setCell ?_ ?_ _) | (with_reducible refine Kept.trans ?_ (by with_reducible assumption)) | (simp only [World.size_alloc, World.size_setCell, World.size_drew, size_drewN]; omega) | omega | (dsimp only; omega)))).mono ?_
      rintro e v6 ⟨rfl, c6⟩
      have c6_c := (kcell c6).1; have c6_f := (kcell c6).2; have c6_z := c6.size; try simp only [World.size_alloc, World.size_setCell, World.size_drew, size_drewN] at c6_c c6_f c6_z
      go_wp2_with fail
      refine (HH.out _ (by repeat (first | (with_reducible exact Kept.refl _) | (with_reducible assumption) | (with_reducible refine Kept.alloc ?_ _) | (with_reducible refine Kept.drew ?_) | (with_reducible refine Kept.drewN ?_ _) | (with_reducible refine Kept.setCell ?_ ?_ _) | (with_reducible refine Kept.trans ?_ (by with_reducible assumption)) | (simp only [World.size_alloc, World.size_setCell, World.size_drew, size_drewN]; omega) | omega | (dsimp only; omega)))).mono ?_
      rintro e v7 ⟨rfl, c7⟩
      have c7_c := (kcell c7).1; have c7_f := (kcell c7).2; have c7_z := c7.size; try simp only [World.size_alloc, World.size_setCell, World.size_drew, size_drewN] at c7_c c7_f c7_z
      go_wp2_with fail
      refine (HR2.out _ (by repeat (first | (with_reducible exact Kept.refl _) | (with_reducible assumption) | (with_reducible refine Kept.alloc ?_ _) | (with_reducible refine Kept.drew ?_) | (with_reducible refine Kept.drewN ?_ _) | (with_reducible refine Kept.setCell ?_ ?_ _) | (with_reducible refine Kept.trans ?_ (by with_reducible assumption)) | (simp only [World.size_alloc, World.size_setCell, World.size_drew, size_drewN]; omega) | omega | (dsimp only; omega)))).mono ?_
      rintro e v8 ⟨rfl, c8⟩
      have c8_c := (kcell c8).1; have c8_f := (kcell c8).2; have c8_z := c8.size; try simp only [World.size_alloc, World.size_setCell, World.size_drew, size_drewN] at c8_c c8_f c8_z
      go_wp2_with fail
      refine (HA2.out _ (by repeat (first | (with_reducible exact Kept.refl _) | (with_reducible assumption) | (with_reducible refine Kept.alloc ?_ _) | (with_reducible refine Kept.drew ?_) | (with_reducible refine Kept.drewN ?_ _) | (with_reducible refine Kept.setCell ?_ ?_ _) | (with_reducible refine Kept.trans ?_ (by with_reducible assumption)) | (simp only [World.size_alloc, World.size_setCell, World.size_drew, size_drewN]; omega) | omega | (dsimp only; omega)))).mono ?_
      rintro e v9 ⟨rfl, c9⟩
      have c9_c := (kcell c9).1; have c9_f := (kcell c9).2; have c9_z := c9.size; try simp only [World.size_alloc, World.size_setCell, World.size_drew, size_drewN] at c9_c c9_f c9_z
      go_wp2_with fail
      refine (tankAwake _).mono ?_
      rintro e v10 ⟨rfl, c10⟩
      have c10_c := (kcell c10).1; have c10_f := (kcell c10).2; have c10_z := c10.size; try simp only [World.size_alloc, World.size_setCell, World.size_drew, size_drewN] at c10_c c10_f c10_z
      go_wp2
      go_ret
      exact ⟨rfl, kw2.trans (by repeat (first | (with_reducible exact Kept.refl _) | (with_reducible assumption) | (with_reducible refine Kept.alloc ?_ _) | (with_reducible refine Kept.drew ?_) | (with_reducible refine Kept.drewN ?_ _) | (with_reducible refine Kept.setCell ?_ ?_ _) | (with_reducible refine Kept.trans ?_ (by with_reducible assumption)) | (simp only [World.size_alloc, World.size_setCell, World.size_drew, size_drewN]; omega) | omega | (dsimp only; omega)))⟩
end Go.Proofs.Ytooojlecefgonaa
