/- The walks of TankRises and TankRoom. -/
import Derived.Test.YtooojlecefgonaaTankLaws
namespace Go.Proofs.Ytooojlecefgonaa
open Go.RowKit
set_option linter.unusedVariables false
set_option linter.unusedSimpArgs false

/-- A level drawn from a number. -/
theorem mod_in {l : List Strap} (h : Straps l) {x : Int} : InL l ((fst l).lv + x % ((lst l).lv - (fst l).lv + 1)) := by
  have e := (ends_lt h).1
  have q0 := Int.emod_nonneg x (show (lst l).lv - (fst l).lv + 1 ≠ 0 by omega)
  have q1 := Int.emod_lt_of_pos x (show 0 < (lst l).lv - (fst l).lv + 1 by omega)
  exact ⟨by omega, by omega⟩

set_option maxRecDepth 100000 in
set_option maxHeartbeats 1200000 in
theorem TankRises_law (a : Option Addr) (len cap : Nat) (x y : Int) (w : World) (h : ArgInts w a len cap) (x0 : 0 ≤ x) (x1 : x ≤ 65535) (y0 : 0 ≤ y) (y1 : y ≤ 65535) :
    Calls Try.prog 4 #[.slice a len cap, .int .u16 x, .int .u16 y] w (Ret (.bool true) w) := by
  go_enter Try.func4, Try.ntmps4
  go_wp2_with fail
  refine (New_any _ _ _ _ h).mono ?_
  rintro e w1 ⟨bs, rfl, hs1, k1⟩
  have hlt := hs1.lt
  go_wp2_with fail
  refine (Tank_any _ _ bs hs1).mono ?_
  rintro e v2 ⟨nm, ta, tl, tc, lo, hi, l, hok, nz, l6, rfl, hS, s2, o2⟩
  have kw2 : Kept w v2 := Only.kept k1 o2 hlt.1
  clear h k1 o2 s2 hs1 l6
  have hll := hS.1
  have hmax := hS.2.2.1
  have hcap := hS.2.1
  unfold maxLen at hmax
  have ht := straps_of hok
  have h2 := ht.two
  obtain ⟨n, rfl⟩ : ∃ n, tl = n + 1 := ⟨tl - 1, by omega⟩
  have hn1 : 1 ≤ n := by omega
  have hn2 : n ≤ 15 := by have := ht.most; omega
  obtain ⟨b, o, rfl, hbw, _⟩ := ends_at hS (Kept.refl v2)
  obtain ⟨e1, e2, ⟨⟨n1, n2⟩, n3, n4⟩, ⟨⟨m1, m2⟩, m3, m4⟩⟩ := ends_lt ht
  have HS := Lib.hid hS
  have HT := Lib.hid ht
  have HO := Lib.hid hok
  have HLL := Lib.hid hll
  clear hS ht hok hll h2
  have bT : Box (v2.alloc (Obj.cells #[.string nm, .slice (some ⟨b, o, none⟩) (n + 1) tc, .int .i64 lo, .int .i64 hi] 26)) v2.heap.size #[.string nm, .slice (some ⟨b, o, none⟩) (n + 1) tc, .int .i64 lo, .int .i64 hi] := Box.new rfl
  go_upto_region 2 with fail
  go_cut [8, 9] (fun p q wx => p = .int .i64 (fst l).lv ∧ q = .int .i64 (lst l).lv ∧ Box wx v2.heap.size #[.string nm, .slice (some ⟨b, o, none⟩) (n + 1) tc, .int .i64 lo, .int .i64 hi] ∧ Kept v2 wx)
  case first =>
    obtain ⟨b', o', ea, _, d0, d1, d2, d3⟩ := ends_at HS.out (Kept.refl v2)
    obtain ⟨rfl, rfl⟩ : b' = b ∧ o' = o := by injection ea with ea; injection ea with e1 e2 _; exact ⟨e1.symm, e2.symm⟩
    clear ea
    have g1 : IntKind.i64.wrap ((n : Int) + 1 - 1) = n := by rw [show (n : Int) + 1 - 1 = n by omega]; exact IntWalk.i64_in _ (by omega)
    have g2 : (n : Int) < (n : Int) + 1 := by omega
    have g3 : (0 : Int) < (n : Int) + 1 := by omega
    generalize fst l = A at *
    generalize lst l = B at *
    obtain ⟨A1, V1⟩ := A
    obtain ⟨A2, V2⟩ := B
    dsimp only at d0 d1 d2 d3
    go_quiet (fail)
    go_wp2
    go_meet
    exact ⟨rfl, rfl, (by repeat (first | (with_reducible assumption) | (with_reducible apply Box.new; first | (with_reducible rfl) | omega | (simp only [World.size_alloc, World.size_setCell, World.size_drew, size_drewN] <;> omega)) | (with_reducible apply Box.old) | (with_reducible apply Box.drew) | (with_reducible apply Box.drewN) | (with_reducible apply Box.set) | (with_reducible apply Box.other) | (with_reducible apply Box.only_ (by with_reducible assumption)) | (with_reducible apply Box.kept_ (by with_reducible assumption)) | (simp only [World.size_alloc, World.size_setCell, World.size_drew, size_drewN]; omega) | omega | (dsimp only; omega) | rfl | (simp; done))), (by repeat (first | (with_reducible exact Kept.refl _) | (with_reducible assumption) | (with_reducible refine Kept.alloc ?_ _) | (with_reducible refine Kept.drew ?_) | (with_reducible refine Kept.drewN ?_ _) | (with_reducible refine Kept.setCell ?_ ?_ _) | (with_reducible refine Kept.trans ?_ (by with_reducible assumption)) | (simp only [World.size_alloc, World.size_setCell, World.size_drew, size_drewN]; omega) | omega | (dsimp only; omega)))⟩
  case rest =>
    clear bT
    obtain ⟨rfl, rfl, bT, kw3⟩ := hcut
    go_upto_region 3 with fail
    go_cut [10, 11] (fun s t wx => ∃ X Y : Int, s = .int .i64 X ∧ t = .int .i64 Y ∧ InL l X ∧ InL l Y ∧ Box wx v2.heap.size #[.string nm, .slice (some ⟨b, o, none⟩) (n + 1) tc, .int .i64 lo, .int .i64 hi] ∧ Kept v2 wx)
    case first =>
      have qx := mod_in HT.out (x := x)
      have qy := mod_in HT.out (x := y)
      have QX := Lib.hid qx
      have QY := Lib.hid qy
      obtain ⟨qx1, qx2⟩ := qx
      obtain ⟨qy1, qy2⟩ := qy
      generalize (fst l).lv = A1 at *
      generalize (lst l).lv = A2 at *
      have w1' : IntKind.i64.wrap (A2 - A1) = A2 - A1 := IntWalk.i64_in _ (by omega)
      have w2' : IntKind.i64.wrap (A2 - A1 + 1) = A2 - A1 + 1 := IntWalk.i64_in _ (by omega)
      have w3' : x.tmod (A2 - A1 + 1) = x % (A2 - A1 + 1) := Int.tmod_eq_emod_of_nonneg x0
      have w4' : IntKind.i64.wrap (x % (A2 - A1 + 1)) = x % (A2 - A1 + 1) := IntWalk.i64_in _ (by omega)
      have w5' : IntKind.i64.wrap (A1 + x % (A2 - A1 + 1)) = A1 + x % (A2 - A1 + 1) := IntWalk.i64_in _ (by omega)
      have w6' : (A2 - A1 + 1 == 0) = false := by rw [beq_eq_false_iff_ne]; omega
      have w7' : IntKind.i64.wrap x = x := IntWalk.i64_in _ (by omega)
      have y3' : y.tmod (A2 - A1 + 1) = y % (A2 - A1 + 1) := Int.tmod_eq_emod_of_nonneg y0
      have y4' : IntKind.i64.wrap (y % (A2 - A1 + 1)) = y % (A2 - A1 + 1) := IntWalk.i64_in _ (by omega)
      have y5' : IntKind.i64.wrap (A1 + y % (A2 - A1 + 1)) = A1 + y % (A2 - A1 + 1) := IntWalk.i64_in _ (by omega)
      have y7' : IntKind.i64.wrap y = y := IntWalk.i64_in _ (by omega)
      go_quiet (fail)
      go_wp2
      go_meet
      exact ⟨_, _, rfl, rfl, QX.out, QY.out, (by repeat (first | (with_reducible assumption) | (with_reducible apply Box.new; first | (with_reducible rfl) | omega | (simp only [World.size_alloc, World.size_setCell, World.size_drew, size_drewN] <;> omega)) | (with_reducible apply Box.old) | (with_reducible apply Box.drew) | (with_reducible apply Box.drewN) | (with_reducible apply Box.set) | (with_reducible apply Box.other) | (with_reducible apply Box.only_ (by with_reducible assumption)) | (with_reducible apply Box.kept_ (by with_reducible assumption)) | (simp only [World.size_alloc, World.size_setCell, World.size_drew, size_drewN]; omega) | omega | (dsimp only; omega) | rfl | (simp; done))), (by repeat (first | (with_reducible exact Kept.refl _) | (with_reducible assumption) | (with_reducible refine Kept.alloc ?_ _) | (with_reducible refine Kept.drew ?_) | (with_reducible refine Kept.drewN ?_ _) | (with_reducible refine Kept.setCell ?_ ?_ _) | (with_reducible refine Kept.trans ?_ (by with_reducible assumption)) | (simp only [World.size_alloc, World.size_setCell, World.size_drew, size_drewN]; omega) | omega | (dsimp only; omega)))⟩
    case rest =>
      clear bT kw3
      obtain ⟨X, Y, rfl, rfl, hX, hY, bT, kw3⟩ := hcut
      have fT := bT.cell
      have lT := bT.lt
      -- the lesser and the greater one
      go_upto_region 4 with fail
      go_cut [12, 13] (fun s t wx => s = .int .i64 (vol l (min X Y)) ∧ t = .int .i64 0 ∧ Kept wc wx)
      case first =>
        have hm : InL l (min X Y) := by unfold InL at *; omega
        have HV := Lib.hid (fun W k => Volume_good (min X Y) nz (HS.out.kept StrapR.stays (w' := W) k) HO.out hm)
        by_cases hxy : Y < X
        · have e : min X Y = Y := by omega
          have E := Lib.hid e
          rw [e] at HV
          clear e
          go_wp2_with fail
          refine (HV.out _ (by repeat (first | (with_reducible exact Kept.refl _) | (with_reducible assumption) | (with_reducible refine Kept.alloc ?_ _) | (with_reducible refine Kept.drew ?_) | (with_reducible refine Kept.drewN ?_ _) | (with_reducible refine Kept.setCell ?_ ?_ _) | (with_reducible refine Kept.trans ?_ (by with_reducible assumption)) | (simp only [World.size_alloc, World.size_setCell, World.size_drew, size_drewN]; omega) | omega | (dsimp only; omega)))).mono ?_
          rintro e v4 ⟨rfl, c4⟩
          go_wp2
          go_meet
          exact ⟨iv (congrArg (vol l) E.out.symm), rfl, (by repeat (first | (with_reducible exact Kept.refl _) | (with_reducible assumption) | (with_reducible refine Kept.alloc ?_ _) | (with_reducible refine Kept.drew ?_) | (with_reducible refine Kept.drewN ?_ _) | (with_reducible refine Kept.setCell ?_ ?_ _) | (with_reducible refine Kept.trans ?_ (by with_reducible assumption)) | (simp only [World.size_alloc, World.size_setCell, World.size_drew, size_drewN]; omega) | omega | (dsimp only; omega)))⟩
        · have e : min X Y = X := by omega
          have E := Lib.hid e
          rw [e] at HV
          clear e
          go_wp2_with fail
          refine (HV.out _ (by repeat (first | (with_reducible exact Kept.refl _) | (with_reducible assumption) | (with_reducible refine Kept.alloc ?_ _) | (with_reducible refine Kept.drew ?_) | (with_reducible refine Kept.drewN ?_ _) | (with_reducible refine Kept.setCell ?_ ?_ _) | (with_reducible refine Kept.trans ?_ (by with_reducible assumption)) | (simp only [World.size_alloc, World.size_setCell, World.size_drew, size_drewN]; omega) | omega | (dsimp only; omega)))).mono ?_
          rintro e v4 ⟨rfl, c4⟩
          go_wp2
          go_meet
          exact ⟨iv (congrArg (vol l) E.out.symm), rfl, (by repeat (first | (with_reducible exact Kept.refl _) | (with_reducible assumption) | (with_reducible refine Kept.alloc ?_ _) | (with_reducible refine Kept.drew ?_) | (with_reducible refine Kept.drewN ?_ _) | (with_reducible refine Kept.setCell ?_ ?_ _) | (with_reducible refine Kept.trans ?_ (by with_reducible assumption)) | (simp only [World.size_alloc, World.size_setCell, World.size_drew, size_drewN]; omega) | omega | (dsimp only; omega)))⟩
      case rest =>
        obtain ⟨rfl, rfl, k4⟩ := hcut
        have bT := bT.kept k4
        have fT := bT.cell
        have lT := bT.lt
        have kw3 := kw3.trans k4
        go_upto_region 5 with fail
        go_cut [14, 15] (fun s t wx => s = .int .i64 (vol l (max X Y)) ∧ t = .int .i64 0 ∧ Kept wc wx)
        case first =>
          have hm : InL l (max X Y) := by unfold InL at *; omega
          have HV := Lib.hid (fun W k => Volume_good (max X Y) nz (HS.out.kept StrapR.stays (w' := W) k) HO.out hm)
          by_cases hxy : X < Y
          · have e : max X Y = Y := by omega
            have E := Lib.hid e
            rw [e] at HV
            clear e
            go_wp2_with fail
            refine (HV.out _ (by repeat (first | (with_reducible exact Kept.refl _) | (with_reducible assumption) | (with_reducible refine Kept.alloc ?_ _) | (with_reducible refine Kept.drew ?_) | (with_reducible refine Kept.drewN ?_ _) | (with_reducible refine Kept.setCell ?_ ?_ _) | (with_reducible refine Kept.trans ?_ (by with_reducible assumption)) | (simp only [World.size_alloc, World.size_setCell, World.size_drew, size_drewN]; omega) | omega | (dsimp only; omega)))).mono ?_
            rintro e v4 ⟨rfl, c4⟩
            go_wp2
            go_meet
            exact ⟨iv (congrArg (vol l) E.out.symm), rfl, (by repeat (first | (with_reducible exact Kept.refl _) | (with_reducible assumption) | (with_reducible refine Kept.alloc ?_ _) | (with_reducible refine Kept.drew ?_) | (with_reducible refine Kept.drewN ?_ _) | (with_reducible refine Kept.setCell ?_ ?_ _) | (with_reducible refine Kept.trans ?_ (by with_reducible assumption)) | (simp only [World.size_alloc, World.size_setCell, World.size_drew, size_drewN]; omega) | omega | (dsimp only; omega)))⟩
          · have e : max X Y = X := by omega
            have E := Lib.hid e
            rw [e] at HV
            clear e
            go_wp2_with fail
            refine (HV.out _ (by repeat (first | (with_reducible exact Kept.refl _) | (with_reducible assumption) | (with_reducible refine Kept.alloc ?_ _) | (with_reducible refine Kept.drew ?_) | (with_reducible refine Kept.drewN ?_ _) | (with_reducible refine Kept.setCell ?_ ?_ _) | (with_reducible refine Kept.trans ?_ (by with_reducible assumption)) | (simp only [World.size_alloc, World.size_setCell, World.size_drew, size_drewN]; omega) | omega | (dsimp only; omega)))).mono ?_
            rintro e v4 ⟨rfl, c4⟩
            go_wp2
            go_meet
            exact ⟨iv (congrArg (vol l) E.out.symm), rfl, (by repeat (first | (with_reducible exact Kept.refl _) | (with_reducible assumption) | (with_reducible refine Kept.alloc ?_ _) | (with_reducible refine Kept.drew ?_) | (with_reducible refine Kept.drewN ?_ _) | (with_reducible refine Kept.setCell ?_ ?_ _) | (with_reducible refine Kept.trans ?_ (by with_reducible assumption)) | (simp only [World.size_alloc, World.size_setCell, World.size_drew, size_drewN]; omega) | omega | (dsimp only; omega)))⟩
        case rest =>
          obtain ⟨rfl, rfl, k5⟩ := hcut
          have bT := bT.kept k5
          have fT := bT.cell
          have lT := bT.lt
          have kw3 := kw3.trans k5
          have hm1 : InL l (min X Y) := by unfold InL at *; omega
          have hm2 : InL l (max X Y) := by unfold InL at *; omega
          have hfin := vol_mono HT.out hm1 hm2 (by omega)
          clear hm1 hm2 k4 k5
          generalize vol l (min X Y) = M1 at *
          generalize vol l (max X Y) = M2 at *
          go_wp2_with fail
          go_loopw [74] (fun i wr => ∃ k : Nat, k ≤ n + 1 ∧ i = .int .i64 k ∧ Kept v2 wr ∧ Box wr v2.heap.size #[.string nm, .slice (some ⟨b, o, none⟩) (n + 1) tc, .int .i64 lo, .int .i64 hi]) (fun i _ => n + 1 - (intOf i).toNat)
          case atStart => exact ⟨0, Nat.zero_le _, rfl, (by repeat (first | (with_reducible exact Kept.refl _) | (with_reducible assumption) | (with_reducible refine Kept.alloc ?_ _) | (with_reducible refine Kept.drew ?_) | (with_reducible refine Kept.drewN ?_ _) | (with_reducible refine Kept.setCell ?_ ?_ _) | (with_reducible refine Kept.trans ?_ (by with_reducible assumption)) | (simp only [World.size_alloc, World.size_setCell, World.size_drew, size_drewN]; omega) | omega | (dsimp only; omega))), (by repeat (first | (with_reducible assumption) | (with_reducible apply Box.new; first | (with_reducible rfl) | omega | (simp only [World.size_alloc, World.size_setCell, World.size_drew, size_drewN] <;> omega)) | (with_reducible apply Box.old) | (with_reducible apply Box.drew) | (with_reducible apply Box.drewN) | (with_reducible apply Box.set) | (with_reducible apply Box.other) | (with_reducible apply Box.only_ (by with_reducible assumption)) | (with_reducible apply Box.kept_ (by with_reducible assumption)) | (simp only [World.size_alloc, World.size_setCell, World.size_drew, size_drewN]; omega) | omega | (dsimp only; omega) | rfl | (simp; done)))⟩
          case round =>
            clear bT fT lT kw3
            obtain ⟨k, hk, rfl, kw4, bT⟩ := hrel
            have fT := bT.cell
            have lT := bT.lt
            by_cases hkn : k < n + 1
            · obtain ⟨b', o', ea, hbw2, c0, c1⟩ := strap_at HS.out kw4 hkn
              obtain ⟨rfl, rfl⟩ : b' = b ∧ o' = o := by injection ea with ea; injection ea with e1 e2 _; exact ⟨e1.symm, e2.symm⟩
              clear ea
              have hbr : b' < wr.heap.size := by have := kw4.size; omega
              have hv := vol_strap HT.out (i := k) (by have := HLL.out; omega)
              have HV := Lib.hid (fun W q => hv.2 ▸ Volume_good (st l k).lv nz (HS.out.kept StrapR.stays (w' := W) q) HO.out hv.1)
              clear hv
              generalize (st l k).lv = P at *
              generalize (st l k).vl = Q at *
              go_wp2_with fail
              refine (HV.out _ (by repeat (first | (with_reducible exact Kept.refl _) | (with_reducible assumption) | (with_reducible refine Kept.alloc ?_ _) | (with_reducible refine Kept.drew ?_) | (with_reducible refine Kept.drewN ?_ _) | (with_reducible refine Kept.setCell ?_ ?_ _) | (with_reducible refine Kept.trans ?_ (by with_reducible assumption)) | (simp only [World.size_alloc, World.size_setCell, World.size_drew, size_drewN]; omega) | omega | (dsimp only; omega)))).mono ?_
              rintro e v6 ⟨rfl, c6⟩
              have c6_c := (kcell c6).1; have c6_f := (kcell c6).2; have c6_z := c6.size; try simp only [World.size_alloc, World.size_setCell, World.size_drew, size_drewN] at c6_c c6_f c6_z
              go_wp2
              go_roundw
              case rel => exact ⟨k + 1, by omega, by go_num, (by repeat (first | (with_reducible exact Kept.refl _) | (with_reducible assumption) | (with_reducible refine Kept.alloc ?_ _) | (with_reducible refine Kept.drew ?_) | (with_reducible refine Kept.drewN ?_ _) | (with_reducible refine Kept.setCell ?_ ?_ _) | (with_reducible refine Kept.trans ?_ (by with_reducible assumption)) | (simp only [World.size_alloc, World.size_setCell, World.size_drew, size_drewN]; omega) | omega | (dsimp only; omega))), (by repeat (first | (with_reducible assumption) | (with_reducible apply Box.new; first | (with_reducible rfl) | omega | (simp only [World.size_alloc, World.size_setCell, World.size_drew, size_drewN] <;> omega)) | (with_reducible apply Box.old) | (with_reducible apply Box.drew) | (with_reducible apply Box.drewN) | (with_reducible apply Box.set) | (with_reducible apply Box.other) | (with_reducible apply Box.only_ (by with_reducible assumption)) | (with_reducible apply Box.kept_ (by with_reducible assumption)) | (simp only [World.size_alloc, World.size_setCell, World.size_drew, size_drewN]; omega) | omega | (dsimp only; omega) | rfl | (simp; done)))⟩
              case measure => simp [intOf]; omega
            · obtain rfl : k = n + 1 := by omega
              go_wp2_with fail
              refine (tankAwake _).mono ?_
              rintro e v7 ⟨rfl, c7⟩
              have c7_c := (kcell c7).1; have c7_f := (kcell c7).2; have c7_z := c7.size; try simp only [World.size_alloc, World.size_setCell, World.size_drew, size_drewN] at c7_c c7_f c7_z
              go_wp2
              go_ret
              exact ⟨rfl, kw2.trans (by repeat (first | (with_reducible exact Kept.refl _) | (with_reducible assumption) | (with_reducible refine Kept.alloc ?_ _) | (with_reducible refine Kept.drew ?_) | (with_reducible refine Kept.drewN ?_ _) | (with_reducible refine Kept.setCell ?_ ?_ _) | (with_reducible refine Kept.trans ?_ (by with_reducible assumption)) | (simp only [World.size_alloc, World.size_setCell, World.size_drew, size_drewN]; omega) | omega | (dsimp only; omega)))⟩
end Go.Proofs.Ytooojlecefgonaa
