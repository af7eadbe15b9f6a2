
/- The walk of TankMoves. -/
import Derived.Test.YtmhncojjpalmeaaTankRow
namespace Go.Proofs.Ytmhncojjpalmeaa
open Go.RowKit
set_option linter.unusedVariables false
set_option linter.unusedSimpArgs false

theorem take_flat {l : List Strap} {k : Nat} (h : k < l.length) : (l.take (k + 1)).flatMap strapF = (l.take k).flatMap strapF ++ strapF (st l k) := by
  rw [List.take_add_one, List.getElem?_eq_getElem h, Option.toList_some, List.flatMap_append, List.flatMap_singleton, st_get h]

theorem strap_new2 {w : World} {o : Obj} {X V : Int} {t : TypeId} {j : Nat} {u : Value} (h : (strapF ⟨X, V⟩)[j]? = some u) : ((w.alloc o).alloc (Obj.cells #[.int .i64 X, .int .i64 V] t)).cell? ((⟨w.heap.size + 1, 0, none⟩ : Addr).add j) = some u := by
  have e := strap_new (w := w.alloc o) (t := t) h
  rw [World.size_alloc] at e
  exact e
set_option maxRecDepth 100000 in
set_option maxHeartbeats 8000000 in
theorem TankMoves_law (a : Option Addr) (len cap : Nat) (x y : Int) (w : World) (h : ArgInts w a len cap) (x0 : 0 ≤ x) (x1 : x ≤ 65535) (y0 : 0 ≤ y) (y1 : y ≤ 65535) :
    Calls Try.prog 3 #[.slice a len cap, .int .u16 x, .int .u16 y] w (Ret (.bool true) w) := by
  obtain ⟨i0, hi, hz0, hz1, hz2⟩ := info_parts strap_info
  have HI := Lib.hid (And.intro hi (And.intro hz0 (And.intro hz1 hz2)))
  clear hi hz0 hz1 hz2
  go_enter Try.func3, Try.ntmps3
  go_wp2_with fail
  refine (New_any _ _ _ _ h).mono ?_
  rintro e w1 ⟨bs, rfl, hs1, k1⟩
  have hlt := hs1.lt
  go_wp2_with fail
  refine (Tank_any _ _ bs hs1).mono ?_
  rintro e v2 ⟨nm, ta, tl, tc, lo, hi, l, hok, nz, ⟨u6, u1, u2⟩, rfl, hS, s2, o2⟩
  have kw2 : Kept w v2 := Only.kept k1 o2 hlt.1
  clear h k1 o2 s2 hs1
  have hll := hS.1
  have hmax := hS.2.2.1
  have hcap := hS.2.1
  unfold maxLen at hmax
  have ht := straps_of hok
  have h2 := ht.two
  obtain ⟨n, rfl⟩ : ∃ n, tl = n + 1 := ⟨tl - 1, by omega⟩
  have hn1 : 1 ≤ n := by omega
  have hn2 : n ≤ 15 := by have := ht.most; omega
  obtain ⟨b, o, rfl, hbw, _⟩ := ends_at hS (Kept.refl v2)
  obtain ⟨e1, e2, ⟨⟨n1, n2⟩, n3, n4⟩, ⟨⟨m1, m2⟩, m3, m4⟩⟩ := ends_lt ht
  have HS := Lib.hid hS
  have HT := Lib.hid ht
  have HO := Lib.hid hok
  have HLL := Lib.hid hll
  have OU := Lib.hid (up_ok (d := x) hok u2 x0 x1)
  have OO := Lib.hid (one_ok (p := 5) (q := 70) hok u6 u1 u2 (by omega) (by omega) (by omega) (by omega))
  clear hS ht hok hll h2
  have bT : Box (v2.alloc (Obj.cells #[.string nm, .slice (some ⟨b, o, none⟩) (n + 1) tc, .int .i64 lo, .int .i64 hi] 26)) v2.heap.size #[.string nm, .slice (some ⟨b, o, none⟩) (n + 1) tc, .int .i64 lo, .int .i64 hi] := Box.new rfl
  go_upto_region 2 with fail
  go_cut [8, 9] (fun p q wx => ∃ g h : Nat, p = .pointer (some ⟨g, 0, none⟩) ∧ q = .pointer (some ⟨h, 0, none⟩) ∧ Box wx g #[.int .i64 (fst l).lv, .int .i64 (fst l).vl] ∧ Box wx h #[.int .i64 (lst l).lv, .int .i64 (lst l).vl] ∧ Box wx v2.heap.size #[.string nm, .slice (some ⟨b, o, none⟩) (n + 1) tc, .int .i64 lo, .int .i64 hi] ∧ Kept v2 wx)
  case first =>
    obtain ⟨b', o', ea, _, d0, d1, d2, d3⟩ := ends_at HS.out (Kept.refl v2)
    obtain ⟨rfl, rfl⟩ : b' = b ∧ o' = o := by injection ea with ea; injection ea with e1 e2 _; exact ⟨e1.symm, e2.symm⟩
    clear ea
    have g1 : IntKind.i64.wrap ((n : Int) + 1 - 1) = n := by rw [show (n : Int) + 1 - 1 = n by omega]; exact IntWalk.i64_in _ (by omega)
    have g2 : (n : Int) < (n : Int) + 1 := by omega
    have g3 : (0 : Int) < (n : Int) + 1 := by omega
    generalize fst l = A at *
    generalize lst l = B at *
    obtain ⟨A1, V1⟩ := A
    obtain ⟨A2, V2⟩ := B
    dsimp only at d0 d1 d2 d3
    go_region
    all_goals
      go_wp2_with fail
      go_meet
      exact ⟨_, _, rfl, rfl, (by repeat (first | (with_reducible assumption) | (with_reducible apply Box.new; first | (with_reducible rfl) | omega | (simp only [World.size_alloc, World.size_setCell, World.size_drew, size_drewN] <;> omega)) | (with_reducible apply Box.old) | (with_reducible apply Box.drew) | (with_reducible apply Box.drewN) | (with_reducible apply Box.set) | (with_reducible apply Box.other) | (with_reducible apply Box.only_ (by with_reducible assumption)) | (with_reducible apply Box.kept_ (by with_reducible assumption)) | (simp only [World.size_alloc, World.size_setCell, World.size_drew, size_drewN]; omega) | omega | (dsimp only; omega) | rfl | (simp; done))), (by repeat (first | (with_reducible assumption) | (with_reducible apply Box.new; first | (with_reducible rfl) | omega | (simp only [World.size_alloc, World.size_setCell, World.size_drew, size_drewN] <;> omega)) | (with_reducible apply Box.old) | (with_reducible apply Box.drew) | (with_reducible apply Box.drewN) | (with_reducible apply Box.set) | (with_reducible apply Box.other) | (with_reducible apply Box.only_ (by with_reducible assumption)) | (with_reducible apply Box.kept_ (by with_reducible assumption)) | (simp only [World.size_alloc, World.size_setCell, World.size_drew, size_drewN]; omega) | omega | (dsimp only; omega) | rfl | (simp; done))), (by repeat (first | (with_reducible assumption) | (with_reducible apply Box.new; first | (with_reducible rfl) | omega | (simp only [World.size_alloc, World.size_setCell, World.size_drew, size_drewN] <;> omega)) | (with_reducible apply Box.old) | (with_reducible apply Box.drew) | (with_reducible apply Box.drewN) | (with_reducible apply Box.set) | (with_reducible apply Box.other) | (with_reducible apply Box.only_ (by with_reducible assumption)) | (with_reducible apply Box.kept_ (by with_reducible assumption)) | (simp only [World.size_alloc, World.size_setCell, World.size_drew, size_drewN]; omega) | omega | (dsimp only; omega) | rfl | (simp; done))), (by repeat (first | (with_reducible exact Kept.refl _) | (with_reducible assumption) | (with_reducible refine Kept.alloc ?_ _) | (with_reducible refine Kept.drew ?_) | (with_reducible refine Kept.drewN ?_ _) | (with_reducible refine Kept.setCell ?_ ?_ _) | (with_reducible refine Kept.trans ?_ (by with_reducible assumption)) | (simp only [World.size_alloc, World.size_setCell, World.size_drew, size_drewN]; omega) | omega | (dsimp only; omega)))⟩
  case rest =>
    clear bT
    obtain ⟨g, h, rfl, rfl, b8, b9, bT, kw3⟩ := hcut
    have f8 := b8.cell
    have f9 := b9.cell
    have z8 := b8.lt
    have z9 := b9.lt
    go_upto_region 3 with fail
    go_cut [10] (fun s wx => ∃ X : Int, s = .int .i64 X ∧ InL l X ∧ Box wx h #[.int .i64 (lst l).lv, .int .i64 (lst l).vl] ∧ Box wx v2.heap.size #[.string nm, .slice (some ⟨b, o, none⟩) (n + 1) tc, .int .i64 lo, .int .i64 hi] ∧ Kept v2 wx)
    case first =>
      have qy := mod_in HT.out (x := y)
      have QY := Lib.hid qy
      obtain ⟨qy1, qy2⟩ := qy
      generalize fst l = A at *
      generalize lst l = B at *
      obtain ⟨A1, V1⟩ := A
      obtain ⟨A2, V2⟩ := B
      dsimp only at *
      have w1' : IntKind.i64.wrap (A2 - A1) = A2 - A1 := IntWalk.i64_in _ (by omega)
      have w2' : IntKind.i64.wrap (A2 - A1 + 1) = A2 - A1 + 1 := IntWalk.i64_in _ (by omega)
      have w6' : (A2 - A1 + 1 == 0) = false := by rw [beq_eq_false_iff_ne]; omega
      have y3' : y.tmod (A2 - A1 + 1) = y % (A2 - A1 + 1) := Int.tmod_eq_emod_of_nonneg y0
      have y4' : IntKind.i64.wrap (y % (A2 - A1 + 1)) = y % (A2 - A1 + 1) := IntWalk.i64_in _ (by omega)
      have y5' : IntKind.i64.wrap (A1 + y % (A2 - A1 + 1)) = A1 + y % (A2 - A1 + 1) := IntWalk.i64_in _ (by omega)
      have y7' : IntKind.i64.wrap y = y := IntWalk.i64_in _ (by omega)
      go_quiet (fail)
      go_wp2
      go_meet
      exact ⟨_, rfl, QY.out, (by repeat (first | (with_reducible assumption) | (with_reducible apply Box.new; first | (with_reducible rfl) | omega | (simp only [World.size_alloc, World.size_setCell, World.size_drew, size_drewN] <;> omega)) | (with_reducible apply Box.old) | (with_reducible apply Box.drew) | (with_reducible apply Box.drewN) | (with_reducible apply Box.set) | (with_reducible apply Box.other) | (with_reducible apply Box.only_ (by with_reducible assumption)) | (with_reducible apply Box.kept_ (by with_reducible assumption)) | (simp only [World.size_alloc, World.size_setCell, World.size_drew, size_drewN]; omega) | omega | (dsimp only; omega) | rfl | (simp; done))), (by repeat (first | (with_reducible assumption) | (with_reducible apply Box.new; first | (with_reducible rfl) | omega | (simp only [World.size_alloc, World.size_setCell, World.size_drew, size_drewN] <;> omega)) | (with_reducible apply Box.old) | (with_reducible apply Box.drew) | (with_reducible apply Box.drewN) | (with_reducible apply Box.set) | (with_reducible apply Box.other) | (with_reducible apply Box.only_ (by with_reducible assumption)) | (with_reducible apply Box.kept_ (by with_reducible assumption)) | (simp only [World.size_alloc, World.size_setCell, World.size_drew, size_drewN]; omega) | omega | (dsimp only; omega) | rfl | (simp; done))), (by repeat (first | (with_reducible exact Kept.refl _) | (with_reducible assumption) | (with_reducible refine Kept.alloc ?_ _) | (with_reducible refine Kept.drew ?_) | (with_reducible refine Kept.drewN ?_ _) | (with_reducible refine Kept.setCell ?_ ?_ _) | (with_reducible refine Kept.trans ?_ (by with_reducible assumption)) | (simp only [World.size_alloc, World.size_setCell, World.size_drew, size_drewN]; omega) | omega | (dsimp only; omega)))⟩
    case rest =>
      clear b8 b9 bT kw3 f8 f9 z8 z9
      obtain ⟨X, rfl, hX, b9, bT, kw3⟩ := hcut
      have fT := bT.cell
      have lT := bT.lt
      go_upto_region 4 with fail
      go_cut [11, 12] (fun s t wx => ∃ p q : Nat, s = .pointer (some ⟨p, 0, none⟩) ∧ t = .pointer (some ⟨q, 0, none⟩) ∧ p ≠ q ∧ v2.heap.size < p ∧ v2.heap.size < q ∧ h ≠ p ∧ h ≠ q ∧ Box wx p #[.string nm, .slice (some ⟨b, o, none⟩) (n + 1) tc, .int .i64 lo, .int .i64 hi] ∧ Box wx q #[.string nm, .slice (some ⟨b, o, none⟩) (n + 1) tc, .int .i64 lo, .int .i64 hi] ∧ Box wx h #[.int .i64 (lst l).lv, .int .i64 (lst l).vl] ∧ Box wx v2.heap.size #[.string nm, .slice (some ⟨b, o, none⟩) (n + 1) tc, .int .i64 lo, .int .i64 hi] ∧ Kept v2 wx)
      case first =>
        have z9 := b9.lt
        go_region
        all_goals
          go_wp2_with fail
          go_meet
          refine ⟨_, _, rfl, rfl, ?_, ?_, ?_, ?_, ?_, (by repeat (first | (with_reducible assumption) | (with_reducible apply Box.new; first | (with_reducible rfl) | omega | (simp only [World.size_alloc, World.size_setCell, World.size_drew, size_drewN] <;> omega)) | (with_reducible apply Box.old) | (with_reducible apply Box.drew) | (with_reducible apply Box.drewN) | (with_reducible apply Box.set) | (with_reducible apply Box.other) | (with_reducible apply Box.only_ (by with_reducible assumption)) | (with_reducible apply Box.kept_ (by with_reducible assumption)) | (simp only [World.size_alloc, World.size_setCell, World.size_drew, size_drewN]; omega) | omega | (dsimp only; omega) | rfl | (simp; done))), (by repeat (first | (with_reducible assumption) | (with_reducible apply Box.new; first | (with_reducible rfl) | omega | (simp only [World.size_alloc, World.size_setCell, World.size_drew, size_drewN] <;> omega)) | (with_reducible apply Box.old) | (with_reducible apply Box.drew) | (with_reducible apply Box.drewN) | (with_reducible apply Box.set) | (with_reducible apply Box.other) | (with_reducible apply Box.only_ (by with_reducible assumption)) | (with_reducible apply Box.kept_ (by with_reducible assumption)) | (simp only [World.size_alloc, World.size_setCell, World.size_drew, size_drewN]; omega) | omega | (dsimp only; omega) | rfl | (simp; done))), (by repeat (first | (with_reducible assumption) | (with_reducible apply Box.new; first | (with_reducible rfl) | omega | (simp only [World.size_alloc, World.size_setCell, World.size_drew, size_drewN] <;> omega)) | (with_reducible apply Box.old) | (with_reducible apply Box.drew) | (with_reducible apply Box.drewN) | (with_reducible apply Box.set) | (with_reducible apply Box.other) | (with_reducible apply Box.only_ (by with_reducible assumption)) | (with_reducible apply Box.kept_ (by with_reducible assumption)) | (simp only [World.size_alloc, World.size_setCell, World.size_drew, size_drewN]; omega) | omega | (dsimp only; omega) | rfl | (simp; done))), (by repeat (first | (with_reducible assumption) | (with_reducible apply Box.new; first | (with_reducible rfl) | omega | (simp only [World.size_alloc, World.size_setCell, World.size_drew, size_drewN] <;> omega)) | (with_reducible apply Box.old) | (with_reducible apply Box.drew) | (with_reducible apply Box.drewN) | (with_reducible apply Box.set) | (with_reducible apply Box.other) | (with_reducible apply Box.only_ (by with_reducible assumption)) | (with_reducible apply Box.kept_ (by with_reducible assumption)) | (simp only [World.size_alloc, World.size_setCell, World.size_drew, size_drewN]; omega) | omega | (dsimp only; omega) | rfl | (simp; done))), (by repeat (first | (with_reducible exact Kept.refl _) | (with_reducible assumption) | (with_reducible refine Kept.alloc ?_ _) | (with_reducible refine Kept.drew ?_) | (with_reducible refine Kept.drewN ?_ _) | (with_reducible refine Kept.setCell ?_ ?_ _) | (with_reducible refine Kept.trans ?_ (by with_reducible assumption)) | (simp only [World.size_alloc, World.size_setCell, World.size_drew, size_drewN]; omega) | omega | (dsimp only; omega)))⟩
          all_goals first | omega | (simp only [World.size_alloc, World.size_setCell, World.size_drew, size_drewN]; omega)
      case rest =>
        clear bT kw3 fT lT b9
        obtain ⟨w5, rfl⟩ : ∃ w5, w5 = wc := ⟨_, rfl⟩
        obtain ⟨p, q, rfl, rfl, npq, vp, vq, hp, hq, dp, dq, dh, bT, kw3⟩ := hcut
        have fT := bT.cell
        have fp := dp.cell
        have fpf := dp.free
        have lT := bT.lt
        have lp := dp.lt
        have lq := dq.lt
        have lh := dh.lt
        go_wp2_with fail
        -- the raised straps
        have zz5 := kw3.size
        have b0 : Box (w5.setCell ⟨p, 1, none⟩ (.slice none 0 0)) p #[.string nm, .slice none 0 0, .int .i64 lo, .int .i64 hi] := (by repeat (first | (with_reducible assumption) | (with_reducible apply Box.new; first | (with_reducible rfl) | omega | (simp only [World.size_alloc, World.size_setCell, World.size_drew, size_drewN] <;> omega)) | (with_reducible apply Box.old) | (with_reducible apply Box.drew) | (with_reducible apply Box.drewN) | (with_reducible apply Box.set) | (with_reducible apply Box.other) | (with_reducible apply Box.only_ (by with_reducible assumption)) | (with_reducible apply Box.kept_ (by with_reducible assumption)) | (simp only [World.size_alloc, World.size_setCell, World.size_drew, size_drewN]; omega) | omega | (dsimp only; omega) | rfl | (simp; done)))
        generalize hBA : w5.heap.size = BA at *
        go_loopw [58] (fun i wr => ∃ (k : Nat) (a : Option Addr) (cap : Nat), k ≤ n + 1 ∧ i = .int .i64 k ∧ wr.ownsRow BA 31 2 (.slice a k cap) k (((up l x).take k).flatMap strapF) ∧ Box wr p #[.string nm, .slice a k cap, .int .i64 lo, .int .i64 hi] ∧ Box wr q #[.string nm, .slice (some ⟨b, o, none⟩) (n + 1) tc, .int .i64 lo, .int .i64 hi] ∧ Box wr h #[.int .i64 (lst l).lv, .int .i64 (lst l).vl] ∧ Box wr v2.heap.size #[.string nm, .slice (some ⟨b, o, none⟩) (n + 1) tc, .int .i64 lo, .int .i64 hi] ∧ Kept v2 wr ∧ BA ≤ wr.heap.size) (fun i _ => n + 1 - (intOf i).toNat)
        case atStart => exact ⟨0, none, 0, Nat.zero_le _, rfl, World.ownsRow_nil _ _ _ _, (by repeat (first | (with_reducible assumption) | (with_reducible apply Box.new; first | (with_reducible rfl) | omega | (simp only [World.size_alloc, World.size_setCell, World.size_drew, size_drewN] <;> omega)) | (with_reducible apply Box.old) | (with_reducible apply Box.drew) | (with_reducible apply Box.drewN) | (with_reducible apply Box.set) | (with_reducible apply Box.other) | (with_reducible apply Box.only_ (by with_reducible assumption)) | (with_reducible apply Box.kept_ (by with_reducible assumption)) | (simp only [World.size_alloc, World.size_setCell, World.size_drew, size_drewN]; omega) | omega | (dsimp only; omega) | rfl | (simp; done))), (by repeat (first | (with_reducible assumption) | (with_reducible apply Box.new; first | (with_reducible rfl) | omega | (simp only [World.size_alloc, World.size_setCell, World.size_drew, size_drewN] <;> omega)) | (with_reducible apply Box.old) | (with_reducible apply Box.drew) | (with_reducible apply Box.drewN) | (with_reducible apply Box.set) | (with_reducible apply Box.other) | (with_reducible apply Box.only_ (by with_reducible assumption)) | (with_reducible apply Box.kept_ (by with_reducible assumption)) | (simp only [World.size_alloc, World.size_setCell, World.size_drew, size_drewN]; omega) | omega | (dsimp only; omega) | rfl | (simp; done))), (by repeat (first | (with_reducible assumption) | (with_reducible apply Box.new; first | (with_reducible rfl) | omega | (simp only [World.size_alloc, World.size_setCell, World.size_drew, size_drewN] <;> omega)) | (with_reducible apply Box.old) | (with_reducible apply Box.drew) | (with_reducible apply Box.drewN) | (with_reducible apply Box.set) | (with_reducible apply Box.other) | (with_reducible apply Box.only_ (by with_reducible assumption)) | (with_reducible apply Box.kept_ (by with_reducible assumption)) | (simp only [World.size_alloc, World.size_setCell, World.size_drew, size_drewN]; omega) | omega | (dsimp only; omega) | rfl | (simp; done))), (by repeat (first | (with_reducible assumption) | (with_reducible apply Box.new; first | (with_reducible rfl) | omega | (simp only [World.size_alloc, World.size_setCell, World.size_drew, size_drewN] <;> omega)) | (with_reducible apply Box.old) | (with_reducible apply Box.drew) | (with_reducible apply Box.drewN) | (with_reducible apply Box.set) | (with_reducible apply Box.other) | (with_reducible apply Box.only_ (by with_reducible assumption)) | (with_reducible apply Box.kept_ (by with_reducible assumption)) | (simp only [World.size_alloc, World.size_setCell, World.size_drew, size_drewN]; omega) | omega | (dsimp only; omega) | rfl | (simp; done))), (by repeat (first | (with_reducible exact Kept.refl _) | (with_reducible assumption) | (with_reducible refine Kept.alloc ?_ _) | (with_reducible refine Kept.drew ?_) | (with_reducible refine Kept.drewN ?_ _) | (with_reducible refine Kept.setCell ?_ ?_ _) | (with_reducible refine Kept.trans ?_ (by with_reducible assumption)) | (simp only [World.size_alloc, World.size_setCell, World.size_drew, size_drewN]; omega) | omega | (dsimp only; omega))), by simp only [World.size_setCell]; omega⟩
        case round =>
          clear b0 dp dq dh bT kw3 hBA fT fp fpf
          obtain ⟨k, a, cap, hk, rfl, hown, dp, dq, dh, bT, kw4, hBA⟩ := hrel
          have fT := bT.cell
          have fp := dp.cell
          have fpf := dp.free
          have lp' := dp.lt
          have lq' := dq.lt
          have lh' := dh.lt
          have hown := Lib.hid hown
          by_cases hkn : k < n + 1
          · obtain ⟨b', o', ea, hbw2, c0, c1⟩ := strap_at HS.out kw4 hkn
            obtain ⟨rfl, rfl⟩ : b' = b ∧ o' = o := by injection ea with ea; injection ea with e1 e2 _; exact ⟨e1.symm, e2.symm⟩
            clear ea
            have hbr : b' < wr.heap.size := by have := kw4.size; omega
            have hkl : k < l.length := by have := HLL.out; omega
            have hm := last_most HT.out hkl
            have hs0 := (HT.out.ok k hkl).1
            obtain ⟨⟨j1, j2⟩, j3, j4⟩ := hs0
            have FL := Lib.hid (show ((up l x).take (k + 1)).flatMap strapF = ((up l x).take k).flatMap strapF ++ strapF ⟨(st l k).lv, (st l k).vl + x⟩ by rw [take_flat (by rw [up_len]; exact hkl), up_st hkl])
            generalize (st l k).lv = P at *
            generalize (st l k).vl = Q at *
            have w1' : IntKind.i64.wrap x = x := IntWalk.i64_in _ (by omega)
            have w2' : IntKind.i64.wrap (Q + x) = Q + x := IntWalk.i64_in _ (by omega)
            go_wp2_with (at_builtin; refine wpList_append_own _ rfl _ _ 24 rfl BA 31 i0 (.agg #[.int .i64 0, .int .i64 0]) 2 16 ?d2 HI.out.1 HI.out.2.1 HI.out.2.2.1 HI.out.2.2.2 rfl (by decide) (.slice a k cap) k (((up l x).take k).flatMap strapF) ?d3 ((hown.out.alloc _).alloc _) _ 1 1 (strapF ⟨P, Q + x⟩) rfl rfl ?c1 ?c2 ?c3 ?c4 ?c5 ?c6)
            case d2 => exact Try.underlying24
            case d3 => rfl
            case c1 => intro j u hj; exact strap_new2 hj
            case c2 => intro u hu; simp [strapF] at hu; rcases hu with rfl | rfl <;> rfl
            case c3 => unfold maxLen; omega
            case c4 => omega
            case c5 => simp only [World.size_alloc]; omega
            case c6 =>
              intro v' w6 hown1 hgrow _
              have GR := grown_below ((hown.out.alloc _).alloc _) hgrow
              have ep : Box w6 p #[.string nm, .slice a k cap, .int .i64 lo, .int .i64 hi] := GR.box (Box.old (Box.old dp _) _) (by omega)
              have eq' : Box w6 q #[.string nm, .slice (some ⟨b', o', none⟩) (n + 1) tc, .int .i64 lo, .int .i64 hi] := GR.box (Box.old (Box.old dq _) _) (by omega)
              have eh : Box w6 h #[.int .i64 (lst l).lv, .int .i64 (lst l).vl] := GR.box (Box.old (Box.old dh _) _) (by omega)
              have eT : Box w6 v2.heap.size #[.string nm, .slice (some ⟨b', o', none⟩) (n + 1) tc, .int .i64 lo, .int .i64 hi] := GR.box (Box.old (Box.old bT _) _) (by omega)
              have ek : Kept v2 w6 := GR.kept ((kw4.alloc _).alloc _) (by omega)
              have ez : BA ≤ w6.heap.size := by have := GR.size; simp only [World.size_alloc] at this; omega
              obtain ⟨g', cap', rfl, hg1, hg2, hg3⟩ := own_form hown1 (by omega)
              have hown1 := Lib.hid hown1
              clear hgrow GR dp dq dh bT kw4 fT fp fpf hown
              have fp := ep.cell
              have fpf := ep.free
              have lp2 := ep.lt
              go_wp2_with fail
              go_roundw
              case rel => exact ⟨k + 1, some ⟨g', 0, none⟩, cap', by omega, by go_num, by rw [FL.out]; exact (by repeat (first | (with_reducible exact hown1.out) | (with_reducible refine own_set ?_ ?_) | (with_reducible refine own_only ?_ (by with_reducible assumption) ?_) | (with_reducible refine World.ownsRow.alloc ?_ _) | (with_reducible refine own_drew ?_) | (with_reducible refine own_drewN ?_) | (with_reducible refine own_kept ?_ (by with_reducible assumption)) | omega | (dsimp only; omega))), (by repeat (first | (with_reducible assumption) | (with_reducible apply Box.new; first | (with_reducible rfl) | omega | (simp only [World.size_alloc, World.size_setCell, World.size_drew, size_drewN] <;> omega)) | (with_reducible apply Box.old) | (with_reducible apply Box.drew) | (with_reducible apply Box.drewN) | (with_reducible apply Box.set) | (with_reducible apply Box.other) | (with_reducible apply Box.only_ (by with_reducible assumption)) | (with_reducible apply Box.kept_ (by with_reducible assumption)) | (simp only [World.size_alloc, World.size_setCell, World.size_drew, size_drewN]; omega) | omega | (dsimp only; omega) | rfl | (simp; done))), (by repeat (first | (with_reducible assumption) | (with_reducible apply Box.new; first | (with_reducible rfl) | omega | (simp only [World.size_alloc, World.size_setCell, World.size_drew, size_drewN] <;> omega)) | (with_reducible apply Box.old) | (with_reducible apply Box.drew) | (with_reducible apply Box.drewN) | (with_reducible apply Box.set) | (with_reducible apply Box.other) | (with_reducible apply Box.only_ (by with_reducible assumption)) | (with_reducible apply Box.kept_ (by with_reducible assumption)) | (simp only [World.size_alloc, World.size_setCell, World.size_drew, size_drewN]; omega) | omega | (dsimp only; omega) | rfl | (simp; done))), (by repeat (first | (with_reducible assumption) | (with_reducible apply Box.new; first | (with_reducible rfl) | omega | (simp only [World.size_alloc, World.size_setCell, World.size_drew, size_drewN] <;> omega)) | (with_reducible apply Box.old) | (with_reducible apply Box.drew) | (with_reducible apply Box.drewN) | (with_reducible apply Box.set) | (with_reducible apply Box.other) | (with_reducible apply Box.only_ (by with_reducible assumption)) | (with_reducible apply Box.kept_ (by with_reducible assumption)) | (simp only [World.size_alloc, World.size_setCell, World.size_drew, size_drewN]; omega) | omega | (dsimp only; omega) | rfl | (simp; done))), (by repeat (first | (with_reducible assumption) | (with_reducible apply Box.new; first | (with_reducible rfl) | omega | (simp only [World.size_alloc, World.size_setCell, World.size_drew, size_drewN] <;> omega)) | (with_reducible apply Box.old) | (with_reducible apply Box.drew) | (with_reducible apply Box.drewN) | (with_reducible apply Box.set) | (with_reducible apply Box.other) | (with_reducible apply Box.only_ (by with_reducible assumption)) | (with_reducible apply Box.kept_ (by with_reducible assumption)) | (simp only [World.size_alloc, World.size_setCell, World.size_drew, size_drewN]; omega) | omega | (dsimp only; omega) | rfl | (simp; done))), (by repeat (first | (with_reducible exact Kept.refl _) | (with_reducible assumption) | (with_reducible refine Kept.alloc ?_ _) | (with_reducible refine Kept.drew ?_) | (with_reducible refine Kept.drewN ?_ _) | (with_reducible refine Kept.setCell ?_ ?_ _) | (with_reducible refine Kept.trans ?_ (by with_reducible assumption)) | (simp only [World.size_alloc, World.size_setCell, World.size_drew, size_drewN]; omega) | omega | (dsimp only; omega))), by first | omega | (simp only [World.size_setCell]; omega)⟩
              case measure => simp [intOf]; omega
          · obtain rfl : k = n + 1 := by omega
            obtain ⟨g1, cap1, ea, hg1, hg2, hg3⟩ := own_form hown.out (by omega)
            injection ea with ea1 _ ea3
            subst ea1
            subst ea3
            obtain ⟨b', o', eb, _, _, _⟩ := strap_at HS.out kw4 (show 0 < n + 1 by omega)
            obtain ⟨rfl, rfl⟩ : b' = b ∧ o' = o := by injection eb with eb; injection eb with e1 e2 _; exact ⟨e1.symm, e2.symm⟩
            clear eb
            have htake : (up l x).take (n + 1) = up l x := List.take_of_length_le (by rw [up_len]; have := HLL.out; omega)
            have hP : SliceOf StrapR 2 q wr (some ⟨g1, 0, none⟩) (n + 1) cap (up l x) := SliceOf.of_owns (htake ▸ hown.out) (rows2_map strapF _ (fun e _ => rfl) (fun e _ => rfl)) (by rw [up_len]; exact HLL.out) (.inr (fun k hk => by have := (hown.out.lt k hk).1; omega))
            have HP := Lib.hid hP
            have zv := kw4.size
            have hqq := dq.cell
            have hqf := dq.free
            have fh := dh.cell
            have NW := Lib.hid (fun (W : World) (k : Kept v2 W) => straps_news HS.out k)
            have LW := Lib.hid (show (l.flatMap strapF).length = (n + 1) * 2 by rw [straps_size, HLL.out])
            have SO := Lib.hid (straps_one (l := l))
            have OF := Lib.hid (one_flat l 5 70)
            clear hP htake fT fp fpf hown lp'
            go_wp2_with fail
            go_cut [] (fun wx => ∃ g' cap' : Nat, Box wx q #[.string nm, .slice (some ⟨g', 0, none⟩) (n + 1 + 1) cap', .int .i64 lo, .int .i64 hi] ∧ wr.heap.size ≤ g' ∧ wx.ownsRow wr.heap.size 31 2 (.slice (some ⟨g', 0, none⟩) (n + 1 + 1) cap') (n + 1 + 1) ((one l 5 70).flatMap strapF) ∧ Only q wr wx)
            case first =>
              generalize lst l = B at *
              obtain ⟨A2, V2⟩ := B
              dsimp only at *
              have w1' : IntKind.i64.wrap (A2 + 5) = A2 + 5 := IntWalk.i64_in _ (by omega)
              have w2' : IntKind.i64.wrap (V2 + 70) = V2 + 70 := IntWalk.i64_in _ (by omega)
              go_region_held3 (fun w' => (w'.cell? ⟨h, 0, none⟩ = some (.int .i64 A2) ∧ w'.cell? ⟨h, 1, none⟩ = some (.int .i64 V2)) ∧ w'.cell? ⟨v2.heap.size, 1, none⟩ = some (.slice (some ⟨b', o', none⟩) (n + 1) tc)) (exact ⟨box2' (by repeat (first | (with_reducible assumption) | (with_reducible apply Box.new; first | (with_reducible rfl) | omega | (simp only [World.size_alloc, World.size_setCell, World.size_drew, size_drewN] <;> omega)) | (with_reducible apply Box.old) | (with_reducible apply Box.drew) | (with_reducible apply Box.drewN) | (with_reducible apply Box.set) | (with_reducible apply Box.other) | (with_reducible apply Box.only_ (by with_reducible assumption)) | (with_reducible apply Box.kept_ (by with_reducible assumption)) | (simp only [World.size_alloc, World.size_setCell, World.size_drew, size_drewN]; omega) | omega | (dsimp only; omega) | rfl | (simp; done))), box1 (by repeat (first | (with_reducible assumption) | (with_reducible apply Box.new; first | (with_reducible rfl) | omega | (simp only [World.size_alloc, World.size_setCell, World.size_drew, size_drewN] <;> omega)) | (with_reducible apply Box.old) | (with_reducible apply Box.drew) | (with_reducible apply Box.drewN) | (with_reducible apply Box.set) | (with_reducible apply Box.other) | (with_reducible apply Box.only_ (by with_reducible assumption)) | (with_reducible apply Box.kept_ (by with_reducible assumption)) | (simp only [World.size_alloc, World.size_setCell, World.size_drew, size_drewN]; omega) | omega | (dsimp only; omega) | rfl | (simp; done)))⟩)
                (first
                  | (refine step_append_lies _ rfl (.tmp 76) (.tmp 78) 24 rfl wr.heap.size 31 i0 (.agg #[.int .i64 0, .int .i64 0]) 2 16 Try.underlying24 HI.out.1 HI.out.2.1 HI.out.2.2.1 HI.out.2.2.2 rfl (by decide) _ 0 [] rfl (by first | exact own_new0 (by first | rfl | simp only [World.size_alloc, World.size_drew]) (by omega) | exact (own_new0 (by first | rfl | simp only [World.size_alloc, World.size_drew]) (by omega)).alloc _) ⟨b', o', none⟩ (n + 1) tc (l.flatMap strapF) rfl LW.out (NW.out _ (by repeat (first | (with_reducible exact Kept.refl _) | (with_reducible assumption) | (with_reducible refine Kept.alloc ?_ _) | (with_reducible refine Kept.drew ?_) | (with_reducible refine Kept.drewN ?_ _) | (with_reducible refine Kept.setCell ?_ ?_ _) | (with_reducible refine Kept.trans ?_ (by with_reducible assumption)) | (simp only [World.size_alloc, World.size_setCell, World.size_drew, size_drewN]; omega) | omega | (dsimp only; omega)))) SO.out (by omega) (by unfold maxLen; omega) (by omega) (by first | omega | (simp only [World.size_alloc, World.size_setCell, World.size_drew, size_drewN]; omega) | (simp only [World.size_alloc, World.size_setCell, World.size_drew, size_drewN])) _ rfl ?_; intro g1 cap1 w1 hown1 hgrow1 hat1 hlt1; simp only [Nat.zero_add, List.nil_append] at hown1; have hgb1 : wr.heap.size ≤ g1 := (hown1.lt g1 rfl).1; have eh1 : Box w1 h #[.int .i64 A2, .int .i64 V2] := box_far (by repeat (first | (with_reducible assumption) | (with_reducible apply Box.new; first | (with_reducible rfl) | omega | (simp only [World.size_alloc, World.size_setCell, World.size_drew, size_drewN] <;> omega)) | (with_reducible apply Box.old) | (with_reducible apply Box.drew) | (with_reducible apply Box.drewN) | (with_reducible apply Box.set) | (with_reducible apply Box.other) | (with_reducible apply Box.only_ (by with_reducible assumption)) | (with_reducible apply Box.kept_ (by with_reducible assumption)) | (simp only [World.size_alloc, World.size_setCell, World.size_drew, size_drewN]; omega) | omega | (dsimp only; omega) | rfl | (simp; done))) hgrow1 (by omega); have eT1 : Box w1 v2.heap.size #[.string nm, .slice (some ⟨b', o', none⟩) (n + 1) tc, .int .i64 lo, .int .i64 hi] := box_far (by repeat (first | (with_reducible assumption) | (with_reducible apply Box.new; first | (with_reducible rfl) | omega | (simp only [World.size_alloc, World.size_setCell, World.size_drew, size_drewN] <;> omega)) | (with_reducible apply Box.old) | (with_reducible apply Box.drew) | (with_reducible apply Box.drewN) | (with_reducible apply Box.set) | (with_reducible apply Box.other) | (with_reducible apply Box.only_ (by with_reducible assumption)) | (with_reducible apply Box.kept_ (by with_reducible assumption)) | (simp only [World.size_alloc, World.size_setCell, World.size_drew, size_drewN]; omega) | omega | (dsimp only; omega) | rfl | (simp; done))) hgrow1 (by omega); have eq1 : Box w1 q #[.string nm, .slice (some ⟨b', o', none⟩) (n + 1) tc, .int .i64 lo, .int .i64 hi] := box_far (by repeat (first | (with_reducible assumption) | (with_reducible apply Box.new; first | (with_reducible rfl) | omega | (simp only [World.size_alloc, World.size_setCell, World.size_drew, size_drewN] <;> omega)) | (with_reducible apply Box.old) | (with_reducible apply Box.drew) | (with_reducible apply Box.drewN) | (with_reducible apply Box.set) | (with_reducible apply Box.other) | (with_reducible apply Box.only_ (by with_reducible assumption)) | (with_reducible apply Box.kept_ (by with_reducible assumption)) | (simp only [World.size_alloc, World.size_setCell, World.size_drew, size_drewN]; omega) | omega | (dsimp only; omega) | rfl | (simp; done))) hgrow1 (by omega); have ok1 : Only q wr w1 := only_far (by repeat (first | (with_reducible exact Only.refl _ _) | (with_reducible assumption) | (with_reducible refine Only.alloc ?_ _) | (with_reducible refine Only.drew ?_) | (with_reducible refine Only.drewN ?_ _) | (with_reducible refine Only.setCell ?_ ?_ _) | (with_reducible refine Only.trans ?_ (by with_reducible assumption)) | (with_reducible refine Only.trans ?_ (Only.of_kept (by with_reducible assumption))) | (simp only [World.size_alloc, World.size_setCell, World.size_drew, size_drewN]; omega) | omega | (dsimp only; omega))) hgrow1 (by omega); have zk1 := hgrow1.size; (try simp only [World.size_alloc, World.size_drew] at zk1); have cq1 := eq1.cell; have fq1 := eq1.free)
                  | (refine step_append_lies _ rfl (.tmp 79) (.tmp 87) 24 rfl wr.heap.size 31 i0 (.agg #[.int .i64 0, .int .i64 0]) 2 16 Try.underlying24 HI.out.1 HI.out.2.1 HI.out.2.2.1 HI.out.2.2.2 rfl (by decide) (.slice (some ⟨g1, 0, none⟩) (n + 1) cap1) (n + 1) (l.flatMap strapF) rfl (by first | exact hown1 | exact hown1.alloc _) _ 1 1 (strapF ⟨A2 + 5, V2 + 70⟩) rfl rfl (by intro j u hj; first | (with_reducible refine strap_newH ?_ hj; first | rfl | omega | (simp only [World.size_alloc, World.size_drew]; done) | (simp only [World.size_alloc, World.size_drew]; omega)) | (refine news_farD hgrow1 ?_ ?_ ?_ <;> (first | (with_reducible refine strap_newH ?_ hj; first | rfl | omega | (simp only [World.size_alloc, World.size_drew]; done) | (simp only [World.size_alloc, World.size_drew]; omega)) | (with_reducible refine strap_newO ?_ hj; first | rfl | omega | (simp only [World.size_alloc, World.size_drew]; done) | (simp only [World.size_alloc, World.size_drew]; omega)) | omega | (simp only [World.size_alloc, World.size_drew]; omega)))) (by intro u hu; simp [strapF] at hu; rcases hu with rfl | rfl <;> rfl) (by omega) (by unfold maxLen; omega) (by omega) (by first | omega | (simp only [World.size_alloc]; omega)) _ rfl ?_; intro g2 cap2 w2 hown2 hgrow2 hat2 hlt2; have hgb2 : wr.heap.size ≤ g2 := (hown2.lt g2 rfl).1; have eh2 : Box w2 h #[.int .i64 A2, .int .i64 V2] := box_far (by repeat (first | (with_reducible assumption) | (with_reducible apply Box.new; first | (with_reducible rfl) | omega | (simp only [World.size_alloc, World.size_setCell, World.size_drew, size_drewN] <;> omega)) | (with_reducible apply Box.old) | (with_reducible apply Box.drew) | (with_reducible apply Box.drewN) | (with_reducible apply Box.set) | (with_reducible apply Box.other) | (with_reducible apply Box.only_ (by with_reducible assumption)) | (with_reducible apply Box.kept_ (by with_reducible assumption)) | (simp only [World.size_alloc, World.size_setCell, World.size_drew, size_drewN]; omega) | omega | (dsimp only; omega) | rfl | (simp; done))) hgrow2 (by omega); have eT2 : Box w2 v2.heap.size #[.string nm, .slice (some ⟨b', o', none⟩) (n + 1) tc, .int .i64 lo, .int .i64 hi] := box_far (by repeat (first | (with_reducible assumption) | (with_reducible apply Box.new; first | (with_reducible rfl) | omega | (simp only [World.size_alloc, World.size_setCell, World.size_drew, size_drewN] <;> omega)) | (with_reducible apply Box.old) | (with_reducible apply Box.drew) | (with_reducible apply Box.drewN) | (with_reducible apply Box.set) | (with_reducible apply Box.other) | (with_reducible apply Box.only_ (by with_reducible assumption)) | (with_reducible apply Box.kept_ (by with_reducible assumption)) | (simp only [World.size_alloc, World.size_setCell, World.size_drew, size_drewN]; omega) | omega | (dsimp only; omega) | rfl | (simp; done))) hgrow2 (by omega); have eq2 : Box w2 q #[.string nm, .slice (some ⟨b', o', none⟩) (n + 1) tc, .int .i64 lo, .int .i64 hi] := box_far (by repeat (first | (with_reducible assumption) | (with_reducible apply Box.new; first | (with_reducible rfl) | omega | (simp only [World.size_alloc, World.size_setCell, World.size_drew, size_drewN] <;> omega)) | (with_reducible apply Box.old) | (with_reducible apply Box.drew) | (with_reducible apply Box.drewN) | (with_reducible apply Box.set) | (with_reducible apply Box.other) | (with_reducible apply Box.only_ (by with_reducible assumption)) | (with_reducible apply Box.kept_ (by with_reducible assumption)) | (simp only [World.size_alloc, World.size_setCell, World.size_drew, size_drewN]; omega) | omega | (dsimp only; omega) | rfl | (simp; done))) hgrow2 (by omega); have ok2 : Only q wr w2 := only_far (by repeat (first | (with_reducible exact Only.refl _ _) | (with_reducible assumption) | (with_reducible refine Only.alloc ?_ _) | (with_reducible refine Only.drew ?_) | (with_reducible refine Only.drewN ?_ _) | (with_reducible refine Only.setCell ?_ ?_ _) | (with_reducible refine Only.trans ?_ (by with_reducible assumption)) | (with_reducible refine Only.trans ?_ (Only.of_kept (by with_reducible assumption))) | (simp only [World.size_alloc, World.size_setCell, World.size_drew, size_drewN]; omega) | omega | (dsimp only; omega))) hgrow2 (by omega); have zk2 := hgrow2.size; (try simp only [World.size_alloc, World.size_drew] at zk2); have cq2 := eq2.cell; have fq2 := eq2.free)
                  | (refine step_append_lies _ rfl (.tmp 79) (.tmp 87) 24 rfl wr.heap.size 31 i0 (.agg #[.int .i64 0, .int .i64 0]) 2 16 Try.underlying24 HI.out.1 HI.out.2.1 HI.out.2.2.1 HI.out.2.2.2 rfl (by decide) (.slice (some ⟨g1, 0, none⟩) (0 + (n + 1)) cap1) (n + 1) (l.flatMap strapF) rfl (by simpa only [Nat.zero_add, List.nil_append] using hown1) _ 1 1 (strapF ⟨A2 + 5, V2 + 70⟩) rfl rfl (by intro j u hj; first | (with_reducible refine strap_newH ?_ hj; first | rfl | omega | (simp only [World.size_alloc, World.size_drew]; done) | (simp only [World.size_alloc, World.size_drew]; omega)) | (refine news_farD hgrow1 ?_ ?_ ?_ <;> (first | (with_reducible refine strap_newH ?_ hj; first | rfl | omega | (simp only [World.size_alloc, World.size_drew]; done) | (simp only [World.size_alloc, World.size_drew]; omega)) | (with_reducible refine strap_newO ?_ hj; first | rfl | omega | (simp only [World.size_alloc, World.size_drew]; done) | (simp only [World.size_alloc, World.size_drew]; omega)) | omega | (simp only [World.size_alloc, World.size_drew]; omega)))) (by intro u hu; simp [strapF] at hu; rcases hu with rfl | rfl <;> rfl) (by omega) (by unfold maxLen; omega) (by omega) (by first | omega | (simp only [World.size_alloc]; omega)) _ rfl ?_; intro g2 cap2 w2 hown2 hgrow2 hat2 hlt2; (try simp only [Nat.zero_add, List.nil_append] at hown2); have hgb2 : wr.heap.size ≤ g2 := (hown2.lt g2 rfl).1; have eh2 : Box w2 h #[.int .i64 A2, .int .i64 V2] := box_far (by repeat (first | (with_reducible assumption) | (with_reducible apply Box.new; first | (with_reducible rfl) | omega | (simp only [World.size_alloc, World.size_setCell, World.size_drew, size_drewN] <;> omega)) | (with_reducible apply Box.old) | (with_reducible apply Box.drew) | (with_reducible apply Box.drewN) | (with_reducible apply Box.set) | (with_reducible apply Box.other) | (with_reducible apply Box.only_ (by with_reducible assumption)) | (with_reducible apply Box.kept_ (by with_reducible assumption)) | (simp only [World.size_alloc, World.size_setCell, World.size_drew, size_drewN]; omega) | omega | (dsimp only; omega) | rfl | (simp; done))) hgrow2 (by omega); have eT2 : Box w2 v2.heap.size #[.string nm, .slice (some ⟨b', o', none⟩) (n + 1) tc, .int .i64 lo, .int .i64 hi] := box_far (by repeat (first | (with_reducible assumption) | (with_reducible apply Box.new; first | (with_reducible rfl) | omega | (simp only [World.size_alloc, World.size_setCell, World.size_drew, size_drewN] <;> omega)) | (with_reducible apply Box.old) | (with_reducible apply Box.drew) | (with_reducible apply Box.drewN) | (with_reducible apply Box.set) | (with_reducible apply Box.other) | (with_reducible apply Box.only_ (by with_reducible assumption)) | (with_reducible apply Box.kept_ (by with_reducible assumption)) | (simp only [World.size_alloc, World.size_setCell, World.size_drew, size_drewN]; omega) | omega | (dsimp only; omega) | rfl | (simp; done))) hgrow2 (by omega); have eq2 : Box w2 q #[.string nm, .slice (some ⟨b', o', none⟩) (n + 1) tc, .int .i64 lo, .int .i64 hi] := box_far (by repeat (first | (with_reducible assumption) | (with_reducible apply Box.new; first | (with_reducible rfl) | omega | (simp only [World.size_alloc, World.size_setCell, World.size_drew, size_drewN] <;> omega)) | (with_reducible apply Box.old) | (with_reducible apply Box.drew) | (with_reducible apply Box.drewN) | (with_reducible apply Box.set) | (with_reducible apply Box.other) | (with_reducible apply Box.only_ (by with_reducible assumption)) | (with_reducible apply Box.kept_ (by with_reducible assumption)) | (simp only [World.size_alloc, World.size_setCell, World.size_drew, size_drewN]; omega) | omega | (dsimp only; omega) | rfl | (simp; done))) hgrow2 (by omega); have ok2 : Only q wr w2 := only_far (by repeat (first | (with_reducible exact Only.refl _ _) | (with_reducible assumption) | (with_reducible refine Only.alloc ?_ _) | (with_reducible refine Only.drew ?_) | (with_reducible refine Only.drewN ?_ _) | (with_reducible refine Only.setCell ?_ ?_ _) | (with_reducible refine Only.trans ?_ (by with_reducible assumption)) | (with_reducible refine Only.trans ?_ (Only.of_kept (by with_reducible assumption))) | (simp only [World.size_alloc, World.size_setCell, World.size_drew, size_drewN]; omega) | omega | (dsimp only; omega))) hgrow2 (by omega); have zk2 := hgrow2.size; (try simp only [World.size_alloc, World.size_drew] at zk2); have cq2 := eq2.cell; have fq2 := eq2.free))
              all_goals
                go_wp2_with fail
                go_meet
                exact ⟨g2, cap2, (by repeat (first | (with_reducible assumption) | (with_reducible apply Box.new; first | (with_reducible rfl) | omega | (simp only [World.size_alloc, World.size_setCell, World.size_drew, size_drewN] <;> omega)) | (with_reducible apply Box.old) | (with_reducible apply Box.drew) | (with_reducible apply Box.drewN) | (with_reducible apply Box.set) | (with_reducible apply Box.other) | (with_reducible apply Box.only_ (by with_reducible assumption)) | (with_reducible apply Box.kept_ (by with_reducible assumption)) | (simp only [World.size_alloc, World.size_setCell, World.size_drew, size_drewN]; omega) | omega | (dsimp only; omega) | rfl | (simp; done))), by omega, by rw [OF.out]; exact (by repeat (first | (with_reducible exact hown2) | (with_reducible refine own_set ?_ ?_) | (with_reducible refine own_only ?_ (by with_reducible assumption) ?_) | (with_reducible refine World.ownsRow.alloc ?_ _) | (with_reducible refine own_drew ?_) | (with_reducible refine own_drewN ?_) | (with_reducible refine own_kept ?_ (by with_reducible assumption)) | omega | (dsimp only; omega))), (by repeat (first | (with_reducible exact Only.refl _ _) | (with_reducible assumption) | (with_reducible refine Only.alloc ?_ _) | (with_reducible refine Only.drew ?_) | (with_reducible refine Only.drewN ?_ _) | (with_reducible refine Only.setCell ?_ ?_ _) | (with_reducible refine Only.trans ?_ (by with_reducible assumption)) | (with_reducible refine Only.trans ?_ (Only.of_kept (by with_reducible assumption))) | (simp only [World.size_alloc, World.size_setCell, World.size_drew, size_drewN]; omega) | omega | (dsimp only; omega)))⟩
            case rest =>
              obtain ⟨g', cap', eq', hg', hown2, oq⟩ := hcut
              have hl := HLL.out
              have hQ : SliceOf StrapR 2 q wc (some ⟨g', 0, none⟩) (n + 1 + 1) cap' (one l 5 70) := SliceOf.of_owns hown2 (rows2_map strapF _ (fun e _ => rfl) (fun e _ => rfl)) (by rw [one_len]; omega) (.inr (fun k hk => by have := (hown2.lt k hk).1; omega))
              have hP2 := HP.out.only StrapR.stays oq
              have ek : Kept v2 wc := Only.kept kw4 oq (by omega)
              have ep : Box wc p #[.string nm, .slice (some ⟨g1, 0, none⟩) (n + 1) cap, .int .i64 lo, .int .i64 hi] := Box.only dp oq (by omega)
              have eT : Box wc v2.heap.size #[.string nm, .slice (some ⟨b', o', none⟩) (n + 1) tc, .int .i64 lo, .int .i64 hi] := Box.only bT oq (by omega)
              have fp := ep.cell
              have fT := eT.cell
              have fq := eq'.cell
              have lp := ep.lt
              have lT := eT.lt
              have lq := eq'.lt
              have v1e := up_vol HO.out OU.out hX
              have v2e := one_vol HO.out OO.out (show (0 : Int) < 5 by decide) hX
              have r1e := room_up HO.out OU.out hX
              have HB := Lib.hid (vol_num HT.out hX)
              have V0 := Lib.hid (fun (W : World) (k : Kept v2 W) => Volume_good X nz (HS.out.kept StrapR.stays k) HO.out hX)
              have V1 := Lib.hid (fun (W : World) (k : Kept wc W) => v1e.2 ▸ Volume_good X nz (hP2.kept StrapR.stays k) OU.out v1e.1)
              have V2 := Lib.hid (fun (W : World) (k : Kept wc W) => v2e.2 ▸ Volume_good X nz (hQ.kept StrapR.stays k) OO.out v2e.1)
              have R0 := Lib.hid (fun (W : World) (k : Kept v2 W) => Room_good X nz (HS.out.kept StrapR.stays k) HO.out hX)
              have R1 := Lib.hid (fun (W : World) (k : Kept wc W) => r1e ▸ Room_good X nz (hP2.kept StrapR.stays k) OU.out v1e.1)
              clear v1e v2e r1e hl
              clear hQ hP2 hown2 dp dq dh bT kw4 oq hqq hqf fh NW LW SO OF HP
              generalize vol l X = M at *
              generalize max 0 (vol l hi - M) = R at *
              obtain ⟨hb0, hb1⟩ := HB.out
              have w1' : IntKind.i64.wrap x = x := IntWalk.i64_in _ (by omega)
              have w2' : IntKind.i64.wrap (M + x) = M + x := IntWalk.i64_in _ (by omega)
              go_wp2_with fail
              refine (V0.out _ (ek.trans (by repeat (first | (with_reducible exact Kept.refl _) | (with_reducible assumption) | (with_reducible refine Kept.alloc ?_ _) | (with_reducible refine Kept.drew ?_) | (with_reducible refine Kept.drewN ?_ _) | (with_reducible refine Kept.setCell ?_ ?_ _) | (with_reducible refine Kept.trans ?_ (by with_reducible assumption)) | (simp only [World.size_alloc, World.size_setCell, World.size_drew, size_drewN]; omega) | omega | (dsimp only; omega))))).mono ?_
              rintro e v4 ⟨rfl, c4⟩
              have c4_c := (kcell c4).1; have c4_f := (kcell c4).2; have c4_z := c4.size; try simp only [World.size_alloc, World.size_setCell, World.size_drew, size_drewN] at c4_c c4_f c4_z
              go_wp2_with fail
              refine (V1.out _ (by repeat (first | (with_reducible exact Kept.refl _) | (with_reducible assumption) | (with_reducible refine Kept.alloc ?_ _) | (with_reducible refine Kept.drew ?_) | (with_reducible refine Kept.drewN ?_ _) | (with_reducible refine Kept.setCell ?_ ?_ _) | (with_reducible refine Kept.trans ?_ (by with_reducible assumption)) | (simp only [World.size_alloc, World.size_setCell, World.size_drew, size_drewN]; omega) | omega | (dsimp only; omega)))).mono ?_
              rintro e v5 ⟨rfl, c5⟩
              have c5_c := (kcell c5).1; have c5_f := (kcell c5).2; have c5_z := c5.size; try simp only [World.size_alloc, World.size_setCell, World.size_drew, size_drewN] at c5_c c5_f c5_z
              go_wp2_with fail
              refine (V2.out _ (by repeat (first | (with_reducible exact Kept.refl _) | (with_reducible assumption) | (with_reducible refine Kept.alloc ?_ _) | (with_reducible refine Kept.drew ?_) | (with_reducible refine Kept.drewN ?_ _) | (with_reducible refine Kept.setCell ?_ ?_ _) | (with_reducible refine Kept.trans ?_ (by with_reducible assumption)) | (simp only [World.size_alloc, World.size_setCell, World.size_drew, size_drewN]; omega) | omega | (dsimp only; omega)))).mono ?_
              rintro e v6 ⟨rfl, c6⟩
              have c6_c := (kcell c6).1; have c6_f := (kcell c6).2; have c6_z := c6.size; try simp only [World.size_alloc, World.size_setCell, World.size_drew, size_drewN] at c6_c c6_f c6_z
              go_wp2_with fail
              refine (R0.out _ (ek.trans (by repeat (first | (with_reducible exact Kept.refl _) | (with_reducible assumption) | (with_reducible refine Kept.alloc ?_ _) | (with_reducible refine Kept.drew ?_) | (with_reducible refine Kept.drewN ?_ _) | (with_reducible refine Kept.setCell ?_ ?_ _) | (with_reducible refine Kept.trans ?_ (by with_reducible assumption)) | (simp only [World.size_alloc, World.size_setCell, World.size_drew, size_drewN]; omega) | omega | (dsimp only; omega))))).mono ?_
              rintro e v7 ⟨rfl, c7⟩
              have c7_c := (kcell c7).1; have c7_f := (kcell c7).2; have c7_z := c7.size; try simp only [World.size_alloc, World.size_setCell, World.size_drew, size_drewN] at c7_c c7_f c7_z
              go_wp2_with fail
              refine (R1.out _ (by repeat (first | (with_reducible exact Kept.refl _) | (with_reducible assumption) | (with_reducible refine Kept.alloc ?_ _) | (with_reducible refine Kept.drew ?_) | (with_reducible refine Kept.drewN ?_ _) | (with_reducible refine Kept.setCell ?_ ?_ _) | (with_reducible refine Kept.trans ?_ (by with_reducible assumption)) | (simp only [World.size_alloc, World.size_setCell, World.size_drew, size_drewN]; omega) | omega | (dsimp only; omega)))).mono ?_
              rintro e v8 ⟨rfl, c8⟩
              have c8_c := (kcell c8).1; have c8_f := (kcell c8).2; have c8_z := c8.size; try simp only [World.size_alloc, World.size_setCell, World.size_drew, size_drewN] at c8_c c8_f c8_z
              go_wp2_with fail
              refine (tankAwake _).mono ?_
              rintro e v9 ⟨rfl, c9⟩
              have c9_c := (kcell c9).1; have c9_f := (kcell c9).2; have c9_z := c9.size; try simp only [World.size_alloc, World.size_setCell, World.size_drew, size_drewN] at c9_c c9_f c9_z
              go_wp2
              go_ret
              exact ⟨rfl, kw2.trans (ek.trans (by repeat (first | (with_reducible exact Kept.refl _) | (with_reducible assumption) | (with_reducible refine Kept.alloc ?_ _) | (with_reducible refine Kept.drew ?_) | (with_reducible refine Kept.drewN ?_ _) | (with_reducible refine Kept.setCell ?_ ?_ _) | (with_reducible refine Kept.trans ?_ (by with_reducible assumption)) | (simp only [World.size_alloc, World.size_setCell, World.size_drew, size_drewN]; omega) | omega | (dsimp only; omega))))⟩
end Go.Proofs.Ytmhncojjpalmeaa
