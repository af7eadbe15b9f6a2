/- The walk of TankStraps. -/
import Derived.Test.YtooojlecefgonaaTankLaws3
namespace Go.Proofs.Ytooojlecefgonaa
open Go.RowKit
set_option linter.unusedVariables false
set_option linter.unusedSimpArgs false

def l3 (A V D : Int) : List Strap := [⟨A, V⟩, ⟨A + D, V + 3 * D⟩, ⟨A + 2 * D, V + 6 * D⟩]
def l2 (A V D : Int) : List Strap := [⟨A, V⟩, ⟨A + 2 * D, V + 6 * D⟩]
theorem seg_lin {a b : Strap} {x k : Int} (h : b.vl - a.vl = k * (b.lv - a.lv)) (hp : 0 < b.lv - a.lv) : segV a b x = a.vl + k * (x - a.lv) := by
  unfold segV
  rw [h, Int.mul_assoc, Int.mul_comm (b.lv - a.lv), ← Int.mul_assoc, Int.mul_ediv_cancel _ (by omega)]
theorem l3_ok {nm : ByteArray} (hn : nameOk nm = true) {A V D : Int} (a0 : 0 ≤ A) (a1 : A ≤ 7000) (v0 : 0 ≤ V) (v1 : V ≤ 7000000) (d0 : 0 < D) (d1 : D ≤ 7000) : tOk nm (l3 A V D) A (A + 2 * D) := by
  refine ⟨hn, ⟨by show 2 ≤ 3; omega, by show 3 ≤ 16; omega⟩, fun i hi => ?_, Int.le_refl _, Int.le_refl _, by omega⟩
  have hi : i < 3 := hi
  obtain rfl | rfl | rfl : i = 0 ∨ i = 1 ∨ i = 2 := by omega
  · exact ⟨⟨⟨a0, by show A ≤ _; omega⟩, v0, by show V ≤ _; omega⟩, fun h => absurd h (by omega)⟩
  · exact ⟨⟨⟨by show 0 ≤ A + D; omega, by show A + D ≤ _; omega⟩, by show 0 ≤ V + 3 * D; omega, by show V + 3 * D ≤ _; omega⟩, fun _ => ⟨by show A < A + D; omega, by show V < V + 3 * D; omega⟩⟩
  · exact ⟨⟨⟨by show 0 ≤ A + 2 * D; omega, by show A + 2 * D ≤ _; omega⟩, by show 0 ≤ V + 6 * D; omega, by show V + 6 * D ≤ _; omega⟩, fun _ => ⟨by show A + D < A + 2 * D; omega, by show V + 3 * D < V + 6 * D; omega⟩⟩
theorem l2_ok {nm : ByteArray} (hn : nameOk nm = true) {A V D : Int} (a0 : 0 ≤ A) (a1 : A ≤ 7000) (v0 : 0 ≤ V) (v1 : V ≤ 7000000) (d0 : 0 < D) (d1 : D ≤ 7000) : tOk nm (l2 A V D) A (A + 2 * D) := by
  refine ⟨hn, ⟨by show 2 ≤ 2; omega, by show 2 ≤ 16; omega⟩, fun i hi => ?_, Int.le_refl _, Int.le_refl _, by omega⟩
  have hi : i < 2 := hi
  obtain rfl | rfl : i = 0 ∨ i = 1 := by omega
  · exact ⟨⟨⟨a0, by show A ≤ _; omega⟩, v0, by show V ≤ _; omega⟩, fun h => absurd h (by omega)⟩
  · exact ⟨⟨⟨by show 0 ≤ A + 2 * D; omega, by show A + 2 * D ≤ _; omega⟩, by show 0 ≤ V + 6 * D; omega, by show V + 6 * D ≤ _; omega⟩, fun _ => ⟨by show A < A + 2 * D; omega, by show V < V + 6 * D; omega⟩⟩
theorem l2_vol {nm : ByteArray} {A V D x : Int} (h : tOk nm (l2 A V D) A (A + 2 * D)) (d0 : 0 < D) (hx : A ≤ x ∧ x ≤ A + 2 * D) : InL (l2 A V D) x ∧ vol (l2 A V D) x = V + 3 * (x - A) := by
  have hin : InL (l2 A V D) x := hx
  refine ⟨hin, ?_⟩
  have har : Around (l2 A V D) x 0 := ⟨by show 0 + 1 < 2; omega, hx.1, hx.2, fun h => absurd h (by omega)⟩
  rw [vol_at (straps_of h) har hin]
  exact seg_lin (a := ⟨A, V⟩) (b := ⟨A + 2 * D, V + 6 * D⟩) (by show V + 6 * D - V = 3 * (A + 2 * D - A); omega) (by show 0 < A + 2 * D - A; omega)
theorem l3_vol {nm : ByteArray} {A V D x : Int} (h : tOk nm (l3 A V D) A (A + 2 * D)) (d0 : 0 < D) (hx : A ≤ x ∧ x ≤ A + 2 * D) : InL (l3 A V D) x ∧ vol (l3 A V D) x = V + 3 * (x - A) := by
  have hin : InL (l3 A V D) x := hx
  refine ⟨hin, ?_⟩
  by_cases hc : x ≤ A + D
  · have har : Around (l3 A V D) x 0 := ⟨by show 0 + 1 < 3; omega, hx.1, hc, fun h => absurd h (by omega)⟩
    rw [vol_at (straps_of h) har hin]
    exact seg_lin (a := ⟨A, V⟩) (b := ⟨A + D, V + 3 * D⟩) (by show V + 3 * D - V = 3 * (A + D - A); omega) (by show 0 < A + D - A; omega)
  · have har : Around (l3 A V D) x 1 := ⟨by show 1 + 1 < 3; omega, by show A + D ≤ x; omega, hx.2, fun _ => by show A + D < x; omega⟩
    rw [vol_at (straps_of h) har hin]
    have := seg_lin (a := ⟨A + D, V + 3 * D⟩) (b := ⟨A + 2 * D, V + 6 * D⟩) (x := x) (k := 3) (by show V + 6 * D - (V + 3 * D) = 3 * (A + 2 * D - (A + D)); omega) (by show 0 < A + 2 * D - (A + D); omega)
    refine this.trans ?_
    show V + 3 * D + 3 * (x - (A + D)) = V + 3 * (x - A)
    omega

set_option maxRecDepth 100000 in
set_option maxHeartbeats 1200000 in
theorem TankStraps_law (a : Option Addr) (len cap : Nat) (x : Int) (w : World) (h : ArgInts w a len cap) (x0 : 0 ≤ x) (x1 : x ≤ 65535) :
    Calls Try.prog 5 #[.slice a len cap, .int .u16 x] w (Ret (.bool true) w) := by
  go_enter Try.func5, Try.ntmps5
  go_wp2_with fail
  refine (New_any _ _ _ _ h).mono ?_
  rintro e w1 ⟨bs, rfl, hs1, k1⟩
  have hlt := hs1.lt
  go_wp2_with fail
  refine (Tank_any _ _ bs hs1).mono ?_
  rintro e v2 ⟨nm, ta, tl, tc, lo, hi, l, hok, nz, ⟨_, u1, u2⟩, rfl, hS, s2, o2⟩
  have kw2 : Kept w v2 := Only.kept k1 o2 hlt.1
  clear h k1 o2 s2 hs1
  have hll := hS.1
  have hmax := hS.2.2.1
  have hcap := hS.2.1
  unfold maxLen at hmax
  have ht := straps_of hok
  have h2 := ht.two
  have hup : stUp (st l 0) (st l 1) := asc_of ht.ok 0 1 (by omega) (by omega)
  have hle : (st l 1).lv ≤ 7000 := by
    by_cases h : l.length = 2
    · unfold lst at u1; rw [h] at u1; exact u1
    · have := (asc_of ht.ok 1 (l.length - 1) (by omega) (by omega)).1
      unfold lst at u1; omega
  have hle2 : (st l 1).vl ≤ 7000000 := by
    by_cases h : l.length = 2
    · unfold lst at u2; rw [h] at u2; exact u2
    · have := (asc_of ht.ok 1 (l.length - 1) (by omega) (by omega)).2
      unfold lst at u2; omega
  obtain ⟨⟨p1, _⟩, p2, _⟩ := (ht.ok 0 (by omega)).1
  obtain ⟨q1, q2⟩ := hup
  have NK := Lib.hid hok.1
  obtain ⟨b, o, rfl, hbw, c0, c1⟩ := strap_at hS (Kept.refl v2) (i := 0) (by omega)
  obtain ⟨b', o', ea, _, c2, c3⟩ := strap_at hS (Kept.refl v2) (i := 1) (by omega)
  obtain ⟨rfl, rfl⟩ : b' = b ∧ o' = o := by injection ea with ea; injection ea with e1 e2 _; exact ⟨e1.symm, e2.symm⟩
  clear ea u1 u2 hok hS ht
  simp only [Nat.zero_mul, Nat.one_mul, Nat.add_zero] at c0 c1 c2 c3
  obtain ⟨n, rfl⟩ : ∃ n, tl = n + 2 := ⟨tl - 2, by omega⟩
  clear hll h2
  generalize (st l 0) = A at *
  generalize (st l 1) = B at *
  obtain ⟨A, V⟩ := A
  obtain ⟨B, V2⟩ := B
  dsimp only at *
  obtain ⟨D, rfl⟩ : ∃ D, B = A + D := ⟨B - A, by omega⟩
  have bT : Box (v2.alloc (Obj.cells #[.string nm, .slice (some ⟨b', o', none⟩) (n + 2) tc, .int .i64 lo, .int .i64 hi] 26)) v2.heap.size #[.string nm, .slice (some ⟨b', o', none⟩) (n + 2) tc, .int .i64 lo, .int .i64 hi] := Box.new rfl
  go_upto_region 2 with fail
  go_cut [6, 7] (fun p q wx => ∃ g h : Nat, p = .pointer (some ⟨g, 0, none⟩) ∧ q = .pointer (some ⟨h, 0, none⟩) ∧ Box wx g #[.int .i64 A, .int .i64 V] ∧ Box wx h #[.int .i64 (A + D), .int .i64 V2] ∧ Box wx v2.heap.size #[.string nm, .slice (some ⟨b', o', none⟩) (n + 2) tc, .int .i64 lo, .int .i64 hi] ∧ Kept v2 wx)
  case first =>
    have g2 : (1 : Int) < (n : Int) + 2 := by omega
    have g3 : (0 : Int) < (n : Int) + 2 := by omega
    go_region
    all_goals
      go_wp2_with fail
      go_meet
      exact ⟨_, _, rfl, rfl, (by repeat (first | (with_reducible assumption) | (with_reducible apply Box.new; first | (with_reducible rfl) | omega | (simp only [World.size_alloc, World.size_setCell, World.size_drew, size_drewN] <;> omega)) | (with_reducible apply Box.old) | (with_reducible apply Box.drew) | (with_reducible apply Box.drewN) | (with_reducible apply Box.set) | (with_reducible apply Box.other) | (with_reducible apply Box.only_ (by with_reducible assumption)) | (with_reducible apply Box.kept_ (by with_reducible assumption)) | (simp only [World.size_alloc, World.size_setCell, World.size_drew, size_drewN]; omega) | omega | (dsimp only; omega) | rfl | (simp; done))), (by repeat (first | (with_reducible assumption) | (with_reducible apply Box.new; first | (with_reducible rfl) | omega | (simp only [World.size_alloc, World.size_setCell, World.size_drew, size_drewN] <;> omega)) | (with_reducible apply Box.old) | (with_reducible apply Box.drew) | (with_reducible apply Box.drewN) | (with_reducible apply Box.set) | (with_reducible apply Box.other) | (with_reducible apply Box.only_ (by with_reducible assumption)) | (with_reducible apply Box.kept_ (by with_reducible assumption)) | (simp only [World.size_alloc, World.size_setCell, World.size_drew, size_drewN]; omega) | omega | (dsimp only; omega) | rfl | (simp; done))), (by repeat (first | (with_reducible assumption) | (with_reducible apply Box.new; first | (with_reducible rfl) | omega | (simp only [World.size_alloc, World.size_setCell, World.size_drew, size_drewN] <;> omega)) | (with_reducible apply Box.old) | (with_reducible apply Box.drew) | (with_reducible apply Box.drewN) | (with_reducible apply Box.set) | (with_reducible apply Box.other) | (with_reducible apply Box.only_ (by with_reducible assumption)) | (with_reducible apply Box.kept_ (by with_reducible assumption)) | (simp only [World.size_alloc, World.size_setCell, World.size_drew, size_drewN]; omega) | omega | (dsimp only; omega) | rfl | (simp; done))), (by repeat (first | (with_reducible exact Kept.refl _) | (with_reducible assumption) | (with_reducible refine Kept.alloc ?_ _) | (with_reducible refine Kept.drew ?_) | (with_reducible refine Kept.drewN ?_ _) | (with_reducible refine Kept.setCell ?_ ?_ _) | (with_reducible refine Kept.trans ?_ (by with_reducible assumption)) | (simp only [World.size_alloc, World.size_setCell, World.size_drew, size_drewN]; omega) | omega | (dsimp only; omega)))⟩
  case rest =>
    clear bT c0 c1 c2 c3
    obtain ⟨w3, rfl⟩ : ∃ w3, w3 = wc := ⟨_, rfl⟩
    obtain ⟨g, h, rfl, rfl, b6, b7, bT, kw3⟩ := hcut
    have f6 := b6.cell
    have f7 := b7.cell
    have fT := bT.cell
    have l6 := b6.lt
    have l7 := b7.lt
    have lT := bT.lt
    have e1' : IntKind.i64.wrap (A + D - A) = D := by rw [show A + D - A = D by omega]; exact IntWalk.i64_in _ (by omega)
    have e2' : IntKind.i64.wrap (A + D) = A + D := IntWalk.i64_in _ (by omega)
    have e3' : IntKind.i64.wrap (3 * D) = 3 * D := IntWalk.i64_in _ (by omega)
    have e4' : IntKind.i64.wrap (V + 3 * D) = V + 3 * D := IntWalk.i64_in _ (by omega)
    have e5' : IntKind.i64.wrap (2 * D) = 2 * D := IntWalk.i64_in _ (by omega)
    have e6' : IntKind.i64.wrap (A + 2 * D) = A + 2 * D := IntWalk.i64_in _ (by omega)
    have e7' : IntKind.i64.wrap (6 * D) = 6 * D := IntWalk.i64_in _ (by omega)
    have e8' : IntKind.i64.wrap (V + 6 * D) = V + 6 * D := IntWalk.i64_in _ (by omega)
    go_upto_region 7 with fail
    -- the straps of two
    have zz := kw3.size
    go_cut [] (fun wx => ∃ g2 : Nat, w3.heap.size + 1 + 1 < g2 ∧ Box wx w3.heap.size #[.string nm, .slice (some ⟨w3.heap.size + 1, 0, none⟩) 3 3, .int .i64 lo, .int .i64 hi] ∧ Box wx (w3.heap.size + 1) #[.int .i64 A, .int .i64 V, .int .i64 (A + D), .int .i64 (V + 3 * D), .int .i64 (A + 2 * D), .int .i64 (V + 6 * D)] ∧ Box wx (w3.heap.size + 1 + 1) #[.string nm, .slice (some ⟨g2, 0, none⟩) 2 2, .int .i64 lo, .int .i64 hi] ∧ Box wx g2 #[.int .i64 A, .int .i64 V, .int .i64 (A + 2 * D), .int .i64 (V + 6 * D)] ∧ Box wx g #[.int .i64 A, .int .i64 V] ∧ Kept v2 wx)
    case first =>
      go_region
      all_goals
        go_wp2_with fail
        go_meet
        refine ⟨_, ?_, (by repeat (first | (with_reducible assumption) | (with_reducible apply Box.new; first | (with_reducible rfl) | omega | (simp only [World.size_alloc, World.size_setCell, World.size_drew, size_drewN] <;> omega)) | (with_reducible apply Box.old) | (with_reducible apply Box.drew) | (with_reducible apply Box.drewN) | (with_reducible apply Box.set) | (with_reducible apply Box.other) | (with_reducible apply Box.only_ (by with_reducible assumption)) | (with_reducible apply Box.kept_ (by with_reducible assumption)) | (simp only [World.size_alloc, World.size_setCell, World.size_drew, size_drewN]; omega) | omega | (dsimp only; omega) | rfl | (simp; done))), (by repeat (first | (with_reducible assumption) | (with_reducible apply Box.new; first | (with_reducible rfl) | omega | (simp only [World.size_alloc, World.size_setCell, World.size_drew, size_drewN] <;> omega)) | (with_reducible apply Box.old) | (with_reducible apply Box.drew) | (with_reducible apply Box.drewN) | (with_reducible apply Box.set) | (with_reducible apply Box.other) | (with_reducible apply Box.only_ (by with_reducible assumption)) | (with_reducible apply Box.kept_ (by with_reducible assumption)) | (simp only [World.size_alloc, World.size_setCell, World.size_drew, size_drewN]; omega) | omega | (dsimp only; omega) | rfl | (simp; done))), (by repeat (first | (with_reducible assumption) | (with_reducible apply Box.new; first | (with_reducible rfl) | omega | (simp only [World.size_alloc, World.size_setCell, World.size_drew, size_drewN] <;> omega)) | (with_reducible apply Box.old) | (with_reducible apply Box.drew) | (with_reducible apply Box.drewN) | (with_reducible apply Box.set) | (with_reducible apply Box.other) | (with_reducible apply Box.only_ (by with_reducible assumption)) | (with_reducible apply Box.kept_ (by with_reducible assumption)) | (simp only [World.size_alloc, World.size_setCell, World.size_drew, size_drewN]; omega) | omega | (dsimp only; omega) | rfl | (simp; done))), (by repeat (first | (with_reducible assumption) | (with_reducible apply Box.new; first | (with_reducible rfl) | omega | (simp only [World.size_alloc, World.size_setCell, World.size_drew, size_drewN] <;> omega)) | (with_reducible apply Box.old) | (with_reducible apply Box.drew) | (with_reducible apply Box.drewN) | (with_reducible apply Box.set) | (with_reducible apply Box.other) | (with_reducible apply Box.only_ (by with_reducible assumption)) | (with_reducible apply Box.kept_ (by with_reducible assumption)) | (simp only [World.size_alloc, World.size_setCell, World.size_drew, size_drewN]; omega) | omega | (dsimp only; omega) | rfl | (simp; done))), (by repeat (first | (with_reducible assumption) | (with_reducible apply Box.new; first | (with_reducible rfl) | omega | (simp only [World.size_alloc, World.size_setCell, World.size_drew, size_drewN] <;> omega)) | (with_reducible apply Box.old) | (with_reducible apply Box.drew) | (with_reducible apply Box.drewN) | (with_reducible apply Box.set) | (with_reducible apply Box.other) | (with_reducible apply Box.only_ (by with_reducible assumption)) | (with_reducible apply Box.kept_ (by with_reducible assumption)) | (simp only [World.size_alloc, World.size_setCell, World.size_drew, size_drewN]; omega) | omega | (dsimp only; omega) | rfl | (simp; done))), (by repeat (first | (with_reducible exact Kept.refl _) | (with_reducible assumption) | (with_reducible refine Kept.alloc ?_ _) | (with_reducible refine Kept.drew ?_) | (with_reducible refine Kept.drewN ?_ _) | (with_reducible refine Kept.setCell ?_ ?_ _) | (with_reducible refine Kept.trans ?_ (by with_reducible assumption)) | (simp only [World.size_alloc, World.size_setCell, World.size_drew, size_drewN]; omega) | omega | (dsimp only; omega)))⟩
        first | omega | (simp only [World.size_alloc, World.size_setCell, World.size_drew, size_drewN]; omega) | (trace_state; fail)
    case rest =>
      clear b7 bT kw3 f6 f7 fT l7 lT
      obtain ⟨g2, hg2, d1, d2, d3, d4, b6, kw4⟩ := hcut
      have f1 := d1.cell
      have f3 := d3.cell
      have f6 := b6.cell
      have m1 := d1.lt
      have m2 := d2.lt
      have m3 := d3.lt
      have m4 := d4.lt
      have f1f := d1.free
      have f3f := d3.free
      go_upto_region 8 with fail
      go_cut [] (fun wx => Box wx w3.heap.size #[.string nm, .slice (some ⟨w3.heap.size + 1, 0, none⟩) 3 3, .int .i64 A, .int .i64 (A + 2 * D)] ∧ Box wx (w3.heap.size + 1) #[.int .i64 A, .int .i64 V, .int .i64 (A + D), .int .i64 (V + 3 * D), .int .i64 (A + 2 * D), .int .i64 (V + 6 * D)] ∧ Box wx (w3.heap.size + 1 + 1) #[.string nm, .slice (some ⟨g2, 0, none⟩) 2 2, .int .i64 A, .int .i64 (A + 2 * D)] ∧ Box wx g2 #[.int .i64 A, .int .i64 V, .int .i64 (A + 2 * D), .int .i64 (V + 6 * D)] ∧ Box wx g #[.int .i64 A, .int .i64 V] ∧ Kept v2 wx)
      case first =>
        go_region
        all_goals
          go_wp2_with fail
          go_meet
          exact ⟨(by repeat (first | (with_reducible assumption) | (with_reducible apply Box.new; first | (with_reducible rfl) | omega | (simp only [World.size_alloc, World.size_setCell, World.size_drew, size_drewN] <;> omega)) | (with_reducible apply Box.old) | (with_reducible apply Box.drew) | (with_reducible apply Box.drewN) | (with_reducible apply Box.set) | (with_reducible apply Box.other) | (with_reducible apply Box.only_ (by with_reducible assumption)) | (with_reducible apply Box.kept_ (by with_reducible assumption)) | (simp only [World.size_alloc, World.size_setCell, World.size_drew, size_drewN]; omega) | omega | (dsimp only; omega) | rfl | (simp; done))), (by repeat (first | (with_reducible assumption) | (with_reducible apply Box.new; first | (with_reducible rfl) | omega | (simp only [World.size_alloc, World.size_setCell, World.size_drew, size_drewN] <;> omega)) | (with_reducible apply Box.old) | (with_reducible apply Box.drew) | (with_reducible apply Box.drewN) | (with_reducible apply Box.set) | (with_reducible apply Box.other) | (with_reducible apply Box.only_ (by with_reducible assumption)) | (with_reducible apply Box.kept_ (by with_reducible assumption)) | (simp only [World.size_alloc, World.size_setCell, World.size_drew, size_drewN]; omega) | omega | (dsimp only; omega) | rfl | (simp; done))), (by repeat (first | (with_reducible assumption) | (with_reducible apply Box.new; first | (with_reducible rfl) | omega | (simp only [World.size_alloc, World.size_setCell, World.size_drew, size_drewN] <;> omega)) | (with_reducible apply Box.old) | (with_reducible apply Box.drew) | (with_reducible apply Box.drewN) | (with_reducible apply Box.set) | (with_reducible apply Box.other) | (with_reducible apply Box.only_ (by with_reducible assumption)) | (with_reducible apply Box.kept_ (by with_reducible assumption)) | (simp only [World.size_alloc, World.size_setCell, World.size_drew, size_drewN]; omega) | omega | (dsimp only; omega) | rfl | (simp; done))), (by repeat (first | (with_reducible assumption) | (with_reducible apply Box.new; first | (with_reducible rfl) | omega | (simp only [World.size_alloc, World.size_setCell, World.size_drew, size_drewN] <;> omega)) | (with_reducible apply Box.old) | (with_reducible apply Box.drew) | (with_reducible apply Box.drewN) | (with_reducible apply Box.set) | (with_reducible apply Box.other) | (with_reducible apply Box.only_ (by with_reducible assumption)) | (with_reducible apply Box.kept_ (by with_reducible assumption)) | (simp only [World.size_alloc, World.size_setCell, World.size_drew, size_drewN]; omega) | omega | (dsimp only; omega) | rfl | (simp; done))), (by repeat (first | (with_reducible assumption) | (with_reducible apply Box.new; first | (with_reducible rfl) | omega | (simp only [World.size_alloc, World.size_setCell, World.size_drew, size_drewN] <;> omega)) | (with_reducible apply Box.old) | (with_reducible apply Box.drew) | (with_reducible apply Box.drewN) | (with_reducible apply Box.set) | (with_reducible apply Box.other) | (with_reducible apply Box.only_ (by with_reducible assumption)) | (with_reducible apply Box.kept_ (by with_reducible assumption)) | (simp only [World.size_alloc, World.size_setCell, World.size_drew, size_drewN]; omega) | omega | (dsimp only; omega) | rfl | (simp; done))), (by repeat (first | (with_reducible exact Kept.refl _) | (with_reducible assumption) | (with_reducible refine Kept.alloc ?_ _) | (with_reducible refine Kept.drew ?_) | (with_reducible refine Kept.drewN ?_ _) | (with_reducible refine Kept.setCell ?_ ?_ _) | (with_reducible refine Kept.trans ?_ (by with_reducible assumption)) | (simp only [World.size_alloc, World.size_setCell, World.size_drew, size_drewN]; omega) | omega | (dsimp only; omega)))⟩
      case rest =>
        clear d1 d2 d3 d4 b6 kw4 f1 f3 f6 m1 m2 m3 m4 f1f f3f
        obtain ⟨d1, d2, d3, d4, b6, kw4⟩ := hcut
        have f6 := b6.cell
        have m6 := b6.lt
        have m1 := d1.lt
        go_upto_region 9 with fail
        go_cut [11] (fun s wx => ∃ X : Int, s = .int .i64 X ∧ (A ≤ X ∧ X ≤ A + 2 * D) ∧ Box wx w3.heap.size #[.string nm, .slice (some ⟨w3.heap.size + 1, 0, none⟩) 3 3, .int .i64 A, .int .i64 (A + 2 * D)] ∧ Box wx (w3.heap.size + 1) #[.int .i64 A, .int .i64 V, .int .i64 (A + D), .int .i64 (V + 3 * D), .int .i64 (A + 2 * D), .int .i64 (V + 6 * D)] ∧ Box wx (w3.heap.size + 1 + 1) #[.string nm, .slice (some ⟨g2, 0, none⟩) 2 2, .int .i64 A, .int .i64 (A + 2 * D)] ∧ Box wx g2 #[.int .i64 A, .int .i64 V, .int .i64 (A + 2 * D), .int .i64 (V + 6 * D)] ∧ Box wx g #[.int .i64 A, .int .i64 V] ∧ Kept v2 wx)
        case first =>
          have r0 := Int.emod_nonneg x (show 2 * D + 1 ≠ 0 by omega)
          have r1 := Int.emod_lt_of_pos x (show 0 < 2 * D + 1 by omega)
          have w2' : IntKind.i64.wrap (2 * D + 1) = 2 * D + 1 := IntWalk.i64_in _ (by omega)
          have w3' : x.tmod (2 * D + 1) = x % (2 * D + 1) := Int.tmod_eq_emod_of_nonneg x0
          have w4' : IntKind.i64.wrap (x % (2 * D + 1)) = x % (2 * D + 1) := IntWalk.i64_in _ (by omega)
          have w5' : IntKind.i64.wrap (A + x % (2 * D + 1)) = A + x % (2 * D + 1) := IntWalk.i64_in _ (by omega)
          have w6' : (2 * D + 1 == 0) = false := by rw [beq_eq_false_iff_ne]; omega
          have w7' : IntKind.i64.wrap x = x := IntWalk.i64_in _ (by omega)
          go_quiet (fail)
          go_wp2
          go_meet
          exact ⟨_, rfl, ⟨by omega, by omega⟩, (by repeat (first | (with_reducible assumption) | (with_reducible apply Box.new; first | (with_reducible rfl) | omega | (simp only [World.size_alloc, World.size_setCell, World.size_drew, size_drewN] <;> omega)) | (with_reducible apply Box.old) | (with_reducible apply Box.drew) | (with_reducible apply Box.drewN) | (with_reducible apply Box.set) | (with_reducible apply Box.other) | (with_reducible apply Box.only_ (by with_reducible assumption)) | (with_reducible apply Box.kept_ (by with_reducible assumption)) | (simp only [World.size_alloc, World.size_setCell, World.size_drew, size_drewN]; omega) | omega | (dsimp only; omega) | rfl | (simp; done))), (by repeat (first | (with_reducible assumption) | (with_reducible apply Box.new; first | (with_reducible rfl) | omega | (simp only [World.size_alloc, World.size_setCell, World.size_drew, size_drewN] <;> omega)) | (with_reducible apply Box.old) | (with_reducible apply Box.drew) | (with_reducible apply Box.drewN) | (with_reducible apply Box.set) | (with_reducible apply Box.other) | (with_reducible apply Box.only_ (by with_reducible assumption)) | (with_reducible apply Box.kept_ (by with_reducible assumption)) | (simp only [World.size_alloc, World.size_setCell, World.size_drew, size_drewN]; omega) | omega | (dsimp only; omega) | rfl | (simp; done))), (by repeat (first | (with_reducible assumption) | (with_reducible apply Box.new; first | (with_reducible rfl) | omega | (simp only [World.size_alloc, World.size_setCell, World.size_drew, size_drewN] <;> omega)) | (with_reducible apply Box.old) | (with_reducible apply Box.drew) | (with_reducible apply Box.drewN) | (with_reducible apply Box.set) | (with_reducible apply Box.other) | (with_reducible apply Box.only_ (by with_reducible assumption)) | (with_reducible apply Box.kept_ (by with_reducible assumption)) | (simp only [World.size_alloc, World.size_setCell, World.size_drew, size_drewN]; omega) | omega | (dsimp only; omega) | rfl | (simp; done))), (by repeat (first | (with_reducible assumption) | (with_reducible apply Box.new; first | (with_reducible rfl) | omega | (simp only [World.size_alloc, World.size_setCell, World.size_drew, size_drewN] <;> omega)) | (with_reducible apply Box.old) | (with_reducible apply Box.drew) | (with_reducible apply Box.drewN) | (with_reducible apply Box.set) | (with_reducible apply Box.other) | (with_reducible apply Box.only_ (by with_reducible assumption)) | (with_reducible apply Box.kept_ (by with_reducible assumption)) | (simp only [World.size_alloc, World.size_setCell, World.size_drew, size_drewN]; omega) | omega | (dsimp only; omega) | rfl | (simp; done))), (by repeat (first | (with_reducible assumption) | (with_reducible apply Box.new; first | (with_reducible rfl) | omega | (simp only [World.size_alloc, World.size_setCell, World.size_drew, size_drewN] <;> omega)) | (with_reducible apply Box.old) | (with_reducible apply Box.drew) | (with_reducible apply Box.drewN) | (with_reducible apply Box.set) | (with_reducible apply Box.other) | (with_reducible apply Box.only_ (by with_reducible assumption)) | (with_reducible apply Box.kept_ (by with_reducible assumption)) | (simp only [World.size_alloc, World.size_setCell, World.size_drew, size_drewN]; omega) | omega | (dsimp only; omega) | rfl | (simp; done))), (by repeat (first | (with_reducible exact Kept.refl _) | (with_reducible assumption) | (with_reducible refine Kept.alloc ?_ _) | (with_reducible refine Kept.drew ?_) | (with_reducible refine Kept.drewN ?_ _) | (with_reducible refine Kept.setCell ?_ ?_ _) | (with_reducible refine Kept.trans ?_ (by with_reducible assumption)) | (simp only [World.size_alloc, World.size_setCell, World.size_drew, size_drewN]; omega) | omega | (dsimp only; omega)))⟩
        case rest =>
          clear d1 d2 d3 d4 b6 kw4 f6 m6 m1
          obtain ⟨X, rfl, hX, d1, d2, d3, d4, b6, kw4⟩ := hcut
          have f1 := d1.cell
          have f3 := d3.cell
          have m1 := d1.lt
          have m3 := d3.lt
          have t3 := l3_ok (nm := nm) NK.out p1 (by omega) p2 (by omega) (show 0 < D by omega) (by omega)
          have t2 := l2_ok (nm := nm) NK.out p1 (by omega) p2 (by omega) (show 0 < D by omega) (by omega)
          have i3 := l3_vol t3 (by omega) hX
          have i2 := l2_vol t2 (by omega) hX
          have S3 : SliceOf StrapR 2 w3.heap.size wc (some ⟨w3.heap.size + 1, 0, none⟩) 3 3 (l3 A V D) := slice_of_box (l := l3 A V D) d2 rfl rfl rfl (by omega) (by omega)
          have S2 : SliceOf StrapR 2 w3.heap.size wc (some ⟨g2, 0, none⟩) 2 2 (l2 A V D) := slice_of_box (l := l2 A V D) d4 rfl rfl rfl (by omega) (by omega)
          have H3 := Lib.hid (fun W k => i3.2 ▸ Volume_good X nz (S3.kept StrapR.stays (w' := W) k) t3 i3.1)
          have H2 := Lib.hid (fun W k => i2.2 ▸ Volume_good X nz (S2.kept StrapR.stays (w' := W) k) t2 i2.1)
          clear t3 t2 i3 i2 S3 S2 d2 d4 b6
          generalize V + 3 * (X - A) = M at *
          go_wp2_with fail
          refine (H3.out _ (by repeat (first | (with_reducible exact Kept.refl _) | (with_reducible assumption) | (with_reducible refine Kept.alloc ?_ _) | (with_reducible refine Kept.drew ?_) | (with_reducible refine Kept.drewN ?_ _) | (with_reducible refine Kept.setCell ?_ ?_ _) | (with_reducible refine Kept.trans ?_ (by with_reducible assumption)) | (simp only [World.size_alloc, World.size_setCell, World.size_drew, size_drewN]; omega) | omega | (dsimp only; omega)))).mono ?_
          rintro e v4 ⟨rfl, c4⟩
          have c4_c := (kcell c4).1; have c4_f := (kcell c4).2; have c4_z := c4.size; try simp only [World.size_alloc, World.size_setCell, World.size_drew, size_drewN] at c4_c c4_f c4_z
          go_wp2_with fail
          refine (H2.out _ (by repeat (first | (with_reducible exact Kept.refl _) | (with_reducible assumption) | (with_reducible refine Kept.alloc ?_ _) | (with_reducible refine Kept.drew ?_) | (with_reducible refine Kept.drewN ?_ _) | (with_reducible refine Kept.setCell ?_ ?_ _) | (with_reducible refine Kept.trans ?_ (by with_reducible assumption)) | (simp only [World.size_alloc, World.size_setCell, World.size_drew, size_drewN]; omega) | omega | (dsimp only; omega)))).mono ?_
          rintro e v5 ⟨rfl, c5⟩
          have c5_c := (kcell c5).1; have c5_f := (kcell c5).2; have c5_z := c5.size; try simp only [World.size_alloc, World.size_setCell, World.size_drew, size_drewN] at c5_c c5_f c5_z
          go_wp2_with fail
          refine (tankAwake _).mono ?_
          rintro e v6 ⟨rfl, c6⟩
          have c6_c := (kcell c6).1; have c6_f := (kcell c6).2; have c6_z := c6.size; try simp only [World.size_alloc, World.size_setCell, World.size_drew, size_drewN] at c6_c c6_f c6_z
          go_wp2
          go_ret
          exact ⟨rfl, kw2.trans (by repeat (first | (with_reducible exact Kept.refl _) | (with_reducible assumption) | (with_reducible refine Kept.alloc ?_ _) | (with_reducible refine Kept.drew ?_) | (with_reducible refine Kept.drewN ?_ _) | (with_reducible refine Kept.setCell ?_ ?_ _) | (with_reducible refine Kept.trans ?_ (by with_reducible assumption)) | (simp only [World.size_alloc, World.size_setCell, World.size_drew, size_drewN]; omega) | omega | (dsimp only; omega)))⟩
end Go.Proofs.Ytooojlecefgonaa
