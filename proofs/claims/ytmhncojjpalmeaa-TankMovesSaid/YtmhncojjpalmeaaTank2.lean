/- The volume at a level: the walks of both volume functions. -/
import Derived.Test.YtmhncojjpalmeaaTank
import Derived.Test.YtmhncojjpalmeaaSearch
import Derived.Deep.DeepCutAuto
namespace Go.Proofs.Ytmhncojjpalmeaa
open Go.RowKit
set_option linter.unusedVariables false
set_option linter.unusedSimpArgs false

/-- The levels ascend. -/
def Asc (l : List Strap) : Prop := ∀ a b, a < b → b < l.length → stUp (st l a) (st l b)
theorem asc_of {l : List Strap} (h : ∀ i, i < l.length → stOk l i) : Asc l := by
  intro a b hab
  induction b with
  | zero => omega
  | succ b ih =>
    intro hb
    have h1 := (h (b + 1) hb).2 (by omega)
    rw [Nat.add_sub_cancel] at h1
    rcases Nat.lt_or_eq_of_le (Nat.lt_succ_iff.1 hab) with h2 | rfl
    · have := ih h2 (by omega)
      unfold stUp at *
      omega
    · exact h1
/-- The straps j and j + 1 are those around the level x. -/
def Around (l : List Strap) (x : Int) (j : Nat) : Prop :=
  j + 1 < l.length ∧ (st l j).lv ≤ x ∧ x ≤ (st l (j + 1)).lv ∧ (0 < j → (st l j).lv < x)
def segV (a b : Strap) (x : Int) : Int := a.vl + (b.vl - a.vl) * (x - a.lv) / (b.lv - a.lv)
theorem around_lt {l : List Strap} {x : Int} {j k : Nat} (h : Around l x j) (ha : Asc l) (hk : k ≤ j) (h0 : 0 < k) : (st l k).lv < x := by
  have h1 := h.2.2.2 (by omega)
  rcases Nat.lt_or_eq_of_le hk with h2 | rfl
  · have := ha k j h2 (by have := h.1; omega)
    unfold stUp at this; omega
  · exact h1
theorem around_ge {l : List Strap} {x : Int} {j k : Nat} (h : Around l x j) (ha : Asc l) (hk : j < k) (hl : k < l.length) : x ≤ (st l k).lv := by
  have h1 := h.2.2.1
  rcases Nat.lt_or_eq_of_le (show j + 1 ≤ k by omega) with h2 | rfl
  · have := ha (j + 1) k h2 hl
    unfold stUp at this; omega
  · exact h1
/-- The numbers of a segment. -/
structure SegOk (a b : Strap) (x : Int) : Prop where
  na : stNum a
  nb : stNum b
  up : stUp a b
  lo : a.lv ≤ x
  hi : x ≤ b.lv
theorem segOk_of {l : List Strap} {x : Int} {j : Nat} (h : Around l x j) (hs : ∀ i, i < l.length → stOk l i) : SegOk (st l j) (st l (j + 1)) x :=
  ⟨(hs j (by have := h.1; omega)).1, (hs (j + 1) h.1).1, asc_of hs j (j + 1) (by omega) h.1, h.2.1, h.2.2.1⟩
theorem seg_bd {a b : Strap} {x : Int} (h : SegOk a b x) : (0 ≤ (b.vl - a.vl) * (x - a.lv) ∧ (b.vl - a.vl) * (x - a.lv) ≤ 1099511627776 * 1048576) ∧
    (0 ≤ (b.vl - a.vl) * (x - a.lv) / (b.lv - a.lv) ∧ (b.vl - a.vl) * (x - a.lv) / (b.lv - a.lv) ≤ b.vl - a.vl) ∧ (a.vl ≤ segV a b x ∧ segV a b x ≤ b.vl) := by
  obtain ⟨⟨⟨a1, a2⟩, a3, a4⟩, ⟨⟨b1, b2⟩, b3, b4⟩, ⟨u1, u2⟩, l1, l2⟩ := h
  have m0 : 0 ≤ (b.vl - a.vl) * (x - a.lv) := Int.mul_nonneg (by omega) (by omega)
  have m1 : (b.vl - a.vl) * (x - a.lv) ≤ 1099511627776 * 1048576 := Int.le_trans (Int.mul_le_mul_of_nonneg_right (show b.vl - a.vl ≤ 1099511627776 by omega) (by omega)) (Int.mul_le_mul_of_nonneg_left (by omega) (by omega))
  have m2 : (b.vl - a.vl) * (x - a.lv) ≤ (b.vl - a.vl) * (b.lv - a.lv) := Int.mul_le_mul_of_nonneg_left (by omega) (by omega)
  have d0 : 0 ≤ (b.vl - a.vl) * (x - a.lv) / (b.lv - a.lv) := Int.ediv_nonneg m0 (by omega)
  have d1 : (b.vl - a.vl) * (x - a.lv) / (b.lv - a.lv) ≤ b.vl - a.vl := Int.ediv_le_of_le_mul (by omega) m2
  refine ⟨⟨m0, m1⟩, ⟨d0, d1⟩, ?_⟩
  unfold segV
  omega

set_option maxHeartbeats 1000000 in
theorem volFn_any (nm : ByteArray) (b o len cap : Nat) (lo hi x : Int) (l : List Strap) (p1 p2 z : Nat) (i : Nat) (w : World) (hS : SliceOf StrapR 2 z w (some ⟨b, o, none⟩) len cap l) (hi' : i < len)
    (h1 : Box w p1 #[.string nm, .slice (some ⟨b, o, none⟩) len cap, .int .i64 lo, .int .i64 hi]) (h2 : Box w p2 #[.int .i64 x]) :
    Calls Try.prog 33 #[.int .i64 i, .pointer (some ⟨p1, 0, none⟩), .pointer (some ⟨p2, 0, none⟩)] w (Ret (.bool (decide (x ≤ (st l i).lv))) w) := by
  have hmax := hS.2.2.1
  have hcap := hS.2.1
  unfold maxLen at hmax
  obtain ⟨b', o', ea, hbw, c0, c1⟩ := strap_at hS (Kept.refl w) hi'
  obtain ⟨rfl, rfl⟩ : b' = b ∧ o' = o := by injection ea with ea; injection ea with e1 e2 _; exact ⟨e1.symm, e2.symm⟩
  clear ea hS
  have e1 := h1.cell
  have e2 := h2.cell
  have l1 := h1.lt
  have l2 := h2.lt
  generalize (st l i).lv = X at *
  have g2 : (i : Int) < (len : Int) := by omega
  go_enter Try.func33, Try.ntmps33
  go_wp2_with fail
  go_quiet (fail)
  go_wp2
  go_ret
  exact ⟨rfl, (by repeat (first | (with_reducible exact Kept.refl _) | (with_reducible assumption) | (with_reducible refine Kept.alloc ?_ _) | (with_reducible refine Kept.drew ?_) | (with_reducible refine Kept.drewN ?_ _) | (with_reducible refine Kept.setCell ?_ ?_ _) | (with_reducible refine Kept.trans ?_ (by with_reducible assumption)) | (simp only [World.size_alloc, World.size_setCell, World.size_drew, size_drewN]; omega) | omega | (dsimp only; omega)))⟩

theorem iv {k : IntKind} {a b : Int} (h : a = b) : Value.int k a = Value.int k b := by rw [h]
set_option maxRecDepth 100000 in
set_option maxHeartbeats 4000000 in
theorem volume_in (nm : ByteArray) (a : Option Addr) (len cap : Nat) (lo hi x : Int) (l : List Strap) (z j : Nat) (w : World) (hS : SliceOf StrapR 2 z w a len cap l) (hlen : l.length ≤ 16) (hok : ∀ i, i < l.length → stOk l i) (hj : Around l x j) :
    Calls Try.prog 23 #[tnk nm a len cap lo hi, .int .i64 x] w (Ret (.int .i64 (segV (st l j) (st l (j + 1)) x)) w) := by
  have hll := hS.1
  have hmax := hS.2.2.1
  have hcap := hS.2.1
  unfold maxLen at hmax
  have hj1 := hj.1
  obtain ⟨b, o, ea, hbw, _⟩ := strap_at hS (Kept.refl w) (i := 0) (by omega)
  subst ea
  have HS := Lib.hid hS
  have HA := Lib.hid (asc_of hok)
  have HG := Lib.hid (segOk_of hj hok)
  have HJ := Lib.hid hj
  have HLL := Lib.hid hll
  have jl : j + 1 < len := by omega
  have l16 : len ≤ 16 := by omega
  clear hS hok hj hll hj1 hlen
  go_enter Try.func23, Try.ntmps23
  go_upto_region 1 with fail
  go_cut [5] (fun sv wx => sv = .int .i64 (j + 1) ∧ Kept w wx ∧ Box wx w.heap.size #[.string nm, .slice (some ⟨b, o, none⟩) len cap, .int .i64 lo, .int .i64 hi] ∧ Box wx (w.heap.size + 1) #[.int .i64 x])
  case first =>
    go_wp2_with fail
    refine (Search_vol _ _ len (fun i => decide (x ≤ (st l i).lv)) _ (by omega) (fun i W hi' hk => volFn_any nm b o len cap lo hi x l _ _ z i W (HS.out.kept StrapR.stays (Kept.trans (by repeat (first | (with_reducible exact Kept.refl _) | (with_reducible assumption) | (with_reducible refine Kept.alloc ?_ _) | (with_reducible refine Kept.drew ?_) | (with_reducible refine Kept.drewN ?_ _) | (with_reducible refine Kept.setCell ?_ ?_ _) | (with_reducible refine Kept.trans ?_ (by with_reducible assumption)) | (simp only [World.size_alloc, World.size_setCell, World.size_drew, size_drewN]; omega) | omega | (dsimp only; omega))) hk)) hi' (Box.kept (Box.old (Box.new rfl) _) hk) (Box.kept (Box.new (by simp)) hk))).mono ?_
    rintro e v1 ⟨r, hr, r1, r2, rfl, k1⟩
    have hrj : r = j + 1 ∨ (r = 0 ∧ j = 0) := by
      have hlen := HLL.out
      have ge := fun k => around_ge (k := k) HJ.out HA.out
      have lt := fun k => around_lt (k := k) HJ.out HA.out
      rcases r1 with r1 | r1
      · subst r1
        right
        refine ⟨rfl, ?_⟩
        rcases r2 with r2 | r2
        · omega
        · rcases Nat.eq_zero_or_pos j with h | h
          · exact h
          · have h1 := HJ.out.2.2.2 h
            have h2 := (HA.out 0 j h (by omega)).1
            have h3 := of_decide_eq_true r2
            omega
      · have r1' := of_decide_eq_false r1
        rcases Nat.eq_zero_or_pos r with h | h
        · subst h
          right
          refine ⟨rfl, ?_⟩
          rcases r2 with r2 | r2
          · omega
          · rcases Nat.eq_zero_or_pos j with h | h
            · exact h
            · have h1 := HJ.out.2.2.2 h
              have h2 := (HA.out 0 j h (by omega)).1
              have h3 := of_decide_eq_true r2
              omega
        · left
          have q1 : r - 1 ≤ j := by
            rcases Nat.lt_or_ge j (r - 1) with h' | h'
            · exact absurd (ge (r - 1) h' (by omega)) r1'
            · exact h'
          rcases r2 with r2 | r2
          · omega
          · have r2' := of_decide_eq_true r2
            rcases Nat.lt_or_eq_of_le (show r ≤ j + 1 by omega) with h' | h'
            · have := lt r (by omega) h
              omega
            · exact h'
    have kw1 : Kept w v1 := Kept.trans (by repeat (first | (with_reducible exact Kept.refl _) | (with_reducible assumption) | (with_reducible refine Kept.alloc ?_ _) | (with_reducible refine Kept.drew ?_) | (with_reducible refine Kept.drewN ?_ _) | (with_reducible refine Kept.setCell ?_ ?_ _) | (with_reducible refine Kept.trans ?_ (by with_reducible assumption)) | (simp only [World.size_alloc, World.size_setCell, World.size_drew, size_drewN]; omega) | omega | (dsimp only; omega))) k1
    have bT : Box v1 w.heap.size #[.string nm, .slice (some ⟨b, o, none⟩) len cap, .int .i64 lo, .int .i64 hi] := Box.kept (Box.old (Box.new rfl) _) k1
    have bX : Box v1 (w.heap.size + 1) #[.int .i64 x] := Box.kept (Box.new (by simp)) k1
    clear r1 r2 k1
    rcases hrj with rfl | ⟨rfl, rfl⟩
    all_goals
      go_wp2_with fail
    all_goals
      go_meet
      exact ⟨iv (by omega), kw1, bT, bX⟩
  case rest =>
    obtain ⟨rfl, kw1, bT, bX⟩ := hcut
    obtain ⟨b', o', ea, _, c0, c1⟩ := strap_at HS.out kw1 (i := j) (by omega)
    obtain ⟨rfl, rfl⟩ : b' = b ∧ o' = o := by injection ea with ea; injection ea with e1 e2 _; exact ⟨e1.symm, e2.symm⟩
    obtain ⟨b'', o'', ea, _, d0, d1⟩ := strap_at HS.out kw1 (i := j + 1) (by omega)
    obtain ⟨rfl, rfl⟩ : b'' = b' ∧ o'' = o' := by injection ea with ea; injection ea with e1 e2 _; exact ⟨e1.symm, e2.symm⟩
    clear ea
    have zk := bX.lt
    have zb : b'' < wc.heap.size := Nat.lt_of_lt_of_le hbw kw1.size
    have eT := bT.cell
    have g1 : IntKind.i64.wrap ((j : Int) + 1 - 1) = j := by rw [show (j : Int) + 1 - 1 = j by omega]; exact IntWalk.i64_in _ (by omega)
    have g2 : (j : Int) < (len : Int) := by omega
    have g3 : (j : Int) + 1 < (len : Int) := by omega
    have g4 : ((j : Int) + 1).toNat = j + 1 := by omega
    generalize hA1 : st l j = A at *
    generalize hB1 : st l (j + 1) = B at *
    clear hA1 hB1
    obtain ⟨A1, V1⟩ := A
    obtain ⟨A2, V2⟩ := B
    dsimp only at c0 c1 d0 d1
    go_upto_region 2 with fail
    go_cut [6, 7] (fun p q wx => ∃ g h : Nat, p = .pointer (some ⟨g, 0, none⟩) ∧ q = .pointer (some ⟨h, 0, none⟩) ∧ Box wx g #[.int .i64 A1, .int .i64 V1] ∧ Box wx h #[.int .i64 A2, .int .i64 V2] ∧ Box wx (w.heap.size + 1) #[.int .i64 x] ∧ Kept w wx)
    case first =>
      go_region
      all_goals
        go_wp2_with fail
        go_meet
        exact ⟨_, _, rfl, rfl, (by repeat (first | (with_reducible assumption) | (with_reducible apply Box.new; first | (with_reducible rfl) | omega | (simp only [World.size_alloc, World.size_setCell, World.size_drew, size_drewN] <;> omega)) | (with_reducible apply Box.old) | (with_reducible apply Box.drew) | (with_reducible apply Box.drewN) | (with_reducible apply Box.set) | (with_reducible apply Box.other) | (with_reducible apply Box.only_ (by with_reducible assumption)) | (with_reducible apply Box.kept_ (by with_reducible assumption)) | (simp only [World.size_alloc, World.size_setCell, World.size_drew, size_drewN]; omega) | omega | (dsimp only; omega) | rfl | (simp; done))), (by repeat (first | (with_reducible assumption) | (with_reducible apply Box.new; first | (with_reducible rfl) | omega | (simp only [World.size_alloc, World.size_setCell, World.size_drew, size_drewN] <;> omega)) | (with_reducible apply Box.old) | (with_reducible apply Box.drew) | (with_reducible apply Box.drewN) | (with_reducible apply Box.set) | (with_reducible apply Box.other) | (with_reducible apply Box.only_ (by with_reducible assumption)) | (with_reducible apply Box.kept_ (by with_reducible assumption)) | (simp only [World.size_alloc, World.size_setCell, World.size_drew, size_drewN]; omega) | omega | (dsimp only; omega) | rfl | (simp; done))), (by repeat (first | (with_reducible assumption) | (with_reducible apply Box.new; first | (with_reducible rfl) | omega | (simp only [World.size_alloc, World.size_setCell, World.size_drew, size_drewN] <;> omega)) | (with_reducible apply Box.old) | (with_reducible apply Box.drew) | (with_reducible apply Box.drewN) | (with_reducible apply Box.set) | (with_reducible apply Box.other) | (with_reducible apply Box.only_ (by with_reducible assumption)) | (with_reducible apply Box.kept_ (by with_reducible assumption)) | (simp only [World.size_alloc, World.size_setCell, World.size_drew, size_drewN]; omega) | omega | (dsimp only; omega) | rfl | (simp; done))), (by repeat (first | (with_reducible exact Kept.refl _) | (with_reducible assumption) | (with_reducible refine Kept.alloc ?_ _) | (with_reducible refine Kept.drew ?_) | (with_reducible refine Kept.drewN ?_ _) | (with_reducible refine Kept.setCell ?_ ?_ _) | (with_reducible refine Kept.trans ?_ (by with_reducible assumption)) | (simp only [World.size_alloc, World.size_setCell, World.size_drew, size_drewN]; omega) | omega | (dsimp only; omega)))⟩
    case rest =>
      clear bT bX kw1 c0 c1 d0 d1 eT zk zb g1 g2 g3 g4
      obtain ⟨g, h, rfl, rfl, b6, b7, bX, kw2⟩ := hcut
      have e6 := b6.cell
      have e7 := b7.cell
      have eX := bX.cell
      have l6 := b6.lt
      have l7 := b7.lt
      have lX := bX.lt
      obtain ⟨m, d, v⟩ := seg_bd HG.out
      have HV := Lib.hid (show segV ⟨A1, V1⟩ ⟨A2, V2⟩ x = V1 + (V2 - V1) * (x - A1) / (A2 - A1) from rfl)
      obtain ⟨⟨⟨a1, a2⟩, a3, a4⟩, ⟨⟨b1, b2⟩, b3, b4⟩, ⟨u1, u2⟩, q1, q2⟩ := HG.out
      unfold segV at v
      dsimp only at m d v a1 a2 a3 a4 b1 b2 b3 b4 u1 u2 q1 q2
      go_wp2_with fail
      have f1 : IntKind.i64.wrap (V2 - V1) = V2 - V1 := IntWalk.i64_in _ (by omega)
      have f2 : IntKind.i64.wrap (x - A1) = x - A1 := IntWalk.i64_in _ (by omega)
      have f3 : IntKind.i64.wrap ((V2 - V1) * (x - A1)) = (V2 - V1) * (x - A1) := IntWalk.i64_in _ (by omega)
      have f4 : IntKind.i64.wrap (A2 - A1) = A2 - A1 := IntWalk.i64_in _ (by omega)
      have f5 : IntKind.i64.wrap (V1 + (V2 - V1) * (x - A1) / (A2 - A1)) = V1 + (V2 - V1) * (x - A1) / (A2 - A1) := IntWalk.i64_in _ (by omega)
      have HD := Lib.hid (fun W => Down_ret ((V2 - V1) * (x - A1)) (A2 - A1) W (by omega) (by omega) (by omega) (by omega))
      refine wp_region_kw (by kernel_rfl) (by kernel_rfl) ?_
      repeat (go_big_quiet_step ((go_at_call 34; exact kw_call (HD.out _))))
      refine wpQuiet_nil ?_
      intro _ hw'
      obtain ⟨kq, hw''⟩ := hw'
      subst hw''
      obtain ⟨wq, hwq⟩ := kq
      dsimp only
      go_wp2
      go_ret
      exact ⟨ret_i HV.out.symm, (by repeat (first | (with_reducible exact Kept.refl _) | (with_reducible assumption) | (with_reducible refine Kept.alloc ?_ _) | (with_reducible refine Kept.drew ?_) | (with_reducible refine Kept.drewN ?_ _) | (with_reducible refine Kept.setCell ?_ ?_ _) | (with_reducible refine Kept.trans ?_ (by with_reducible assumption)) | (simp only [World.size_alloc, World.size_setCell, World.size_drew, size_drewN]; omega) | omega | (dsimp only; omega)))⟩

set_option maxRecDepth 100000 in
set_option maxHeartbeats 4000000 in
theorem refVolume_in (nm : ByteArray) (a : Option Addr) (len cap : Nat) (lo hi x : Int) (l : List Strap) (z j : Nat) (w : World) (hS : SliceOf StrapR 2 z w a len cap l) (hlen : l.length ≤ 16) (hok : ∀ i, i < l.length → stOk l i) (hj : Around l x j) :
    Calls Try.prog 30 #[tnk nm a len cap lo hi, .int .i64 x] w (Ret (.int .i64 (segV (st l j) (st l (j + 1)) x)) w) := by
  have hll := hS.1
  have hmax := hS.2.2.1
  have hcap := hS.2.1
  unfold maxLen at hmax
  have hj1 := hj.1
  obtain ⟨b, o, ea, hbw, _⟩ := strap_at hS (Kept.refl w) (i := 0) (by omega)
  subst ea
  have HS := Lib.hid hS
  have HA := Lib.hid (asc_of hok)
  have HG := Lib.hid (segOk_of hj hok)
  have HJ := Lib.hid hj
  have HLL := Lib.hid hll
  have jl : j + 1 < len := by omega
  have l16 : len ≤ 16 := by omega
  clear hS hok hj hll hj1 hlen
  go_enter Try.func30, Try.ntmps30
  go_wp2_with fail
  go_loopw [5] (fun i wr => ∃ k : Nat, k ≤ j ∧ i = .int .i64 (k + 1) ∧ Kept w wr ∧ Box wr w.heap.size #[.string nm, .slice (some ⟨b, o, none⟩) len cap, .int .i64 lo, .int .i64 hi]) (fun i _ => 100 - (intOf i).toNat)
  case atStart => exact ⟨0, Nat.zero_le _, rfl, (by repeat (first | (with_reducible exact Kept.refl _) | (with_reducible assumption) | (with_reducible refine Kept.alloc ?_ _) | (with_reducible refine Kept.drew ?_) | (with_reducible refine Kept.drewN ?_ _) | (with_reducible refine Kept.setCell ?_ ?_ _) | (with_reducible refine Kept.trans ?_ (by with_reducible assumption)) | (simp only [World.size_alloc, World.size_setCell, World.size_drew, size_drewN]; omega) | omega | (dsimp only; omega))), Box.new rfl⟩
  case round =>
    obtain ⟨k, hk, rfl, kw1, bT⟩ := hrel
    obtain ⟨b', o', ea, _, c0, c1⟩ := strap_at HS.out kw1 (i := k) (by omega)
    obtain ⟨rfl, rfl⟩ : b' = b ∧ o' = o := by injection ea with ea; injection ea with e1 e2 _; exact ⟨e1.symm, e2.symm⟩
    obtain ⟨b'', o'', ea, _, d0, d1⟩ := strap_at HS.out kw1 (i := k + 1) (by omega)
    obtain ⟨rfl, rfl⟩ : b'' = b' ∧ o'' = o' := by injection ea with ea; injection ea with e1 e2 _; exact ⟨e1.symm, e2.symm⟩
    clear ea
    have zk := bT.lt
    have zb : b'' < wr.heap.size := Nat.lt_of_lt_of_le hbw kw1.size
    have eT := bT.cell
    have g1 : IntKind.i64.wrap ((k : Int) + 1 - 1) = k := by rw [show (k : Int) + 1 - 1 = k by omega]; exact IntWalk.i64_in _ (by omega)
    have g2 : (k : Int) < (len : Int) := by omega
    have g3 : (k : Int) + 1 < (len : Int) := by omega
    have g4 : ((k : Int) + 1).toNat = k + 1 := by omega
    obtain ⟨wo, rfl⟩ : ∃ wo : World, wo = wr := ⟨_, rfl⟩
    have hcase : (k < j ∧ (st l (k + 1)).lv < x) ∨ (k = j ∧ x ≤ (st l (j + 1)).lv) := by
      rcases Nat.lt_or_eq_of_le hk with h | h
      · exact .inl ⟨h, around_lt HJ.out HA.out (by omega) (by omega)⟩
      · exact .inr ⟨h, HJ.out.2.2.1⟩
    go_upto_region 4 with fail
    go_cut [6, 7] (fun p q wx => ∃ g h : Nat, p = .pointer (some ⟨g, 0, none⟩) ∧ q = .pointer (some ⟨h, 0, none⟩) ∧ Box wx g #[.int .i64 (st l k).lv, .int .i64 (st l k).vl] ∧ Box wx h #[.int .i64 (st l (k + 1)).lv, .int .i64 (st l (k + 1)).vl] ∧ Kept wo wx)
    case first =>
      generalize st l k = A at *
      generalize st l (k + 1) = B at *
      obtain ⟨A1, V1⟩ := A
      obtain ⟨A2, V2⟩ := B
      dsimp only at c0 c1 d0 d1
      go_region
      all_goals
        go_wp2_with fail
        go_meet
        exact ⟨_, _, rfl, rfl, (by repeat (first | (with_reducible assumption) | (with_reducible apply Box.new; first | (with_reducible rfl) | omega | (simp only [World.size_alloc, World.size_setCell, World.size_drew, size_drewN] <;> omega)) | (with_reducible apply Box.old) | (with_reducible apply Box.drew) | (with_reducible apply Box.drewN) | (with_reducible apply Box.set) | (with_reducible apply Box.other) | (with_reducible apply Box.only_ (by with_reducible assumption)) | (with_reducible apply Box.kept_ (by with_reducible assumption)) | (simp only [World.size_alloc, World.size_setCell, World.size_drew, size_drewN]; omega) | omega | (dsimp only; omega) | rfl | (simp; done))), (by repeat (first | (with_reducible assumption) | (with_reducible apply Box.new; first | (with_reducible rfl) | omega | (simp only [World.size_alloc, World.size_setCell, World.size_drew, size_drewN] <;> omega)) | (with_reducible apply Box.old) | (with_reducible apply Box.drew) | (with_reducible apply Box.drewN) | (with_reducible apply Box.set) | (with_reducible apply Box.other) | (with_reducible apply Box.only_ (by with_reducible assumption)) | (with_reducible apply Box.kept_ (by with_reducible assumption)) | (simp only [World.size_alloc, World.size_setCell, World.size_drew, size_drewN]; omega) | omega | (dsimp only; omega) | rfl | (simp; done))), (by repeat (first | (with_reducible exact Kept.refl _) | (with_reducible assumption) | (with_reducible refine Kept.alloc ?_ _) | (with_reducible refine Kept.drew ?_) | (with_reducible refine Kept.drewN ?_ _) | (with_reducible refine Kept.setCell ?_ ?_ _) | (with_reducible refine Kept.trans ?_ (by with_reducible assumption)) | (simp only [World.size_alloc, World.size_setCell, World.size_drew, size_drewN]; omega) | omega | (dsimp only; omega)))⟩
    case rest =>
      clear c0 c1 d0 d1 eT g1 g2 g4
      obtain ⟨g, h, rfl, rfl, b6, b7, kw2⟩ := hcut
      have e6 := b6.cell
      have e7 := b7.cell
      have l6 := b6.lt
      have l7 := b7.lt
      rcases hcase with ⟨h1, h2⟩ | ⟨h1, h2⟩
      · generalize st l k = A at *
        generalize st l (k + 1) = B at *
        obtain ⟨A1, V1⟩ := A
        obtain ⟨A2, V2⟩ := B
        dsimp only at h2
        go_wp2_with fail
        go_roundw
        case rel => exact ⟨k + 1, by omega, iv (by omega), kw1.trans kw2, bT.kept kw2⟩
        case measure => simp [intOf]; omega
      · subst h1
        generalize hA1 : st l k = A at *
        generalize hB1 : st l (k + 1) = B at *
        have HA1 := Lib.hid hA1
        have HB1 := Lib.hid hB1
        clear hA1 hB1
        obtain ⟨A1, V1⟩ := A
        obtain ⟨A2, V2⟩ := B
        obtain ⟨m, d, v⟩ := seg_bd HG.out
        have HV := Lib.hid (show segV ⟨A1, V1⟩ ⟨A2, V2⟩ x = V1 + (V2 - V1) * (x - A1) / (A2 - A1) from rfl)
        obtain ⟨⟨⟨a1, a2⟩, a3, a4⟩, ⟨⟨b1, b2⟩, b3, b4⟩, ⟨u1, u2⟩, q1, q2⟩ := HG.out
        unfold segV at v
        dsimp only at m d v a1 a2 a3 a4 b1 b2 b3 b4 u1 u2 q1 q2 h2
        go_wp2_with fail
        have f1 : IntKind.i64.wrap (V2 - V1) = V2 - V1 := IntWalk.i64_in _ (by omega)
        have f2 : IntKind.i64.wrap (x - A1) = x - A1 := IntWalk.i64_in _ (by omega)
        have f3 : IntKind.i64.wrap ((V2 - V1) * (x - A1)) = (V2 - V1) * (x - A1) := IntWalk.i64_in _ (by omega)
        have f4 : IntKind.i64.wrap (A2 - A1) = A2 - A1 := IntWalk.i64_in _ (by omega)
        have f6 : ((V2 - V1) * (x - A1)).tdiv (A2 - A1) = (V2 - V1) * (x - A1) / (A2 - A1) := Int.tdiv_eq_ediv_of_nonneg m.1
        have f7 : IntKind.i64.wrap ((V2 - V1) * (x - A1) / (A2 - A1)) = (V2 - V1) * (x - A1) / (A2 - A1) := IntWalk.i64_in _ (by omega)
        have f5 : IntKind.i64.wrap (V1 + (V2 - V1) * (x - A1) / (A2 - A1)) = V1 + (V2 - V1) * (x - A1) / (A2 - A1) := IntWalk.i64_in _ (by omega)
        have f8 : (A2 - A1 == 0) = false := by rw [beq_eq_false_iff_ne]; omega
        go_quiet (fail)
        go_wp2
        go_ret
        exact ⟨ret_i (by rw [HA1.out, HB1.out]; exact HV.out.symm), (by repeat (first | (with_reducible exact Kept.refl _) | (with_reducible assumption) | (with_reducible refine Kept.alloc ?_ _) | (with_reducible refine Kept.drew ?_) | (with_reducible refine Kept.drewN ?_ _) | (with_reducible refine Kept.setCell ?_ ?_ _) | (with_reducible refine Kept.trans ?_ (by with_reducible assumption)) | (simp only [World.size_alloc, World.size_setCell, World.size_drew, size_drewN]; omega) | omega | (dsimp only; omega)))⟩
end Go.Proofs.Ytmhncojjpalmeaa
