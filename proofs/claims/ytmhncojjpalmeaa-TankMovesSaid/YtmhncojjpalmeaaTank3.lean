/- The volume as a function of the level; the walks of Volume, between, Room, Available. -/
import Derived.Test.YtmhncojjpalmeaaTank2
namespace Go.Proofs.Ytmhncojjpalmeaa
open Go.RowKit
set_option linter.unusedVariables false
set_option linter.unusedSimpArgs false

def ixGo (l : List Strap) (x : Int) : Nat → Nat → Nat
  | 0, j => j
  | f + 1, j => if x ≤ (st l (j + 1)).lv then j else ixGo l x f (j + 1)
/-- The strap below a level. -/
def ix (l : List Strap) (x : Int) : Nat := ixGo l x (l.length - 2) 0
def vol (l : List Strap) (x : Int) : Int := segV (st l (ix l x)) (st l (ix l x + 1)) x
/-- Straps as a valid tank has them. -/
structure Straps (l : List Strap) : Prop where
  two : 2 ≤ l.length
  most : l.length ≤ 16
  ok : ∀ i, i < l.length → stOk l i
def fst (l : List Strap) : Strap := st l 0
def lst (l : List Strap) : Strap := st l (l.length - 1)
/-- A level between the first and the last one. -/
def InL (l : List Strap) (x : Int) : Prop := (fst l).lv ≤ x ∧ x ≤ (lst l).lv
instance (l : List Strap) (x : Int) : Decidable (InL l x) := by unfold InL; infer_instance
theorem ixGo_around {l : List Strap} {x : Int} (h : Straps l) (hx : InL l x) : ∀ f j, j + f = l.length - 2 → (st l j).lv ≤ x → (0 < j → (st l j).lv < x) → Around l x (ixGo l x f j)
  | 0, j, e, h1, h2 => by
    have := h.two
    refine ⟨by unfold ixGo; omega, h1, ?_, h2⟩
    have hl := hx.2
    unfold lst at hl
    rw [show l.length - 1 = j + 1 by omega] at hl
    exact hl
  | f + 1, j, e, h1, h2 => by
    have := h.two
    unfold ixGo
    by_cases hc : x ≤ (st l (j + 1)).lv
    · rw [if_pos hc]
      exact ⟨by omega, h1, hc, h2⟩
    · rw [if_neg hc]
      exact ixGo_around h hx f (j + 1) (by omega) (by omega) (fun _ => by omega)
theorem ix_around {l : List Strap} {x : Int} (h : Straps l) (hx : InL l x) : Around l x (ix l x) :=
  ixGo_around h hx _ 0 (by have := h.two; omega) hx.1 (fun h => absurd h (by omega))
theorem around_eq {l : List Strap} {x : Int} {i j : Nat} (h : Straps l) (hi : Around l x i) (hj : Around l x j) : i = j := by
  have ha := asc_of h.ok
  have up := fun a b (hab : a < b) (hb : b < l.length) => (ha a b hab hb).1
  rcases Nat.lt_trichotomy i j with hlt | he | hlt
  · have h1 := hj.2.2.2 (by omega)
    have h2 := hi.2.2.1
    rcases Nat.lt_or_eq_of_le (show i + 1 ≤ j by omega) with h3 | h3
    · have := up (i + 1) j h3 (by have := hj.1; omega); omega
    · rw [h3] at h2; omega
  · exact he
  · have h1 := hi.2.2.2 (by omega)
    have h2 := hj.2.2.1
    rcases Nat.lt_or_eq_of_le (show j + 1 ≤ i by omega) with h3 | h3
    · have := up (j + 1) i h3 (by have := hi.1; omega); omega
    · rw [h3] at h2; omega
theorem vol_bd {l : List Strap} {x : Int} (h : Straps l) (hx : InL l x) : (st l (ix l x)).vl ≤ vol l x ∧ vol l x ≤ (st l (ix l x + 1)).vl :=
  (seg_bd (segOk_of (ix_around h hx) h.ok)).2.2
theorem vol_num {l : List Strap} {x : Int} (h : Straps l) (hx : InL l x) : 0 ≤ vol l x ∧ vol l x ≤ 1099511627776 := by
  have h1 := vol_bd h hx
  have ar := ix_around h hx
  have h2 := (h.ok (ix l x) (by have := ar.1; omega)).1.2
  have h3 := (h.ok (ix l x + 1) ar.1).1.2
  omega
theorem seg_mono {a b : Strap} {x y : Int} (h : SegOk a b x) (h' : SegOk a b y) (hxy : x ≤ y) : segV a b x ≤ segV a b y := by
  unfold segV
  have up := h.up
  have : (b.vl - a.vl) * (x - a.lv) / (b.lv - a.lv) ≤ (b.vl - a.vl) * (y - a.lv) / (b.lv - a.lv) :=
    Int.ediv_le_ediv (by have := up.1; omega) (Int.mul_le_mul_of_nonneg_left (by omega) (by have := up.2; omega))
  omega
theorem ix_mono {l : List Strap} {x y : Int} (h : Straps l) (hx : InL l x) (hy : InL l y) (hxy : x ≤ y) : ix l x ≤ ix l y := by
  rcases Nat.lt_or_ge (ix l y) (ix l x) with hlt | hge
  · exfalso
    have ax := ix_around h hx
    have ay := ix_around h hy
    have h1 := around_lt ax (asc_of h.ok) (Nat.le_refl _) (by omega)
    have h2 := ay.2.2.1
    have h3 := around_lt ax (asc_of h.ok) (k := ix l y + 1) (by omega) (by omega)
    omega
  · exact hge
theorem vol_mono {l : List Strap} {x y : Int} (h : Straps l) (hx : InL l x) (hy : InL l y) (hxy : x ≤ y) : vol l x ≤ vol l y := by
  have ax := ix_around h hx
  have ay := ix_around h hy
  rcases Nat.lt_or_eq_of_le (ix_mono h hx hy hxy) with hlt | heq
  · have b1 := (vol_bd h hx).2
    have b2 := (vol_bd h hy).1
    rcases Nat.lt_or_eq_of_le (show ix l x + 1 ≤ ix l y by omega) with h3 | h3
    · have := (asc_of h.ok (ix l x + 1) (ix l y) h3 (by have := ay.1; omega)).2; omega
    · rw [h3] at b1; omega
  · have sx := segOk_of ax h.ok
    have sy := segOk_of ay h.ok
    rw [← heq] at sy
    have := seg_mono sx sy hxy
    unfold vol
    rw [← heq]
    exact this
theorem vol_at {l : List Strap} {x : Int} {j : Nat} (h : Straps l) (hx : Around l x j) (hi : InL l x) : vol l x = segV (st l j) (st l (j + 1)) x := by
  unfold vol
  rw [around_eq h (ix_around h hi) hx]
theorem seg_lo (a b : Strap) : segV a b a.lv = a.vl := by unfold segV; rw [Int.sub_self, Int.mul_zero, Int.zero_ediv, Int.add_zero]
theorem seg_hi {a b : Strap} (h : a.lv < b.lv) : segV a b b.lv = b.vl := by
  unfold segV
  rw [Int.mul_ediv_cancel _ (by omega)]; omega
/-- At a strap's level the volume is the strap's. -/
theorem vol_strap {l : List Strap} (h : Straps l) {i : Nat} (hi : i < l.length) : InL l (st l i).lv ∧ vol l (st l i).lv = (st l i).vl := by
  have ha := asc_of h.ok
  have h2 := h.two
  have hin : InL l (st l i).lv := by
    unfold InL fst lst
    constructor
    · rcases Nat.eq_zero_or_pos i with h0 | h0
      · rw [h0]; exact Int.le_refl _
      · have := (ha 0 i h0 hi).1; omega
    · rcases Nat.lt_or_eq_of_le (show i ≤ l.length - 1 by omega) with h0 | h0
      · have := (ha i (l.length - 1) h0 (by omega)).1; omega
      · rw [← h0]; exact Int.le_refl _
  refine ⟨hin, ?_⟩
  rcases Nat.eq_zero_or_pos i with h0 | h0
  · subst h0
    have ar : Around l (st l 0).lv 0 := ⟨by omega, Int.le_refl _, by have := (ha 0 1 (by omega) (by omega)).1; show (st l 0).lv ≤ (st l 1).lv; omega, fun h => absurd h (by omega)⟩
    rw [vol_at h ar hin, seg_lo]
  · obtain ⟨j, rfl⟩ : ∃ j, i = j + 1 := ⟨i - 1, by omega⟩
    have up := (ha j (j + 1) (by omega) hi).1
    have ar : Around l (st l (j + 1)).lv j := ⟨hi, by omega, Int.le_refl _, fun _ => up⟩
    rw [vol_at h ar hin, seg_hi up]
theorem straps_of {nm : ByteArray} {l : List Strap} {lo hi : Int} (h : tOk nm l lo hi) : Straps l := ⟨h.2.1.1, h.2.1.2, h.2.2.1⟩
theorem tok_in {nm : ByteArray} {l : List Strap} {lo hi : Int} (h : tOk nm l lo hi) : InL l lo ∧ InL l hi ∧ lo < hi := by
  obtain ⟨_, _, _, h1, h2, h3⟩ := h
  unfold InL fst lst
  omega
def TnkS (z : Nat) (w : World) (a : Option Addr) (len cap : Nat) (l : List Strap) : Prop := SliceOf StrapR 2 z w a len cap l

set_option maxHeartbeats 1000000 in
theorem vol_call (nm : ByteArray) (a : Option Addr) (len cap : Nat) (lo hi x : Int) (l : List Strap) (z : Nat) (w : World) (hS : SliceOf StrapR 2 z w a len cap l) (h : Straps l) (hx : InL l x) :
    Calls Try.prog 23 #[tnk nm a len cap lo hi, .int .i64 x] w (Ret (.int .i64 (vol l x)) w) :=
  volume_in nm a len cap lo hi x l z (ix l x) w hS h.most h.ok (ix_around h hx)
theorem refVol_call (nm : ByteArray) (a : Option Addr) (len cap : Nat) (lo hi x : Int) (l : List Strap) (z : Nat) (w : World) (hS : SliceOf StrapR 2 z w a len cap l) (h : Straps l) (hx : InL l x) :
    Calls Try.prog 30 #[tnk nm a len cap lo hi, .int .i64 x] w (Ret (.int .i64 (vol l x)) w) :=
  refVolume_in nm a len cap lo hi x l z (ix l x) w hS h.most h.ok (ix_around h hx)

/-- The facts on the first and the last strap that a walk needs. -/
theorem ends_at {z : Nat} {w w' : World} {a : Option Addr} {n cap : Nat} {l : List Strap} (hS : SliceOf StrapR 2 z w a (n + 1) cap l) (k : Kept w w') :
    ∃ b o, a = some ⟨b, o, none⟩ ∧ b < w.heap.size ∧ w'.cell? ⟨b, o, none⟩ = some (.int .i64 (fst l).lv) ∧ w'.cell? ⟨b, o + 1, none⟩ = some (.int .i64 (fst l).vl) ∧
      w'.cell? ⟨b, o + n * 2, none⟩ = some (.int .i64 (lst l).lv) ∧ w'.cell? ⟨b, o + n * 2 + 1, none⟩ = some (.int .i64 (lst l).vl) := by
  have hl := hS.1
  obtain ⟨b, o, rfl, hb, c0, c1⟩ := strap_at hS k (i := 0) (by omega)
  obtain ⟨b', o', ea, _, d0, d1⟩ := strap_at hS k (i := n) (by omega)
  obtain ⟨rfl, rfl⟩ : b' = b ∧ o' = o := by injection ea with ea; injection ea with e1 e2 _; exact ⟨e1.symm, e2.symm⟩
  simp only [Nat.zero_mul, Nat.add_zero] at c0 c1
  have e : n = l.length - 1 := by omega
  refine ⟨b', o', rfl, hb, c0, c1, ?_, ?_⟩
  · rw [d0]; unfold lst; rw [← e]
  · rw [d1]; unfold lst; rw [← e]

set_option maxRecDepth 100000 in
set_option maxHeartbeats 4000000 in
theorem Volume_ok (nm : ByteArray) (a : Option Addr) (len cap : Nat) (lo hi x : Int) (l : List Strap) (z : Nat) (w : World) (hs : nm.size ≤ 140737488351232) (hS : SliceOf StrapR 2 z w a len cap l) (h : tOk nm l lo hi) :
    Calls Try.prog 7 #[tnk nm a len cap lo hi, .int .i64 x] w (if InL l x then RetIE (vol l x) 0 w else RetIE 0 16 w) := by
  have hll := hS.1
  have hmax := hS.2.2.1
  have hcap := hS.2.1
  unfold maxLen at hmax
  have ht := straps_of h
  have h2 := ht.two
  obtain ⟨n, rfl⟩ : ∃ n, len = n + 1 := ⟨len - 1, by omega⟩
  have hn1 : 1 ≤ n := by omega
  have hn2 : n ≤ 15 := by have := ht.most; omega
  obtain ⟨b, o, rfl, hbw, _⟩ := ends_at hS (Kept.refl w)
  have hv : tValid nm l lo hi = true := decide_eq_true h
  have HS := Lib.hid hS
  have HT := Lib.hid ht
  have HV := Lib.hid hv
  have g1 : IntKind.i64.wrap ((n : Int) + 1 - 1) = n := by rw [show (n : Int) + 1 - 1 = n by omega]; exact IntWalk.i64_in _ (by omega)
  have G1 := Lib.hid g1
  clear hS h hll ht h2 hv g1
  by_cases hx : InL l x
  · rw [if_pos hx]
    have HX := Lib.hid hx
    obtain ⟨x1, x2⟩ := hx
    go_enter Try.func7, Try.ntmps7
    go_wp2_with fail
    refine (tankValid_any _ _ _ _ _ _ l z _ hs (HS.out.kept StrapR.stays (by repeat (first | (with_reducible exact Kept.refl _) | (with_reducible assumption) | (with_reducible refine Kept.alloc ?_ _) | (with_reducible refine Kept.drew ?_) | (with_reducible refine Kept.drewN ?_ _) | (with_reducible refine Kept.setCell ?_ ?_ _) | (with_reducible refine Kept.trans ?_ (by with_reducible assumption)) | (simp only [World.size_alloc, World.size_setCell, World.size_drew, size_drewN]; omega) | omega | (dsimp only; omega))))).mono ?_
    rintro e v1 ⟨rfl, c1⟩
    have c1_c := (kcell c1).1; have c1_f := (kcell c1).2; have c1_z := c1.size; try simp only [World.size_alloc, World.size_setCell, World.size_drew, size_drewN] at c1_c c1_f c1_z
    rw [HV.out]
    obtain ⟨b', o', ea, _, d0, d1, d2, d3⟩ := ends_at HS.out (show Kept w v1 from (by repeat (first | (with_reducible exact Kept.refl _) | (with_reducible assumption) | (with_reducible refine Kept.alloc ?_ _) | (with_reducible refine Kept.drew ?_) | (with_reducible refine Kept.drewN ?_ _) | (with_reducible refine Kept.setCell ?_ ?_ _) | (with_reducible refine Kept.trans ?_ (by with_reducible assumption)) | (simp only [World.size_alloc, World.size_setCell, World.size_drew, size_drewN]; omega) | omega | (dsimp only; omega))))
    obtain ⟨rfl, rfl⟩ : b' = b ∧ o' = o := by injection ea with ea; injection ea with e1 e2 _; exact ⟨e1.symm, e2.symm⟩
    clear ea
    have g1 : IntKind.i64.wrap ((n : Int) + 1 - 1) = n := G1.out
    have kz : b' < v1.heap.size := by omega
    have VC := fun W k => vol_call nm (some ⟨b', o', none⟩) (n + 1) cap lo hi x l z W (HS.out.kept StrapR.stays k) HT.out HX.out
    have VC := Lib.hid VC
    generalize vol l x = V at *
    generalize (fst l).lv = X0 at *
    generalize (lst l).lv = X1 at *
    go_wp2_with fail
    refine (VC.out _ (by repeat (first | (with_reducible exact Kept.refl _) | (with_reducible assumption) | (with_reducible refine Kept.alloc ?_ _) | (with_reducible refine Kept.drew ?_) | (with_reducible refine Kept.drewN ?_ _) | (with_reducible refine Kept.setCell ?_ ?_ _) | (with_reducible refine Kept.trans ?_ (by with_reducible assumption)) | (simp only [World.size_alloc, World.size_setCell, World.size_drew, size_drewN]; omega) | omega | (dsimp only; omega)))).mono ?_
    rintro e v2 ⟨rfl, c2⟩
    go_wp2
    go_ret2
    exact ⟨rfl, (by repeat (first | (with_reducible exact Kept.refl _) | (with_reducible assumption) | (with_reducible refine Kept.alloc ?_ _) | (with_reducible refine Kept.drew ?_) | (with_reducible refine Kept.drewN ?_ _) | (with_reducible refine Kept.setCell ?_ ?_ _) | (with_reducible refine Kept.trans ?_ (by with_reducible assumption)) | (simp only [World.size_alloc, World.size_setCell, World.size_drew, size_drewN]; omega) | omega | (dsimp only; omega)))⟩
  · rw [if_neg hx]
    have hx' : x < (fst l).lv ∨ ((fst l).lv ≤ x ∧ (lst l).lv < x) := by unfold InL at hx; omega
    clear hx
    go_enter Try.func7, Try.ntmps7
    go_wp2_with fail
    refine (tankValid_any _ _ _ _ _ _ l z _ hs (HS.out.kept StrapR.stays (by repeat (first | (with_reducible exact Kept.refl _) | (with_reducible assumption) | (with_reducible refine Kept.alloc ?_ _) | (with_reducible refine Kept.drew ?_) | (with_reducible refine Kept.drewN ?_ _) | (with_reducible refine Kept.setCell ?_ ?_ _) | (with_reducible refine Kept.trans ?_ (by with_reducible assumption)) | (simp only [World.size_alloc, World.size_setCell, World.size_drew, size_drewN]; omega) | omega | (dsimp only; omega))))).mono ?_
    rintro e v1 ⟨rfl, c1⟩
    have c1_c := (kcell c1).1; have c1_f := (kcell c1).2; have c1_z := c1.size; try simp only [World.size_alloc, World.size_setCell, World.size_drew, size_drewN] at c1_c c1_f c1_z
    rw [HV.out]
    obtain ⟨b', o', ea, _, d0, d1, d2, d3⟩ := ends_at HS.out (show Kept w v1 from (by repeat (first | (with_reducible exact Kept.refl _) | (with_reducible assumption) | (with_reducible refine Kept.alloc ?_ _) | (with_reducible refine Kept.drew ?_) | (with_reducible refine Kept.drewN ?_ _) | (with_reducible refine Kept.setCell ?_ ?_ _) | (with_reducible refine Kept.trans ?_ (by with_reducible assumption)) | (simp only [World.size_alloc, World.size_setCell, World.size_drew, size_drewN]; omega) | omega | (dsimp only; omega))))
    obtain ⟨rfl, rfl⟩ : b' = b ∧ o' = o := by injection ea with ea; injection ea with e1 e2 _; exact ⟨e1.symm, e2.symm⟩
    clear ea
    have g1 : IntKind.i64.wrap ((n : Int) + 1 - 1) = n := G1.out
    have kz : b' < v1.heap.size := by omega
    generalize (fst l).lv = X0 at *
    generalize (lst l).lv = X1 at *
    rcases hx' with h1 | h1
    all_goals
      go_wp2
      go_ret2
      exact ⟨rfl, (by repeat (first | (with_reducible exact Kept.refl _) | (with_reducible assumption) | (with_reducible refine Kept.alloc ?_ _) | (with_reducible refine Kept.drew ?_) | (with_reducible refine Kept.drewN ?_ _) | (with_reducible refine Kept.setCell ?_ ?_ _) | (with_reducible refine Kept.trans ?_ (by with_reducible assumption)) | (simp only [World.size_alloc, World.size_setCell, World.size_drew, size_drewN]; omega) | omega | (dsimp only; omega)))⟩

set_option maxHeartbeats 1000000 in
theorem Volume_bad (nm : ByteArray) (a : Option Addr) (len cap : Nat) (lo hi x : Int) (l : List Strap) (z : Nat) (w : World) (hs : nm.size ≤ 140737488351232) (hS : SliceOf StrapR 2 z w a len cap l) (h : ¬ tOk nm l lo hi) :
    Calls Try.prog 7 #[tnk nm a len cap lo hi, .int .i64 x] w (RetIE 0 9 w) := by
  have hv : tValid nm l lo hi = false := decide_eq_false h
  have HS := Lib.hid hS
  have HV := Lib.hid hv
  clear hS h hv
  go_enter Try.func7, Try.ntmps7
  go_wp2_with fail
  refine (tankValid_any _ _ _ _ _ _ l z _ hs (HS.out.kept StrapR.stays (by repeat (first | (with_reducible exact Kept.refl _) | (with_reducible assumption) | (with_reducible refine Kept.alloc ?_ _) | (with_reducible refine Kept.drew ?_) | (with_reducible refine Kept.drewN ?_ _) | (with_reducible refine Kept.setCell ?_ ?_ _) | (with_reducible refine Kept.trans ?_ (by with_reducible assumption)) | (simp only [World.size_alloc, World.size_setCell, World.size_drew, size_drewN]; omega) | omega | (dsimp only; omega))))).mono ?_
  rintro e v1 ⟨rfl, c1⟩
  have c1_c := (kcell c1).1; have c1_f := (kcell c1).2; have c1_z := c1.size; try simp only [World.size_alloc, World.size_setCell, World.size_drew, size_drewN] at c1_c c1_f c1_z
  rw [HV.out]
  go_wp2
  go_ret2
  exact ⟨rfl, (by repeat (first | (with_reducible exact Kept.refl _) | (with_reducible assumption) | (with_reducible refine Kept.alloc ?_ _) | (with_reducible refine Kept.drew ?_) | (with_reducible refine Kept.drewN ?_ _) | (with_reducible refine Kept.setCell ?_ ?_ _) | (with_reducible refine Kept.trans ?_ (by with_reducible assumption)) | (simp only [World.size_alloc, World.size_setCell, World.size_drew, size_drewN]; omega) | omega | (dsimp only; omega)))⟩
/-- What Volume returns. -/
def tVolume (nm : ByteArray) (l : List Strap) (lo hi x : Int) : Int × Int := if tOk nm l lo hi then (if InL l x then (vol l x, 0) else (0, 16)) else (0, 9)
theorem Volume_any (nm : ByteArray) (a : Option Addr) (len cap : Nat) (lo hi x : Int) (l : List Strap) (z : Nat) (w : World) (hs : nm.size ≤ 140737488351232) (hS : SliceOf StrapR 2 z w a len cap l) :
    Calls Try.prog 7 #[tnk nm a len cap lo hi, .int .i64 x] w (RetIE (tVolume nm l lo hi x).1 (tVolume nm l lo hi x).2 w) := by
  unfold tVolume
  by_cases h : tOk nm l lo hi
  · rw [if_pos h]
    have := Volume_ok nm a len cap lo hi x l z w hs hS h
    by_cases hx : InL l x
    · rw [if_pos hx] at this ⊢; exact this
    · rw [if_neg hx] at this ⊢; exact this
  · rw [if_neg h]; exact Volume_bad nm a len cap lo hi x l z w hs hS h

set_option maxHeartbeats 1000000 in
theorem between_in (nm : ByteArray) (a : Option Addr) (len cap : Nat) (lo hi x y : Int) (l : List Strap) (z : Nat) (w : World) (hS : SliceOf StrapR 2 z w a len cap l) (h : Straps l) (hx : InL l x) (hy : InL l y) :
    Calls Try.prog 24 #[tnk nm a len cap lo hi, .int .i64 x, .int .i64 y] w (Ret (.int .i64 (max 0 (vol l x - vol l y))) w) := by
  have v1 := vol_num h hx
  have v2 := vol_num h hy
  have bT : Box (w.alloc (Obj.cells #[.string nm, .slice a len cap, .int .i64 lo, .int .i64 hi] 26)) w.heap.size #[.string nm, .slice a len cap, .int .i64 lo, .int .i64 hi] := Box.new rfl
  have HX := Lib.hid (fun (k : KW (w.alloc (Obj.cells #[.string nm, .slice a len cap, .int .i64 lo, .int .i64 hi] 26))) => vol_call nm a len cap lo hi x l z k.it (hS.kept StrapR.stays (Kept.trans (by repeat (first | (with_reducible exact Kept.refl _) | (with_reducible assumption) | (with_reducible refine Kept.alloc ?_ _) | (with_reducible refine Kept.drew ?_) | (with_reducible refine Kept.drewN ?_ _) | (with_reducible refine Kept.setCell ?_ ?_ _) | (with_reducible refine Kept.trans ?_ (by with_reducible assumption)) | (simp only [World.size_alloc, World.size_setCell, World.size_drew, size_drewN]; omega) | omega | (dsimp only; omega))) k.kept)) h hx)
  have HY := Lib.hid (fun (k : KW (w.alloc (Obj.cells #[.string nm, .slice a len cap, .int .i64 lo, .int .i64 hi] 26))) => vol_call nm a len cap lo hi y l z k.it (hS.kept StrapR.stays (Kept.trans (by repeat (first | (with_reducible exact Kept.refl _) | (with_reducible assumption) | (with_reducible refine Kept.alloc ?_ _) | (with_reducible refine Kept.drew ?_) | (with_reducible refine Kept.drewN ?_ _) | (with_reducible refine Kept.setCell ?_ ?_ _) | (with_reducible refine Kept.trans ?_ (by with_reducible assumption)) | (simp only [World.size_alloc, World.size_setCell, World.size_drew, size_drewN]; omega) | omega | (dsimp only; omega))) k.kept)) h hy)
  have ew : IntKind.i64.wrap (vol l x - vol l y) = vol l x - vol l y := IntWalk.i64_in _ (by omega)
  clear hS h hx hy bT
  generalize vol l x = X at *
  generalize vol l y = Y at *
  go_enter Try.func24, Try.ntmps24
  go_wp2_with fail
  refine wp_region_kw (by kernel_rfl) (by kernel_rfl) ?_
  repeat (go_big_quiet_step ((go_at_call 23; with_reducible (first | exact kw_call (HX.out _) | exact kw_call (HY.out _)))))
  refine wpQuiet_nil ?_
  intro _ hw'
  obtain ⟨kq, hw''⟩ := hw'
  subst hw''
  obtain ⟨wq, hwq⟩ := kq
  dsimp only
  go_wp2
  all_goals
    go_ret
    exact ⟨ret_i (by first | rfl | omega), (by repeat (first | (with_reducible exact Kept.refl _) | (with_reducible assumption) | (with_reducible refine Kept.alloc ?_ _) | (with_reducible refine Kept.drew ?_) | (with_reducible refine Kept.drewN ?_ _) | (with_reducible refine Kept.setCell ?_ ?_ _) | (with_reducible refine Kept.trans ?_ (by with_reducible assumption)) | (simp only [World.size_alloc, World.size_setCell, World.size_drew, size_drewN]; omega) | omega | (dsimp only; omega)))⟩

/-- What Room and Available return. -/
def tRoom (nm : ByteArray) (l : List Strap) (lo hi x : Int) : Int × Int := if tOk nm l lo hi then (if InL l x then (max 0 (vol l hi - vol l x), 0) else (0, 16)) else (0, 9)
def tAvail (nm : ByteArray) (l : List Strap) (lo hi x : Int) : Int × Int := if tOk nm l lo hi then (if InL l x then (max 0 (vol l x - vol l lo), 0) else (0, 16)) else (0, 9)

set_option maxHeartbeats 1000000 in
theorem Room_any (nm : ByteArray) (a : Option Addr) (len cap : Nat) (lo hi x : Int) (l : List Strap) (z : Nat) (w : World) (hs : nm.size ≤ 140737488351232) (hS : SliceOf StrapR 2 z w a len cap l) :
    Calls Try.prog 8 #[tnk nm a len cap lo hi, .int .i64 x] w (RetIE (tRoom nm l lo hi x).1 (tRoom nm l lo hi x).2 w) := by
  have HS := Lib.hid hS
  have hV := fun W k => Volume_any nm a len cap lo hi x l z W hs (HS.out.kept StrapR.stays k)
  unfold tVolume at hV
  unfold tRoom
  by_cases h : tOk nm l lo hi
  · by_cases hx : InL l x
    · simp only [if_pos h, if_pos hx] at hV ⊢
      have ti := tok_in h
      have HB := Lib.hid (fun W k => between_in nm a len cap lo hi hi x l z W (HS.out.kept StrapR.stays k) (straps_of h) ti.2.1 hx)
      have hV := Lib.hid hV
      clear h hx hS ti
      go_enter Try.func8, Try.ntmps8
      go_wp2_with fail
      refine (hV.out _ (by repeat (first | (with_reducible exact Kept.refl _) | (with_reducible assumption) | (with_reducible refine Kept.alloc ?_ _) | (with_reducible refine Kept.drew ?_) | (with_reducible refine Kept.drewN ?_ _) | (with_reducible refine Kept.setCell ?_ ?_ _) | (with_reducible refine Kept.trans ?_ (by with_reducible assumption)) | (simp only [World.size_alloc, World.size_setCell, World.size_drew, size_drewN]; omega) | omega | (dsimp only; omega)))).mono ?_
      rintro e v1 ⟨rfl, c1⟩
      have c1_c := (kcell c1).1; have c1_f := (kcell c1).2; have c1_z := c1.size; try simp only [World.size_alloc, World.size_setCell, World.size_drew, size_drewN] at c1_c c1_f c1_z
      go_wp2_with fail
      refine (HB.out _ (by repeat (first | (with_reducible exact Kept.refl _) | (with_reducible assumption) | (with_reducible refine Kept.alloc ?_ _) | (with_reducible refine Kept.drew ?_) | (with_reducible refine Kept.drewN ?_ _) | (with_reducible refine Kept.setCell ?_ ?_ _) | (with_reducible refine Kept.trans ?_ (by with_reducible assumption)) | (simp only [World.size_alloc, World.size_setCell, World.size_drew, size_drewN]; omega) | omega | (dsimp only; omega)))).mono ?_
      rintro e v2 ⟨rfl, c2⟩
      go_wp2
      go_ret2
      exact ⟨rfl, (by repeat (first | (with_reducible exact Kept.refl _) | (with_reducible assumption) | (with_reducible refine Kept.alloc ?_ _) | (with_reducible refine Kept.drew ?_) | (with_reducible refine Kept.drewN ?_ _) | (with_reducible refine Kept.setCell ?_ ?_ _) | (with_reducible refine Kept.trans ?_ (by with_reducible assumption)) | (simp only [World.size_alloc, World.size_setCell, World.size_drew, size_drewN]; omega) | omega | (dsimp only; omega)))⟩
    · simp only [if_pos h, if_neg hx] at hV ⊢
      have hV := Lib.hid hV
      clear h hx hS
      go_enter Try.func8, Try.ntmps8
      go_wp2_with fail
      refine (hV.out _ (by repeat (first | (with_reducible exact Kept.refl _) | (with_reducible assumption) | (with_reducible refine Kept.alloc ?_ _) | (with_reducible refine Kept.drew ?_) | (with_reducible refine Kept.drewN ?_ _) | (with_reducible refine Kept.setCell ?_ ?_ _) | (with_reducible refine Kept.trans ?_ (by with_reducible assumption)) | (simp only [World.size_alloc, World.size_setCell, World.size_drew, size_drewN]; omega) | omega | (dsimp only; omega)))).mono ?_
      rintro e v1 ⟨rfl, c1⟩
      have c1_c := (kcell c1).1; have c1_f := (kcell c1).2; have c1_z := c1.size; try simp only [World.size_alloc, World.size_setCell, World.size_drew, size_drewN] at c1_c c1_f c1_z
      go_wp2
      go_ret2
      exact ⟨rfl, (by repeat (first | (with_reducible exact Kept.refl _) | (with_reducible assumption) | (with_reducible refine Kept.alloc ?_ _) | (with_reducible refine Kept.drew ?_) | (with_reducible refine Kept.drewN ?_ _) | (with_reducible refine Kept.setCell ?_ ?_ _) | (with_reducible refine Kept.trans ?_ (by with_reducible assumption)) | (simp only [World.size_alloc, World.size_setCell, World.size_drew, size_drewN]; omega) | omega | (dsimp only; omega)))⟩
  · simp only [if_neg h] at hV ⊢
    have hV := Lib.hid hV
    clear h hS
    go_enter Try.func8, Try.ntmps8
    go_wp2_with fail
    refine (hV.out _ (by repeat (first | (with_reducible exact Kept.refl _) | (with_reducible assumption) | (with_reducible refine Kept.alloc ?_ _) | (with_reducible refine Kept.drew ?_) | (with_reducible refine Kept.drewN ?_ _) | (with_reducible refine Kept.setCell ?_ ?_ _) | (with_reducible refine Kept.trans ?_ (by with_reducible assumption)) | (simp only [World.size_alloc, World.size_setCell, World.size_drew, size_drewN]; omega) | omega | (dsimp only; omega)))).mono ?_
    rintro e v1 ⟨rfl, c1⟩
    have c1_c := (kcell c1).1; have c1_f := (kcell c1).2; have c1_z := c1.size; try simp only [World.size_alloc, World.size_setCell, World.size_drew, size_drewN] at c1_c c1_f c1_z
    go_wp2
    go_ret2
    exact ⟨rfl, (by repeat (first | (with_reducible exact Kept.refl _) | (with_reducible assumption) | (with_reducible refine Kept.alloc ?_ _) | (with_reducible refine Kept.drew ?_) | (with_reducible refine Kept.drewN ?_ _) | (with_reducible refine Kept.setCell ?_ ?_ _) | (with_reducible refine Kept.trans ?_ (by with_reducible assumption)) | (simp only [World.size_alloc, World.size_setCell, World.size_drew, size_drewN]; omega) | omega | (dsimp only; omega)))⟩

set_option maxHeartbeats 1000000 in
theorem Available_any (nm : ByteArray) (a : Option Addr) (len cap : Nat) (lo hi x : Int) (l : List Strap) (z : Nat) (w : World) (hs : nm.size ≤ 140737488351232) (hS : SliceOf StrapR 2 z w a len cap l) :
    Calls Try.prog 16 #[tnk nm a len cap lo hi, .int .i64 x] w (RetIE (tAvail nm l lo hi x).1 (tAvail nm l lo hi x).2 w) := by
  have HS := Lib.hid hS
  have hV := fun W k => Volume_any nm a len cap lo hi x l z W hs (HS.out.kept StrapR.stays k)
  unfold tVolume at hV
  unfold tAvail
  by_cases h : tOk nm l lo hi
  · by_cases hx : InL l x
    · simp only [if_pos h, if_pos hx] at hV ⊢
      have ti := tok_in h
      have HB := Lib.hid (fun W k => between_in nm a len cap lo hi x lo l z W (HS.out.kept StrapR.stays k) (straps_of h) hx ti.1)
      have hV := Lib.hid hV
      clear h hx hS ti
      go_enter Try.func16, Try.ntmps16
      go_wp2_with fail
      refine (hV.out _ (by repeat (first | (with_reducible exact Kept.refl _) | (with_reducible assumption) | (with_reducible refine Kept.alloc ?_ _) | (with_reducible refine Kept.drew ?_) | (with_reducible refine Kept.drewN ?_ _) | (with_reducible refine Kept.setCell ?_ ?_ _) | (with_reducible refine Kept.trans ?_ (by with_reducible assumption)) | (simp only [World.size_alloc, World.size_setCell, World.size_drew, size_drewN]; omega) | omega | (dsimp only; omega)))).mono ?_
      rintro e v1 ⟨rfl, c1⟩
      have c1_c := (kcell c1).1; have c1_f := (kcell c1).2; have c1_z := c1.size; try simp only [World.size_alloc, World.size_setCell, World.size_drew, size_drewN] at c1_c c1_f c1_z
      go_wp2_with fail
      refine (HB.out _ (by repeat (first | (with_reducible exact Kept.refl _) | (with_reducible assumption) | (with_reducible refine Kept.alloc ?_ _) | (with_reducible refine Kept.drew ?_) | (with_reducible refine Kept.drewN ?_ _) | (with_reducible refine Kept.setCell ?_ ?_ _) | (with_reducible refine Kept.trans ?_ (by with_reducible assumption)) | (simp only [World.size_alloc, World.size_setCell, World.size_drew, size_drewN]; omega) | omega | (dsimp only; omega)))).mono ?_
      rintro e v2 ⟨rfl, c2⟩
      go_wp2
      go_ret2
      exact ⟨rfl, (by repeat (first | (with_reducible exact Kept.refl _) | (with_reducible assumption) | (with_reducible refine Kept.alloc ?_ _) | (with_reducible refine Kept.drew ?_) | (with_reducible refine Kept.drewN ?_ _) | (with_reducible refine Kept.setCell ?_ ?_ _) | (with_reducible refine Kept.trans ?_ (by with_reducible assumption)) | (simp only [World.size_alloc, World.size_setCell, World.size_drew, size_drewN]; omega) | omega | (dsimp only; omega)))⟩
    · simp only [if_pos h, if_neg hx] at hV ⊢
      have hV := Lib.hid hV
      clear h hx hS
      go_enter Try.func16, Try.ntmps16
      go_wp2_with fail
      refine (hV.out _ (by repeat (first | (with_reducible exact Kept.refl _) | (with_reducible assumption) | (with_reducible refine Kept.alloc ?_ _) | (with_reducible refine Kept.drew ?_) | (with_reducible refine Kept.drewN ?_ _) | (with_reducible refine Kept.setCell ?_ ?_ _) | (with_reducible refine Kept.trans ?_ (by with_reducible assumption)) | (simp only [World.size_alloc, World.size_setCell, World.size_drew, size_drewN]; omega) | omega | (dsimp only; omega)))).mono ?_
      rintro e v1 ⟨rfl, c1⟩
      have c1_c := (kcell c1).1; have c1_f := (kcell c1).2; have c1_z := c1.size; try simp only [World.size_alloc, World.size_setCell, World.size_drew, size_drewN] at c1_c c1_f c1_z
      go_wp2
      go_ret2
      exact ⟨rfl, (by repeat (first | (with_reducible exact Kept.refl _) | (with_reducible assumption) | (with_reducible refine Kept.alloc ?_ _) | (with_reducible refine Kept.drew ?_) | (with_reducible refine Kept.drewN ?_ _) | (with_reducible refine Kept.setCell ?_ ?_ _) | (with_reducible refine Kept.trans ?_ (by with_reducible assumption)) | (simp only [World.size_alloc, World.size_setCell, World.size_drew, size_drewN]; omega) | omega | (dsimp only; omega)))⟩
  · simp only [if_neg h] at hV ⊢
    have hV := Lib.hid hV
    clear h hS
    go_enter Try.func16, Try.ntmps16
    go_wp2_with fail
    refine (hV.out _ (by repeat (first | (with_reducible exact Kept.refl _) | (with_reducible assumption) | (with_reducible refine Kept.alloc ?_ _) | (with_reducible refine Kept.drew ?_) | (with_reducible refine Kept.drewN ?_ _) | (with_reducible refine Kept.setCell ?_ ?_ _) | (with_reducible refine Kept.trans ?_ (by with_reducible assumption)) | (simp only [World.size_alloc, World.size_setCell, World.size_drew, size_drewN]; omega) | omega | (dsimp only; omega)))).mono ?_
    rintro e v1 ⟨rfl, c1⟩
    have c1_c := (kcell c1).1; have c1_f := (kcell c1).2; have c1_z := c1.size; try simp only [World.size_alloc, World.size_setCell, World.size_drew, size_drewN] at c1_c c1_f c1_z
    go_wp2
    go_ret2
    exact ⟨rfl, (by repeat (first | (with_reducible exact Kept.refl _) | (with_reducible assumption) | (with_reducible refine Kept.alloc ?_ _) | (with_reducible refine Kept.drew ?_) | (with_reducible refine Kept.drewN ?_ _) | (with_reducible refine Kept.setCell ?_ ?_ _) | (with_reducible refine Kept.trans ?_ (by with_reducible assumption)) | (simp only [World.size_alloc, World.size_setCell, World.size_drew, size_drewN]; omega) | omega | (dsimp only; omega)))⟩
end Go.Proofs.Ytmhncojjpalmeaa
