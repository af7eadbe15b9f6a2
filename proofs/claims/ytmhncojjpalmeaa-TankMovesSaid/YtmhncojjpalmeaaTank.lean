/- Tanks: how they lie in memory, when they are valid; the walks of the two Valid. -/
import Derived.Test.YtmhncojjpalmeaaData
import Derived.Test.YtmhncojjpalmeaaRefName
import Derived.Test.YtmhncojjpalmeaaRound
namespace Go.Proofs.Ytmhncojjpalmeaa
open Go.RowKit
set_option linter.unusedVariables false
set_option linter.unusedSimpArgs false

structure Strap where
  lv : Int
  vl : Int
def StrapR : RowT Strap := fun _ _ r s => r = [.int .i64 s.lv, .int .i64 s.vl]
theorem StrapR.stays : Stays StrapR := ⟨fun _ _ _ _ _ _ h => h⟩
theorem StrapR.cells {x : Nat} {w : World} {b o : Nat} {s : Strap} (h : At StrapR x w b o s) : w.cell? ⟨b, o, none⟩ = some (.int .i64 s.lv) ∧ w.cell? ⟨b, o + 1, none⟩ = some (.int .i64 s.vl) := by
  obtain ⟨r, rfl, hc⟩ := h
  exact ⟨hc 0 _ rfl, hc 1 _ rfl⟩
abbrev tnk (nm : ByteArray) (a : Option Addr) (len cap : Nat) (lo hi : Int) : Value := .agg #[.string nm, .slice a len cap, .int .i64 lo, .int .i64 hi]
def st (l : List Strap) (i : Nat) : Strap := l.getD i ⟨0, 0⟩
theorem st_get {l : List Strap} {i : Nat} (h : i < l.length) : l[i] = st l i := by
  unfold st
  rw [List.getD_eq_getElem?_getD, List.getElem?_eq_getElem h]
  rfl
/-- The element i in a later world. -/
theorem strap_at {x : Nat} {w w' : World} {a : Option Addr} {len cap : Nat} {l : List Strap} (h : SliceOf StrapR 2 x w a len cap l) (k : Kept w w') {i : Nat} (hi : i < len) :
    ∃ b o, a = some ⟨b, o, none⟩ ∧ b < w.heap.size ∧ w'.cell? ⟨b, o + i * 2, none⟩ = some (.int .i64 (st l i).lv) ∧ w'.cell? ⟨b, o + i * 2 + 1, none⟩ = some (.int .i64 (st l i).vl) := by
  have hl := h.1
  obtain ⟨b, o, e, hb, hc⟩ := h.2.2.2.2.2 (by omega)
  have hat := StrapR.cells (hc i (by omega))
  rw [st_get] at hat
  exact ⟨b, o, e, hb.1, by rw [kcell1 k hb.1]; exact hat.1, by rw [kcell1 k hb.1]; exact hat.2⟩
def stNum (s : Strap) : Prop := (0 ≤ s.lv ∧ s.lv ≤ 1048576) ∧ (0 ≤ s.vl ∧ s.vl ≤ 1099511627776)
def stUp (a b : Strap) : Prop := a.lv < b.lv ∧ a.vl < b.vl
def stOk (l : List Strap) (i : Nat) : Prop := stNum (st l i) ∧ (0 < i → stUp (st l (i - 1)) (st l i))
def tOk (nm : ByteArray) (l : List Strap) (lo hi : Int) : Prop :=
  nameOk nm = true ∧ (2 ≤ l.length ∧ l.length ≤ 16) ∧ (∀ i, i < l.length → stOk l i) ∧ (st l 0).lv ≤ lo ∧ hi ≤ (st l (l.length - 1)).lv ∧ lo < hi
instance (nm : ByteArray) (l : List Strap) (lo hi : Int) : Decidable (tOk nm l lo hi) := by unfold tOk stOk stNum stUp; infer_instance
def tValid (nm : ByteArray) (l : List Strap) (lo hi : Int) : Bool := decide (tOk nm l lo hi)

set_option maxHeartbeats 4000000 in
theorem tankValid_any (nm : ByteArray) (a : Option Addr) (len cap : Nat) (lo hi : Int) (l : List Strap) (x : Nat) (w : World) (hs : nm.size ≤ 140737488351232) (hS : SliceOf StrapR 2 x w a len cap l) :
    Calls Try.prog 11 #[tnk nm a len cap lo hi] w (Ret (.bool (tValid nm l lo hi)) w) := by
  have hlen := hS.1
  have hcap := hS.2.1
  have hmax := hS.2.2.1
  unfold maxLen at hmax
  have HS := Lib.hid hS
  have HL := Lib.hid hlen
  clear hS hlen
  by_cases hf : nameOk nm = false
  · have H := Lib.hid (show tValid nm l lo hi = false from decide_eq_false (fun h => absurd h.1 (by rw [hf]; exact Bool.false_ne_true)))
    go_enter Try.func11, Try.ntmps11
    go_wp2_with fail
    refine (Name_any _ _ hs).mono ?_
    rintro e w' ⟨rfl, rfl⟩
    rw [hf]
    go_wp2
    go_ret
    exact ⟨ret_b H.out.symm, (by repeat (first | (with_reducible exact Kept.refl _) | (with_reducible assumption) | (with_reducible refine Kept.alloc ?_ _) | (with_reducible refine Kept.drew ?_) | (with_reducible refine Kept.drewN ?_ _) | (with_reducible refine Kept.setCell ?_ ?_ _) | (with_reducible refine Kept.trans ?_ (by with_reducible assumption)) | (simp only [World.size_alloc, World.size_setCell, World.size_drew, size_drewN]; omega) | omega | (dsimp only; omega)))⟩
  have hn : nameOk nm = true := by simpa using hf
  clear hf
  by_cases h2 : len < 2 ∨ 16 < len
  · have H := Lib.hid (show tValid nm l lo hi = false from decide_eq_false (fun h => by have := h.2.1; have := HL.out; omega))
    rcases h2 with h2 | h2
    all_goals
      go_enter Try.func11, Try.ntmps11
      go_wp2_with fail
      refine (Name_any _ _ hs).mono ?_
      rintro e w' ⟨rfl, rfl⟩
      rw [hn]
      go_wp2
      go_ret
      exact ⟨ret_b H.out.symm, (by repeat (first | (with_reducible exact Kept.refl _) | (with_reducible assumption) | (with_reducible refine Kept.alloc ?_ _) | (with_reducible refine Kept.drew ?_) | (with_reducible refine Kept.drewN ?_ _) | (with_reducible refine Kept.setCell ?_ ?_ _) | (with_reducible refine Kept.trans ?_ (by with_reducible assumption)) | (simp only [World.size_alloc, World.size_setCell, World.size_drew, size_drewN]; omega) | omega | (dsimp only; omega)))⟩
  obtain ⟨n, rfl⟩ : ∃ n, len = n + 1 := ⟨len - 1, by omega⟩
  have hn1 : 1 ≤ n := by omega
  have hn2 : n ≤ 15 := by omega
  clear h2
  have HN := Lib.hid hn
  obtain ⟨b, o, ea, _⟩ := strap_at HS.out (Kept.refl w) (i := 0) (by omega)
  subst ea
  go_enter Try.func11, Try.ntmps11
  go_wp2_with fail
  refine (Name_any _ _ hs).mono ?_
  rintro e w' ⟨rfl, rfl⟩
  rw [HN.out]
  clear hn
  go_wp2_with fail
  have bT : Box (w.alloc (Obj.cells #[.string nm, .slice (some ⟨b, o, none⟩) (n + 1) cap, .int .i64 lo, .int .i64 hi] 26)) w.heap.size #[.string nm, .slice (some ⟨b, o, none⟩) (n + 1) cap, .int .i64 lo, .int .i64 hi] := Box.new rfl
  go_loopw [24] (fun i wr => ∃ k : Nat, k ≤ n + 1 ∧ i = .int .i64 k ∧ Kept w wr ∧ Box wr w.heap.size #[.string nm, .slice (some ⟨b, o, none⟩) (n + 1) cap, .int .i64 lo, .int .i64 hi] ∧ Hid (∀ i, i < k → stOk l i)) (fun i _ => n + 1 - (intOf i).toNat)
  case atStart => exact ⟨0, Nat.zero_le _, rfl, (by repeat (first | (with_reducible exact Kept.refl _) | (with_reducible assumption) | (with_reducible refine Kept.alloc ?_ _) | (with_reducible refine Kept.drew ?_) | (with_reducible refine Kept.drewN ?_ _) | (with_reducible refine Kept.setCell ?_ ?_ _) | (with_reducible refine Kept.trans ?_ (by with_reducible assumption)) | (simp only [World.size_alloc, World.size_setCell, World.size_drew, size_drewN]; omega) | omega | (dsimp only; omega))), bT, fun i h => absurd h (by omega)⟩
  case round =>
    clear bT
    obtain ⟨k, hk, rfl, kw, bT, hall⟩ := hrel
    have eT := bT.cell
    have lT := bT.lt
    by_cases hlt : k < n + 1
    · obtain ⟨b', o', ea, hbw, c0, c1⟩ := strap_at HS.out kw hlt
      obtain ⟨rfl, rfl⟩ : b' = b ∧ o' = o := by injection ea with ea; injection ea with e1 e2 _; exact ⟨e1.symm, e2.symm⟩
      clear ea
      have hbr : b' < wr.heap.size := by have := kw.size; omega
      have hkl : k < l.length := by have := HL.out; omega
      by_cases hnum : stNum (st l k)
      · have HNUM := Lib.hid hnum
        obtain ⟨⟨n1, n2⟩, n3, n4⟩ := hnum
        rcases k with _ | j
        · have HA : Hid (∀ i, i < 0 + 1 → stOk l i) := fun i hi => by
            obtain rfl : i = 0 := by omega
            exact ⟨HNUM.out, fun h => absurd h (by omega)⟩
          simp only [Nat.zero_mul, Nat.add_zero] at c0 c1
          generalize (st l 0).lv = X at *
          generalize (st l 0).vl = V at *
          go_wp2_with fail
          go_quiet (fail)
          go_wp2
          go_roundw
          case rel => exact ⟨1, by omega, by go_num, (by repeat (first | (with_reducible exact Kept.refl _) | (with_reducible assumption) | (with_reducible refine Kept.alloc ?_ _) | (with_reducible refine Kept.drew ?_) | (with_reducible refine Kept.drewN ?_ _) | (with_reducible refine Kept.setCell ?_ ?_ _) | (with_reducible refine Kept.trans ?_ (by with_reducible assumption)) | (simp only [World.size_alloc, World.size_setCell, World.size_drew, size_drewN]; omega) | omega | (dsimp only; omega))), (by repeat (first | (with_reducible assumption) | (with_reducible apply Box.new; first | (with_reducible rfl) | omega | (simp only [World.size_alloc, World.size_setCell, World.size_drew, size_drewN] <;> omega)) | (with_reducible apply Box.old) | (with_reducible apply Box.drew) | (with_reducible apply Box.drewN) | (with_reducible apply Box.set) | (with_reducible apply Box.other) | (with_reducible apply Box.only_ (by with_reducible assumption)) | (with_reducible apply Box.kept_ (by with_reducible assumption)) | (simp only [World.size_alloc, World.size_setCell, World.size_drew, size_drewN]; omega) | omega | (dsimp only; omega) | rfl | (simp; done))), HA⟩
          case measure => simp [intOf]
        · obtain ⟨b'', o'', ea, _, d0, d1⟩ := strap_at HS.out kw (i := j) (by omega)
          obtain ⟨rfl, rfl⟩ : b'' = b' ∧ o'' = o' := by injection ea with ea; injection ea with e1 e2 _; exact ⟨e1.symm, e2.symm⟩
          clear ea
          have g0 : decide ((0 : Int) < (j : Int) + 1) = true := decide_eq_true (by omega)
          have g1 : IntKind.i64.wrap ((j : Int) + 1 - 1) = j := by rw [show (j : Int) + 1 - 1 = j by omega]; exact IntWalk.i64_in _ (by omega)
          have g2 : (j : Int) < (n : Int) + 1 := by omega
          by_cases hup : stUp (st l j) (st l (j + 1))
          · have HA : Hid (∀ i, i < j + 1 + 1 → stOk l i) := fun i hi => by
              by_cases hi' : i < j + 1
              · exact hall.out i hi'
              · obtain rfl : i = j + 1 := by omega
                exact ⟨HNUM.out, fun _ => hup⟩
            obtain ⟨u1, u2⟩ := id hup
            clear hup
            generalize (st l (j + 1)).lv = X at *
            generalize (st l (j + 1)).vl = V at *
            generalize (st l j).lv = X' at *
            generalize (st l j).vl = V' at *
            have q1 : decide (X ≤ X') = false := decide_eq_false (by omega)
            have q2 : decide (V ≤ V') = false := decide_eq_false (by omega)
            go_wp2_with fail
            go_quiet (fail)
            go_wp2
            go_roundw
            case rel => exact ⟨j + 1 + 1, by omega, by go_num, (by repeat (first | (with_reducible exact Kept.refl _) | (with_reducible assumption) | (with_reducible refine Kept.alloc ?_ _) | (with_reducible refine Kept.drew ?_) | (with_reducible refine Kept.drewN ?_ _) | (with_reducible refine Kept.setCell ?_ ?_ _) | (with_reducible refine Kept.trans ?_ (by with_reducible assumption)) | (simp only [World.size_alloc, World.size_setCell, World.size_drew, size_drewN]; omega) | omega | (dsimp only; omega))), (by repeat (first | (with_reducible assumption) | (with_reducible apply Box.new; first | (with_reducible rfl) | omega | (simp only [World.size_alloc, World.size_setCell, World.size_drew, size_drewN] <;> omega)) | (with_reducible apply Box.old) | (with_reducible apply Box.drew) | (with_reducible apply Box.drewN) | (with_reducible apply Box.set) | (with_reducible apply Box.other) | (with_reducible apply Box.only_ (by with_reducible assumption)) | (with_reducible apply Box.kept_ (by with_reducible assumption)) | (simp only [World.size_alloc, World.size_setCell, World.size_drew, size_drewN]; omega) | omega | (dsimp only; omega) | rfl | (simp; done))), HA⟩
            case measure => simp [intOf]; omega
          · have H := Lib.hid (show tValid nm l lo hi = false from decide_eq_false (fun h => hup ((h.2.2.1 (j + 1) hkl).2 (by omega))))
            have hup' : (st l (j + 1)).lv ≤ (st l j).lv ∨ ((st l j).lv < (st l (j + 1)).lv ∧ (st l (j + 1)).vl ≤ (st l j).vl) := by unfold stUp at hup; omega
            clear hup
            generalize (st l (j + 1)).lv = X at *
            generalize (st l (j + 1)).vl = V at *
            generalize (st l j).lv = X' at *
            generalize (st l j).vl = V' at *
            rcases hup' with u1 | ⟨u1, u2⟩
            all_goals
              have q1 : decide (X ≤ X') = true ∨ (decide (X ≤ X') = false ∧ decide (V ≤ V') = true) := by simp; omega
              first
                | (have q2 : decide (X ≤ X') = true := decide_eq_true (by omega))
                | (have q2 : decide (X ≤ X') = false := decide_eq_false (by omega); have q3 : decide (V ≤ V') = true := decide_eq_true (by omega))
              clear q1
              go_wp2_with fail
              go_quiet (fail)
              go_wp2
              go_ret
              exact ⟨ret_b H.out.symm, (by repeat (first | (with_reducible exact Kept.refl _) | (with_reducible assumption) | (with_reducible refine Kept.alloc ?_ _) | (with_reducible refine Kept.drew ?_) | (with_reducible refine Kept.drewN ?_ _) | (with_reducible refine Kept.setCell ?_ ?_ _) | (with_reducible refine Kept.trans ?_ (by with_reducible assumption)) | (simp only [World.size_alloc, World.size_setCell, World.size_drew, size_drewN]; omega) | omega | (dsimp only; omega)))⟩
      · have H := Lib.hid (show tValid nm l lo hi = false from decide_eq_false (fun h => hnum (h.2.2.1 k hkl).1))
        have hn' : (st l k).lv < 0 ∨ (0 ≤ (st l k).lv ∧ 1048576 < (st l k).lv) ∨ ((0 ≤ (st l k).lv ∧ (st l k).lv ≤ 1048576) ∧ (st l k).vl < 0) ∨ ((0 ≤ (st l k).lv ∧ (st l k).lv ≤ 1048576) ∧ 0 ≤ (st l k).vl ∧ 1099511627776 < (st l k).vl) := by unfold stNum at hnum; omega
        clear hnum
        generalize (st l k).lv = X at *
        generalize (st l k).vl = V at *
        rcases hn' with n1 | n1 | n1 | n1
        all_goals
          go_wp2
          go_ret
          exact ⟨ret_b H.out.symm, (by repeat (first | (with_reducible exact Kept.refl _) | (with_reducible assumption) | (with_reducible refine Kept.alloc ?_ _) | (with_reducible refine Kept.drew ?_) | (with_reducible refine Kept.drewN ?_ _) | (with_reducible refine Kept.setCell ?_ ?_ _) | (with_reducible refine Kept.trans ?_ (by with_reducible assumption)) | (simp only [World.size_alloc, World.size_setCell, World.size_drew, size_drewN]; omega) | omega | (dsimp only; omega)))⟩
    · obtain rfl : k = n + 1 := by omega
      have hll : l.length = n + 1 := HL.out.symm
      obtain ⟨b', o', ea, hbw, c0, c1⟩ := strap_at HS.out kw (i := 0) (by omega)
      obtain ⟨rfl, rfl⟩ : b' = b ∧ o' = o := by injection ea with ea; injection ea with e1 e2 _; exact ⟨e1.symm, e2.symm⟩
      obtain ⟨b'', o'', ea, hbw, d0, d1⟩ := strap_at HS.out kw (i := n) (by omega)
      obtain ⟨rfl, rfl⟩ : b'' = b' ∧ o'' = o' := by injection ea with ea; injection ea with e1 e2 _; exact ⟨e1.symm, e2.symm⟩
      clear ea
      have hbr : b'' < wr.heap.size := by have := kw.size; omega
      have H := Lib.hid (show tValid nm l lo hi = decide ((st l 0).lv ≤ lo ∧ hi ≤ (st l n).lv ∧ lo < hi) from decide_eq_decide.2 (by
        unfold tOk
        rw [hll, Nat.add_sub_cancel]
        exact ⟨fun h => h.2.2.2, fun h => ⟨HN.out, by omega, fun i hi => hall.out i hi, h⟩⟩))
      have hl0 := Lib.hid hll
      clear hll
      generalize (st l 0).lv = X at *
      generalize (st l n).lv = Y at *
      simp only [Nat.zero_mul, Nat.add_zero] at c0
      have g1 : IntKind.i64.wrap ((n : Int) + 1 - 1) = n := by rw [show (n : Int) + 1 - 1 = n by omega]; exact IntWalk.i64_in _ (by omega)
      have g2 : (n : Int) < (n : Int) + 1 := by omega
      have g3 : (0 : Int) < (n : Int) + 1 := by omega
      by_cases t1 : lo < X
      · have q1 : decide (X ≤ lo) = false := decide_eq_false (by omega)
        go_wp2_with fail
        go_quiet (fail)
        go_wp2
        go_ret
        exact ⟨ret_b (by rw [H.out]; exact (decide_eq_false (by omega)).symm), (by repeat (first | (with_reducible exact Kept.refl _) | (with_reducible assumption) | (with_reducible refine Kept.alloc ?_ _) | (with_reducible refine Kept.drew ?_) | (with_reducible refine Kept.drewN ?_ _) | (with_reducible refine Kept.setCell ?_ ?_ _) | (with_reducible refine Kept.trans ?_ (by with_reducible assumption)) | (simp only [World.size_alloc, World.size_setCell, World.size_drew, size_drewN]; omega) | omega | (dsimp only; omega)))⟩
      by_cases t2 : Y < hi
      · have t1 : X ≤ lo := by omega
        have q1 : decide (X ≤ lo) = true := decide_eq_true (by omega)
        have q2 : decide (hi ≤ Y) = false := decide_eq_false (by omega)
        go_wp2_with fail
        go_quiet (fail)
        go_wp2
        go_ret
        exact ⟨ret_b (by rw [H.out]; exact (decide_eq_false (by omega)).symm), (by repeat (first | (with_reducible exact Kept.refl _) | (with_reducible assumption) | (with_reducible refine Kept.alloc ?_ _) | (with_reducible refine Kept.drew ?_) | (with_reducible refine Kept.drewN ?_ _) | (with_reducible refine Kept.setCell ?_ ?_ _) | (with_reducible refine Kept.trans ?_ (by with_reducible assumption)) | (simp only [World.size_alloc, World.size_setCell, World.size_drew, size_drewN]; omega) | omega | (dsimp only; omega)))⟩
      have t1 : X ≤ lo := by omega
      have t2 : hi ≤ Y := by omega
      have q1 : decide (X ≤ lo) = true := decide_eq_true (by omega)
      have q2 : decide (hi ≤ Y) = true := decide_eq_true (by omega)
      go_wp2_with fail
      go_quiet (fail)
      go_wp2
      go_ret
      exact ⟨ret_b (by rw [H.out]; exact decide_eq_decide.2 (by omega)), (by repeat (first | (with_reducible exact Kept.refl _) | (with_reducible assumption) | (with_reducible refine Kept.alloc ?_ _) | (with_reducible refine Kept.drew ?_) | (with_reducible refine Kept.drewN ?_ _) | (with_reducible refine Kept.setCell ?_ ?_ _) | (with_reducible refine Kept.trans ?_ (by with_reducible assumption)) | (simp only [World.size_alloc, World.size_setCell, World.size_drew, size_drewN]; omega) | omega | (dsimp only; omega)))⟩
end Go.Proofs.Ytmhncojjpalmeaa
