/- The statements' example of tanks (awake); what a valid tank's functions return. -/
import Derived.Test.YtmhncojjpalmeaaTank5
import Derived.Test.YtmhncojjpalmeaaGenTank
namespace Go.Proofs.Ytmhncojjpalmeaa
open Go.RowKit
set_option linter.unusedVariables false
set_option linter.unusedSimpArgs false

theorem Volume_good {nm : ByteArray} {a : Option Addr} {len cap : Nat} {lo hi : Int} (x : Int) {l : List Strap} {z : Nat} {w : World} (hs : nm.size ≤ 60) (hS : SliceOf StrapR 2 z w a len cap l) (h : tOk nm l lo hi) (hx : InL l x) :
    Calls Try.prog 7 #[tnk nm a len cap lo hi, .int .i64 x] w (RetIE (vol l x) 0 w) := by
  have := Volume_any nm a len cap lo hi x l z w (by omega) hS
  unfold tVolume at this
  rw [if_pos h, if_pos hx] at this
  exact this
theorem Level_good {nm : ByteArray} {a : Option Addr} {len cap : Nat} {lo hi : Int} (v : Int) {l : List Strap} {z : Nat} {w : World} (hs : nm.size ≤ 60) (hS : SliceOf StrapR 2 z w a len cap l) (h : tOk nm l lo hi) (hv : (fst l).vl ≤ v ∧ v ≤ (lst l).vl) :
    Calls Try.prog 18 #[tnk nm a len cap lo hi, .int .i64 v] w (RetIE (lvl l v) 0 w) := by
  have := Level_any nm a len cap lo hi v l z w (by omega) hS
  unfold tLevel at this
  rw [if_pos h, if_pos hv] at this
  exact this
theorem Room_good {nm : ByteArray} {a : Option Addr} {len cap : Nat} {lo hi : Int} (x : Int) {l : List Strap} {z : Nat} {w : World} (hs : nm.size ≤ 60) (hS : SliceOf StrapR 2 z w a len cap l) (h : tOk nm l lo hi) (hx : InL l x) :
    Calls Try.prog 8 #[tnk nm a len cap lo hi, .int .i64 x] w (RetIE (max 0 (vol l hi - vol l x)) 0 w) := by
  have := Room_any nm a len cap lo hi x l z w (by omega) hS
  unfold tRoom at this
  rw [if_pos h, if_pos hx] at this
  exact this
theorem Avail_good {nm : ByteArray} {a : Option Addr} {len cap : Nat} {lo hi : Int} (x : Int) {l : List Strap} {z : Nat} {w : World} (hs : nm.size ≤ 60) (hS : SliceOf StrapR 2 z w a len cap l) (h : tOk nm l lo hi) (hx : InL l x) :
    Calls Try.prog 16 #[tnk nm a len cap lo hi, .int .i64 x] w (RetIE (max 0 (vol l x - vol l lo)) 0 w) := by
  have := Available_any nm a len cap lo hi x l z w (by omega) hS
  unfold tAvail at this
  rw [if_pos h, if_pos hx] at this
  exact this

def exStraps : List Strap := [⟨0, 0⟩, ⟨10, 100⟩, ⟨20, 250⟩]
theorem ex_ok : tOk ⟨#[116]⟩ exStraps 2 18 := by decide +kernel
theorem ex_vol : vol exStraps 13 = 145 := by decide +kernel
theorem ex_lvl : lvl exStraps 101 = 11 := by decide +kernel
theorem ex_room : max 0 (vol exStraps 18 - vol exStraps 13) = 75 := by decide +kernel
theorem ex_in : InL exStraps 13 := by decide +kernel
theorem ex_lv : (fst exStraps).vl ≤ 101 ∧ 101 ≤ (lst exStraps).vl := by decide +kernel
theorem slice_of_box {w : World} {b z cap : Nat} {c : Array Value} {l : List Strap} (h : Box w b c) (hc : c.toList = l.flatMap strapF) (hcap : c.size = cap * 2) (hl : l.length = cap) (hm : cap ≤ 1000) (hz : b ≠ z) : SliceOf StrapR 2 z w (some ⟨b, 0, none⟩) l.length cap l := by
  obtain ⟨t, h⟩ := h
  refine SliceOf.of_owns (base := 0) (E := t) (n := l.length) (xs := l.flatMap strapF) ⟨?_, .inr ⟨b, cap, c, rfl, Nat.zero_le _, h, by omega, by unfold maxLen; omega, hcap, ?_⟩⟩ (rows2_map strapF l (fun e _ => rfl) (fun e _ => rfl)) rfl (.inr (fun k hk => (show b = k by simpa [Value.ownBlock] using hk) ▸ hz))
  · rw [← hc, Array.length_toList, hcap, hl]
  · rw [hl, ← hcap, ← hc, ← Array.length_toList, List.take_length]
/-- The call has made the example. -/
def MadeEx (w : World) (e : Ending) (w' : World) : Prop := ∃ b z : Nat, e = .returned (tnk ⟨#[116]⟩ (some ⟨b, 0, none⟩) 3 3 2 18) ∧ SliceOf StrapR 2 z w' (some ⟨b, 0, none⟩) 3 3 exStraps ∧ Kept w w'
set_option maxHeartbeats 1000000 in
theorem tankEx_any (w : World) : Calls Try.prog 25 #[] w (MadeEx w) := by
  go_enter Try.func25, Try.ntmps25
  go_wp2
  refine bodyPost_ret (v := tnk ⟨#[116]⟩ (some ⟨w.heap.size + 1, 0, none⟩) 3 3 2 18) (by simp [results, Try.results25, go_sem, ↓IntWalk.iteOmega]) rfl ⟨w.heap.size + 1, w.heap.size, rfl, slice_of_box (l := exStraps) (c := #[.int .i64 0, .int .i64 0, .int .i64 10, .int .i64 100, .int .i64 20, .int .i64 250]) (by repeat (first | (with_reducible assumption) | (with_reducible apply Box.new; first | (with_reducible rfl) | omega | (simp only [World.size_alloc, World.size_setCell, World.size_drew, size_drewN] <;> omega)) | (with_reducible apply Box.old) | (with_reducible apply Box.drew) | (with_reducible apply Box.drewN) | (with_reducible apply Box.set) | (with_reducible apply Box.other) | (with_reducible apply Box.only_ (by with_reducible assumption)) | (with_reducible apply Box.kept_ (by with_reducible assumption)) | (simp only [World.size_alloc, World.size_setCell, World.size_drew, size_drewN]; omega) | omega | (dsimp only; omega) | rfl | (simp; done))) rfl rfl rfl (by omega) (by omega), (by repeat (first | (with_reducible exact Kept.refl _) | (with_reducible assumption) | (with_reducible refine Kept.alloc ?_ _) | (with_reducible refine Kept.drew ?_) | (with_reducible refine Kept.drewN ?_ _) | (with_reducible refine Kept.setCell ?_ ?_ _) | (with_reducible refine Kept.trans ?_ (by with_reducible assumption)) | (simp only [World.size_alloc, World.size_setCell, World.size_drew, size_drewN]; omega) | omega | (dsimp only; omega)))⟩
set_option maxHeartbeats 1000000 in
theorem tankAwake (w : World) : Calls Try.prog 9 #[] w (Ret (.bool true) w) := by
  have nz : (⟨#[116]⟩ : ByteArray).size ≤ 60 := by decide
  go_enter Try.func9, Try.ntmps9
  go_wp2_with fail
  refine (tankEx_any _).mono ?_
  rintro e v1 ⟨b, z, rfl, hS, c1⟩
  go_wp2_with fail
  refine (Volume_good 13 nz hS ex_ok ex_in).mono ?_
  rw [ex_vol]
  rintro e v2 ⟨rfl, c2⟩
  clear hS
  go_wp2_with fail
  refine (tankEx_any _).mono ?_
  rintro e v3 ⟨b2, z2, rfl, hS, c3⟩
  go_wp2_with fail
  refine (Level_good 101 nz hS ex_ok ex_lv).mono ?_
  rw [ex_lvl]
  rintro e v4 ⟨rfl, c4⟩
  clear hS
  go_wp2_with fail
  refine (tankEx_any _).mono ?_
  rintro e v5 ⟨b3, z3, rfl, hS, c5⟩
  go_wp2_with fail
  refine (Room_good 13 nz hS ex_ok ex_in).mono ?_
  rw [ex_room]
  rintro e v6 ⟨rfl, c6⟩
  clear hS
  go_wp2
  go_ret
  exact ⟨rfl, (by repeat (first | (with_reducible exact Kept.refl _) | (with_reducible assumption) | (with_reducible refine Kept.alloc ?_ _) | (with_reducible refine Kept.drew ?_) | (with_reducible refine Kept.drewN ?_ _) | (with_reducible refine Kept.setCell ?_ ?_ _) | (with_reducible refine Kept.trans ?_ (by with_reducible assumption)) | (simp only [World.size_alloc, World.size_setCell, World.size_drew, size_drewN]; omega) | omega | (dsimp only; omega)))⟩

end Go.Proofs.Ytmhncojjpalmeaa
