/- The statements' example of tanks (awake); what a valid tank's functions return. -/
import Derived.Test.YtooojlecefgonaaTank5
import Derived.Test.YtooojlecefgonaaGenTank
namespace Go.Proofs.Ytooojlecefgonaa
open Go.RowKit
set_option linter.unusedVariables false
set_option linter.unusedSimpArgs false

theorem Volume_good {nm : ByteArray} {a : Option Addr} {len cap : Nat} {lo hi : Int} (x : Int) {l : List Strap} {z : Nat} {w : World} (hs : nm.size ≤ 60) (hS : SliceOf StrapR 2 z w a len cap l) (h : tOk nm l lo hi) (hx : InL l x) :
    Calls Try.prog 12 #[tnk nm a len cap lo hi, .int .i64 x] w (RetIE (vol l x) 0 w) := by
  have := Volume_any nm a len cap lo hi x l z w (by omega) hS
  unfold tVolume at this
  rw [if_pos h, if_pos hx] at this
  exact this
theorem Level_good {nm : ByteArray} {a : Option Addr} {len cap : Nat} {lo hi : Int} (v : Int) {l : List Strap} {z : Nat} {w : World} (hs : nm.size ≤ 60) (hS : SliceOf StrapR 2 z w a len cap l) (h : tOk nm l lo hi) (hv : (fst l).vl ≤ v ∧ v ≤ (lst l).vl) :
    Calls Try.prog 11 #[tnk nm a len cap lo hi, .int .i64 v] w (RetIE (lvl l v) 0 w) := by
  have := Level_any nm a len cap lo hi v l z w (by omega) hS
  unfold tLevel at this
  rw [if_pos h, if_pos hv] at this
  exact this
theorem Room_good {nm : ByteArray} {a : Option Addr} {len cap : Nat} {lo hi : Int} (x : Int) {l : List Strap} {z : Nat} {w : World} (hs : nm.size ≤ 60) (hS : SliceOf StrapR 2 z w a len cap l) (h : tOk nm l lo hi) (hx : InL l x) :
    Calls Try.prog 14 #[tnk nm a len cap lo hi, .int .i64 x] w (RetIE (max 0 (vol l hi - vol l x)) 0 w) := by
  have := Room_any nm a len cap lo hi x l z w (by omega) hS
  unfold tRoom at this
  rw [if_pos h, if_pos hx] at this
  exact this
theorem Avail_good {nm : ByteArray} {a : Option Addr} {len cap : Nat} {lo hi : Int} (x : Int) {l : List Strap} {z : Nat} {w : World} (hs : nm.size ≤ 60) (hS : SliceOf StrapR 2 z w a len cap l) (h : tOk nm l lo hi) (hx : InL l x) :
    Calls Try.prog 21 #[tnk nm a len cap lo hi, .int .i64 x] w (RetIE (max 0 (vol l x - vol l lo)) 0 w) := by
  have := Available_any nm a len cap lo hi x l z w (by omega) hS
  unfold tAvail at this
  rw [if_pos h, if_pos hx] at this
  exact this

def exStraps : List Strap := [⟨0, 0⟩, ⟨10, 100⟩, ⟨20, 250⟩]
theorem ex_ok : tOk ⟨#[116]⟩ exStraps 2 18 := by decide +kernel
theorem ex_vol : vol exStraps 13 = 145 := by decide +kernel
theorem ex_lvl : lvl exStraps 101 = 11 := by decide +kernel
theorem ex_room : max 0 (vol exStraps 18 - vol exStraps 13) = 75 := by decide +kernel
theorem ex_in : InL exStraps 13 := by decide +kernel
theorem ex_lv : (fst exStraps).vl ≤ 101 ∧ 101 ≤ (lst exStraps).vl := by decide +kernel
theorem slice_of_box {w : World} {b z cap : Nat} {c : Array Value} {l : List Strap} (h : Box w b c) (hc : c.toList = l.flatMap strapF) (hcap : c.size = cap * 2) (hl : l.length = cap) (hm : cap ≤ 1000) (hz : b ≠ z) : SliceOf StrapR 2 z w (some ⟨b, 0, none⟩) l.length cap l := by
  obtain ⟨t, h⟩ := h
  refine SliceOf.of_owns (base := 0) (E := t) (n := l.length) (xs := l.flatMap strapF) ⟨?_, .inr ⟨b, cap, c, rfl, Nat.zero_le _, h, by omega, by unfold maxLen; omega, hcap, ?_⟩⟩ (rows2_map strapF l (fun e _ => rfl) (fun e _ => rfl)) rfl (.inr (fun k hk => (show b = k by simpa [Value.ownBlock] using hk) ▸ hz))
  · rw [← hc, Array.length_toList, hcap, hl]
  · rw [hl, ← hcap, ← hc, ← Array.length_toList, List.take_length]
/-- The call has made the example. -/
def MadeEx (w : World) (e : Ending) (w' : World) : Prop := ∃ b z : Nat, e = .returned (tnk ⟨#[116]⟩ (some ⟨b, 0, none⟩) 3 3 2 18) ∧ SliceOf StrapR 2 z w' (some ⟨b, 0, none⟩) 3 3 exStraps ∧ Kept w w'
set_option maxHeartbeats 1000000 in
theorem tankEx_any (w : World) : Calls Try.prog 30 #[] w (MadeEx w) := by
  go_enter Try.func30, Try.ntmps30
  go_wp2
  refine bodyPost_ret (v := tnk ⟨#[116]⟩ (some ⟨w.heap.size + 1, 0, none⟩) 3 3 2 18) (by simp [results, Try.results30, go_sem, ↓IntWalk.iteOmega]) rfl ⟨w.heap.size + 1, w.heap.size, rfl, slice_of_box (l := exStraps) (c := #[.int .i64 0, .int .i64 0, .int .i64 10, .int .i64 100, .int .i64 20, .int .i64 250]) (by repeat (first | (with_reducible assumption) | (with_reducible apply Box.new; first | (with_reducible rfl) | omega | (simp only [World.size_alloc, World.size_setCell, World.size_drew, size_drewN] <;> omega)) | (with_reducible apply Box.old) | (with_reducible apply Box.drew) | (with_reducible apply Box.drewN) | (with_reducible apply Box.set) | (with_reducible apply Box.other) | (with_reducible apply Box.only_ (by with_reducible assumption)) | (with_reducible apply Box.kept_ (by with_reducible assumption)) | (simp only [World.size_alloc, World.size_setCell, World.size_drew, size_drewN]; omega) | omega | (dsimp only; omega) | rfl | (simp; done))) rfl rfl rfl (by omega) (by omega), (by repeat (first | (with_reducible exact Kept.refl _) | (with_reducible assumption) | (with_reducible refine Kept.alloc ?_ _) | (with_reducible refine Kept.drew ?_) | (with_reducible refine Kept.drewN ?_ _) | (with_reducible refine Kept.setCell ?_ ?_ _) | (with_reducible refine Kept.trans ?_ (by with_reducible assumption)) | (simp only [World.size_alloc, World.size_setCell, World.size_drew, size_drewN]; omega) | omega | (dsimp only; omega)))⟩
set_option maxHeartbeats 1000000 in
theorem tankAwake (w : World) : Calls Try.prog 13 #[] w (Ret (.bool true) w) := by
  have nz : (⟨#[116]⟩ : ByteArray).size ≤ 60 := by decide
  go_enter Try.func13, Try.ntmps13
  go_wp2_with fail
  refine (tankEx_any _).mono ?_
  rintro e v1 ⟨b, z, rfl, hS, c1⟩
  go_wp2_with fail
  refine (Volume_good 13 nz hS ex_ok ex_in).mono ?_
  rw [ex_vol]
  rintro e v2 ⟨rfl, c2⟩
  clear hS
  go_wp2_with fail
  refine (tankEx_any _).mono ?_
  rintro e v3 ⟨b2, z2, rfl, hS, c3⟩
  go_wp2_with fail
  refine (Level_good 101 nz hS ex_ok ex_lv).mono ?_
  rw [ex_lvl]
  rintro e v4 ⟨rfl, c4⟩
  clear hS
  go_wp2_with fail
  refine (tankEx_any _).mono ?_
  rintro e v5 ⟨b3, z3, rfl, hS, c5⟩
  go_wp2_with fail
  refine (Room_good 13 nz hS ex_ok ex_in).mono ?_
  rw [ex_room]
  rintro e v6 ⟨rfl, c6⟩
  clear hS
  go_wp2
  go_ret
  exact ⟨rfl, (by repeat (first | (with_reducible exact Kept.refl _) | (with_reducible assumption) | (with_reducible refine Kept.alloc ?_ _) | (with_reducible refine Kept.drew ?_) | (with_reducible refine Kept.drewN ?_ _) | (with_reducible refine Kept.setCell ?_ ?_ _) | (with_reducible refine Kept.trans ?_ (by with_reducible assumption)) | (simp only [World.size_alloc, World.size_setCell, World.size_drew, size_drewN]; omega) | omega | (dsimp only; omega)))⟩

set_option maxRecDepth 100000 in
set_option maxHeartbeats 4000000 in
theorem TankLevels_law (a : Option Addr) (len cap : Nat) (x : Int) (w : World) (h : ArgInts w a len cap) (x0 : 0 ≤ x) (x1 : x ≤ 65535) :
    Calls Try.prog 3 #[.slice a len cap, .int .u16 x] w (Ret (.bool true) w) := by
  go_enter Try.func3, Try.ntmps3
  go_wp2_with fail
  refine (New_any _ _ _ _ h).mono ?_
  rintro e w1 ⟨bs, rfl, hs1, k1⟩
  have hlt := hs1.lt
  go_wp2_with fail
  refine (Tank_any _ _ bs hs1).mono ?_
  rintro e v2 ⟨nm, ta, tl, tc, lo, hi, l, hok, nz, l6, rfl, hS, s2, o2⟩
  have kw2 : Kept w v2 := Only.kept k1 o2 hlt.1
  clear h k1 o2 s2 hs1 l6
  have hll := hS.1
  have hmax := hS.2.2.1
  have hcap := hS.2.1
  unfold maxLen at hmax
  have ht := straps_of hok
  have h2 := ht.two
  obtain ⟨n, rfl⟩ : ∃ n, tl = n + 1 := ⟨tl - 1, by omega⟩
  have hn1 : 1 ≤ n := by omega
  have hn2 : n ≤ 15 := by have := ht.most; omega
  obtain ⟨b, o, rfl, hbw, _⟩ := ends_at hS (Kept.refl v2)
  obtain ⟨e1, e2, ⟨⟨n1, n2⟩, n3, n4⟩, ⟨⟨m1, m2⟩, m3, m4⟩⟩ := ends_lt ht
  have HS := Lib.hid hS
  have HT := Lib.hid ht
  have HO := Lib.hid hok
  clear hS ht hok hll h2
  have bT : Box (v2.alloc (Obj.cells #[.string nm, .slice (some ⟨b, o, none⟩) (n + 1) tc, .int .i64 lo, .int .i64 hi] 26)) v2.heap.size #[.string nm, .slice (some ⟨b, o, none⟩) (n + 1) tc, .int .i64 lo, .int .i64 hi] := Box.new rfl
  go_upto_region 2 with fail
  go_cut [6, 7] (fun p q wx => ∃ g h : Nat, p = .pointer (some ⟨g, 0, none⟩) ∧ q = .pointer (some ⟨h, 0, none⟩) ∧ Box wx g #[.int .i64 (fst l).lv, .int .i64 (fst l).vl] ∧ Box wx h #[.int .i64 (lst l).lv, .int .i64 (lst l).vl] ∧ Box wx v2.heap.size #[.string nm, .slice (some ⟨b, o, none⟩) (n + 1) tc, .int .i64 lo, .int .i64 hi] ∧ Kept v2 wx)
  case first =>
    obtain ⟨b', o', ea, _, d0, d1, d2, d3⟩ := ends_at HS.out (Kept.refl v2)
    obtain ⟨rfl, rfl⟩ : b' = b ∧ o' = o := by injection ea with ea; injection ea with e1 e2 _; exact ⟨e1.symm, e2.symm⟩
    clear ea
    have g1 : IntKind.i64.wrap ((n : Int) + 1 - 1) = n := by rw [show (n : Int) + 1 - 1 = n by omega]; exact IntWalk.i64_in _ (by omega)
    have g2 : (n : Int) < (n : Int) + 1 := by omega
    have g3 : (0 : Int) < (n : Int) + 1 := by omega
    generalize fst l = A at *
    generalize lst l = B at *
    obtain ⟨A1, V1⟩ := A
    obtain ⟨A2, V2⟩ := B
    dsimp only at d0 d1 d2 d3
    go_region
    all_goals
      go_wp2_with fail
      go_meet
      exact ⟨_, _, rfl, rfl, (by repeat (first | (with_reducible assumption) | (with_reducible apply Box.new; first | (with_reducible rfl) | omega | (simp only [World.size_alloc, World.size_setCell, World.size_drew, size_drewN] <;> omega)) | (with_reducible apply Box.old) | (with_reducible apply Box.drew) | (with_reducible apply Box.drewN) | (with_reducible apply Box.set) | (with_reducible apply Box.other) | (with_reducible apply Box.only_ (by with_reducible assumption)) | (with_reducible apply Box.kept_ (by with_reducible assumption)) | (simp only [World.size_alloc, World.size_setCell, World.size_drew, size_drewN]; omega) | omega | (dsimp only; omega) | rfl | (simp; done))), (by repeat (first | (with_reducible assumption) | (with_reducible apply Box.new; first | (with_reducible rfl) | omega | (simp only [World.size_alloc, World.size_setCell, World.size_drew, size_drewN] <;> omega)) | (with_reducible apply Box.old) | (with_reducible apply Box.drew) | (with_reducible apply Box.drewN) | (with_reducible apply Box.set) | (with_reducible apply Box.other) | (with_reducible apply Box.only_ (by with_reducible assumption)) | (with_reducible apply Box.kept_ (by with_reducible assumption)) | (simp only [World.size_alloc, World.size_setCell, World.size_drew, size_drewN]; omega) | omega | (dsimp only; omega) | rfl | (simp; done))), (by repeat (first | (with_reducible assumption) | (with_reducible apply Box.new; first | (with_reducible rfl) | omega | (simp only [World.size_alloc, World.size_setCell, World.size_drew, size_drewN] <;> omega)) | (with_reducible apply Box.old) | (with_reducible apply Box.drew) | (with_reducible apply Box.drewN) | (with_reducible apply Box.set) | (with_reducible apply Box.other) | (with_reducible apply Box.only_ (by with_reducible assumption)) | (with_reducible apply Box.kept_ (by with_reducible assumption)) | (simp only [World.size_alloc, World.size_setCell, World.size_drew, size_drewN]; omega) | omega | (dsimp only; omega) | rfl | (simp; done))), (by repeat (first | (with_reducible exact Kept.refl _) | (with_reducible assumption) | (with_reducible refine Kept.alloc ?_ _) | (with_reducible refine Kept.drew ?_) | (with_reducible refine Kept.drewN ?_ _) | (with_reducible refine Kept.setCell ?_ ?_ _) | (with_reducible refine Kept.trans ?_ (by with_reducible assumption)) | (simp only [World.size_alloc, World.size_setCell, World.size_drew, size_drewN]; omega) | omega | (dsimp only; omega)))⟩
  case rest =>
    clear bT
    obtain ⟨g, h, rfl, rfl, b6, b7, bT, kw3⟩ := hcut
    go_upto_region 3 with fail
    go_cut [8] (fun s wx => ∃ v : Int, s = .int .i64 v ∧ (fst l).vl ≤ v ∧ v ≤ (lst l).vl ∧ Box wx g #[.int .i64 (fst l).lv, .int .i64 (fst l).vl] ∧ Box wx v2.heap.size #[.string nm, .slice (some ⟨b, o, none⟩) (n + 1) tc, .int .i64 lo, .int .i64 hi] ∧ Kept v2 wx)
    case first =>
      have f6 := b6.cell
      have f7 := b7.cell
      have l6 := b6.lt
      have l7 := b7.lt
      have q0 := Int.emod_nonneg x (show (lst l).vl - (fst l).vl + 1 ≠ 0 by omega)
      have q1 := Int.emod_lt_of_pos x (show 0 < (lst l).vl - (fst l).vl + 1 by omega)
      generalize fst l = A at *
      generalize lst l = B at *
      obtain ⟨A1, V1⟩ := A
      obtain ⟨A2, V2⟩ := B
      dsimp only at *
      have w1' : IntKind.i64.wrap (V2 - V1) = V2 - V1 := IntWalk.i64_in _ (by omega)
      have w2' : IntKind.i64.wrap (V2 - V1 + 1) = V2 - V1 + 1 := IntWalk.i64_in _ (by omega)
      have w3' : x.tmod (V2 - V1 + 1) = x % (V2 - V1 + 1) := Int.tmod_eq_emod_of_nonneg x0
      have w4' : IntKind.i64.wrap (x % (V2 - V1 + 1)) = x % (V2 - V1 + 1) := IntWalk.i64_in _ (by omega)
      have w5' : IntKind.i64.wrap (V1 + x % (V2 - V1 + 1)) = V1 + x % (V2 - V1 + 1) := IntWalk.i64_in _ (by omega)
      have w6' : (V2 - V1 + 1 == 0) = false := by rw [beq_eq_false_iff_ne]; omega
      have w7' : IntKind.i64.wrap x = x := IntWalk.i64_in _ (by omega)
      go_quiet (fail)
      go_wp2
      go_meet
      exact ⟨_, rfl, by omega, by omega, (by repeat (first | (with_reducible assumption) | (with_reducible apply Box.new; first | (with_reducible rfl) | omega | (simp only [World.size_alloc, World.size_setCell, World.size_drew, size_drewN] <;> omega)) | (with_reducible apply Box.old) | (with_reducible apply Box.drew) | (with_reducible apply Box.drewN) | (with_reducible apply Box.set) | (with_reducible apply Box.other) | (with_reducible apply Box.only_ (by with_reducible assumption)) | (with_reducible apply Box.kept_ (by with_reducible assumption)) | (simp only [World.size_alloc, World.size_setCell, World.size_drew, size_drewN]; omega) | omega | (dsimp only; omega) | rfl | (simp; done))), (by repeat (first | (with_reducible assumption) | (with_reducible apply Box.new; first | (with_reducible rfl) | omega | (simp only [World.size_alloc, World.size_setCell, World.size_drew, size_drewN] <;> omega)) | (with_reducible apply Box.old) | (with_reducible apply Box.drew) | (with_reducible apply Box.drewN) | (with_reducible apply Box.set) | (with_reducible apply Box.other) | (with_reducible apply Box.only_ (by with_reducible assumption)) | (with_reducible apply Box.kept_ (by with_reducible assumption)) | (simp only [World.size_alloc, World.size_setCell, World.size_drew, size_drewN]; omega) | omega | (dsimp only; omega) | rfl | (simp; done))), (by repeat (first | (with_reducible exact Kept.refl _) | (with_reducible assumption) | (with_reducible refine Kept.alloc ?_ _) | (with_reducible refine Kept.drew ?_) | (with_reducible refine Kept.drewN ?_ _) | (with_reducible refine Kept.setCell ?_ ?_ _) | (with_reducible refine Kept.trans ?_ (by with_reducible assumption)) | (simp only [World.size_alloc, World.size_setCell, World.size_drew, size_drewN]; omega) | omega | (dsimp only; omega)))⟩
    case rest =>
      clear b6 b7 bT kw3
      obtain ⟨v, rfl, hv1, hv2, b6, bT, kw3⟩ := hcut
      have f6 := b6.cell
      have fT := bT.cell
      have l6 := b6.lt
      have lT := bT.lt
      obtain ⟨sp1, sp2, sp3⟩ := lvl_spec HT.out ⟨hv1, hv2⟩
      have SP1 := Lib.hid sp1
      have hb : 0 ≤ lvl l v ∧ lvl l v ≤ 1048576 := ⟨by have := sp1.1; omega, by have := sp1.2; omega⟩
      have hge := sp1.1
      have hle := sp1.2
      have HL := Lib.hid (fun W k => Level_good v nz (HS.out.kept StrapR.stays (w' := W) k) HO.out ⟨hv1, hv2⟩)
      have HV := Lib.hid (fun W k => Volume_good (lvl l v) nz (HS.out.kept StrapR.stays (w' := W) k) HO.out SP1.out)
      have nv := vol_num HT.out sp1
      go_wp2_with fail
      refine (HL.out _ (by repeat (first | (with_reducible exact Kept.refl _) | (with_reducible assumption) | (with_reducible refine Kept.alloc ?_ _) | (with_reducible refine Kept.drew ?_) | (with_reducible refine Kept.drewN ?_ _) | (with_reducible refine Kept.setCell ?_ ?_ _) | (with_reducible refine Kept.trans ?_ (by with_reducible assumption)) | (simp only [World.size_alloc, World.size_setCell, World.size_drew, size_drewN]; omega) | omega | (dsimp only; omega)))).mono ?_
      rintro e v4 ⟨rfl, c4⟩
      have c4_c := (kcell c4).1; have c4_f := (kcell c4).2; have c4_z := c4.size; try simp only [World.size_alloc, World.size_setCell, World.size_drew, size_drewN] at c4_c c4_f c4_z
      go_wp2_with fail
      refine (HV.out _ (by repeat (first | (with_reducible exact Kept.refl _) | (with_reducible assumption) | (with_reducible refine Kept.alloc ?_ _) | (with_reducible refine Kept.drew ?_) | (with_reducible refine Kept.drewN ?_ _) | (with_reducible refine Kept.setCell ?_ ?_ _) | (with_reducible refine Kept.trans ?_ (by with_reducible assumption)) | (simp only [World.size_alloc, World.size_setCell, World.size_drew, size_drewN]; omega) | omega | (dsimp only; omega)))).mono ?_
      rintro e v5 ⟨rfl, c5⟩
      have c5_c := (kcell c5).1; have c5_f := (kcell c5).2; have c5_z := c5.size; try simp only [World.size_alloc, World.size_setCell, World.size_drew, size_drewN] at c5_c c5_f c5_z
      by_cases hn : lvl l v = (fst l).lv
      · have hq : (lvl l v == (fst l).lv) = true := by rw [beq_iff_eq]; exact hn
        clear hn sp3 sp1
        go_wp2_with fail
        refine (tankAwake _).mono ?_
        rintro e v6 ⟨rfl, c6⟩
        have c6_c := (kcell c6).1; have c6_f := (kcell c6).2; have c6_z := c6.size; try simp only [World.size_alloc, World.size_setCell, World.size_drew, size_drewN] at c6_c c6_f c6_z
        go_wp2
        go_ret
        exact ⟨rfl, kw2.trans (by repeat (first | (with_reducible exact Kept.refl _) | (with_reducible assumption) | (with_reducible refine Kept.alloc ?_ _) | (with_reducible refine Kept.drew ?_) | (with_reducible refine Kept.drewN ?_ _) | (with_reducible refine Kept.setCell ?_ ?_ _) | (with_reducible refine Kept.trans ?_ (by with_reducible assumption)) | (simp only [World.size_alloc, World.size_setCell, World.size_drew, size_drewN]; omega) | omega | (dsimp only; omega)))⟩
      · have hq : (lvl l v == (fst l).lv) = false := by rw [beq_eq_false_iff_ne]; exact hn
        have hx : vol l (lvl l v - 1) < v := sp3.resolve_left hn
        have hin : InL l (lvl l v - 1) := ⟨by omega, by omega⟩
        have HW := Lib.hid (fun W k => Volume_good (lvl l v - 1) nz (HS.out.kept StrapR.stays (w' := W) k) HO.out hin)
        clear hn sp3 sp1 hin
        go_wp2_with fail
        refine (HW.out _ (by repeat (first | (with_reducible exact Kept.refl _) | (with_reducible assumption) | (with_reducible refine Kept.alloc ?_ _) | (with_reducible refine Kept.drew ?_) | (with_reducible refine Kept.drewN ?_ _) | (with_reducible refine Kept.setCell ?_ ?_ _) | (with_reducible refine Kept.trans ?_ (by with_reducible assumption)) | (simp only [World.size_alloc, World.size_setCell, World.size_drew, size_drewN]; omega) | omega | (dsimp only; omega)))).mono ?_
        rintro e v6 ⟨rfl, c6⟩
        have c6_c := (kcell c6).1; have c6_f := (kcell c6).2; have c6_z := c6.size; try simp only [World.size_alloc, World.size_setCell, World.size_drew, size_drewN] at c6_c c6_f c6_z
        go_wp2_with fail
        refine (tankAwake _).mono ?_
        rintro e v7 ⟨rfl, c7⟩
        have c7_c := (kcell c7).1; have c7_f := (kcell c7).2; have c7_z := c7.size; try simp only [World.size_alloc, World.size_setCell, World.size_drew, size_drewN] at c7_c c7_f c7_z
        go_wp2
        go_ret
        exact ⟨rfl, kw2.trans (by repeat (first | (with_reducible exact Kept.refl _) | (with_reducible assumption) | (with_reducible refine Kept.alloc ?_ _) | (with_reducible refine Kept.drew ?_) | (with_reducible refine Kept.drewN ?_ _) | (with_reducible refine Kept.setCell ?_ ?_ _) | (with_reducible refine Kept.trans ?_ (by with_reducible assumption)) | (simp only [World.size_alloc, World.size_setCell, World.size_drew, size_drewN]; omega) | omega | (dsimp only; omega)))⟩
end Go.Proofs.Ytooojlecefgonaa
