
/- Walks of ticket.Total, and of the statements' example (awake). -/
import Derived.Test.YtbclfphnhbmhoaaDoorTicket
import Derived.Test.YtbclfphnhbmhoaaDoorOwn
namespace Go.Proofs.YtbclfphnhbmhoaaDoor
open Go.RowKit
set_option linter.unusedVariables false
set_option linter.unusedSimpArgs false

structure Tk where
  B : Int
  l : Int
  n : Int
  l' : Int
  n' : Int
  t : Int
  q : Int
  v : Int
def tkF (s : Tk) : List Value := [.int .i64 s.B, .int .i64 s.l, .int .i64 s.n, .int .i64 s.l', .int .i64 s.n', .int .i64 s.t, .int .i64 s.q, .int .i64 s.v]
def TkR : RowT Tk := fun _ _ r s => r = tkF s
theorem TkR.stays : Stays TkR := ⟨fun _ _ _ _ _ _ h => h⟩
def tk0 : Tk := ⟨0, 0, 0, 0, 0, 0, 0, 0⟩
def tk (l : List Tk) (i : Nat) : Tk := l.getD i tk0
theorem tk_get {l : List Tk} {i : Nat} (h : i < l.length) : l[i] = tk l i := by
  unfold tk; rw [List.getD_eq_getElem?_getD, List.getElem?_eq_getElem h, Option.getD_some]
theorem tk_at {x : Nat} {w w' : World} {a : Option Addr} {len cap : Nat} {l : List Tk} (h : SliceOf TkR 8 x w a len cap l) (k : Kept w w') {i : Nat} (hi : i < len) :
    ∃ b o, a = some ⟨b, o, none⟩ ∧ b < w.heap.size ∧ w'.cell? ⟨b, o + i * 8, none⟩ = some (.int .i64 (tk l i).B) ∧ w'.cell? ⟨b, o + i * 8 + 1, none⟩ = some (.int .i64 (tk l i).l) ∧ w'.cell? ⟨b, o + i * 8 + 2, none⟩ = some (.int .i64 (tk l i).n) ∧ w'.cell? ⟨b, o + i * 8 + 3, none⟩ = some (.int .i64 (tk l i).l')
      ∧ w'.cell? ⟨b, o + i * 8 + 4, none⟩ = some (.int .i64 (tk l i).n') ∧ w'.cell? ⟨b, o + i * 8 + 5, none⟩ = some (.int .i64 (tk l i).t) ∧ w'.cell? ⟨b, o + i * 8 + 6, none⟩ = some (.int .i64 (tk l i).q) ∧ w'.cell? ⟨b, o + i * 8 + 7, none⟩ = some (.int .i64 (tk l i).v) := by
  have hl := h.1
  obtain ⟨b, o, e, hb, hc⟩ := h.2.2.2.2.2 (by omega)
  obtain ⟨r, hr, hcell⟩ := hc i (by omega)
  have hr : r = tkF l[i] := hr
  rw [tk_get] at hr
  subst hr
  exact ⟨b, o, e, hb.1, by rw [kcell1 k hb.1]; exact hcell 0 _ rfl, by rw [kcell1 k hb.1]; exact hcell 1 _ rfl, by rw [kcell1 k hb.1]; exact hcell 2 _ rfl, by rw [kcell1 k hb.1]; exact hcell 3 _ rfl,
    by rw [kcell1 k hb.1]; exact hcell 4 _ rfl, by rw [kcell1 k hb.1]; exact hcell 5 _ rfl, by rw [kcell1 k hb.1]; exact hcell 6 _ rfl, by rw [kcell1 k hb.1]; exact hcell 7 _ rfl⟩
/-- What a ticket adds to the total of a batch. -/
def tkV (B : Int) (s : Tk) : Int := if s.B = B ∧ 0 ≤ s.v ∧ s.v ≤ 1099511627776 then s.v else 0
theorem tkV_bd (B : Int) (s : Tk) : 0 ≤ tkV B s ∧ tkV B s ≤ 1099511627776 := by unfold tkV; split <;> omega
def tot (B : Int) : List Tk → Int
  | [] => 0
  | s :: l => tkV B s + tot B l
theorem tot_append (B : Int) (l m : List Tk) : tot B (l ++ m) = tot B l + tot B m := by
  induction l with
  | nil => show tot B m = 0 + tot B m; omega
  | cons s l ih => show tkV B s + tot B (l ++ m) = tkV B s + tot B l + tot B m; rw [ih]; omega
theorem tot_bd (B : Int) (l : List Tk) : 0 ≤ tot B l ∧ tot B l ≤ l.length * 1099511627776 := by
  induction l with
  | nil => exact ⟨Int.le_refl 0, by simp [tot]⟩
  | cons s l ih => have := tkV_bd B s; rw [List.length_cons]; show 0 ≤ tkV B s + tot B l ∧ tkV B s + tot B l ≤ _; omega
theorem tot_take {B : Int} {l : List Tk} {k : Nat} (h : k < l.length) : tot B (l.take (k + 1)) = tot B (l.take k) + tkV B (tk l k) := by
  rw [List.take_add_one, List.getElem?_eq_getElem h, Option.toList_some, tot_append, tk_get h]
  show _ + (tkV B _ + 0) = _
  omega

set_option maxHeartbeats 2000000 in
theorem Total_any (a : Option Addr) (len cap : Nat) (B : Int) (l : List Tk) (z : Nat) (w : World) (hS : SliceOf TkR 8 z w a len cap l) (hl : len ≤ 1000) :
    Calls Tryd.prog 26 #[.slice a len cap, .int .i64 B] w (Ret (.int .i64 (tot B l)) w) := by
  have HL := Lib.hid hS.1
  have hmax := hS.2.2.1
  have hcap := hS.2.1
  unfold maxLen at hmax
  have HS := Lib.hid hS
  clear hS
  go_enter Tryd.func26, Tryd.ntmps26
  go_wp2_with fail
  go_loopw [5, 10] (fun s i wr => ∃ (k : Nat) (S : Int), k ≤ len ∧ i = .int .i64 k ∧ s = .int .i64 S ∧ Hid (S = tot B (l.take k)) ∧ Kept w wr) (fun _ i _ => len - (intOf i).toNat)
  case atStart => exact ⟨0, 0, Nat.zero_le _, rfl, rfl, Lib.hid (by simp [tot]), (by repeat (first | (with_reducible exact Kept.refl _) | (with_reducible assumption) | (with_reducible refine Kept.alloc ?_ _) | (with_reducible refine Kept.drew ?_) | (with_reducible refine Kept.drewN ?_ _) | (with_reducible refine Kept.setCell ?_ ?_ _) | (with_reducible refine Kept.trans ?_ (by with_reducible assumption)) | (simp only [World.size_alloc, World.size_setCell, World.size_drew, size_drewN]; omega) | omega | (dsimp only; omega)))⟩
  case round =>
    obtain ⟨k, S, hk, rfl, rfl, hs, kw⟩ := hrel
    have sb := tot_bd B (l.take k)
    rw [← hs.out, List.length_take] at sb
    have hS2 : 0 ≤ S ∧ S ≤ 1000 * 1099511627776 := by omega
    obtain ⟨S0, S1⟩ := hS2
    clear sb
    by_cases hkl : k < len
    · obtain ⟨b, o, rfl, hbw, d0, d1, d2, d3, d4, d5, d6, d7⟩ := tk_at HS.out kw hkl
      have hbr : b < wr.heap.size := by have := kw.size; omega
      have NX := Lib.hid (tot_take (B := B) (l := l) (k := k) (by have := HL.out; omega))
      generalize tk l k = X at *
      obtain ⟨xB, xl, xn, xl', xn', xt, xq, xv⟩ := X
      dsimp only at d0 d1 d2 d3 d4 d5 d6 d7
      by_cases hq : xB = B ∧ 0 ≤ xv ∧ xv ≤ 1099511627776
      · have E := Lib.hid (show tot B (l.take (k + 1)) = S + xv by rw [NX.out, hs.out]; unfold tkV; rw [if_pos hq])
        obtain ⟨rfl, q1, q2⟩ := hq
        go_wp2_with fail
        go_roundw
        case rel => exact ⟨k + 1, S + xv, by omega, by go_num, by first | rfl | go_num, Lib.hid E.out.symm, (by repeat (first | (with_reducible exact Kept.refl _) | (with_reducible assumption) | (with_reducible refine Kept.alloc ?_ _) | (with_reducible refine Kept.drew ?_) | (with_reducible refine Kept.drewN ?_ _) | (with_reducible refine Kept.setCell ?_ ?_ _) | (with_reducible refine Kept.trans ?_ (by with_reducible assumption)) | (simp only [World.size_alloc, World.size_setCell, World.size_drew, size_drewN]; omega) | omega | (dsimp only; omega)))⟩
        case measure => simp [intOf]; omega
      · have E := Lib.hid (show tot B (l.take (k + 1)) = S by rw [NX.out, hs.out]; unfold tkV; rw [if_neg hq]; omega)
        have hq' : xB ≠ B ∨ (xB = B ∧ xv < 0) ∨ (xB = B ∧ 0 ≤ xv ∧ 1099511627776 < xv) := by omega
        clear hq
        rcases hq' with h1 | ⟨rfl, h1⟩ | ⟨rfl, h1, h2⟩
        all_goals
          go_wp2_with fail
          go_roundw
          case rel => exact ⟨k + 1, S, by omega, by go_num, rfl, Lib.hid E.out.symm, (by repeat (first | (with_reducible exact Kept.refl _) | (with_reducible assumption) | (with_reducible refine Kept.alloc ?_ _) | (with_reducible refine Kept.drew ?_) | (with_reducible refine Kept.drewN ?_ _) | (with_reducible refine Kept.setCell ?_ ?_ _) | (with_reducible refine Kept.trans ?_ (by with_reducible assumption)) | (simp only [World.size_alloc, World.size_setCell, World.size_drew, size_drewN]; omega) | omega | (dsimp only; omega)))⟩
          case measure => simp [intOf]; omega
    · obtain rfl : k = len := by omega
      have E := Lib.hid (show S = tot B l by rw [hs.out, List.take_of_length_le (by have := HL.out; omega)])
      go_wp2
      go_ret
      exact ⟨ret_i E.out, (by repeat (first | (with_reducible exact Kept.refl _) | (with_reducible assumption) | (with_reducible refine Kept.alloc ?_ _) | (with_reducible refine Kept.drew ?_) | (with_reducible refine Kept.drewN ?_ _) | (with_reducible refine Kept.setCell ?_ ?_ _) | (with_reducible refine Kept.trans ?_ (by with_reducible assumption)) | (simp only [World.size_alloc, World.size_setCell, World.size_drew, size_drewN]; omega) | omega | (dsimp only; omega)))⟩
theorem slice_of_boxT {w : World} {b z cap : Nat} {c : Array Value} {l : List Tk} (h : Box w b c) (hc : c.toList = l.flatMap tkF) (hcap : c.size = cap * 8) (hl : l.length = cap) (hm : cap ≤ 1000) (hz : b ≠ z) : SliceOf TkR 8 z w (some ⟨b, 0, none⟩) l.length cap l := by
  obtain ⟨t, h⟩ := h
  refine SliceOf.of_owns (base := 0) (E := t) (n := l.length) (xs := l.flatMap tkF) ⟨?_, .inr ⟨b, cap, c, rfl, Nat.zero_le _, h, by omega, by unfold maxLen; omega, hcap, ?_⟩⟩ (rows2_map tkF l (fun e _ => rfl) (fun e _ => rfl)) rfl (.inr (fun k hk => (show b = k by simpa [Value.ownBlock] using hk) ▸ hz))
  · rw [← hc, hl, ← hcap, Array.length_toList]
  · rw [hl, ← hcap, ← Array.length_toList, List.take_length, hc]
theorem name_p : nameOk ⟨#[112]⟩ = true := by decide +kernel
theorem ex_tV : tV 1000 100000 0 500 0 0 150 0 = 500 := by decide +kernel
theorem ex_tkOk : TkOk 1000 32 100000 ⟨#[112]⟩ 800 0 0 1000 0 0 0 500 500 150 0 := ⟨by decide, by decide, ⟨by decide, name_p⟩, by decide, by decide, by decide, by decide, by decide, by decide +kernel⟩
def exT : Tk := ⟨0, 0, 0, 500, 500, 150, 0, 500⟩
theorem ex_tot : tot 0 [exT, exT] = 1000 := by decide +kernel
set_option maxRecDepth 100000 in
set_option maxHeartbeats 2000000 in
theorem tkAwake (w : World) (hsp : Spans w) : Calls Tryd.prog 8 #[] w (Ret (.bool true) w) := by
  have HM := Lib.hid (fun W k => ex_tV ▸ Make_ok 1000 32 100000 ⟨#[112]⟩ 800 0 0 1000 0 0 0 500 500 150 0 W k ex_tkOk)
  have HC := Lib.hid (fun W k => ex_tV ▸ Check_ok 1000 32 100000 ⟨#[112]⟩ 800 0 0 1000 0 0 0 500 500 150 0 W k ex_tkOk)
  go_enter Tryd.func8, Tryd.ntmps8
  go_wp2_with fail
  refine (HM.out _ (Box.kept hsp (by repeat (first | (with_reducible exact Kept.refl _) | (with_reducible assumption) | (with_reducible refine Kept.alloc ?_ _) | (with_reducible refine Kept.drew ?_) | (with_reducible refine Kept.drewN ?_ _) | (with_reducible refine Kept.setCell ?_ ?_ _) | (with_reducible refine Kept.trans ?_ (by with_reducible assumption)) | (simp only [World.size_alloc, World.size_setCell, World.size_drew, size_drewN]; omega) | omega | (dsimp only; omega))))).mono ?_
  rintro e v1 ⟨rfl, c1⟩
  have c1_c := (kcell c1).1; have c1_f := (kcell c1).2; have c1_z := c1.size; try simp only [World.size_alloc, World.size_setCell, World.size_drew, size_drewN] at c1_c c1_f c1_z
  go_wp2_with fail
  refine (HC.out _ (Box.kept hsp (by repeat (first | (with_reducible exact Kept.refl _) | (with_reducible assumption) | (with_reducible refine Kept.alloc ?_ _) | (with_reducible refine Kept.drew ?_) | (with_reducible refine Kept.drewN ?_ _) | (with_reducible refine Kept.setCell ?_ ?_ _) | (with_reducible refine Kept.trans ?_ (by with_reducible assumption)) | (simp only [World.size_alloc, World.size_setCell, World.size_drew, size_drewN]; omega) | omega | (dsimp only; omega))))).mono ?_
  rintro e v2 ⟨rfl, c2⟩
  have c2_c := (kcell c2).1; have c2_f := (kcell c2).2; have c2_z := c2.size; try simp only [World.size_alloc, World.size_setCell, World.size_drew, size_drewN] at c2_c c2_f c2_z
  go_wp2_with fail
  refine (ex_tot ▸ Total_any (some ⟨_, 0, none⟩) 2 2 0 [exT, exT] 0 _ (slice_of_boxT (l := [exT, exT]) (Box.new rfl) rfl rfl rfl (by omega) (by omega)) (by omega)).mono ?_
  rintro e v3 ⟨rfl, c3⟩
  have c3_c := (kcell c3).1; have c3_f := (kcell c3).2; have c3_z := c3.size; try simp only [World.size_alloc, World.size_setCell, World.size_drew, size_drewN] at c3_c c3_f c3_z
  go_wp2
  go_ret
  exact ⟨rfl, (by repeat (first | (with_reducible exact Kept.refl _) | (with_reducible assumption) | (with_reducible refine Kept.alloc ?_ _) | (with_reducible refine Kept.drew ?_) | (with_reducible refine Kept.drewN ?_ _) | (with_reducible refine Kept.setCell ?_ ?_ _) | (with_reducible refine Kept.trans ?_ (by with_reducible assumption)) | (simp only [World.size_alloc, World.size_setCell, World.size_drew, size_drewN]; omega) | omega | (dsimp only; omega)))⟩
end Go.Proofs.YtbclfphnhbmhoaaDoor
