/- Walks of package trouble, continued: some (through slices.ContainsFunc), Stopped, Stuck. -/
import Derived.Test.YtbodabbgcbjkcaaTrouble
namespace Go.Proofs.Ytbodabbgcbjkcaa
open Go.RowKit
set_option linter.unusedVariables false
set_option linter.unusedSimpArgs false

set_option maxHeartbeats 400000 in
theorem someFn_any (K I V F T kd ix tk : Int) (p1 p2 p3 : Nat) (w : World) (h1 : w.cell? ⟨p1, 0, none⟩ = some (.int .i64 kd)) (h2 : w.cell? ⟨p2, 0, none⟩ = some (.int .i64 ix)) (h3 : w.cell? ⟨p3, 0, none⟩ = some (.int .i64 tk))
    (l1 : p1 < w.heap.size) (l2 : p2 < w.heap.size) (l3 : p3 < w.heap.size) :
    Calls Try.prog 67 #[trv K I V F T, .pointer (some ⟨p1, 0, none⟩), .pointer (some ⟨p2, 0, none⟩), .pointer (some ⟨p3, 0, none⟩)] w (Ret (.bool (hitsB K I F T kd ix tk)) w) := by
  by_cases hK : K = kd
  · by_cases hI : I = ix
    · subst hK hI
      have hkk : (K == K) = true := by simp
      have hii : (I == I) = true := by simp
      have H := Lib.hid (show hereB F T tk = hitsB K I F T K I tk by simp [hitsB])
      go_enter Try.func67, Try.ntmps67
      go_wp2_with fail
      refine (there_any _ _ _ _ _ _ _).mono ?_
      rintro e w1 ⟨rfl, k1⟩
      go_wp2
      go_ret
      exact ⟨ret_b H.out, (by repeat (first | (with_reducible exact Kept.refl _) | (with_reducible assumption) | (with_reducible refine Kept.alloc ?_ _) | (with_reducible refine Kept.drew ?_) | (with_reducible refine Kept.drewN ?_ _) | (with_reducible refine Kept.setCell ?_ ?_ _) | (with_reducible refine Kept.trans ?_ (by with_reducible assumption)) | (simp only [World.size_alloc, World.size_setCell, World.size_drew, size_drewN]; omega) | omega | (dsimp only; omega)))⟩
    · have hii : (I == ix) = false := by rw [beq_eq_false_iff_ne]; exact hI
      subst hK
      have hkk : (K == K) = true := by simp
      have H := Lib.hid (show false = hitsB K I F T K ix tk by simp [hitsB, hii])
      clear hI
      go_enter Try.func67, Try.ntmps67
      go_wp2
      go_ret
      exact ⟨ret_b H.out, (by repeat (first | (with_reducible exact Kept.refl _) | (with_reducible assumption) | (with_reducible refine Kept.alloc ?_ _) | (with_reducible refine Kept.drew ?_) | (with_reducible refine Kept.drewN ?_ _) | (with_reducible refine Kept.setCell ?_ ?_ _) | (with_reducible refine Kept.trans ?_ (by with_reducible assumption)) | (simp only [World.size_alloc, World.size_setCell, World.size_drew, size_drewN]; omega) | omega | (dsimp only; omega)))⟩
  · have hkk : (K == kd) = false := by rw [beq_eq_false_iff_ne]; exact hK
    have H := Lib.hid (show false = hitsB K I F T kd ix tk by simp [hitsB, hkk])
    clear hK
    go_enter Try.func67, Try.ntmps67
    go_wp2
    go_ret
    exact ⟨ret_b H.out, (by repeat (first | (with_reducible exact Kept.refl _) | (with_reducible assumption) | (with_reducible refine Kept.alloc ?_ _) | (with_reducible refine Kept.drew ?_) | (with_reducible refine Kept.drewN ?_ _) | (with_reducible refine Kept.setCell ?_ ?_ _) | (with_reducible refine Kept.trans ?_ (by with_reducible assumption)) | (simp only [World.size_alloc, World.size_setCell, World.size_drew, size_drewN]; omega) | omega | (dsimp only; omega)))⟩

def tany (l : List Trb) (kd ix tk : Int) : Bool := l.any fun t => t.hits kd ix tk
def FoundIf (b : Bool) (w : World) (e : Ending) (w' : World) : Prop := ∃ n : Int, (0 ≤ n ↔ b = true) ∧ -1 ≤ n ∧ e = .returned (.int .i64 n) ∧ Kept w w'

set_option maxHeartbeats 1000000 in
theorem IndexFunc_some (a : Option Addr) (len cap : Nat) (l : List Trb) (kd ix tk : Int) (p1 p2 p3 : Nat) (w : World) (h : TrS w a len cap l)
    (h1 : w.cell? ⟨p1, 0, none⟩ = some (.int .i64 kd)) (h2 : w.cell? ⟨p2, 0, none⟩ = some (.int .i64 ix)) (h3 : w.cell? ⟨p3, 0, none⟩ = some (.int .i64 tk)) (l1 : p1 < w.heap.size) (l2 : p2 < w.heap.size) (l3 : p3 < w.heap.size) :
    Calls Try.prog 70 #[.slice a len cap, .func (.func 67) #[] #[.pointer (some ⟨p1, 0, none⟩), .pointer (some ⟨p2, 0, none⟩), .pointer (some ⟨p3, 0, none⟩)]] w (FoundIf (tany l kd ix tk) w) := by
  obtain ⟨hl, hl2, hc⟩ := h
  have HL := Lib.hid hl
  have HC := Lib.hid hc
  clear hl hc
  go_enter Try.func70, Try.ntmps70
  go_wp2
  go_loopw [8] (fun i wr => ∃ k : Nat, k ≤ len ∧ i = .int .i64 k ∧ Kept w wr ∧ Hid (∀ j (h : j < l.length), j < k → l[j].hits kd ix tk = false)) (fun i _ => len - (intOf i).toNat)
  case atStart => exact ⟨0, Nat.zero_le _, rfl, Kept.refl _, fun j _ h => absurd h (by omega)⟩
  case round =>
    obtain ⟨k, hk, rfl, hkw, hno⟩ := hrel
    by_cases hlt : k < len
    · have hkl : k < l.length := by have := HL.out; omega
      obtain ⟨b, o, rfl, hbb, hcc⟩ := HC.out (by omega)
      have hbr : b < wr.heap.size := Nat.lt_of_lt_of_le hbb hkw.size
      have hat := (hcc k hkl).kept hkw hbb
      have hth : l[k].hits kd ix tk = hitsB l[k].kind l[k].index l[k].frm l[k].to kd ix tk := rfl
      have HTH := Lib.hid hth
      clear hth
      obtain ⟨t, ht⟩ : ∃ t, t = l[k] := ⟨_, rfl⟩
      rw [← ht] at hat HTH
      have HT := Lib.hid ht
      clear ht
      obtain ⟨K, I, V, F, T⟩ := t
      obtain ⟨c0, c1, c2, c3, c4⟩ := hat
      dsimp only at c0 c1 c2 c3 c4 HTH
      clear hcc
      have g1 := (kcell1 hkw l1 0).trans h1
      have g2 := (kcell1 hkw l2 0).trans h2
      have g3 := (kcell1 hkw l3 0).trans h3
      have m1 : p1 < wr.heap.size := Nat.lt_of_lt_of_le l1 hkw.size
      have m2 : p2 < wr.heap.size := Nat.lt_of_lt_of_le l2 hkw.size
      have m3 : p3 < wr.heap.size := Nat.lt_of_lt_of_le l3 hkw.size
      cases hh : hitsB K I F T kd ix tk with
      | false =>
        go_wp2_with fail
        refine (someFn_any _ _ _ _ _ kd ix tk _ _ _ _ g1 g2 g3 m1 m2 m3).mono ?_
        rw [hh]
        rintro e w1 ⟨rfl, k1⟩
        go_wp2
        go_roundw
        case rel => exact ⟨k + 1, by omega, by go_num, (by repeat (first | (with_reducible exact Kept.refl _) | (with_reducible assumption) | (with_reducible refine Kept.alloc ?_ _) | (with_reducible refine Kept.drew ?_) | (with_reducible refine Kept.drewN ?_ _) | (with_reducible refine Kept.setCell ?_ ?_ _) | (with_reducible refine Kept.trans ?_ (by with_reducible assumption)) | (simp only [World.size_alloc, World.size_setCell, World.size_drew, size_drewN]; omega) | omega | (dsimp only; omega))), fun j hj hlt2 => by
          rcases Nat.lt_or_eq_of_le (Nat.lt_succ_iff.1 hlt2) with h | rfl
          · exact hno.out j hj h
          · rw [← HT.out, HTH.out]; exact hh⟩
        case measure => simp [intOf]; omega
      | true =>
        go_wp2_with fail
        refine (someFn_any _ _ _ _ _ kd ix tk _ _ _ _ g1 g2 g3 m1 m2 m3).mono ?_
        rw [hh]
        rintro e w1 ⟨rfl, k1⟩
        go_wp2
        go_ret
        have hy : tany l kd ix tk = true := List.any_eq_true.2 ⟨l[k], List.getElem_mem _, by rw [← HT.out, HTH.out]; exact hh⟩
        exact ⟨k, by rw [hy]; simp, by omega, rfl, (by repeat (first | (with_reducible exact Kept.refl _) | (with_reducible assumption) | (with_reducible refine Kept.alloc ?_ _) | (with_reducible refine Kept.drew ?_) | (with_reducible refine Kept.drewN ?_ _) | (with_reducible refine Kept.setCell ?_ ?_ _) | (with_reducible refine Kept.trans ?_ (by with_reducible assumption)) | (simp only [World.size_alloc, World.size_setCell, World.size_drew, size_drewN]; omega) | omega | (dsimp only; omega)))⟩
    · go_wp2
      go_ret
      have hy : tany l kd ix tk = false := by
        rw [tany, List.any_eq_false]
        intro t ht
        obtain ⟨i, hi, rfl⟩ := List.getElem_of_mem ht
        have := hno.out i hi (by have := HL.out; omega)
        rw [this]; exact Bool.false_ne_true
      exact ⟨-1, by rw [hy]; simp, by omega, rfl, hkw⟩

set_option maxHeartbeats 1000000 in
theorem ContainsFunc_some (a : Option Addr) (len cap : Nat) (l : List Trb) (kd ix tk : Int) (p1 p2 p3 : Nat) (w : World) (h : TrS w a len cap l)
    (h1 : w.cell? ⟨p1, 0, none⟩ = some (.int .i64 kd)) (h2 : w.cell? ⟨p2, 0, none⟩ = some (.int .i64 ix)) (h3 : w.cell? ⟨p3, 0, none⟩ = some (.int .i64 tk)) (l1 : p1 < w.heap.size) (l2 : p2 < w.heap.size) (l3 : p3 < w.heap.size) :
    Calls Try.prog 66 #[.slice a len cap, .func (.func 67) #[] #[.pointer (some ⟨p1, 0, none⟩), .pointer (some ⟨p2, 0, none⟩), .pointer (some ⟨p3, 0, none⟩)]] w (Ret (.bool (tany l kd ix tk)) w) := by
  go_enter Try.func66, Try.ntmps66
  go_wp2_with fail
  refine (IndexFunc_some _ _ _ l kd ix tk _ _ _ _ h h1 h2 h3 l1 l2 l3).mono ?_
  rintro e w1 ⟨n, hn, hn1, rfl, k1⟩
  cases hb : tany l kd ix tk with
  | true =>
    have hp : 0 ≤ n := hn.2 hb
    clear hn
    go_wp2
    go_ret
    exact ⟨ret_b (by rw [hb]; first | done | exact decide_eq_false (by omega)), k1⟩
  | false =>
    have hp : n < 0 := by
      rw [hb] at hn
      simp at hn
      omega
    clear hn
    go_wp2
    go_ret
    exact ⟨ret_b (by rw [hb]; first | done | exact decide_eq_false (by omega)), k1⟩

set_option maxHeartbeats 400000 in
theorem some_any (a : Option Addr) (len cap : Nat) (l : List Trb) (kd ix tk : Int) (w : World) (h : TrS w a len cap l) :
    Calls Try.prog 50 #[.slice a len cap, .int .i64 kd, .int .i64 ix, .int .i64 tk] w (Ret (.bool (tany l kd ix tk)) w) := by
  go_enter Try.func50, Try.ntmps50
  go_wp2_with fail
  refine (ContainsFunc_some _ _ _ l kd ix tk _ _ _ _ (h.kept (by repeat (first | (with_reducible exact Kept.refl _) | (with_reducible assumption) | (with_reducible refine Kept.alloc ?_ _) | (with_reducible refine Kept.drew ?_) | (with_reducible refine Kept.drewN ?_ _) | (with_reducible refine Kept.setCell ?_ ?_ _) | (with_reducible refine Kept.trans ?_ (by with_reducible assumption)) | (simp only [World.size_alloc, World.size_setCell, World.size_drew, size_drewN]; omega) | omega | (dsimp only; omega)))) (by simp [go_sem, ↓IntWalk.iteOmega]) (by simp [go_sem, ↓IntWalk.iteOmega]) (by simp [go_sem, ↓IntWalk.iteOmega]) (by simp <;> omega) (by simp <;> omega) (by simp)).mono ?_
  rintro e w1 ⟨rfl, k1⟩
  go_wp2
  go_ret
  exact ⟨rfl, (by repeat (first | (with_reducible exact Kept.refl _) | (with_reducible assumption) | (with_reducible refine Kept.alloc ?_ _) | (with_reducible refine Kept.drew ?_) | (with_reducible refine Kept.drewN ?_ _) | (with_reducible refine Kept.setCell ?_ ?_ _) | (with_reducible refine Kept.trans ?_ (by with_reducible assumption)) | (simp only [World.size_alloc, World.size_setCell, World.size_drew, size_drewN]; omega) | omega | (dsimp only; omega)))⟩
theorem Stopped_any (a : Option Addr) (len cap : Nat) (l : List Trb) (ix tk : Int) (w : World) (h : TrS w a len cap l) :
    Calls Try.prog 23 #[.slice a len cap, .int .i64 ix, .int .i64 tk] w (Ret (.bool (tany l 3 ix tk)) w) := by
  go_enter Try.func23, Try.ntmps23
  go_wp2_with fail
  refine (some_any _ _ _ l _ _ _ _ h).mono ?_
  rintro e w1 ⟨rfl, k1⟩
  go_wp2
  go_ret
  exact ⟨rfl, k1⟩
theorem Stuck_any (a : Option Addr) (len cap : Nat) (l : List Trb) (ix tk : Int) (w : World) (h : TrS w a len cap l) :
    Calls Try.prog 22 #[.slice a len cap, .int .i64 ix, .int .i64 tk] w (Ret (.bool (tany l 4 ix tk)) w) := by
  go_enter Try.func22, Try.ntmps22
  go_wp2_with fail
  refine (some_any _ _ _ l _ _ _ _ h).mono ?_
  rintro e w1 ⟨rfl, k1⟩
  go_wp2
  go_ret
  exact ⟨rfl, k1⟩
end Go.Proofs.Ytbodabbgcbjkcaa
