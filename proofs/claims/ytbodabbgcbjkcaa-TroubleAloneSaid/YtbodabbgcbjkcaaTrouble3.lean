/- The walk of trouble.Next. -/
import Derived.Test.YtbodabbgcbjkcaaTrouble2
namespace Go.Proofs.Ytbodabbgcbjkcaa
open Go.RowKit
set_option linter.unusedVariables false
set_option linter.unusedSimpArgs false

def nst (s : Int × Bool) (tk n : Int) : Int × Bool := if tk < n ∧ (s.2 = false ∨ n < s.1) then (n, true) else s
def nst2 (s : Int × Bool) (tk : Int) (t : Trb) : Int × Bool := if t.to ≤ t.frm then s else nst (nst s tk t.frm) tk t.to
def inn (s : Int × Bool) (tk F T : Int) (j : Nat) : Int × Bool := if j = 0 then s else if j = 1 then nst s tk F else nst (nst s tk F) tk T
def tnext (l : List Trb) (tk : Int) : Int × Bool := l.foldl (fun s t => nst2 s tk t) (0, false)
theorem tnext_take (l : List Trb) (tk : Int) (k : Nat) (h : k < l.length) : tnext (l.take (k + 1)) tk = nst2 (tnext (l.take k) tk) tk l[k] := by
  unfold tnext
  rw [List.take_succ_eq_append_getElem h, List.foldl_append]
  rfl

set_option maxHeartbeats 2000000 in
theorem Next_any (a : Option Addr) (len cap : Nat) (l : List Trb) (tk : Int) (w : World) (h : TrS w a len cap l) :
    Calls Try.prog 19 #[.slice a len cap, .int .i64 tk] w (Ret (.tuple #[.int .i64 (tnext l tk).1, .bool (tnext l tk).2]) w) := by
  obtain ⟨hl, hl2, hc⟩ := h
  have HL := Lib.hid hl
  have HC := Lib.hid hc
  clear hl hc
  go_enter Try.func19, Try.ntmps19
  go_wp2
  go_loopw [6, 7, 14] (fun s q i wr => ∃ (k : Nat) (best : Int) (ok : Bool), k ≤ len ∧ s = .int .i64 best ∧ q = .bool ok ∧ Hid ((best, ok) = tnext (l.take k) tk) ∧ i = .int .i64 k ∧ Kept w wr) (fun _ _ i _ => len - (intOf i).toNat)
  case atStart => exact ⟨0, 0, false, Nat.zero_le _, rfl, rfl, rfl, rfl, Kept.refl _⟩
  case round =>
    obtain ⟨k, best, ok, hk, rfl, rfl, hs, rfl, hkw⟩ := hrel
    by_cases hlt : k < len
    · have hkl : k < l.length := by have := HL.out; omega
      obtain ⟨b, o, rfl, hbb, hcc⟩ := HC.out (by omega)
      have hbr : b < wr.heap.size := Nat.lt_of_lt_of_le hbb hkw.size
      have hat := (hcc k hkl).kept hkw hbb
      have hst := tnext_take l tk k hkl
      rw [← hs.out] at hst
      generalize l[k] = t at hat hst
      obtain ⟨K, I, V, F, T⟩ := t
      obtain ⟨c0, c1, c2, c3, c4⟩ := hat
      dsimp only at c0 c1 c2 c3 c4
      clear hcc
      obtain ⟨wo, hwo⟩ : ∃ wo : World, wo = wr := ⟨_, rfl⟩
      subst hwo
      by_cases hft : T ≤ F
      · have HS := Lib.hid (show (best, ok) = tnext (l.take (k + 1)) tk by rw [hst]; simp [nst2, hft])
        clear hst hs
        go_wp2
        go_roundw
        case rel => exact ⟨k + 1, best, ok, by omega, rfl, rfl, HS, by go_num, (by repeat (first | (with_reducible exact Kept.refl _) | (with_reducible assumption) | (with_reducible refine Kept.alloc ?_ _) | (with_reducible refine Kept.drew ?_) | (with_reducible refine Kept.drewN ?_ _) | (with_reducible refine Kept.setCell ?_ ?_ _) | (with_reducible refine Kept.trans ?_ (by with_reducible assumption)) | (simp only [World.size_alloc, World.size_setCell, World.size_drew, size_drewN]; omega) | omega | (dsimp only; omega)))⟩
        case measure => simp [intOf]; omega
      · have HS := Lib.hid (show nst (nst (best, ok) tk F) tk T = tnext (l.take (k + 1)) tk by rw [hst]; simp [nst2, hft])
        clear hst hs
        go_wp2_with fail
        go_loop [6, 7, 29] (fun s q i => ∃ (j : Nat) (bb : Int) (ob : Bool), j ≤ 2 ∧ s = .int .i64 bb ∧ q = .bool ob ∧ Hid ((bb, ob) = inn (best, ok) tk F T j) ∧ i = .int .i64 j) (fun _ _ i => 2 - (intOf i).toNat)
        case atStart => exact ⟨0, best, ok, by omega, rfl, rfl, rfl, rfl⟩
        case round =>
          obtain ⟨j, bb, ob, hj2, rfl, rfl, hj, rfl⟩ := hrel
          by_cases hjl : j < 2
          · rcases (show j = 0 ∨ j = 1 by omega) with rfl | rfl
            · by_cases c1 : tk < F
              · cases ob with
                | false =>
                  have HN := Lib.hid (show (F, true) = inn (best, ok) tk F T 1 by rw [show inn (best, ok) tk F T 1 = nst (inn (best, ok) tk F T 0) tk F from rfl, ← hj.out]; simp [nst, c1])
                  clear hj
                  go_wp2
                  go_round
                  case rel => exact ⟨1, _, _, by omega, rfl, rfl, HN, rfl⟩
                  case measure => simp [intOf]
                | true =>
                  by_cases c2 : F < bb
                  · have HN := Lib.hid (show (F, true) = inn (best, ok) tk F T 1 by rw [show inn (best, ok) tk F T 1 = nst (inn (best, ok) tk F T 0) tk F from rfl, ← hj.out]; simp [nst, c1, c2])
                    clear hj
                    go_wp2
                    go_round
                    case rel => exact ⟨1, _, _, by omega, rfl, rfl, HN, rfl⟩
                    case measure => simp [intOf]
                  · have HN := Lib.hid (show (bb, true) = inn (best, ok) tk F T 1 by rw [show inn (best, ok) tk F T 1 = nst (inn (best, ok) tk F T 0) tk F from rfl, ← hj.out]; simp [nst, c1, c2])
                    clear hj
                    go_wp2
                    go_round
                    case rel => exact ⟨1, _, _, by omega, rfl, rfl, HN, rfl⟩
                    case measure => simp [intOf]
              · have HN := Lib.hid (show (bb, ob) = inn (best, ok) tk F T 1 by rw [show inn (best, ok) tk F T 1 = nst (inn (best, ok) tk F T 0) tk F from rfl, ← hj.out]; simp [nst, c1])
                clear hj
                go_wp2
                go_round
                case rel => exact ⟨1, _, _, by omega, rfl, rfl, HN, rfl⟩
                case measure => simp [intOf]
            · by_cases c1 : tk < T
              · cases ob with
                | false =>
                  have HN := Lib.hid (show (T, true) = inn (best, ok) tk F T 2 by rw [show inn (best, ok) tk F T 2 = nst (inn (best, ok) tk F T 1) tk T from rfl, ← hj.out]; simp [nst, c1])
                  clear hj
                  go_wp2
                  go_round
                  case rel => exact ⟨2, _, _, by omega, rfl, rfl, HN, rfl⟩
                  case measure => simp [intOf]
                | true =>
                  by_cases c2 : T < bb
                  · have HN := Lib.hid (show (T, true) = inn (best, ok) tk F T 2 by rw [show inn (best, ok) tk F T 2 = nst (inn (best, ok) tk F T 1) tk T from rfl, ← hj.out]; simp [nst, c1, c2])
                    clear hj
                    go_wp2
                    go_round
                    case rel => exact ⟨2, _, _, by omega, rfl, rfl, HN, rfl⟩
                    case measure => simp [intOf]
                  · have HN := Lib.hid (show (bb, true) = inn (best, ok) tk F T 2 by rw [show inn (best, ok) tk F T 2 = nst (inn (best, ok) tk F T 1) tk T from rfl, ← hj.out]; simp [nst, c1, c2])
                    clear hj
                    go_wp2
                    go_round
                    case rel => exact ⟨2, _, _, by omega, rfl, rfl, HN, rfl⟩
                    case measure => simp [intOf]
              · have HN := Lib.hid (show (bb, ob) = inn (best, ok) tk F T 2 by rw [show inn (best, ok) tk F T 2 = nst (inn (best, ok) tk F T 1) tk T from rfl, ← hj.out]; simp [nst, c1])
                clear hj
                go_wp2
                go_round
                case rel => exact ⟨2, _, _, by omega, rfl, rfl, HN, rfl⟩
                case measure => simp [intOf]
          · obtain rfl : j = 2 := by omega
            have HF := Lib.hid (show (bb, ob) = tnext (l.take (k + 1)) tk by rw [hj.out, ← HS.out]; rfl)
            clear hj HS
            go_wp2
            go_roundw
            case rel => exact ⟨k + 1, bb, ob, by omega, rfl, rfl, HF, by go_num, (by repeat (first | (with_reducible exact Kept.refl _) | (with_reducible assumption) | (with_reducible refine Kept.alloc ?_ _) | (with_reducible refine Kept.drew ?_) | (with_reducible refine Kept.drewN ?_ _) | (with_reducible refine Kept.setCell ?_ ?_ _) | (with_reducible refine Kept.trans ?_ (by with_reducible assumption)) | (simp only [World.size_alloc, World.size_setCell, World.size_drew, size_drewN]; omega) | omega | (dsimp only; omega)))⟩
            case measure => simp [intOf]; omega
    · have HF := Lib.hid (show (best, ok) = tnext l tk by rw [hs.out, List.take_of_length_le (by have := HL.out; omega)])
      go_wp2
      go_ret2
      exact ⟨ret_ib (by rw [← HF.out]) (by rw [← HF.out]), hkw⟩
end Go.Proofs.Ytbodabbgcbjkcaa
