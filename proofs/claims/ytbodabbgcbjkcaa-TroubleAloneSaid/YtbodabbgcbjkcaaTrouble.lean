/- Walks of package trouble over a list of troubles: there, sum, some, Leak, Drift, Stopped, Stuck, Next. -/
import Derived.Test.YtbodabbgcbjkcaaRows
import Derived.Test.YtbodabbgcbjkcaaBase
namespace Go.Proofs.Ytbodabbgcbjkcaa
open Go.RowKit
set_option linter.unusedVariables false
set_option linter.unusedSimpArgs false

structure Trb where
  kind : Int
  index : Int
  value : Int
  frm : Int
  to : Int
abbrev trv (k i v f t : Int) : Value := .agg #[.int .i64 k, .int .i64 i, .int .i64 v, .int .i64 f, .int .i64 t]
/-- The cells of one trouble. -/
def TrAt (w : World) (b o : Nat) (t : Trb) : Prop :=
  w.cell? ⟨b, o, none⟩ = some (.int .i64 t.kind) ∧ w.cell? ⟨b, o + 1, none⟩ = some (.int .i64 t.index) ∧ w.cell? ⟨b, o + 2, none⟩ = some (.int .i64 t.value) ∧
  w.cell? ⟨b, o + 3, none⟩ = some (.int .i64 t.frm) ∧ w.cell? ⟨b, o + 4, none⟩ = some (.int .i64 t.to)
/-- A slice of troubles. -/
def TrS (w : World) (a : Option Addr) (len cap : Nat) (l : List Trb) : Prop :=
  len = l.length ∧ len ≤ 100000 ∧ (0 < len → ∃ b o, a = some ⟨b, o, none⟩ ∧ b < w.heap.size ∧ ∀ i (h : i < l.length), TrAt w b (o + i * 5) l[i])
theorem TrAt.kept {w w' : World} {b o : Nat} {t : Trb} (h : TrAt w b o t) (k : Kept w w') (hb : b < w.heap.size) : TrAt w' b o t := by
  unfold TrAt at *
  simp only [kcell1 k hb]
  exact h
theorem TrS.kept {w w' : World} {a : Option Addr} {len cap : Nat} {l : List Trb} (h : TrS w a len cap l) (k : Kept w w') : TrS w' a len cap l := by
  refine ⟨h.1, h.2.1, fun hp => ?_⟩
  obtain ⟨b, o, e, hb, hc⟩ := h.2.2 hp
  exact ⟨b, o, e, Nat.lt_of_lt_of_le hb k.size, fun i hi => (hc i hi).kept k hb⟩

def hereB (f t tk : Int) : Bool := decide (f ≤ tk) && decide (tk < t)
def hitsB (k i f t kd ix tk : Int) : Bool := (k == kd && i == ix) && hereB f t tk
def Trb.hits (t : Trb) (kd ix tk : Int) : Bool := hitsB t.kind t.index t.frm t.to kd ix tk

set_option maxHeartbeats 400000 in
theorem there_any (k i v f t tk : Int) (w : World) : Calls Try.prog 65 #[trv k i v f t, .int .i64 tk] w (Ret (.bool (hereB f t tk)) w) := by
  by_cases h : f ≤ tk
  · have H := Lib.hid (show decide (tk < t) = hereB f t tk by unfold hereB; simp [h])
    go_enter Try.func65, Try.ntmps65
    go_wp2
    go_ret
    exact ⟨ret_b H.out, (by repeat (first | (with_reducible exact Kept.refl _) | (with_reducible assumption) | (with_reducible refine Kept.alloc ?_ _) | (with_reducible refine Kept.drew ?_) | (with_reducible refine Kept.drewN ?_ _) | (with_reducible refine Kept.setCell ?_ ?_ _) | (with_reducible refine Kept.trans ?_ (by with_reducible assumption)) | (simp only [World.size_alloc, World.size_setCell, World.size_drew, size_drewN]; omega) | omega | (dsimp only; omega)))⟩
  · have H := Lib.hid (show false = hereB f t tk by unfold hereB; simp [h])
    go_enter Try.func65, Try.ntmps65
    go_wp2
    go_ret
    exact ⟨ret_b H.out, (by repeat (first | (with_reducible exact Kept.refl _) | (with_reducible assumption) | (with_reducible refine Kept.alloc ?_ _) | (with_reducible refine Kept.drew ?_) | (with_reducible refine Kept.drewN ?_ _) | (with_reducible refine Kept.setCell ?_ ?_ _) | (with_reducible refine Kept.trans ?_ (by with_reducible assumption)) | (simp only [World.size_alloc, World.size_setCell, World.size_drew, size_drewN]; omega) | omega | (dsimp only; omega)))⟩

/-- The sum of the values of a kind that are there. -/
def tsum (l : List Trb) (kd ix tk : Int) : Int := (l.map fun t => if t.hits kd ix tk then t.value else 0).sum
theorem tsum_take (l : List Trb) (kd ix tk : Int) (k : Nat) (h : k < l.length) : tsum (l.take (k + 1)) kd ix tk = tsum (l.take k) kd ix tk + if l[k].hits kd ix tk then l[k].value else 0 := by
  unfold tsum
  rw [List.take_succ_eq_append_getElem h]
  simp only [List.map_append, List.sum_append, List.map_cons, List.map_nil, List.sum_cons, List.sum_nil, Int.add_zero]
/-- Values of moderate size. -/
def TrBd (l : List Trb) : Prop := ∀ t ∈ l, -1099511627776 ≤ t.value ∧ t.value ≤ 1099511627776
theorem tsum_bd (l : List Trb) (kd ix tk : Int) (hb : TrBd l) : ∀ k, k ≤ l.length → -(1099511627776 * k) ≤ tsum (l.take k) kd ix tk ∧ tsum (l.take k) kd ix tk ≤ 1099511627776 * k
  | 0, _ => by simp [tsum]
  | k + 1, h => by
    have ih := tsum_bd l kd ix tk hb k (by omega)
    rw [tsum_take l kd ix tk k (by omega)]
    have := hb l[k] (List.getElem_mem _)
    split <;> omega

set_option maxHeartbeats 1000000 in
theorem sum_any (a : Option Addr) (len cap : Nat) (l : List Trb) (kd ix tk : Int) (w : World) (h : TrS w a len cap l) (hb : TrBd l) :
    Calls Try.prog 49 #[.slice a len cap, .int .i64 kd, .int .i64 ix, .int .i64 tk] w (Ret (.int .i64 (tsum l kd ix tk)) w) := by
  obtain ⟨hl, hl2, hc⟩ := h
  have HL := Lib.hid hl
  have HC := Lib.hid hc
  clear hl hc
  go_enter Try.func49, Try.ntmps49
  go_wp2
  go_loopw [9, 14] (fun s i wr => ∃ k : Nat, k ≤ len ∧ s = .int .i64 (tsum (l.take k) kd ix tk) ∧ i = .int .i64 k ∧ Kept w wr) (fun _ i _ => len - (intOf i).toNat)
  case atStart => exact ⟨0, Nat.zero_le _, by simp [tsum], rfl, Kept.refl _⟩
  case round =>
    obtain ⟨k, hk, rfl, rfl, hkw⟩ := hrel
    have bd := tsum_bd l kd ix tk hb k (by have := HL.out; omega)
    by_cases hlt : k < len
    · have hkl : k < l.length := by have := HL.out; omega
      obtain ⟨b, o, rfl, hbb, hcc⟩ := HC.out (by omega)
      have hbr : b < wr.heap.size := Nat.lt_of_lt_of_le hbb hkw.size
      have hat := (hcc k hkl).kept hkw hbb
      have hst := tsum_take l kd ix tk k hkl
      have hv := hb l[k] (List.getElem_mem _)
      generalize l[k] = t at hat hst hv
      obtain ⟨K, I, V, F, T⟩ := t
      obtain ⟨c0, c1, c2, c3, c4⟩ := hat
      dsimp only at c0 c1 c2 c3 c4 hv
      rw [show Trb.hits ⟨K, I, V, F, T⟩ kd ix tk = hitsB K I F T kd ix tk from rfl] at hst
      dsimp only at hst
      have HB := Lib.hid hb
      clear hcc hb
      by_cases hK : K = kd
      · by_cases hI : I = ix
        · subst hK hI
          have hkk : (K == K) = true := by simp
          have hii : (I == I) = true := by simp
          have hbnd : (k : Int) * 1099511627776 ≤ 109951162777600000 := by omega
          cases hh : hereB F T tk with
          | false =>
            have HS := Lib.hid (show tsum (l.take (k + 1)) K I tk = tsum (l.take k) K I tk by rw [hst]; simp [hitsB, hh])
            clear hst
            go_wp2_with fail
            refine (there_any _ _ _ _ _ _ _).mono ?_
            rw [hh]
            rintro e w1 ⟨rfl, k1⟩
            go_wp2
            go_roundw
            case rel => exact ⟨k + 1, by omega, by rw [HS.out], by go_num, (by repeat (first | (with_reducible exact Kept.refl _) | (with_reducible assumption) | (with_reducible refine Kept.alloc ?_ _) | (with_reducible refine Kept.drew ?_) | (with_reducible refine Kept.drewN ?_ _) | (with_reducible refine Kept.setCell ?_ ?_ _) | (with_reducible refine Kept.trans ?_ (by with_reducible assumption)) | (simp only [World.size_alloc, World.size_setCell, World.size_drew, size_drewN]; omega) | omega | (dsimp only; omega)))⟩
            case measure => simp [intOf]; omega
          | true =>
            have HS := Lib.hid (show tsum (l.take (k + 1)) K I tk = tsum (l.take k) K I tk + V by rw [hst]; simp [hitsB, hh])
            clear hst
            go_wp2_with fail
            refine (there_any _ _ _ _ _ _ _).mono ?_
            rw [hh]
            rintro e w1 ⟨rfl, k1⟩
            have k1_c := (kcell k1).1; have k1_f := (kcell k1).2; have k1_z := k1.size; try simp only [World.size_alloc, World.size_setCell, World.size_drew, size_drewN] at k1_c k1_f k1_z
            go_wp2
            go_roundw
            case rel => exact ⟨k + 1, by omega, by rw [HS.out], by go_num, (by repeat (first | (with_reducible exact Kept.refl _) | (with_reducible assumption) | (with_reducible refine Kept.alloc ?_ _) | (with_reducible refine Kept.drew ?_) | (with_reducible refine Kept.drewN ?_ _) | (with_reducible refine Kept.setCell ?_ ?_ _) | (with_reducible refine Kept.trans ?_ (by with_reducible assumption)) | (simp only [World.size_alloc, World.size_setCell, World.size_drew, size_drewN]; omega) | omega | (dsimp only; omega)))⟩
            case measure => simp [intOf]; omega
        · have hii : (I == ix) = false := by rw [beq_eq_false_iff_ne]; exact hI
          subst hK
          have hkk : (K == K) = true := by simp
          have HS := Lib.hid (show tsum (l.take (k + 1)) K ix tk = tsum (l.take k) K ix tk by rw [hst]; simp [hitsB, hii])
          clear hst hI
          go_wp2
          go_roundw
          case rel => exact ⟨k + 1, by omega, by rw [HS.out], by go_num, (by repeat (first | (with_reducible exact Kept.refl _) | (with_reducible assumption) | (with_reducible refine Kept.alloc ?_ _) | (with_reducible refine Kept.drew ?_) | (with_reducible refine Kept.drewN ?_ _) | (with_reducible refine Kept.setCell ?_ ?_ _) | (with_reducible refine Kept.trans ?_ (by with_reducible assumption)) | (simp only [World.size_alloc, World.size_setCell, World.size_drew, size_drewN]; omega) | omega | (dsimp only; omega)))⟩
          case measure => simp [intOf]; omega
      · have hkk : (K == kd) = false := by rw [beq_eq_false_iff_ne]; exact hK
        have HS := Lib.hid (show tsum (l.take (k + 1)) kd ix tk = tsum (l.take k) kd ix tk by rw [hst]; simp [hitsB, hkk])
        clear hst hK
        go_wp2
        go_roundw
        case rel => exact ⟨k + 1, by omega, by rw [HS.out], by go_num, (by repeat (first | (with_reducible exact Kept.refl _) | (with_reducible assumption) | (with_reducible refine Kept.alloc ?_ _) | (with_reducible refine Kept.drew ?_) | (with_reducible refine Kept.drewN ?_ _) | (with_reducible refine Kept.setCell ?_ ?_ _) | (with_reducible refine Kept.trans ?_ (by with_reducible assumption)) | (simp only [World.size_alloc, World.size_setCell, World.size_drew, size_drewN]; omega) | omega | (dsimp only; omega)))⟩
        case measure => simp [intOf]; omega
    · go_wp2
      go_ret
      exact ⟨ret_i (by rw [List.take_of_length_le (by have := HL.out; omega)]), hkw⟩

theorem Leak_any (a : Option Addr) (len cap : Nat) (l : List Trb) (ix tk : Int) (w : World) (h : TrS w a len cap l) (hb : TrBd l) :
    Calls Try.prog 20 #[.slice a len cap, .int .i64 ix, .int .i64 tk] w (Ret (.int .i64 (tsum l 1 ix tk)) w) := by
  have H := Lib.hid hb
  clear hb
  go_enter Try.func20, Try.ntmps20
  go_wp2_with fail
  refine (sum_any _ _ _ l _ _ _ _ h H.out).mono ?_
  rintro e w1 ⟨rfl, k1⟩
  go_wp2
  go_ret
  exact ⟨rfl, k1⟩
theorem Drift_any (a : Option Addr) (len cap : Nat) (l : List Trb) (ix tk : Int) (w : World) (h : TrS w a len cap l) (hb : TrBd l) :
    Calls Try.prog 21 #[.slice a len cap, .int .i64 ix, .int .i64 tk] w (Ret (.int .i64 (tsum l 2 ix tk)) w) := by
  have H := Lib.hid hb
  clear hb
  go_enter Try.func21, Try.ntmps21
  go_wp2_with fail
  refine (sum_any _ _ _ l _ _ _ _ h H.out).mono ?_
  rintro e w1 ⟨rfl, k1⟩
  go_wp2
  go_ret
  exact ⟨rfl, k1⟩
end Go.Proofs.Ytbodabbgcbjkcaa
