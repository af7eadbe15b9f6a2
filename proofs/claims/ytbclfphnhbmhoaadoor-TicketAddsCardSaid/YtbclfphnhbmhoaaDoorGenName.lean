
/- The walk of batchlinekeep.name: a text and a letter. -/
import Derived.Test.YtbclfphnhbmhoaaDoorName
import Derived.Test.YtbclfphnhbmhoaaDoorSrc
import Derived.Laws.IdiomStrings
namespace Go.Proofs.YtbclfphnhbmhoaaDoor
open Go.RowKit
set_option linter.unusedVariables false
set_option linter.unusedSimpArgs false

/-- The letter of a number. -/
def letr (n : Int) : UInt8 := UInt8.ofNat (97 + n.toNat % 26)
theorem letr_nat (n : Int) (h : 0 ≤ n) : ((letr n).toNat : Int) = 97 + n % 26 := by
  obtain ⟨k, rfl⟩ := Int.eq_ofNat_of_zero_le h
  unfold letr
  rw [UInt8.toNat_ofNat', Int.toNat_natCast]
  have : (97 + k % 26) % 2 ^ 8 = 97 + k % 26 := Nat.mod_eq_of_lt (by omega)
  rw [this]
  omega
/-- A text and the letter of a number. -/
def nmOf (s : ByteArray) (n : Int) : ByteArray := s ++ ⟨[letr n].toArray⟩

set_option maxHeartbeats 400000 in
theorem name_any (s : ByteArray) (n : Int) (w : World) (h0 : 0 ≤ n) (h1 : n ≤ 1000000) (hs : s.size ≤ 1000) :
    Calls Tryd.prog 30 #[.string s, .int .i64 n] w (Ret (.string (nmOf s n)) w) := by
  have hb := letr_nat n h0
  have hcv := run_convert_bytes_back (P := Tryd.prog) (w.alloc (Obj.cells #[Value.int IntKind.u8 (97 + n % 26)] 5)) 81 9 5 ⟨w.heap.size, 0, none⟩ 1 [letr n] Tryd.underlying81 Tryd.underlying5 Tryd.underlying9 (fun j hj => by
    obtain rfl : j = 0 := by simpa using hj
    rw [Addr.add_lit, cell_alloc_ite]
    simp [hb])
  simp only [List.length_cons, List.length_nil, Nat.zero_add] at hcv
  have HN := Lib.hid (show s ++ (⟨[letr n].toArray⟩ : ByteArray) = nmOf s n from rfl)
  clear hb
  generalize letr n = L at *
  go_enter Tryd.func30, Tryd.ntmps30
  go_wp2_with fail
  go_ret
  exact ⟨congrArg (fun s => Ending.returned (.string s)) HN.out, (by repeat (first | (with_reducible exact Kept.refl _) | (with_reducible assumption) | (with_reducible refine Kept.alloc ?_ _) | (with_reducible refine Kept.drew ?_) | (with_reducible refine Kept.drewN ?_ _) | (with_reducible refine Kept.setCell ?_ ?_ _) | (with_reducible refine Kept.trans ?_ (by with_reducible assumption)) | (simp only [World.size_alloc, World.size_setCell, World.size_drew, size_drewN]; omega) | omega | (dsimp only; omega)))⟩

theorem letr_nat_nat (n : Int) : (letr n).toNat = 97 + n.toNat % 26 := by
  unfold letr
  rw [UInt8.toNat_ofNat']
  exact Nat.mod_eq_of_lt (by omega)
theorem nmOf_get1 (c : UInt8) (n : Int) : nmOf ⟨#[c]⟩ n = ⟨#[c, letr n]⟩ := by
  unfold nmOf
  apply ByteArray.ext
  simp [ByteArray.data_append]
theorem letr_plc (n : Int) : plc ((letr n).toNat) = 1 := by
  rw [letr_nat_nat]
  unfold plc
  rw [if_pos (by omega)]
/-- A small letter and the letter of a number are a name. -/
theorem nameOk_nm (c : UInt8) (n : Int) (h : plc c.toNat = 1) : nameOk (nmOf ⟨#[c]⟩ n) = true := by
  rw [nmOf_get1]
  have hz : (⟨#[c, letr n]⟩ : ByteArray).size = 2 := rfl
  refine decide_eq_true ⟨by omega, by omega, fun _ => h, fun i hi => ?_⟩
  rw [hz] at hi
  have hi2 : i = 0 ∨ i = 1 := by omega
  rcases hi2 with rfl | rfl
  · show plc (c.toNat) ≠ 0
    rw [h]; decide
  · show plc ((letr n).toNat) ≠ 0
    rw [letr_plc]; decide
theorem nm_size (c : UInt8) (n : Int) : (nmOf ⟨#[c]⟩ n).size = 2 := by rw [nmOf_get1]; rfl
end Go.Proofs.YtbclfphnhbmhoaaDoor
