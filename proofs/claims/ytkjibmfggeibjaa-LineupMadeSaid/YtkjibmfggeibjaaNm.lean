
/- Names: lines.Name and ref03.Name. -/
import Derived.Test.YtkjibmfggeibjaaVw
import Derived.Test.YtkjibmfggeibjaaCodeN
namespace Go.Proofs.Ytkjibmfggeibjaa
open Go
set_option linter.unusedVariables false
set_option linter.unusedSimpArgs false
set_option maxRecDepth 100000

def placeI (c : Int) : Int := if 97 ≤ c ∧ c ≤ 122 then 1 else if 48 ≤ c ∧ c ≤ 57 then 2 else if c = 45 then 2 else 0
def byteI (s : ByteArray) (k : Nat) : Int := (s.data.getD k 0).toNat
def bytesI (s : ByteArray) : List Int := (List.range s.size).map (byteI s)
def nameB (s : ByteArray) : Bool := if s.size < 1 then false else if 12 < s.size then false else if placeI (byteI s 0) = 1 then (bytesI s).all (fun c => decide (placeI c ≠ 0)) else false
theorem bytesI_len (s : ByteArray) : (bytesI s).length = s.size := by simp [bytesI]
theorem bytesI_at (s : ByteArray) {j : Nat} (h : j < (bytesI s).length) : (bytesI s)[j] = byteI s j := by simp [bytesI]
set_option maxHeartbeats 4000000 in
theorem place_c (c : Int) (nn : Nm) : CallsA Try.prog 181 [.v (.int .u8 c)] Hp.none nn (Pu (di (placeI c)) Hp.none) := by
  obtain ⟨code, h1, h2⟩ := c181_ok
  refine callsA_of (T0_ok _) mixed (N := fun t => (0, t)) Try.func181 h1 h2 r181_ok [] false js_nil js_nil' (by simp [Try.f181]) ?_
  by_cases a1 : 97 ≤ c
  · by_cases a2 : c ≤ 122
    · simp (config := { maxSteps := 500000 }) only [↓vp, vv, implies_true, forall_const, undef, InI, ↓reduceIte, simprocAttr, c181, r181, c181_1, c181_2, c181_3, c181_4, c181_5, c181_6, a1, a2, placeI, Pu, decide_true, decide_false]
    · have a3 : ¬ c ≤ 57 := by omega
      have a4 : 48 ≤ c := by omega
      have a5 : (c == 45) = false := beq_false_of_ne (by omega)
      have a6 : ¬ c = 45 := by omega
      simp (config := { maxSteps := 500000 }) only [↓vp, vv, implies_true, forall_const, undef, InI, ↓reduceIte, simprocAttr, c181, r181, c181_1, c181_2, c181_3, c181_4, c181_5, c181_6, a1, a2, a3, a4, a5, a6, placeI, Pu, decide_true, decide_false]
  · by_cases a2 : 48 ≤ c
    · by_cases a3 : c ≤ 57
      · simp (config := { maxSteps := 500000 }) only [↓vp, vv, implies_true, forall_const, undef, InI, ↓reduceIte, simprocAttr, c181, r181, c181_1, c181_2, c181_3, c181_4, c181_5, c181_6, a1, a2, a3, placeI, Pu, decide_true, decide_false]
      · have a5 : (c == 45) = false := beq_false_of_ne (by omega)
        have a6 : ¬ c = 45 := by omega
        simp (config := { maxSteps := 500000 }) only [↓vp, vv, implies_true, forall_const, undef, InI, ↓reduceIte, simprocAttr, c181, r181, c181_1, c181_2, c181_3, c181_4, c181_5, c181_6, a1, a2, a3, a5, a6, placeI, Pu, decide_true, decide_false]
    · by_cases a5 : c = 45
      · have a6 : (c == 45) = true := beq_iff_eq.2 a5
        simp (config := { maxSteps := 500000 }) only [↓vp, vv, implies_true, forall_const, undef, InI, ↓reduceIte, simprocAttr, c181, r181, c181_1, c181_2, c181_3, c181_4, c181_5, c181_6, a1, a2, a5, a6, placeI, Pu, decide_true, decide_false]
      · have a6 : (c == 45) = false := beq_false_of_ne a5
        simp (config := { maxSteps := 500000 }) only [↓vp, vv, implies_true, forall_const, undef, InI, ↓reduceIte, simprocAttr, c181, r181, c181_1, c181_2, c181_3, c181_4, c181_5, c181_6, a1, a2, a5, a6, placeI, Pu, decide_true, decide_false]
def selPlace : List D → Option (Prop × D)
  | [.v (.int .u8 c)] => some (True, di (placeI c))
  | _ => Option.none
def TP : Tbl := tc 181 (rowPu selPlace) T0
theorem TP_ok : TblOk Try.prog TP := by
  refine tc_pu f181_ok (fun args pre d h hp nn => ?_) (T0_ok _)
  unfold selPlace at h
  split at h <;> cases h
  exact place_c _ nn
theorem byteI_eq (s : ByteArray) (k : Nat) : ((s.data.getD k 0).toNat : Int) = byteI s k := rfl
set_option maxHeartbeats 4000000 in
theorem lname_c (s : ByteArray) (nn : Nm) : CallsA Try.prog 145 [ds s] Hp.none nn (Pu (db (nameB s)) Hp.none) := by
  obtain ⟨code, h1, h2⟩ := c145_ok
  refine callsA_of TP_ok mixed (N := fun t => (0, t)) Try.func145 h1 h2 r145_ok [] false js_nil js_nil' (by simp [Try.f145]) ?_
  by_cases a1 : (s.size : Int) < 1
  · have b1 : s.size < 1 := by omega
    simp (config := { maxSteps := 500000 }) only [↓vp, vv, implies_true, forall_const, undef, InI, ↓reduceIte, simprocAttr, c145, r145, c145_1, c145_2, c145_3, c145_4, c145_5, a1, b1, nameB, Pu, decide_true, decide_false]
  · by_cases a2 : (12 : Int) < s.size
    · have b1 : ¬ s.size < 1 := by omega
      have b2 : 12 < s.size := by omega
      simp (config := { maxSteps := 500000 }) only [↓vp, vv, implies_true, forall_const, undef, InI, ↓reduceIte, simprocAttr, c145, r145, c145_1, c145_2, c145_3, c145_4, c145_5, a1, a2, b1, b2, nameB, Pu, decide_true, decide_false]
    · have b1 : ¬ s.size < 1 := by omega
      have b2 : ¬ 12 < s.size := by omega
      have b3 : (0 : Int) < s.size := by omega
      by_cases a3 : placeI (byteI s 0) = 1
      · have e0 : nameB s = (bytesI s).all (fun c => decide (placeI c ≠ 0)) := by unfold nameB; rw [if_neg b1, if_neg b2, if_pos a3]
        rw [e0]
        generalize hb : (bytesI s).all (fun c => decide (placeI c ≠ 0)) = b
        simp (config := { maxSteps := 500000 }) only [↓vp, vv, implies_true, forall_const, undef, InI, ↓reduceIte, simprocAttr, c145, c145_5, TP, selPlace, a1, a2, a3, b3, byteI_eq, bne_self_eq_false, decide_true, decide_false]
        refine rng_loop s.size (fun j => ⟨fr [(0, ds s), (19, di s.size), (20, di j)], Hp.none⟩) (fun j => ((bytesI s).drop j).all (fun c => decide (placeI c ≠ 0)) = b) (weak0 (by simp (config := { maxSteps := 500000 }) only [↓vp, vv, implies_true, forall_const, undef, InI, ↓reduceIte, simprocAttr, coverS]) (by simp (config := { maxSteps := 500000 }) only [↓vp, vv, implies_true, forall_const, undef, InI, ↓reduceIte, simprocAttr, refsF])) hb (fun j hj he => ?_) (fun he => ?_)
        · have hj' : (j : Int) < s.size := by omega
          have hn := idx_nn j
          have w1 := idx_next (j := j) (by omega)
          obtain ⟨hf, ht⟩ := drop_all (by rw [bytesI_len]; exact hj) he
          rw [bytesI_at] at hf ht
          by_cases a4 : placeI (byteI s j) = 0
          · have e5 : b = false := hf (by simp [a4])
            subst e5
            simp (config := { maxSteps := 500000 }) only [↓vp, vv, implies_true, forall_const, undef, InI, ↓reduceIte, simprocAttr, c145, r145, c145_1, c145_2, c145_3, c145_4, c145_5, TP, selPlace, hj', hn, Int.toNat_natCast, byteI_eq, a4, w1, Pu, decide_true, decide_false]
          · have a5 : (placeI (byteI s j) == 0) = false := beq_false_of_ne a4
            simp (config := { maxSteps := 500000 }) only [↓vp, vv, implies_true, forall_const, undef, InI, ↓reduceIte, simprocAttr, c145, r145, c145_1, c145_2, c145_3, c145_4, c145_5, TP, selPlace, hj', hn, Int.toNat_natCast, byteI_eq, a5, w1, decide_true, decide_false]
            exact rng_next hj (weak0 (by simp (config := { maxSteps := 500000 }) only [↓vp, vv, implies_true, forall_const, undef, InI, ↓reduceIte, simprocAttr, coverS, w1]) (by simp (config := { maxSteps := 500000 }) only [↓vp, vv, implies_true, forall_const, undef, InI, ↓reduceIte, simprocAttr, refsF])) (ht (by simp [a4]))
        · have e5 : b = true := drop_all_end (by rw [bytesI_len]; exact he)
          subst e5
          simp (config := { maxSteps := 500000 }) only [↓vp, vv, implies_true, forall_const, undef, InI, ↓reduceIte, simprocAttr, c145, r145, c145_1, c145_2, c145_3, c145_4, c145_5, TP, selPlace, Int.lt_irrefl, Pu, decide_true, decide_false]
      · have a5 : (placeI (byteI s 0) != 1) = true := by simp [a3]
        simp (config := { maxSteps := 500000 }) only [↓vp, vv, implies_true, forall_const, undef, InI, ↓reduceIte, simprocAttr, c145, r145, c145_1, c145_2, c145_3, c145_4, c145_5, TP, selPlace, a1, a2, a3, a5, b1, b2, b3, byteI_eq, nameB, Pu, decide_true, decide_false]
end Go.Proofs.Ytkjibmfggeibjaa
