
/- The source of numbers: small functions. -/
import Derived.Test.YtkjibmfggeibjaaVt
import Derived.Test.YtkjibmfggeibjaaCodeB
namespace Go.Proofs.Ytkjibmfggeibjaa
open Go
set_option linter.unusedVariables false
set_option maxRecDepth 100000
set_option linter.unusedSimpArgs false

def modI (x n : Int) : Int := if n < 1 then 0 else if x.tmod n < 0 then x.tmod n + n else x.tmod n
theorem modI_in (x n : Int) : 0 ≤ modI x n ∧ (1 ≤ n → modI x n < n) ∧ (n < 1 → modI x n = 0) := by
  unfold modI
  split
  · exact ⟨by omega, fun h => by omega, fun _ => rfl⟩
  · have h1 := Int.lt_tmod_of_pos x (b := n) (by omega)
    have h2 := Int.tmod_lt_of_pos x (b := n) (by omega)
    split <;> exact ⟨by omega, fun _ => by omega, fun h => by omega⟩
set_option maxHeartbeats 2000000 in
theorem Mod_c (x n : Int) (hn : InI n) (nn : Nm) : CallsA Try.prog 86 [di x, di n] Hp.none nn (Pu (di (modI x n)) Hp.none) := by
  obtain ⟨code, h1, h2⟩ := c86_ok
  refine callsA_of (T0_ok _) mixed (N := fun t => (0, t)) Try.func86 h1 h2 r86_ok [] false js_nil js_nil' (by simp [Try.f86]) ?_
  have hi := modI_in x n
  by_cases hb : n < 1
  · simp (config := { maxSteps := 500000 }) only [↓vp, vv, implies_true, forall_const, undef, InI, ↓reduceIte, simprocAttr, c86, r86, c86_1, c86_2, hb, Pu, modI, decide_true]
  · have h0 : n ≠ 0 := by omega
    have h2 := Int.lt_tmod_of_pos x (b := n) (by omega)
    have h3 := Int.tmod_lt_of_pos x (b := n) (by omega)
    by_cases hr : x.tmod n < 0
    · have hw : IntKind.i64.wrap (x.tmod n + n) = x.tmod n + n := wrap_i (by omega)
      simp (config := { maxSteps := 500000 }) only [↓vp, vv, implies_true, forall_const, undef, InI, ↓reduceIte, simprocAttr, c86, r86, c86_1, c86_2, hb, hr, hw, Pu, modI, decide_true, decide_false, ne_eq, h0, not_false_eq_true]
    · simp (config := { maxSteps := 500000 }) only [↓vp, vv, implies_true, forall_const, undef, InI, ↓reduceIte, simprocAttr, c86, r86, c86_1, c86_2, hb, hr, Pu, modI, decide_true, decide_false, ne_eq, h0, not_false_eq_true]
set_option maxHeartbeats 4000000 in
theorem Raw_c : SrcC Try.prog 87 [] InI di := by
  intro i L at' nn ho
  obtain ⟨code, h1, h2⟩ := c87_ok
  refine callsA_of (T0_ok _) mixed (N := fun t => (i.1 + 1, t)) Try.func87 h1 h2 r87_ok [i] false js_one js_one' (by simp [Try.f87]) ?_
  obtain ⟨ns, hL, hns⟩ := ho.ints
  have hlo := ho.lo
  have hhi := ho.hi
  have hlen := ho.len
  by_cases hb : (L.length : Int) ≤ at'
  · simp (config := { maxSteps := 500000 }) only [↓vp, vv, implies_true, forall_const, undef, InI, ↓reduceIte, simprocAttr, c87, r87, c87_1, hb, decide_true]
    exact ⟨at', 0, ho, by decide, rfl, rfl⟩
  · have hw : IntKind.i64.wrap (at' + 1) = at' + 1 := wrap_i (by omega)
    have hw2 : IntKind.i64.wrap (at' + 1 - 1) = at' := by rw [Int.add_sub_cancel]; exact wrap_i (by omega)
    obtain ⟨k, rfl⟩ : ∃ k : Nat, at' = k := ⟨at'.toNat, by omega⟩
    have hk : k < ns.length := by rw [hL, List.length_map] at hb; omega
    have hg : L.getD k [] = [di ns[k]] := by rw [hL, List.getD_eq_getElem?_getD, List.getElem?_map, List.getElem?_eq_getElem hk]; rfl
    have h0 : (0 : Int) ≤ k := by omega
    have hkL : (k : Int) < L.length := by omega
    simp (config := { maxSteps := 500000 }) only [↓vp, vv, implies_true, forall_const, undef, InI, ↓reduceIte, simprocAttr, c87, r87, c87_1, hb, hw, hw2, decide_true, decide_false, hg, Int.toNat_natCast, h0, hkL]
    exact ⟨k + 1, ns[k], ⟨by omega, by omega, hlen, ns, hL, hns⟩, hns _ (List.getElem_mem hk), rfl, rfl⟩
def sel0 {α : Type} (post : α → Prop) : List D → Option (Prop × (α → Prop))
  | [] => some (True, post)
  | _ => Option.none
def selMod : List D → Option (Prop × D)
  | [.v (.int .i64 x), .v (.int .i64 n)] => some (InI n, di (modI x n))
  | _ => Option.none
def TN : Tbl := tc 87 (rowSrc (sel0 InI) di) (tc 86 (rowPu selMod) T0)
theorem TN_ok : TblOk Try.prog TN := by
  refine tc_src f87_ok (fun args pre post h hp => ?_) (tc_pu f86_ok (fun args pre d h hp nn => ?_) (T0_ok _))
  · unfold sel0 at h
    split at h <;> cases h
    exact ⟨⟨0, by omega⟩, Raw_c⟩
  · unfold selMod at h
    split at h <;> cases h
    exact Mod_c _ _ hp nn
def NPost (n x : Int) : Prop := 0 ≤ x ∧ (1 ≤ n → x < n) ∧ (n < 1 → x = 0)
set_option maxHeartbeats 4000000 in
theorem N_c (n : Int) (hn : InI n) : SrcC Try.prog 24 [di n] (NPost n) di := by
  intro i L at' nn ho
  obtain ⟨code, h1, h2⟩ := c24_ok
  refine callsA_of TN_ok mixed (N := fun t => (i.1 + 1, t)) Try.func24 h1 h2 r24_ok [i] false js_one js_one' (by simp [Try.f24]) ?_
  simp (config := { maxSteps := 500000 }) only [↓vp, vv, implies_true, forall_const, undef, InI, ↓reduceIte, simprocAttr, c24, r24, TN, sel0, selMod, ho]
  exact fun ⟨at2, ho2⟩ x hx => ⟨hn, at2, _, ho2, modI_in x n, rfl, rfl⟩
end Go.Proofs.Ytkjibmfggeibjaa
