
/- The source of numbers: Pick, Text, Range, name, New. -/
import Derived.Test.YtkjibmfggeibjaaGen1
namespace Go.Proofs.Ytkjibmfggeibjaa
open Go
set_option linter.unusedVariables false
set_option linter.unusedSimpArgs false
set_option maxRecDepth 100000

def selI {α : Type} (ok : Int → Prop) (post : Int → α → Prop) : List D → Option (Prop × (α → Prop))
  | [.v (.int .i64 n)] => some (ok n, post n)
  | _ => Option.none
def T1 : Tbl := tc 24 (rowSrc (selI InI NPost) di) T0
theorem T1_ok : TblOk Try.prog T1 := by
  refine tc_src f24_ok (fun args pre post h hp => ?_) (T0_ok _)
  unfold selI at h
  split at h <;> cases h
  exact ⟨⟨_, modI_in 0 _⟩, N_c _ hp⟩
def IsMem {α : Type} (l : List α) (x : α) : Prop := x ∈ l
theorem getD_map {α : Type} (g : α → List D) (l : List α) (k : Nat) (h : k < l.length) : (l.map g).getD k [] = g l[k] := by
  rw [List.getD_eq_getElem?_getD, List.getElem?_map, List.getElem?_eq_getElem h]; rfl
set_option maxHeartbeats 4000000 in
theorem Pick_c (ns : List Int) (h0 : ns ≠ []) (hl : ns.length ≤ 2000) : SrcC Try.prog 79 [.sl (ns.map fun n => [di n])] (IsMem ns) di := by
  intro i L at' nn ho
  obtain ⟨code, h1, h2⟩ := c79_ok
  refine callsA_of T1_ok mixed (N := fun t => (i.1 + 1, t)) Try.func79 h1 h2 r79_ok [i] false js_one js_one' (by simp [Try.f79]) ?_
  have hn : InI ns.length := by omega
  have h1 : 1 ≤ ns.length := by cases ns with | nil => exact absurd rfl h0 | cons => simp
  simp (config := { maxSteps := 500000 }) only [↓vp, vv, implies_true, forall_const, undef, InI, ↓reduceIte, simprocAttr, c79, r79, T1, selI, ho, List.length_map]
  refine ⟨hn, fun ⟨at2, ho2⟩ x ⟨hx0, hx1, _⟩ => ?_⟩
  have hx := hx1 (by omega)
  have hk : x.toNat < ns.length := by omega
  rw [getD_map _ ns x.toNat hk]
  simp (config := { maxSteps := 500000 }) only [↓vp, vv, implies_true, forall_const, undef, InI, ↓reduceIte, simprocAttr, hx, hx0]
  exact ⟨at2, _, ho2, List.getElem_mem hk, rfl, rfl⟩
set_option maxHeartbeats 4000000 in
theorem Text_c (ns : List ByteArray) (h0 : ns ≠ []) (hl : ns.length ≤ 2000) : SrcC Try.prog 98 [.sl (ns.map fun n => [ds n])] (IsMem ns) ds := by
  intro i L at' nn ho
  obtain ⟨code, h1, h2⟩ := c98_ok
  refine callsA_of T1_ok mixed (N := fun t => (i.1 + 1, t)) Try.func98 h1 h2 r98_ok [i] false js_one js_one' (by simp [Try.f98]) ?_
  have hn : InI ns.length := by omega
  have h1 : 1 ≤ ns.length := by cases ns with | nil => exact absurd rfl h0 | cons => simp
  simp (config := { maxSteps := 500000 }) only [↓vp, vv, implies_true, forall_const, undef, InI, ↓reduceIte, simprocAttr, c98, r98, T1, selI, ho, List.length_map]
  refine ⟨hn, fun ⟨at2, ho2⟩ x ⟨hx0, hx1, _⟩ => ?_⟩
  have hx := hx1 (by omega)
  have hk : x.toNat < ns.length := by omega
  rw [getD_map _ ns x.toNat hk]
  simp (config := { maxSteps := 500000 }) only [↓vp, vv, implies_true, forall_const, undef, InI, ↓reduceIte, simprocAttr, hx, hx0]
  exact ⟨at2, _, ho2, List.getElem_mem hk, rfl, rfl⟩
def RPost (a b x : Int) : Prop := a ≤ x ∧ (a ≤ b → x ≤ b) ∧ (b < a → x = a)
set_option maxHeartbeats 4000000 in
theorem Range_c (a b : Int) (ha : InI a) (hb : InI b) (hd : b - a < 9223372036854775807) (hd' : -9223372036854775808 ≤ b - a) : SrcC Try.prog 27 [di a, di b] (RPost a b) di := by
  intro i L at' nn ho
  obtain ⟨code, h1, h2⟩ := c27_ok
  refine callsA_of T1_ok mixed (N := fun t => (i.1 + 1, t)) Try.func27 h1 h2 r27_ok [i] false js_one js_one' (by simp [Try.f27]) ?_
  have w1 : IntKind.i64.wrap (b - a) = b - a := wrap_i (by omega)
  have w2 : IntKind.i64.wrap (b - a + 1) = b - a + 1 := wrap_i (by omega)
  have hn : InI (b - a + 1) := by omega
  simp (config := { maxSteps := 500000 }) only [↓vp, vv, implies_true, forall_const, undef, InI, ↓reduceIte, simprocAttr, c27, r27, T1, selI, ho, w1, w2]
  refine ⟨hn, fun ⟨at2, ho2⟩ x ⟨hx0, hx1, hx2⟩ => ?_⟩
  have w3 : IntKind.i64.wrap (a + x) = a + x := wrap_i (by omega)
  try rw [w3]
  exact ⟨at2, _, ho2, ⟨by omega, by omega, by omega⟩, rfl, rfl⟩
/-- Names of made things. -/
def nm1B (f : ByteArray) (n : Int) : ByteArray := f ++ strOf [IntKind.u8.wrap (IntKind.i64.wrap (97 + n.tmod 26))]
set_option maxHeartbeats 4000000 in
theorem name_c (f : ByteArray) (n : Int) (hf : f.size ≤ 1000) (nn : Nm) : CallsA Try.prog 80 [ds f, di n] Hp.none nn (Pu (ds (nm1B f n)) Hp.none) := by
  obtain ⟨code, h1, h2⟩ := c80_ok
  refine callsA_of (T0_ok _) mixed (N := fun t => (0, t)) Try.func80 h1 h2 r80_ok [] false js_nil js_nil' (by simp [Try.f80]) ?_
  simp (config := { maxSteps := 500000 }) only [↓vp, vv, implies_true, forall_const, undef, InI, ↓reduceIte, simprocAttr, c80, r80, bytesD, Pu, nm1B]
  have : (strOf [IntKind.u8.wrap (IntKind.i64.wrap (97 + n.tmod 26))]).size = 1 := by simp [strOf]
  first | exact ⟨by decide, by omega⟩ | omega
theorem js_nn {nn : Nm} : ∀ (j : Nm) (x : En), Hp.none j = some x → j ∈ [nn] := fun j x h => by cases h
theorem js_nn' {nn : Nm} {Hs : Hp} : ∀ j ∈ [nn], (Hs j).isSome = true ∨ j = nn := fun j h => .inr (List.mem_singleton.1 h)
theorem min_i (n : Nat) (h : n ≤ 9223372036854775807) : (0:Int) ≤ min (n : Int) 2000 ∧ min (n : Int) 2000 ≤ n := by omega
set_option maxHeartbeats 4000000 in
theorem New_c (L : List (List D)) (nn : Nm) : CallsA Try.prog 18 [.sl L] Hp.none nn (Pu (.ptr nn 0 0 0) (Hp.none.put nn (sE (L.take 2000) 0))) := by
  obtain ⟨code, h1, h2⟩ := c18_ok
  refine callsA_of (T0_ok _) mixed (N := fun _ => nn) Try.func18 h1 h2 r18_ok [nn] true js_nn js_nn' (by simp [Try.f18]) ?_
  simp (config := { maxSteps := 500000 }) only [↓vp, vv, implies_true, forall_const, undef, InI, ↓reduceIte, simprocAttr, c18, r18]
  by_cases hb : (2000 : Int) < L.length
  · simp only [if_pos hb]
    (repeat' apply And.intro) <;> first | omega | rfl
  · simp only [if_neg hb]
    have e : ∀ k, L.length ≤ k → List.take k L = List.take 2000 L := fun k hk => by
      rw [List.take_of_length_le hk, List.take_of_length_le (by omega)]
    (repeat' apply And.intro) <;> first | omega | rfl | (rw [e _ (by omega)])
end Go.Proofs.Ytkjibmfggeibjaa
