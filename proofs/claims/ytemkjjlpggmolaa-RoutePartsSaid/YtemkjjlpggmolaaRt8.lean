
/- Ways through a network: the laws' table. -/
import Derived.Test.YtemkjjlpggmolaaRt7
import Derived.Test.YtemkjjlpggmolaaNw
import Derived.Test.YtemkjjlpggmolaaRkA
import Derived.Test.YtemkjjlpggmolaaHints
namespace Go.Proofs.Ytemkjjlpggmolaa
open Go
set_option linter.unusedVariables false
set_option linter.unusedSimpArgs false
set_option maxRecDepth 100000

def ClF (i : Nm) (o : List Bool) (g : Nat) (l : List (Nat × D)) : List (Nat × D) := (0, .ptr i 0 0 0) :: (3, .ptr (i.1 + 1, 3) 0 0 0) :: (5, .own (i.1 + 1, 1000) g 0 o.length) :: l
def ClH (i : Nm) (L : List (List D)) (at' : Int) (n : Net) (o : List Bool) (g : Nat) : Hp := ((Hp.none.put (i.1 + 1, 1000) ⟨g, 1, o.map bRow⟩).put (i.1 + 1, 3) ⟨0, 6, [netD n]⟩).put i (sE L at')
def ClI (i : Nm) (L : List (List D)) (n : Net) : Nat → St → Prop := fun k s => ∃ at' o g, SrcOk L at' ∧ o.length + k = n.segs.length ∧ s = ⟨fr (ClF i o g [(6, di o.length)]), ClH i L at' n o g⟩
def ClPost (n : Net) (c : List Bool) : Prop := c.length = n.segs.length
set_option maxHeartbeats 8000000 in
theorem closed_c (n : Net) (hl : n.segs.length ≤ 1000) : SrcC Try.prog 60 [n.enc] (ClPost n) (fun c => .sl (c.map bRow)) := by
  intro i L at' nn ho
  obtain ⟨code, h1, h2⟩ := c60_ok
  refine callsA_of T1_ok mixed (N := fun t => (i.1 + 1, t)) Try.func60 h1 h2 r60_ok [i] false js_one js_one' (by simp [Try.f60]) ?_
  simp (config := { maxSteps := 500000 }) only [↓vp, vv, implies_true, forall_const, undef, InI, ↓reduceIte, simprocAttr, c60, T1, selI, ho, Net.enc]
  rw [vc_loop]
  refine ⟨ClI i L n, ⟨n.segs.length, _, (weak_own 5 (i.1 + 1, 1000) 1 (by simp (config := { maxSteps := 500000 }) only [↓vp, vv, implies_true, forall_const, undef, InI, ↓reduceIte, simprocAttr, ]) (by simp (config := { maxSteps := 500000 }) only [↓vp, vv, implies_true, forall_const, undef, InI, ↓reduceIte, simprocAttr, ])).trans (weak_eq [] [i, (i.1 + 1, 3), (i.1 + 1, 1000)] (ClF i [] 0 [(6, di 0)]) (by simp (config := { maxSteps := 500000 }) only [↓vp, vv, implies_true, forall_const, undef, InI, ↓reduceIte, simprocAttr, coverS, ClF, ClH, netD, bRow]) (by simp (config := { maxSteps := 500000 }) only [↓vp, vv, implies_true, forall_const, undef, InI, ↓reduceIte, simprocAttr, refsF, ClF, ClH, netD, bRow]) (by simp (config := { maxSteps := 500000 }) only [↓vp, vv, implies_true, forall_const, undef, InI, ↓reduceIte, simprocAttr, ClF, ClH, netD, bRow]) (by simp) (by simp (config := { maxSteps := 500000 }) only [↓vp, vv, implies_true, forall_const, undef, InI, ↓reduceIte, simprocAttr, ClF, ClH, netD, bRow]; try rfl)), at', [], 0, ho, by simp, rfl⟩, ?_⟩
  rintro k s ⟨at1, o, g, o1, hk, rfl⟩
  have w1 := idx_next (j := o.length) (by omega)
  by_cases hj : o.length < n.segs.length
  · have hj' : (o.length : Int) < n.segs.length := by omega
    have y1 : (o.length + 1) * 1 ≤ 140737488355328 := by omega
    have y2 : o.length + 1 ≤ 4611686018427387904 := by omega
    simp (config := { maxSteps := 500000 }) only [↓vp, vv, implies_true, forall_const, undef, InI, ↓reduceIte, simprocAttr, c60_2, c60_1, T1, selI, ClF, ClH, netD, o1, hj', y1, y2, w1]
    intro a1 x hx
    exact ⟨k - 1, _, by omega, (weak_eq [] [i, (i.1 + 1, 3), (i.1 + 1, 1000)] (ClF i (o ++ [x == 1]) (g + 1) [(6, di (o ++ [x == 1]).length)]) (by simp (config := { maxSteps := 500000 }) only [↓vp, vv, implies_true, forall_const, undef, InI, ↓reduceIte, simprocAttr, coverS, ClF, ClH, netD, bRow, w1, List.map_append, List.length_append, List.length_cons, List.length_nil]) (by simp (config := { maxSteps := 500000 }) only [↓vp, vv, implies_true, forall_const, undef, InI, ↓reduceIte, simprocAttr, refsF, ClF, ClH, netD, bRow, w1, List.map_append, List.length_append, List.length_cons, List.length_nil]) (by simp (config := { maxSteps := 500000 }) only [↓vp, vv, implies_true, forall_const, undef, InI, ↓reduceIte, simprocAttr, ClF, ClH, netD, bRow, w1, List.map_append, List.length_append, List.length_cons, List.length_nil]) (by simp) (by simp (config := { maxSteps := 500000 }) only [↓vp, vv, implies_true, forall_const, undef, InI, ↓reduceIte, simprocAttr, ClF, ClH, netD, bRow, w1, List.map_append, List.length_append, List.length_cons, List.length_nil]; try rfl)), a1.1, o ++ [x == 1], g + 1, a1.2, by simp; omega, rfl⟩
  · have hj' : ¬ (o.length : Int) < n.segs.length := by omega
    have tk : (o.map bRow).take o.length = o.map bRow := List.take_of_length_le (by simp)
    simp (config := { maxSteps := 500000 }) only [↓vp, vv, implies_true, forall_const, undef, InI, ↓reduceIte, simprocAttr, c60_2, c60_3, r60, T1, selI, ClF, ClH, netD, o1, hj', tk]
    exact ⟨fun x _ d hd => by rw [List.mem_singleton.1 hd]; rfl, at1, o, o1, show o.length = n.segs.length by omega, rfl, rfl⟩
/-- The network of the examples. -/
def exN : Net := ⟨[⟨#[97]⟩, ⟨#[98]⟩, ⟨#[99]⟩], [⟨⟨#[120]⟩, 0, 1, 10, 0, 0, [⟨0, 0, 0⟩, ⟨10, 0, 0⟩]⟩, ⟨⟨#[121]⟩, 0, 1, 11, 0, 0, [⟨0, 0, 0⟩, ⟨11, 0, 0⟩]⟩, ⟨⟨#[122]⟩, 2, 1, 12, 0, 0, [⟨0, 0, 0⟩, ⟨12, 0, 0⟩]⟩], [], [], 0, 0⟩
theorem f59_ok : fnOk Try.prog 59 = true := by kernel_rfl
theorem f130_ok : fnOk Try.prog 130 = true := by kernel_rfl
theorem exN_c (nn : Nm) : CallsA Try.prog 130 [] Hp.none nn (Pu exN.enc Hp.none) := run_c mixed hints 200 30 (by kernel_rfl)
theorem exN_sz : NetSz exN := ⟨by decide, by decide, by decide, by decide, by decide⟩
theorem exN_ck : checkI exN = 0 := by kernel_rfl
theorem exN_way : wayD exN [true, false, false] 0 2 = .tup [.sl ([(1, false), (2, true)].map hRow), di 0] := by kernel_rfl
theorem exN_len : lenR exN [(1, false), (2, true)] = (23, 0) := by kernel_rfl
theorem exN_cut : cutB exN [false, false, false] 2 = true := by kernel_rfl
end Go.Proofs.Ytemkjjlpggmolaa
