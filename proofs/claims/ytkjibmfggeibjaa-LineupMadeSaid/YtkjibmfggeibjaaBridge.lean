
/- From contracts over data to calls in worlds: a slice of ints that came in, and plain values. -/
import Derived.Test.YtkjibmfggeibjaaVt
import Derived.Test.YtkjibmfggeibjaaArgs
namespace Go.Proofs.Ytkjibmfggeibjaa
open Go
set_option linter.unusedVariables false
set_option linter.unusedSimpArgs false

/-- Plain values, each as itself. -/
def plainV (us : List Value) : List D := us.map D.v
theorem ints_data {w : World} {a : Option Addr} {len cap : Nat} (h : ArgInts w a len cap) : ∃ (ns : List Int) (Im : Nat → Prop), (∀ n ∈ ns, InI n) ∧ (∀ b, Im b → b < w.heap.size) ∧ RelP Im w.heap (.sl (ns.map fun n => [di n])) (.slice a len cap) := by
  obtain ⟨h1, h2, h3⟩ := h
  rcases Nat.eq_zero_or_pos len with h0 | h0
  · subst h0
    exact ⟨[], fun _ => False, fun n hn => (by cases hn), fun b hb => hb.elim, .sl0 a cap⟩
  · obtain ⟨b, o, rfl, hb, hr⟩ := h3 h0
    have hv : ∀ i, i < len → ∃ n, I64 n ∧ hc w.heap b (o + i) = some (.int .i64 n) := fun i hi => by
      obtain ⟨v, ⟨n, hn, rfl⟩, hcell⟩ := hr i hi
      exact ⟨n, hn, by rw [← hc_cell]; exact hcell⟩
    let f : Nat → Int := fun i => match hc w.heap b (o + i) with
      | some (.int .i64 n) => n
      | _ => 0
    have hf : ∀ i, i < len → hc w.heap b (o + i) = some (.int .i64 (f i)) ∧ I64 (f i) := fun i hi => by
      obtain ⟨n, hn, e⟩ := hv i hi
      have : f i = n := by show (match hc w.heap b (o + i) with | some (.int .i64 n) => n | _ => 0) = n; rw [e]
      rw [this]
      exact ⟨e, hn⟩
    refine ⟨(List.range len).map f, fun b' => b' = b, fun n hn => ?_, fun b' hb' => by rw [hb']; exact hb, ?_⟩
    · obtain ⟨i, hi, rfl⟩ := List.mem_map.1 hn
      exact (hf i (List.mem_range.1 hi)).2
    · refine .sl1 _ b o len cap 1 (fun i _ => .int .i64 (f i)) (by simp) h1 (fun r hr => ?_) rfl (fun i j hi hj => ?_) (fun i j hi hj => ?_)
      · obtain ⟨n, _, rfl⟩ := List.mem_map.1 hr
        rfl
      · obtain rfl : j = 0 := by omega
        rw [show o + i * 1 + 0 = o + i by omega]
        exact ⟨(hf i hi).1, rfl⟩
      · have hi' : i < len := by simpa using hi
        have e : ((((List.range len).map f).map fun n => [di n])[i]'hi) = [di (f i)] := by simp
        have hj' : j = 0 := by
          have : j < [di (f i)].length := by rw [← e]; exact hj
          simpa using this
        subst hj'
        have e2 : (((((List.range len).map f).map fun n => [di n])[i]'hi)[0]'hj) = di (f i) := by simp
        rw [e2]
        exact .v _
theorem kept_of {P : Program} {R : D → Hp → Prop} {Im Im' : Nat → Prop} {p p' : Pl} {w w' : World} {e : Ending} {v : D} {H' : Hp} {u : Value} {nn : Nm} (L : Left P Hp.none nn R Im p w e w' Im' p' v H' u) : Kept w w' := by
  have X := L.relE 0
  exact ⟨X.os, X.tape, X.output, X.size, fun b hb => X.block b hb fun ⟨i, e, hi, _⟩ => by cases hi⟩
/-- A law of a list of ints and plain values. -/
theorem law_ints {f : FuncId} {us : List Value} {a : Option Addr} {len cap : Nat} {w : World} (h : ArgInts w a len cap) (hc : ∀ ns : List Int, (∀ n ∈ ns, InI n) → CallsA Try.prog f (.sl (ns.map fun n => [di n]) :: plainV us) Hp.none (0, 0) (Pu (db true) Hp.none)) :
    Calls Try.prog f (Value.slice a len cap :: us).toArray w (Ret (.bool true) w) := by
  obtain ⟨ns, Im, h1, h2, h3⟩ := ints_data h
  refine (hc ns h1 w Im (fun _ => (0, 0)) (Value.slice a len cap :: us).toArray (by simp [plainV]) (fun j d u hd hu => ?_) ⟨fun i e hi => (by cases hi), fun i j e e' hi => (by cases hi), h2⟩ (fun k _ => rfl)).mono ?_
  · cases j with
    | zero =>
      simp at hd hu
      subst hd hu
      exact .p h3
    | succ j =>
      simp [plainV] at hd hu
      obtain ⟨x, hx, rfl⟩ := hd
      rw [hu] at hx
      cases hx
      exact .p (.v _)
  · rintro e w' ⟨Im', p', v, H', u, L⟩
    obtain ⟨rfl, rfl⟩ := L.post
    have := rel_v L.rel
    subst this
    exact ⟨L.end_, kept_of L⟩
/-- A law of plain values. -/
theorem law_plain {f : FuncId} {us : List Value} {w : World} (hc : CallsA Try.prog f (plainV us) Hp.none (0, 0) (Pu (db true) Hp.none)) : Calls Try.prog f us.toArray w (Ret (.bool true) w) := by
  refine (hc w (fun _ => False) (fun _ => (0, 0)) us.toArray (by simp [plainV]) (fun j d u hd hu => ?_) ⟨fun i e hi => (by cases hi), fun i j e e' hi => (by cases hi), fun b hb => hb.elim⟩ (fun k _ => rfl)).mono ?_
  · simp [plainV] at hd hu
    obtain ⟨x, hx, rfl⟩ := hd
    rw [hu] at hx
    cases hx
    exact .p (.v _)
  · rintro e w' ⟨Im', p', v, H', u, L⟩
    obtain ⟨rfl, rfl⟩ := L.post
    have := rel_v L.rel
    subst this
    exact ⟨L.end_, kept_of L⟩
end Go.Proofs.Ytkjibmfggeibjaa
