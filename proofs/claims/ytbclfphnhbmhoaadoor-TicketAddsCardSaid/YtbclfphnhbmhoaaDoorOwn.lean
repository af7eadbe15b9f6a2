
/- Rows of the call's own, beside boxes and the reader. Plain Lean. -/
import Derived.Test.YtbclfphnhbmhoaaDoorData
import Derived.OwnWalk
namespace Go.Proofs.YtbclfphnhbmhoaaDoor
open Go.RowKit
theorem grown_of_only {bs : Nat} {w w' : World} (k : Only bs w w') : w.grownBy w' (some bs) := ⟨k.os, k.tape, k.output, k.size, fun i hi hn => k.block i hi (fun e => hn (by rw [e]))⟩
theorem grown_of_kept {w w' : World} (k : Kept w w') (r : Option Nat) : w.grownBy w' r := ⟨k.os, k.tape, k.output, k.size, fun i hi _ => k.block i hi⟩
theorem own_only {w w' : World} {base : Nat} {e : TypeId} {size : Nat} {v : Value} {n : Nat} {xs : List Value} {bs : Nat} (h : w.ownsRow base e size v n xs) (k : Only bs w w') (hb : bs < base) : w'.ownsRow base e size v n xs :=
  h.kept (grown_of_only k) (by
    cases hv : v.ownBlock with
    | none => exact .inl rfl
    | some g => exact .inr (fun e => by injection e with e; have := (h.lt g hv).1; omega))
theorem own_kept {w w' : World} {base : Nat} {e : TypeId} {size : Nat} {v : Value} {n : Nat} {xs : List Value} (h : w.ownsRow base e size v n xs) (k : Kept w w') : w'.ownsRow base e size v n xs :=
  h.kept (grown_of_kept k none) (by cases hv : v.ownBlock <;> simp)
theorem own_set {w : World} {base : Nat} {e : TypeId} {size : Nat} {v : Value} {n : Nat} {xs : List Value} {p : Addr} {u : Value} (h : w.ownsRow base e size v n xs) (hb : p.block < base) : (w.setCell p u).ownsRow base e size v n xs :=
  own_only h (((Only.refl p.block w).setCell (.inl rfl) u)) hb
theorem own_drewN {w : World} {base : Nat} {e : TypeId} {size : Nat} {v : Value} {n : Nat} {xs : List Value} {k : Nat} (h : w.ownsRow base e size v n xs) : (w.drewN k).ownsRow base e size v n xs := h
theorem own_drew {w : World} {base : Nat} {e : TypeId} {size : Nat} {v : Value} {n : Nat} {xs : List Value} (h : w.ownsRow base e size v n xs) : w.drew.ownsRow base e size v n xs := h
/-- What an append to a row of the call's own leaves as it was. -/
structure Grown (w w' : World) (base : Nat) : Prop where
  os : w'.os = w.os
  tape : w'.tape = w.tape
  output : w'.output = w.output
  size : w.heap.size ≤ w'.heap.size
  block : ∀ k, k < w.heap.size → k < base → w'.heap[k]? = w.heap[k]?
theorem grown_below {w w' : World} {base : Nat} {e : TypeId} {size : Nat} {v : Value} {n : Nat} {xs : List Value} (h : w.ownsRow base e size v n xs) (hg : w.grownBy w' v.ownBlock) : Grown w w' base :=
  ⟨hg.os, hg.tape, hg.output, hg.size, fun k hk hb => hg.block k hk (fun e => by have := (h.lt k e.symm).1; omega)⟩
theorem Grown.kept {w0 w w' : World} {base : Nat} (h : Kept w0 w) (g : Grown w w' base) (hb : w0.heap.size ≤ base) : Kept w0 w' :=
  ⟨g.os.trans h.os, g.tape.trans h.tape, g.output.trans h.output, Nat.le_trans h.size g.size, fun i hi => (g.block i (Nat.lt_of_lt_of_le hi h.size) (by omega)).trans (h.block i hi)⟩
theorem Grown.only {bs : Nat} {w0 w w' : World} {base : Nat} (h : Only bs w0 w) (g : Grown w w' base) (hb : w0.heap.size ≤ base) : Only bs w0 w' :=
  ⟨g.os.trans h.os, g.tape.trans h.tape, g.output.trans h.output, Nat.le_trans h.size g.size, fun i hi hn => (g.block i (Nat.lt_of_lt_of_le hi h.size) (by omega)).trans (h.block i hi hn)⟩
theorem Grown.box {w w' : World} {base b : Nat} {c : Array Value} (h : Box w b c) (g : Grown w w' base) (hb : b < base) : Box w' b c := by
  have hl := h.lt
  obtain ⟨t, h⟩ := h
  exact ⟨t, by rw [g.block b hl hb]; exact h⟩
theorem Grown.src {base w w' : _} {bs b0 : Nat} (h : IsSrc b0 w bs) (g : Grown w w' base) (hb : bs < base) : IsSrc b0 w' bs :=
  h.keep g.size (g.block bs h.lt.2 hb) (fun k hk => g.block k (by have := h.lt; omega) (by have := h.lt; omega))
/-- A row that is not empty lies somewhere. -/
theorem own_form {w : World} {base : Nat} {e : TypeId} {size : Nat} {v : Value} {n : Nat} {xs : List Value} (h : w.ownsRow base e size v n xs) (hn : 0 < n) : ∃ g cap, v = .slice (some ⟨g, 0, none⟩) n cap ∧ base ≤ g ∧ g < w.heap.size ∧ n ≤ cap := by
  rcases h.2 with ⟨_, h0⟩ | ⟨g, cap, cur, rfl, hb, hg, hc, _⟩
  · omega
  · exact ⟨g, cap, rfl, hb, (Array.getElem?_eq_some_iff.1 hg).1, hc⟩
theorem own_any {w : World} {base : Nat} {e : TypeId} {size : Nat} {v : Value} {n : Nat} {xs : List Value} (h : w.ownsRow base e size v n xs) : ∃ a cap, v = .slice a n cap := by
  rcases h.2 with ⟨rfl, h0⟩ | ⟨g, cap, cur, rfl, _⟩
  · exact ⟨none, 0, by rw [h0]⟩
  · exact ⟨_, cap, rfl⟩
/-- Rows out of a list, each by a function of its element. -/
theorem rows2_map {α : Type} {R : RowT α} {sz x : Nat} {w : World} (f : α → List Value) (l : List α) (hz : ∀ e ∈ l, (f e).length = sz) (hr : ∀ e ∈ l, R x w (f e) e) : Rows2 R sz x w (l.flatMap f) l :=
  ⟨l.map f, by rw [List.flatMap_def], by simp, fun i hi => ⟨f l[i], by simp [hi], hz _ (List.getElem_mem _), hr _ (List.getElem_mem _)⟩⟩
end Go.Proofs.YtbclfphnhbmhoaaDoor
