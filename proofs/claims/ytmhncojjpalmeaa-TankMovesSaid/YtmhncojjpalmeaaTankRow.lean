
/- Rows of straps that are appended to rows of the call's own. Plain Lean. -/
import Derived.Test.YtmhncojjpalmeaaTankMove
import Derived.Deep.AppendLies
import Derived.Deep.RegionHeld3
namespace Go.Proofs.Ytmhncojjpalmeaa
open Go.RowKit
set_option linter.unusedVariables false
set_option linter.unusedSimpArgs false

theorem straps_get {l : List Strap} {i r : Nat} (hi : i < l.length) (hr : r < 2) : (l.flatMap strapF)[i * 2 + r]? = (strapF l[i])[r]? := by
  have h := flatten_get (sz := 2) (l.map strapF) (fun r hr => by obtain ⟨s, _, rfl⟩ := List.mem_map.1 hr; rfl) i r (strapF l[i]) (by simp [hi]) hr
  rw [← h, List.flatMap_def]
theorem straps_size (l : List Strap) : (l.flatMap strapF).length = l.length * 2 := by
  induction l with
  | nil => rfl
  | cons a l ih => rw [List.flatMap_cons, List.length_append, ih, List.length_cons]; show 2 + _ = _; omega
theorem straps_one {l : List Strap} : ∀ u ∈ l.flatMap strapF, u.oneCell' = true := by
  intro u hu
  obtain ⟨s, _, h⟩ := List.mem_flatMap.1 hu
  simp [strapF] at h
  rcases h with rfl | rfl <;> rfl
/-- The cells of a slice of straps. -/
theorem straps_news {x b o : Nat} {w w' : World} {len cap : Nat} {l : List Strap} (h : SliceOf StrapR 2 x w (some ⟨b, o, none⟩) len cap l) (k : Kept w w') : ∀ j u, (l.flatMap strapF)[j]? = some u → w'.cell? ((⟨b, o, none⟩ : Addr).add j) = some u := by
  intro j u hj
  have hz := (List.getElem?_eq_some_iff.1 hj).1
  rw [straps_size] at hz
  have hlen := h.1
  obtain ⟨b', o', e, hb, hc⟩ := (h.kept StrapR.stays k).2.2.2.2.2 (by omega)
  injection e with e; injection e with e1 e2 _; subst e1 e2
  have hd : j / 2 < l.length := by omega
  obtain ⟨r, hr, hcell⟩ := hc (j / 2) hd
  have hr : r = strapF l[j / 2] := hr
  have hm : j / 2 * 2 + j % 2 = j := by omega
  have hg := straps_get (r := j % 2) hd (by omega)
  rw [hm, hj] at hg
  have := hcell (j % 2) u (by rw [hr]; exact hg.symm)
  rw [Addr.add_lit]
  rw [Nat.add_assoc, hm] at this
  exact this
theorem own_new0 {w : World} {base H size : Nat} {e : TypeId} (hH : w.heap.size = H) (hb : base ≤ H) : (w.alloc (.cells #[] e)).ownsRow base e size (.slice (some ⟨H, 0, none⟩) 0 0) 0 [] := by
  subst hH
  exact ⟨by simp, .inr ⟨_, 0, #[], rfl, hb, heap_new w _, Nat.le_refl _, Nat.zero_le _, by simp, by simp⟩⟩
theorem box_far {w w' : World} {b X n c : Nat} {cs : Array Value} (h : Box w b cs) (g : w.grownBy w' (Value.slice (some ⟨X, 0, none⟩) n c).ownBlock) (hne : b ≠ X) : Box w' b cs := by
  have hl := h.lt
  obtain ⟨t, h⟩ := h
  exact ⟨t, by rw [g.block b hl (by simpa [Value.ownBlock] using hne)]; exact h⟩
theorem only_far {q : Nat} {w0 w w' : World} {X n c : Nat} (h : Only q w0 w) (g : w.grownBy w' (Value.slice (some ⟨X, 0, none⟩) n c).ownBlock) (hX : w0.heap.size ≤ X) : Only q w0 w' :=
  ⟨g.os.trans h.os, g.tape.trans h.tape, g.output.trans h.output, Nat.le_trans h.size g.size, fun i hi hn => (g.block i (Nat.lt_of_lt_of_le hi h.size) (by simp [Value.ownBlock]; omega)).trans (h.block i hi hn)⟩
theorem news_far {w w' : World} {X B n c j : Nat} {u : Value} (g : w.grownBy w' (Value.slice (some ⟨X, 0, none⟩) n c).ownBlock) (hlt : B < w.heap.size) (hne : B ≠ X) (h : w.cell? ((⟨B, 0, none⟩ : Addr).add j) = some u) : w'.cell? ((⟨B, 0, none⟩ : Addr).add j) = some u := by
  rw [Addr.add_lit] at h ⊢
  rw [g.cell_far ⟨B, 0 + j, none⟩ hlt (by simpa [Value.ownBlock] using hne)]
  exact h
theorem news_farD {w w' : World} {X B n c j : Nat} {u : Value} (g : w.drew.grownBy w' (Value.slice (some ⟨X, 0, none⟩) n c).ownBlock) (hlt : B < w.heap.size) (hne : B ≠ X) (h : w.cell? ((⟨B, 0, none⟩ : Addr).add j) = some u) : w'.cell? ((⟨B, 0, none⟩ : Addr).add j) = some u :=
  news_far g hlt hne h
/-- A new strap's cells, in the three worlds in which it may lie. -/
theorem strap_newH {w : World} {X V : Int} {t : TypeId} {j H : Nat} {u : Value} (hH : w.heap.size = H) (h : (strapF ⟨X, V⟩)[j]? = some u) : (w.alloc (Obj.cells #[.int .i64 X, .int .i64 V] t)).cell? ((⟨H, 0, none⟩ : Addr).add j) = some u := by
  subst hH; exact strap_new h
theorem strap_newO {w : World} {X V : Int} {t t' : TypeId} {c : Array Value} {j H : Nat} {u : Value} (hH : w.heap.size = H) (h : (strapF ⟨X, V⟩)[j]? = some u) : ((w.alloc (Obj.cells #[.int .i64 X, .int .i64 V] t)).alloc (Obj.cells c t')).cell? ((⟨H, 0, none⟩ : Addr).add j) = some u := by
  have h' := strap_newH (t := t) hH h
  rw [Addr.add_lit] at h' ⊢
  rw [cell_alloc_ite, World.size_alloc, if_pos (by omega)]
  exact h'
theorem box1 {w : World} {b : Nat} {c0 c1 c2 c3 : Value} (h : Box w b #[c0, c1, c2, c3]) : w.cell? ⟨b, 1, none⟩ = some c1 := h.cell 1
theorem box2' {w : World} {b : Nat} {c0 c1 : Value} (h : Box w b #[c0, c1]) : w.cell? ⟨b, 0, none⟩ = some c0 ∧ w.cell? ⟨b, 1, none⟩ = some c1 := ⟨h.cell 0, h.cell 1⟩
theorem one_flat (l : List Strap) (p q : Int) : (one l p q).flatMap strapF = l.flatMap strapF ++ strapF ⟨(lst l).lv + p, (lst l).vl + q⟩ := by
  unfold one
  rw [List.flatMap_append, List.flatMap_singleton]
theorem room_up {nm : ByteArray} {l : List Strap} {lo hi d x : Int} (h : tOk nm l lo hi) (h' : tOk nm (up l d) lo hi) (hx : InL l x) : max 0 (vol (up l d) hi - vol (up l d) x) = max 0 (vol l hi - vol l x) := by
  have hh : InL l hi := ⟨by have := h.2.2.2.1; have := h.2.2.2.2.2; show (st l 0).lv ≤ hi; omega, h.2.2.2.2.1⟩
  rw [(up_vol h h' hh).2, (up_vol h h' hx).2]
  congr 1
  omega
end Go.Proofs.Ytmhncojjpalmeaa
