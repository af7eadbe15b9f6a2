/- ToolMade: Src Args Bridge. -/
import Derived.Test.YtadjhfjiimgddaaRows
import Derived.Test.YtadjhfjiimgddaaTM12
import Derived.Test.YtadjhfjiimgddaaTM4
set_option linter.unusedSimpArgs false
set_option linter.unusedVariables false

/- Walks of the reader of numbers: batchlinekeep.Mod, Src.Raw, Src.N, Src.Range, Src.Pick. -/
namespace Go.Proofs.Ytadjhfjiimgddaa
open Go.RowKit
def RowOf (w : World) (b o len : Nat) (Q : Value → Prop) : Prop := ∀ i, i < len → ∃ v, Q v ∧ w.cell? ⟨b, o + i, none⟩ = some v
theorem RowOf.only {w w' : World} {b o len bs : Nat} {Q : Value → Prop} (h : RowOf w b o len Q) (k : Only bs w w') (hb : b < w.heap.size) (hn : b ≠ bs) : RowOf w' b o len Q := fun i hi => by
  obtain ⟨v, hv, hc⟩ := h i hi
  exact ⟨v, hv, by rw [ocell1 k hb hn]; exact hc⟩
theorem RowOf.new {w : World} {n k : Nat} {c : Array Value} {t : TypeId} {fr : Nat × Nat} {Q : Value → Prop} (hn : n = w.heap.size) (hk : k = c.size) (h : ∀ v ∈ c, Q v) : RowOf (w.alloc (.cells c t fr)) n 0 k Q := fun i hi => by
  subst hn hk
  refine ⟨c[i], h _ (Array.getElem_mem hi), ?_⟩
  rw [cell_alloc_ite, if_neg (by omega), if_pos rfl]
  simp [hi]
def IntIs (P : Int → Prop) (v : Value) : Prop := ∃ n, P n ∧ v = .int .i64 n
def ArgInts (w : World) (a : Option Addr) (len cap : Nat) : Prop :=
  len ≤ cap ∧ cap ≤ maxLen ∧ (0 < len → ∃ b o, a = some ⟨b, o, none⟩ ∧ b < w.heap.size ∧ RowOf w b o len (IntIs I64))
def IsRow (k : IntKind) (w : World) (a : Option Addr) (len cap : Nat) (zs : List Int) : Prop :=
  (a = none ∧ len = 0 ∧ cap = 0 ∧ zs = []) ∨
  ∃ x, a = some x ∧ len ≤ cap ∧ cap ≤ maxLen ∧ zs.length = cap ∧ (∀ i, i < zs.length → w.cell? (x.add i) = some (.int k (zs.getD i 0))) ∧ ∀ n ∈ zs, (Lit.int k n).wf = true
theorem argInts_of {w : World} {a : Option Addr} {len cap : Nat} {zs : List Int} (h : IsRow .i64 w a len cap zs) : ArgInts w a len cap := by
  rcases h with ⟨rfl, rfl, rfl, _⟩ | ⟨x, rfl, h1, h2, h3, h4, h5⟩
  · exact ⟨Nat.le_refl _, Nat.zero_le _, fun h => absurd h (by omega)⟩
  · refine ⟨h1, h2, fun hp => ?_⟩
    obtain ⟨b, o, rfl, hc⟩ := ints_at h4 (by omega)
    refine ⟨b, o, rfl, ?_, fun i hi => ?_⟩
    · rcases Nat.lt_or_ge b w.heap.size with h | h
      · exact h
      · exfalso
        have hc0 := hc 0 (by omega)
        simp only [World.cell?] at hc0
        rw [Array.getElem?_eq_none h] at hc0
        simp at hc0
    · refine ⟨_, ⟨zs.getD i 0, ?_, rfl⟩, hc i (by omega)⟩
      have hm : zs.getD i 0 ∈ zs := by
        rw [List.getD_eq_getElem?_getD, List.getElem?_eq_getElem (by omega)]
        exact List.getElem_mem _
      exact bounds_i64 (h5 _ hm)
end Go.Proofs.Ytadjhfjiimgddaa

/- A slice of ints that came in stays one where no old block changes. -/
namespace Go.Proofs.Ytadjhfjiimgddaa
open Go.RowKit
theorem ArgInts.kept {w w' : World} {a : Option Addr} {len cap : Nat} (h : ArgInts w a len cap) (k : Kept w w') : ArgInts w' a len cap := by
  obtain ⟨h1, h2, h3⟩ := h
  refine ⟨h1, h2, fun hp => ?_⟩
  obtain ⟨b, o, e, hb, hr⟩ := h3 hp
  refine ⟨b, o, e, Nat.lt_of_lt_of_le hb k.size, fun i hi => ?_⟩
  obtain ⟨v, hv, hc⟩ := hr i hi
  exact ⟨v, hv, by rw [kcell1 k hb]; exact hc⟩
theorem RowOf.drew {w : World} {b o len : Nat} {Q : Value → Prop} (h : RowOf w b o len Q) : RowOf w.drew b o len Q := h
def plainV (us : List Value) : List D := us.map D.v
theorem ints_data {w : World} {a : Option Addr} {len cap : Nat} (h : ArgInts w a len cap) : ∃ (ns : List Int) (Im : Nat → Prop), (∀ n ∈ ns, InI n) ∧ (∀ b, Im b → b < w.heap.size) ∧ RelP Im w.heap (.sl (ns.map fun n => [di n])) (.slice a len cap) := by
  obtain ⟨h1, h2, h3⟩ := h
  rcases Nat.eq_zero_or_pos len with h0 | h0
  · subst h0
    exact ⟨[], fun _ => False, fun n hn => (by cases hn), fun b hb => hb.elim, .sl0 a cap⟩
  · obtain ⟨b, o, rfl, hb, hr⟩ := h3 h0
    have hv : ∀ i, i < len → ∃ n, I64 n ∧ hc w.heap b (o + i) = some (.int .i64 n) := fun i hi => by
      obtain ⟨v, ⟨n, hn, rfl⟩, hcell⟩ := hr i hi
      exact ⟨n, hn, by rw [← hc_cell]; exact hcell⟩
    let f : Nat → Int := fun i => match hc w.heap b (o + i) with
      | some (.int .i64 n) => n
      | _ => 0
    have hf : ∀ i, i < len → hc w.heap b (o + i) = some (.int .i64 (f i)) ∧ I64 (f i) := fun i hi => by
      obtain ⟨n, hn, e⟩ := hv i hi
      have : f i = n := by show (match hc w.heap b (o + i) with | some (.int .i64 n) => n | _ => 0) = n; rw [e]
      rw [this]
      exact ⟨e, hn⟩
    refine ⟨(List.range len).map f, fun b' => b' = b, fun n hn => ?_, fun b' hb' => by rw [hb']; exact hb, ?_⟩
    · obtain ⟨i, hi, rfl⟩ := List.mem_map.1 hn
      exact (hf i (List.mem_range.1 hi)).2
    · refine .sl1 _ b o len cap 1 (fun i _ => .int .i64 (f i)) (by simp) h1 (fun r hr => ?_) rfl (fun i j hi hj => ?_) (fun i j hi hj => ?_)
      · obtain ⟨n, _, rfl⟩ := List.mem_map.1 hr
        rfl
      · obtain rfl : j = 0 := by omega
        rw [show o + i * 1 + 0 = o + i by omega]
        exact ⟨(hf i hi).1, rfl⟩
      · have hi' : i < len := by simpa using hi
        have e : ((((List.range len).map f).map fun n => [di n])[i]'hi) = [di (f i)] := by simp
        have hj' : j = 0 := by
          have : j < [di (f i)].length := by rw [← e]; exact hj
          simpa using this
        subst hj'
        have e2 : (((((List.range len).map f).map fun n => [di n])[i]'hi)[0]'hj) = di (f i) := by simp
        rw [e2]
        exact .v _
theorem kept_of {P : Program} {R : D → Hp → Prop} {Im Im' : Nat → Prop} {p p' : Pl} {w w' : World} {e : Ending} {v : D} {H' : Hp} {u : Value} {nn : Nm} (L : Left P Hp.none nn R Im p w e w' Im' p' v H' u) : Kept w w' := by
  have X := L.relE 0
  exact ⟨X.os, X.tape, X.output, X.size, fun b hb => X.block b hb fun ⟨i, e, hi, _⟩ => by cases hi⟩
abbrev AllIm (w : World) : Nat → Prop := fun b => b < w.heap.size
theorem law_intsG {f : FuncId} {us : List Value} {a : Option Addr} {len cap : Nat} {w : World} (hg : GlOk (AllIm w) w.heap) (h : ArgInts w a len cap) (hc : ∀ ns : List Int, (∀ n ∈ ns, InI n) → CallsA Try.prog f (.sl (ns.map fun n => [di n]) :: plainV us) Hp.none (0, 0) (Pu (db true) Hp.none)) :
    Calls Try.prog f (Value.slice a len cap :: us).toArray w (Ret (.bool true) w) := by
  obtain ⟨ns, Im, h1, h2, h3⟩ := ints_data h
  refine (hc ns h1 w (AllIm w) (fun _ => (0, 0)) (Value.slice a len cap :: us).toArray (by simp [plainV]) (fun j d u hd hu => ?_) ⟨fun i e hi => (by cases hi), fun i j e e' hi => (by cases hi), fun b hb => hb⟩ (fun k _ => rfl) hg).mono ?_
  · cases j with
    | zero =>
      simp at hd hu
      subst hd hu
      exact .p (h3.mono h2 fun _ _ => rfl)
    | succ j =>
      simp [plainV] at hd hu
      obtain ⟨x, hx, rfl⟩ := hd
      rw [hu] at hx
      cases hx
      exact .p (.v _)
  · rintro e w' ⟨Im', p', v, H', u, L⟩
    obtain ⟨rfl, rfl⟩ := L.post
    have := rel_v L.rel
    subst this
    exact ⟨L.end_, kept_of L⟩
theorem gl_none (Im : Nat → Prop) (h : Array Obj) : GlOk Im h := fun g f hg => by cases hg
theorem law_ints {f : FuncId} {us : List Value} {a : Option Addr} {len cap : Nat} {w : World} (h : ArgInts w a len cap) (hc : ∀ ns : List Int, (∀ n ∈ ns, InI n) → CallsA Try.prog f (.sl (ns.map fun n => [di n]) :: plainV us) Hp.none (0, 0) (Pu (db true) Hp.none)) :
    Calls Try.prog f (Value.slice a len cap :: us).toArray w (Ret (.bool true) w) := law_intsG (gl_none _ _) h hc
end Go.Proofs.Ytadjhfjiimgddaa
