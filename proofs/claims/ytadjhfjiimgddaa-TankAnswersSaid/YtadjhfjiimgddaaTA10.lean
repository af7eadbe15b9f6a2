/- TankAnswers: Src Args Bridge Raw TkM. -/
import Derived.Test.YtadjhfjiimgddaaRows
import Derived.Test.YtadjhfjiimgddaaTA9
import Derived.Test.YtadjhfjiimgddaaTA4
import Derived.Test.YtadjhfjiimgddaaTA5
import Derived.Deep.Fields

/- Walks of the reader of numbers: batchlinekeep.Mod, Src.Raw, Src.N, Src.Range, Src.Pick. -/
namespace Go.Proofs.Ytadjhfjiimgddaa
open Go.RowKit
set_option linter.unusedVariables false
set_option linter.unusedSimpArgs false

/-- A row of len cells from b, o on, each of which holds a value with the property. -/
def RowOf (w : World) (b o len : Nat) (Q : Value → Prop) : Prop := ∀ i, i < len → ∃ v, Q v ∧ w.cell? ⟨b, o + i, none⟩ = some v
theorem RowOf.only {w w' : World} {b o len bs : Nat} {Q : Value → Prop} (h : RowOf w b o len Q) (k : Only bs w w') (hb : b < w.heap.size) (hn : b ≠ bs) : RowOf w' b o len Q := fun i hi => by
  obtain ⟨v, hv, hc⟩ := h i hi
  exact ⟨v, hv, by rw [ocell1 k hb hn]; exact hc⟩
theorem RowOf.new {w : World} {n k : Nat} {c : Array Value} {t : TypeId} {fr : Nat × Nat} {Q : Value → Prop} (hn : n = w.heap.size) (hk : k = c.size) (h : ∀ v ∈ c, Q v) : RowOf (w.alloc (.cells c t fr)) n 0 k Q := fun i hi => by
  subst hn hk
  refine ⟨c[i], h _ (Array.getElem_mem hi), ?_⟩
  rw [cell_alloc_ite, if_neg (by omega), if_pos rfl]
  simp [hi]
def IntIs (P : Int → Prop) (v : Value) : Prop := ∃ n, P n ∧ v = .int .i64 n

/-- A slice of ints that came in. -/
def ArgInts (w : World) (a : Option Addr) (len cap : Nat) : Prop :=
  len ≤ cap ∧ cap ≤ maxLen ∧ (0 < len → ∃ b o, a = some ⟨b, o, none⟩ ∧ b < w.heap.size ∧ RowOf w b o len (IntIs I64))
/-- A slice of ints that came in, as a row's proof opens it: nil, or 'cap' cells. -/
def IsRow (k : IntKind) (w : World) (a : Option Addr) (len cap : Nat) (zs : List Int) : Prop :=
  (a = none ∧ len = 0 ∧ cap = 0 ∧ zs = []) ∨
  ∃ x, a = some x ∧ len ≤ cap ∧ cap ≤ maxLen ∧ zs.length = cap ∧ (∀ i, i < zs.length → w.cell? (x.add i) = some (.int k (zs.getD i 0))) ∧ ∀ n ∈ zs, (Lit.int k n).wf = true
theorem argInts_of {w : World} {a : Option Addr} {len cap : Nat} {zs : List Int} (h : IsRow .i64 w a len cap zs) : ArgInts w a len cap := by
  rcases h with ⟨rfl, rfl, rfl, _⟩ | ⟨x, rfl, h1, h2, h3, h4, h5⟩
  · exact ⟨Nat.le_refl _, Nat.zero_le _, fun h => absurd h (by omega)⟩
  · refine ⟨h1, h2, fun hp => ?_⟩
    obtain ⟨b, o, rfl, hc⟩ := ints_at h4 (by omega)
    refine ⟨b, o, rfl, ?_, fun i hi => ?_⟩
    · rcases Nat.lt_or_ge b w.heap.size with h | h
      · exact h
      · exfalso
        have hc0 := hc 0 (by omega)
        simp only [World.cell?] at hc0
        rw [Array.getElem?_eq_none h] at hc0
        simp at hc0
    · refine ⟨_, ⟨zs.getD i 0, ?_, rfl⟩, hc i (by omega)⟩
      have hm : zs.getD i 0 ∈ zs := by
        rw [List.getD_eq_getElem?_getD, List.getElem?_eq_getElem (by omega)]
        exact List.getElem_mem _
      exact bounds_i64 (h5 _ hm)
end Go.Proofs.Ytadjhfjiimgddaa

/- A slice of ints that came in stays one where no old block changes. -/
namespace Go.Proofs.Ytadjhfjiimgddaa
open Go.RowKit
theorem ArgInts.kept {w w' : World} {a : Option Addr} {len cap : Nat} (h : ArgInts w a len cap) (k : Kept w w') : ArgInts w' a len cap := by
  obtain ⟨h1, h2, h3⟩ := h
  refine ⟨h1, h2, fun hp => ?_⟩
  obtain ⟨b, o, e, hb, hr⟩ := h3 hp
  refine ⟨b, o, e, Nat.lt_of_lt_of_le hb k.size, fun i hi => ?_⟩
  obtain ⟨v, hv, hc⟩ := hr i hi
  exact ⟨v, hv, by rw [kcell1 k hb]; exact hc⟩
theorem RowOf.drew {w : World} {b o len : Nat} {Q : Value → Prop} (h : RowOf w b o len Q) : RowOf w.drew b o len Q := h
end Go.Proofs.Ytadjhfjiimgddaa

/- From contracts over data to calls in worlds: a slice of ints that came in, and plain values. -/
namespace Go.Proofs.Ytadjhfjiimgddaa
open Go
set_option linter.unusedVariables false
set_option linter.unusedSimpArgs false

theorem ints_data {w : World} {a : Option Addr} {len cap : Nat} (h : ArgInts w a len cap) : ∃ (ns : List Int) (Im : Nat → Prop), (∀ n ∈ ns, InI n) ∧ (∀ b, Im b → b < w.heap.size) ∧ RelP Im w.heap (.sl (ns.map fun n => [di n])) (.slice a len cap) := by
  obtain ⟨h1, h2, h3⟩ := h
  rcases Nat.eq_zero_or_pos len with h0 | h0
  · subst h0
    exact ⟨[], fun _ => False, fun n hn => (by cases hn), fun b hb => hb.elim, .sl0 a cap⟩
  · obtain ⟨b, o, rfl, hb, hr⟩ := h3 h0
    have hv : ∀ i, i < len → ∃ n, I64 n ∧ hc w.heap b (o + i) = some (.int .i64 n) := fun i hi => by
      obtain ⟨v, ⟨n, hn, rfl⟩, hcell⟩ := hr i hi
      exact ⟨n, hn, by rw [← hc_cell]; exact hcell⟩
    let f : Nat → Int := fun i => match hc w.heap b (o + i) with
      | some (.int .i64 n) => n
      | _ => 0
    have hf : ∀ i, i < len → hc w.heap b (o + i) = some (.int .i64 (f i)) ∧ I64 (f i) := fun i hi => by
      obtain ⟨n, hn, e⟩ := hv i hi
      have : f i = n := by show (match hc w.heap b (o + i) with | some (.int .i64 n) => n | _ => 0) = n; rw [e]
      rw [this]
      exact ⟨e, hn⟩
    refine ⟨(List.range len).map f, fun b' => b' = b, fun n hn => ?_, fun b' hb' => by rw [hb']; exact hb, ?_⟩
    · obtain ⟨i, hi, rfl⟩ := List.mem_map.1 hn
      exact (hf i (List.mem_range.1 hi)).2
    · refine .sl1 _ b o len cap 1 (fun i _ => .int .i64 (f i)) (by simp) h1 (fun r hr => ?_) rfl (fun i j hi hj => ?_) (fun i j hi hj => ?_)
      · obtain ⟨n, _, rfl⟩ := List.mem_map.1 hr
        rfl
      · obtain rfl : j = 0 := by omega
        rw [show o + i * 1 + 0 = o + i by omega]
        exact ⟨(hf i hi).1, rfl⟩
      · have hi' : i < len := by simpa using hi
        have e : ((((List.range len).map f).map fun n => [di n])[i]'hi) = [di (f i)] := by simp
        have hj' : j = 0 := by
          have : j < [di (f i)].length := by rw [← e]; exact hj
          simpa using this
        subst hj'
        have e2 : (((((List.range len).map f).map fun n => [di n])[i]'hi)[0]'hj) = di (f i) := by simp
        rw [e2]
        exact .v _
theorem kept_of {P : Program} {R : D → Hp → Prop} {Im Im' : Nat → Prop} {p p' : Pl} {w w' : World} {e : Ending} {v : D} {H' : Hp} {u : Value} {nn : Nm} (L : Left P Hp.none nn R Im p w e w' Im' p' v H' u) : Kept w w' := by
  have X := L.relE 0
  exact ⟨X.os, X.tape, X.output, X.size, fun b hb => X.block b hb fun ⟨i, e, hi, _⟩ => by cases hi⟩
end Go.Proofs.Ytadjhfjiimgddaa

/- Networks, plans and lists that came in: what a program's reader reads of them is data. -/
namespace Go.Proofs.Ytadjhfjiimgddaa
open Go Go.ChangeShapes Go.WideShapes Go.Deep
set_option linter.unusedVariables false
set_option linter.unusedSimpArgs false
set_option linter.unusedSectionVars false

def ImW (w : World) : Nat → Prop := fun b => b < w.heap.size
/-- A cell and its data. -/
def RW (w : World) (d : D) (u : Value) : Prop := one u = true ∧ RelP (ImW w) w.heap d u
def RWs (w : World) (ds : List D) (us : List Value) : Prop := ∀ (j : Nat) (d : D) (u : Value), ds[j]? = some d → us[j]? = some u → RW w d u
theorem RWs.nil {w : World} {us : List Value} : RWs w [] us := fun j d u hd => by simp at hd
theorem RWs.cons {w : World} {d : D} {u : Value} {ds : List D} {us : List Value} (h : RW w d u) (t : RWs w ds us) : RWs w (d :: ds) (u :: us) := fun j d' u' hd hu => by
  cases j with
  | zero => simp at hd hu; subst hd hu; exact h
  | succ j => exact t j d' u' (by simpa using hd) (by simpa using hu)
theorem RW.v {w : World} {u : Value} (h : one u = true) : RW w (.v u) u := ⟨h, .v u⟩
/-- An argument and its data. -/
def Arg (w : World) (d : D) (v : Value) : Prop := ∀ p : Pl, Rel (ImW w) p Hp.none w.heap d v
theorem list_of {α : Type} {Q : Nat → α → Prop} : ∀ n : Nat, (∀ i, i < n → ∃ a, Q i a) → ∃ l : List α, l.length = n ∧ ∀ i a, l[i]? = some a → Q i a
  | 0, _ => ⟨[], rfl, fun i a h => by simp at h⟩
  | n + 1, h => by
    obtain ⟨l, hl, hq⟩ := list_of n fun i hi => h i (by omega)
    obtain ⟨a, ha⟩ := h n (by omega)
    refine ⟨l ++ [a], by simp [hl], fun i b hb => ?_⟩
    rcases Nat.lt_or_ge i n with hi | hi
    · rw [List.getElem?_append_left (by omega)] at hb
      exact hq i b hb
    · rw [List.getElem?_append_right (by omega)] at hb
      have : i - l.length = 0 := by
        rcases Nat.eq_zero_or_pos (i - l.length) with h | h
        · exact h
        · rw [List.getElem?_eq_none (by simp; omega)] at hb; cases hb
      rw [this] at hb
      obtain rfl : a = b := by simpa using hb
      obtain rfl : i = n := by omega
      exact ha
theorem cell_at {w : World} {a : Addr} {v : Value} (h : w.cell? a = some v) : a.spot = none ∧ a.block < w.heap.size := by
  unfold World.cell? at h
  split at h
  · rename_i hb
    split at h
    · cases h
    · rename_i hs
      exact ⟨by simpa using hs, (Array.getElem?_eq_some_iff.1 hb).1⟩
  · cases h
section
variable {H : Type} {enc : TypeId × Value → H} {P : Program} {w : World} {base : Nat} {spare : Nat → Bool} {held : Bool}

theorem cells_get {a : Addr} {n : Nat} {us : List Value} (h : w.cells? base a n = some us) : us.length = n ∧ ∀ i, i < n → w.cell? (a.add i) = us[i]? := by
  unfold World.cells? at h
  split at h
  · exact ⟨by simpa using mapM_some_length h, fun i hi => mapM_some_get h i i (by simp [hi])⟩
  · cases h
theorem dec_fields {t : TypeId} {fs : Array Field} {fuel : Nat} {cs : List Value} {x : DataW H × List MemPlace} (hs : P.underlying t = some (.struct fs)) (hone : oneCellFields P fs = true) (h : DataW.trod enc P w base spare held fuel t cs = some x) :
    cs.length = P.cellsOf t ∧ ∃ n, ∀ (j : Nat) (f : Field) (u : Value), fs[j]? = some f → cs[j]? = some u → ∃ y, DataW.trod enc P w base spare held n f.type [u] = some y := by
  obtain ⟨xs, n, _, _, hl, hx, hg⟩ := DataW.trod_struct hs h
  refine ⟨hl, n, fun j f u hj hu => ?_⟩
  obtain ⟨o, k⟩ := hone_of hone j f hj
  have hjl : j < fs.size := (Array.getElem?_eq_some_iff.1 hj).1
  have h1 := hg j f hj
  rw [o, k] at h1
  have hcs : (cs.drop j).take 1 = [u] := by
    obtain ⟨hjv, rfl⟩ := List.getElem?_eq_some_iff.1 hu
    rw [List.drop_eq_getElem_cons hjv]
    rfl
  refine ⟨xs[j]'(by omega), ?_⟩
  rw [← hcs, ← List.getElem?_eq_getElem]
  exact h1
/-- Whatever reads as type e is data of the form 'row'. -/
def Dec (enc : TypeId × Value → H) (P : Program) (w : World) (base : Nat) (spare : Nat → Bool) (held : Bool) {α : Type} (e : TypeId) (row : α → List D) (sz : Nat) : Prop :=
  ∀ (n : Nat) (us : List Value) (y : DataW H × List MemPlace), DataW.trod enc P w base spare held n e us = some y → ∃ a : α, us.length = sz ∧ (row a).length = sz ∧ RWs w (row a) us
theorem dec_slice {α : Type} {row : α → List D} {sz : Nat} {t e : TypeId} (ht : P.underlying t = some (.slice e)) (hsz : P.cellsOf e = sz) (h0 : 0 < sz) (hel : Dec enc P w base spare held e row sz) : Dec enc P w base spare held t (fun l : List α => [D.sl (l.map row)]) 1 := by
  intro fuel cs x h
  rcases DataW.trod_slice ht h with ⟨rfl, _⟩ | ⟨a, len, cap, elems, rest, n, _, rfl, _, hb, hl, hm, hlen, hget, _, _⟩
  · exact ⟨[], rfl, rfl, .cons ⟨rfl, .sl0 none 0⟩ .nil⟩
  rcases Nat.eq_zero_or_pos len with z | hp
  · subst z
    exact ⟨[], rfl, rfl, .cons ⟨rfl, .sl0 _ _⟩ .nil⟩
  have each : ∀ i, i < len → ∃ a' : α, ∃ us : List Value, us.length = sz ∧ (∀ j, j < sz → w.cell? ((a.add (i * sz)).add j) = us[j]?) ∧ (row a').length = sz ∧ RWs w (row a') us := by
    intro i hi
    have h1 := hget i hi
    rw [List.getElem?_eq_getElem (by omega), Option.bind_eq_some_iff] at h1
    obtain ⟨us, hc, ht'⟩ := h1
    rw [hsz] at hc
    obtain ⟨c1, c2⟩ := cells_get hc
    obtain ⟨a', e1, e2, e3⟩ := hel _ _ _ ht'
    exact ⟨a', us, c1, c2, e2, e3⟩
  obtain ⟨hs, hbl⟩ : a.spot = none ∧ a.block < w.heap.size := by
    obtain ⟨_, us, u1, u2, _, _⟩ := each 0 hp
    have := u2 0 h0
    rw [List.getElem?_eq_getElem (by omega)] at this
    have k := cell_at this
    simpa [Addr.add] using k
  obtain ⟨b, o, s⟩ := a
  dsimp only at hs hbl
  subst hs
  obtain ⟨l, hll, hq⟩ := list_of len each
  have hat : ∀ i j, w.cell? (((⟨b, o, none⟩ : Addr).add (i * sz)).add j) = hc w.heap b (o + i * sz + j) := fun i j => by
    have e : (((⟨b, o, none⟩ : Addr).add (i * sz)).add j) = ⟨b, o + i * sz + j, none⟩ := by
      unfold Addr.add
      by_cases h1 : j = 0 <;> by_cases h2 : i * sz = 0 <;> simp only [h1, h2, if_true, if_false, Nat.add_zero]
    rw [← hc_cell, e]
  refine ⟨l, rfl, rfl, .cons ⟨rfl, .sl1 (l.map row) b o len cap sz (fun i j => (hc w.heap b (o + i * sz + j)).getD (.bool false)) (by simp [hll]) hl (fun r hr => ?_) hbl (fun i j hi hj => ?_) (fun i j hi hj => ?_)⟩ .nil⟩
  · obtain ⟨a', ha, rfl⟩ := List.mem_map.1 hr
    obtain ⟨i, hi⟩ := List.getElem?_of_mem ha
    obtain ⟨_, _, _, h3, _⟩ := hq i a' hi
    exact h3
  · obtain ⟨us, u1, u2, u3, u4⟩ := hq i l[i] (List.getElem?_eq_getElem (by omega))
    have h1 := u2 j hj
    rw [hat, List.getElem?_eq_getElem (by omega)] at h1
    have h2 := u4 j _ _ (List.getElem?_eq_getElem (by omega)) (List.getElem?_eq_getElem (by omega : j < us.length))
    rw [h1]
    exact ⟨rfl, h2.1⟩
  · have hi' : i < l.length := by simpa using hi
    obtain ⟨us, u1, u2, u3, u4⟩ := hq i l[i] (List.getElem?_eq_getElem (by omega))
    have e : ((l.map row)[i]'hi) = row l[i] := by simp
    have hj' : j < (row l[i]).length := by rw [← e]; exact hj
    have h1 := u2 j (by omega)
    rw [hat, List.getElem?_eq_getElem (by omega)] at h1
    have h2 := u4 j _ _ (List.getElem?_eq_getElem hj') (List.getElem?_eq_getElem (by omega : j < us.length))
    rw [h1]
    have e2 : (((l.map row)[i]'hi)[j]'hj) = (row l[i])[j] := by simp
    rw [e2]
    exact h2.2
theorem dec_arg {α : Type} {row : α → List D} {sz : Nat} {t : TypeId} {v : Value} {d : DataW H} {p : List MemPlace} (hel : Dec enc P w base spare held t row sz) {cs : Array Value} (hv : v = .agg cs) (h : DataW.Trod enc P w base spare held t v d p) : ∃ a : α, Arg w (.agg (row a)) v := by
  subst hv
  obtain ⟨fuel, hf⟩ := h
  obtain ⟨a, h1, h2, h3⟩ := hel _ _ _ hf
  have hc : (Value.agg cs).cells.toList = cs.toList := rfl
  rw [hc] at h1 h3
  refine ⟨a, fun p => .agg _ _ (by rw [h2, ← h1]; simp) (fun j u hu => ?_) (fun j d u hd hu => ?_)⟩
  · have hj : j < (row a).length := by
      have := (Array.getElem?_eq_some_iff.1 hu).1
      rw [h2, ← h1]
      simpa using this
    exact (h3 j _ u (List.getElem?_eq_getElem hj) (by simpa using hu)).1
  · exact .p (h3 j d u hd (by simpa using hu)).2
end
section
variable {H : Type} {enc : TypeId × Value → H} {w : World} {base : Nat} {spare : Nat → Bool} {held : Bool}

theorem dec_int : Dec enc Try.prog w base spare held 3 iRow 1 := fun n us y h => by
  obtain ⟨k, rfl, _, _⟩ := DataW.trod_int Try.underlying3 h
  exact ⟨k, rfl, rfl, .cons (.v rfl) .nil⟩
theorem dec_str : Dec enc Try.prog w base spare held 9 nmRow 1 := fun n us y h => by
  obtain ⟨k, rfl, _, _⟩ := DataW.trod_string Try.underlying9 h
  exact ⟨k, rfl, rfl, .cons (.v rfl) .nil⟩
theorem lst2 {α : Type} {l : List α} (h : l.length = 2) : ∃ a b, l = [a, b] := match l, h with | [a, b], _ => ⟨a, b, rfl⟩
theorem rw_int {n : Nat} {u : Value} {y : DataW H × List MemPlace} (h : DataW.trod enc Try.prog w base spare held n 3 [u] = some y) : ∃ k, RW w (di k) u := by
  obtain ⟨k, _, _, r⟩ := dec_int n [u] y h
  exact ⟨k, r 0 _ _ rfl rfl⟩
theorem rw_str {n : Nat} {u : Value} {y : DataW H × List MemPlace} (h : DataW.trod enc Try.prog w base spare held n 9 [u] = some y) : ∃ k, RW w (ds k) u := by
  obtain ⟨k, _, _, r⟩ := dec_str n [u] y h
  exact ⟨k, r 0 _ _ rfl rfl⟩
theorem rw_sl {α : Type} {row : α → List D} {t : TypeId} (hd : Dec enc Try.prog w base spare held t (fun l : List α => [D.sl (l.map row)]) 1) {n : Nat} {u : Value} {y : DataW H × List MemPlace} (h : DataW.trod enc Try.prog w base spare held n t [u] = some y) : ∃ l : List α, RW w (.sl (l.map row)) u := by
  obtain ⟨k, _, _, r⟩ := hd n [u] y h
  exact ⟨k, r 0 _ _ rfl rfl⟩
end
def Args (w : World) (ds : List D) (us : List Value) : Prop := ds.length = us.length ∧ ∀ (j : Nat) (d : D) (u : Value), ds[j]? = some d → us[j]? = some u → Arg w d u
theorem Args.nil {w : World} : Args w [] [] := ⟨rfl, fun j d u hd => by simp at hd⟩
theorem Args.cons {w : World} {d : D} {u : Value} {ds : List D} {us : List Value} (h : Arg w d u) (t : Args w ds us) : Args w (d :: ds) (u :: us) := ⟨by simp [t.1], fun j d' u' hd hu => by
  cases j with
  | zero => simp at hd hu; subst hd hu; exact h
  | succ j => exact t.2 j d' u' (by simpa using hd) (by simpa using hu)⟩
theorem Arg.v {w : World} (u : Value) : Arg w (.v u) u := fun _ => .p (.v u)
theorem arg_ints {w : World} {a : Option Addr} {len cap : Nat} (h : ArgInts w a len cap) : ∃ ns : List Int, (∀ n ∈ ns, InI n) ∧ Arg w (.sl (ns.map fun n => [di n])) (.slice a len cap) := by
  obtain ⟨ns, Im, h1, h2, h3⟩ := ints_data h
  exact ⟨ns, h1, fun _ => .p (h3.mono h2 fun b _ => rfl)⟩
/-- A law of arguments that are data. -/
theorem law_any {f : FuncId} {w : World} {ds : List D} {us : List Value} (ha : Args w ds us) (hc : CallsA Try.prog f ds Hp.none (0, 0) (Pu (db true) Hp.none)) : Calls Try.prog f us.toArray w (Ret (.bool true) w) := by
  refine (hc w (ImW w) (fun _ => (0, 0)) us.toArray (by simpa using ha.1) (fun j d u hd hu => ?_) ⟨fun i e hi => (by cases hi), fun i j e e' hi => (by cases hi), fun b hb => hb⟩ (fun k _ => rfl)).mono ?_
  · exact ha.2 j d u hd (by simpa using hu) _
  · rintro e w' ⟨Im', p', v, H', u, L⟩
    obtain ⟨rfl, rfl⟩ := L.post
    have := rel_v L.rel
    subst this
    exact ⟨L.end_, kept_of L⟩
end Go.Proofs.Ytadjhfjiimgddaa

/- TankAnswers: the law, of arguments that came in. -/
namespace Go.Proofs.Ytadjhfjiimgddaa
open Go Go.ChangeShapes Go.WideShapes Go.Deep
set_option linter.unusedVariables false
set_option linter.unusedSimpArgs false
set_option linter.unusedSectionVars false
section
variable {H : Type} {enc : TypeId × Value → H} {w : World} {base : Nat} {spare : Nat → Bool} {held : Bool}
theorem lst4 {α : Type} {l : List α} (h : l.length = 4) : ∃ a b c d, l = [a, b, c, d] := match l, h with | [a, b, c, d], _ => ⟨a, b, c, d, rfl⟩
theorem dec_strap : Dec enc Try.prog w base spare held 35 Strap.row 2 := fun n us y h => by
  obtain ⟨hl, m, hf⟩ := dec_fields Try.underlying35 (by kernel_rfl) h
  rw [show Try.prog.cellsOf 35 = 2 by kernel_rfl] at hl
  obtain ⟨u0, u1, rfl⟩ := lst2 hl
  obtain ⟨_, q0⟩ := hf 0 _ u0 rfl rfl
  obtain ⟨_, q1⟩ := hf 1 _ u1 rfl rfl
  obtain ⟨k0, r0⟩ := rw_int q0
  obtain ⟨k1, r1⟩ := rw_int q1
  exact ⟨⟨k0, k1⟩, rfl, rfl, .cons r0 (.cons r1 .nil)⟩
theorem dec_tnk : Dec enc Try.prog w base spare held 24 tnkD 4 := fun n us y h => by
  obtain ⟨hl, m, hf⟩ := dec_fields Try.underlying24 (by kernel_rfl) h
  rw [show Try.prog.cellsOf 24 = 4 by kernel_rfl] at hl
  obtain ⟨u0, u1, u2, u3, rfl⟩ := lst4 hl
  obtain ⟨_, q0⟩ := hf 0 _ u0 rfl rfl
  obtain ⟨_, q1⟩ := hf 1 _ u1 rfl rfl
  obtain ⟨_, q2⟩ := hf 2 _ u2 rfl rfl
  obtain ⟨_, q3⟩ := hf 3 _ u3 rfl rfl
  obtain ⟨k0, r0⟩ := rw_str q0
  obtain ⟨k1, r1⟩ := rw_sl (dec_slice Try.underlying22 (by kernel_rfl) (by omega) dec_strap) q1
  obtain ⟨k2, r2⟩ := rw_int q2
  obtain ⟨k3, r3⟩ := rw_int q3
  exact ⟨⟨k0, k1, k2, k3⟩, rfl, rfl, .cons r0 (.cons r1 (.cons r2 (.cons r3 .nil)))⟩
end
theorem TankAnswers_law (v0 : Value) (level volume : Int) (a : Option Addr) (len cap : Nat) (w : World) (h0 : ∃ x : Tnk, Arg w (.agg (tnkD x)) v0) (h3 : ArgInts w a len cap) :
    Calls Try.prog 3 #[v0, .int .i64 level, .int .i64 volume, .slice a len cap] w (Ret (.bool true) w) := by
  obtain ⟨t, g0⟩ := h0
  obtain ⟨ns, hns, g3⟩ := arg_ints h3
  exact law_any (us := [v0, .int .i64 level, .int .i64 volume, .slice a len cap]) (.cons g0 (.cons (.v _) (.cons (.v _) (.cons g3 .nil)))) (TA_c t level volume ns hns (0, 0))
end Go.Proofs.Ytadjhfjiimgddaa
