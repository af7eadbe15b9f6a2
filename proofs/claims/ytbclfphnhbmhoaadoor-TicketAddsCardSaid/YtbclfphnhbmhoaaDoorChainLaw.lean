
/- What a chain of tickets is, in plain Lean; how counts and conditions are read. -/
import Derived.Test.YtbclfphnhbmhoaaDoorTicket4
import Derived.Deep.AppendLies
import Derived.Deep.RegionHeld3
namespace Go.Proofs.YtbclfphnhbmhoaaDoor
open Go.RowKit
set_option linter.unusedVariables false
set_option linter.unusedSimpArgs false

structure Cd where
  t : Int
  q : Int
def cdF (s : Cd) : List Value := [.int .i64 s.t, .int .i64 s.q]
def CdR : RowT Cd := fun _ _ r s => r = cdF s
theorem CdR.stays : Stays CdR := ⟨fun _ _ _ _ _ _ h => h⟩
def cd (l : List Cd) (i : Nat) : Cd := l.getD i ⟨0, 0⟩
theorem cd_get {l : List Cd} {i : Nat} (h : i < l.length) : l[i] = cd l i := by
  unfold cd; rw [List.getD_eq_getElem?_getD, List.getElem?_eq_getElem h, Option.getD_some]
theorem cd_at {x : Nat} {w w' : World} {a : Option Addr} {len cap : Nat} {l : List Cd} (h : SliceOf CdR 2 x w a len cap l) (k : Kept w w') {i : Nat} (hi : i < len) :
    ∃ b o, a = some ⟨b, o, none⟩ ∧ b < w.heap.size ∧ w'.cell? ⟨b, o + i * 2, none⟩ = some (.int .i64 (cd l i).t) ∧ w'.cell? ⟨b, o + i * 2 + 1, none⟩ = some (.int .i64 (cd l i).q) := by
  have hl := h.1
  obtain ⟨b, o, e, hb, hc⟩ := h.2.2.2.2.2 (by omega)
  obtain ⟨r, hr, hcell⟩ := hc i (by omega)
  have hr : r = cdF l[i] := hr
  rw [cd_get] at hr
  subst hr
  exact ⟨b, o, e, hb.1, by rw [kcell1 k hb.1]; exact hcell 0 _ rfl, by rw [kcell1 k hb.1]; exact hcell 1 _ rfl⟩
theorem ct_at {S : Int} {x : Nat} {w w' : World} {a : Option Addr} {len cap : Nat} {l : List Int} (h : SliceOf (CntR S) 2 x w a len cap l) (k : Kept w w') {i : Nat} (hi : i < len) :
    ∃ b o, a = some ⟨b, o, none⟩ ∧ b < w.heap.size ∧ w'.cell? ⟨b, o + i * 2, none⟩ = some (.int .i64 (gi l i % S)) ∧ w'.cell? ⟨b, o + i * 2 + 1, none⟩ = some (.int .i64 (gi l i)) := by
  have hl := h.1
  obtain ⟨b, o, e, hb, hc⟩ := h.2.2.2.2.2 (by omega)
  obtain ⟨r, hr, hcell⟩ := hc i (by omega)
  have hr : r = cntF S l[i] := hr
  rw [gi_get] at hr
  subst hr
  exact ⟨b, o, e, hb.1, by rw [kcell1 k hb.1]; exact hcell 0 _ rfl, by rw [kcell1 k hb.1]; exact hcell 1 _ rfl⟩
/-- The exact sum, in millionths, of the first i parts. -/
def wS (p f ex co : Int) (l : List Int) (c : List Cd) : Nat → Int
  | 0 => 0
  | i + 1 => wS p f ex co l c i + grV p f (gi l i) (gi l (i + 1)) * fac ex co (cd c i).t (cd c i).q
def mkT (p f ex co S B : Int) (l : List Int) (c : List Cd) (i : Nat) : Tk :=
  ⟨B, gi l i % S, gi l i, gi l (i + 1) % S, gi l (i + 1), (cd c i).t, (cd c i).q, wS p f ex co l c (i + 1) / 1000000 - wS p f ex co l c i / 1000000⟩
def tks (p f ex co S B : Int) (l : List Int) (c : List Cd) (n : Nat) : List Tk := (List.range n).map (mkT p f ex co S B l c)
theorem tks_len (p f ex co S B : Int) (l : List Int) (c : List Cd) (n : Nat) : (tks p f ex co S B l c n).length = n := by unfold tks; simp
theorem tks_succ (p f ex co S B : Int) (l : List Int) (c : List Cd) (n : Nat) : tks p f ex co S B l c (n + 1) = tks p f ex co S B l c n ++ [mkT p f ex co S B l c n] := by
  unfold tks; rw [List.range_succ, List.map_append]; rfl
theorem gr_bd {p f n n' : Int} (p1 : 1 ≤ p) (f0 : 0 ≤ f) (f1 : f ≤ 200000) (h0 : 0 ≤ n) (h1 : n ≤ n') (h2 : n' ≤ 360000) : 0 ≤ grV p f n n' ∧ grV p f n n' ≤ 72000000000 := by
  have h := mLit_le (p := p) p1 f0 h1
  unfold grV at *
  have a0 : 0 ≤ mLit p f n := Int.ediv_nonneg (Int.mul_nonneg h0 f0) (by omega)
  have a1 : mLit p f n' ≤ n' * f := Int.ediv_le_self _ (Int.mul_nonneg (by omega) f0)
  have a2 := (mul_bd (N := 360000) (F := 200000) (show 0 ≤ n' by omega) h2 f0 f1).2
  omega
theorem cOk_modC {b T : Int} (h0 : 0 ≤ T) (h1 : T ≤ 1099511627776) : cOk b (T % mSpan b) T := by
  have sb := mSpan_bd b
  exact ⟨⟨Int.emod_nonneg _ (by omega), Int.emod_lt_of_pos _ (by omega)⟩, h0, h1⟩
/-- All that a chain wants of its parts. -/
structure ChOk (p b f : Int) (s : ByteArray) (de ex co fr B : Int) (l : List Int) (c : List Cd) (P : Int) : Prop where
  hs : s.size ≤ 140737488351232
  hm : mOk p b f
  hp : pOk s de ex co fr
  hB : 0 ≤ B ∧ B < 1000
  hl : CGo l P
  h6 : l.length ≤ 6
  hn : l.length = c.length + 1
  hc : ∀ i, i < c.length → cOk' (cd c i).t (cd c i).q
theorem ChOk.at {p b f : Int} {s : ByteArray} {de ex co fr B : Int} {l : List Int} {c : List Cd} {P : Int} (h : ChOk p b f s de ex co fr B l c P) {k : Nat} (hk : k < c.length) :
    (0 ≤ gi l k ∧ gi l k ≤ gi l (k + 1) ∧ gi l (k + 1) ≤ 360000) ∧ (0 ≤ grV p f (gi l k) (gi l (k + 1)) ∧ grV p f (gi l k) (gi l (k + 1)) ≤ 72000000000) ∧ (830000 ≤ fac ex co (cd c k).t (cd c k).q ∧ fac ex co (cd c k).t (cd c k).q ≤ 1221000) := by
  have hn := h.hn
  have h6 := h.h6
  have u := h.hl.up k (by omega)
  have b0 := h.hl.bd k (by omega)
  have b1 := h.hl.bd (k + 1) (by omega)
  have p1 := h.hl.p1
  have hm := h.hm
  refine ⟨⟨b0.1, u, by omega⟩, gr_bd hm.1 (by have := hm.2.2.2.1; omega) hm.2.2.2.2 b0.1 u (by omega), (fac_bd h.hp.1.2.1 h.hp.1.2.2.1 (h.hc k hk)).2⟩
theorem ChOk.bd {p b f : Int} {s : ByteArray} {de ex co fr B : Int} {l : List Int} {c : List Cd} {P : Int} (h : ChOk p b f s de ex co fr B l c P) : ∀ k, k ≤ c.length → 0 ≤ wS p f ex co l c k ∧ wS p f ex co l c k ≤ k * 87912000000000000
  | 0, _ => ⟨Int.le_refl 0, by simp [wS]⟩
  | k + 1, hk => by
    have ih := h.bd k (by omega)
    have a := h.at (k := k) (by omega)
    have m := mul_bd (N := 72000000000) (F := 1221000) a.2.1.1 a.2.1.2 (show 0 ≤ fac ex co (cd c k).t (cd c k).q by omega) a.2.2.2
    show 0 ≤ wS p f ex co l c k + _ ∧ wS p f ex co l c k + _ ≤ _
    omega
theorem Add_okC (v r g f v' r' : Int) (w : World) (hr : rOk v r) (h : vfOk g f) (hv : v + (g * f + r) / 1000000 = v') (hr' : (g * f + r) % 1000000 = r') (hl : v' ≤ 1099511627776) :
    Calls Tryd.prog 44 #[rng v r, .int .i64 g, .int .i64 f] w (RetGE v' r' 0 w) := by
  have := Add_in v r g f w hr h
  rw [hv, hr', if_pos hl] at this
  exact this
/-- One more part is added. -/
theorem ChOk.step {p b f : Int} {s : ByteArray} {de ex co fr B : Int} {l : List Int} {c : List Cd} {P : Int} (h : ChOk p b f s de ex co fr B l c P) {k : Nat} (hk : k < c.length) (w : World) :
    Calls Tryd.prog 44 #[rng (wS p f ex co l c k / 1000000) (wS p f ex co l c k % 1000000), .int .i64 (grV p f (gi l k) (gi l (k + 1))), .int .i64 (fac ex co (cd c k).t (cd c k).q)] w (RetGE (wS p f ex co l c (k + 1) / 1000000) (wS p f ex co l c (k + 1) % 1000000) 0 w) := by
  have b0 := h.bd k (by omega)
  have b1 := h.bd (k + 1) (by omega)
  have hn := h.hn
  have h6 := h.h6
  have a := h.at hk
  have e : wS p f ex co l c (k + 1) = wS p f ex co l c k + grV p f (gi l k) (gi l (k + 1)) * fac ex co (cd c k).t (cd c k).q := rfl
  refine Add_okC _ _ _ _ _ _ w ⟨⟨by omega, by omega⟩, by omega, by omega⟩ ⟨⟨a.2.1.1, by omega⟩, by omega, by omega⟩ ?_ ?_ ?_
  · rw [e]; omega
  · rw [e]; omega
  · omega
/-- The call has made a chain of tickets, in memory of its own. -/
def MadeCh (p f ex co S B : Int) (l : List Int) (c : List Cd) (n : Nat) (w : World) (e : Ending) (w' : World) : Prop :=
  ∃ (a : Option Addr) (cap : Nat), e = .returned (.tuple #[.slice a n cap, rng (wS p f ex co l c n / 1000000) (wS p f ex co l c n % 1000000), .int .i64 0]) ∧ (∀ x, x < w.heap.size → SliceOf TkR 8 x w' a n cap (tks p f ex co S B l c n)) ∧ Kept w w'
end Go.Proofs.YtbclfphnhbmhoaaDoor
