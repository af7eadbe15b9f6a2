
/- Tools: what they are, how they move. -/
import Derived.Test.YtkjibmfggeibjaaFw4
namespace Go.Proofs.Ytkjibmfggeibjaa
open Go
set_option linter.unusedVariables false
set_option linter.unusedSimpArgs false
set_option maxRecDepth 100000

/-- A tool: its way, the hop, how far. -/
structure Tol where
  way : List (Int × Bool)
  hop : Int
  pos : Int
def tHop (h : Int × Bool) : List D := [di h.1, db h.2]
def Tol.row (t : Tol) : List D := [.sl (t.way.map tHop), di t.hop, di t.pos]
def Tol.enc (t : Tol) : D := .agg t.row
def tHopOf1 : List D → Option (Int × Bool)
  | [.v (.int .i64 k), .v (.bool b)] => some (k, b)
  | _ => Option.none
theorem tHopOf1_row (h : Int × Bool) : tHopOf1 (tHop h) = some h := rfl
theorem tHopOf1_eq {r : List D} {h : Int × Bool} (e : tHopOf1 r = some h) : r = tHop h := by
  unfold tHopOf1 at e
  split at e
  · cases e; rfl
  · cases e
def tolOf1 : List D → Option Tol
  | [.sl rows, .v (.int .i64 k), .v (.int .i64 a)] => match lsOf tHopOf1 rows with
    | some w => some ⟨w, k, a⟩
    | Option.none => Option.none
  | _ => Option.none
theorem tolOf1_row (t : Tol) : tolOf1 t.row = some t := by
  have e := lsOf_map tHopOf1_row t.way
  unfold Tol.row tolOf1
  simp only [e]
theorem tolOf1_eq {r : List D} {t : Tol} (e : tolOf1 r = some t) : r = t.row := by
  unfold tolOf1 at e
  split at e
  · split at e
    · rename_i e1
      cases e
      rw [lsOf_eq (fun r x => tHopOf1_eq) e1]
      rfl
    · cases e
  · cases e
theorem tHop_g (o : List (Int × Bool)) (j : Nat) (h : j < o.length) : (o.map tHop).getD j [] = tHop o[j] := getD_map tHop o j h
theorem tHop_pl (h : Int × Bool) : ∀ d ∈ tHop h, d.plain = true := fun d hd => by
  rcases List.mem_cons.1 hd with rfl | hd
  · rfl
  · rw [List.mem_singleton.1 hd]; rfl
/-- Where a hop begins and ends; what its segment holds. -/
def tEnds (n : Net) (h : Int × Bool) : Int × Int := match n.segs[h.1.toNat]? with
  | some s => if h.2 = true then (s.to, s.fr) else (s.fr, s.to)
  | Option.none => (0, 0)
def tCap (n : Net) (h : Int × Bool) : Int := match n.segs[h.1.toNat]? with
  | some s => s.cap
  | Option.none => 0
def tUnk (n : Net) (h : Int × Bool) : Bool := if decide (h.1 < 0) = true then true else decide ((n.segs.length : Int) ≤ h.1)
def chnB (n : Net) : Int → List (Int × Bool) → Bool
  | _, [] => true
  | a, h :: l => if tUnk n h = true then false else if (if decide (0 ≤ a) = true then a != (tEnds n h).1 else false) = true then false else chnB n (tEnds n h).2 l
def posB (n : Net) (t : Tol) : Bool := if (t.hop == (t.way.length : Int)) = true then t.pos == 0 else if decide (0 ≤ t.hop) = true then (if decide (t.hop < (t.way.length : Int)) = true then (if decide (0 ≤ t.pos) = true then decide (t.pos ≤ tCap n (t.way.getD t.hop.toNat (0, false))) else false) else false) else false
def tolV (n : Net) (t : Tol) : Bool := if (if decide ((t.way.length : Int) < 1) = true then true else decide ((32 : Int) < t.way.length)) = true then false else if chnB n (-1) t.way = true then posB n t else false
def tRate (p : Pln) (h : Int × Bool) : Int := if h.2 = true then -(p.rates.getD h.1.toNat 0) else p.rates.getD h.1.toNat 0
def pos0 (x : Int) : Int := if 0 < x then x else 0
theorem pos0_nn (x : Int) : 0 ≤ pos0 x := by unfold pos0; split <;> omega
/-- A tick. -/
def mov1 (n : Net) (p : Pln) (t : Tol) : Tol :=
  if (t.hop == (t.way.length : Int)) = true then t
  else if decide (tCap n (t.way.getD t.hop.toNat (0, false)) < pos0 (t.pos + tRate p (t.way.getD t.hop.toNat (0, false)))) = true then ⟨t.way, t.hop + 1, 0⟩
  else ⟨t.way, t.hop, pos0 (t.pos + tRate p (t.way.getD t.hop.toNat (0, false)))⟩
def movK (n : Net) (p : Pln) : Nat → Tol → Tol
  | 0, t => t
  | k + 1, t => movK n p k (mov1 n p t)
theorem movK_add (n : Net) (p : Pln) : ∀ (i k : Nat) (t : Tol), movK n p (i + k) t = movK n p k (movK n p i t)
  | 0, k, t => by rw [Nat.zero_add]; rfl
  | i + 1, k, t => by rw [Nat.add_right_comm]; exact movK_add n p i k (mov1 n p t)
theorem movK_succ (n : Net) (p : Pln) (k : Nat) (t : Tol) : movK n p (k + 1) t = mov1 n p (movK n p k t) := movK_add n p k 1 t
theorem mov1_way (n : Net) (p : Pln) (t : Tol) : (mov1 n p t).way = t.way := by
  unfold mov1
  split
  · rfl
  · split <;> rfl
/-- What a valid tool is. -/
structure TolOk (n : Net) (t : Tol) : Prop where
  l : 1 ≤ t.way.length ∧ t.way.length ≤ 32
  ch : chnB n (-1) t.way = true
  p : (t.hop = (t.way.length : Int) ∧ t.pos = 0) ∨ (0 ≤ t.hop ∧ t.hop < (t.way.length : Int) ∧ 0 ≤ t.pos ∧ t.pos ≤ tCap n (t.way.getD t.hop.toNat (0, false)))
theorem tolV_iff (n : Net) (t : Tol) : tolV n t = true ↔ TolOk n t := by
  unfold tolV
  by_cases a1 : (t.way.length : Int) < 1
  · rw [decide_eq_true a1, if_pos rfl, if_pos rfl]
    exact ⟨fun h => (by cases h), fun h => by have := h.l; omega⟩
  by_cases a2 : (32 : Int) < t.way.length
  · rw [decide_eq_false a1, if_neg Bool.false_ne_true, decide_eq_true a2, if_pos rfl]
    exact ⟨fun h => (by cases h), fun h => by have := h.l; omega⟩
  rw [decide_eq_false a1, if_neg Bool.false_ne_true, decide_eq_false a2, if_neg Bool.false_ne_true]
  cases a3 : chnB n (-1) t.way with
  | false =>
    rw [if_neg Bool.false_ne_true]
    exact ⟨fun h => (by cases h), fun h => by have := h.ch; rw [a3] at this; cases this⟩
  | true =>
    rw [if_pos rfl]
    unfold posB
    constructor
    · intro h
      refine ⟨by omega, a3, ?_⟩
      split at h
      · rename_i h3
        exact .inl ⟨by simpa using h3, by simpa using h⟩
      · split at h
        · rename_i h4
          split at h
          · rename_i h5
            split at h
            · rename_i h6
              exact .inr ⟨by simpa using h4, by simpa using h5, by simpa using h6, by simpa using h⟩
            · cases h
          · cases h
        · cases h
    · rintro ⟨h1, h2, h3⟩
      rcases h3 with ⟨h3, h4⟩ | ⟨h3, h4, h5, h6⟩
      · rw [if_pos (by simpa using h3)]; simpa using h4
      · rw [if_neg (by simp; omega), if_pos (by simpa using h3), if_pos (by simpa using h4), if_pos (by simpa using h5)]
        simpa using h6
theorem chn_in {n : Net} : ∀ {l : List (Int × Bool)} {a : Int}, chnB n a l = true → ∀ h ∈ l, 0 ≤ h.1 ∧ h.1 < n.segs.length
  | [], a, _, h, hh => by cases hh
  | x :: l, a, hc, h, hh => by
    unfold chnB at hc
    cases hu : tUnk n x with
    | true => rw [hu, if_pos rfl] at hc; cases hc
    | false =>
      rw [hu, if_neg Bool.false_ne_true] at hc
      generalize (if decide (0 ≤ a) = true then a != (tEnds n x).1 else false) = g at hc
      cases g with
      | true => rw [if_pos rfl] at hc; cases hc
      | false =>
        rw [if_neg Bool.false_ne_true] at hc
        rcases List.mem_cons.1 hh with rfl | hh
        · unfold tUnk at hu
          split at hu
          · cases hu
          · rename_i h1; simp at h1 hu; omega
        · exact chn_in hc h hh
theorem way_get {t : Tol} {j : Nat} (h : j < t.way.length) : t.way.getD j (0, false) = t.way[j] := by rw [List.getD_eq_getElem?_getD, List.getElem?_eq_getElem h]; rfl
theorem TolOk.at' {n : Net} {t : Tol} (h : TolOk n t) (hn : ¬ t.hop = (t.way.length : Int)) : 0 ≤ t.hop ∧ t.hop < (t.way.length : Int) ∧ 0 ≤ t.pos ∧ t.pos ≤ tCap n (t.way.getD t.hop.toNat (0, false)) := by
  rcases h.p with h1 | h1
  · exact absurd h1.1 hn
  · exact h1
theorem cap_nn {n : Net} (hv : NetV n) (h : Int × Bool) : 0 ≤ tCap n h := by
  unfold tCap
  split
  · rename_i s hs
    have := (hv.se s (List.mem_of_getElem? hs)).2.2.2
    omega
  · omega
theorem TolOk.mov {n : Net} {t : Tol} (hv : NetV n) (p : Pln) (h : TolOk n t) : TolOk n (mov1 n p t) := by
  refine ⟨by rw [mov1_way]; exact h.l, by rw [mov1_way]; exact h.ch, ?_⟩
  rw [mov1_way]
  unfold mov1
  split
  · exact h.p
  · rename_i h1
    have h1' : ¬ t.hop = (t.way.length : Int) := by simpa using h1
    obtain ⟨q1, q2, q3, q4⟩ := h.at' h1'
    split
    · dsimp only
      by_cases e : t.hop + 1 = (t.way.length : Int)
      · exact .inl ⟨e, rfl⟩
      · exact .inr ⟨by omega, by omega, Int.le_refl _, cap_nn hv _⟩
    · rename_i h2
      refine .inr ⟨q1, q2, ?_, ?_⟩
      · exact pos0_nn _
      · simpa using h2
theorem TolOk.movK {n : Net} {p : Pln} (hv : NetV n) : ∀ (k : Nat) {t : Tol}, TolOk n t → TolOk n (movK n p k t)
  | 0, t, h => h
  | k + 1, t, h => TolOk.movK hv k (h.mov hv p)
end Go.Proofs.Ytkjibmfggeibjaa
