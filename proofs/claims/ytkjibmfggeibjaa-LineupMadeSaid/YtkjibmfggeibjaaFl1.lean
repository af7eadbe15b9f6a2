
/- Plans and flows: plain laws. -/
import Derived.Test.YtkjibmfggeibjaaNkOk
namespace Go.Proofs.Ytkjibmfggeibjaa
open Go
set_option linter.unusedVariables false
set_option linter.unusedSimpArgs false
set_option maxRecDepth 100000

structure Pln where
  rates : List Int
  ports : List Int
  pumps : List Bool
def bRow (b : Bool) : List D := [db b]
def plnD (p : Pln) : List D := [.sl (p.rates.map iRow), .sl (p.ports.map iRow), .sl (p.pumps.map bRow)]
def Pln.enc (p : Pln) : D := .agg (plnD p)
theorem intOf1_row (k : Int) : intOf1 (iRow k) = some k := rfl
theorem intOf1_eq {r : List D} {k : Int} (h : intOf1 r = some k) : r = iRow k := by
  unfold intOf1 at h
  split at h
  · cases h; rfl
  · cases h
def boolOf1 : List D → Option Bool
  | [.v (.bool b)] => some b
  | _ => Option.none
theorem boolOf1_row (b : Bool) : boolOf1 (bRow b) = some b := rfl
theorem boolOf1_eq {r : List D} {b : Bool} (h : boolOf1 r = some b) : r = bRow b := by
  unfold boolOf1 at h
  split at h
  · cases h; rfl
  · cases h
def plnOf1 : List D → Option Pln
  | [.sl a, .sl b, .sl c] => match lsOf intOf1 a, lsOf intOf1 b, lsOf boolOf1 c with
    | some x, some y, some z => some ⟨x, y, z⟩
    | _, _, _ => Option.none
  | _ => Option.none
theorem plnOf1_row (p : Pln) : plnOf1 (plnD p) = some p := by
  unfold plnD plnOf1
  simp only [lsOf_map intOf1_row, lsOf_map boolOf1_row]
theorem plnOf1_eq {r : List D} {p : Pln} (h : plnOf1 r = some p) : r = plnD p := by
  unfold plnOf1 at h
  split at h
  · split at h
    · rename_i e1 e2 e3
      cases h
      rw [lsOf_eq (fun r x => intOf1_eq) e1, lsOf_eq (fun r x => intOf1_eq) e2, lsOf_eq (fun r x => boolOf1_eq) e3]
      rfl
    · cases h
  · cases h
/-- Sums. -/
def sumI {α : Type} (f : α → Int) : List α → Int
  | [] => 0
  | x :: l => f x + sumI f l
theorem sumI_app {α : Type} (f : α → Int) : ∀ (l m : List α), sumI f (l ++ m) = sumI f l + sumI f m
  | [], m => by simp [sumI]
  | x :: l, m => by rw [List.cons_append, sumI, sumI, sumI_app f l m]; omega
theorem sumI_snoc {α : Type} (f : α → Int) (l : List α) (x : α) : sumI f (l ++ [x]) = sumI f l + f x := by rw [sumI_app]; simp [sumI]
theorem sumI_sub {α : Type} (f g : α → Int) : ∀ (l : List α), sumI f l - sumI g l = sumI (fun x => f x - g x) l
  | [] => rfl
  | x :: l => by have := sumI_sub f g l; simp only [sumI]; omega
theorem sumI_add {α : Type} (f g : α → Int) : ∀ (l : List α), sumI f l + sumI g l = sumI (fun x => f x + g x) l
  | [] => rfl
  | x :: l => by have := sumI_add f g l; simp only [sumI]; omega
theorem sumI_neg {α : Type} (f : α → Int) : ∀ (l : List α), sumI (fun x => - f x) l = - sumI f l
  | [] => rfl
  | x :: l => by have := sumI_neg f l; simp only [sumI]; omega
theorem sumI_congr {α : Type} {f g : α → Int} : ∀ {l : List α}, (∀ x ∈ l, f x = g x) → sumI f l = sumI g l
  | [], _ => rfl
  | x :: l, h => by rw [sumI, sumI, h x (List.mem_cons_self ..), sumI_congr fun y hy => h y (List.mem_cons_of_mem _ hy)]
theorem sumI_zero {α : Type} {f : α → Int} : ∀ {l : List α}, (∀ x ∈ l, f x = 0) → sumI f l = 0
  | [], _ => rfl
  | x :: l, h => by rw [sumI, h x (List.mem_cons_self ..), sumI_zero fun y hy => h y (List.mem_cons_of_mem _ hy)]; rfl
theorem sumI_nn {α : Type} {f : α → Int} : ∀ {l : List α}, (∀ x ∈ l, 0 ≤ f x) → 0 ≤ sumI f l
  | [], _ => by simp [sumI]
  | x :: l, h => by have a := h x (List.mem_cons_self ..); have b := sumI_nn fun y hy => h y (List.mem_cons_of_mem x hy); rw [sumI]; omega
theorem sumI_le {α : Type} {f : α → Int} (b : Int) : ∀ {l : List α}, (∀ x ∈ l, f x ≤ b) → sumI f l ≤ b * l.length
  | [], _ => by simp [sumI]
  | x :: l, h => by have a := h x (List.mem_cons_self ..); have c := sumI_le b fun y hy => h y (List.mem_cons_of_mem x hy); rw [sumI, List.length_cons, Int.natCast_add, Int.mul_add]; omega
theorem sumI_map {α β : Type} (f : β → Int) (g : α → β) : ∀ (l : List α), sumI f (l.map g) = sumI (fun x => f (g x)) l
  | [] => rfl
  | x :: l => by rw [List.map_cons, sumI, sumI, sumI_map f g l]
/-- A sum over sums. -/
theorem sumI_swap {α β : Type} (f : α → β → Int) (l : List α) : ∀ (m : List β), sumI (fun y => sumI (fun x => f x y) l) m = sumI (fun x => sumI (f x) m) l
  | [] => by simp only [sumI]; exact (sumI_zero fun _ _ => rfl).symm
  | y :: m => by simp only [sumI]; rw [sumI_swap f l m, sumI_add]
/-- What flows: from where, to where, how much. -/
abbrev Fl := Int × Int × Int
def segFl (s : Seg) (r : Int) : Fl := (s.fr, s.to, r)
def portFl (x : Port) (r : Int) : Fl := (-1, x.node, r)
def flowsOf (n : Net) (p : Pln) : List Fl := List.zipWith segFl n.segs p.rates ++ List.zipWith portFl n.ports p.ports
def comeOf (v : Int) (t : Fl) : Int := if t.2.2 < 0 then (if t.1 = v then -t.2.2 else 0) else (if t.2.1 = v then t.2.2 else 0)
def leaveOf (v : Int) (t : Fl) : Int := if t.2.2 < 0 then (if t.2.1 = v then -t.2.2 else 0) else (if t.1 = v then t.2.2 else 0)
def netOf (v : Int) (t : Fl) : Int := (if t.2.1 = v then t.2.2 else 0) - (if t.1 = v then t.2.2 else 0)
theorem come_leave (v : Int) (t : Fl) : comeOf v t - leaveOf v t = netOf v t := by
  unfold comeOf leaveOf netOf
  split <;> split <;> split <;> omega
theorem come_nn (v : Int) (t : Fl) : 0 ≤ comeOf v t := by unfold comeOf; split <;> split <;> omega
theorem leave_nn (v : Int) (t : Fl) : 0 ≤ leaveOf v t := by unfold leaveOf; split <;> split <;> omega
theorem come_le {v : Int} {t : Fl} (h : -1000 ≤ t.2.2 ∧ t.2.2 ≤ 1000) : comeOf v t ≤ 1000 := by unfold comeOf; split <;> split <;> omega
theorem leave_le {v : Int} {t : Fl} (h : -1000 ≤ t.2.2 ∧ t.2.2 ≤ 1000) : leaveOf v t ≤ 1000 := by unfold leaveOf; split <;> split <;> omega
/-- The amounts at the nodes. -/
def amt (f : Int → Fl → Int) (T : List Fl) : List Int := (List.range 24).map fun v : Nat => sumI (f (v : Int)) T
def amtD (T : List Fl) : List D := (amt comeOf T ++ amt leaveOf T).map di
def Bal (T : List Fl) : Prop := ∀ v : Nat, v < 24 → sumI (netOf (v : Int)) T = 0
theorem bal_iff (T : List Fl) : amt comeOf T = amt leaveOf T ↔ Bal T := by
  unfold amt Bal
  constructor
  · intro h v hv
    have := congrArg (fun l => l[v]?) h
    simp [hv] at this
    have e := sumI_sub (comeOf v) (leaveOf v) T
    rw [sumI_congr fun t _ => come_leave v t] at e
    omega
  · intro h
    refine List.map_congr_left fun v hv => ?_
    have := h v (List.mem_range.1 hv)
    have e := sumI_sub (comeOf v) (leaveOf v) T
    rw [sumI_congr fun t _ => come_leave v t] at e
    omega
/-- The order of flow. -/
def blk (th : List Bool) (k : Nat) (x : Seg × Int) : Bool := if (x.2 == 0) = true then false else if ((if x.2 < 0 then x.1.fr else x.1.to) == (k : Int)) = true then !(th.getD (if x.2 < 0 then x.1.to else x.1.fr).toNat false) else false
def pickB (E : List (Seg × Int)) (th : List Bool) (k : Nat) : Bool := if th.getD k true = true then false else !(E.any (blk th k))
def cntF (th : List Bool) : Nat := th.count false
def ordL (E : List (Seg × Int)) : Nat → List Bool → List Nat → List Nat
  | 0, _, out => out
  | m + 1, th, out => match (List.range th.length).find? (pickB E th) with
    | some k => ordL E m (th.set k true) (out ++ [k])
    | none => out
def ordB (n : Net) (p : Pln) : List Nat := ordL (n.segs.zip p.rates) n.nodes.length (List.replicate n.nodes.length false) []
theorem cntF_set : ∀ (th : List Bool) (k : Nat), th[k]? = some false → cntF (th.set k true) + 1 = cntF th
  | b :: th, 0, h => by simp at h; subst h; simp [cntF]
  | b :: th, k + 1, h => by
    have := cntF_set th k (by simpa using h)
    cases b <;> simp [cntF] at this ⊢ <;> omega
theorem getD_none {th : List Bool} {k : Nat} (h : th.getD k true = false) : th[k]? = some false := by
  rw [List.getD_eq_getElem?_getD] at h
  cases e : th[k]? with
  | none => rw [e] at h; cases h
  | some b => rw [e] at h; exact congrArg some h
theorem cntF_pos {th : List Bool} {k : Nat} (h : th[k]? = some false) : 0 < cntF th := by have := cntF_set th k h; omega
/-- Where nothing ahead can be picked, what stands here is picked. -/
theorem ord_pick {E : List (Seg × Int)} {th : List Bool} {out : List Nat} {k : Nat} (h0 : ∀ j, j < k → pickB E th j = false) (hk : pickB E th k = true) : ordL E (cntF th) th out = ordL E (cntF (th.set k true)) (th.set k true) (out ++ [k]) := by
  have hg : th.getD k true = false := by
    unfold pickB at hk
    split at hk
    · cases hk
    · rename_i h; simpa using h
  have hs := getD_none hg
  have hc := cntF_set th k hs
  have hkl : k < th.length := by
    rcases Nat.lt_or_ge k th.length with h | h
    · exact h
    · rw [List.getElem?_eq_none h] at hs; cases hs
  have hf : (List.range th.length).find? (pickB E th) = some k := by
    rw [List.find?_range_eq_some]
    exact ⟨hk, by simpa using hkl, fun j hj => by rw [h0 j hj]; rfl⟩
  rw [← hc, ordL, hf]
theorem ord_end {E : List (Seg × Int)} {th : List Bool} {out : List Nat} (h0 : ∀ j, j < th.length → pickB E th j = false) : ordL E (cntF th) th out = out := by
  have hf : (List.range th.length).find? (pickB E th) = none := by
    rw [List.find?_eq_none]
    intro j hj
    rw [h0 j (List.mem_range.1 hj)]
    simp
  cases cntF th with
  | zero => rfl
  | succ m => rw [ordL, hf]
end Go.Proofs.Ytkjibmfggeibjaa
