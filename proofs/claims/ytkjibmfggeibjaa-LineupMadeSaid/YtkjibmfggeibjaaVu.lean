
/- Boxes that nobody writes any more; functions that look through slices with a function. -/
import Derived.Test.YtkjibmfggeibjaaVt
namespace Go.Proofs.Ytkjibmfggeibjaa
open Go
set_option linter.unusedVariables false
set_option linter.unusedSimpArgs false

/-- A box that nobody writes any more is plain data. -/
theorem weak_ip {J : List Nm} {F : Fr} {H : Hp} (t : Nat) (i : Nm) (g sz : Nat) (row : List D) (h : F t = .ptr i g 0 0) (hi : H i = some ⟨g, sz, [row]⟩) (hp : ∀ d ∈ row, d.plain = true) (hJ : i ∉ J) : Weak J ⟨F, H⟩ ⟨putF F (some t) (.ip row), H.kills [i]⟩ := by
  intro E hE Im p a w hR
  obtain ⟨Im1, g1, r1, x1, b1⟩ := kills_spec (E := E) (w := w) [i] Im H hR.hp hR.en
  refine ⟨Im1, p, hR.sz, fun k => ?_, r1, x1, hR.gr.trans g1, hR.df⟩
  dsimp only [putF]
  by_cases hk : k = t
  · subst hk
    rw [if_pos rfl]
    have r := hR.fr k
    dsimp only at r
    rw [h] at r
    obtain ⟨c, tt, k1, k2, k3⟩ := hR.hp.cell i _ hi (by simp)
    dsimp only at k1 k3
    have hl : row.length = sz := k3.len row (List.mem_cons_self ..)
    cases r with
    | p r => cases r
    | ptr _ _ _ _ x h1 e hH hg hx =>
      rw [hi] at hH
      cases hH
      rw [hx rfl]
      have key : ∀ j (hj : j < row.length), ∃ u, hc w.heap (p i).1 ((p i).2 + j) = some u ∧ one u = true ∧ ∀ d, row[j]? = some d → RelP Im w.heap d u := fun j hj => by
        obtain ⟨u, u1, u2, u3⟩ := k3.cell 0 j row row[j] rfl (List.getElem?_eq_getElem hj)
        refine ⟨u, ?_, u3, fun d hd => ?_⟩
        · unfold hc
          rw [k1]
          dsimp only
          rw [← u1]
          congr 1
          omega
        · rw [List.getElem?_eq_getElem hj] at hd
          cases hd
          exact u2.plain (hp _ (List.getElem_mem hj))
      rw [show (p i).2 + 0 * sz + 0 = (p i).2 by omega]
      refine .ip row _ _ (fun j => (hc w.heap (p i).1 ((p i).2 + j)).getD undef) (b1 i (List.mem_cons_self ..) _ hi (by simp)) (fun j hj => ?_) (fun j d hd => ?_)
      · obtain ⟨u, u1, u2, _⟩ := key j hj
        rw [u1]
        exact ⟨rfl, u2⟩
      · have hj : j < row.length := by
          rcases Nat.lt_or_ge j row.length with h | h
          · exact h
          · rw [List.getElem?_eq_none h] at hd; cases hd
        obtain ⟨u, u1, _, u3⟩ := key j hj
        rw [u1]
        exact (u3 d hd).mono g1.im g1.blk
  · rw [if_neg hk]
    exact (hR.fr k).mono g1
/-- Boxes as plain data. -/
abbrev ips (l : List (List D)) : List D := l.map D.ip
theorem ips_nms : ∀ (l : List (List D)), nmsL (ips l) = []
  | [] => rfl
  | r :: l => by
    show nmsL (D.ip r :: ips l) = []
    rw [nmsL, ips_nms l]; rfl
theorem ips_lend (H : Hp) : ∀ (l : List (List D)), (ips l).map (lend H) = ips l
  | [] => rfl
  | r :: l => by
    show lend H (D.ip r) :: (ips l).map (lend H) = D.ip r :: ips l
    rw [ips_lend H l]; rfl
theorem ips_lendNm (H : Hp) : ∀ (l : List (List D)), (ips l).flatMap (lendNm H) = []
  | [] => rfl
  | r :: l => by
    show lendNm H (D.ip r) ++ (ips l).flatMap (lendNm H) = []
    rw [ips_lendNm H l]; rfl
theorem ips_ok (H : Hp) : ∀ (l : List (List D)), lendOkL' H (ips l) = True
  | [] => rfl
  | r :: l => by
    show (lendOk H (D.ip r) ∧ lendOkL' H (ips l)) = True
    rw [ips_ok H l]; simp [lendOk, lendOk1]
theorem ips_refs (js : List Nm) : ∀ (l : List (List D)), refsInL js (ips l) = true
  | [] => rfl
  | r :: l => by
    show (D.refsIn js (D.ip r) && refsInL js (ips l)) = true
    rw [ips_refs js l]; simp [D.refsIn]
/-- An element of a slice as a value. -/
def elV (ag : Bool) (row : List D) : D := if ag = true then .agg row else row.getD 0 .any
/-- Cells that a call hands on as they are. -/
def D.done : D → Bool
  | .v _ => true
  | .any => true
  | .sl _ => true
  | _ => false
def doneL : List D → Bool
  | [] => true
  | d :: ds => d.done && doneL ds
theorem doneL_mem : ∀ {r : List D}, doneL r = true → ∀ d ∈ r, d.done = true
  | d :: ds, h, x, hx => by
    rw [doneL, Bool.and_eq_true] at h
    cases hx with
    | head => exact h.1
    | tail _ hx => exact doneL_mem h.2 x hx
theorem done1 (H : Hp) (js : List Nm) {d : D} (h : d.done = true) : lend1 H d = d ∧ lend H d = d ∧ lendNm1 H d = [] ∧ lendNm H d = [] ∧ lendOk1 H d = True ∧ lendOk H d = True ∧ d.nms = [] ∧ d.refsIn js = true ∧ d.plain = true := by
  cases d <;> first | (simp [lend1, lend, lendNm1, lendNm, lendOk1, lendOk, D.nms, D.refsIn, D.plain]; done) | (simp [D.done] at h)
theorem doneR (H : Hp) (js : List Nm) : ∀ {r : List D}, doneL r = true → r.map (lend1 H) = r ∧ r.flatMap (lendNm1 H) = [] ∧ lendOkL H r = True ∧ nmsL r = [] ∧ refsInL js r = true
  | [], _ => ⟨rfl, rfl, rfl, rfl, by simp [refsInL]⟩
  | d :: ds, h => by
    rw [doneL, Bool.and_eq_true] at h
    obtain ⟨a1, _, a2, _, a3, _, a4, a5, _⟩ := done1 H js h.1
    obtain ⟨b1, b2, b3, b4, b5⟩ := doneR H js h.2
    refine ⟨by rw [List.map_cons, a1, b1], by rw [List.flatMap_cons, a2, b2]; rfl, ?_, by rw [nmsL, a4, b4]; rfl, by rw [refsInL, a5, b5]; rfl⟩
    rw [lendOkL, a3, b3]; simp
/-- The first index at which a row has a property. -/
def idxOf (q : List D → Bool) : Int → List (List D) → Int
  | _, [] => -1
  | k, r :: l => if q r = true then k else idxOf q (k + 1) l
theorem idxOf_any (q : List D → Bool) : ∀ (l : List (List D)) (k : Int), 0 ≤ k → (0 ≤ idxOf q k l ↔ l.any q = true)
  | [], k, h => by simp [idxOf]
  | r :: l, k, h => by
    unfold idxOf
    split
    · rename_i hq; simp [hq, h]
    · rename_i hq; rw [idxOf_any q l (k + 1) (by omega)]; simp [hq]
theorem idxOf_drop (q : List D → Bool) (l : List (List D)) (k : Nat) (r : List D) (h : l[k]? = some r) : idxOf q k (l.drop k) = if q r = true then (k : Int) else idxOf q (k + 1 : Nat) (l.drop (k + 1)) := by
  obtain ⟨hk, he⟩ := List.getElem?_eq_some_iff.1 h
  rw [List.drop_eq_getElem_cons hk, he]
  rfl
/-- A row for a function that is called by its number, with a value and boxes. -/
def rowQ (P : Program) (g : FuncId) (q : D → Bool) : List D → Hp → Nm → Option (Prop × (D → Hp → Prop)) := fun args Hs nn =>
  match args with
  | el :: rest => some (Hs = Hp.none ∧ CallsA P g (el :: rest) Hp.none nn (Pu (db (q el)) Hp.none), Pu (db (q el)) Hp.none)
  | [] => Option.none
theorem tc_q {P : Program} {g : FuncId} {q : D → Bool} {T : Tbl} (hf : fnOk P g = true) (hT : TblOk P T) : TblOk P (tc g (rowQ P g q) T) :=
  tc_row hf (fun args Hs nn pre R hr hp => by
    unfold rowQ at hr
    split at hr
    · cases hr
      obtain ⟨rfl, hp⟩ := hp
      exact ⟨⟨_, Hp.none, rfl, rfl⟩, hp⟩
    · cases hr) hT
/-- What a function asks that looks through a slice with a function. -/
def QOk (P : Program) (ag : Bool) (sz : Nat) (q : D → Bool) (g : FuncId) (l : List (List D)) (rows : List (List D)) : Prop :=
  fnOk P g = true ∧ (rows.length : Int) ≤ 4611686018427387904 ∧ ∀ r ∈ rows, r.length = sz ∧ doneL r = true ∧ (ag = false → ∃ y, r = [.v y]) ∧ ∀ nn, CallsA P g (elV ag r :: ips l) Hp.none nn (Pu (db (q (elV ag r))) Hp.none)
def ipsOf : List D → Option (List (List D))
  | [] => some []
  | .ip r :: l => match ipsOf l with
    | some ls => some (r :: ls)
    | Option.none => Option.none
  | _ => Option.none
theorem ipsOf_eq : ∀ {l : List D} {ls : List (List D)}, ipsOf l = some ls → l = ips ls
  | [], ls, h => by rw [ipsOf] at h; cases h; rfl
  | d :: l, ls, h => by
    cases d <;> rw [ipsOf] at h <;> try cases h
    split at h
    · rename_i ms hm
      cases h
      rw [ipsOf_eq hm]
      rfl
    · cases h
/-- Rows of tables for such functions. -/
def selQ (P : Program) (ag : Bool) (sz : Nat) (q : FuncId → List (List D) → D → Bool) (out : (List D → Bool) → List (List D) → D) : List D → Option (Prop × D)
  | [.sl rows, .clo g [] cs] => match ipsOf cs with
    | some l => some (QOk P ag sz (q g l) g l rows, out (fun r => q g l (elV ag r)) rows)
    | Option.none => Option.none
  | _ => Option.none
end Go.Proofs.Ytkjibmfggeibjaa
