/- PackSections: Nm CodeB Gen1 Gen2 Gen3 Gen4 Gen5 Nk1 Nk2 Nk3 Nk4 Nk5 Nk6 Nk7 CmL CodeCM CmB CmC CmP. -/
import Derived.Test.YtehmmnnmkapfeaaDoorCs4
import Derived.Test.YtehmmnnmkapfeaaDoorCs3
import Derived.Test.YtehmmnnmkapfeaaDoorProg
set_option linter.unusedSimpArgs false
set_option linter.unusedVariables false
set_option maxRecDepth 100000

/- Names: lines.Name and ref03.Name. -/
namespace Go.Proofs.YtehmmnnmkapfeaaDoor
open Go
def placeI (c : Int) : Int := if 97 ≤ c ∧ c ≤ 122 then 1 else if 48 ≤ c ∧ c ≤ 57 then 2 else if c = 45 then 2 else 0
def byteI (s : ByteArray) (k : Nat) : Int := (s.data.getD k 0).toNat
def bytesI (s : ByteArray) : List Int := (List.range s.size).map (byteI s)
def nameB (s : ByteArray) : Bool := if s.size < 1 then false else if 12 < s.size then false else if placeI (byteI s 0) = 1 then (bytesI s).all (fun c => decide (placeI c ≠ 0)) else false
theorem bytesI_len (s : ByteArray) : (bytesI s).length = s.size := by simp [bytesI]
theorem bytesI_at (s : ByteArray) {j : Nat} (h : j < (bytesI s).length) : (bytesI s)[j] = byteI s j := by simp [bytesI]
set_option maxHeartbeats 4000000 in
theorem place_c (c : Int) (nn : Nm) : CallsA Tryd.prog 137 [.v (.int .u8 c)] Hp.none nn (Pu (di (placeI c)) Hp.none) := by
  obtain ⟨code, h1, h2⟩ := c137_ok
  refine callsA_of (T0_ok _) mixed (N := fun t => (0, t)) Tryd.func137 h1 h2 r137_ok [] false js_nil js_nil' (by simp [Tryd.f137]) ?_
  by_cases a1 : 97 ≤ c
  · by_cases a2 : c ≤ 122
    · simp (maxSteps:=500000) only [↓vp, vv, ↓reduceIte, simprocAttr, c137, r137, c137_1, c137_2, c137_3, c137_4, c137_5, c137_6, a1, a2, placeI, Pu, decide_true, decide_false]
    · have a3 : ¬ c ≤ 57 := by omega
      have a4 : 48 ≤ c := by omega
      have a5 : (c == 45) = false := beq_false_of_ne (by omega)
      have a6 : ¬ c = 45 := by omega
      simp (maxSteps:=500000) only [↓vp, vv, ↓reduceIte, simprocAttr, c137, r137, c137_1, c137_2, c137_3, c137_4, c137_5, c137_6, a1, a2, a3, a4, a5, a6, placeI, Pu, decide_true, decide_false]
  · by_cases a2 : 48 ≤ c
    · by_cases a3 : c ≤ 57
      · simp (maxSteps:=500000) only [↓vp, vv, ↓reduceIte, simprocAttr, c137, r137, c137_1, c137_2, c137_3, c137_4, c137_5, c137_6, a1, a2, a3, placeI, Pu, decide_true, decide_false]
      · have a5 : (c == 45) = false := beq_false_of_ne (by omega)
        have a6 : ¬ c = 45 := by omega
        simp (maxSteps:=500000) only [↓vp, vv, ↓reduceIte, simprocAttr, c137, r137, c137_1, c137_2, c137_3, c137_4, c137_5, c137_6, a1, a2, a3, a5, a6, placeI, Pu, decide_true, decide_false]
    · by_cases a5 : c = 45
      · have a6 : (c == 45) = true := beq_iff_eq.2 a5
        simp (maxSteps:=500000) only [↓vp, vv, ↓reduceIte, simprocAttr, c137, r137, c137_1, c137_2, c137_3, c137_4, c137_5, c137_6, a1, a2, a5, a6, placeI, Pu, decide_true, decide_false]
      · have a6 : (c == 45) = false := beq_false_of_ne a5
        simp (maxSteps:=500000) only [↓vp, vv, ↓reduceIte, simprocAttr, c137, r137, c137_1, c137_2, c137_3, c137_4, c137_5, c137_6, a1, a2, a5, a6, placeI, Pu, decide_true, decide_false]
def selPlace : List D → Option (Prop × D)
  | [.v (.int .u8 c)] => some (True, di (placeI c))
  | _ => Option.none
def TP : Tbl := tc 137 (rowPu selPlace) T0
theorem TP_ok : TblOk Tryd.prog TP := by
  refine tc_pu f137_ok (fun args pre d h hp nn => ?_) (T0_ok _)
  unfold selPlace at h
  split at h <;> cases h
  exact place_c _ nn
theorem byteI_eq (s : ByteArray) (k : Nat) : ((s.data.getD k 0).toNat : Int) = byteI s k := rfl
set_option maxHeartbeats 4000000 in
theorem lname_c (s : ByteArray) (nn : Nm) : CallsA Tryd.prog 113 [ds s] Hp.none nn (Pu (db (nameB s)) Hp.none) := by
  obtain ⟨code, h1, h2⟩ := c113_ok
  refine callsA_of TP_ok mixed (N := fun t => (0, t)) Tryd.func113 h1 h2 r113_ok [] false js_nil js_nil' (by simp [Tryd.f113]) ?_
  by_cases a1 : (s.size : Int) < 1
  · have b1 : s.size < 1 := by omega
    simp (maxSteps:=500000) only [↓vp, vv, ↓reduceIte, simprocAttr, c113, r113, c113_1, c113_2, c113_3, c113_4, c113_5, a1, b1, nameB, Pu, decide_true, decide_false]
  · by_cases a2 : (12 : Int) < s.size
    · have b1 : ¬ s.size < 1 := by omega
      have b2 : 12 < s.size := by omega
      simp (maxSteps:=500000) only [↓vp, vv, ↓reduceIte, simprocAttr, c113, r113, c113_1, c113_2, c113_3, c113_4, c113_5, a1, a2, b1, b2, nameB, Pu, decide_true, decide_false]
    · have b1 : ¬ s.size < 1 := by omega
      have b2 : ¬ 12 < s.size := by omega
      have b3 : (0 : Int) < s.size := by omega
      by_cases a3 : placeI (byteI s 0) = 1
      · have e0 : nameB s = (bytesI s).all (fun c => decide (placeI c ≠ 0)) := by unfold nameB; rw [if_neg b1, if_neg b2, if_pos a3]
        rw [e0]
        generalize hb : (bytesI s).all (fun c => decide (placeI c ≠ 0)) = b
        simp (maxSteps:=500000) only [↓vp, vv, ↓reduceIte, simprocAttr, c113, c113_5, TP, selPlace, a1, a2, a3, b3, byteI_eq, bne_self_eq_false, decide_true, decide_false]
        refine rng_loop s.size (fun j => ⟨fr [(0, ds s), (19, di s.size), (20, di j)], Hp.none⟩) (fun j => ((bytesI s).drop j).all (fun c => decide (placeI c ≠ 0)) = b) (weak0 (by simp (maxSteps:=500000) only [↓vp, vv, ↓reduceIte, simprocAttr, coverS]) (by simp (maxSteps:=500000) only [↓vp, vv, ↓reduceIte, simprocAttr, refsF])) hb (fun j hj he => ?_) (fun he => ?_)
        · have hj' : (j : Int) < s.size := by omega
          have hn := idx_nn j
          have w1 := idx_next (j := j) (by omega)
          obtain ⟨hf, ht⟩ := drop_all (by rw [bytesI_len]; exact hj) he
          rw [bytesI_at] at hf ht
          by_cases a4 : placeI (byteI s j) = 0
          · have e5 : b = false := hf (by simp [a4])
            subst e5
            simp (maxSteps:=500000) only [↓vp, vv, ↓reduceIte, simprocAttr, c113, r113, c113_1, c113_2, c113_3, c113_4, c113_5, TP, selPlace, hj', hn, Int.toNat_natCast, byteI_eq, a4, w1, Pu, decide_true, decide_false]
          · have a5 : (placeI (byteI s j) == 0) = false := beq_false_of_ne a4
            simp (maxSteps:=500000) only [↓vp, vv, ↓reduceIte, simprocAttr, c113, r113, c113_1, c113_2, c113_3, c113_4, c113_5, TP, selPlace, hj', hn, Int.toNat_natCast, byteI_eq, a5, w1, decide_true, decide_false]
            exact rng_next hj (weak0 (by simp (maxSteps:=500000) only [↓vp, vv, ↓reduceIte, simprocAttr, coverS, w1]) (by simp (maxSteps:=500000) only [↓vp, vv, ↓reduceIte, simprocAttr, refsF])) (ht (by simp [a4]))
        · have e5 : b = true := drop_all_end (by rw [bytesI_len]; exact he)
          subst e5
          simp (maxSteps:=500000) only [↓vp, vv, ↓reduceIte, simprocAttr, c113, r113, c113_1, c113_2, c113_3, c113_4, c113_5, TP, selPlace, Int.lt_irrefl, Pu, decide_true, decide_false]
      · have a5 : (placeI (byteI s 0) != 1) = true := by simp [a3]
        simp (maxSteps:=500000) only [↓vp, vv, ↓reduceIte, simprocAttr, c113, r113, c113_1, c113_2, c113_3, c113_4, c113_5, TP, selPlace, a1, a2, a3, a5, b1, b2, b3, byteI_eq, nameB, Pu, decide_true, decide_false]
end Go.Proofs.YtehmmnnmkapfeaaDoor

/- The source of numbers: small functions. -/
namespace Go.Proofs.YtehmmnnmkapfeaaDoor
open Go
theorem getD_map {α : Type} (g : α → List D) (l : List α) (k : Nat) (h : k < l.length) : (l.map g).getD k [] = g l[k] := by
  rw [List.getD_eq_getElem?_getD, List.getElem?_map, List.getElem?_eq_getElem h]; rfl
def nm1B (f : ByteArray) (n : Int) : ByteArray := f ++ strOf [IntKind.u8.wrap (IntKind.i64.wrap (97 + n.tmod 26))]
structure Pt where
  at' : Int
  height : Int
  limit : Int
def Pt.row (p : Pt) : List D := [di p.at', di p.height, di p.limit]
structure Seg where
  name : ByteArray
  fr : Int
  to : Int
  cap : Int
  resist : Int
  wave : Int
  points : List Pt
def Seg.row (s : Seg) : List D := [ds s.name, di s.fr, di s.to, di s.cap, di s.resist, di s.wave, .sl (s.points.map Pt.row)]
def Seg.enc (s : Seg) : D := .agg s.row
structure PtsOk (cap lim atv : Int) (pts : List Pt) : Prop where
  asc : pts.Pairwise (fun a b => a.at' < b.at')
  le : ∀ p ∈ pts, p.at' ≤ atv ∧ -500 ≤ p.height ∧ p.height ≤ 5000 ∧ 0 ≤ p.limit ∧ p.limit ≤ 100000000
  hd : pts.head?.map (·.at') = some 0
  lo : 0 ≤ atv
  hi : atv < cap
theorem PtsOk.more {cap lim atv : Int} {pts : List Pt} (h : PtsOk cap lim atv pts) (x : Int) (hx : atv < x) (hc : x < cap) (z l : Int) (hz : -500 ≤ z ∧ z ≤ 5000) (hl : 0 ≤ l ∧ l ≤ 100000000) : PtsOk cap lim x (pts ++ [⟨x, z, l⟩]) := by
  refine ⟨List.pairwise_append.2 ⟨h.asc, List.pairwise_singleton _ _, fun a ha b hb => ?_⟩, fun p hp => ?_, ?_, by have := h.lo; omega, hc⟩
  · rw [List.mem_singleton.1 hb]
    have := (h.le a ha).1
    dsimp only; omega
  · rcases List.mem_append.1 hp with hp | hp
    · have := h.le p hp; omega
    · rw [List.mem_singleton.1 hp]
      dsimp only; omega
  · cases pts with
    | nil => have := h.hd; cases this
    | cons p ps => exact h.hd
structure PtsEnd (cap : Int) (pts : List Pt) : Prop where
  asc : pts.Pairwise (fun a b => a.at' < b.at')
  le : ∀ p ∈ pts, -500 ≤ p.height ∧ p.height ≤ 5000 ∧ 0 ≤ p.limit ∧ p.limit ≤ 100000000
  hd : pts.head?.map (·.at') = some 0
  last : pts.getLast?.map (·.at') = some cap
theorem PtsOk.fin {cap lim atv : Int} {pts : List Pt} (h : PtsOk cap lim atv pts) (z l : Int) (hz : -500 ≤ z ∧ z ≤ 5000) (hl : 0 ≤ l ∧ l ≤ 100000000) : PtsEnd cap (pts ++ [⟨cap, z, l⟩]) := by
  refine ⟨List.pairwise_append.2 ⟨h.asc, List.pairwise_singleton _ _, fun a ha b hb => ?_⟩, fun p hp => ?_, ?_, by simp⟩
  · rw [List.mem_singleton.1 hb]
    have := (h.le a ha).1
    have := h.hi
    dsimp only; omega
  · rcases List.mem_append.1 hp with hp | hp
    · have := h.le p hp; omega
    · rw [List.mem_singleton.1 hp]
      dsimp only; omega
  · cases pts with
    | nil => have := h.hd; cases this
    | cons p ps => exact h.hd
structure Port where
  name : ByteArray
  node : Int
  press : Int
def Port.row (p : Port) : List D := [ds p.name, di p.node, di p.press]
structure Stn where
  name : ByteArray
  node : Int
  head : Int
  fall : Int
  suct : Int
def Stn.row (s : Stn) : List D := [ds s.name, di s.node, di s.head, di s.fall, di s.suct]
structure Net where
  nodes : List ByteArray
  segs : List Seg
  ports : List Port
  sts : List Stn
  vap : Int
  set : Int
def nmRow (s : ByteArray) : List D := [ds s]
def Net.enc (n : Net) : D := .agg [.sl (n.nodes.map nmRow), .sl (n.segs.map Seg.row), .sl (n.ports.map Port.row), .sl (n.sts.map Stn.row), di n.vap, di n.set]
def AllI {α : Type} (P : Nat → α → Prop) (l : List α) : Prop := ∀ j x, l[j]? = some x → P j x
theorem AllI.nil {α : Type} (P : Nat → α → Prop) : AllI P [] := fun j x h => by simp at h
theorem AllI.snoc {α : Type} {P : Nat → α → Prop} {l : List α} (h : AllI P l) {x : α} (hx : P l.length x) : AllI P (l ++ [x]) := fun j y hj => by
  rcases Nat.lt_trichotomy j l.length with h1 | h1 | h1
  · rw [List.getElem?_append_left h1] at hj; exact h j y hj
  · subst h1; simp at hj; subst hj; exact hx
  · rw [List.getElem?_eq_none (by simp; omega)] at hj; cases hj
theorem AllI.imp {α : Type} {P Q : Nat → α → Prop} {l : List α} (h : AllI P l) (hq : ∀ j x, P j x → Q j x) : AllI Q l := fun j x hj => hq j x (h j x hj)
def PortAt (i : Int) (j : Nat) (p : Port) : Prop := p.name = nm1B ⟨#[113]⟩ j ∧ 0 ≤ p.node ∧ p.node < i ∧ 0 ≤ p.press ∧ p.press ≤ 100000000
def StnAt (i : Int) (j : Nat) (p : Stn) : Prop := p.name = nm1B ⟨#[115]⟩ j ∧ 0 ≤ p.node ∧ p.node < i ∧ 0 ≤ p.head ∧ p.head ≤ 100000000 ∧ 0 ≤ p.fall ∧ p.fall ≤ 100000 ∧ 0 ≤ p.suct ∧ p.suct ≤ 100000000
structure PortsOk (last i : Int) (l : List Port) : Prop where
  all : AllI (PortAt i) l
  asc : l.Pairwise (fun a b => a.node < b.node)
  hd : 0 < i → l.head?.map (·.node) = some 0
  last : last < i → l.getLast?.map (·.node) = some last
  len : (l.length : Int) ≤ i
structure StnsOk (i : Int) (l : List Stn) : Prop where
  all : AllI (StnAt i) l
  asc : l.Pairwise (fun a b => a.node < b.node)
  len : (l.length : Int) ≤ i
theorem pw_snoc {α : Type} {R : α → α → Prop} {l : List α} (h : l.Pairwise R) {x : α} (hx : ∀ a ∈ l, R a x) : (l ++ [x]).Pairwise R := List.pairwise_append.2 ⟨h, List.pairwise_singleton _ _, fun a ha b hb => by rw [List.mem_singleton.1 hb]; exact hx a ha⟩
theorem AllI.mem {α : Type} {P : Nat → α → Prop} {l : List α} (h : AllI P l) {x : α} (hx : x ∈ l) : ∃ j, P j x := by
  obtain ⟨j, hj⟩ := List.getElem?_of_mem hx
  exact ⟨j, h j x hj⟩
theorem PortsOk.add {last i : Int} {l : List Port} (h : PortsOk last i l) (h0 : 0 ≤ i) (hl : i ≤ last) (pr : Int) (hp : 0 ≤ pr ∧ pr ≤ 100000000) : PortsOk last (i + 1) (l ++ [⟨nm1B ⟨#[113]⟩ l.length, i, pr⟩]) := by
  refine ⟨(h.all.imp fun j x hx => ?_).snoc ?_, pw_snoc h.asc fun a ha => ?_, fun _ => ?_, fun hi => ?_, ?_⟩
  · obtain ⟨a, b, c, d⟩ := hx; exact ⟨a, b, by omega, d⟩
  · exact ⟨rfl, h0, by dsimp only; omega, hp⟩
  · obtain ⟨j, hj⟩ := h.all.mem ha; exact hj.2.2.1
  · cases l with
    | nil =>
      have : i = 0 := by
        rcases Int.lt_or_le 0 i with h1 | h1
        · have := h.hd h1; cases this
        · omega
      subst this; rfl
    | cons p ps =>
      have : 0 < i := by have := h.len; simp at this; omega
      exact h.hd this
  · simp; omega
  · have := h.len; simp; omega
theorem PortsOk.skip {last i : Int} {l : List Port} (h : PortsOk last i l) (h0 : 0 < i) (hl : i < last) : PortsOk last (i + 1) l :=
  ⟨h.all.imp fun j x hx => by obtain ⟨a, b, c, d⟩ := hx; exact ⟨a, b, by omega, d⟩, h.asc, fun _ => h.hd h0, fun hi => by omega, by have := h.len; omega⟩
theorem StnsOk.add {i : Int} {l : List Stn} (h : StnsOk i l) (h0 : 0 ≤ i) (hd fl su : Int) (h1 : 0 ≤ hd ∧ hd ≤ 100000000) (h2 : 0 ≤ fl ∧ fl ≤ 100000) (h3 : 0 ≤ su ∧ su ≤ 100000000) : StnsOk (i + 1) (l ++ [⟨nm1B ⟨#[115]⟩ l.length, i, hd, fl, su⟩]) := by
  refine ⟨(h.all.imp fun j x hx => ?_).snoc ?_, pw_snoc h.asc fun a ha => ?_, ?_⟩
  · obtain ⟨a, b, c, d⟩ := hx; exact ⟨a, b, by omega, d⟩
  · exact ⟨rfl, h0, by dsimp only; omega, h1.1, h1.2, h2.1, h2.2, h3⟩
  · obtain ⟨j, hj⟩ := h.all.mem ha; exact hj.2.2.1
  · have := h.len; simp; omega
theorem StnsOk.skip {i : Int} {l : List Stn} (h : StnsOk i l) : StnsOk (i + 1) l :=
  ⟨h.all.imp fun j x hx => by obtain ⟨a, b, c, d⟩ := hx; exact ⟨a, b, by omega, d⟩, h.asc, by have := h.len; omega⟩
end Go.Proofs.YtehmmnnmkapfeaaDoor

/- Names of the reference; the names of a network. -/
namespace Go.Proofs.YtehmmnnmkapfeaaDoor
open Go
theorem Seg.done (s : Seg) : doneL s.row = true := rfl
theorem Port.done (s : Port) : doneL s.row = true := rfl
theorem Stn.done (s : Stn) : doneL s.row = true := rfl
def qRow {α : Type} (f : List D → Option α) (q : α → Bool) (d : D) : Bool :=
  match d with
  | .agg r => match f r with
    | some x => q x
    | Option.none => false
  | d => match f [d] with
    | some x => q x
    | Option.none => false
def eqS (x y : ByteArray) : Bool := x.toList == y.toList
theorem eqS_self (x : ByteArray) : eqS x x = true := by simp [eqS]
def idxA {α : Type} (q : α → Bool) : Int → List α → Int
  | _, [] => -1
  | k, r :: l => if q r = true then k else idxA q (k + 1) l
theorem idxA_lt {α : Type} (q : α → Bool) : ∀ (l : List α) (k : Int) (i : Nat) (h : i < l.length), 0 ≤ k → q l[i] = true → (idxA q k l < k + i ↔ (l.take i).any q = true)
  | r :: l, k, 0, h, hk, hq => by
    simp at hq
    simp [idxA, hq]
  | r :: l, k, i + 1, h, hk, hq => by
    rw [idxA, List.take_succ_cons, List.any_cons]
    cases hr : q r with
    | true => simp; omega
    | false =>
      have := idxA_lt q l (k + 1) i (by simpa using h) (by omega) (by simpa using hq)
      rw [show k + 1 + (i : Int) = k + (i + 1 : Nat) by omega] at this
      simpa using this
theorem drop_any {α : Type} {p : α → Bool} {l : List α} {j : Nat} {b : Bool} (hj : j < l.length) (he : (l.drop j).any p = b) : (p l[j] = true → b = true) ∧ (p l[j] = false → (l.drop (j + 1)).any p = b) := by
  rw [List.drop_eq_getElem_cons hj, List.any_cons] at he
  exact ⟨fun h => by rw [h] at he; simpa using he.symm, fun h => by rw [h] at he; simpa using he⟩
theorem drop_any_end {α : Type} {p : α → Bool} {l : List α} {n : Nat} {b : Bool} (hn : n = l.length) (he : (l.drop n).any p = b) : b = false := by
  subst hn
  rw [List.drop_of_length_le (Nat.le_refl _)] at he
  exact he.symm
def dupAt {α : Type} (q : α → α → Bool) (l : List α) (i : Nat) : Bool := match l[i]? with
  | some x => (l.take i).any (q x)
  | Option.none => false
def dupB {α : Type} (q : α → α → Bool) (l : List α) : Bool := (List.range l.length).any (dupAt q l)
theorem idxOf_map {α : Type} (g : α → List D) (q : List D → Bool) (q' : α → Bool) (h : ∀ x, q (g x) = q' x) : ∀ (l : List α) (k : Int), idxOf q k (l.map g) = idxA q' k l
  | [], _ => rfl
  | x :: l, k => by rw [List.map_cons, idxOf, idxA, h x, idxOf_map g q q' h l]
theorem dup_at {α : Type} {q : α → α → Bool} {l : List α} {i : Nat} (h : i < l.length) : dupAt q l i = (l.take i).any (q l[i]) := by
  unfold dupAt
  rw [List.getElem?_eq_getElem h]
theorem range_at {n j : Nat} (h : j < (List.range n).length) : (List.range n)[j] = j := by simp
def iRow (k : Int) : List D := [di k]
end Go.Proofs.YtehmmnnmkapfeaaDoor

/- Networks: network.Check. -/
namespace Go.Proofs.YtehmmnnmkapfeaaDoor
open Go
theorem tc_cf {P : Program} {ag : Bool} {sz : Nat} {f : FuncId} {q : FuncId → List (List D) → D → Bool} {T : Tbl} (hf : fnOk P f = true) (h : ∀ (q : D → Bool) (g : FuncId) (l rows : List (List D)), QOk P ag sz q g l rows → ∀ nn, CallsA P f [.sl rows, .clo g [] (ips l)] Hp.none nn (Pu (outC (fun r => q (elV ag r)) rows) Hp.none)) (hT : TblOk P T) : TblOk P (tc f (rowPu (selQ P ag sz q outC)) T) :=
  tc_pu hf (fun args pre d hs hp nn => by
    unfold selQ at hs
    split at hs
    · split at hs
      · rename_i hi
        cases hs
        rw [ipsOf_eq hi]
        exact h _ _ _ _ hp nn
      · cases hs
    · cases hs) hT
theorem ctdiv_pos (a b : Int) (hb : 1 ≤ b) (h : 0 ≤ a.tmod b) : a.tdiv b = a / b ∧ a.tmod b = a % b := by
  have e := Int.tmod_add_mul_tdiv a b
  have l := Int.tmod_lt_of_pos a (show 0 < b by omega)
  have := (Int.ediv_emod_unique (a := a) (b := b) (r := a.tmod b) (q := a.tdiv b) (by omega)).2 ⟨e, h, l⟩
  exact ⟨this.1.symm, this.2.symm⟩
theorem ctdiv_neg (a b : Int) (hb : 1 ≤ b) (h : a.tmod b < 0) : a.tdiv b - 1 = a / b ∧ a.tmod b + b = a % b := by
  have e := Int.tmod_add_mul_tdiv a b
  have l := Int.lt_tmod_of_pos a (show 0 < b by omega)
  have := (Int.ediv_emod_unique (a := a) (b := b) (r := a.tmod b + b) (q := a.tdiv b - 1) (by omega)).2 ⟨by rw [Int.mul_sub]; omega, by omega, by omega⟩
  exact ⟨this.1.symm, this.2.symm⟩
theorem ctdiv_bd (a b : Int) (ha : -2305843009213693952 ≤ a) (ha' : a ≤ 2305843009213693952) :
    -2305843009213693952 ≤ a.tdiv b ∧ a.tdiv b ≤ 2305843009213693952 := by
  have h : (a.tdiv b).natAbs = a.natAbs / b.natAbs := Int.natAbs_tdiv a b
  have h2 : a.natAbs / b.natAbs ≤ a.natAbs := Nat.div_le_self _ _
  generalize a.natAbs / b.natAbs = q at h h2
  generalize a.tdiv b = x at *
  omega
def hf (a b : Int) : Int := if b ≤ 2 * (a % b) then a / b + 1 else a / b
theorem mul_rng {e d E D1 D2 : Int} (e0 : 0 ≤ e) (e1 : e ≤ E) (d1 : D1 ≤ d) (d2 : d ≤ D2) (h1 : D1 ≤ 0) (h2 : 0 ≤ D2) : E * D1 ≤ e * d ∧ e * d ≤ E * D2 :=
  ⟨Int.le_trans (Int.mul_le_mul_of_nonpos_right e1 h1) (Int.mul_le_mul_of_nonneg_left d1 e0), Int.le_trans (Int.mul_le_mul_of_nonneg_left d2 e0) (Int.mul_le_mul_of_nonneg_right e1 h2)⟩
theorem hf_rng {a b : Int} (hb : 0 < b) {L U : Int} (h1 : b * L ≤ a) (h2 : a ≤ b * U) : L ≤ hf a b ∧ hf a b ≤ U := by
  have e := Int.mul_ediv_add_emod a b
  have m0 := Int.emod_nonneg a (show b ≠ 0 by omega)
  have m1 := Int.emod_lt_of_pos a hb
  have l1 : L ≤ a / b := (Int.le_ediv_iff_mul_le hb).2 (by rw [Int.mul_comm]; exact h1)
  have l2 : a / b ≤ U := Int.ediv_le_of_le_mul hb (by rw [Int.mul_comm]; exact h2)
  unfold hf
  split
  · refine ⟨by omega, ?_⟩
    rcases Int.lt_or_eq_of_le l2 with h | h
    · omega
    · rw [h] at e; omega
  · exact ⟨l1, l2⟩
def fHeat (ex t : Int) : Int := 1000000 - hf (ex * (t - 150)) 10
def fPress (co p : Int) : Int := 1000000 + hf (co * p) 1000
def fac (ex co t p : Int) : Int := hf (fHeat ex t * fPress co p) 1000000
def cdOk (t p : Int) : Prop := (-400 ≤ t ∧ t ≤ 1000) ∧ (0 ≤ p ∧ p ≤ 20000)
instance (t p : Int) : Decidable (cdOk t p) := by unfold cdOk; infer_instance
theorem heat_bd {ex t : Int} (h : 0 ≤ ex ∧ ex ≤ 2000) (ht : -400 ≤ t ∧ t ≤ 1000) : (-1100000 ≤ ex * (t - 150) ∧ ex * (t - 150) ≤ 1700000) ∧ (-110000 ≤ hf (ex * (t - 150)) 10 ∧ hf (ex * (t - 150)) 10 ≤ 170000) ∧ (830000 ≤ fHeat ex t ∧ fHeat ex t ≤ 1110000) := by
  have h1 := mul_rng (E := 2000) (D1 := -550) (D2 := 850) h.1 h.2 (show -550 ≤ t - 150 by omega) (by omega) (by omega) (by omega)
  have h2 := hf_rng (a := ex * (t - 150)) (b := 10) (by omega) (L := -110000) (U := 170000) (by omega) (by omega)
  refine ⟨by omega, h2, ?_⟩
  unfold fHeat
  omega
theorem press_bd {co p : Int} (h : 0 ≤ co ∧ co ≤ 5000) (hp : 0 ≤ p ∧ p ≤ 20000) : (0 ≤ co * p ∧ co * p ≤ 100000000) ∧ (0 ≤ hf (co * p) 1000 ∧ hf (co * p) 1000 ≤ 100000) ∧ (1000000 ≤ fPress co p ∧ fPress co p ≤ 1100000) := by
  have h1 := mul_rng (E := 5000) (D1 := 0) (D2 := 20000) h.1 h.2 hp.1 hp.2 (by omega) (by omega)
  have h2 := hf_rng (a := co * p) (b := 1000) (by omega) (L := 0) (U := 100000) (by omega) (by omega)
  refine ⟨by omega, h2, ?_⟩
  unfold fPress
  omega
theorem fac_bd {ex co t p : Int} (he : 0 ≤ ex ∧ ex ≤ 2000) (hc : 0 ≤ co ∧ co ≤ 5000) (h : cdOk t p) : (0 ≤ fHeat ex t * fPress co p ∧ fHeat ex t * fPress co p ≤ 1221000000000) ∧ (830000 ≤ fac ex co t p ∧ fac ex co t p ≤ 1221000) := by
  have a := (heat_bd he h.1).2.2
  have b := (press_bd hc h.2).2.2
  have h1 := mul_rng (E := 1110000) (D1 := 0) (D2 := 1100000) (show 0 ≤ fHeat ex t by omega) a.2 (show 0 ≤ fPress co p by omega) b.2 (by omega) (by omega)
  have h2 : 830000 * 1000000 ≤ fHeat ex t * fPress co p := Int.le_trans (Int.mul_le_mul_of_nonneg_right a.1 (by omega)) (Int.mul_le_mul_of_nonneg_left b.1 (by omega))
  have h3 := hf_rng (a := fHeat ex t * fPress co p) (b := 1000000) (by omega) (L := 830000) (U := 1221000) (by omega) (by omega)
  exact ⟨by omega, h3⟩
def vfOk (g f : Int) : Prop := (0 ≤ g ∧ g ≤ 1099511627776) ∧ (1 ≤ f ∧ f ≤ 2000000)
instance (g f : Int) : Decidable (vfOk g f) := by unfold vfOk; infer_instance
theorem vf_mul {g f : Int} (h : vfOk g f) : 0 ≤ g * f ∧ g * f ≤ 2199023255552000000 := by
  have := mul_rng (E := 1099511627776) (D1 := 0) (D2 := 2000000) h.1.1 h.1.2 (show 0 ≤ f by have := h.2; omega) h.2.2 (by omega) (by omega)
  omega
def stdV (g f : Int) : Int := hf (g * f) 1000000
structure Mtr where
  pl : Int
  bits : Int
  fac : Int
def Mtr.row (m : Mtr) : List D := [di m.pl, di m.bits, di m.fac]
def Mtr.enc (m : Mtr) : D := .agg m.row
structure Cnt where
  last : Int
  pul : Int
theorem Cnt.ext_iff2 (a b : Cnt) : (a.last = b.last ∧ a.pul = b.pul) ↔ a = b := ⟨fun h => by cases a; cases b; simp only at h; obtain ⟨h0, h1⟩ := h; simp only [h0, h1], fun h => by cases h; exact ⟨rfl, rfl⟩⟩
instance : DecidableEq Cnt := fun a b => decidable_of_iff _ (Cnt.ext_iff2 a b)
def Cnt.row (c : Cnt) : List D := [di c.last, di c.pul]
def Cnt.enc (c : Cnt) : D := .agg c.row
structure Cnd where
  te : Int
  pr : Int
theorem Cnd.ext_iff2 (a b : Cnd) : (a.te = b.te ∧ a.pr = b.pr) ↔ a = b := ⟨fun h => by cases a; cases b; simp only at h; obtain ⟨h0, h1⟩ := h; simp only [h0, h1], fun h => by cases h; exact ⟨rfl, rfl⟩⟩
instance : DecidableEq Cnd := fun a b => decidable_of_iff _ (Cnd.ext_iff2 a b)
def Cnd.row (c : Cnd) : List D := [di c.te, di c.pr]
def Cnd.enc (c : Cnd) : D := .agg c.row
structure Prd where
  nm : ByteArray
  de : Int
  ex : Int
  co : Int
  fr : Int
def Prd.row (p : Prd) : List D := [ds p.nm, di p.de, di p.ex, di p.co, di p.fr]
def Prd.enc (p : Prd) : D := .agg p.row
structure Run where
  vol : Int
  rest : Int
theorem Run.ext_iff2 (a b : Run) : (a.vol = b.vol ∧ a.rest = b.rest) ↔ a = b := ⟨fun h => by cases a; cases b; simp only at h; obtain ⟨h0, h1⟩ := h; simp only [h0, h1], fun h => by cases h; exact ⟨rfl, rfl⟩⟩
instance : DecidableEq Run := fun a b => decidable_of_iff _ (Run.ext_iff2 a b)
def Run.row (c : Run) : List D := [di c.vol, di c.rest]
def Run.enc (c : Run) : D := .agg c.row
structure Tic where
  ba : Int
  fl : Int
  fp : Int
  tl : Int
  tp : Int
  te : Int
  pr : Int
  vol : Int
theorem Tic.ext_iff2 (a b : Tic) : (a.ba = b.ba ∧ a.fl = b.fl ∧ a.fp = b.fp ∧ a.tl = b.tl ∧ a.tp = b.tp ∧ a.te = b.te ∧ a.pr = b.pr ∧ a.vol = b.vol) ↔ a = b := ⟨fun h => by cases a; cases b; simp only at h; obtain ⟨h0, h1, h2, h3, h4, h5, h6, h7⟩ := h; simp only [h0, h1, h2, h3, h4, h5, h6, h7], fun h => by cases h; exact ⟨rfl, rfl, rfl, rfl, rfl, rfl, rfl, rfl⟩⟩
instance : DecidableEq Tic := fun a b => decidable_of_iff _ (Tic.ext_iff2 a b)
def Tic.row (t : Tic) : List D := [di t.ba, di t.fl, di t.fp, di t.tl, di t.tp, di t.te, di t.pr, di t.vol]
def Tic.enc (t : Tic) : D := .agg t.row
def Tic.zero : Tic := ⟨0, 0, 0, 0, 0, 0, 0, 0⟩
structure MtrOk (m : Mtr) : Prop where
  pl : 1 ≤ m.pl ∧ m.pl ≤ 1048576
  bits : m.bits = 16 ∨ m.bits = 32
  fac : 50000 ≤ m.fac ∧ m.fac ≤ 200000
instance (m : Mtr) : Decidable (MtrOk m) := decidable_of_iff ((1 ≤ m.pl ∧ m.pl ≤ 1048576) ∧ (m.bits = 16 ∨ m.bits = 32) ∧ (50000 ≤ m.fac ∧ m.fac ≤ 200000)) ⟨fun h => ⟨h.1, h.2.1, h.2.2⟩, fun h => ⟨h.pl, h.bits, h.fac⟩⟩
def spanI (m : Mtr) : Int := if m.bits = 16 then 65536 else 4294967296
structure CntOk (m : Mtr) (c : Cnt) : Prop where
  last : 0 ≤ c.last ∧ c.last < spanI m
  pul : 0 ≤ c.pul ∧ c.pul ≤ 1099511627776
instance (m : Mtr) (c : Cnt) : Decidable (CntOk m c) := decidable_of_iff ((0 ≤ c.last ∧ c.last < spanI m) ∧ (0 ≤ c.pul ∧ c.pul ≤ 1099511627776)) ⟨fun h => ⟨h.1, h.2⟩, fun h => ⟨h.last, h.pul⟩⟩
structure PrdOk (p : Prd) : Prop where
  nm : nameB p.nm = true
  de : 400 ≤ p.de ∧ p.de ≤ 1200
  ex : 0 ≤ p.ex ∧ p.ex ≤ 2000
  co : 0 ≤ p.co ∧ p.co ≤ 5000
  fr : 1 ≤ p.fr ∧ p.fr ≤ 2000
instance (p : Prd) : Decidable (PrdOk p) := decidable_of_iff (nameB p.nm = true ∧ (400 ≤ p.de ∧ p.de ≤ 1200) ∧ (0 ≤ p.ex ∧ p.ex ≤ 2000) ∧ (0 ≤ p.co ∧ p.co ≤ 5000) ∧ (1 ≤ p.fr ∧ p.fr ≤ 2000)) ⟨fun h => ⟨h.1, h.2.1, h.2.2.1, h.2.2.2.1, h.2.2.2.2⟩, fun h => ⟨h.nm, h.de, h.ex, h.co, h.fr⟩⟩
def pV (p : Prd) : Bool := decide (PrdOk p)
theorem pV_f {p : Prd} (h : PrdOk p → False) : pV p = false := decide_eq_false h
theorem pV_t {p : Prd} (h : PrdOk p) : pV p = true := decide_eq_true h
theorem pV_o {p : Prd} (h : pV p = true) : PrdOk p := of_decide_eq_true h
def cdV (c : Cnd) : Bool := decide (cdOk c.te c.pr)
theorem cdV_f {c : Cnd} (h : cdOk c.te c.pr → False) : cdV c = false := decide_eq_false h
theorem cdV_t {c : Cnd} (h : cdOk c.te c.pr) : cdV c = true := decide_eq_true h
def facI (p : Prd) (c : Cnd) : Int × Int := if pV p then (if cdV c then (fac p.ex p.co c.te c.pr, 0) else (0, 1)) else (0, 9)
def vfV (g f : Int) : Bool := decide (vfOk g f)
theorem vfV_f {g f : Int} (h : vfOk g f → False) : vfV g f = false := decide_eq_false h
theorem vfV_t {g f : Int} (h : vfOk g f) : vfV g f = true := decide_eq_true h
theorem vfV_o {g f : Int} (h : vfV g f = true) : vfOk g f := of_decide_eq_true h
def stdI (g f : Int) : Int × Int := if vfV g f then (stdV g f, 0) else (0, 1)
structure RunOk (r : Run) : Prop where
  vol : 0 ≤ r.vol ∧ r.vol ≤ 1099511627776
  rest : 0 ≤ r.rest ∧ r.rest ≤ 999999
instance (r : Run) : Decidable (RunOk r) := decidable_of_iff ((0 ≤ r.vol ∧ r.vol ≤ 1099511627776) ∧ (0 ≤ r.rest ∧ r.rest ≤ 999999)) ⟨fun h => ⟨h.1, h.2⟩, fun h => ⟨h.vol, h.rest⟩⟩
def Run.zero : Run := ⟨0, 0⟩
def Tic.fr (t : Tic) : Cnt := ⟨t.fl, t.fp⟩
def Tic.to (t : Tic) : Cnt := ⟨t.tl, t.tp⟩
def c57_1 : C := (.seq (.block 1 (.seq (.ops false [oP 38 (.iaS 1 (.t 34) (.t 36)), oP 39 (.ld 1 false (.t 38)), oP 8 (.mv (.t 39))]) (.ops false [oP 40 (.mv (.t 6)), oP 41 (.mv (.t 8)), oP 42 (.ld 2 true (.t 3)), oP 43 (.callv (.t 41) [(.t 42)]), oP 44 (.bin .mul (.t 40) (.t 43)), oP 6 (.mv (.t 44))]))) (.ops false [oP 45 (.bin .add (.t 36) (cI 1)), oP 36 (.mv (.t 45))]))
def c57_2 : C := (.seq (.ops false [oP 37 (.bin .lss (.t 36) (.t 35))]) (.seq (.cond (.t 37) .skip (.exit 0)) c57_1))
def c57_3 : C := (.seq (.ops false [oP 46 (.mv (.t 6)), oB 47 (.call 96 [(.t 46), (cI 1000000)]), oP 4 (.mv (.t 47)), oP 5 (.mv (cI 0))]) .ret)
def c57_4 : C := (.seq (.ops false [oP 6 (.mv (cI 1))]) (.seq (.seq (.ops false [oP 30 (.ld 5 true (.t 2)), oP 31 (.mkf 94 [(.t 30)] []), oP 32 (.ld 5 true (.t 2)), oP 33 (.mkf 95 [(.t 32)] []), oP 34 (.bsl 1 2 [(.v .nilFunc)] [(0, (.t 31)), (1, (.t 33))]), oP 35 (.len (.t 34)), oP 36 (.mv (cI 0))]) (.block 0 (.loop c57_2))) c57_3))
def c57_5 : C := (.seq (.seq (.ops false [oP 12 (.fa 0 (.t 3)), oP 13 (.ld 1 false (.t 12)), oP 14 (.bin .lss (.t 13) (cI (-400))), oP 15 (.mv (.t 14)), oG 16 15 false (.fa 0 (.t 3)), oG 17 15 false (.ld 1 false (.t 16)), oG 18 15 false (.bin .gtr (.t 17) (cI 1000)), oP 19 (.pick (.t 15) (cB true) (.t 18)), oP 20 (.mv (.t 19)), oG 21 20 false (.fa 1 (.t 3)), oG 22 20 false (.ld 1 false (.t 21)),
  oG 23 20 false (.bin .lss (.t 22) (cI 0)), oP 24 (.pick (.t 20) (cB true) (.t 23)), oP 25 (.mv (.t 24)), oG 26 25 false (.fa 1 (.t 3)), oG 27 25 false (.ld 1 false (.t 26)), oG 28 25 false (.bin .gtr (.t 27) (cI 20000)), oP 29 (.pick (.t 25) (cB true) (.t 28))]) (.cond (.t 29) (.seq (.ops false [oP 4 (.mv (cI 0)), oP 5 (.mv (cI 1))]) .ret) .skip)) c57_4)
def c57 : C := (.seq (.ops false [oP 2 (.box 5 (.t 0)), oP 3 (.box 2 (.t 1)), oP 4 (.mv (cI 0)), oP 5 (.mv (cI 0))]) (.seq (.seq (.ops false [oP 9 (.ld 5 true (.t 2)), oB 10 (.call 91 [(.t 9)]), oP 11 (.not (.t 10))]) (.cond (.t 11) (.seq (.ops false [oP 4 (.mv (cI 0)), oP 5 (.mv (cI 9))]) .ret) .skip)) c57_5))
def r57 : List RV := [(.tmp 4), (.tmp 5)]
theorem c57_ok : ∃ code, Tryd.f57.body = some code ∧ compC Tryd.prog Tryd.f57.ntmps code = some (C.strip c57) := ⟨_, rfl, by kernel_rfl⟩
theorem r57_ok : compRes Tryd.prog Tryd.f57.results.toList = some r57 := by kernel_rfl
theorem f57_ok : fnOk Tryd.prog 57 = true := by kernel_rfl
def c58_1 : C := (.seq (.ops false [oP 10 (.mv (.t 0)), oP 11 (.mv (.t 1)), oP 12 (.bin .mul (.t 10) (.t 11)), oB 13 (.call 96 [(.t 12), (cI 1000000)]), oP 4 (.mv (.t 13)), oP 5 (.mv (cI 0))]) .ret)
def c58 : C := (.seq (.ops false [oP 4 (.mv (cI 0)), oP 5 (.mv (cI 0))]) (.seq (.seq (.ops false [oP 6 (.mv (.t 0)), oP 7 (.mv (.t 1)), oB 8 (.call 97 [(.t 6), (.t 7)]), oP 9 (.not (.t 8))]) (.cond (.t 9) (.seq (.ops false [oP 4 (.mv (cI 0)), oP 5 (.mv (cI 1))]) .ret) .skip)) c58_1))
def r58 : List RV := [(.tmp 4), (.tmp 5)]
theorem c58_ok : ∃ code, Tryd.f58.body = some code ∧ compC Tryd.prog Tryd.f58.ntmps code = some (C.strip c58) := ⟨_, rfl, by kernel_rfl⟩
theorem r58_ok : compRes Tryd.prog Tryd.f58.results.toList = some r58 := by kernel_rfl
theorem f58_ok : fnOk Tryd.prog 58 = true := by kernel_rfl
def c91_1 : C := (.ops false [oP 27 (.bin .add (.t 9) (cI 1)), oP 9 (.mv (.t 27))])
def c91_2 : C := (.seq (.block 1 (.seq (.ops false [oP 11 (.mv (.t 9)), oP 12 (.ixA 4 2 true (.t 8) (.t 9)), oP 5 (.new [(.v (.int .i64 0)), (.v (.int .i64 0))]), oP 4 (.mv (.t 11)), oS (.st 2 (.t 5) (.t 12))]) (.seq (.ops true [oP 13 (.mv (.t 4)), oA 14 (.iaA 4 1 (.t 3) (.t 13)) [0], oA 15 (.ld 1 false (.t 14)) [0, 1], oP 16 (.fa 0 (.t 5)), oA 17 (.ld 1 false (.t 16)) [3], oA 18 (.bin .lss (.t 15) (.t 17)) [3, 1,
  0, 4, 2], oA 19 (.mv (.t 18)) [2, 4, 0, 1, 3, 5], oH 20 19 false (.mv (.t 4)) [5, 3, 1, 0, 4, 2, 6], oH 21 19 false (.iaA 4 1 (.t 3) (.t 20)) [2, 4, 0, 1, 3, 5, 6, 7], oH 22 19 false (.ld 1 false (.t 21)) [7, 5, 3, 1, 0, 4, 2, 6, 8], oH 23 19 false (.fa 1 (.t 5)) [5, 3, 1, 0, 4, 2, 6], oH 24 19 false (.ld 1 false (.t 23)) [2, 4, 0, 1, 3, 5, 6, 10], oH 25 19 false (.bin .gtr (.t 22) (.t 24)) [10,
  8, 2, 4, 0, 1, 3, 5, 7, 6, 11, 9], oA 26 (.pick (.t 19) (cB true) (.t 25)) [9, 11, 7, 8, 10, 5, 3, 1, 0, 4, 2, 12, 6]]) (.cond (.t 26) (.seq (.ops false [oP 2 (.mv (cB false))]) .ret) .skip)))) c91_1)
def c91_3 : C := (.seq (.ops false [oP 10 (.bin .lss (.t 9) (cI 4))]) (.seq (.cond (.t 10) .skip (.exit 0)) c91_2))
def c91_4 : C := (.seq (.ops false [oP 28 (.fa 0 (.t 1)), oP 29 (.ld 1 false (.t 28)), oB 30 (.call 113 [(.t 29)]), oP 2 (.mv (.t 30))]) .ret)
def c91 : C := (.seq (.ops false [oP 1 (.box 5 (.t 0)), oP 2 (.mv (cB false))]) (.seq (.ops false [oP 6 (.ld 5 true (.t 1)), oB 7 (.call 127 [(.t 6)]), oP 3 (.new [(.v (.int .i64 0)), (.v (.int .i64 0)), (.v (.int .i64 0)), (.v (.int .i64 0))]), oS (.st 4 (.t 3) (.t 7))]) (.seq (.seq (.ops false [oP 8 (.ld 8 true (.c (.ip [(.v (.int .i64 400)), (.v (.int .i64 1200)), (.v (.int .i64 0)), (.v (.int .i64 2000)),
  (.v (.int .i64 0)), (.v (.int .i64 5000)), (.v (.int .i64 1)), (.v (.int .i64 2000))]))), oP 9 (.mv (cI 0))]) (.block 0 (.loop c91_3))) c91_4)))
def r91 : List RV := [(.tmp 2)]
theorem c91_ok : ∃ code, Tryd.f91.body = some code ∧ compC Tryd.prog Tryd.f91.ntmps code = some (C.strip c91) := ⟨_, rfl, by kernel_rfl⟩
theorem r91_ok : compRes Tryd.prog Tryd.f91.results.toList = some r91 := by kernel_rfl
theorem f91_ok : fnOk Tryd.prog 91 = true := by kernel_rfl
def c94 : C := (.seq (.ops false [oP 2 (.box 5 (.t 0)), oP 3 (.box 2 (.t 1)), oP 4 (.mv (cI 0))]) (.seq (.ops false [oP 5 (.fa 2 (.t 2)), oP 6 (.ld 1 false (.t 5)), oP 7 (.fa 0 (.t 3)), oP 8 (.ld 1 false (.t 7)), oP 9 (.bin .sub (.t 8) (cI 150)), oP 10 (.bin .mul (.t 6) (.t 9)), oB 11 (.call 96 [(.t 10), (cI 10)]), oP 12 (.bin .sub (cI 1000000) (.t 11)), oP 4 (.mv (.t 12))]) .ret))
def r94 : List RV := [(.tmp 4)]
theorem c94_ok : ∃ code, Tryd.f94.body = some code ∧ compC Tryd.prog Tryd.f94.ntmps code = some (C.strip c94) := ⟨_, rfl, by kernel_rfl⟩
theorem r94_ok : compRes Tryd.prog Tryd.f94.results.toList = some r94 := by kernel_rfl
theorem f94_ok : fnOk Tryd.prog 94 = true := by kernel_rfl
def c95 : C := (.seq (.ops false [oP 2 (.box 5 (.t 0)), oP 3 (.box 2 (.t 1)), oP 4 (.mv (cI 0))]) (.seq (.ops false [oP 5 (.fa 3 (.t 2)), oP 6 (.ld 1 false (.t 5)), oP 7 (.fa 1 (.t 3)), oP 8 (.ld 1 false (.t 7)), oP 9 (.bin .mul (.t 6) (.t 8)), oB 10 (.call 96 [(.t 9), (cI 1000)]), oP 11 (.bin .add (cI 1000000) (.t 10)), oP 4 (.mv (.t 11))]) .ret))
def r95 : List RV := [(.tmp 4)]
theorem c95_ok : ∃ code, Tryd.f95.body = some code ∧ compC Tryd.prog Tryd.f95.ntmps code = some (C.strip c95) := ⟨_, rfl, by kernel_rfl⟩
theorem r95_ok : compRes Tryd.prog Tryd.f95.results.toList = some r95 := by kernel_rfl
theorem f95_ok : fnOk Tryd.prog 95 = true := by kernel_rfl
def c96_1 : C := (.seq (.ops false [oP 24 (.mv (.t 5)), oP 4 (.mv (.t 24))]) .ret)
def c96 : C := (.seq (.ops false [oP 4 (.mv (cI 0))]) (.seq (.ops false [oP 9 (.mv (.t 0)), oP 10 (.mv (.t 1)), oB 11 (.call 130 [(.t 9), (.t 10)]), oP 8 (.mv (.t 11)), oP 12 (.ext (.t 8) 0), oP 13 (.ext (.t 8) 1), oP 14 (.ext (.t 8) 2), oP 5 (.mv (.t 12)), oP 6 (.mv (.t 13)), oP 7 (.mv (.t 14))]) (.seq (.seq (.ops false [oP 15 (.mv (.t 7)), oP 16 (.mv (.t 15)), oG 17 16 true (.mv (.t 6)),
  oG 18 16 true (.bin .mul (cI 2) (.t 17)), oG 19 16 true (.mv (.t 1)), oG 20 16 true (.bin .geq (.t 18) (.t 19)), oP 21 (.pick (.t 16) (.t 20) (cB false))]) (.cond (.t 21) (.ops false [oP 22 (.mv (.t 5)), oP 23 (.bin .add (.t 22) (cI 1)), oP 5 (.mv (.t 23))]) .skip)) c96_1)))
def r96 : List RV := [(.tmp 4)]
theorem c96_ok : ∃ code, Tryd.f96.body = some code ∧ compC Tryd.prog Tryd.f96.ntmps code = some (C.strip c96) := ⟨_, rfl, by kernel_rfl⟩
theorem r96_ok : compRes Tryd.prog Tryd.f96.results.toList = some r96 := by kernel_rfl
theorem f96_ok : fnOk Tryd.prog 96 = true := by kernel_rfl
def c97 : C := (.seq (.ops false [oP 4 (.mv (cB false))]) (.seq (.ops false [oP 5 (.mv (.t 0)), oP 6 (.bin .geq (.t 5) (cI 0)), oP 7 (.mv (.t 6)), oG 8 7 true (.mv (.t 0)), oG 9 7 true (.bin .leq (.t 8) (cI 1099511627776)), oP 10 (.pick (.t 7) (.t 9) (cB false)), oP 11 (.mv (.t 10)), oG 12 11 true (.mv (.t 1)), oG 13 11 true (.bin .geq (.t 12) (cI 1)), oP 14 (.pick (.t 11) (.t 13) (cB false)),
  oP 15 (.mv (.t 14)), oG 16 15 true (.mv (.t 1)), oG 17 15 true (.bin .leq (.t 16) (cI 2000000)), oP 18 (.pick (.t 15) (.t 17) (cB false)), oP 4 (.mv (.t 18))]) .ret))
def r97 : List RV := [(.tmp 4)]
theorem c97_ok : ∃ code, Tryd.f97.body = some code ∧ compC Tryd.prog Tryd.f97.ntmps code = some (C.strip c97) := ⟨_, rfl, by kernel_rfl⟩
theorem r97_ok : compRes Tryd.prog Tryd.f97.results.toList = some r97 := by kernel_rfl
theorem f97_ok : fnOk Tryd.prog 97 = true := by kernel_rfl
def c127 : C := (.seq (.ops false [oP 1 (.box 5 (.t 0)), oP 2 (.new [(.v (.int .i64 0)), (.v (.int .i64 0)), (.v (.int .i64 0)), (.v (.int .i64 0))])]) (.seq (.ops false [oP 3 (.fa 1 (.t 1)), oP 4 (.ld 1 false (.t 3)), oP 5 (.fa 2 (.t 1)), oP 6 (.ld 1 false (.t 5)), oP 7 (.fa 3 (.t 1)), oP 8 (.ld 1 false (.t 7)), oP 9 (.fa 4 (.t 1)), oP 10 (.ld 1 false (.t 9)), oP 11 (.bld [(.v (.int .i64 0)), (.v (.int .i64 0)),
  (.v (.int .i64 0)), (.v (.int .i64 0))] [(0, (1, (.t 4))), (1, (1, (.t 6))), (2, (1, (.t 8))), (3, (1, (.t 10)))]), oS (.st 4 (.t 2) (.t 11))]) .ret))
def r127 : List RV := [(.cell 2 4 true)]
theorem c127_ok : ∃ code, Tryd.f127.body = some code ∧ compC Tryd.prog Tryd.f127.ntmps code = some (C.strip c127) := ⟨_, rfl, by kernel_rfl⟩
theorem r127_ok : compRes Tryd.prog Tryd.f127.results.toList = some r127 := by kernel_rfl
theorem f127_ok : fnOk Tryd.prog 127 = true := by kernel_rfl
def c130_1 : C := (.seq (.ops false [oP 36 (.mv (.t 7)), oP 37 (.mv (.t 8)), oP 4 (.mv (.t 36)), oP 5 (.mv (.t 37)), oP 6 (.mv (cB true))]) .ret)
def c130_2 : C := (.seq (.ops true [oP 23 (.mv (.t 0)), oP 24 (.mv (.t 1)), oA 25 (.bin .quo (.t 23) (.t 24)) [1, 0], oP 26 (.mv (.t 0)), oP 27 (.mv (.t 1)), oA 28 (.bin .rem (.t 26) (.t 27)) [4, 3], oA 7 (.mv (.t 25)) [1, 0, 2], oA 8 (.mv (.t 28)) [4, 3, 2, 1, 0, 6, 5]]) (.seq (.seq (.ops false [oP 29 (.mv (.t 8)), oP 30 (.bin .lss (.t 29) (cI 0))]) (.cond (.t 30) (.ops false [oP 31 (.mv (.t 7)),
  oP 32 (.bin .sub (.t 31) (cI 1)), oP 33 (.mv (.t 8)), oP 34 (.mv (.t 1)), oP 35 (.bin .add (.t 33) (.t 34)), oP 7 (.mv (.t 32)), oP 8 (.mv (.t 35))]) .skip)) c130_1))
def c130 : C := (.seq (.ops false [oP 4 (.mv (cI 0)), oP 5 (.mv (cI 0)), oP 6 (.mv (cB false))]) (.seq (.seq (.ops false [oP 9 (.mv (.t 1)), oP 10 (.bin .lss (.t 9) (cI 1)), oP 11 (.mv (.t 10)), oG 12 11 false (.mv (.t 1)), oG 13 11 false (.bin .gtr (.t 12) (cI 1099511627776)), oP 14 (.pick (.t 11) (cB true) (.t 13)), oP 15 (.mv (.t 14)), oG 16 15 false (.mv (.t 0)), oG 17 15 false (.bin .lss (.t 16)
  (cI (-2305843009213693952))), oP 18 (.pick (.t 15) (cB true) (.t 17)), oP 19 (.mv (.t 18)), oG 20 19 false (.mv (.t 0)), oG 21 19 false (.bin .gtr (.t 20) (cI 2305843009213693952)), oP 22 (.pick (.t 19) (cB true) (.t 21))]) (.cond (.t 22) (.seq (.ops false [oP 4 (.mv (cI 0)), oP 5 (.mv (cI 0)), oP 6 (.mv (cB false))]) .ret) .skip)) c130_2))
def r130 : List RV := [(.tmp 4), (.tmp 5), (.tmp 6)]
theorem c130_ok : ∃ code, Tryd.f130.body = some code ∧ compC Tryd.prog Tryd.f130.ntmps code = some (C.strip c130) := ⟨_, rfl, by kernel_rfl⟩
theorem r130_ok : compRes Tryd.prog Tryd.f130.results.toList = some r130 := by kernel_rfl
theorem f130_ok : fnOk Tryd.prog 130 = true := by kernel_rfl
def selX {α : Type} (dec : List D → Option α) (pre : α → Prop) (val : α → D) (args : List D) : Option (Prop × D) := match dec args with
  | some a => some (pre a, val a)
  | Option.none => Option.none
theorem tc_x {P : Program} {f : FuncId} {α : Type} {dec : List D → Option α} {pre : α → Prop} {val : α → D} {enc : α → List D} {T : Tbl} (hf : fnOk P f = true) (hd : ∀ l a, dec l = some a → l = enc a)
    (hc : ∀ a, pre a → ∀ nn, CallsA P f (enc a) Hp.none nn (Pu (val a) Hp.none)) (hT : TblOk P T) : TblOk P (tc f (rowPu (selX dec pre val)) T) :=
  tc_pu hf (fun args p d h hp nn => by
    unfold selX at h
    split at h
    · rename_i a e
      cases h
      rw [hd _ _ e]
      exact hc a hp nn
    · cases h) hT
def tt {α : Type} : α → Prop := fun _ => True
def ie (p : Int × Int) : D := .tup [di p.1, di p.2]
def decII : List D → Option (Int × Int)
  | [.v (.int .i64 a), .v (.int .i64 b)] => some (a, b)
  | _ => Option.none
theorem decII_eq : ∀ l a, decII l = some a → l = [di a.1, di a.2] := fun l a h => by unfold decII at h; split at h <;> cases h; rfl
def DvOk (p : Int × Int) : Prop := (-2305843009213693952 ≤ p.1 ∧ p.1 ≤ 2305843009213693952) ∧ (1 ≤ p.2 ∧ p.2 ≤ 1099511627776)
set_option maxHeartbeats 8000000 in
theorem divide_c (a b : Int) (h : DvOk (a, b)) (nn : Nm) : CallsA Tryd.prog 130 [di a, di b] Hp.none nn (Pu (.tup [di (a / b), di (a % b), db true]) Hp.none) := by
  obtain ⟨ha, hb⟩ := h
  dsimp only at ha hb
  obtain ⟨code, h1, h2⟩ := c130_ok
  refine callsA_of (T0_ok _) mixed (N := fun t => (0, t)) Tryd.func130 h1 h2 r130_ok [] false js_nil js_nil' (by simp [Tryd.f130]) ?_
  have d1 : decide (b < 1) = false := decide_eq_false (by omega)
  have d2 : decide ((1099511627776 : Int) < b) = false := decide_eq_false (by omega)
  have d3 : decide (a < (-2305843009213693952 : Int)) = false := decide_eq_false (by omega)
  have d4 : decide ((2305843009213693952 : Int) < a) = false := decide_eq_false (by omega)
  have tb := ctdiv_bd a b ha.1 ha.2
  have w1 : IntKind.i64.wrap (a.tdiv b) = a.tdiv b := wrap_i (by omega)
  have w2 : IntKind.i64.wrap (a.tdiv b - 1) = a.tdiv b - 1 := wrap_i (by omega)
  have p1 := Int.emod_nonneg a (show b ≠ 0 by omega)
  have p2 := Int.emod_lt_of_pos a (show 0 < b by omega)
  have nb : b ≠ 0 := by omega
  cases d5 : decide (a.tmod b < 0) with
  | false =>
    obtain ⟨e1, e2⟩ := ctdiv_pos a b hb.1 (by have := of_decide_eq_false d5; omega)
    simp (maxSteps:=500000) only [↓vp, vv, ↓reduceIte, simprocAttr, c130, r130, c130_1, c130_2, d1, d2, d3, d4, d5, w1, nb, Pu]
    rw [e1, e2]
  | true =>
    obtain ⟨e1, e2⟩ := ctdiv_neg a b hb.1 (of_decide_eq_true d5)
    have w3 : IntKind.i64.wrap (a.tmod b + b) = a.tmod b + b := wrap_i (by omega)
    simp (maxSteps:=500000) only [↓vp, vv, ↓reduceIte, simprocAttr, c130, r130, c130_1, c130_2, d1, d2, d3, d4, d5, w1, w2, w3, nb, Pu]
    rw [e1, e2]
def selDv := selX decII DvOk fun p => .tup [di (p.1 / p.2), di (p.1 % p.2), db true]
theorem tc_dv {T : Tbl} (hT : TblOk Tryd.prog T) : TblOk Tryd.prog (tc 130 (rowPu selDv) T) := tc_x f130_ok decII_eq (fun a h nn => divide_c _ _ h nn) hT
theorem dv_bd {a b : Int} (h : DvOk (a, b)) : -2305843009213693953 ≤ a / b ∧ a / b ≤ 2305843009213693952 := by
  obtain ⟨ha, hb⟩ := h
  dsimp only at ha hb
  have tb := ctdiv_bd a b ha.1 ha.2
  by_cases hc : a.tmod b < 0
  · have := (ctdiv_neg a b hb.1 hc).1; omega
  · have := (ctdiv_pos a b hb.1 (by omega)).1; omega
set_option maxHeartbeats 8000000 in
theorem half_c (a b : Int) (h : DvOk (a, b)) (nn : Nm) : CallsA Tryd.prog 96 [di a, di b] Hp.none nn (Pu (di (hf a b)) Hp.none) := by
  obtain ⟨code, h1, h2⟩ := c96_ok
  refine callsA_of (tc_dv (T0_ok _)) mixed (N := fun t => (0, t)) Tryd.func96 h1 h2 r96_ok [] false js_nil js_nil' (by simp [Tryd.f96]) ?_
  have hb := h.2
  dsimp only at hb
  have p1 := Int.emod_nonneg a (show b ≠ 0 by omega)
  have p2 := Int.emod_lt_of_pos a (show 0 < b by omega)
  have q1 := dv_bd h
  have w1 : IntKind.i64.wrap (a / b + 1) = a / b + 1 := wrap_i (by omega)
  have w2 : IntKind.i64.wrap (2 * (a % b)) = 2 * (a % b) := wrap_i (by omega)
  cases d5 : decide (b ≤ 2 * (a % b)) with
  | false =>
    have e : hf a b = a / b := if_neg (of_decide_eq_false d5)
    simp (maxSteps:=500000) only [↓vp, vv, ↓reduceIte, simprocAttr, c96, r96, c96_1, selDv, selX, decII, h, Pu, d5, w1, w2, e]
  | true =>
    have e : hf a b = a / b + 1 := if_pos (of_decide_eq_true d5)
    simp (maxSteps:=500000) only [↓vp, vv, ↓reduceIte, simprocAttr, c96, r96, c96_1, selDv, selX, decII, h, Pu, d5, w1, w2, e]
def selHf := selX decII DvOk fun p => di (hf p.1 p.2)
theorem tc_hf {T : Tbl} (hT : TblOk Tryd.prog T) : TblOk Tryd.prog (tc 96 (rowPu selHf) T) := tc_x f96_ok decII_eq (fun a h nn => half_c _ _ h nn) hT
end Go.Proofs.YtehmmnnmkapfeaaDoor

/- Products: valid ones, of both. -/
namespace Go.Proofs.YtehmmnnmkapfeaaDoor
open Go
def decS : List D → Option ByteArray
  | [.v (.string n)] => some n
  | _ => Option.none
theorem decS_eq : ∀ l a, decS l = some a → l = [ds a] := fun l a h => by unfold decS at h; split at h <;> cases h; rfl
def selN1 := selX decS tt fun s => db (nameB s)
theorem tc_nm1 {T : Tbl} (hT : TblOk Tryd.prog T) : TblOk Tryd.prog (tc 113 (rowPu selN1) T) := tc_x f113_ok decS_eq (fun a h nn => lname_c _ nn) hT
def prdOf : List D → Option Prd
  | [.v (.string n), .v (.int .i64 a), .v (.int .i64 b), .v (.int .i64 c), .v (.int .i64 d)] => some ⟨n, a, b, c, d⟩
  | _ => Option.none
theorem prdOf_x (p : Prd) : prdOf [ds p.nm, di p.de, di p.ex, di p.co, di p.fr] = some p := rfl
theorem prdOf_eq {l : List D} {m : Prd} (h : prdOf l = some m) : l = m.row := by unfold prdOf at h; split at h <;> cases h; rfl
def decP : List D → Option Prd
  | [.agg a] => prdOf a
  | _ => Option.none
theorem decP_eq : ∀ l a, decP l = some a → l = [a.enc] := fun l a h => by
  unfold decP at h
  split at h
  · rw [prdOf_eq h]; rfl
  · cases h
def numsD (p : Prd) : D := .agg [di p.de, di p.ex, di p.co, di p.fr]
theorem numbers_c (p : Prd) (nn : Nm) : CallsA Tryd.prog 127 [p.enc] Hp.none nn (Pu (numsD p) Hp.none) := by
  obtain ⟨code, h1, h2⟩ := c127_ok
  refine callsA_of (T0_ok _) mixed (N := fun t => (0, t)) Tryd.func127 h1 h2 r127_ok [] false js_nil js_nil' (by simp [Tryd.f127]) ?_
  simp (maxSteps:=500000) only [↓vp, vv, ↓reduceIte, simprocAttr, c127, r127, Prd.enc, Prd.row, r127, numsD, Pu]
def selNu := selX decP tt numsD
theorem tc_nu {T : Tbl} (hT : TblOk Tryd.prog T) : TblOk Tryd.prog (tc 127 (rowPu selNu) T) := tc_x f127_ok decP_eq (fun a h nn => numbers_c _ nn) hT
def okN (p : Prd) : Nat → Prop
  | 0 => 400 ≤ p.de ∧ p.de ≤ 1200
  | 1 => 0 ≤ p.ex ∧ p.ex ≤ 2000
  | 2 => 0 ≤ p.co ∧ p.co ≤ 5000
  | _ => 1 ≤ p.fr ∧ p.fr ≤ 2000
theorem okN_next {p : Prd} {j : Nat} (h : ∀ i, i < j → okN p i) (hj : okN p j) : ∀ i, i < j + 1 → okN p i := fun i hi => by
  rcases Nat.lt_or_eq_of_le (Nat.lt_succ_iff.1 hi) with h1 | rfl
  · exact h i h1
  · exact hj
def PvF (p : Prd) (j : Int) : List (Nat × D) := [(1, .ptr (0, 1) 0 0 0), (3, .ptr (0, 3) 0 0 0), (8, .agg [di 400, di 1200, di 0, di 2000, di 0, di 5000, di 1, di 2000]), (9, di j)]
def PvH (p : Prd) : Hp := (Hp.none.put (0, 1) ⟨0, 5, [p.row]⟩).put (0, 3) ⟨0, 4, [[di p.de, di p.ex, di p.co, di p.fr]]⟩
def PvT : Tbl := tc 127 (rowPu selNu) (tc 113 (rowPu selN1) T0)
theorem PvT_ok : TblOk Tryd.prog PvT := tc_nu (tc_nm1 (T0_ok _))
set_option maxHeartbeats 8000000 in
theorem pvalid_c (p : Prd) (nn : Nm) : CallsA Tryd.prog 91 [p.enc] Hp.none nn (Pu (db (pV p)) Hp.none) := by
  obtain ⟨code, h1, h2⟩ := c91_ok
  refine callsA_of PvT_ok mixed (N := fun t => (0, t)) Tryd.func91 h1 h2 r91_ok [] false js_nil js_nil' (by simp [Tryd.f91]) ?_
  simp (maxSteps:=500000) only [↓vp, vv, ↓reduceIte, simprocAttr, c91, PvT, selNu, selX, decP, Prd.enc, Prd.row, prdOf_x, tt, numsD]
  refine rng_loop 4 (fun j => ⟨fr (PvF p (j : Nat)), PvH p⟩) (fun j => ∀ i, i < j → okN p i) (weak_eq [] [(0, 3), (0, 1)] (PvF p 0) (by simp (maxSteps:=500000) only [↓vp, vv, ↓reduceIte, simprocAttr, coverS, PvF, PvH, Prd.row]) (by simp (maxSteps:=500000) only [↓vp, vv, ↓reduceIte, simprocAttr, refsF, PvF, PvH, Prd.row]) (by simp (maxSteps:=500000) only [↓vp, vv, ↓reduceIte, simprocAttr, PvF, PvH, Prd.row]) (by simp) (by simp (maxSteps:=500000) only [↓vp, vv, ↓reduceIte, simprocAttr, PvF, PvH, Prd.row]; try rfl)) (fun i hi => by omega) (fun j hj hP => ?_) (fun hP => ?_)
  · match j, hj, hP with
    | 0, hj, hP =>
      cases ca : decide (p.de < 400) with
      | true =>
        have hf := pV_f fun h : PrdOk p => by have h1 := of_decide_eq_true ca; have h2 := h.de; omega
        simp (maxSteps:=500000) only [↓vp, vv, ↓reduceIte, simprocAttr, c91, c91_3, c91_2, c91_1, r91, PvF, PvH, Prd.row, Pu, ca, hf]
      | false =>
      cases cb : decide (1200 < p.de) with
      | true =>
        have hf := pV_f fun h : PrdOk p => by have h1 := of_decide_eq_true cb; have h2 := h.de; omega
        simp (maxSteps:=500000) only [↓vp, vv, ↓reduceIte, simprocAttr, c91, c91_3, c91_2, c91_1, r91, PvF, PvH, Prd.row, Pu, ca, cb, hf]
      | false =>
        simp (maxSteps:=500000) only [↓vp, vv, ↓reduceIte, simprocAttr, c91, c91_3, c91_2, c91_1, r91, PvF, PvH, Prd.row, Pu, ca, cb]
        have wz : IntKind.i64.wrap 1 = 1 := by decide
        exact rng_next hj (weak_eq [] [(0, 3), (0, 1)] (PvF p 1) (by simp (maxSteps:=500000) only [↓vp, vv, ↓reduceIte, simprocAttr, coverS, PvF, PvH, Prd.row, wz]) (by simp (maxSteps:=500000) only [↓vp, vv, ↓reduceIte, simprocAttr, refsF, PvF, PvH, Prd.row, wz]) (by simp (maxSteps:=500000) only [↓vp, vv, ↓reduceIte, simprocAttr, PvF, PvH, Prd.row, wz]) (by simp) (by simp (maxSteps:=500000) only [↓vp, vv, ↓reduceIte, simprocAttr, PvF, PvH, Prd.row, wz]; try rfl)) (okN_next hP ⟨by have := of_decide_eq_false ca; omega, by have := of_decide_eq_false cb; omega⟩)
    | 1, hj, hP =>
      cases ca : decide (p.ex < 0) with
      | true =>
        have hf := pV_f fun h : PrdOk p => by have h1 := of_decide_eq_true ca; have h2 := h.ex; omega
        simp (maxSteps:=500000) only [↓vp, vv, ↓reduceIte, simprocAttr, c91, c91_3, c91_2, c91_1, r91, PvF, PvH, Prd.row, Pu, ca, hf]
      | false =>
      cases cb : decide (2000 < p.ex) with
      | true =>
        have hf := pV_f fun h : PrdOk p => by have h1 := of_decide_eq_true cb; have h2 := h.ex; omega
        simp (maxSteps:=500000) only [↓vp, vv, ↓reduceIte, simprocAttr, c91, c91_3, c91_2, c91_1, r91, PvF, PvH, Prd.row, Pu, ca, cb, hf]
      | false =>
        simp (maxSteps:=500000) only [↓vp, vv, ↓reduceIte, simprocAttr, c91, c91_3, c91_2, c91_1, r91, PvF, PvH, Prd.row, Pu, ca, cb]
        have wz : IntKind.i64.wrap 2 = 2 := by decide
        exact rng_next hj (weak_eq [] [(0, 3), (0, 1)] (PvF p 2) (by simp (maxSteps:=500000) only [↓vp, vv, ↓reduceIte, simprocAttr, coverS, PvF, PvH, Prd.row, wz]) (by simp (maxSteps:=500000) only [↓vp, vv, ↓reduceIte, simprocAttr, refsF, PvF, PvH, Prd.row, wz]) (by simp (maxSteps:=500000) only [↓vp, vv, ↓reduceIte, simprocAttr, PvF, PvH, Prd.row, wz]) (by simp) (by simp (maxSteps:=500000) only [↓vp, vv, ↓reduceIte, simprocAttr, PvF, PvH, Prd.row, wz]; try rfl)) (okN_next hP ⟨by have := of_decide_eq_false ca; omega, by have := of_decide_eq_false cb; omega⟩)
    | 2, hj, hP =>
      cases ca : decide (p.co < 0) with
      | true =>
        have hf := pV_f fun h : PrdOk p => by have h1 := of_decide_eq_true ca; have h2 := h.co; omega
        simp (maxSteps:=500000) only [↓vp, vv, ↓reduceIte, simprocAttr, c91, c91_3, c91_2, c91_1, r91, PvF, PvH, Prd.row, Pu, ca, hf]
      | false =>
      cases cb : decide (5000 < p.co) with
      | true =>
        have hf := pV_f fun h : PrdOk p => by have h1 := of_decide_eq_true cb; have h2 := h.co; omega
        simp (maxSteps:=500000) only [↓vp, vv, ↓reduceIte, simprocAttr, c91, c91_3, c91_2, c91_1, r91, PvF, PvH, Prd.row, Pu, ca, cb, hf]
      | false =>
        simp (maxSteps:=500000) only [↓vp, vv, ↓reduceIte, simprocAttr, c91, c91_3, c91_2, c91_1, r91, PvF, PvH, Prd.row, Pu, ca, cb]
        have wz : IntKind.i64.wrap 3 = 3 := by decide
        exact rng_next hj (weak_eq [] [(0, 3), (0, 1)] (PvF p 3) (by simp (maxSteps:=500000) only [↓vp, vv, ↓reduceIte, simprocAttr, coverS, PvF, PvH, Prd.row, wz]) (by simp (maxSteps:=500000) only [↓vp, vv, ↓reduceIte, simprocAttr, refsF, PvF, PvH, Prd.row, wz]) (by simp (maxSteps:=500000) only [↓vp, vv, ↓reduceIte, simprocAttr, PvF, PvH, Prd.row, wz]) (by simp) (by simp (maxSteps:=500000) only [↓vp, vv, ↓reduceIte, simprocAttr, PvF, PvH, Prd.row, wz]; try rfl)) (okN_next hP ⟨by have := of_decide_eq_false ca; omega, by have := of_decide_eq_false cb; omega⟩)
    | 3, hj, hP =>
      cases ca : decide (p.fr < 1) with
      | true =>
        have hf := pV_f fun h : PrdOk p => by have h1 := of_decide_eq_true ca; have h2 := h.fr; omega
        simp (maxSteps:=500000) only [↓vp, vv, ↓reduceIte, simprocAttr, c91, c91_3, c91_2, c91_1, r91, PvF, PvH, Prd.row, Pu, ca, hf]
      | false =>
      cases cb : decide (2000 < p.fr) with
      | true =>
        have hf := pV_f fun h : PrdOk p => by have h1 := of_decide_eq_true cb; have h2 := h.fr; omega
        simp (maxSteps:=500000) only [↓vp, vv, ↓reduceIte, simprocAttr, c91, c91_3, c91_2, c91_1, r91, PvF, PvH, Prd.row, Pu, ca, cb, hf]
      | false =>
        simp (maxSteps:=500000) only [↓vp, vv, ↓reduceIte, simprocAttr, c91, c91_3, c91_2, c91_1, r91, PvF, PvH, Prd.row, Pu, ca, cb]
        have wz : IntKind.i64.wrap 4 = 4 := by decide
        exact rng_next hj (weak_eq [] [(0, 3), (0, 1)] (PvF p 4) (by simp (maxSteps:=500000) only [↓vp, vv, ↓reduceIte, simprocAttr, coverS, PvF, PvH, Prd.row, wz]) (by simp (maxSteps:=500000) only [↓vp, vv, ↓reduceIte, simprocAttr, refsF, PvF, PvH, Prd.row, wz]) (by simp (maxSteps:=500000) only [↓vp, vv, ↓reduceIte, simprocAttr, PvF, PvH, Prd.row, wz]) (by simp) (by simp (maxSteps:=500000) only [↓vp, vv, ↓reduceIte, simprocAttr, PvF, PvH, Prd.row, wz]; try rfl)) (okN_next hP ⟨by have := of_decide_eq_false ca; omega, by have := of_decide_eq_false cb; omega⟩)
  · cases cn : nameB p.nm with
    | false =>
      have hf := pV_f fun h : PrdOk p => (by rw [h.nm] at cn; cases cn)
      simp (maxSteps:=500000) only [↓vp, vv, ↓reduceIte, simprocAttr, c91, c91_4, c91_3, c91_2, c91_1, r91, PvF, PvH, Prd.row, PvT, selN1, selX, decS, tt, cn, hf, Pu]
    | true =>
      have ht := pV_t (p := p) ⟨cn, hP 0 (by omega), hP 1 (by omega), hP 2 (by omega), hP 3 (by omega)⟩
      simp (maxSteps:=500000) only [↓vp, vv, ↓reduceIte, simprocAttr, c91, c91_4, c91_3, c91_2, c91_1, r91, PvF, PvH, Prd.row, PvT, selN1, selX, decS, tt, cn, ht, Pu]
def selPV := selX decP tt fun p => db (pV p)
theorem tc_pv {T : Tbl} (hT : TblOk Tryd.prog T) : TblOk Tryd.prog (tc 91 (rowPu selPV) T) := tc_x f91_ok decP_eq (fun a h nn => pvalid_c _ nn) hT
end Go.Proofs.YtehmmnnmkapfeaaDoor
