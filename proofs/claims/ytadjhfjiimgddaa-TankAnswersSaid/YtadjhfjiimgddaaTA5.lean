/- TankAnswers: Gen2 Gen3 Gen4 Gen5 Nk1 Nk2 Nw. -/
import Derived.Test.YtadjhfjiimgddaaTA4

/- The source of numbers: Pick, Text, Range, name, New. -/
namespace Go.Proofs.Ytadjhfjiimgddaa
open Go
set_option linter.unusedVariables false
set_option linter.unusedSimpArgs false
set_option maxRecDepth 100000

def selI {α : Type} (ok : Int → Prop) (post : Int → α → Prop) : List D → Option (Prop × (α → Prop))
  | [.v (.int .i64 n)] => some (ok n, post n)
  | _ => Option.none
def T1 : Tbl := tc 13 (rowSrc (selI InI NPost) di) T0
theorem T1_ok : TblOk Try.prog T1 := by
  refine tc_src f13_ok (fun args pre post h hp => ?_) (T0_ok _)
  unfold selI at h
  split at h <;> cases h
  exact ⟨⟨_, modI_in 0 _⟩, N_c _ hp⟩
def IsMem {α : Type} (l : List α) (x : α) : Prop := x ∈ l
theorem getD_map {α : Type} (g : α → List D) (l : List α) (k : Nat) (h : k < l.length) : (l.map g).getD k [] = g l[k] := by
  rw [List.getD_eq_getElem?_getD, List.getElem?_map, List.getElem?_eq_getElem h]; rfl
set_option maxHeartbeats 4000000 in
theorem Pick_c (ns : List Int) (h0 : ns ≠ []) (hl : ns.length ≤ 2000) : SrcC Try.prog 66 [.sl (ns.map fun n => [di n])] (IsMem ns) di := by
  intro i L at' nn ho
  obtain ⟨code, h1, h2⟩ := c66_ok
  refine callsA_of T1_ok mixed (N := fun t => (i.1 + 1, t)) Try.func66 h1 h2 r66_ok [i] false js_one js_one' (by simp [Try.f66]) ?_
  have hn : InI ns.length := by omega
  have h1 : 1 ≤ ns.length := by cases ns with | nil => exact absurd rfl h0 | cons => simp
  simp (config := { maxSteps := 500000 }) only [↓vp, vv, implies_true, forall_const, undef, InI, ↓reduceIte, simprocAttr, c66, r66, T1, selI, ho, List.length_map]
  refine ⟨hn, fun ⟨at2, ho2⟩ x ⟨hx0, hx1, _⟩ => ?_⟩
  have hx := hx1 (by omega)
  have hk : x.toNat < ns.length := by omega
  rw [getD_map _ ns x.toNat hk]
  simp (config := { maxSteps := 500000 }) only [↓vp, vv, implies_true, forall_const, undef, InI, ↓reduceIte, simprocAttr, hx, hx0]
  exact ⟨at2, _, ho2, List.getElem_mem hk, rfl, rfl⟩
set_option maxHeartbeats 4000000 in
theorem Text_c (ns : List ByteArray) (h0 : ns ≠ []) (hl : ns.length ≤ 2000) : SrcC Try.prog 94 [.sl (ns.map fun n => [ds n])] (IsMem ns) ds := by
  intro i L at' nn ho
  obtain ⟨code, h1, h2⟩ := c94_ok
  refine callsA_of T1_ok mixed (N := fun t => (i.1 + 1, t)) Try.func94 h1 h2 r94_ok [i] false js_one js_one' (by simp [Try.f94]) ?_
  have hn : InI ns.length := by omega
  have h1 : 1 ≤ ns.length := by cases ns with | nil => exact absurd rfl h0 | cons => simp
  simp (config := { maxSteps := 500000 }) only [↓vp, vv, implies_true, forall_const, undef, InI, ↓reduceIte, simprocAttr, c94, r94, T1, selI, ho, List.length_map]
  refine ⟨hn, fun ⟨at2, ho2⟩ x ⟨hx0, hx1, _⟩ => ?_⟩
  have hx := hx1 (by omega)
  have hk : x.toNat < ns.length := by omega
  rw [getD_map _ ns x.toNat hk]
  simp (config := { maxSteps := 500000 }) only [↓vp, vv, implies_true, forall_const, undef, InI, ↓reduceIte, simprocAttr, hx, hx0]
  exact ⟨at2, _, ho2, List.getElem_mem hk, rfl, rfl⟩
def RPost (a b x : Int) : Prop := a ≤ x ∧ (a ≤ b → x ≤ b) ∧ (b < a → x = a)
set_option maxHeartbeats 4000000 in
theorem Range_c (a b : Int) (ha : InI a) (hb : InI b) (hd : b - a < 9223372036854775807) (hd' : -9223372036854775808 ≤ b - a) : SrcC Try.prog 25 [di a, di b] (RPost a b) di := by
  intro i L at' nn ho
  obtain ⟨code, h1, h2⟩ := c25_ok
  refine callsA_of T1_ok mixed (N := fun t => (i.1 + 1, t)) Try.func25 h1 h2 r25_ok [i] false js_one js_one' (by simp [Try.f25]) ?_
  have w1 : IntKind.i64.wrap (b - a) = b - a := wrap_i (by omega)
  have w2 : IntKind.i64.wrap (b - a + 1) = b - a + 1 := wrap_i (by omega)
  have hn : InI (b - a + 1) := by omega
  simp (config := { maxSteps := 500000 }) only [↓vp, vv, implies_true, forall_const, undef, InI, ↓reduceIte, simprocAttr, c25, r25, T1, selI, ho, w1, w2]
  refine ⟨hn, fun ⟨at2, ho2⟩ x ⟨hx0, hx1, hx2⟩ => ?_⟩
  have w3 : IntKind.i64.wrap (a + x) = a + x := wrap_i (by omega)
  try rw [w3]
  exact ⟨at2, _, ho2, ⟨by omega, by omega, by omega⟩, rfl, rfl⟩
/-- Names of made things. -/
def nm1B (f : ByteArray) (n : Int) : ByteArray := f ++ strOf [IntKind.u8.wrap (IntKind.i64.wrap (97 + n.tmod 26))]
set_option maxHeartbeats 4000000 in
theorem name_c (f : ByteArray) (n : Int) (hf : f.size ≤ 1000) (nn : Nm) : CallsA Try.prog 65 [ds f, di n] Hp.none nn (Pu (ds (nm1B f n)) Hp.none) := by
  obtain ⟨code, h1, h2⟩ := c65_ok
  refine callsA_of (T0_ok _) mixed (N := fun t => (0, t)) Try.func65 h1 h2 r65_ok [] false js_nil js_nil' (by simp [Try.f65]) ?_
  simp (config := { maxSteps := 500000 }) only [↓vp, vv, implies_true, forall_const, undef, InI, ↓reduceIte, simprocAttr, c65, r65, bytesD, Pu, nm1B]
  have : (strOf [IntKind.u8.wrap (IntKind.i64.wrap (97 + n.tmod 26))]).size = 1 := by simp [strOf]
  first | exact ⟨by decide, by omega⟩ | omega
theorem js_nn {nn : Nm} : ∀ (j : Nm) (x : En), Hp.none j = some x → j ∈ [nn] := fun j x h => by cases h
theorem js_nn' {nn : Nm} {Hs : Hp} : ∀ j ∈ [nn], (Hs j).isSome = true ∨ j = nn := fun j h => .inr (List.mem_singleton.1 h)
set_option maxHeartbeats 4000000 in
theorem New_c (L : List (List D)) (nn : Nm) : CallsA Try.prog 8 [.sl L] Hp.none nn (Pu (.ptr nn 0 0 0) (Hp.none.put nn (sE (L.take 2000) 0))) := by
  obtain ⟨code, h1, h2⟩ := c8_ok
  refine callsA_of (T0_ok _) mixed (N := fun _ => nn) Try.func8 h1 h2 r8_ok [nn] true js_nn js_nn' (by simp [Try.f8]) ?_
  simp (config := { maxSteps := 500000 }) only [↓vp, vv, implies_true, forall_const, undef, InI, ↓reduceIte, simprocAttr, c8, r8]
  by_cases hb : (2000 : Int) < L.length
  · simp only [if_pos hb]
    (repeat' apply And.intro) <;> first | omega | rfl
  · simp only [if_neg hb]
    have e : ∀ k, L.length ≤ k → List.take k L = List.take 2000 L := fun k hk => by
      rw [List.take_of_length_le hk, List.take_of_length_le (by omega)]
    (repeat' apply And.intro) <;> first | omega | rfl | (rw [e _ (by omega)])
end Go.Proofs.Ytadjhfjiimgddaa

/- Segments out of a source. -/
namespace Go.Proofs.Ytadjhfjiimgddaa
open Go
set_option linter.unusedVariables false
set_option linter.unusedSimpArgs false
set_option maxRecDepth 100000

structure Pt where
  at' : Int
  height : Int
  limit : Int
def Pt.row (p : Pt) : List D := [di p.at', di p.height, di p.limit]
structure Seg where
  name : ByteArray
  fr : Int
  to : Int
  cap : Int
  resist : Int
  wave : Int
  points : List Pt
def Seg.row (s : Seg) : List D := [ds s.name, di s.fr, di s.to, di s.cap, di s.resist, di s.wave, .sl (s.points.map Pt.row)]
def Seg.enc (s : Seg) : D := .agg s.row
def selPick : List D → Option (Prop × (Int → Prop))
  | [.sl rows] => match intsOf rows with
    | some ns => some (ns ≠ [] ∧ ns.length ≤ 2000, IsMem ns)
    | Option.none => Option.none
  | _ => Option.none
def selText : List D → Option (Prop × (ByteArray → Prop))
  | [.sl rows] => match strsOf rows with
    | some ns => some (ns ≠ [] ∧ ns.length ≤ 2000, IsMem ns)
    | Option.none => Option.none
  | _ => Option.none
def selRange : List D → Option (Prop × (Int → Prop))
  | [.v (.int .i64 a), .v (.int .i64 b)] => some ((InI a ∧ InI b) ∧ b - a < 9223372036854775807 ∧ -9223372036854775808 ≤ b - a, RPost a b)
  | _ => Option.none
def selName : List D → Option (Prop × D)
  | [.v (.string f), .v (.int .i64 n)] => some (f.size ≤ 1000, ds (nm1B f n))
  | _ => Option.none
def T2 : Tbl := tc 66 (rowSrc selPick di) (tc 94 (rowSrc selText ds) (tc 25 (rowSrc selRange di) (tc 65 (rowPu selName) T1)))
theorem T2_ok : TblOk Try.prog T2 := by
  refine tc_src f66_ok (fun args pre post h hp => ?_) (tc_src f94_ok (fun args pre post h hp => ?_) (tc_src f25_ok (fun args pre post h hp => ?_) (tc_pu f65_ok (fun args pre d h hp nn => ?_) T1_ok)))
  · unfold selPick at h
    split at h
    · split at h
      · rename_i ns hns
        cases h
        obtain ⟨h0, hl⟩ := hp
        rw [intsOf_eq hns]
        refine ⟨?_, Pick_c _ h0 hl⟩
        cases ns with
        | nil => exact absurd rfl h0
        | cons n ns => exact ⟨n, List.mem_cons_self ..⟩
      · cases h
    · cases h
  · unfold selText at h
    split at h
    · split at h
      · rename_i ns hns
        cases h
        obtain ⟨h0, hl⟩ := hp
        rw [strsOf_eq hns]
        refine ⟨?_, Text_c _ h0 hl⟩
        cases ns with
        | nil => exact absurd rfl h0
        | cons n ns => exact ⟨n, List.mem_cons_self ..⟩
      · cases h
    · cases h
  · unfold selRange at h
    split at h <;> cases h
    obtain ⟨⟨h1, h2⟩, h3, h4⟩ := hp
    exact ⟨⟨_, Int.le_refl _, fun h => h, fun _ => rfl⟩, Range_c _ _ h1 h2 h3 h4⟩
  · unfold selName at h
    split at h <;> cases h
    exact name_c _ _ hp nn
theorem sz1 (b : UInt8) : ByteArray.size { data := #[b] } = 1 := rfl
structure PtsOk (cap lim atv : Int) (pts : List Pt) : Prop where
  asc : pts.Pairwise (fun a b => a.at' < b.at')
  le : ∀ p ∈ pts, p.at' ≤ atv ∧ -500 ≤ p.height ∧ p.height ≤ 5000 ∧ 0 ≤ p.limit ∧ p.limit ≤ 100000000
  hd : pts.head?.map (·.at') = some 0
  lo : 0 ≤ atv
  hi : atv < cap
theorem PtsOk.more {cap lim atv : Int} {pts : List Pt} (h : PtsOk cap lim atv pts) (x : Int) (hx : atv < x) (hc : x < cap) (z l : Int) (hz : -500 ≤ z ∧ z ≤ 5000) (hl : 0 ≤ l ∧ l ≤ 100000000) : PtsOk cap lim x (pts ++ [⟨x, z, l⟩]) := by
  refine ⟨List.pairwise_append.2 ⟨h.asc, List.pairwise_singleton _ _, fun a ha b hb => ?_⟩, fun p hp => ?_, ?_, by have := h.lo; omega, hc⟩
  · rw [List.mem_singleton.1 hb]
    have := (h.le a ha).1
    dsimp only; omega
  · rcases List.mem_append.1 hp with hp | hp
    · have := h.le p hp; omega
    · rw [List.mem_singleton.1 hp]
      dsimp only; omega
  · cases pts with
    | nil => have := h.hd; cases this
    | cons p ps => exact h.hd
/-- The points of a segment of this capacity. -/
structure PtsEnd (cap : Int) (pts : List Pt) : Prop where
  asc : pts.Pairwise (fun a b => a.at' < b.at')
  le : ∀ p ∈ pts, -500 ≤ p.height ∧ p.height ≤ 5000 ∧ 0 ≤ p.limit ∧ p.limit ≤ 100000000
  hd : pts.head?.map (·.at') = some 0
  last : pts.getLast?.map (·.at') = some cap
theorem PtsOk.fin {cap lim atv : Int} {pts : List Pt} (h : PtsOk cap lim atv pts) (z l : Int) (hz : -500 ≤ z ∧ z ≤ 5000) (hl : 0 ≤ l ∧ l ≤ 100000000) : PtsEnd cap (pts ++ [⟨cap, z, l⟩]) := by
  refine ⟨List.pairwise_append.2 ⟨h.asc, List.pairwise_singleton _ _, fun a ha b hb => ?_⟩, fun p hp => ?_, ?_, by simp⟩
  · rw [List.mem_singleton.1 hb]
    have := (h.le a ha).1
    have := h.hi
    dsimp only; omega
  · rcases List.mem_append.1 hp with hp | hp
    · have := h.le p hp; omega
    · rw [List.mem_singleton.1 hp]
      dsimp only; omega
  · cases pts with
    | nil => have := h.hd; cases this
    | cons p ps => exact h.hd
end Go.Proofs.Ytadjhfjiimgddaa

/- Networks out of a source. -/
namespace Go.Proofs.Ytadjhfjiimgddaa
open Go
set_option linter.unusedVariables false
set_option linter.unusedSimpArgs false
set_option maxRecDepth 100000

structure Port where
  name : ByteArray
  node : Int
  press : Int
def Port.row (p : Port) : List D := [ds p.name, di p.node, di p.press]
structure Stn where
  name : ByteArray
  node : Int
  head : Int
  fall : Int
  suct : Int
def Stn.row (s : Stn) : List D := [ds s.name, di s.node, di s.head, di s.fall, di s.suct]
structure Net where
  nodes : List ByteArray
  segs : List Seg
  ports : List Port
  sts : List Stn
  vap : Int
  set : Int
def nmRow (s : ByteArray) : List D := [ds s]
def Net.enc (n : Net) : D := .agg [.sl (n.nodes.map nmRow), .sl (n.segs.map Seg.row), .sl (n.ports.map Port.row), .sl (n.sts.map Stn.row), di n.vap, di n.set]
def AllI {α : Type} (P : Nat → α → Prop) (l : List α) : Prop := ∀ j x, l[j]? = some x → P j x
theorem AllI.nil {α : Type} (P : Nat → α → Prop) : AllI P [] := fun j x h => by simp at h
theorem AllI.snoc {α : Type} {P : Nat → α → Prop} {l : List α} (h : AllI P l) {x : α} (hx : P l.length x) : AllI P (l ++ [x]) := fun j y hj => by
  rcases Nat.lt_trichotomy j l.length with h1 | h1 | h1
  · rw [List.getElem?_append_left h1] at hj; exact h j y hj
  · subst h1; simp at hj; subst hj; exact hx
  · rw [List.getElem?_eq_none (by simp; omega)] at hj; cases hj
theorem AllI.imp {α : Type} {P Q : Nat → α → Prop} {l : List α} (h : AllI P l) (hq : ∀ j x, P j x → Q j x) : AllI Q l := fun j x hj => hq j x (h j x hj)
def PortAt (i : Int) (j : Nat) (p : Port) : Prop := p.name = nm1B ⟨#[113]⟩ j ∧ 0 ≤ p.node ∧ p.node < i ∧ 0 ≤ p.press ∧ p.press ≤ 100000000
def StnAt (i : Int) (j : Nat) (p : Stn) : Prop := p.name = nm1B ⟨#[115]⟩ j ∧ 0 ≤ p.node ∧ p.node < i ∧ 0 ≤ p.head ∧ p.head ≤ 100000000 ∧ 0 ≤ p.fall ∧ p.fall ≤ 100000 ∧ 0 ≤ p.suct ∧ p.suct ≤ 100000000
structure PortsOk (last i : Int) (l : List Port) : Prop where
  all : AllI (PortAt i) l
  asc : l.Pairwise (fun a b => a.node < b.node)
  hd : 0 < i → l.head?.map (·.node) = some 0
  last : last < i → l.getLast?.map (·.node) = some last
  len : (l.length : Int) ≤ i
structure StnsOk (i : Int) (l : List Stn) : Prop where
  all : AllI (StnAt i) l
  asc : l.Pairwise (fun a b => a.node < b.node)
  len : (l.length : Int) ≤ i
theorem pw_snoc {α : Type} {R : α → α → Prop} {l : List α} (h : l.Pairwise R) {x : α} (hx : ∀ a ∈ l, R a x) : (l ++ [x]).Pairwise R := List.pairwise_append.2 ⟨h, List.pairwise_singleton _ _, fun a ha b hb => by rw [List.mem_singleton.1 hb]; exact hx a ha⟩
theorem AllI.mem {α : Type} {P : Nat → α → Prop} {l : List α} (h : AllI P l) {x : α} (hx : x ∈ l) : ∃ j, P j x := by
  obtain ⟨j, hj⟩ := List.getElem?_of_mem hx
  exact ⟨j, h j x hj⟩
theorem PortsOk.add {last i : Int} {l : List Port} (h : PortsOk last i l) (h0 : 0 ≤ i) (hl : i ≤ last) (pr : Int) (hp : 0 ≤ pr ∧ pr ≤ 100000000) : PortsOk last (i + 1) (l ++ [⟨nm1B ⟨#[113]⟩ l.length, i, pr⟩]) := by
  refine ⟨(h.all.imp fun j x hx => ?_).snoc ?_, pw_snoc h.asc fun a ha => ?_, fun _ => ?_, fun hi => ?_, ?_⟩
  · obtain ⟨a, b, c, d⟩ := hx; exact ⟨a, b, by omega, d⟩
  · exact ⟨rfl, h0, by dsimp only; omega, hp⟩
  · obtain ⟨j, hj⟩ := h.all.mem ha; exact hj.2.2.1
  · cases l with
    | nil =>
      have : i = 0 := by
        rcases Int.lt_or_le 0 i with h1 | h1
        · have := h.hd h1; cases this
        · omega
      subst this; rfl
    | cons p ps =>
      have : 0 < i := by have := h.len; simp at this; omega
      exact h.hd this
  · simp; omega
  · have := h.len; simp; omega
theorem PortsOk.skip {last i : Int} {l : List Port} (h : PortsOk last i l) (h0 : 0 < i) (hl : i < last) : PortsOk last (i + 1) l :=
  ⟨h.all.imp fun j x hx => by obtain ⟨a, b, c, d⟩ := hx; exact ⟨a, b, by omega, d⟩, h.asc, fun _ => h.hd h0, fun hi => by omega, by have := h.len; omega⟩
theorem StnsOk.add {i : Int} {l : List Stn} (h : StnsOk i l) (h0 : 0 ≤ i) (hd fl su : Int) (h1 : 0 ≤ hd ∧ hd ≤ 100000000) (h2 : 0 ≤ fl ∧ fl ≤ 100000) (h3 : 0 ≤ su ∧ su ≤ 100000000) : StnsOk (i + 1) (l ++ [⟨nm1B ⟨#[115]⟩ l.length, i, hd, fl, su⟩]) := by
  refine ⟨(h.all.imp fun j x hx => ?_).snoc ?_, pw_snoc h.asc fun a ha => ?_, ?_⟩
  · obtain ⟨a, b, c, d⟩ := hx; exact ⟨a, b, by omega, d⟩
  · exact ⟨rfl, h0, by dsimp only; omega, h1.1, h1.2, h2.1, h2.2, h3⟩
  · obtain ⟨j, hj⟩ := h.all.mem ha; exact hj.2.2.1
  · have := h.len; simp; omega
theorem StnsOk.skip {i : Int} {l : List Stn} (h : StnsOk i l) : StnsOk (i + 1) l :=
  ⟨h.all.imp fun j x hx => by obtain ⟨a, b, c, d⟩ := hx; exact ⟨a, b, by omega, d⟩, h.asc, by have := h.len; omega⟩
end Go.Proofs.Ytadjhfjiimgddaa

/- Networks out of a source: nodes and segments. -/
namespace Go.Proofs.Ytadjhfjiimgddaa
open Go
set_option linter.unusedVariables false
set_option linter.unusedSimpArgs false
set_option maxRecDepth 100000

end Go.Proofs.Ytadjhfjiimgddaa

/- Names of the reference; the names of a network. -/
namespace Go.Proofs.Ytadjhfjiimgddaa
open Go
set_option linter.unusedVariables false
set_option linter.unusedSimpArgs false
set_option maxRecDepth 100000

set_option maxHeartbeats 4000000 in
theorem rname_c (s : ByteArray) (nn : Nm) : CallsA Try.prog 68 [ds s] Hp.none nn (Pu (db (nameB s)) Hp.none) := by
  obtain ⟨code, h1, h2⟩ := c68_ok
  refine callsA_of (T0_ok _) mixed (N := fun t => (0, t)) Try.func68 h1 h2 r68_ok [] false js_nil js_nil' (by simp [Try.f68]) ?_
  by_cases a1 : (s.size : Int) < 1
  · have b1 : s.size < 1 := by omega
    simp (config := { maxSteps := 500000 }) only [↓vp, vv, implies_true, forall_const, undef, InI, ↓reduceIte, simprocAttr, c68, r68, c68_1, c68_2, c68_3, c68_4, c68_5, a1, b1, nameB, Pu, decide_true, decide_false]
  · by_cases a2 : (12 : Int) < s.size
    · have b1 : ¬ s.size < 1 := by omega
      have b2 : 12 < s.size := by omega
      simp (config := { maxSteps := 500000 }) only [↓vp, vv, implies_true, forall_const, undef, InI, ↓reduceIte, simprocAttr, c68, r68, c68_1, c68_2, c68_3, c68_4, c68_5, a1, a2, b1, b2, nameB, Pu, decide_true, decide_false]
    · have b1 : ¬ s.size < 1 := by omega
      have b2 : ¬ 12 < s.size := by omega
      have b3 : (0 : Int) < s.size := by omega
      by_cases a3 : byteI s 0 < 97
      · have p0 : ¬ placeI (byteI s 0) = 1 := by unfold placeI; split <;> (try split) <;> (try split) <;> omega
        simp (config := { maxSteps := 500000 }) only [↓vp, vv, implies_true, forall_const, undef, InI, ↓reduceIte, simprocAttr, c68, r68, c68_1, c68_2, c68_3, c68_4, c68_5, a1, a2, a3, b1, b2, b3, p0, byteI_eq, nameB, Pu, decide_true, decide_false]
      by_cases a4 : 122 < byteI s 0
      · have p0 : ¬ placeI (byteI s 0) = 1 := by unfold placeI; split <;> (try split) <;> (try split) <;> omega
        simp (config := { maxSteps := 500000 }) only [↓vp, vv, implies_true, forall_const, undef, InI, ↓reduceIte, simprocAttr, c68, r68, c68_1, c68_2, c68_3, c68_4, c68_5, a1, a2, a3, a4, b1, b2, b3, p0, byteI_eq, nameB, Pu, decide_true, decide_false]
      have p0 : placeI (byteI s 0) = 1 := by unfold placeI; rw [if_pos (by omega)]
      have e0 : nameB s = (bytesI s).all (fun c => decide (placeI c ≠ 0)) := by unfold nameB; rw [if_neg b1, if_neg b2, if_pos p0]
      rw [e0]
      generalize hb : (bytesI s).all (fun c => decide (placeI c ≠ 0)) = b
      simp (config := { maxSteps := 500000 }) only [↓vp, vv, implies_true, forall_const, undef, InI, ↓reduceIte, simprocAttr, c68, c68_5, a1, a2, a3, a4, b3, byteI_eq, decide_true, decide_false]
      refine rng_loop s.size (fun j => ⟨fr [(0, ds s), (3, di j)], Hp.none⟩) (fun j => ((bytesI s).drop j).all (fun c => decide (placeI c ≠ 0)) = b) (weak0 (by simp (config := { maxSteps := 500000 }) only [↓vp, vv, implies_true, forall_const, undef, InI, ↓reduceIte, simprocAttr, coverS]) (by simp (config := { maxSteps := 500000 }) only [↓vp, vv, implies_true, forall_const, undef, InI, ↓reduceIte, simprocAttr, refsF])) hb (fun j hj he => ?_) (fun he => ?_)
      · have hj' : (j : Int) < s.size := by omega
        have hn := idx_nn j
        have w1 := idx_next (j := j) (by omega)
        obtain ⟨hf, ht⟩ := drop_all (by rw [bytesI_len]; exact hj) he
        rw [bytesI_at] at hf ht
        generalize hc : byteI s j = c at hf ht
        by_cases c1 : c < 97
        · by_cases c2 : c < 48
          · by_cases c3 : c = 45
            · have p0 : ¬ placeI c = 0 := by unfold placeI; split <;> (try split) <;> (try split) <;> omega
              have q : (c != 45) = false := by simp; omega
              simp (config := { maxSteps := 500000 }) only [↓vp, vv, implies_true, forall_const, undef, InI, ↓reduceIte, simprocAttr, c68, r68, c68_1, c68_2, c68_3, c68_4, c68_5, hj', hn, Int.toNat_natCast, byteI_eq, hc, w1, Pu, decide_true, decide_false, c1, c2, q]
              exact rng_next hj (weak0 (by simp (config := { maxSteps := 500000 }) only [↓vp, vv, implies_true, forall_const, undef, InI, ↓reduceIte, simprocAttr, coverS, w1]) (by simp (config := { maxSteps := 500000 }) only [↓vp, vv, implies_true, forall_const, undef, InI, ↓reduceIte, simprocAttr, refsF])) (ht (by simp [p0]))
            · have p0 : placeI c = 0 := by unfold placeI; rw [if_neg (by omega), if_neg (by omega), if_neg (by omega)]
              have e5 : b = false := hf (by simp [p0])
              subst e5
              have q : (c != 45) = true := by simp; omega
              simp (config := { maxSteps := 500000 }) only [↓vp, vv, implies_true, forall_const, undef, InI, ↓reduceIte, simprocAttr, c68, r68, c68_1, c68_2, c68_3, c68_4, c68_5, hj', hn, Int.toNat_natCast, byteI_eq, hc, w1, Pu, decide_true, decide_false, c1, c2, q]
          · by_cases c3 : 57 < c
            · have p0 : placeI c = 0 := by unfold placeI; rw [if_neg (by omega), if_neg (by omega), if_neg (by omega)]
              have e5 : b = false := hf (by simp [p0])
              subst e5
              have q : (c != 45) = true := by simp; omega
              simp (config := { maxSteps := 500000 }) only [↓vp, vv, implies_true, forall_const, undef, InI, ↓reduceIte, simprocAttr, c68, r68, c68_1, c68_2, c68_3, c68_4, c68_5, hj', hn, Int.toNat_natCast, byteI_eq, hc, w1, Pu, decide_true, decide_false, c1, c2, c3, q]
            · have p0 : ¬ placeI c = 0 := by unfold placeI; split <;> (try split) <;> (try split) <;> omega
              simp (config := { maxSteps := 500000 }) only [↓vp, vv, implies_true, forall_const, undef, InI, ↓reduceIte, simprocAttr, c68, r68, c68_1, c68_2, c68_3, c68_4, c68_5, hj', hn, Int.toNat_natCast, byteI_eq, hc, w1, Pu, decide_true, decide_false, c1, c2, c3]
              exact rng_next hj (weak0 (by simp (config := { maxSteps := 500000 }) only [↓vp, vv, implies_true, forall_const, undef, InI, ↓reduceIte, simprocAttr, coverS, w1]) (by simp (config := { maxSteps := 500000 }) only [↓vp, vv, implies_true, forall_const, undef, InI, ↓reduceIte, simprocAttr, refsF])) (ht (by simp [p0]))
        · by_cases c2 : 122 < c
          · have c3 : ¬ c < 48 := by omega
            have c4 : 57 < c := by omega
            have p0 : placeI c = 0 := by unfold placeI; rw [if_neg (by omega), if_neg (by omega), if_neg (by omega)]
            have e5 : b = false := hf (by simp [p0])
            subst e5
            have q : (c != 45) = true := by simp; omega
            simp (config := { maxSteps := 500000 }) only [↓vp, vv, implies_true, forall_const, undef, InI, ↓reduceIte, simprocAttr, c68, r68, c68_1, c68_2, c68_3, c68_4, c68_5, hj', hn, Int.toNat_natCast, byteI_eq, hc, w1, Pu, decide_true, decide_false, c1, c2, c3, c4, q]
          · have p0 : ¬ placeI c = 0 := by unfold placeI; split <;> (try split) <;> (try split) <;> omega
            simp (config := { maxSteps := 500000 }) only [↓vp, vv, implies_true, forall_const, undef, InI, ↓reduceIte, simprocAttr, c68, r68, c68_1, c68_2, c68_3, c68_4, c68_5, hj', hn, Int.toNat_natCast, byteI_eq, hc, w1, Pu, decide_true, decide_false, c1, c2]
            exact rng_next hj (weak0 (by simp (config := { maxSteps := 500000 }) only [↓vp, vv, implies_true, forall_const, undef, InI, ↓reduceIte, simprocAttr, coverS, w1]) (by simp (config := { maxSteps := 500000 }) only [↓vp, vv, implies_true, forall_const, undef, InI, ↓reduceIte, simprocAttr, refsF])) (ht (by simp [p0]))
      · have e5 : b = true := drop_all_end (by rw [bytesI_len]; exact he)
        subst e5
        simp (config := { maxSteps := 500000 }) only [↓vp, vv, implies_true, forall_const, undef, InI, ↓reduceIte, simprocAttr, c68, r68, c68_1, c68_2, c68_3, c68_4, c68_5, Int.lt_irrefl, Pu, decide_true, decide_false]
end Go.Proofs.Ytadjhfjiimgddaa

/- Networks: limits, form; what the checks look for. -/
namespace Go.Proofs.Ytadjhfjiimgddaa
open Go
set_option linter.unusedVariables false
set_option linter.unusedSimpArgs false
set_option maxRecDepth 100000

theorem Seg.done (s : Seg) : doneL s.row = true := rfl
theorem Port.done (s : Port) : doneL s.row = true := rfl
theorem Stn.done (s : Stn) : doneL s.row = true := rfl
/-- Lists out of rows. -/
def lsOf {α : Type} (f : List D → Option α) : List (List D) → Option (List α)
  | [] => some []
  | r :: l => match f r, lsOf f l with
    | some x, some xs => some (x :: xs)
    | _, _ => Option.none
theorem lsOf_map {α : Type} {f : List D → Option α} {g : α → List D} (h : ∀ x, f (g x) = some x) : ∀ (l : List α), lsOf f (l.map g) = some l
  | [] => rfl
  | x :: l => by rw [List.map_cons, lsOf, h x, lsOf_map h l]
theorem lsOf_eq {α : Type} {f : List D → Option α} {g : α → List D} (h : ∀ r x, f r = some x → r = g x) : ∀ {l : List (List D)} {xs : List α}, lsOf f l = some xs → l = xs.map g
  | [], xs, e => by rw [lsOf] at e; cases e; rfl
  | r :: l, xs, e => by
    rw [lsOf] at e
    split at e
    · rename_i h1 h2
      cases e
      rw [h r _ h1, lsOf_eq h h2]; rfl
    · cases e
end Go.Proofs.Ytadjhfjiimgddaa

/- Sources: a new one, networks out of it. -/
namespace Go.Proofs.Ytadjhfjiimgddaa
open Go
set_option linter.unusedVariables false
set_option linter.unusedSimpArgs false
set_option maxRecDepth 100000

/-- The row of keep.New. -/
def rowNew : List D → Hp → Nm → Option (Prop × (D → Hp → Prop)) := fun args Hs nn =>
  match args with
  | [.sl L] => some (Hs = Hp.none, Pu (.ptr nn 0 0 0) (Hp.none.put nn (sE (L.take 2000) 0)))
  | _ => Option.none
theorem tc_new {T : Tbl} (hT : TblOk Try.prog T) : TblOk Try.prog (tc 8 rowNew T) :=
  tc_row f8_ok (fun args Hs nn pre R hr hp => by
    unfold rowNew at hr
    split at hr
    · cases hr
      subst hp
      exact ⟨⟨_, _, rfl, rfl⟩, New_c _ nn⟩
    · cases hr) hT
theorem AllI.one {α : Type} {P : Nat → α → Prop} {x : α} (h : P 0 x) : AllI P [x] := (AllI.nil P).snoc h
theorem AllI.two {α : Type} {P : Nat → α → Prop} {x y : α} (h : P 0 x) (k : P 1 y) : AllI P [x, y] := (AllI.one h).snoc k
def selAw : List D → Option (Prop × D)
  | [] => some (True, db true)
  | _ => Option.none
theorem src_new (ns : List Int) (h : ∀ n ∈ ns, InI n) : SrcOk ((ns.map fun n => [di n]).take 2000) 0 :=
  ⟨Int.le_refl _, Int.natCast_nonneg _, by rw [List.length_take]; omega, ns.take 2000, by rw [List.map_take], fun n hn => h n (List.mem_of_mem_take hn)⟩
end Go.Proofs.Ytadjhfjiimgddaa
