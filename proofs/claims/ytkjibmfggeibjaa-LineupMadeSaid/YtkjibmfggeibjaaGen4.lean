
/- Networks out of a source. -/
import Derived.Test.YtkjibmfggeibjaaGen3
namespace Go.Proofs.Ytkjibmfggeibjaa
open Go
set_option linter.unusedVariables false
set_option linter.unusedSimpArgs false
set_option maxRecDepth 100000

structure Port where
  name : ByteArray
  node : Int
  press : Int
def Port.row (p : Port) : List D := [ds p.name, di p.node, di p.press]
structure Stn where
  name : ByteArray
  node : Int
  head : Int
  fall : Int
  suct : Int
def Stn.row (s : Stn) : List D := [ds s.name, di s.node, di s.head, di s.fall, di s.suct]
structure Net where
  nodes : List ByteArray
  segs : List Seg
  ports : List Port
  sts : List Stn
  vap : Int
  set : Int
def nmRow (s : ByteArray) : List D := [ds s]
def Net.enc (n : Net) : D := .agg [.sl (n.nodes.map nmRow), .sl (n.segs.map Seg.row), .sl (n.ports.map Port.row), .sl (n.sts.map Stn.row), di n.vap, di n.set]
def AllI {α : Type} (P : Nat → α → Prop) (l : List α) : Prop := ∀ j x, l[j]? = some x → P j x
theorem AllI.nil {α : Type} (P : Nat → α → Prop) : AllI P [] := fun j x h => by simp at h
theorem AllI.snoc {α : Type} {P : Nat → α → Prop} {l : List α} (h : AllI P l) {x : α} (hx : P l.length x) : AllI P (l ++ [x]) := fun j y hj => by
  rcases Nat.lt_trichotomy j l.length with h1 | h1 | h1
  · rw [List.getElem?_append_left h1] at hj; exact h j y hj
  · subst h1; simp at hj; subst hj; exact hx
  · rw [List.getElem?_eq_none (by simp; omega)] at hj; cases hj
theorem AllI.imp {α : Type} {P Q : Nat → α → Prop} {l : List α} (h : AllI P l) (hq : ∀ j x, P j x → Q j x) : AllI Q l := fun j x hj => hq j x (h j x hj)
def NodeOk (j : Nat) (s : ByteArray) : Prop := s = nm1B ⟨#[110]⟩ j
def SegAt (last : Int) (j : Nat) (s : Seg) : Prop := ∃ a b, 0 ≤ a ∧ a < b ∧ b ≤ last ∧ SegOk j a b s ∧ ((j : Int) < last → a = j ∧ b = j + 1)
def PortAt (i : Int) (j : Nat) (p : Port) : Prop := p.name = nm1B ⟨#[113]⟩ j ∧ 0 ≤ p.node ∧ p.node < i ∧ 0 ≤ p.press ∧ p.press ≤ 100000000
def StnAt (i : Int) (j : Nat) (p : Stn) : Prop := p.name = nm1B ⟨#[115]⟩ j ∧ 0 ≤ p.node ∧ p.node < i ∧ 0 ≤ p.head ∧ p.head ≤ 100000000 ∧ 0 ≤ p.fall ∧ p.fall ≤ 100000 ∧ 0 ≤ p.suct ∧ p.suct ≤ 100000000
structure PortsOk (last i : Int) (l : List Port) : Prop where
  all : AllI (PortAt i) l
  asc : l.Pairwise (fun a b => a.node < b.node)
  hd : 0 < i → l.head?.map (·.node) = some 0
  last : last < i → l.getLast?.map (·.node) = some last
  len : (l.length : Int) ≤ i
structure StnsOk (i : Int) (l : List Stn) : Prop where
  all : AllI (StnAt i) l
  asc : l.Pairwise (fun a b => a.node < b.node)
  len : (l.length : Int) ≤ i
structure NetOk (n : Net) : Prop where
  nodes : AllI NodeOk n.nodes
  nlen : 2 ≤ n.nodes.length ∧ n.nodes.length ≤ 6
  segs : AllI (SegAt (n.nodes.length - 1)) n.segs
  slen : n.nodes.length - 1 ≤ n.segs.length ∧ n.segs.length ≤ n.nodes.length + 2
  ports : PortsOk (n.nodes.length - 1) n.nodes.length n.ports
  sts : StnsOk (n.nodes.length - 1) n.sts
  vap : -100000 ≤ n.vap ∧ n.vap ≤ 50000
  set : 0 ≤ n.set ∧ n.set ≤ 100
theorem pw_snoc {α : Type} {R : α → α → Prop} {l : List α} (h : l.Pairwise R) {x : α} (hx : ∀ a ∈ l, R a x) : (l ++ [x]).Pairwise R := List.pairwise_append.2 ⟨h, List.pairwise_singleton _ _, fun a ha b hb => by rw [List.mem_singleton.1 hb]; exact hx a ha⟩
theorem AllI.mem {α : Type} {P : Nat → α → Prop} {l : List α} (h : AllI P l) {x : α} (hx : x ∈ l) : ∃ j, P j x := by
  obtain ⟨j, hj⟩ := List.getElem?_of_mem hx
  exact ⟨j, h j x hj⟩
theorem PortsOk.add {last i : Int} {l : List Port} (h : PortsOk last i l) (h0 : 0 ≤ i) (hl : i ≤ last) (pr : Int) (hp : 0 ≤ pr ∧ pr ≤ 100000000) : PortsOk last (i + 1) (l ++ [⟨nm1B ⟨#[113]⟩ l.length, i, pr⟩]) := by
  refine ⟨(h.all.imp fun j x hx => ?_).snoc ?_, pw_snoc h.asc fun a ha => ?_, fun _ => ?_, fun hi => ?_, ?_⟩
  · obtain ⟨a, b, c, d⟩ := hx; exact ⟨a, b, by omega, d⟩
  · exact ⟨rfl, h0, by dsimp only; omega, hp⟩
  · obtain ⟨j, hj⟩ := h.all.mem ha; exact hj.2.2.1
  · cases l with
    | nil =>
      have : i = 0 := by
        rcases Int.lt_or_le 0 i with h1 | h1
        · have := h.hd h1; cases this
        · omega
      subst this; rfl
    | cons p ps =>
      have : 0 < i := by have := h.len; simp at this; omega
      exact h.hd this
  · simp; omega
  · have := h.len; simp; omega
theorem PortsOk.skip {last i : Int} {l : List Port} (h : PortsOk last i l) (h0 : 0 < i) (hl : i < last) : PortsOk last (i + 1) l :=
  ⟨h.all.imp fun j x hx => by obtain ⟨a, b, c, d⟩ := hx; exact ⟨a, b, by omega, d⟩, h.asc, fun _ => h.hd h0, fun hi => by omega, by have := h.len; omega⟩
theorem StnsOk.add {i : Int} {l : List Stn} (h : StnsOk i l) (h0 : 0 ≤ i) (hd fl su : Int) (h1 : 0 ≤ hd ∧ hd ≤ 100000000) (h2 : 0 ≤ fl ∧ fl ≤ 100000) (h3 : 0 ≤ su ∧ su ≤ 100000000) : StnsOk (i + 1) (l ++ [⟨nm1B ⟨#[115]⟩ l.length, i, hd, fl, su⟩]) := by
  refine ⟨(h.all.imp fun j x hx => ?_).snoc ?_, pw_snoc h.asc fun a ha => ?_, ?_⟩
  · obtain ⟨a, b, c, d⟩ := hx; exact ⟨a, b, by omega, d⟩
  · exact ⟨rfl, h0, by dsimp only; omega, h1.1, h1.2, h2.1, h2.2, h3⟩
  · obtain ⟨j, hj⟩ := h.all.mem ha; exact hj.2.2.1
  · have := h.len; simp; omega
theorem StnsOk.skip {i : Int} {l : List Stn} (h : StnsOk i l) : StnsOk (i + 1) l :=
  ⟨h.all.imp fun j x hx => by obtain ⟨a, b, c, d⟩ := hx; exact ⟨a, b, by omega, d⟩, h.asc, by have := h.len; omega⟩
def selSeg : List D → Option (Prop × (Seg → Prop))
  | [.v (.int .i64 k), .v (.int .i64 a), .v (.int .i64 b)] => some (InI k, SegOk k a b)
  | _ => Option.none
def T3 : Tbl := tc 81 (rowSrc selSeg Seg.enc) T2
theorem segOk_ex (k a b : Int) : SegOk k a b ⟨nm1B ⟨#[103]⟩ k, a, b, 1, 0, 0, [⟨0, 0, 0⟩, ⟨1, 0, 0⟩]⟩ :=
  ⟨rfl, (.inl ⟨rfl, rfl⟩), by simp, by simp, by simp, by simp, ⟨by simp, by simp, rfl, rfl⟩⟩
theorem T3_ok : TblOk Try.prog T3 := by
  refine tc_src f81_ok (fun args pre post h hp => ?_) T2_ok
  unfold selSeg at h
  split at h <;> cases h
  exact ⟨⟨_, segOk_ex _ _ _⟩, Segment_c _ _ _ hp⟩
def NetHp (i : Nm) (L : List (List D)) (at' : Int) (g1 : Nat) (nodes : List ByteArray) (g2 : Nat) (segs : List Seg) (g3 : Nat) (ports : List Port) (g4 : Nat) (sts : List Stn) (vap set : Int) : Hp :=
  ((((((Hp.none.put (i.1 + 1, 1004) ⟨g4, 5, sts.map Stn.row⟩).put (i.1 + 1, 1003) ⟨g3, 3, ports.map Port.row⟩).put (i.1 + 1, 1002) ⟨g2, 7, segs.map Seg.row⟩).put (i.1 + 1, 1001) ⟨g1, 1, nodes.map nmRow⟩).put (i.1 + 1, 3) ⟨0, 6, [[.own (i.1 + 1, 1001) g1 0 nodes.length, .own (i.1 + 1, 1002) g2 0 segs.length, .own (i.1 + 1, 1003) g3 0 ports.length, .own (i.1 + 1, 1004) g4 0 sts.length, di vap, di set]]⟩).put (i.1 + 1, 2) ⟨0, 6, [[.mt, .mt, .mt, .mt, di 0, di 0]]⟩).put i (sE L at')
def NetFr (i : Nm) (l : List (Nat × D)) : List (Nat × D) := (0, .ptr i 0 0 0) :: (2, .ptr (i.1 + 1, 2) 0 0 0) :: (3, .ptr (i.1 + 1, 3) 0 0 0) :: l
def NetI4 (i : Nm) (L : List (List D)) (nodes : List ByteArray) (segs : List Seg) (vap set : Int) : Nat → St → Prop := fun k s => ∃ at' g1 g2 g3 g4 ports sts j, SrcOk L at' ∧ PortsOk (nodes.length - 1) j ports ∧ StnsOk (min j (nodes.length - 1)) sts ∧ 0 ≤ j ∧ j + k = nodes.length ∧ s = ⟨fr (NetFr i [(5, di (nodes.length - 1)), (9, di j)]), NetHp i L at' g1 nodes g2 segs g3 ports g4 sts vap set⟩
set_option maxHeartbeats 8000000 in
theorem Net_4 (i : Nm) (L : List (List D)) (at' : Int) (ho : SrcOk L at') (g1 : Nat) (nodes : List ByteArray) (g2 : Nat) (segs : List Seg) (vap set : Int) (hn : AllI NodeOk nodes) (hn2 : 2 ≤ nodes.length ∧ nodes.length ≤ 6) (hs : AllI (SegAt (nodes.length - 1)) segs) (hs2 : nodes.length - 1 ≤ segs.length ∧ segs.length ≤ nodes.length + 2) (hv : -100000 ≤ vap ∧ vap ≤ 50000) (hset : 0 ≤ set ∧ set ≤ 100) :
    vc T3 (fun t => (i.1 + 1, t)) [i] c19_12 (finQ r19 [i] false (SrcR i L NetOk Net.enc)) ⟨fr (NetFr i [(5, di (nodes.length - 1))]), NetHp i L at' g1 nodes g2 segs 0 [] 0 [] vap set⟩ := by
  simp (config := { maxSteps := 500000 }) only [↓vp, vv, implies_true, forall_const, undef, InI, ↓reduceIte, simprocAttr, c19_12]
  rw [vc_loop]
  refine ⟨NetI4 i L nodes segs vap set, ⟨nodes.length, _, (weak_eq [] [i, (i.1 + 1, 2), (i.1 + 1, 3), (i.1 + 1, 1001), (i.1 + 1, 1002), (i.1 + 1, 1003), (i.1 + 1, 1004)] (NetFr i [(5, di (nodes.length - 1)), (9, di 0)]) (by simp (config := { maxSteps := 500000 }) only [↓vp, vv, implies_true, forall_const, undef, InI, ↓reduceIte, simprocAttr, coverS, NetFr, NetHp, Seg.row, nmRow]) (by simp (config := { maxSteps := 500000 }) only [↓vp, vv, implies_true, forall_const, undef, InI, ↓reduceIte, simprocAttr, refsF, NetFr, NetHp, Seg.row, nmRow]) (by simp (config := { maxSteps := 500000 }) only [↓vp, vv, implies_true, forall_const, undef, InI, ↓reduceIte, simprocAttr, NetFr, NetHp, Seg.row, nmRow]) (by simp) (by simp (config := { maxSteps := 500000 }) only [↓vp, vv, implies_true, forall_const, undef, InI, ↓reduceIte, simprocAttr, NetFr, NetHp, Seg.row, nmRow]; try rfl)), ⟨at', g1, g2, 0, 0, [], [], 0, ho, ⟨AllI.nil _, List.Pairwise.nil, fun h => by omega, fun h => by omega, by simp⟩, ⟨AllI.nil _, List.Pairwise.nil, by simp; omega⟩, by omega, by omega, rfl⟩⟩, ?_⟩
  rintro m s ⟨at1, g1, g2, g3, g4, ports, sts, j, o1, hp, ht, hj0, hjm, rfl⟩
  have hpl := hp.len
  have htl := ht.len
  by_cases h1 : j ≤ (nodes.length : Int) - 1
  · have wj : IntKind.i64.wrap (j + 1) = j + 1 := wrap_i (by omega)
    have hsz : ports.length ≤ 4611686018427387903 := by omega
    have hPadd : ∀ pr, 0 ≤ pr ∧ pr ≤ 100000000 → PortsOk (nodes.length - 1) (j + 1) (ports ++ [⟨nm1B ⟨#[113]⟩ ports.length, j, pr⟩]) := fun pr h => hp.add hj0 h1 pr h
    have hSskip : StnsOk (min (j + 1) (nodes.length - 1)) sts := by
      by_cases h : j < (nodes.length : Int) - 1
      · have := ht.skip
        rw [show min j ((nodes.length : Int) - 1) + 1 = min (j + 1) (nodes.length - 1) by omega] at this
        exact this
      · rw [show min (j + 1) ((nodes.length : Int) - 1) = min j (nodes.length - 1) by omega]
        exact ht
    have hSadd : j < (nodes.length : Int) - 1 → ∀ hd fl su, (0 ≤ hd ∧ hd ≤ 100000000) → (0 ≤ fl ∧ fl ≤ 100000) → (0 ≤ su ∧ su ≤ 100000000) → StnsOk (min (j + 1) (nodes.length - 1)) (sts ++ [⟨nm1B ⟨#[115]⟩ sts.length, j, hd, fl, su⟩]) := fun h hd fl su h1 h2 h3 => by
      have e : min j ((nodes.length : Int) - 1) = j := by omega
      rw [e] at ht
      rw [show min (j + 1) ((nodes.length : Int) - 1) = j + 1 by omega]
      exact ht.add hj0 hd fl su h1 h2 h3
    by_cases h0 : j = 0
    · have e0 : (j == 0) = true := beq_iff_eq.2 h0
      have h2 : j < (nodes.length : Int) - 1 := by omega
      simp (config := { maxSteps := 500000 }) only [↓vp, vv, implies_true, forall_const, undef, InI, ↓reduceIte, simprocAttr, c19, r19, c19_1, c19_10, c19_11, c19_12, c19_13, c19_14, c19_2, c19_3, c19_4, c19_5, c19_6, c19_7, c19_8, c19_9, T3, T2, T1, selI, selPick, selRange, selName, selSeg, o1, NetHp, NetFr, h1, Seg.row, nmRow, Port.row, Stn.row, sz1, e0, h2]
      intro a1 pr hpr
      simp [IsMem] at hpr
      refine ⟨⟨by omega, by omega⟩, ?_⟩
      intro a2 x hx
      split
      · intro a3 hd hhd a4 fl hfl a5 su hsu
        simp [IsMem] at hhd hfl hsu
        refine ⟨⟨by omega, by omega⟩, m - 1, _, by omega, (weak_eq [] [i, (i.1 + 1, 2), (i.1 + 1, 3), (i.1 + 1, 1001), (i.1 + 1, 1002), (i.1 + 1, 1003), (i.1 + 1, 1004)] (NetFr i [(5, di (nodes.length - 1)), (9, di (j + 1))]) (by simp (config := { maxSteps := 500000 }) only [↓vp, vv, implies_true, forall_const, undef, InI, ↓reduceIte, simprocAttr, coverS, NetFr, NetHp, Seg.row, nmRow, Port.row, Stn.row, wj]) (by simp (config := { maxSteps := 500000 }) only [↓vp, vv, implies_true, forall_const, undef, InI, ↓reduceIte, simprocAttr, refsF, NetFr, NetHp, Seg.row, nmRow, Port.row, Stn.row, wj]) (by simp (config := { maxSteps := 500000 }) only [↓vp, vv, implies_true, forall_const, undef, InI, ↓reduceIte, simprocAttr, NetFr, NetHp, Seg.row, nmRow, Port.row, Stn.row, wj]) (by simp) (by simp (config := { maxSteps := 500000 }) only [↓vp, vv, implies_true, forall_const, undef, InI, ↓reduceIte, simprocAttr, NetFr, NetHp, Seg.row, nmRow, Port.row, Stn.row, wj]; try rfl)), ⟨a5.1, g1, g2, (g3 + 1), (g4 + 1), (ports ++ [⟨_, j, pr⟩]), (sts ++ [⟨_, j, hd, fl, su⟩]), j + 1, a5.2, (hPadd pr (by omega)), (hSadd (by omega) hd fl su (by omega) (by omega) (by omega)), by omega, by omega, ?_⟩⟩
        simp [NetHp, NetFr, Port.row, Stn.row, sE]
      · refine ⟨m - 1, _, by omega, (weak_eq [] [i, (i.1 + 1, 2), (i.1 + 1, 3), (i.1 + 1, 1001), (i.1 + 1, 1002), (i.1 + 1, 1003), (i.1 + 1, 1004)] (NetFr i [(5, di (nodes.length - 1)), (9, di (j + 1))]) (by simp (config := { maxSteps := 500000 }) only [↓vp, vv, implies_true, forall_const, undef, InI, ↓reduceIte, simprocAttr, coverS, NetFr, NetHp, Seg.row, nmRow, Port.row, Stn.row, wj]) (by simp (config := { maxSteps := 500000 }) only [↓vp, vv, implies_true, forall_const, undef, InI, ↓reduceIte, simprocAttr, refsF, NetFr, NetHp, Seg.row, nmRow, Port.row, Stn.row, wj]) (by simp (config := { maxSteps := 500000 }) only [↓vp, vv, implies_true, forall_const, undef, InI, ↓reduceIte, simprocAttr, NetFr, NetHp, Seg.row, nmRow, Port.row, Stn.row, wj]) (by simp) (by simp (config := { maxSteps := 500000 }) only [↓vp, vv, implies_true, forall_const, undef, InI, ↓reduceIte, simprocAttr, NetFr, NetHp, Seg.row, nmRow, Port.row, Stn.row, wj]; try rfl)), ⟨a2.1, g1, g2, (g3 + 1), g4, (ports ++ [⟨_, j, pr⟩]), sts, j + 1, a2.2, (hPadd pr (by omega)), hSskip, by omega, by omega, ?_⟩⟩
        simp [NetHp, NetFr, Port.row, Stn.row, sE]
    · have e0 : (j == 0) = false := beq_false_of_ne (by omega)
      by_cases h2 : j = (nodes.length : Int) - 1
      · have e1 : (j == (nodes.length : Int) - 1) = true := beq_iff_eq.2 h2
        have h3 : ¬ j < (nodes.length : Int) - 1 := by omega
        simp (config := { maxSteps := 500000 }) only [↓vp, vv, implies_true, forall_const, undef, InI, ↓reduceIte, simprocAttr, c19, r19, c19_1, c19_10, c19_11, c19_12, c19_13, c19_14, c19_2, c19_3, c19_4, c19_5, c19_6, c19_7, c19_8, c19_9, T3, T2, T1, selI, selPick, selRange, selName, selSeg, o1, NetHp, NetFr, h1, Seg.row, nmRow, Port.row, Stn.row, sz1, e0, e1, h3]
        intro a1 pr hpr
        simp [IsMem] at hpr
        refine ⟨⟨by omega, by omega⟩, m - 1, _, by omega, (weak_eq [] [i, (i.1 + 1, 2), (i.1 + 1, 3), (i.1 + 1, 1001), (i.1 + 1, 1002), (i.1 + 1, 1003), (i.1 + 1, 1004)] (NetFr i [(5, di (nodes.length - 1)), (9, di (j + 1))]) (by simp (config := { maxSteps := 500000 }) only [↓vp, vv, implies_true, forall_const, undef, InI, ↓reduceIte, simprocAttr, coverS, NetFr, NetHp, Seg.row, nmRow, Port.row, Stn.row, wj]) (by simp (config := { maxSteps := 500000 }) only [↓vp, vv, implies_true, forall_const, undef, InI, ↓reduceIte, simprocAttr, refsF, NetFr, NetHp, Seg.row, nmRow, Port.row, Stn.row, wj]) (by simp (config := { maxSteps := 500000 }) only [↓vp, vv, implies_true, forall_const, undef, InI, ↓reduceIte, simprocAttr, NetFr, NetHp, Seg.row, nmRow, Port.row, Stn.row, wj]) (by simp) (by simp (config := { maxSteps := 500000 }) only [↓vp, vv, implies_true, forall_const, undef, InI, ↓reduceIte, simprocAttr, NetFr, NetHp, Seg.row, nmRow, Port.row, Stn.row, wj]; try rfl)), ⟨a1.1, g1, g2, (g3 + 1), g4, (ports ++ [⟨_, j, pr⟩]), sts, j + 1, a1.2, (hPadd pr (by omega)), hSskip, by omega, by omega, ?_⟩⟩
        simp [NetHp, NetFr, Port.row, Stn.row, sE]
      · have e1 : (j == (nodes.length : Int) - 1) = false := beq_false_of_ne h2
        have h3 : j < (nodes.length : Int) - 1 := by omega
        have hPskip : PortsOk (nodes.length - 1) (j + 1) ports := hp.skip (by omega) h3
        simp (config := { maxSteps := 500000 }) only [↓vp, vv, implies_true, forall_const, undef, InI, ↓reduceIte, simprocAttr, c19, r19, c19_1, c19_10, c19_11, c19_12, c19_13, c19_14, c19_2, c19_3, c19_4, c19_5, c19_6, c19_7, c19_8, c19_9, T3, T2, T1, selI, selPick, selRange, selName, selSeg, o1, NetHp, NetFr, h1, Seg.row, nmRow, Port.row, Stn.row, sz1, e0, e1, h3]
        intro a0 y hy
        split
        · intro a1 pr hpr
          simp [IsMem] at hpr
          refine ⟨⟨by omega, by omega⟩, ?_⟩
          intro a2 x hx
          split
          · intro a3 hd hhd a4 fl hfl a5 su hsu
            simp [IsMem] at hhd hfl hsu
            refine ⟨⟨by omega, by omega⟩, m - 1, _, by omega, (weak_eq [] [i, (i.1 + 1, 2), (i.1 + 1, 3), (i.1 + 1, 1001), (i.1 + 1, 1002), (i.1 + 1, 1003), (i.1 + 1, 1004)] (NetFr i [(5, di (nodes.length - 1)), (9, di (j + 1))]) (by simp (config := { maxSteps := 500000 }) only [↓vp, vv, implies_true, forall_const, undef, InI, ↓reduceIte, simprocAttr, coverS, NetFr, NetHp, Seg.row, nmRow, Port.row, Stn.row, wj]) (by simp (config := { maxSteps := 500000 }) only [↓vp, vv, implies_true, forall_const, undef, InI, ↓reduceIte, simprocAttr, refsF, NetFr, NetHp, Seg.row, nmRow, Port.row, Stn.row, wj]) (by simp (config := { maxSteps := 500000 }) only [↓vp, vv, implies_true, forall_const, undef, InI, ↓reduceIte, simprocAttr, NetFr, NetHp, Seg.row, nmRow, Port.row, Stn.row, wj]) (by simp) (by simp (config := { maxSteps := 500000 }) only [↓vp, vv, implies_true, forall_const, undef, InI, ↓reduceIte, simprocAttr, NetFr, NetHp, Seg.row, nmRow, Port.row, Stn.row, wj]; try rfl)), ⟨a5.1, g1, g2, (g3 + 1), (g4 + 1), (ports ++ [⟨_, j, pr⟩]), (sts ++ [⟨_, j, hd, fl, su⟩]), j + 1, a5.2, (hPadd pr (by omega)), (hSadd (by omega) hd fl su (by omega) (by omega) (by omega)), by omega, by omega, ?_⟩⟩
            simp [NetHp, NetFr, Port.row, Stn.row, sE]
          · refine ⟨m - 1, _, by omega, (weak_eq [] [i, (i.1 + 1, 2), (i.1 + 1, 3), (i.1 + 1, 1001), (i.1 + 1, 1002), (i.1 + 1, 1003), (i.1 + 1, 1004)] (NetFr i [(5, di (nodes.length - 1)), (9, di (j + 1))]) (by simp (config := { maxSteps := 500000 }) only [↓vp, vv, implies_true, forall_const, undef, InI, ↓reduceIte, simprocAttr, coverS, NetFr, NetHp, Seg.row, nmRow, Port.row, Stn.row, wj]) (by simp (config := { maxSteps := 500000 }) only [↓vp, vv, implies_true, forall_const, undef, InI, ↓reduceIte, simprocAttr, refsF, NetFr, NetHp, Seg.row, nmRow, Port.row, Stn.row, wj]) (by simp (config := { maxSteps := 500000 }) only [↓vp, vv, implies_true, forall_const, undef, InI, ↓reduceIte, simprocAttr, NetFr, NetHp, Seg.row, nmRow, Port.row, Stn.row, wj]) (by simp) (by simp (config := { maxSteps := 500000 }) only [↓vp, vv, implies_true, forall_const, undef, InI, ↓reduceIte, simprocAttr, NetFr, NetHp, Seg.row, nmRow, Port.row, Stn.row, wj]; try rfl)), ⟨a2.1, g1, g2, (g3 + 1), g4, (ports ++ [⟨_, j, pr⟩]), sts, j + 1, a2.2, (hPadd pr (by omega)), hSskip, by omega, by omega, ?_⟩⟩
            simp [NetHp, NetFr, Port.row, Stn.row, sE]
        · intro a2 x hx
          split
          · intro a3 hd hhd a4 fl hfl a5 su hsu
            simp [IsMem] at hhd hfl hsu
            refine ⟨⟨by omega, by omega⟩, m - 1, _, by omega, (weak_eq [] [i, (i.1 + 1, 2), (i.1 + 1, 3), (i.1 + 1, 1001), (i.1 + 1, 1002), (i.1 + 1, 1003), (i.1 + 1, 1004)] (NetFr i [(5, di (nodes.length - 1)), (9, di (j + 1))]) (by simp (config := { maxSteps := 500000 }) only [↓vp, vv, implies_true, forall_const, undef, InI, ↓reduceIte, simprocAttr, coverS, NetFr, NetHp, Seg.row, nmRow, Port.row, Stn.row, wj]) (by simp (config := { maxSteps := 500000 }) only [↓vp, vv, implies_true, forall_const, undef, InI, ↓reduceIte, simprocAttr, refsF, NetFr, NetHp, Seg.row, nmRow, Port.row, Stn.row, wj]) (by simp (config := { maxSteps := 500000 }) only [↓vp, vv, implies_true, forall_const, undef, InI, ↓reduceIte, simprocAttr, NetFr, NetHp, Seg.row, nmRow, Port.row, Stn.row, wj]) (by simp) (by simp (config := { maxSteps := 500000 }) only [↓vp, vv, implies_true, forall_const, undef, InI, ↓reduceIte, simprocAttr, NetFr, NetHp, Seg.row, nmRow, Port.row, Stn.row, wj]; try rfl)), ⟨a5.1, g1, g2, g3, (g4 + 1), ports, (sts ++ [⟨_, j, hd, fl, su⟩]), j + 1, a5.2, hPskip, (hSadd (by omega) hd fl su (by omega) (by omega) (by omega)), by omega, by omega, ?_⟩⟩
            simp [NetHp, NetFr, Port.row, Stn.row, sE]
          · refine ⟨m - 1, _, by omega, (weak_eq [] [i, (i.1 + 1, 2), (i.1 + 1, 3), (i.1 + 1, 1001), (i.1 + 1, 1002), (i.1 + 1, 1003), (i.1 + 1, 1004)] (NetFr i [(5, di (nodes.length - 1)), (9, di (j + 1))]) (by simp (config := { maxSteps := 500000 }) only [↓vp, vv, implies_true, forall_const, undef, InI, ↓reduceIte, simprocAttr, coverS, NetFr, NetHp, Seg.row, nmRow, Port.row, Stn.row, wj]) (by simp (config := { maxSteps := 500000 }) only [↓vp, vv, implies_true, forall_const, undef, InI, ↓reduceIte, simprocAttr, refsF, NetFr, NetHp, Seg.row, nmRow, Port.row, Stn.row, wj]) (by simp (config := { maxSteps := 500000 }) only [↓vp, vv, implies_true, forall_const, undef, InI, ↓reduceIte, simprocAttr, NetFr, NetHp, Seg.row, nmRow, Port.row, Stn.row, wj]) (by simp) (by simp (config := { maxSteps := 500000 }) only [↓vp, vv, implies_true, forall_const, undef, InI, ↓reduceIte, simprocAttr, NetFr, NetHp, Seg.row, nmRow, Port.row, Stn.row, wj]; try rfl)), ⟨a2.1, g1, g2, g3, g4, ports, sts, j + 1, a2.2, hPskip, hSskip, by omega, by omega, ?_⟩⟩
            simp [NetHp, NetFr, Port.row, Stn.row, sE]
  · simp (config := { maxSteps := 500000 }) only [↓vp, vv, implies_true, forall_const, undef, InI, ↓reduceIte, simprocAttr, c19, r19, c19_1, c19_10, c19_11, c19_12, c19_13, c19_14, c19_2, c19_3, c19_4, c19_5, c19_6, c19_7, c19_8, c19_9, T3, T2, T1, selI, selPick, selRange, selName, selSeg, o1, NetHp, NetFr, h1, Seg.row, nmRow, Port.row, Stn.row, sz1]
    refine ⟨at1, ⟨nodes, segs, ports, sts, vap, set⟩, o1, ⟨hn, hn2, hs, hs2, ?_, ?_, hv, hset⟩, rfl, rfl⟩
    · have e : j = (nodes.length : Int) := by omega
      subst e
      exact hp
    · have e : min j ((nodes.length : Int) - 1) = nodes.length - 1 := by omega
      rw [e] at ht
      exact ht
end Go.Proofs.Ytkjibmfggeibjaa
