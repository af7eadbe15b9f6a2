/- FlowAnswers: Gen4 Gen5. -/
import Derived.Test.YtkjibmfggeibjaaFaG6

/- Networks out of a source. -/
namespace Go.Proofs.Ytkjibmfggeibjaa
open Go
set_option linter.unusedVariables false
set_option linter.unusedSimpArgs false
set_option maxRecDepth 100000

structure Port where
  name : ByteArray
  node : Int
  press : Int
def Port.row (p : Port) : List D := [ds p.name, di p.node, di p.press]
structure Stn where
  name : ByteArray
  node : Int
  head : Int
  fall : Int
  suct : Int
def Stn.row (s : Stn) : List D := [ds s.name, di s.node, di s.head, di s.fall, di s.suct]
structure Net where
  nodes : List ByteArray
  segs : List Seg
  ports : List Port
  sts : List Stn
  vap : Int
  set : Int
def nmRow (s : ByteArray) : List D := [ds s]
def Net.enc (n : Net) : D := .agg [.sl (n.nodes.map nmRow), .sl (n.segs.map Seg.row), .sl (n.ports.map Port.row), .sl (n.sts.map Stn.row), di n.vap, di n.set]
def AllI {α : Type} (P : Nat → α → Prop) (l : List α) : Prop := ∀ j x, l[j]? = some x → P j x
theorem AllI.nil {α : Type} (P : Nat → α → Prop) : AllI P [] := fun j x h => by simp at h
theorem AllI.snoc {α : Type} {P : Nat → α → Prop} {l : List α} (h : AllI P l) {x : α} (hx : P l.length x) : AllI P (l ++ [x]) := fun j y hj => by
  rcases Nat.lt_trichotomy j l.length with h1 | h1 | h1
  · rw [List.getElem?_append_left h1] at hj; exact h j y hj
  · subst h1; simp at hj; subst hj; exact hx
  · rw [List.getElem?_eq_none (by simp; omega)] at hj; cases hj
theorem AllI.imp {α : Type} {P Q : Nat → α → Prop} {l : List α} (h : AllI P l) (hq : ∀ j x, P j x → Q j x) : AllI Q l := fun j x hj => hq j x (h j x hj)
def NodeOk (j : Nat) (s : ByteArray) : Prop := s = nm1B ⟨#[110]⟩ j
def SegAt (last : Int) (j : Nat) (s : Seg) : Prop := ∃ a b, 0 ≤ a ∧ a < b ∧ b ≤ last ∧ SegOk j a b s ∧ ((j : Int) < last → a = j ∧ b = j + 1)
def PortAt (i : Int) (j : Nat) (p : Port) : Prop := p.name = nm1B ⟨#[113]⟩ j ∧ 0 ≤ p.node ∧ p.node < i ∧ 0 ≤ p.press ∧ p.press ≤ 100000000
def StnAt (i : Int) (j : Nat) (p : Stn) : Prop := p.name = nm1B ⟨#[115]⟩ j ∧ 0 ≤ p.node ∧ p.node < i ∧ 0 ≤ p.head ∧ p.head ≤ 100000000 ∧ 0 ≤ p.fall ∧ p.fall ≤ 100000 ∧ 0 ≤ p.suct ∧ p.suct ≤ 100000000
structure PortsOk (last i : Int) (l : List Port) : Prop where
  all : AllI (PortAt i) l
  asc : l.Pairwise (fun a b => a.node < b.node)
  hd : 0 < i → l.head?.map (·.node) = some 0
  last : last < i → l.getLast?.map (·.node) = some last
  len : (l.length : Int) ≤ i
structure StnsOk (i : Int) (l : List Stn) : Prop where
  all : AllI (StnAt i) l
  asc : l.Pairwise (fun a b => a.node < b.node)
  len : (l.length : Int) ≤ i
structure NetOk (n : Net) : Prop where
  nodes : AllI NodeOk n.nodes
  nlen : 2 ≤ n.nodes.length ∧ n.nodes.length ≤ 6
  segs : AllI (SegAt (n.nodes.length - 1)) n.segs
  slen : n.nodes.length - 1 ≤ n.segs.length ∧ n.segs.length ≤ n.nodes.length + 2
  ports : PortsOk (n.nodes.length - 1) n.nodes.length n.ports
  sts : StnsOk (n.nodes.length - 1) n.sts
  vap : -100000 ≤ n.vap ∧ n.vap ≤ 50000
  set : 0 ≤ n.set ∧ n.set ≤ 100
theorem pw_snoc {α : Type} {R : α → α → Prop} {l : List α} (h : l.Pairwise R) {x : α} (hx : ∀ a ∈ l, R a x) : (l ++ [x]).Pairwise R := List.pairwise_append.2 ⟨h, List.pairwise_singleton _ _, fun a ha b hb => by rw [List.mem_singleton.1 hb]; exact hx a ha⟩
theorem AllI.mem {α : Type} {P : Nat → α → Prop} {l : List α} (h : AllI P l) {x : α} (hx : x ∈ l) : ∃ j, P j x := by
  obtain ⟨j, hj⟩ := List.getElem?_of_mem hx
  exact ⟨j, h j x hj⟩
theorem PortsOk.add {last i : Int} {l : List Port} (h : PortsOk last i l) (h0 : 0 ≤ i) (hl : i ≤ last) (pr : Int) (hp : 0 ≤ pr ∧ pr ≤ 100000000) : PortsOk last (i + 1) (l ++ [⟨nm1B ⟨#[113]⟩ l.length, i, pr⟩]) := by
  refine ⟨(h.all.imp fun j x hx => ?_).snoc ?_, pw_snoc h.asc fun a ha => ?_, fun _ => ?_, fun hi => ?_, ?_⟩
  · obtain ⟨a, b, c, d⟩ := hx; exact ⟨a, b, by omega, d⟩
  · exact ⟨rfl, h0, by dsimp only; omega, hp⟩
  · obtain ⟨j, hj⟩ := h.all.mem ha; exact hj.2.2.1
  · cases l with
    | nil =>
      have : i = 0 := by
        rcases Int.lt_or_le 0 i with h1 | h1
        · have := h.hd h1; cases this
        · omega
      subst this; rfl
    | cons p ps =>
      have : 0 < i := by have := h.len; simp at this; omega
      exact h.hd this
  · simp; omega
  · have := h.len; simp; omega
theorem PortsOk.skip {last i : Int} {l : List Port} (h : PortsOk last i l) (h0 : 0 < i) (hl : i < last) : PortsOk last (i + 1) l :=
  ⟨h.all.imp fun j x hx => by obtain ⟨a, b, c, d⟩ := hx; exact ⟨a, b, by omega, d⟩, h.asc, fun _ => h.hd h0, fun hi => by omega, by have := h.len; omega⟩
theorem StnsOk.add {i : Int} {l : List Stn} (h : StnsOk i l) (h0 : 0 ≤ i) (hd fl su : Int) (h1 : 0 ≤ hd ∧ hd ≤ 100000000) (h2 : 0 ≤ fl ∧ fl ≤ 100000) (h3 : 0 ≤ su ∧ su ≤ 100000000) : StnsOk (i + 1) (l ++ [⟨nm1B ⟨#[115]⟩ l.length, i, hd, fl, su⟩]) := by
  refine ⟨(h.all.imp fun j x hx => ?_).snoc ?_, pw_snoc h.asc fun a ha => ?_, ?_⟩
  · obtain ⟨a, b, c, d⟩ := hx; exact ⟨a, b, by omega, d⟩
  · exact ⟨rfl, h0, by dsimp only; omega, h1.1, h1.2, h2.1, h2.2, h3⟩
  · obtain ⟨j, hj⟩ := h.all.mem ha; exact hj.2.2.1
  · have := h.len; simp; omega
theorem StnsOk.skip {i : Int} {l : List Stn} (h : StnsOk i l) : StnsOk (i + 1) l :=
  ⟨h.all.imp fun j x hx => by obtain ⟨a, b, c, d⟩ := hx; exact ⟨a, b, by omega, d⟩, h.asc, by have := h.len; omega⟩
def selSeg : List D → Option (Prop × (Seg → Prop))
  | [.v (.int .i64 k), .v (.int .i64 a), .v (.int .i64 b)] => some (InI k, SegOk k a b)
  | _ => Option.none
def T3 : Tbl := tc 81 (rowSrc selSeg Seg.enc) T2
theorem segOk_ex (k a b : Int) : SegOk k a b ⟨nm1B ⟨#[103]⟩ k, a, b, 1, 0, 0, [⟨0, 0, 0⟩, ⟨1, 0, 0⟩]⟩ :=
  ⟨rfl, (.inl ⟨rfl, rfl⟩), by simp, by simp, by simp, by simp, ⟨by simp, by simp, rfl, rfl⟩⟩
theorem T3_ok : TblOk Try.prog T3 := by
  refine tc_src f81_ok (fun args pre post h hp => ?_) T2_ok
  unfold selSeg at h
  split at h <;> cases h
  exact ⟨⟨_, segOk_ex _ _ _⟩, Segment_c _ _ _ hp⟩
def NetHp (i : Nm) (L : List (List D)) (at' : Int) (g1 : Nat) (nodes : List ByteArray) (g2 : Nat) (segs : List Seg) (g3 : Nat) (ports : List Port) (g4 : Nat) (sts : List Stn) (vap set : Int) : Hp :=
  ((((((Hp.none.put (i.1 + 1, 1004) ⟨g4, 5, sts.map Stn.row⟩).put (i.1 + 1, 1003) ⟨g3, 3, ports.map Port.row⟩).put (i.1 + 1, 1002) ⟨g2, 7, segs.map Seg.row⟩).put (i.1 + 1, 1001) ⟨g1, 1, nodes.map nmRow⟩).put (i.1 + 1, 3) ⟨0, 6, [[.own (i.1 + 1, 1001) g1 0 nodes.length, .own (i.1 + 1, 1002) g2 0 segs.length, .own (i.1 + 1, 1003) g3 0 ports.length, .own (i.1 + 1, 1004) g4 0 sts.length, di vap, di set]]⟩).put (i.1 + 1, 2) ⟨0, 6, [[.mt, .mt, .mt, .mt, di 0, di 0]]⟩).put i (sE L at')
def NetFr (i : Nm) (l : List (Nat × D)) : List (Nat × D) := (0, .ptr i 0 0 0) :: (2, .ptr (i.1 + 1, 2) 0 0 0) :: (3, .ptr (i.1 + 1, 3) 0 0 0) :: l
def NetI4 (i : Nm) (L : List (List D)) (nodes : List ByteArray) (segs : List Seg) (vap set : Int) : Nat → St → Prop := fun k s => ∃ at' g1 g2 g3 g4 ports sts j, SrcOk L at' ∧ PortsOk (nodes.length - 1) j ports ∧ StnsOk (min j (nodes.length - 1)) sts ∧ 0 ≤ j ∧ j + k = nodes.length ∧ s = ⟨fr (NetFr i [(5, di (nodes.length - 1)), (9, di j)]), NetHp i L at' g1 nodes g2 segs g3 ports g4 sts vap set⟩
set_option maxHeartbeats 8000000 in
theorem Net_4 (i : Nm) (L : List (List D)) (at' : Int) (ho : SrcOk L at') (g1 : Nat) (nodes : List ByteArray) (g2 : Nat) (segs : List Seg) (vap set : Int) (hn : AllI NodeOk nodes) (hn2 : 2 ≤ nodes.length ∧ nodes.length ≤ 6) (hs : AllI (SegAt (nodes.length - 1)) segs) (hs2 : nodes.length - 1 ≤ segs.length ∧ segs.length ≤ nodes.length + 2) (hv : -100000 ≤ vap ∧ vap ≤ 50000) (hset : 0 ≤ set ∧ set ≤ 100) :
    vc T3 (fun t => (i.1 + 1, t)) [i] c19_12 (finQ r19 [i] false (SrcR i L NetOk Net.enc)) ⟨fr (NetFr i [(5, di (nodes.length - 1))]), NetHp i L at' g1 nodes g2 segs 0 [] 0 [] vap set⟩ := by
  simp (config := { maxSteps := 500000 }) only [↓vp, vv, implies_true, forall_const, undef, InI, ↓reduceIte, simprocAttr, c19_12]
  rw [vc_loop]
  refine ⟨NetI4 i L nodes segs vap set, ⟨nodes.length, _, (weak_eq [] [i, (i.1 + 1, 2), (i.1 + 1, 3), (i.1 + 1, 1001), (i.1 + 1, 1002), (i.1 + 1, 1003), (i.1 + 1, 1004)] (NetFr i [(5, di (nodes.length - 1)), (9, di 0)]) (by simp (config := { maxSteps := 500000 }) only [↓vp, vv, implies_true, forall_const, undef, InI, ↓reduceIte, simprocAttr, coverS, NetFr, NetHp, Seg.row, nmRow]) (by simp (config := { maxSteps := 500000 }) only [↓vp, vv, implies_true, forall_const, undef, InI, ↓reduceIte, simprocAttr, refsF, NetFr, NetHp, Seg.row, nmRow]) (by simp (config := { maxSteps := 500000 }) only [↓vp, vv, implies_true, forall_const, undef, InI, ↓reduceIte, simprocAttr, NetFr, NetHp, Seg.row, nmRow]) (by simp) (by simp (config := { maxSteps := 500000 }) only [↓vp, vv, implies_true, forall_const, undef, InI, ↓reduceIte, simprocAttr, NetFr, NetHp, Seg.row, nmRow]; try rfl)), ⟨at', g1, g2, 0, 0, [], [], 0, ho, ⟨AllI.nil _, List.Pairwise.nil, fun h => by omega, fun h => by omega, by simp⟩, ⟨AllI.nil _, List.Pairwise.nil, by simp; omega⟩, by omega, by omega, rfl⟩⟩, ?_⟩
  rintro m s ⟨at1, g1, g2, g3, g4, ports, sts, j, o1, hp, ht, hj0, hjm, rfl⟩
  have hpl := hp.len
  have htl := ht.len
  by_cases h1 : j ≤ (nodes.length : Int) - 1
  · have wj : IntKind.i64.wrap (j + 1) = j + 1 := wrap_i (by omega)
    have hsz : ports.length ≤ 4611686018427387903 := by omega
    have hPadd : ∀ pr, 0 ≤ pr ∧ pr ≤ 100000000 → PortsOk (nodes.length - 1) (j + 1) (ports ++ [⟨nm1B ⟨#[113]⟩ ports.length, j, pr⟩]) := fun pr h => hp.add hj0 h1 pr h
    have hSskip : StnsOk (min (j + 1) (nodes.length - 1)) sts := by
      by_cases h : j < (nodes.length : Int) - 1
      · have := ht.skip
        rw [show min j ((nodes.length : Int) - 1) + 1 = min (j + 1) (nodes.length - 1) by omega] at this
        exact this
      · rw [show min (j + 1) ((nodes.length : Int) - 1) = min j (nodes.length - 1) by omega]
        exact ht
    have hSadd : j < (nodes.length : Int) - 1 → ∀ hd fl su, (0 ≤ hd ∧ hd ≤ 100000000) → (0 ≤ fl ∧ fl ≤ 100000) → (0 ≤ su ∧ su ≤ 100000000) → StnsOk (min (j + 1) (nodes.length - 1)) (sts ++ [⟨nm1B ⟨#[115]⟩ sts.length, j, hd, fl, su⟩]) := fun h hd fl su h1 h2 h3 => by
      have e : min j ((nodes.length : Int) - 1) = j := by omega
      rw [e] at ht
      rw [show min (j + 1) ((nodes.length : Int) - 1) = j + 1 by omega]
      exact ht.add hj0 hd fl su h1 h2 h3
    by_cases h0 : j = 0
    · have e0 : (j == 0) = true := beq_iff_eq.2 h0
      have h2 : j < (nodes.length : Int) - 1 := by omega
      simp (config := { maxSteps := 500000 }) only [↓vp, vv, implies_true, forall_const, undef, InI, ↓reduceIte, simprocAttr, c19, r19, c19_1, c19_10, c19_11, c19_12, c19_13, c19_14, c19_2, c19_3, c19_4, c19_5, c19_6, c19_7, c19_8, c19_9, T3, T2, T1, selI, selPick, selRange, selName, selSeg, o1, NetHp, NetFr, h1, Seg.row, nmRow, Port.row, Stn.row, sz1, e0, h2]
      intro a1 pr hpr
      simp [IsMem] at hpr
      refine ⟨⟨by omega, by omega⟩, ?_⟩
      intro a2 x hx
      split
      · intro a3 hd hhd a4 fl hfl a5 su hsu
        simp [IsMem] at hhd hfl hsu
        refine ⟨⟨by omega, by omega⟩, m - 1, _, by omega, (weak_eq [] [i, (i.1 + 1, 2), (i.1 + 1, 3), (i.1 + 1, 1001), (i.1 + 1, 1002), (i.1 + 1, 1003), (i.1 + 1, 1004)] (NetFr i [(5, di (nodes.length - 1)), (9, di (j + 1))]) (by simp (config := { maxSteps := 500000 }) only [↓vp, vv, implies_true, forall_const, undef, InI, ↓reduceIte, simprocAttr, coverS, NetFr, NetHp, Seg.row, nmRow, Port.row, Stn.row, wj]) (by simp (config := { maxSteps := 500000 }) only [↓vp, vv, implies_true, forall_const, undef, InI, ↓reduceIte, simprocAttr, refsF, NetFr, NetHp, Seg.row, nmRow, Port.row, Stn.row, wj]) (by simp (config := { maxSteps := 500000 }) only [↓vp, vv, implies_true, forall_const, undef, InI, ↓reduceIte, simprocAttr, NetFr, NetHp, Seg.row, nmRow, Port.row, Stn.row, wj]) (by simp) (by simp (config := { maxSteps := 500000 }) only [↓vp, vv, implies_true, forall_const, undef, InI, ↓reduceIte, simprocAttr, NetFr, NetHp, Seg.row, nmRow, Port.row, Stn.row, wj]; try rfl)), ⟨a5.1, g1, g2, (g3 + 1), (g4 + 1), (ports ++ [⟨_, j, pr⟩]), (sts ++ [⟨_, j, hd, fl, su⟩]), j + 1, a5.2, (hPadd pr (by omega)), (hSadd (by omega) hd fl su (by omega) (by omega) (by omega)), by omega, by omega, ?_⟩⟩
        simp [NetHp, NetFr, Port.row, Stn.row, sE]
      · refine ⟨m - 1, _, by omega, (weak_eq [] [i, (i.1 + 1, 2), (i.1 + 1, 3), (i.1 + 1, 1001), (i.1 + 1, 1002), (i.1 + 1, 1003), (i.1 + 1, 1004)] (NetFr i [(5, di (nodes.length - 1)), (9, di (j + 1))]) (by simp (config := { maxSteps := 500000 }) only [↓vp, vv, implies_true, forall_const, undef, InI, ↓reduceIte, simprocAttr, coverS, NetFr, NetHp, Seg.row, nmRow, Port.row, Stn.row, wj]) (by simp (config := { maxSteps := 500000 }) only [↓vp, vv, implies_true, forall_const, undef, InI, ↓reduceIte, simprocAttr, refsF, NetFr, NetHp, Seg.row, nmRow, Port.row, Stn.row, wj]) (by simp (config := { maxSteps := 500000 }) only [↓vp, vv, implies_true, forall_const, undef, InI, ↓reduceIte, simprocAttr, NetFr, NetHp, Seg.row, nmRow, Port.row, Stn.row, wj]) (by simp) (by simp (config := { maxSteps := 500000 }) only [↓vp, vv, implies_true, forall_const, undef, InI, ↓reduceIte, simprocAttr, NetFr, NetHp, Seg.row, nmRow, Port.row, Stn.row, wj]; try rfl)), ⟨a2.1, g1, g2, (g3 + 1), g4, (ports ++ [⟨_, j, pr⟩]), sts, j + 1, a2.2, (hPadd pr (by omega)), hSskip, by omega, by omega, ?_⟩⟩
        simp [NetHp, NetFr, Port.row, Stn.row, sE]
    · have e0 : (j == 0) = false := beq_false_of_ne (by omega)
      by_cases h2 : j = (nodes.length : Int) - 1
      · have e1 : (j == (nodes.length : Int) - 1) = true := beq_iff_eq.2 h2
        have h3 : ¬ j < (nodes.length : Int) - 1 := by omega
        simp (config := { maxSteps := 500000 }) only [↓vp, vv, implies_true, forall_const, undef, InI, ↓reduceIte, simprocAttr, c19, r19, c19_1, c19_10, c19_11, c19_12, c19_13, c19_14, c19_2, c19_3, c19_4, c19_5, c19_6, c19_7, c19_8, c19_9, T3, T2, T1, selI, selPick, selRange, selName, selSeg, o1, NetHp, NetFr, h1, Seg.row, nmRow, Port.row, Stn.row, sz1, e0, e1, h3]
        intro a1 pr hpr
        simp [IsMem] at hpr
        refine ⟨⟨by omega, by omega⟩, m - 1, _, by omega, (weak_eq [] [i, (i.1 + 1, 2), (i.1 + 1, 3), (i.1 + 1, 1001), (i.1 + 1, 1002), (i.1 + 1, 1003), (i.1 + 1, 1004)] (NetFr i [(5, di (nodes.length - 1)), (9, di (j + 1))]) (by simp (config := { maxSteps := 500000 }) only [↓vp, vv, implies_true, forall_const, undef, InI, ↓reduceIte, simprocAttr, coverS, NetFr, NetHp, Seg.row, nmRow, Port.row, Stn.row, wj]) (by simp (config := { maxSteps := 500000 }) only [↓vp, vv, implies_true, forall_const, undef, InI, ↓reduceIte, simprocAttr, refsF, NetFr, NetHp, Seg.row, nmRow, Port.row, Stn.row, wj]) (by simp (config := { maxSteps := 500000 }) only [↓vp, vv, implies_true, forall_const, undef, InI, ↓reduceIte, simprocAttr, NetFr, NetHp, Seg.row, nmRow, Port.row, Stn.row, wj]) (by simp) (by simp (config := { maxSteps := 500000 }) only [↓vp, vv, implies_true, forall_const, undef, InI, ↓reduceIte, simprocAttr, NetFr, NetHp, Seg.row, nmRow, Port.row, Stn.row, wj]; try rfl)), ⟨a1.1, g1, g2, (g3 + 1), g4, (ports ++ [⟨_, j, pr⟩]), sts, j + 1, a1.2, (hPadd pr (by omega)), hSskip, by omega, by omega, ?_⟩⟩
        simp [NetHp, NetFr, Port.row, Stn.row, sE]
      · have e1 : (j == (nodes.length : Int) - 1) = false := beq_false_of_ne h2
        have h3 : j < (nodes.length : Int) - 1 := by omega
        have hPskip : PortsOk (nodes.length - 1) (j + 1) ports := hp.skip (by omega) h3
        simp (config := { maxSteps := 500000 }) only [↓vp, vv, implies_true, forall_const, undef, InI, ↓reduceIte, simprocAttr, c19, r19, c19_1, c19_10, c19_11, c19_12, c19_13, c19_14, c19_2, c19_3, c19_4, c19_5, c19_6, c19_7, c19_8, c19_9, T3, T2, T1, selI, selPick, selRange, selName, selSeg, o1, NetHp, NetFr, h1, Seg.row, nmRow, Port.row, Stn.row, sz1, e0, e1, h3]
        intro a0 y hy
        split
        · intro a1 pr hpr
          simp [IsMem] at hpr
          refine ⟨⟨by omega, by omega⟩, ?_⟩
          intro a2 x hx
          split
          · intro a3 hd hhd a4 fl hfl a5 su hsu
            simp [IsMem] at hhd hfl hsu
            refine ⟨⟨by omega, by omega⟩, m - 1, _, by omega, (weak_eq [] [i, (i.1 + 1, 2), (i.1 + 1, 3), (i.1 + 1, 1001), (i.1 + 1, 1002), (i.1 + 1, 1003), (i.1 + 1, 1004)] (NetFr i [(5, di (nodes.length - 1)), (9, di (j + 1))]) (by simp (config := { maxSteps := 500000 }) only [↓vp, vv, implies_true, forall_const, undef, InI, ↓reduceIte, simprocAttr, coverS, NetFr, NetHp, Seg.row, nmRow, Port.row, Stn.row, wj]) (by simp (config := { maxSteps := 500000 }) only [↓vp, vv, implies_true, forall_const, undef, InI, ↓reduceIte, simprocAttr, refsF, NetFr, NetHp, Seg.row, nmRow, Port.row, Stn.row, wj]) (by simp (config := { maxSteps := 500000 }) only [↓vp, vv, implies_true, forall_const, undef, InI, ↓reduceIte, simprocAttr, NetFr, NetHp, Seg.row, nmRow, Port.row, Stn.row, wj]) (by simp) (by simp (config := { maxSteps := 500000 }) only [↓vp, vv, implies_true, forall_const, undef, InI, ↓reduceIte, simprocAttr, NetFr, NetHp, Seg.row, nmRow, Port.row, Stn.row, wj]; try rfl)), ⟨a5.1, g1, g2, (g3 + 1), (g4 + 1), (ports ++ [⟨_, j, pr⟩]), (sts ++ [⟨_, j, hd, fl, su⟩]), j + 1, a5.2, (hPadd pr (by omega)), (hSadd (by omega) hd fl su (by omega) (by omega) (by omega)), by omega, by omega, ?_⟩⟩
            simp [NetHp, NetFr, Port.row, Stn.row, sE]
          · refine ⟨m - 1, _, by omega, (weak_eq [] [i, (i.1 + 1, 2), (i.1 + 1, 3), (i.1 + 1, 1001), (i.1 + 1, 1002), (i.1 + 1, 1003), (i.1 + 1, 1004)] (NetFr i [(5, di (nodes.length - 1)), (9, di (j + 1))]) (by simp (config := { maxSteps := 500000 }) only [↓vp, vv, implies_true, forall_const, undef, InI, ↓reduceIte, simprocAttr, coverS, NetFr, NetHp, Seg.row, nmRow, Port.row, Stn.row, wj]) (by simp (config := { maxSteps := 500000 }) only [↓vp, vv, implies_true, forall_const, undef, InI, ↓reduceIte, simprocAttr, refsF, NetFr, NetHp, Seg.row, nmRow, Port.row, Stn.row, wj]) (by simp (config := { maxSteps := 500000 }) only [↓vp, vv, implies_true, forall_const, undef, InI, ↓reduceIte, simprocAttr, NetFr, NetHp, Seg.row, nmRow, Port.row, Stn.row, wj]) (by simp) (by simp (config := { maxSteps := 500000 }) only [↓vp, vv, implies_true, forall_const, undef, InI, ↓reduceIte, simprocAttr, NetFr, NetHp, Seg.row, nmRow, Port.row, Stn.row, wj]; try rfl)), ⟨a2.1, g1, g2, (g3 + 1), g4, (ports ++ [⟨_, j, pr⟩]), sts, j + 1, a2.2, (hPadd pr (by omega)), hSskip, by omega, by omega, ?_⟩⟩
            simp [NetHp, NetFr, Port.row, Stn.row, sE]
        · intro a2 x hx
          split
          · intro a3 hd hhd a4 fl hfl a5 su hsu
            simp [IsMem] at hhd hfl hsu
            refine ⟨⟨by omega, by omega⟩, m - 1, _, by omega, (weak_eq [] [i, (i.1 + 1, 2), (i.1 + 1, 3), (i.1 + 1, 1001), (i.1 + 1, 1002), (i.1 + 1, 1003), (i.1 + 1, 1004)] (NetFr i [(5, di (nodes.length - 1)), (9, di (j + 1))]) (by simp (config := { maxSteps := 500000 }) only [↓vp, vv, implies_true, forall_const, undef, InI, ↓reduceIte, simprocAttr, coverS, NetFr, NetHp, Seg.row, nmRow, Port.row, Stn.row, wj]) (by simp (config := { maxSteps := 500000 }) only [↓vp, vv, implies_true, forall_const, undef, InI, ↓reduceIte, simprocAttr, refsF, NetFr, NetHp, Seg.row, nmRow, Port.row, Stn.row, wj]) (by simp (config := { maxSteps := 500000 }) only [↓vp, vv, implies_true, forall_const, undef, InI, ↓reduceIte, simprocAttr, NetFr, NetHp, Seg.row, nmRow, Port.row, Stn.row, wj]) (by simp) (by simp (config := { maxSteps := 500000 }) only [↓vp, vv, implies_true, forall_const, undef, InI, ↓reduceIte, simprocAttr, NetFr, NetHp, Seg.row, nmRow, Port.row, Stn.row, wj]; try rfl)), ⟨a5.1, g1, g2, g3, (g4 + 1), ports, (sts ++ [⟨_, j, hd, fl, su⟩]), j + 1, a5.2, hPskip, (hSadd (by omega) hd fl su (by omega) (by omega) (by omega)), by omega, by omega, ?_⟩⟩
            simp [NetHp, NetFr, Port.row, Stn.row, sE]
          · refine ⟨m - 1, _, by omega, (weak_eq [] [i, (i.1 + 1, 2), (i.1 + 1, 3), (i.1 + 1, 1001), (i.1 + 1, 1002), (i.1 + 1, 1003), (i.1 + 1, 1004)] (NetFr i [(5, di (nodes.length - 1)), (9, di (j + 1))]) (by simp (config := { maxSteps := 500000 }) only [↓vp, vv, implies_true, forall_const, undef, InI, ↓reduceIte, simprocAttr, coverS, NetFr, NetHp, Seg.row, nmRow, Port.row, Stn.row, wj]) (by simp (config := { maxSteps := 500000 }) only [↓vp, vv, implies_true, forall_const, undef, InI, ↓reduceIte, simprocAttr, refsF, NetFr, NetHp, Seg.row, nmRow, Port.row, Stn.row, wj]) (by simp (config := { maxSteps := 500000 }) only [↓vp, vv, implies_true, forall_const, undef, InI, ↓reduceIte, simprocAttr, NetFr, NetHp, Seg.row, nmRow, Port.row, Stn.row, wj]) (by simp) (by simp (config := { maxSteps := 500000 }) only [↓vp, vv, implies_true, forall_const, undef, InI, ↓reduceIte, simprocAttr, NetFr, NetHp, Seg.row, nmRow, Port.row, Stn.row, wj]; try rfl)), ⟨a2.1, g1, g2, g3, g4, ports, sts, j + 1, a2.2, hPskip, hSskip, by omega, by omega, ?_⟩⟩
            simp [NetHp, NetFr, Port.row, Stn.row, sE]
  · simp (config := { maxSteps := 500000 }) only [↓vp, vv, implies_true, forall_const, undef, InI, ↓reduceIte, simprocAttr, c19, r19, c19_1, c19_10, c19_11, c19_12, c19_13, c19_14, c19_2, c19_3, c19_4, c19_5, c19_6, c19_7, c19_8, c19_9, T3, T2, T1, selI, selPick, selRange, selName, selSeg, o1, NetHp, NetFr, h1, Seg.row, nmRow, Port.row, Stn.row, sz1]
    refine ⟨at1, ⟨nodes, segs, ports, sts, vap, set⟩, o1, ⟨hn, hn2, hs, hs2, ?_, ?_, hv, hset⟩, rfl, rfl⟩
    · have e : j = (nodes.length : Int) := by omega
      subst e
      exact hp
    · have e : min j ((nodes.length : Int) - 1) = nodes.length - 1 := by omega
      rw [e] at ht
      exact ht
end Go.Proofs.Ytkjibmfggeibjaa

/- Networks out of a source: nodes and segments. -/
namespace Go.Proofs.Ytkjibmfggeibjaa
open Go
set_option linter.unusedVariables false
set_option linter.unusedSimpArgs false
set_option maxRecDepth 100000

def NetI3 (i : Nm) (L : List (List D)) (g1 : Nat) (nodes : List ByteArray) (vap set : Int) : Nat → St → Prop := fun k s => ∃ at' g2 segs, SrcOk L at' ∧ AllI (SegAt (nodes.length - 1)) segs ∧ nodes.length - 1 ≤ segs.length ∧ segs.length + k ≤ nodes.length + 2 ∧ s = ⟨fr (NetFr i [(5, di (nodes.length - 1)), (7, di k)]), NetHp i L at' g1 nodes g2 segs 0 [] 0 [] vap set⟩
set_option maxHeartbeats 8000000 in
theorem Net_3 (i : Nm) (L : List (List D)) (at' : Int) (ho : SrcOk L at') (g1 : Nat) (nodes : List ByteArray) (hn : AllI NodeOk nodes) (hn2 : 2 ≤ nodes.length ∧ nodes.length ≤ 6) (vap set : Int) (hv : -100000 ≤ vap ∧ vap ≤ 50000) (hset : 0 ≤ set ∧ set ≤ 100) (g2 : Nat) (segs : List Seg) (hs : AllI (SegAt (nodes.length - 1)) segs) (hs2 : segs.length = nodes.length - 1) :
    vc T3 (fun t => (i.1 + 1, t)) [i] c19_13 (finQ r19 [i] false (SrcR i L NetOk Net.enc)) ⟨fr (NetFr i [(5, di (nodes.length - 1))]), NetHp i L at' g1 nodes g2 segs 0 [] 0 [] vap set⟩ := by
  simp (config := { maxSteps := 500000 }) only [↓vp, vv, implies_true, forall_const, undef, InI, ↓reduceIte, simprocAttr, c19_13, T3, T2, T1, selI, selPick, selRange, selName, selSeg, ho, NetHp, NetFr]
  intro a1 c hc
  unfold NPost at hc
  rw [vc_loop]
  refine ⟨NetI3 i L g1 nodes vap set, ⟨c.toNat, _, (weak_eq [] [i, (i.1 + 1, 2), (i.1 + 1, 3), (i.1 + 1, 1001), (i.1 + 1, 1002), (i.1 + 1, 1003), (i.1 + 1, 1004)] (NetFr i [(5, di (nodes.length - 1)), (7, di c)]) (by simp (config := { maxSteps := 500000 }) only [↓vp, vv, implies_true, forall_const, undef, InI, ↓reduceIte, simprocAttr, coverS, NetFr, NetHp, Seg.row, nmRow, Port.row, Stn.row]) (by simp (config := { maxSteps := 500000 }) only [↓vp, vv, implies_true, forall_const, undef, InI, ↓reduceIte, simprocAttr, refsF, NetFr, NetHp, Seg.row, nmRow, Port.row, Stn.row]) (by simp (config := { maxSteps := 500000 }) only [↓vp, vv, implies_true, forall_const, undef, InI, ↓reduceIte, simprocAttr, NetFr, NetHp, Seg.row, nmRow, Port.row, Stn.row]) (by simp) (by simp (config := { maxSteps := 500000 }) only [↓vp, vv, implies_true, forall_const, undef, InI, ↓reduceIte, simprocAttr, NetFr, NetHp, Seg.row, nmRow, Port.row, Stn.row]; try rfl)), ⟨a1.1, g2, segs, a1.2, hs, by omega, by omega, by rw [show ((c.toNat : Nat) : Int) = c by omega]; rfl⟩⟩, ?_⟩
  rintro m s ⟨at1, g2, segs, o1, hs, hs1, hs2, rfl⟩
  by_cases h1 : (0 : Int) < m
  · have w1 : IntKind.i64.wrap ((m : Int) - 1) = ((m - 1 : Nat) : Int) := by rw [wrap_i (by omega)]; omega
    simp (config := { maxSteps := 500000 }) only [↓vp, vv, implies_true, forall_const, undef, InI, ↓reduceIte, simprocAttr, c19, r19, c19_1, c19_10, c19_11, c19_12, c19_13, c19_14, c19_2, c19_3, c19_4, c19_5, c19_6, c19_7, c19_8, c19_9, T3, T2, T1, selI, selPick, selRange, selName, selSeg, NetHp, NetFr, Seg.enc, Seg.row, nmRow, Port.row, Stn.row, sz1, o1, h1]
    refine ⟨by omega, fun a1 x hx => ?_⟩
    unfold NPost at hx
    have w2 : IntKind.i64.wrap (x + 1) = x + 1 := wrap_i (by omega)
    simp only [w2]
    refine ⟨⟨by omega, by omega, by omega⟩, fun a2 y hy => ⟨by omega, fun a3 sg hsg => ?_⟩⟩
    unfold RPost at hy
    refine ⟨⟨by omega, by omega⟩, m - 1, _, by omega, (weak_eq [] [i, (i.1 + 1, 2), (i.1 + 1, 3), (i.1 + 1, 1001), (i.1 + 1, 1002), (i.1 + 1, 1003), (i.1 + 1, 1004)] (NetFr i [(5, di (nodes.length - 1)), (7, di ((m - 1 : Nat) : Int))]) (by simp (config := { maxSteps := 500000 }) only [↓vp, vv, implies_true, forall_const, undef, InI, ↓reduceIte, simprocAttr, coverS, NetFr, NetHp, Seg.row, nmRow, Port.row, Stn.row, w1]) (by simp (config := { maxSteps := 500000 }) only [↓vp, vv, implies_true, forall_const, undef, InI, ↓reduceIte, simprocAttr, refsF, NetFr, NetHp, Seg.row, nmRow, Port.row, Stn.row, w1]) (by simp (config := { maxSteps := 500000 }) only [↓vp, vv, implies_true, forall_const, undef, InI, ↓reduceIte, simprocAttr, NetFr, NetHp, Seg.row, nmRow, Port.row, Stn.row, w1]) (by simp) (by simp (config := { maxSteps := 500000 }) only [↓vp, vv, implies_true, forall_const, undef, InI, ↓reduceIte, simprocAttr, NetFr, NetHp, Seg.row, nmRow, Port.row, Stn.row, w1]; try rfl)), ⟨a3.1, g2 + 1, segs ++ [sg], a3.2, hs.snoc ⟨x, y, by omega, by omega, by omega, hsg, fun h => by omega⟩, by simp; omega, by simp; omega, ?_⟩⟩
    simp [NetHp, NetFr, Seg.row, sE]
  · simp (config := { maxSteps := 500000 }) only [↓vp, vv, implies_true, forall_const, undef, InI, ↓reduceIte, simprocAttr, c19, r19, c19_1, c19_10, c19_11, c19_12, c19_13, c19_14, c19_2, c19_3, c19_4, c19_5, c19_6, c19_7, c19_8, c19_9, T3, T2, T1, selI, selPick, selRange, selName, selSeg, NetHp, NetFr, Seg.enc, Seg.row, nmRow, Port.row, Stn.row, sz1, o1, h1]
    refine vc_wk (weak_eq [] [i, (i.1 + 1, 2), (i.1 + 1, 3), (i.1 + 1, 1001), (i.1 + 1, 1002), (i.1 + 1, 1003), (i.1 + 1, 1004)] (NetFr i [(5, di (nodes.length - 1))]) (by simp (config := { maxSteps := 500000 }) only [↓vp, vv, implies_true, forall_const, undef, InI, ↓reduceIte, simprocAttr, coverS, NetFr, NetHp, Seg.row, nmRow, Port.row, Stn.row]) (by simp (config := { maxSteps := 500000 }) only [↓vp, vv, implies_true, forall_const, undef, InI, ↓reduceIte, simprocAttr, refsF, NetFr, NetHp, Seg.row, nmRow, Port.row, Stn.row]) (by simp (config := { maxSteps := 500000 }) only [↓vp, vv, implies_true, forall_const, undef, InI, ↓reduceIte, simprocAttr, NetFr, NetHp, Seg.row, nmRow, Port.row, Stn.row]) (by simp) (by simp (config := { maxSteps := 500000 }) only [↓vp, vv, implies_true, forall_const, undef, InI, ↓reduceIte, simprocAttr, NetFr, NetHp, Seg.row, nmRow, Port.row, Stn.row]; try rfl)) ?_
    exact Net_4 i L at1 o1 g1 nodes g2 segs vap set hn hn2 hs (by omega) hv hset
def NetI2 (i : Nm) (L : List (List D)) (g1 : Nat) (nodes : List ByteArray) (vap set : Int) : Nat → St → Prop := fun k s => ∃ at' g2 segs, SrcOk L at' ∧ AllI (SegAt (nodes.length - 1)) segs ∧ segs.length + k = nodes.length - 1 ∧ s = ⟨fr (NetFr i [(5, di (nodes.length - 1)), (6, di segs.length)]), NetHp i L at' g1 nodes g2 segs 0 [] 0 [] vap set⟩
set_option maxHeartbeats 8000000 in
theorem Net_2 (i : Nm) (L : List (List D)) (at' : Int) (ho : SrcOk L at') (g1 : Nat) (nodes : List ByteArray) (hn : AllI NodeOk nodes) (hn2 : 2 ≤ nodes.length ∧ nodes.length ≤ 6) (vap set : Int) (hv : -100000 ≤ vap ∧ vap ≤ 50000) (hset : 0 ≤ set ∧ set ≤ 100) :
    vc T3 (fun t => (i.1 + 1, t)) [i] c19_14 (finQ r19 [i] false (SrcR i L NetOk Net.enc)) ⟨fr (NetFr i []), NetHp i L at' g1 nodes 0 [] 0 [] 0 [] vap set⟩ := by
  have w0 : IntKind.i64.wrap ((nodes.length : Int) - 1) = nodes.length - 1 := wrap_i (by omega)
  simp (config := { maxSteps := 500000 }) only [↓vp, vv, implies_true, forall_const, undef, InI, ↓reduceIte, simprocAttr, c19_14, T3, T2, T1, selI, selPick, selRange, selName, selSeg, ho, NetHp, NetFr, w0]
  rw [vc_loop]
  refine ⟨NetI2 i L g1 nodes vap set, ⟨nodes.length - 1, _, (weak_eq [] [i, (i.1 + 1, 2), (i.1 + 1, 3), (i.1 + 1, 1001), (i.1 + 1, 1002), (i.1 + 1, 1003), (i.1 + 1, 1004)] (NetFr i [(5, di (nodes.length - 1)), (6, di 0)]) (by simp (config := { maxSteps := 500000 }) only [↓vp, vv, implies_true, forall_const, undef, InI, ↓reduceIte, simprocAttr, coverS, NetFr, NetHp, Seg.row, nmRow, Port.row, Stn.row]) (by simp (config := { maxSteps := 500000 }) only [↓vp, vv, implies_true, forall_const, undef, InI, ↓reduceIte, simprocAttr, refsF, NetFr, NetHp, Seg.row, nmRow, Port.row, Stn.row]) (by simp (config := { maxSteps := 500000 }) only [↓vp, vv, implies_true, forall_const, undef, InI, ↓reduceIte, simprocAttr, NetFr, NetHp, Seg.row, nmRow, Port.row, Stn.row]) (by simp) (by simp (config := { maxSteps := 500000 }) only [↓vp, vv, implies_true, forall_const, undef, InI, ↓reduceIte, simprocAttr, NetFr, NetHp, Seg.row, nmRow, Port.row, Stn.row]; try rfl)), ⟨at', 0, [], ho, AllI.nil _, by simp, rfl⟩⟩, ?_⟩
  rintro m s ⟨at1, g2, segs, o1, hs, hs2, rfl⟩
  by_cases h1 : (segs.length : Int) < (nodes.length : Int) - 1
  · have w1 : IntKind.i64.wrap ((segs.length : Int) + 1) = segs.length + 1 := wrap_i (by omega)
    simp (config := { maxSteps := 500000 }) only [↓vp, vv, implies_true, forall_const, undef, InI, ↓reduceIte, simprocAttr, c19, r19, c19_1, c19_10, c19_11, c19_12, c19_13, c19_14, c19_2, c19_3, c19_4, c19_5, c19_6, c19_7, c19_8, c19_9, T3, T2, T1, selI, selPick, selRange, selName, selSeg, NetHp, NetFr, Seg.enc, Seg.row, nmRow, Port.row, Stn.row, sz1, o1, h1, w1]
    refine ⟨by omega, fun a3 sg hsg => ?_⟩
    refine ⟨⟨by omega, by omega⟩, m - 1, _, by omega, (weak_eq [] [i, (i.1 + 1, 2), (i.1 + 1, 3), (i.1 + 1, 1001), (i.1 + 1, 1002), (i.1 + 1, 1003), (i.1 + 1, 1004)] (NetFr i [(5, di (nodes.length - 1)), (6, di ((segs.length : Int) + 1))]) (by simp (config := { maxSteps := 500000 }) only [↓vp, vv, implies_true, forall_const, undef, InI, ↓reduceIte, simprocAttr, coverS, NetFr, NetHp, Seg.row, nmRow, Port.row, Stn.row, w1]) (by simp (config := { maxSteps := 500000 }) only [↓vp, vv, implies_true, forall_const, undef, InI, ↓reduceIte, simprocAttr, refsF, NetFr, NetHp, Seg.row, nmRow, Port.row, Stn.row, w1]) (by simp (config := { maxSteps := 500000 }) only [↓vp, vv, implies_true, forall_const, undef, InI, ↓reduceIte, simprocAttr, NetFr, NetHp, Seg.row, nmRow, Port.row, Stn.row, w1]) (by simp) (by simp (config := { maxSteps := 500000 }) only [↓vp, vv, implies_true, forall_const, undef, InI, ↓reduceIte, simprocAttr, NetFr, NetHp, Seg.row, nmRow, Port.row, Stn.row, w1]; try rfl)), ⟨a3.1, g2 + 1, segs ++ [sg], a3.2, hs.snoc ⟨_, _, by omega, by omega, by omega, hsg, fun h => ⟨rfl, rfl⟩⟩, by simp; omega, ?_⟩⟩
    simp [NetHp, NetFr, Seg.row, sE]
  · simp (config := { maxSteps := 500000 }) only [↓vp, vv, implies_true, forall_const, undef, InI, ↓reduceIte, simprocAttr, c19, r19, c19_1, c19_10, c19_11, c19_12, c19_13, c19_14, c19_2, c19_3, c19_4, c19_5, c19_6, c19_7, c19_8, c19_9, T3, T2, T1, selI, selPick, selRange, selName, selSeg, NetHp, NetFr, Seg.enc, Seg.row, nmRow, Port.row, Stn.row, sz1, o1, h1]
    refine vc_wk (weak_eq [] [i, (i.1 + 1, 2), (i.1 + 1, 3), (i.1 + 1, 1001), (i.1 + 1, 1002), (i.1 + 1, 1003), (i.1 + 1, 1004)] (NetFr i [(5, di (nodes.length - 1))]) (by simp (config := { maxSteps := 500000 }) only [↓vp, vv, implies_true, forall_const, undef, InI, ↓reduceIte, simprocAttr, coverS, NetFr, NetHp, Seg.row, nmRow, Port.row, Stn.row]) (by simp (config := { maxSteps := 500000 }) only [↓vp, vv, implies_true, forall_const, undef, InI, ↓reduceIte, simprocAttr, refsF, NetFr, NetHp, Seg.row, nmRow, Port.row, Stn.row]) (by simp (config := { maxSteps := 500000 }) only [↓vp, vv, implies_true, forall_const, undef, InI, ↓reduceIte, simprocAttr, NetFr, NetHp, Seg.row, nmRow, Port.row, Stn.row]) (by simp) (by simp (config := { maxSteps := 500000 }) only [↓vp, vv, implies_true, forall_const, undef, InI, ↓reduceIte, simprocAttr, NetFr, NetHp, Seg.row, nmRow, Port.row, Stn.row]; try rfl)) ?_
    exact Net_3 i L at1 o1 g1 nodes hn hn2 vap set hv hset g2 segs hs (by omega)
def NetI1 (i : Nm) (L : List (List D)) (vap set : Int) (c : Nat) : Nat → St → Prop := fun k s => ∃ at' g1 nodes, SrcOk L at' ∧ AllI NodeOk nodes ∧ nodes.length + k = c ∧ s = ⟨fr (NetFr i [(4, di k)]), NetHp i L at' g1 nodes 0 [] 0 [] 0 [] vap set⟩
theorem net_own (J : List Nm) (i : Nm) (L : List (List D)) (at' vap set : Int) (F : Fr) : Weak J ⟨F, ((Hp.none.put (i.1 + 1, 3) ⟨0, 6, [[.mt, .mt, .mt, .mt, di vap, di set]]⟩).put (i.1 + 1, 2) ⟨0, 6, [[.mt, .mt, .mt, .mt, di 0, di 0]]⟩).put i (sE L at')⟩ ⟨F, NetHp i L at' 0 [] 0 [] 0 [] 0 [] vap set⟩ := by
  refine (weak_ownC (i.1 + 1, 3) 0 6 [] [.mt, .mt, .mt, di vap, di set] (i.1 + 1, 1001) 1 (by simp (config := { maxSteps := 500000 }) only [↓vp, vv, implies_true, forall_const, undef, InI, ↓reduceIte, simprocAttr, ]) (by simp (config := { maxSteps := 500000 }) only [↓vp, vv, implies_true, forall_const, undef, InI, ↓reduceIte, simprocAttr, ])).trans ?_
  refine (weak_ownC (i.1 + 1, 3) 0 6 [.own (i.1 + 1, 1001) 0 0 0] [.mt, .mt, di vap, di set] (i.1 + 1, 1002) 7 (by simp (config := { maxSteps := 500000 }) only [↓vp, vv, implies_true, forall_const, undef, InI, ↓reduceIte, simprocAttr, ]) (by simp (config := { maxSteps := 500000 }) only [↓vp, vv, implies_true, forall_const, undef, InI, ↓reduceIte, simprocAttr, ])).trans ?_
  refine (weak_ownC (i.1 + 1, 3) 0 6 [.own (i.1 + 1, 1001) 0 0 0, .own (i.1 + 1, 1002) 0 0 0] [.mt, di vap, di set] (i.1 + 1, 1003) 3 (by simp (config := { maxSteps := 500000 }) only [↓vp, vv, implies_true, forall_const, undef, InI, ↓reduceIte, simprocAttr, ]) (by simp (config := { maxSteps := 500000 }) only [↓vp, vv, implies_true, forall_const, undef, InI, ↓reduceIte, simprocAttr, ])).trans ?_
  refine (weak_ownC (i.1 + 1, 3) 0 6 [.own (i.1 + 1, 1001) 0 0 0, .own (i.1 + 1, 1002) 0 0 0, .own (i.1 + 1, 1003) 0 0 0] [di vap, di set] (i.1 + 1, 1004) 5 (by simp (config := { maxSteps := 500000 }) only [↓vp, vv, implies_true, forall_const, undef, InI, ↓reduceIte, simprocAttr, ]) (by simp (config := { maxSteps := 500000 }) only [↓vp, vv, implies_true, forall_const, undef, InI, ↓reduceIte, simprocAttr, ])).trans ?_
  refine (Weak.refl _ _).trans (Eq.mp ?_ (Weak.refl J ⟨F, NetHp i L at' 0 [] 0 [] 0 [] 0 [] vap set⟩))
  congr 2
  funext j
  simp only [NetHp, hput_at, hno_at, List.map_nil, List.length_nil, List.nil_append, List.cons_append]
  by_cases h : j = i
  · subst h; simp only [nm1, if_false, if_true]
  · simp only [h, if_false]
    by_cases h3 : j = (i.1 + 1, 3)
    · subst h3; simp
    · simp only [h3, if_false]
      by_cases h2 : j = (i.1 + 1, 2)
      · subst h2; simp
      · simp only [h2, if_false]
        by_cases k1 : j = (i.1 + 1, 1001)
        · subst k1; simp
        · simp only [k1, if_false]
          by_cases k2 : j = (i.1 + 1, 1002)
          · subst k2; simp
          · simp only [k2, if_false]
            by_cases k3 : j = (i.1 + 1, 1003)
            · subst k3; simp
            · simp only [k3, if_false]
set_option maxHeartbeats 8000000 in
theorem Network_c : SrcC Try.prog 19 [] NetOk Net.enc := by
  intro i L at' nn ho
  obtain ⟨code, h1, h2⟩ := c19_ok
  refine callsA_of T3_ok mixed (N := fun t => (i.1 + 1, t)) Try.func19 h1 h2 r19_ok [i] false js_one js_one' (by simp [Try.f19]) ?_
  simp (config := { maxSteps := 500000 }) only [↓vp, vv, implies_true, forall_const, undef, InI, ↓reduceIte, simprocAttr, c19, T3, T2, T1, selI, selPick, selRange, selName, selSeg, ho]
  intro a1 vap hvap a2 set hset a3 c hc
  simp [IsMem] at hvap hset
  unfold RPost at hc
  rw [vc_loop]
  have hI : NetI1 i L vap set c.toNat c.toNat ⟨fr (NetFr i [(4, di c)]), NetHp i L a3.1 0 [] 0 [] 0 [] 0 [] vap set⟩ := ⟨a3.1, 0, [], a3.2, AllI.nil _, by simp, by rw [show ((c.toNat : Nat) : Int) = c by omega]⟩
  refine ⟨NetI1 i L vap set c.toNat, ⟨c.toNat, _, Weak.trans ?_ (net_own [i] i L a3.1 vap set (fr (NetFr i [(4, di c)]))), hI⟩, ?_⟩
  · exact (weak_eq [] [i, (i.1 + 1, 2), (i.1 + 1, 3)] (NetFr i [(4, di c)]) (by simp (config := { maxSteps := 500000 }) only [↓vp, vv, implies_true, forall_const, undef, InI, ↓reduceIte, simprocAttr, coverS, NetFr]) (by simp (config := { maxSteps := 500000 }) only [↓vp, vv, implies_true, forall_const, undef, InI, ↓reduceIte, simprocAttr, refsF, NetFr]) (by simp (config := { maxSteps := 500000 }) only [↓vp, vv, implies_true, forall_const, undef, InI, ↓reduceIte, simprocAttr, NetFr]) (by simp) (by simp (config := { maxSteps := 500000 }) only [↓vp, vv, implies_true, forall_const, undef, InI, ↓reduceIte, simprocAttr, NetFr]; try rfl))
  rintro m s ⟨at1, g1, nodes, o1, hn, hm, rfl⟩
  by_cases h1 : (0 : Int) < m
  · have w1 : IntKind.i64.wrap ((m : Int) - 1) = ((m - 1 : Nat) : Int) := by rw [wrap_i (by omega)]; omega
    simp (config := { maxSteps := 500000 }) only [↓vp, vv, implies_true, forall_const, undef, InI, ↓reduceIte, simprocAttr, c19, r19, c19_1, c19_10, c19_11, c19_12, c19_13, c19_14, c19_2, c19_3, c19_4, c19_5, c19_6, c19_7, c19_8, c19_9, T3, T2, T1, selI, selPick, selRange, selName, selSeg, NetHp, NetFr, Seg.enc, Seg.row, nmRow, Port.row, Stn.row, sz1, o1, h1, w1]
    refine ⟨⟨by omega, by omega⟩, m - 1, _, by omega, (weak_eq [] [i, (i.1 + 1, 2), (i.1 + 1, 3), (i.1 + 1, 1001), (i.1 + 1, 1002), (i.1 + 1, 1003), (i.1 + 1, 1004)] (NetFr i [(4, di ((m - 1 : Nat) : Int))]) (by simp (config := { maxSteps := 500000 }) only [↓vp, vv, implies_true, forall_const, undef, InI, ↓reduceIte, simprocAttr, coverS, NetFr, NetHp, Seg.row, nmRow, Port.row, Stn.row, w1]) (by simp (config := { maxSteps := 500000 }) only [↓vp, vv, implies_true, forall_const, undef, InI, ↓reduceIte, simprocAttr, refsF, NetFr, NetHp, Seg.row, nmRow, Port.row, Stn.row, w1]) (by simp (config := { maxSteps := 500000 }) only [↓vp, vv, implies_true, forall_const, undef, InI, ↓reduceIte, simprocAttr, NetFr, NetHp, Seg.row, nmRow, Port.row, Stn.row, w1]) (by simp) (by simp (config := { maxSteps := 500000 }) only [↓vp, vv, implies_true, forall_const, undef, InI, ↓reduceIte, simprocAttr, NetFr, NetHp, Seg.row, nmRow, Port.row, Stn.row, w1]; try rfl)), ⟨at1, g1 + 1, nodes ++ [nm1B ⟨#[110]⟩ nodes.length], o1, hn.snoc rfl, by simp; omega, ?_⟩⟩
    simp [NetHp, NetFr, nmRow, sE]
  · simp (config := { maxSteps := 500000 }) only [↓vp, vv, implies_true, forall_const, undef, InI, ↓reduceIte, simprocAttr, c19, r19, c19_1, c19_10, c19_11, c19_12, c19_13, c19_14, c19_2, c19_3, c19_4, c19_5, c19_6, c19_7, c19_8, c19_9, T3, T2, T1, selI, selPick, selRange, selName, selSeg, NetHp, NetFr, Seg.enc, Seg.row, nmRow, Port.row, Stn.row, sz1, o1, h1]
    refine vc_wk (weak_eq [] [i, (i.1 + 1, 2), (i.1 + 1, 3), (i.1 + 1, 1001), (i.1 + 1, 1002), (i.1 + 1, 1003), (i.1 + 1, 1004)] (NetFr i []) (by simp (config := { maxSteps := 500000 }) only [↓vp, vv, implies_true, forall_const, undef, InI, ↓reduceIte, simprocAttr, coverS, NetFr, NetHp, Seg.row, nmRow, Port.row, Stn.row]) (by simp (config := { maxSteps := 500000 }) only [↓vp, vv, implies_true, forall_const, undef, InI, ↓reduceIte, simprocAttr, refsF, NetFr, NetHp, Seg.row, nmRow, Port.row, Stn.row]) (by simp (config := { maxSteps := 500000 }) only [↓vp, vv, implies_true, forall_const, undef, InI, ↓reduceIte, simprocAttr, NetFr, NetHp, Seg.row, nmRow, Port.row, Stn.row]) (by simp) (by simp (config := { maxSteps := 500000 }) only [↓vp, vv, implies_true, forall_const, undef, InI, ↓reduceIte, simprocAttr, NetFr, NetHp, Seg.row, nmRow, Port.row, Stn.row]; try rfl)) ?_
    exact Net_2 i L at1 o1 g1 nodes hn (by omega) vap set (by omega) (by omega)
end Go.Proofs.Ytkjibmfggeibjaa
