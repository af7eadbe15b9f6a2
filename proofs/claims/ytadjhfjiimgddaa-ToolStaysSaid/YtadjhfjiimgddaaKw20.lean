/- ToolStays: ToA. -/
import Derived.Test.YtadjhfjiimgddaaKw14
import Derived.Test.YtadjhfjiimgddaaKw19
import Derived.Test.YtadjhfjiimgddaaKw16
import Derived.Test.YtadjhfjiimgddaaKw10
import Derived.Test.YtadjhfjiimgddaaKw4
set_option linter.unusedSimpArgs false
set_option linter.unusedVariables false
set_option maxRecDepth 100000

/- Tools: what they are, how they move. -/
/- Tools: what they are, how they move. -/
namespace Go.Proofs.Ytadjhfjiimgddaa
open Go
structure Tol where
 way : List (Int × Bool)
 hop : Int
 pos : Int
def tHop (h : Int × Bool) : List D := [di h.1, db h.2]
def Tol.row (t : Tol) : List D := [.sl (t.way.map tHop), di t.hop, di t.pos]
def Tol.enc (t : Tol) : D := .agg t.row
def tHopOf1 : List D → Option (Int × Bool)
 | [.v (.int .i64 k), .v (.bool b)] => some (k, b)
 | _ => Option.none
theorem tHopOf1_row (h : Int × Bool) : tHopOf1 (tHop h) = some h := rfl
theorem tHopOf1_eq {r : List D} {h : Int × Bool} (e : tHopOf1 r = some h) : r = tHop h := by
 unfold tHopOf1 at e
 split at e
 ·cases e; rfl
 ·cases e
def tolOf1 : List D → Option Tol
 | [.sl rows, .v (.int .i64 k), .v (.int .i64 a)] => match lsOf tHopOf1 rows with
  | some w => some ⟨w, k, a⟩
  | Option.none => Option.none
 | _ => Option.none
theorem tolOf1_row (t : Tol) : tolOf1 t.row = some t := by
 have e := lsOf_map tHopOf1_row t.way
 unfold Tol.row tolOf1
 simp only [e]
theorem tolOf1_x (t : Tol) : tolOf1 [.sl (t.way.map tHop), di t.hop, di t.pos] = some t := tolOf1_row t
theorem tolOf1_eq {r : List D} {t : Tol} (e : tolOf1 r = some t) : r = t.row := by
 unfold tolOf1 at e
 split at e
 ·split at e
  ·rename_i e1
   cases e
   rw [lsOf_eq (fun r x => tHopOf1_eq) e1]
   rfl
  ·cases e
 ·cases e
theorem tHop_g (o : List (Int × Bool)) (j : Nat) (h : j < o.length) : (o.map tHop).getD j [] = tHop o[j] := getD_map tHop o j h
theorem tHop_pl (h : Int × Bool) : ∀ d ∈ tHop h, d.plain = true := fun d hd => by
 rcases List.mem_cons.1 hd with rfl | hd
 ·rfl
 ·rw [List.mem_singleton.1 hd]; rfl
def tEnds (n : Net) (h : Int × Bool) : Int × Int := match n.segs[h.1.toNat]? with
 | some s => if h.2 = true then (s.to, s.fr) else (s.fr, s.to)
 | Option.none => (0, 0)
def tCap (n : Net) (h : Int × Bool) : Int := match n.segs[h.1.toNat]? with
 | some s => s.cap
 | Option.none => 0
def tUnk (n : Net) (h : Int × Bool) : Bool := if decide (h.1 < 0) = true then true else decide ((n.segs.length : Int) ≤ h.1)
def chnB (n : Net) : Int → List (Int × Bool) → Bool
 | _, [] => true
 | a, h :: l => if tUnk n h = true then false else if (if decide (0 ≤ a) = true then a != (tEnds n h).1 else false) = true then false else chnB n (tEnds n h).2 l
def posB (n : Net) (t : Tol) : Bool := if (t.hop == (t.way.length : Int)) = true then t.pos == 0 else if decide (0 ≤ t.hop) = true then (if decide (t.hop < (t.way.length : Int)) = true then (if decide (0 ≤ t.pos) = true then decide (t.pos ≤ tCap n (t.way.getD t.hop.toNat (0, false))) else false) else false) else false
def tolV (n : Net) (t : Tol) : Bool := if (if decide ((t.way.length : Int) < 1) = true then true else decide ((32 : Int) < t.way.length)) = true then false else if chnB n (-1) t.way = true then posB n t else false
def tRate (p : Pln) (h : Int × Bool) : Int := if h.2 = true then -(p.rates.getD h.1.toNat 0) else p.rates.getD h.1.toNat 0
def pos0 (x : Int) : Int := if 0 < x then x else 0
theorem pos0_nn (x : Int) : 0 ≤ pos0 x := by unfold pos0; split <;> omega
def mov1 (n : Net) (p : Pln) (t : Tol) : Tol :=
 if (t.hop == (t.way.length : Int)) = true then t
 else if decide (tCap n (t.way.getD t.hop.toNat (0, false)) < pos0 (t.pos + tRate p (t.way.getD t.hop.toNat (0, false)))) = true then ⟨t.way, t.hop + 1, 0⟩
 else ⟨t.way, t.hop, pos0 (t.pos + tRate p (t.way.getD t.hop.toNat (0, false)))⟩
def movK (n : Net) (p : Pln) : Nat → Tol → Tol
 | 0, t => t
 | k + 1, t => movK n p k (mov1 n p t)
theorem movK_add (n : Net) (p : Pln) : ∀ (i k : Nat) (t : Tol), movK n p (i + k) t = movK n p k (movK n p i t)
 | 0, k, t => by rw [Nat.zero_add]; rfl
 | i + 1, k, t => by rw [Nat.add_right_comm]; exact movK_add n p i k (mov1 n p t)
theorem movK_succ (n : Net) (p : Pln) (k : Nat) (t : Tol) : movK n p (k + 1) t = mov1 n p (movK n p k t) := movK_add n p k 1 t
theorem mov1_way (n : Net) (p : Pln) (t : Tol) : (mov1 n p t).way = t.way := by
 unfold mov1
 split
 ·rfl
 ·split <;> rfl
structure TolOk (n : Net) (t : Tol) : Prop where
 l : 1 ≤ t.way.length ∧ t.way.length ≤ 32
 ch : chnB n (-1) t.way = true
 p : (t.hop = (t.way.length : Int) ∧ t.pos = 0) ∨ (0 ≤ t.hop ∧ t.hop < (t.way.length : Int) ∧ 0 ≤ t.pos ∧ t.pos ≤ tCap n (t.way.getD t.hop.toNat (0, false)))
theorem tolV_iff (n : Net) (t : Tol) : tolV n t = true ↔ TolOk n t := by
 unfold tolV
 by_cases a1 : (t.way.length : Int) < 1
 ·rw [decide_eq_true a1, if_pos rfl, if_pos rfl]
  exact ⟨fun h => (by cases h), fun h => by have := h.l; omega⟩
 by_cases a2 : (32 : Int) < t.way.length
 ·rw [decide_eq_false a1, if_neg Bool.false_ne_true, decide_eq_true a2, if_pos rfl]
  exact ⟨fun h => (by cases h), fun h => by have := h.l; omega⟩
 rw [decide_eq_false a1, if_neg Bool.false_ne_true, decide_eq_false a2, if_neg Bool.false_ne_true]
 cases a3 : chnB n (-1) t.way with
 | false =>
  rw [if_neg Bool.false_ne_true]
  exact ⟨fun h => (by cases h), fun h => by have := h.ch; rw [a3] at this; cases this⟩
 | true =>
  rw [if_pos rfl]
  unfold posB
  constructor
  ·intro h
   refine ⟨by omega, a3, ?_⟩
   split at h
   ·rename_i h3
    exact .inl ⟨by simpa using h3, by simpa using h⟩
   ·split at h
    ·rename_i h4
     split at h
     ·rename_i h5
      split at h
      ·rename_i h6
       exact .inr ⟨by simpa using h4, by simpa using h5, by simpa using h6, by simpa using h⟩
      ·cases h
     ·cases h
    ·cases h
  ·rintro ⟨h1, h2, h3⟩
   rcases h3 with ⟨h3, h4⟩ | ⟨h3, h4, h5, h6⟩
   ·rw [if_pos (by simpa using h3)]; simpa using h4
   ·rw [if_neg (by simp; omega), if_pos (by simpa using h3), if_pos (by simpa using h4), if_pos (by simpa using h5)]
    simpa using h6
theorem chn_in {n : Net} : ∀ {l : List (Int × Bool)} {a : Int}, chnB n a l = true → ∀ h ∈ l, 0 ≤ h.1 ∧ h.1 < n.segs.length
 | [], a, _, h, hh => by cases hh
 | x :: l, a, hc, h, hh => by
  unfold chnB at hc
  cases hu : tUnk n x with
  | true => rw [hu, if_pos rfl] at hc; cases hc
  | false =>
   rw [hu, if_neg Bool.false_ne_true] at hc
   generalize (if decide (0 ≤ a) = true then a != (tEnds n x).1 else false) = g at hc
   cases g with
   | true => rw [if_pos rfl] at hc; cases hc
   | false =>
    rw [if_neg Bool.false_ne_true] at hc
    rcases List.mem_cons.1 hh with rfl | hh
    ·unfold tUnk at hu
     split at hu
     ·cases hu
     ·rename_i h1; simp at h1 hu; omega
    ·exact chn_in hc h hh
theorem way_get {t : Tol} {j : Nat} (h : j < t.way.length) : t.way.getD j (0, false) = t.way[j] := by rw [List.getD_eq_getElem?_getD, List.getElem?_eq_getElem h]; rfl
theorem TolOk.at' {n : Net} {t : Tol} (h : TolOk n t) (hn : ¬ t.hop = (t.way.length : Int)) : 0 ≤ t.hop ∧ t.hop < (t.way.length : Int) ∧ 0 ≤ t.pos ∧ t.pos ≤ tCap n (t.way.getD t.hop.toNat (0, false)) := by
 rcases h.p with h1 | h1
 ·exact absurd h1.1 hn
 ·exact h1
theorem cap_nn {n : Net} (hv : NetV n) (h : Int × Bool) : 0 ≤ tCap n h := by
 unfold tCap
 split
 ·rename_i s hs
  have := (hv.se s (List.mem_of_getElem? hs)).2.2.2
  omega
 ·omega
theorem TolOk.mov {n : Net} {t : Tol} (hv : NetV n) (p : Pln) (h : TolOk n t) : TolOk n (mov1 n p t) := by
 refine ⟨by rw [mov1_way]; exact h.l, by rw [mov1_way]; exact h.ch, ?_⟩
 rw [mov1_way]
 unfold mov1
 split
 ·exact h.p
 ·rename_i h1
  have h1' : ¬ t.hop = (t.way.length : Int) := by simpa using h1
  obtain ⟨q1, q2, q3, q4⟩ := h.at' h1'
  split
  ·dsimp only
   by_cases e : t.hop + 1 = (t.way.length : Int)
   ·exact .inl ⟨e, rfl⟩
   ·exact .inr ⟨by omega, by omega, Int.le_refl _, cap_nn hv _⟩
  ·rename_i h2
   refine .inr ⟨q1, q2, ?_, ?_⟩
   ·exact pos0_nn _
   ·simpa using h2
theorem TolOk.movK {n : Net} {p : Pln} (hv : NetV n) : ∀ (k : Nat) {t : Tol}, TolOk n t → TolOk n (movK n p k t)
 | 0, t, h => h
 | k + 1, t, h => TolOk.movK hv k (h.mov hv p)
theorem seg_at {n : Net} (hv : NetV n) {h : Int × Bool} (h1 : 0 ≤ h.1 ∧ h.1 < n.segs.length) : ∃ s : Seg, (n.segs.map Seg.row).getD h.1.toNat [] = s.row ∧ tEnds n h = (if h.2 = true then (s.to, s.fr) else (s.fr, s.to)) ∧ tCap n h = s.cap ∧ (0 ≤ s.fr ∧ s.fr < n.nodes.length) ∧ (0 ≤ s.to ∧ s.to < n.nodes.length) ∧ 1 ≤ s.cap ∧ s.cap ≤ 1000000 := by
 have hk : h.1.toNat < n.segs.length := by omega
 have hse := hv.se _ (List.getElem_mem hk)
 refine ⟨n.segs[h.1.toNat], getD_map Seg.row n.segs _ hk, ?_, ?_, hse.1, hse.2.1, hse.2.2.2⟩
 ·unfold tEnds; rw [List.getElem?_eq_getElem hk]
 ·unfold tCap; rw [List.getElem?_eq_getElem hk]
def VlF (t : Tol) (a : Int) (l : List (Nat × D)) : List (Nat × D) := (2, .ptr (0, 2) 0 0 0) :: (3, .ptr (0, 3) 0 0 0) :: (5, di a) :: l
def VlH (n : Net) (t : Tol) : Hp := (Hp.none.put (0, 3) ⟨0, 3, [t.row]⟩).put (0, 2) ⟨0, 6, [netD n]⟩
def VlI (n : Net) (t : Tol) (B : Bool) : Nat → St → Prop := fun k st => ∃ (j : Nat) (a : Int), j + k = t.way.length ∧ -1 ≤ a ∧ chnB n a (t.way.drop j) = B ∧ st = ⟨fr (VlF t a [(21, .sl (t.way.map tHop)), (22, di t.way.length), (23, di j)]), VlH n t⟩
def VlQ (n : Net) (t : Tol) : Ex → St → Prop := finQ r96 [] false (Pu (db (tolV n t)) Hp.none)
set_option maxHeartbeats 8000000 in
theorem vl_end (n : Net) (hv : NetV n) (t : Tol) (hl : ¬ ((if decide ((t.way.length : Int) < 1) = true then true else decide ((32 : Int) < t.way.length)) = true)) (hc : chnB n (-1) t.way = true) (F : Fr) (H : Hp) (hwk : Weak [] ⟨F, H⟩ ⟨fr [(2, .ptr (0, 2) 0 0 0), (3, .ptr (0, 3) 0 0 0)], VlH n t⟩) : vc T0 (fun t => (0, t)) [] (.weak c96_8) (VlQ n t) ⟨F, H⟩ := by
 refine vc_wk hwk ?_
 unfold VlQ
 have hin := chn_in hc
 have hV : tolV n t = posB n t := by unfold tolV; rw [if_neg hl, if_pos hc]
 rw [hV]
 unfold posB
 cases c1 : (t.hop == (t.way.length : Int)) with
 | true =>
  rw [if_pos rfl]
  simp (maxSteps:=500000) only [↓vp, vv, ↓reduceIte, simprocAttr, c96_8, r96, VlF, VlH, netD, Tol.row, c1, Pu]
 | false =>
  rw [if_neg (by simp)]
  cases c2 : decide (0 ≤ t.hop) with
  | false =>
   rw [if_neg (by simp)]
   simp (maxSteps:=500000) only [↓vp, vv, ↓reduceIte, simprocAttr, c96_8, c96_7, r96, VlF, VlH, netD, Tol.row, c1, c2, Pu]
  | true =>
   rw [if_pos rfl]
   cases c3 : decide (t.hop < (t.way.length : Int)) with
   | false =>
    rw [if_neg (by simp)]
    simp (maxSteps:=500000) only [↓vp, vv, ↓reduceIte, simprocAttr, c96_8, c96_7, r96, VlF, VlH, netD, Tol.row, c1, c2, c3, Pu]
   | true =>
    rw [if_pos rfl]
    cases c4 : decide (0 ≤ t.pos) with
    | false =>
     rw [if_neg (by simp)]
     simp (maxSteps:=500000) only [↓vp, vv, ↓reduceIte, simprocAttr, c96_8, c96_7, r96, VlF, VlH, netD, Tol.row, c1, c2, c3, c4, Pu]
    | true =>
     rw [if_pos rfl]
     have q2 : 0 ≤ t.hop := by simpa using c2
     have q3 : t.hop < (t.way.length : Int) := by simpa using c3
     have q4 : t.hop.toNat < t.way.length := by omega
     have gw := tHop_g t.way t.hop.toNat q4
     rw [way_get q4]
     obtain ⟨sg, gs, _, hcap, _⟩ := seg_at hv (hin _ (List.getElem_mem q4))
     have hi := hin _ (List.getElem_mem q4)
     rw [hcap]
     generalize t.way[t.hop.toNat] = y at gw gs hi
     obtain ⟨k, b⟩ := y
     obtain ⟨u1, u2⟩ := hi
     dsimp only at u1 u2 gs
     simp (maxSteps:=500000) only [↓vp, vv, ↓reduceIte, simprocAttr, c96_8, c96_7, r96, VlF, VlH, netD, Tol.row, c1, c2, c3, c4, q2, q3, gw, tHop, gs, Seg.row, u1, u2, Pu]
set_option maxHeartbeats 8000000 in
theorem valid_c (n : Net) (hv : NetV n) (t : Tol) (hw : t.way.length ≤ 1000000) (nn : Nm) : CallsA Try.prog 96 [n.enc, t.enc] Hp.none nn (Pu (db (tolV n t)) Hp.none) := by
 obtain ⟨code, h1, h2⟩ := c96_ok
 refine callsA_of (T0_ok _) mixed (N := fun t => (0, t)) Try.func96 h1 h2 r96_ok [] false js_nil js_nil' (by simp [Try.f96]) ?_
 have hsl := hv.sl
 cases c1 : decide ((t.way.length : Int) < 1) with
 | true =>
  have hV : tolV n t = false := by unfold tolV; rw [c1, if_pos rfl, if_pos rfl]
  rw [hV]
  simp (maxSteps:=500000) only [↓vp, vv, ↓reduceIte, simprocAttr, c96, r96, Net.enc, netD, Tol.enc, Tol.row, c1, Pu]
 | false =>
  cases c2 : decide ((32 : Int) < t.way.length) with
  | true =>
   have hV : tolV n t = false := by unfold tolV; rw [c1, if_neg Bool.false_ne_true, c2, if_pos rfl]
   rw [hV]
   simp (maxSteps:=500000) only [↓vp, vv, ↓reduceIte, simprocAttr, c96, r96, Net.enc, netD, Tol.enc, Tol.row, c1, c2, Pu]
  | false =>
   have hl : ¬ ((if decide ((t.way.length : Int) < 1) = true then true else decide ((32 : Int) < t.way.length)) = true) := by rw [c1, c2, if_neg Bool.false_ne_true]; exact Bool.false_ne_true
   have hVf : chnB n (-1) t.way = false → tolV n t = false := fun e => by unfold tolV; rw [if_neg hl, e, if_neg Bool.false_ne_true]
   generalize hB : chnB n (-1) t.way = B at hVf
   simp (maxSteps:=500000) only [↓vp, vv, ↓reduceIte, simprocAttr, c96, c96_9, Net.enc, netD, Tol.enc, Tol.row, c1, c2]
   rw [vc_loop]
   refine ⟨VlI n t B, ⟨t.way.length, _, (weak_eqA [] [(0, 2), (0, 3)] (VlF t (-1) [(21, .sl (t.way.map tHop)), (22, di t.way.length), (23, di 0)]) (by refine ⟨?_, ?_, ?_, by simp, ?_⟩ <;> (simp only [↓vp, vv, ↓reduceIte, simprocAttr, coverS, refsF, VlF, VlH, netD, Tol.row] <;> try rfl))), 0, -1, by omega, by omega, hB, rfl⟩, ?_⟩
   rintro k st ⟨j, a, hjk, ha, hch, rfl⟩
   by_cases hj : j < t.way.length
   ·have hj' : (j : Int) < t.way.length := by omega
    have hjn := idx_nn j
    have w1 := idx_next (j := j) (by omega)
    have gw := tHop_g t.way j hj
    rw [List.drop_eq_getElem_cons hj] at hch
    generalize t.way[j] = y at gw hch
    unfold chnB at hch
    obtain ⟨q, b⟩ := y
    unfold tUnk at hch
    dsimp only at hch
    cases d1 : decide (q < 0) with
    | true =>
     rw [d1, if_pos rfl, if_pos rfl] at hch
     have hV := hVf hch.symm
     simp (maxSteps:=500000) only [↓vp, vv, ↓reduceIte, simprocAttr, c96_6, c96_5, r96, VlF, VlH, netD, Tol.row, hj', hjn, Int.toNat_natCast, gw, tHop, d1, hV, Pu]
    | false =>
     rw [d1, if_neg Bool.false_ne_true] at hch
     cases d2 : decide ((n.segs.length : Int) ≤ q) with
     | true =>
      rw [d2, if_pos rfl] at hch
      have hV := hVf hch.symm
      simp (maxSteps:=500000) only [↓vp, vv, ↓reduceIte, simprocAttr, c96_6, c96_5, r96, VlF, VlH, netD, Tol.row, hj', hjn, Int.toNat_natCast, gw, tHop, d1, d2, hV, Pu]
     | false =>
      rw [d2, if_neg Bool.false_ne_true] at hch
      have u1 : 0 ≤ q := by simpa using d1
      have u2 : q < (n.segs.length : Int) := by have := of_decide_eq_false d2; omega
      obtain ⟨sg, gs, he, _, s1, s2, _⟩ := seg_at hv (h := (q, b)) ⟨u1, u2⟩
      dsimp only at gs he
      cases b
      ·rw [if_neg Bool.false_ne_true] at he
       rw [he] at hch
       dsimp only at hch
       cases d3 : decide (0 ≤ a) with
       | false =>
        rw [d3, if_neg Bool.false_ne_true, if_neg Bool.false_ne_true] at hch
        simp (maxSteps:=500000) only [↓vp, vv, ↓reduceIte, simprocAttr, c96_6, c96_5, c96_4, c96_3, c96_2, c96_1, VlF, VlH, netD, Tol.row, hj', hjn, Int.toNat_natCast, gw, tHop, d1, d2, u1, u2, gs, Seg.row, d3, w1]
        exact ⟨k - 1, _, by omega, (weak_eqA [] [(0, 2), (0, 3)] (VlF t sg.to [(21, .sl (t.way.map tHop)), (22, di t.way.length), (23, di (j + 1 : Nat))]) (by refine ⟨?_, ?_, ?_, by simp, ?_⟩ <;> (simp only [↓vp, vv, ↓reduceIte, simprocAttr, coverS, refsF, VlF, VlH, netD, Tol.row, w1] <;> try rfl))), j + 1, sg.to, by omega, by omega, hch, rfl⟩
       | true =>
        rw [d3, if_pos rfl] at hch
        cases d4 : (a != sg.fr) with
        | true =>
         rw [d4, if_pos rfl] at hch
         have hV := hVf hch.symm
         simp (maxSteps:=500000) only [↓vp, vv, ↓reduceIte, simprocAttr, c96_6, c96_5, c96_4, c96_3, c96_2, c96_1, r96, VlF, VlH, netD, Tol.row, hj', hjn, Int.toNat_natCast, gw, tHop, d1, d2, u1, u2, gs, Seg.row, d3, d4, hV, Pu]
        | false =>
         rw [d4, if_neg Bool.false_ne_true] at hch
         simp (maxSteps:=500000) only [↓vp, vv, ↓reduceIte, simprocAttr, c96_6, c96_5, c96_4, c96_3, c96_2, c96_1, VlF, VlH, netD, Tol.row, hj', hjn, Int.toNat_natCast, gw, tHop, d1, d2, u1, u2, gs, Seg.row, d3, d4, w1]
         exact ⟨k - 1, _, by omega, (weak_eqA [] [(0, 2), (0, 3)] (VlF t sg.to [(21, .sl (t.way.map tHop)), (22, di t.way.length), (23, di (j + 1 : Nat))]) (by refine ⟨?_, ?_, ?_, by simp, ?_⟩ <;> (simp only [↓vp, vv, ↓reduceIte, simprocAttr, coverS, refsF, VlF, VlH, netD, Tol.row, w1] <;> try rfl))), j + 1, sg.to, by omega, by omega, hch, rfl⟩
      ·rw [if_pos rfl] at he
       rw [he] at hch
       dsimp only at hch
       cases d3 : decide (0 ≤ a) with
       | false =>
        rw [d3, if_neg Bool.false_ne_true, if_neg Bool.false_ne_true] at hch
        simp (maxSteps:=500000) only [↓vp, vv, ↓reduceIte, simprocAttr, c96_6, c96_5, c96_4, c96_3, c96_2, c96_1, VlF, VlH, netD, Tol.row, hj', hjn, Int.toNat_natCast, gw, tHop, d1, d2, u1, u2, gs, Seg.row, d3, w1]
        exact ⟨k - 1, _, by omega, (weak_eqA [] [(0, 2), (0, 3)] (VlF t sg.fr [(21, .sl (t.way.map tHop)), (22, di t.way.length), (23, di (j + 1 : Nat))]) (by refine ⟨?_, ?_, ?_, by simp, ?_⟩ <;> (simp only [↓vp, vv, ↓reduceIte, simprocAttr, coverS, refsF, VlF, VlH, netD, Tol.row, w1] <;> try rfl))), j + 1, sg.fr, by omega, by omega, hch, rfl⟩
       | true =>
        rw [d3, if_pos rfl] at hch
        cases d4 : (a != sg.to) with
        | true =>
         rw [d4, if_pos rfl] at hch
         have hV := hVf hch.symm
         simp (maxSteps:=500000) only [↓vp, vv, ↓reduceIte, simprocAttr, c96_6, c96_5, c96_4, c96_3, c96_2, c96_1, r96, VlF, VlH, netD, Tol.row, hj', hjn, Int.toNat_natCast, gw, tHop, d1, d2, u1, u2, gs, Seg.row, d3, d4, hV, Pu]
        | false =>
         rw [d4, if_neg Bool.false_ne_true] at hch
         simp (maxSteps:=500000) only [↓vp, vv, ↓reduceIte, simprocAttr, c96_6, c96_5, c96_4, c96_3, c96_2, c96_1, VlF, VlH, netD, Tol.row, hj', hjn, Int.toNat_natCast, gw, tHop, d1, d2, u1, u2, gs, Seg.row, d3, d4, w1]
         exact ⟨k - 1, _, by omega, (weak_eqA [] [(0, 2), (0, 3)] (VlF t sg.fr [(21, .sl (t.way.map tHop)), (22, di t.way.length), (23, di (j + 1 : Nat))]) (by refine ⟨?_, ?_, ?_, by simp, ?_⟩ <;> (simp only [↓vp, vv, ↓reduceIte, simprocAttr, coverS, refsF, VlF, VlH, netD, Tol.row, w1] <;> try rfl))), j + 1, sg.fr, by omega, by omega, hch, rfl⟩
   ·have hj' : ¬ (j : Int) < t.way.length := by omega
    rw [List.drop_of_length_le (by omega)] at hch
    have hc : chnB n (-1) t.way = true := hB.trans hch.symm
    have ve := vl_end n hv t hl hc
    unfold VlQ at ve
    simp (maxSteps:=500000) only [↓vp, vv, ↓reduceIte, simprocAttr, c96_6, VlF, VlH, netD, Tol.row, hj']
    exact ve _ _ (weak_eqA [] [(0, 2), (0, 3)] [(2, .ptr (0, 2) 0 0 0), (3, .ptr (0, 3) 0 0 0)] (by refine ⟨?_, ?_, ?_, by simp, ?_⟩ <;> (simp only [↓vp, vv, ↓reduceIte, simprocAttr, coverS, refsF, VlH, netD, Tol.row] <;> try rfl)))
set_option maxHeartbeats 4000000 in
theorem copied_c (t : Tol) (h : 1 ≤ t.way.length ∧ t.way.length ≤ 1000000) (nn : Nm) : CallsA Try.prog 79 [t.enc] Hp.none nn (Pu t.enc Hp.none) := by
 obtain ⟨code, h1, h2⟩ := c79_ok
 refine callsA_of (T0_ok _) mixed (N := fun t => (0, t)) Try.func79 h1 h2 r79_ok [] false js_nil js_nil' (by simp [Try.f79]) ?_
 have z1 : (16 : Int) * t.way.length ≤ 281474976710656 := by omega
 have z2 : (t.way.length : Int) ≤ 4611686018427387904 := by omega
 have z3 := idx_nn t.way.length
 have e3 : 0 < t.way.length := by omega
 have e4 : List.drop t.way.length (List.replicate t.way.length [di 0, db false]) = [] := List.drop_of_length_le (by simp)
 have e5 : (t.way.map tHop).take t.way.length = t.way.map tHop := List.take_of_length_le (by simp)
 simp (maxSteps:=500000) only [↓vp, vv, ↓reduceIte, simprocAttr, c79, r79, r79, Tol.enc, Tol.row, z1, z2, z3, e3, e4, e5, Nat.min_self, Nat.zero_add, List.take_zero, List.nil_append, List.append_nil, List.length_replicate, Int.toNat_natCast, Pu]
 exact ⟨fun _ _ => rfl, fun j _ => tHop_pl j⟩
theorem received_c (t : Tol) (nn : Nm) : CallsA Try.prog 30 [t.enc] Hp.none nn (Pu (db (if decide ((0 : Int) < t.way.length) = true then t.hop == (t.way.length : Int) else false)) Hp.none) := by
 obtain ⟨code, h1, h2⟩ := c30_ok
 refine callsA_of (T0_ok _) mixed (N := fun t => (0, t)) Try.func30 h1 h2 r30_ok [] false js_nil js_nil' (by simp [Try.f30]) ?_
 cases c1 : decide ((0 : Int) < t.way.length) <;> simp (maxSteps:=500000) only [↓vp, vv, ↓reduceIte, simprocAttr, c30, r30, r30, Tol.enc, Tol.row, c1, Pu]
def selTol (ok : Tol → Prop) (out : Tol → D) : List D → Option (Prop × D)
 | [.agg r] => match tolOf1 r with
  | some t => some (ok t, out t)
  | Option.none => Option.none
 | _ => Option.none
theorem tc_tol {f : FuncId} {T : Tbl} {ok : Tol → Prop} {out : Tol → D} (hf : fnOk Try.prog f = true) (h : ∀ t, ok t → ∀ nn, CallsA Try.prog f [t.enc] Hp.none nn (Pu (out t) Hp.none)) (hT : TblOk Try.prog T) : TblOk Try.prog (tc f (rowPu (selTol ok out)) T) :=
 tc_pu hf (fun args pre d hs hp nn => by
  unfold selTol at hs
  split at hs
  ·split at hs
   ·rename_i e
    cases hs
    rw [tolOf1_eq e]
    exact h _ hp nn
   ·cases hs
  ·cases hs) hT
def wayP (t : Tol) : Prop := 1 ≤ t.way.length ∧ t.way.length ≤ 1000000
def recB (t : Tol) : Bool := if decide ((0 : Int) < t.way.length) = true then t.hop == (t.way.length : Int) else false
def wayQ (t : Tol) : Prop := t.way.length ≤ 1000000
theorem copied_w (t : Tol) (h : t.way.length ≤ 1000000) (nn : Nm) : CallsA Try.prog 79 [t.enc] Hp.none nn (Pu t.enc Hp.none) := by
 rcases Nat.eq_zero_or_pos t.way.length with h0 | h0
 ·obtain ⟨w, k, a⟩ := t
  obtain rfl : w = [] := List.eq_nil_of_length_eq_zero h0
  obtain ⟨code, h1, h2⟩ := c79_ok
  refine callsA_of (T0_ok _) mixed (N := fun t => (0, t)) Try.func79 h1 h2 r79_ok [] false js_nil js_nil' (by simp [Try.f79]) ?_
  simp (maxSteps:=500000) only [↓vp, vv, ↓reduceIte, simprocAttr, c79, r79, Tol.enc, Tol.row, List.map_nil, List.length_nil, List.replicate_zero, Int.toNat_zero, Pu, Nat.min_self, List.take_zero, List.drop_zero, List.take_nil, List.drop_nil]
 ·exact copied_c t ⟨h0, h⟩ nn
def TMv : Tbl := tc 79 (rowPu (selTol wayP Tol.enc)) (tc 30 (rowPu (selTol (fun _ => True) fun t => db (recB t))) T0)
theorem TMv_ok : TblOk Try.prog TMv := tc_tol f79_ok (fun t h nn => copied_c t h nn) (tc_tol f30_ok (fun t _ nn => received_c t nn) (T0_ok _))
structure MvPre (n : Net) (p : Pln) (t : Tol) : Prop where
 v : NetV n
 t : TolOk n t
 rl : p.rates.length = n.segs.length
 rb : ∀ r ∈ p.rates, -1000000 ≤ r ∧ r ≤ 1000000
set_option maxHeartbeats 8000000 in
theorem moved_c (n : Net) (p : Pln) (t : Tol) (h : MvPre n p t) (nn : Nm) : CallsA Try.prog 80 [n.enc, p.enc, t.enc] Hp.none nn (Pu (mov1 n p t).enc Hp.none) := by
 obtain ⟨code, h1, h2⟩ := c80_ok
 refine callsA_of TMv_ok mixed (N := fun t => (0, t)) Try.func80 h1 h2 r80_ok [] false js_nil js_nil' (by simp [Try.f80]) ?_
 have hl := h.t.l
 have ht1 := tolOf1_x t
 have hw : wayP t := ⟨by omega, by omega⟩
 have hrec : recB t = (t.hop == (t.way.length : Int)) := by unfold recB; rw [decide_eq_true (by omega), if_pos rfl]
 unfold mov1
 cases c1 : (t.hop == (t.way.length : Int)) with
 | true =>
  rw [c1] at hrec
  rw [if_pos rfl]
  simp (maxSteps:=500000) only [↓vp, vv, ↓reduceIte, simprocAttr, c80, r80, TMv, selTol, Net.enc, Pln.enc, Tol.enc, netD, plnD, Tol.row, ht1, hw, hrec, Pu]
 | false =>
  rw [c1] at hrec
  rw [if_neg Bool.false_ne_true]
  have h1' : ¬ t.hop = (t.way.length : Int) := by simpa using c1
  obtain ⟨q1, q2, q3, q4⟩ := h.t.at' h1'
  have q5 : t.hop.toNat < t.way.length := by omega
  have gw := tHop_g t.way t.hop.toNat q5
  rw [way_get q5] at q4 ⊢
  have hin := chn_in h.t.ch _ (List.getElem_mem q5)
  obtain ⟨sg, gs, _, hcap, _, _, hc1, hc2⟩ := seg_at h.v hin
  rw [hcap] at q4 ⊢
  have hrl := h.rl
  have hrb := h.rb
  have hsl := h.v.sl
  generalize hy : t.way[t.hop.toNat] = y at *
  obtain ⟨k, b⟩ := y
  obtain ⟨u1, u2⟩ := hin
  dsimp only at u1 u2 gs
  have k1 : k.toNat < p.rates.length := by omega
  have k2 : k < (p.rates.length : Int) := by omega
  have gr : (p.rates.map iRow).getD k.toNat [] = [di (p.rates.getD k.toNat 0)] := by rw [List.getD_eq_getElem?_getD (l := p.rates), List.getElem?_eq_getElem k1]; exact iRow_at p.rates k.toNat k1
  have hr : -1000000 ≤ p.rates.getD k.toNat 0 ∧ p.rates.getD k.toNat 0 ≤ 1000000 := by
   rw [List.getD_eq_getElem?_getD, List.getElem?_eq_getElem k1]
   exact hrb _ (List.getElem_mem k1)
  unfold tRate
  dsimp only
  generalize p.rates.getD k.toNat 0 = r at *
  have wh : IntKind.i64.wrap (t.hop + 1) = t.hop + 1 := wrap_i (by omega)
  cases b
  ·rw [if_neg Bool.false_ne_true]
   have wr : IntKind.i64.wrap (t.pos + r) = t.pos + r := wrap_i (by omega)
   have em : (if 0 < t.pos + r then t.pos + r else 0) = pos0 (t.pos + r) := rfl
   cases d1 : decide (sg.cap < pos0 (t.pos + r)) with
   | true =>
    rw [if_pos rfl]
    simp (maxSteps:=500000) only [↓vp, vv, ↓reduceIte, simprocAttr, c80, c80_3, c80_2, c80_1, r80, TMv, selTol, Net.enc, Pln.enc, Tol.enc, netD, plnD, Tol.row, ht1, hw, hrec, q1, q2, gw, tHop, u1, u2, k2, gr, gs, Seg.row, wr, em, d1, wh, Pu]
   | false =>
    rw [if_neg Bool.false_ne_true]
    simp (maxSteps:=500000) only [↓vp, vv, ↓reduceIte, simprocAttr, c80, c80_3, c80_2, c80_1, r80, TMv, selTol, Net.enc, Pln.enc, Tol.enc, netD, plnD, Tol.row, ht1, hw, hrec, q1, q2, gw, tHop, u1, u2, k2, gr, gs, Seg.row, wr, em, d1, wh, Pu]
  ·rw [if_pos rfl]
   have wn : IntKind.i64.wrap (0 - r) = -r := by rw [wrap_i (by omega)]; omega
   have wr : IntKind.i64.wrap (t.pos + -r) = t.pos + -r := wrap_i (by omega)
   have em : (if 0 < t.pos + -r then t.pos + -r else 0) = pos0 (t.pos + -r) := rfl
   cases d1 : decide (sg.cap < pos0 (t.pos + -r)) with
   | true =>
    rw [if_pos rfl]
    simp (maxSteps:=500000) only [↓vp, vv, ↓reduceIte, simprocAttr, c80, c80_3, c80_2, c80_1, r80, TMv, selTol, Net.enc, Pln.enc, Tol.enc, netD, plnD, Tol.row, ht1, hw, hrec, q1, q2, gw, tHop, u1, u2, k2, gr, gs, Seg.row, wn, wr, em, d1, wh, Pu]
   | false =>
    rw [if_neg Bool.false_ne_true]
    simp (maxSteps:=500000) only [↓vp, vv, ↓reduceIte, simprocAttr, c80, c80_3, c80_2, c80_1, r80, TMv, selTol, Net.enc, Pln.enc, Tol.enc, netD, plnD, Tol.row, ht1, hw, hrec, q1, q2, gw, tHop, u1, u2, k2, gr, gs, Seg.row, wn, wr, em, d1, wh, Pu]
def badT (n : Net) (t : Tol) : Bool := !(tolV n t)
def selVal : List D → Option (Prop × D)
 | [.agg a, .agg b] => match netOf1 a, tolOf1 b with
  | some n, some t => some (NetV n ∧ t.way.length ≤ 1000000, db (tolV n t))
  | _, _ => Option.none
 | _ => Option.none
theorem tc_val {T : Tbl} (hT : TblOk Try.prog T) : TblOk Try.prog (tc 96 (rowPu selVal) T) :=
 tc_pu f96_ok (fun args pre d hs hp nn => by
  unfold selVal at hs
  split at hs
  ·split at hs
   ·rename_i e1 e2
    cases hs
    rw [netOf1_eq e1, tolOf1_eq e2]
    exact valid_c _ hp.1 _ hp.2 nn
   ·cases hs
  ·cases hs) hT
theorem tck1_c (n : Net) (hv : NetV n) (t : Tol) (hw : t.way.length ≤ 1000000) (nn : Nm) : CallsA Try.prog 126 [.agg t.row, .ip (netD n)] Hp.none nn (Pu (db (badT n t)) Hp.none) := by
 obtain ⟨code, h1, h2⟩ := c126_ok
 refine callsA_of (tc_val (T0_ok _)) mixed (N := fun t => (0, t)) Try.func126 h1 h2 r126_ok [] false js_nil js_nil' (by simp [Try.f126]) ?_
 have hn1 := netOf1_x n
 have ht1 := tolOf1_x t
 simp (maxSteps:=500000) only [↓vp, vv, ↓reduceIte, simprocAttr, c126, r126, r126, selVal, netD, Tol.row, hn1, ht1, hv, hw, badT, Pu]
def toolE (n : Net) (p : Pln) (l : List Tol) : Int := if checkI n ≠ 0 then checkI n else if fckI n p ≠ 0 then fckI n p else if l.any (badT n) = true then 24 else 0
def TCk (P : Program) (n : Net) : Tbl := tc 95 (rowPu (selNet fun n => di (checkI n))) (tc 124 (rowPu (selNP FckPre fun n p => di (fckI n p))) (tc 125 (rowPu (selQ P true 3 (fun g l => qRow tolOf1 (badT n)) outC)) T0))
theorem TCk_ok (n : Net) : TblOk Try.prog (TCk Try.prog n) := by
 refine tc_netf f95_ok (fun n hz nn => check_c n hz nn) (tc_np f124_ok (fun n p h nn => fcheck_c n p h.1 h.2 nn) (tc_pu f125_ok (fun args pre d h hp nn => ?_) (T0_ok _)))
 unfold selQ at h
 split at h
 ·split at h
  ·rename_i hi
   cases h
   rw [ipsOf_eq hi]
   exact hasF_O _ _ _ _ hp nn
  ·cases h
 ·cases h
theorem Tol.done (t : Tol) : doneL t.row = true := rfl
set_option maxHeartbeats 8000000 in
theorem check_t (n : Net) (p : Pln) (l : List Tol) (h : FckPre n p) (hl : l.length ≤ 1000000) (hw : ∀ t ∈ l, t.way.length ≤ 1000000) (nn : Nm) : CallsA Try.prog 78 [n.enc, p.enc, .sl (l.map Tol.row)] Hp.none nn (Pu (di (toolE n p l)) Hp.none) := by
 obtain ⟨code, h1, h2⟩ := c78_ok
 refine callsA_of (TCk_ok n) mixed (N := fun t => (0, t)) Try.func78 h1 h2 r78_ok [] false js_nil js_nil' (by simp [Try.f78]) ?_
 have hn1 := netOf1_x n
 have hp1 := plnOf1_x p
 have hz := h.1
 unfold toolE
 cases c1 : (checkI n != 0) with
 | true =>
  rw [if_pos (by simpa using c1)]
  simp (maxSteps:=500000) only [↓vp, vv, ↓reduceIte, simprocAttr, c78, r78, TCk, selNet, Net.enc, netD, Pln.enc, plnD, hn1, hz, c1, Pu]
 | false =>
  have e1 : checkI n = 0 := by simpa using c1
  have hv := check0 e1
  rw [if_neg (by omega)]
  rw [e1] at c1
  cases c2 : (fckI n p != 0) with
  | true =>
   rw [if_pos (by simpa using c2)]
   simp (maxSteps:=500000) only [↓vp, vv, ↓reduceIte, simprocAttr, c78, c78_3, r78, TCk, selNet, selNP, Net.enc, netD, Pln.enc, plnD, hn1, hp1, hz, h, e1, c1, c2, Pu]
  | false =>
   have e2 : fckI n p = 0 := by simpa using c2
   rw [if_neg (by omega)]
   rw [e2] at c2
   have hq : QOk Try.prog true 3 (qRow tolOf1 (badT n)) 126 [netD n] (l.map Tol.row) := by
    refine ⟨f126_ok, by rw [List.length_map]; omega, fun r hr => ?_⟩
    obtain ⟨x, hx, rfl⟩ := List.mem_map.1 hr
    refine ⟨rfl, rfl, fun h => Bool.noConfusion h, fun nn => ?_⟩
    have e : qRow tolOf1 (badT n) (elV true x.row) = badT n x := qRow_agg (tolOf1_row x)
    rw [e]
    exact tck1_c n hv x (hw x hx) nn
   have ho : outC (fun r => qRow tolOf1 (badT n) (elV true r)) (l.map Tol.row) = db (l.any (badT n)) := by
    unfold outC
    rw [List.any_map]
    congr 2
    funext x
    exact qRow_agg (tolOf1_row x)
   simp (maxSteps:=500000) only [↓vp, vv, ↓reduceIte, simprocAttr, c78, c78_3, TCk, selNet, selNP, Net.enc, netD, Pln.enc, plnD, hn1, hp1, hz, h, e1, c1, e2, c2]
   refine vc_wk ((weak_ip 3 (0, 3) 0 6 (netD n) (by simp only [↓vp, vv, ↓reduceIte, simprocAttr, ]) (by simp only [↓vp, vv, ↓reduceIte, simprocAttr, netD]) (by simp only [↓vp, vv, ↓reduceIte, simprocAttr, netD]) (by simp)).trans (weak_eq [] [] [(2, .sl (l.map Tol.row)), (3, .ip (netD n))] (by simp only [↓vp, vv, ↓reduceIte, simprocAttr, coverS]) (by simp only [↓vp, vv, ↓reduceIte, simprocAttr, refsF]) (by simp only [↓vp, vv, ↓reduceIte, simprocAttr, ]) (by simp) (by simp only [↓vp, vv, ↓reduceIte, simprocAttr, ]; try rfl))) ?_
   cases c3 : l.any (badT n) with
   | true =>
    rw [c3] at ho
    rw [if_pos rfl]
    simp (maxSteps:=500000) only [↓vp, vv, ↓reduceIte, simprocAttr, c78_2, r78, TCk, selQ, ipsOf, hq, ho, Pu]
   | false =>
    rw [c3] at ho
    rw [if_neg Bool.false_ne_true]
    simp (maxSteps:=500000) only [↓vp, vv, ↓reduceIte, simprocAttr, c78_2, c78_1, r78, TCk, selQ, ipsOf, hq, ho, Pu]
def TLa : Tbl := tc 95 (rowPu (selNet fun n => di (checkI n))) (tc 96 (rowPu selVal) (tc 79 (rowPu (selTol wayP Tol.enc)) T0))
theorem TLa_ok : TblOk Try.prog TLa := tc_netf f95_ok (fun n hz nn => check_c n hz nn) (tc_val (tc_tol f79_ok (fun t h nn => copied_c t h nn) (T0_ok _)))
def launD (n : Net) (w : List (Int × Bool)) : D := if tolV n ⟨w, 0, 0⟩ = true then .tup [(⟨w, 0, 0⟩ : Tol).enc, di 0] else .tup [(⟨[], 0, 0⟩ : Tol).enc, di 24]
set_option maxHeartbeats 8000000 in
theorem launch_c (n : Net) (w : List (Int × Bool)) (hz : NetSz n) (hck : checkI n = 0) (hw : w.length ≤ 1000000) (nn : Nm) : CallsA Try.prog 38 [n.enc, .sl (w.map tHop)] Hp.none nn (Pu (launD n w) Hp.none) := by
 obtain ⟨code, h1, h2⟩ := c38_ok
 refine callsA_of TLa_ok mixed (N := fun t => (0, t)) Try.func38 h1 h2 r38_ok [] false js_nil js_nil' (by simp [Try.f38]) ?_
 have hn1 := netOf1_x n
 have ht1 : tolOf1 [.sl (w.map tHop), di 0, di 0] = some ⟨w, 0, 0⟩ := tolOf1_row ⟨w, 0, 0⟩
 have hv := check0 hck
 unfold launD
 cases c1 : tolV n ⟨w, 0, 0⟩ with
 | true =>
  have hT := (tolV_iff n ⟨w, 0, 0⟩).1 c1
  have hwp : wayP ⟨w, 0, 0⟩ := ⟨hT.l.1, hw⟩
  rw [if_pos rfl]
  simp (maxSteps:=500000) only [↓vp, vv, ↓reduceIte, simprocAttr, c38, c38_2, c38_1, r38, TLa, selNet, selVal, selTol, Net.enc, netD, Tol.enc, Tol.row, hn1, ht1, hz, hck, hv, hw, hwp, c1, bne_self_eq_false, Pu]
 | false =>
  rw [if_neg Bool.false_ne_true]
  simp (maxSteps:=500000) only [↓vp, vv, ↓reduceIte, simprocAttr, c38, c38_2, c38_1, r38, TLa, selNet, selVal, selTol, Net.enc, netD, Tol.enc, Tol.row, hn1, ht1, hz, hck, hv, hw, c1, bne_self_eq_false, List.map_nil, Pu]
structure RunPre (n : Net) (p : Pln) (l : List Tol) (ticks : Int) : Prop where
 z : FckPre n p
 f : fckI n p = 0
 few : l.length ≤ 16
 ok : ∀ t ∈ l, TolOk n t
 k : 0 ≤ ticks ∧ ticks ≤ 400
theorem plnv_rb {n : Net} {p : Pln} (h : PlnV n p) : ∀ r ∈ p.rates, -1000000 ≤ r ∧ r ≤ 1000000 := fun r hr => by
 obtain ⟨k, hk⟩ := List.getElem?_of_mem hr
 have hl : k < p.rates.length := (List.getElem?_eq_some_iff.1 hk).1
 have hrl := h.rl
 have hx : (n.segs[k]'(by omega), r) ∈ n.segs.zip p.rates := zip_of (List.getElem?_eq_getElem (by omega)) hk
 have := withB_of (h.rb _ hx)
 dsimp only at this
 have hm : most (n.segs[k]'(by omega)) ≤ 1000 := by unfold most; split <;> omega
 omega
def selMv : List D → Option (Prop × D)
 | [.agg a, .agg b, .agg c] => match netOf1 a, plnOf1 b, tolOf1 c with
  | some n, some p, some t => some (MvPre n p t, (mov1 n p t).enc)
  | _, _, _ => Option.none
 | _ => Option.none
def selCk : List D → Option (Prop × D)
 | [.agg a, .agg b, .sl rows] => match netOf1 a, plnOf1 b, lsOf tolOf1 rows with
  | some n, some p, some l => some (FckPre n p ∧ l.length ≤ 1000000 ∧ ∀ t ∈ l, t.way.length ≤ 1000000, di (toolE n p l))
  | _, _, _ => Option.none
 | _ => Option.none
def TRun : Tbl := tc 79 (rowPu (selTol wayQ Tol.enc)) (tc 80 (rowPu selMv) (tc 78 (rowPu selCk) T0))
theorem TRun_ok : TblOk Try.prog TRun := tc_tol f79_ok (fun t h nn => copied_w t h nn) (tc_pu f80_ok (fun args pre d hs hp nn => by
 unfold selMv at hs
 split at hs
 ·split at hs
  ·rename_i e1 e2 e3
   cases hs
   rw [netOf1_eq e1, plnOf1_eq e2, tolOf1_eq e3]
   exact moved_c _ _ _ hp nn
  ·cases hs
 ·cases hs) (tc_pu f78_ok (fun args pre d hs hp nn => by
 unfold selCk at hs
 split at hs
 ·split at hs
  ·rename_i e1 e2 e3
   cases hs
   rw [netOf1_eq e1, plnOf1_eq e2, lsOf_eq (fun r x => tolOf1_eq) e3]
   exact check_t _ _ _ hp.1 hp.2.1 hp.2.2 nn
  ·cases hs
 ·cases hs) (T0_ok _)))
theorem tolRow_g (o : List Tol) (j : Nat) (h : j < o.length) : (o.map Tol.row).getD j [] = o[j].row := getD_map Tol.row o j h
def RnF (ticks : Int) (g len : Nat) (l : List (Nat × D)) : List (Nat × D) := (3, di ticks) :: (4, .ptr (0, 4) 0 0 0) :: (5, .ptr (0, 5) 0 0 0) :: (10, .own (0, 1000) g 0 len) :: l
def RnH (n : Net) (p : Pln) (o : List Tol) (g : Nat) : Hp := ((Hp.none.put (0, 1000) ⟨g, 3, o.map Tol.row⟩).put (0, 5) ⟨0, 3, [plnD p]⟩).put (0, 4) ⟨0, 6, [netD n]⟩
def mixL (f : Tol → Tol) (l : List Tol) (i : Nat) : List Tol := (l.take i).map f ++ l.drop i
theorem mix_len (f : Tol → Tol) (l : List Tol) (i : Nat) : (mixL f l i).length = l.length := by
 unfold mixL
 rw [List.length_append, List.length_map, List.length_take, List.length_drop]
 omega
theorem mix_at (f : Tol → Tol) (l : List Tol) (i : Nat) (h : i < l.length) : (mixL f l i)[i]'(by rw [mix_len]; exact h) = l[i] := by
 unfold mixL
 rw [List.getElem_append_right (by rw [List.length_map, List.length_take]; omega)]
 simp only [List.length_map, List.length_take, List.getElem_drop]
 congr 1
 omega
theorem mix_0 (f : Tol → Tol) (l : List Tol) : mixL f l 0 = l := by unfold mixL; simp
theorem mix_all (f : Tol → Tol) (l : List Tol) : mixL f l l.length = l.map f := by unfold mixL; rw [List.take_length, List.drop_length, List.append_nil]
theorem mix_set0 (f : Tol → Tol) (l : List Tol) (i : Nat) (h : i < l.length) : (mixL f l i).set i l[i] = mixL f l i := by
 rw [← mix_at f l i h]
 exact List.set_getElem_self _
theorem mix_next (f : Tol → Tol) (l : List Tol) (i : Nat) (h : i < l.length) : (mixL f l i).set i (f l[i]) = mixL f l (i + 1) := by
 unfold mixL
 rw [List.set_append_right _ _ (by rw [List.length_map, List.length_take]; omega), List.length_map, List.length_take, Nat.min_eq_left (by omega), Nat.sub_self, List.drop_eq_getElem_cons h, List.set_cons_zero, ← List.take_append_getElem h, List.map_append, List.append_assoc]
 rfl
set_option maxHeartbeats 16000000 in
theorem trun_2 (n : Net) (p : Pln) (l : List Tol) (ticks : Nat) (h : RunPre n p l ticks) (F : Fr) (H : Hp) (hwk : Weak [] ⟨F, H⟩ ⟨fr (RnF ticks l.length l.length []), RnH n p l l.length⟩) : vc TRun (fun t => (0, t)) [] (.weak c41_9) (finQ r41 [] false (Pu (.tup [.sl ((l.map (movK n p ticks)).map Tol.row), di 0]) Hp.none)) ⟨F, H⟩ := by
 refine vc_wk hwk ?_
 have hll := h.few
 have hkk := h.k
 have hv := fck0 h.f
 have hrb := plnv_rb hv
 have hok := h.ok
 have hn1 := netOf1_x n
 have hp1 := plnOf1_x p
 have hfl : ∀ o : List Tol, (∀ j ∈ o, ∀ d ∈ j.row, d.plain = true) = True := fun o => eq_true fun j _ d hd => by
  rcases List.mem_cons.1 hd with rfl | hd
  ·rfl
  ·rcases List.mem_cons.1 hd with rfl | hd
   ·rfl
   ·rw [List.mem_singleton.1 hd]; rfl
 simp (maxSteps:=500000) only [↓vp, vv, ↓reduceIte, simprocAttr, c41_9, RnF, RnH, netD, plnD]
 refine rng_loop l.length (fun i => ⟨fr (RnF ticks l.length l.length [(49, di l.length), (50, di (i : Nat))]), RnH n p (mixL (movK n p ticks) l i) l.length⟩) (fun _ => True) (weak_eqA [] [(0, 4), (0, 5), (0, 1000)] (RnF ticks l.length l.length [(49, di l.length), (50, di 0)]) (by refine ⟨?_, ?_, ?_, by simp, ?_⟩ <;> (simp only [↓vp, vv, ↓reduceIte, simprocAttr, coverS, refsF, RnF, RnH, netD, plnD, mix_0, Tol.row] <;> try rfl))) trivial (fun i hi _ => ?_) (fun _ => ?_)
 ·have hi' : (i : Int) < l.length := by omega
  have hin := idx_nn i
  have wi := idx_next (j := i) (by omega)
  have hml := mix_len (movK n p ticks) l i
  have m0 := mix_set0 (movK n p ticks) l i hi
  have m1 := mix_next (movK n p ticks) l i hi
  have hti := hok _ (List.getElem_mem hi)
  generalize mixL (movK n p ticks) l i = B at *
  generalize l[i] = t at *
  simp (maxSteps:=500000) only [↓vp, vv, ↓reduceIte, simprocAttr, c41_7, c41_6, RnF, RnH, netD, plnD, hi']
  refine rng_loop ticks (fun m => ⟨fr (RnF ticks l.length l.length [(14, di i), (49, di l.length), (50, di i), (53, di ticks), (54, di (m : Nat))]), RnH n p (B.set i (movK n p m t)) l.length⟩) (fun _ => True) (weak_eqA [] [(0, 4), (0, 5), (0, 1000)] (RnF ticks l.length l.length [(14, di i), (49, di l.length), (50, di i), (53, di ticks), (54, di 0)]) (by refine ⟨?_, ?_, ?_, by simp, ?_⟩ <;> (simp only [↓vp, vv, ↓reduceIte, simprocAttr, coverS, refsF, RnF, RnH, netD, plnD, m0, movK, Tol.row] <;> try rfl))) trivial (fun m hm _ => ?_) (fun _ => ?_)
  ·have hm' : (m : Int) < ticks := by omega
   have hmn := idx_nn m
   have wm := idx_next (j := m) (by omega)
   have hsl : (B.set i (movK n p m t)).length = l.length := by rw [List.length_set, hml]
   have hg := tolRow_g (B.set i (movK n p m t)) i (by omega)
   rw [List.getElem_set_self] at hg
   have hmp : MvPre n p (movK n p m t) := ⟨hv.net, hti.movK hv.net m, hv.rl, hrb⟩
   have hsu := movK_succ n p m t
   have hset : ∀ y : Tol, ((B.set i (movK n p m t)).map Tol.row).set i [.sl (y.way.map tHop), di y.hop, di y.pos] = (B.set i y).map Tol.row := fun y => by
    have : [D.sl (y.way.map tHop), di y.hop, di y.pos] = y.row := rfl
    rw [this, ← List.map_set, List.set_set]
   generalize movK n p m t = u at *
   have ht1 : tolOf1 [.sl (u.way.map tHop), di u.hop, di u.pos] = some u := tolOf1_row u
   simp (maxSteps:=500000) only [↓vp, vv, ↓reduceIte, simprocAttr, c41_4, c41_3, TRun, selMv, RnF, RnH, netD, plnD, hm', hi, hi', hin, hsl, hg, hn1, hp1, ht1, hmp, Tol.enc, Tol.row, hset, wm, Int.toNat_natCast]
   exact rng_next hm (weak_eqA [] [(0, 4), (0, 5), (0, 1000)] (RnF ticks l.length l.length [(14, di i), (49, di l.length), (50, di i), (53, di ticks), (54, di (m + 1 : Nat))]) (by refine ⟨?_, ?_, ?_, by simp, ?_⟩ <;> (simp only [↓vp, vv, ↓reduceIte, simprocAttr, coverS, refsF, RnF, RnH, netD, plnD, wm, hset, hsu, Tol.row] <;> try rfl))) trivial
  ·simp (maxSteps:=500000) only [↓vp, vv, ↓reduceIte, simprocAttr, c41_4, c41_5, RnF, RnH, netD, plnD, Int.lt_irrefl, wi]
   rw [m1]
   exact rng_next hi (weak_eqA [] [(0, 4), (0, 5), (0, 1000)] (RnF ticks l.length l.length [(49, di l.length), (50, di (i + 1 : Nat))]) (by refine ⟨?_, ?_, ?_, by simp, ?_⟩ <;> (simp only [↓vp, vv, ↓reduceIte, simprocAttr, coverS, refsF, RnF, RnH, netD, plnD, wi, Tol.row] <;> try rfl))) trivial
 ·rw [mix_all]
  have tk : ((l.map (movK n p ticks)).map Tol.row).take l.length = (l.map (movK n p ticks)).map Tol.row := List.take_of_length_le (by simp)
  have hf2 := hfl (l.map (movK n p ticks))
  simp (maxSteps:=500000) only [↓vp, vv, ↓reduceIte, simprocAttr, c41_7, c41_8, r41, RnF, RnH, netD, plnD, Int.lt_irrefl, tk, List.length_map, Nat.le_refl, Pu]
  exact fun j _ d hd => (by
   rcases List.mem_cons.1 hd with rfl | hd
   ·rfl
   ·rcases List.mem_cons.1 hd with rfl | hd
    ·rfl
    ·rw [List.mem_singleton.1 hd]; rfl)
set_option maxHeartbeats 16000000 in
theorem trun_c (n : Net) (p : Pln) (l : List Tol) (ticks : Nat) (h : RunPre n p l ticks) (nn : Nm) : CallsA Try.prog 41 [n.enc, p.enc, .sl (l.map Tol.row), di ticks] Hp.none nn (Pu (.tup [.sl ((l.map (movK n p ticks)).map Tol.row), di 0]) Hp.none) := by
 obtain ⟨code, h1, h2⟩ := c41_ok
 refine callsA_of TRun_ok mixed (N := fun t => (0, t)) Try.func41 h1 h2 r41_ok [] false js_nil js_nil' (by simp [Try.f41]) ?_
 have hll := h.few
 have hkk := h.k
 have hz := h.z
 have hok := h.ok
 have hn1 := netOf1_x n
 have hp1 := plnOf1_x p
 have hl1 : lsOf tolOf1 (l.map Tol.row) = some l := lsOf_map tolOf1_row l
 have hlw : ∀ t ∈ l, t.way.length ≤ 1000000 := fun t ht => by have := (hok t ht).l; omega
 have hll2 : l.length ≤ 1000000 := by omega
 have hE : toolE n p l = 0 := by
  unfold toolE
  have hb : l.any (badT n) = false := by
   cases e : l.any (badT n) with
   | false => rfl
   | true =>
    obtain ⟨t, ht, hb⟩ := List.any_eq_true.1 e
    unfold badT at hb
    rw [(tolV_iff n t).2 (hok t ht)] at hb
    cases hb
  rw [if_neg (by have := (fck0 h.f).ck; omega), if_neg (by have := h.f; omega), hb, if_neg Bool.false_ne_true]
 have nx := trun_2 n p l ticks h
 simp (maxSteps:=500000) only [↓vp, vv, ↓reduceIte, simprocAttr, c41, Net.enc, Pln.enc, netD, plnD]
 refine rng_loop l.length (fun j => ⟨fr ((2, .sl (l.map Tol.row)) :: RnF ticks j j [(15, .sl (l.map Tol.row)), (16, di l.length), (17, di (j : Nat))]), RnH n p (l.take j) j⟩) (fun _ => True) ((weak_own 10 (0, 1000) 3 (by simp only [↓vp, vv, ↓reduceIte, simprocAttr, ]) (by simp only [↓vp, vv, ↓reduceIte, simprocAttr, ])).trans (weak_eqA [] [(0, 4), (0, 5), (0, 1000)] ((2, .sl (l.map Tol.row)) :: RnF ticks 0 0 [(15, .sl (l.map Tol.row)), (16, di l.length), (17, di 0)]) (by refine ⟨?_, ?_, ?_, by simp, ?_⟩ <;> (simp only [↓vp, vv, ↓reduceIte, simprocAttr, coverS, refsF, RnF, RnH, netD, plnD, List.take_zero, Tol.row] <;> try rfl)))) trivial (fun j hj _ => ?_) (fun _ => ?_)
 ·have hj' : (j : Int) < l.length := by omega
  have hjn := idx_nn j
  have w1 := idx_next (j := j) (by omega)
  have hg := tolRow_g l j hj
  have ht := List.take_append_getElem hj
  have hwj : wayQ l[j] := hlw _ (List.getElem_mem hj)
  generalize l[j] = t at hg ht hwj
  have ht1 := tolOf1_x t
  have y1 : (j + 1) * 40 ≤ 140737488355328 := by omega
  have y2 : j + 1 ≤ 4611686018427387904 := by omega
  have htl : (l.take j).length = j := by rw [List.length_take]; omega
  simp (maxSteps:=500000) only [↓vp, vv, ↓reduceIte, simprocAttr, c41_2, c41_1, TRun, selTol, RnF, RnH, netD, plnD, hj', hjn, hg, ht1, hwj, Tol.enc, Tol.row, w1, y1, y2, htl, Int.toNat_natCast]
  exact rng_next hj (weak_eqA [] [(0, 4), (0, 5), (0, 1000)] ((2, .sl (l.map Tol.row)) :: RnF ticks (j + 1) (j + 1) [(15, .sl (l.map Tol.row)), (16, di l.length), (17, di (j + 1 : Nat))]) (by refine ⟨?_, ?_, ?_, by simp, ?_⟩ <;> (simp only [↓vp, vv, ↓reduceIte, simprocAttr, coverS, refsF, RnF, RnH, netD, plnD, w1, ← ht, List.map_append, List.map_cons, List.map_nil, Tol.row] <;> try rfl))) trivial
 ·rw [List.take_length]
  have cont : ∀ F H, Weak [] ⟨F, H⟩ ⟨fr ((2, .sl (l.map Tol.row)) :: RnF ticks l.length l.length []), RnH n p l l.length⟩ → vc TRun (fun t => (0, t)) [] (.weak c41_11) (finQ r41 [] false (Pu (.tup [.sl ((l.map (movK n p ticks)).map Tol.row), di 0]) Hp.none)) ⟨F, H⟩ := fun F H hw => by
   refine vc_wk hw ?_
   have hlwT := eq_true hlw
   have k1 : decide ((16 : Int) < l.length) = false := decide_eq_false (by omega)
   have k2 : decide ((ticks : Int) < 0) = false := decide_eq_false (by omega)
   have k3 : decide ((400 : Int) < ticks) = false := decide_eq_false (by omega)
   simp (maxSteps:=500000) only [↓vp, vv, ↓reduceIte, simprocAttr, c41_11, c41_10, TRun, selCk, RnF, RnH, netD, plnD, hn1, hp1, hl1, hz, hll2, hlwT, hE, bne_self_eq_false, k1, k2, k3]
   exact nx _ _ (weak_eqA [] [(0, 4), (0, 5), (0, 1000)] (RnF ticks l.length l.length []) (by refine ⟨?_, ?_, ?_, by simp, ?_⟩ <;> (simp only [↓vp, vv, ↓reduceIte, simprocAttr, coverS, refsF, RnF, RnH, netD, plnD, Tol.row] <;> try rfl)))
  simp (maxSteps:=500000) only [↓vp, vv, ↓reduceIte, simprocAttr, c41_2, RnF, RnH, netD, plnD, Int.lt_irrefl]
  exact cont _ _ (weak_eqA [] [(0, 4), (0, 5), (0, 1000)] ((2, .sl (l.map Tol.row)) :: RnF ticks l.length l.length []) (by refine ⟨?_, ?_, ?_, by simp, ?_⟩ <;> (simp only [↓vp, vv, ↓reduceIte, simprocAttr, coverS, refsF, RnF, RnH, netD, plnD, Tol.row] <;> try rfl)))
def lineN (C : Int) : Net := ⟨[⟨#[97]⟩, ⟨#[98]⟩], [⟨⟨#[103]⟩, 0, 1, C, 0, 0, [⟨0, 0, 1000000⟩, ⟨C, 0, 1000000⟩]⟩], [⟨⟨#[112]⟩, 0, 300000⟩, ⟨⟨#[113]⟩, 1, 0⟩], [], 0, 0⟩
def planL (r : Int) : Pln := ⟨[r], [r, -r], []⟩
theorem line_all : ((List.range 400).all fun i : Nat => checkI (lineN ((20 + i : Nat) : Int)) == 0) = true := by kernel_rfl
theorem line_ck {C : Nat} (h : 20 ≤ C ∧ C < 420) : checkI (lineN C) = 0 := by
 have := List.all_eq_true.1 line_all (C - 20) (List.mem_range.2 (by omega))
 rw [show 20 + (C - 20) = C by omega] at this
 simpa using this
theorem line_sz (C : Int) : NetSz (lineN C) := ⟨by simp [lineN], by simp [lineN], by simp [lineN], by simp [lineN], fun s hs => by rw [List.mem_singleton.1 hs]; simp⟩
theorem line_fsz (C r : Int) : FckPre (lineN C) (planL r) := ⟨line_sz C, ⟨by simp [planL], by simp [planL], by simp [planL]⟩⟩
theorem line_f {C r : Nat} (h : 20 ≤ C ∧ C < 420) (hr : 1 ≤ r ∧ r ≤ C) : fckI (lineN C) (planL r) = 0 := by
 have hck := line_ck h
 have hv := check0 hck
 unfold fckI
 rw [if_pos hck, len_f rfl rfl rfl, any_ff fun x hx => ?_, any_ff fun q hq => ?_, if_pos ((bal_iff _).2 fun v _ => ?_)]
 ·have hm : ∀ x ∈ (lineN C).segs.zip (planL r).rates, UpOk x := fun x hx => by
   have e : x = (⟨⟨#[103]⟩, 0, 1, C, 0, 0, [⟨0, 0, 1000000⟩, ⟨C, 0, 1000000⟩]⟩, (r : Int)) := List.mem_singleton.1 hx
   subst e
   intro _
   unfold frOf toOf
   dsimp only
   rw [if_neg (by omega), if_neg (by omega)]
   omega
  have := ord_full (edge_ok (planL r) hv) (.inl hm)
  unfold ordB
  rw [if_neg Bool.false_ne_true, if_neg Bool.false_ne_true, if_neg Bool.false_ne_true, if_neg]
  intro hh
  have e : (lineN C).nodes.length = 2 := rfl
  rw [this] at hh
  omega
 ·have hv2 : v < 24 := by assumption
  show sumI (netOf (v : Int)) [(0, 1, (r : Int)), (-1, 0, (r : Int)), (-1, 1, -(r : Int))] = 0
  simp only [sumI, netOf]
  split <;> split <;> (try split) <;> (try split) <;> (try split) <;> omega
 ·have : q = r ∨ q = -(r : Int) := by
   rcases List.mem_cons.1 hq with e | e
   ·exact .inl e
   ·exact .inr (List.mem_singleton.1 e)
  unfold portBadR
  rw [with_t (by omega) (by omega)]
  rfl
 ·have e : x = (⟨⟨#[103]⟩, 0, 1, C, 0, 0, [⟨0, 0, 1000000⟩, ⟨C, 0, 1000000⟩]⟩, (r : Int)) := List.mem_singleton.1 hx
  subst e
  unfold rateBad most
  dsimp only
  rw [with_t (by split <;> omega) (by split <;> omega)]
  rfl
set_option maxHeartbeats 4000000 in
theorem line_c (C : Int) (nn : Nm) : CallsA Try.prog 24 [di C] Hp.none nn (Pu (lineN C).enc Hp.none) := by
 obtain ⟨code, h1, h2⟩ := c24_ok
 refine callsA_of (T0_ok _) mixed (N := fun t => (0, t)) Try.func24 h1 h2 r24_ok [] false js_nil js_nil' (by simp [Try.f24]) ?_
 simp (maxSteps:=500000) only [↓vp, vv, ↓reduceIte, simprocAttr, c24, r24]
 refine vc_wk ((weak_eq [] [(0, 2), (0, 3), (0, 8), (0, 10), (0, 13)] [(2, .ptr (0, 2) 0 0 0)]
   (H' := hp [((0, 2), ⟨0, 6, [[.own (0, 3) 0 0 2, .own (0, 10) 0 0 1, .own (0, 13) 0 0 2, .mt, di 0, di 0]]⟩), ((0, 3), ⟨0, 1, [[ds ⟨#[97]⟩], [ds ⟨#[98]⟩]]⟩), ((0, 8), ⟨0, 3, [[di 0, di 0, di 1000000], [di C, di 0, di 1000000]]⟩), ((0, 10), ⟨0, 7, [[ds ⟨#[103]⟩, di 0, di 1, di C, di 0, di 0, .own (0, 8) 0 0 2]]⟩), ((0, 13), ⟨0, 3, [[ds ⟨#[112]⟩, di 0, di 300000], [ds ⟨#[113]⟩, di 1, di 0]]⟩)])
   (by simp only [↓vp, vv, ↓reduceIte, simprocAttr, coverS]) (by simp only [↓vp, vv, ↓reduceIte, simprocAttr, refsF]) (by simp only [↓vp, vv, ↓reduceIte, simprocAttr, ]) (by simp) (by simp only [↓vp, vv, ↓reduceIte, simprocAttr, hp_cons, hp_nil]; try rfl)).trans
   (weak_fz [(0, 8)] [(0, 2), (0, 3), (0, 10), (0, 13)] (l := [(2, .ptr (0, 2) 0 0 0)]) (h := _) (l' := [(2, .ptr (0, 2) 0 0 0)]) (H' := ((((Hp.none.put (0, 13) ⟨0, 3, [[ds ⟨#[112]⟩, di 0, di 300000], [ds ⟨#[113]⟩, di 1, di 0]]⟩).put (0, 10) ⟨0, 7, [[ds ⟨#[103]⟩, di 0, di 1, di C, di 0, di 0, .sl [[di 0, di 0, di 1000000], [di C, di 0, di 1000000]]]]⟩).put (0, 3) ⟨0, 1, [[ds ⟨#[97]⟩], [ds ⟨#[98]⟩]]⟩).put (0, 2) ⟨0, 6, [[.own (0, 3) 0 0 2, .own (0, 10) 0 0 1, .own (0, 13) 0 0 2, .mt, di 0, di 0]]⟩)) (by simp only [↓vp, vv, ↓reduceIte, simprocAttr, vz, listB, okKd, okK, lendKd, lendK, lendOk1B, frzF, Option.map_some, cond_true, cond_false, decide_true, decide_false, Bool.and_self, hp_at]) (by simp only [↓vp, vv, ↓reduceIte, simprocAttr, vz, listB, okKd, okK, lendKd, lendK, lendOk1B, frzF, Option.map_some, cond_true, cond_false, decide_true, decide_false, Bool.and_self, hp_at]) (by simp only [↓vp, vv, ↓reduceIte, simprocAttr, vz, listB, okKd, okK, lendKd, lendK, lendOk1B, frzF, Option.map_some, cond_true, cond_false, decide_true, decide_false, Bool.and_self, hp_at]; try rfl) (by simp only [↓vp, vv, ↓reduceIte, simprocAttr, vz, listB, okKd, okK, lendKd, lendK, lendOk1B, frzF, Option.map_some, cond_true, cond_false, decide_true, decide_false, Bool.and_self, hp_at]; try rfl) (by simp only [↓vp, vv, ↓reduceIte, simprocAttr, vz, listB, okKd, okK, lendKd, lendK, lendOk1B, frzF, Option.map_some, cond_true, cond_false, decide_true, decide_false, Bool.and_self, refsF, hp_at]) (by simp only [↓vp, vv, ↓reduceIte, simprocAttr, vz, listB, okKd, okK, lendKd, lendK, lendOk1B, frzF, Option.map_some, cond_true, cond_false, decide_true, decide_false, Bool.and_self, hp_at]) (by simp))) ?_
 simp (maxSteps:=500000) only [↓vp, vv, ↓reduceIte, simprocAttr, r24, lineN, Net.enc, nmRow, Seg.row, Port.row, Pt.row, List.map_cons, List.map_nil, Pu]
set_option maxHeartbeats 4000000 in
theorem tvalid_c (n : Net) (t : Tol) (hz : NetSz n) (hck : checkI n = 0) (hw : t.way.length ≤ 1000000) (nn : Nm) : CallsA Try.prog 46 [n.enc, t.enc] Hp.none nn (Pu (db (tolV n t)) Hp.none) := by
 obtain ⟨code, h1, h2⟩ := c46_ok
 refine callsA_of TLa_ok mixed (N := fun t => (0, t)) Try.func46 h1 h2 r46_ok [] false js_nil js_nil' (by simp [Try.f46]) ?_
 have hn1 := netOf1_x n
 have ht1 := tolOf1_x t
 have hv := check0 hck
 simp (maxSteps:=500000) only [↓vp, vv, ↓reduceIte, simprocAttr, c46, r46, r46, TLa, selNet, selVal, Net.enc, netD, Tol.enc, Tol.row, hn1, ht1, hz, hck, hv, hw, Pu]
def selLine : List D → Option (Prop × D)
 | [.v (.int .i64 C)] => some (True, (lineN C).enc)
 | _ => Option.none
def selLaun : List D → Option (Prop × D)
 | [.agg a, .sl rows] => match netOf1 a, lsOf tHopOf1 rows with
  | some n, some w => some (NetSz n ∧ checkI n = 0 ∧ w.length ≤ 1000000, launD n w)
  | _, _ => Option.none
 | _ => Option.none
def selRun : List D → Option (Prop × D)
 | [.agg a, .agg b, .sl rows, .v (.int .i64 k)] => match netOf1 a, plnOf1 b, lsOf tolOf1 rows with
  | some n, some p, some l => some (RunPre n p l k, .tup [.sl ((l.map (movK n p k.toNat)).map Tol.row), di 0])
  | _, _, _ => Option.none
 | _ => Option.none
def selTVal : List D → Option (Prop × D)
 | [.agg a, .agg b] => match netOf1 a, tolOf1 b with
  | some n, some t => some (NetSz n ∧ checkI n = 0 ∧ t.way.length ≤ 1000000, db (tolV n t))
  | _, _ => Option.none
 | _ => Option.none
def TTo (P : Program) : Tbl := tc 24 (rowPu selLine) (tc 38 (rowPu selLaun) (tc 41 (rowPu selRun) (tc 30 (rowPu (selTol (fun _ => True) fun t => db (recB t))) (tc 46 (rowPu selTVal) T0))))
theorem tc_line {T : Tbl} (hT : TblOk Try.prog T) : TblOk Try.prog (tc 24 (rowPu selLine) T) := tc_pu f24_ok (fun args pre d hs hp nn => by
 unfold selLine at hs
 split at hs
 ·cases hs; exact line_c _ nn
 ·cases hs) hT
theorem tc_laun {T : Tbl} (hT : TblOk Try.prog T) : TblOk Try.prog (tc 38 (rowPu selLaun) T) := tc_pu f38_ok (fun args pre d hs hp nn => by
 unfold selLaun at hs
 split at hs
 ·split at hs
  ·rename_i e1 e2
   cases hs
   rw [netOf1_eq e1, lsOf_eq (fun r x => tHopOf1_eq) e2]
   exact launch_c _ _ hp.1 hp.2.1 hp.2.2 nn
  ·cases hs
 ·cases hs) hT
theorem tc_run {T : Tbl} (hT : TblOk Try.prog T) : TblOk Try.prog (tc 41 (rowPu selRun) T) := tc_pu f41_ok (fun args pre d hs hp nn => by
 unfold selRun at hs
 split at hs
 ·rename_i k
  split at hs
  ·rename_i e1 e2 e3
   cases hs
   rw [netOf1_eq e1, plnOf1_eq e2, lsOf_eq (fun r x => tolOf1_eq) e3]
   have hk := hp.k
   have e : ((k.toNat : Nat) : Int) = k := by omega
   have := trun_c _ _ _ k.toNat (by rw [e]; exact hp) nn
   rw [e] at this
   exact this
  ·cases hs
 ·cases hs) hT
theorem TTo_ok : TblOk Try.prog (TTo Try.prog) := tc_line (tc_laun (tc_run (tc_tol f30_ok (fun t _ nn => received_c t nn) (tc_pu f46_ok (fun args pre d hs hp nn => by
 unfold selTVal at hs
 split at hs
 ·split at hs
  ·rename_i e1 e2
   cases hs
   rw [netOf1_eq e1, tolOf1_eq e2]
   exact tvalid_c _ _ hp.1 hp.2.1 hp.2.2 nn
  ·cases hs
 ·cases hs) (T0_ok _)))))
def t00 : Tol := ⟨[(0, false)], 0, 0⟩
theorem line_t00 {C : Int} : tolV (lineN C) t00 = decide (0 ≤ C) := by rfl
theorem mov_3 : (movK (lineN 100) (planL 30) 3 t00) = ⟨[(0, false)], 0, 90⟩ := by rfl
theorem mov_4 : (movK (lineN 100) (planL 30) 4 t00) = ⟨[(0, false)], 1, 0⟩ := by rfl
theorem run_pre {C r : Nat} (h : 20 ≤ C ∧ C < 420) (hr : 1 ≤ r ∧ r ≤ C) (k : Int) (hk : 0 ≤ k ∧ k ≤ 400) : RunPre (lineN C) (planL r) [t00] k :=
 ⟨line_fsz _ _, line_f h hr, by simp, fun t ht => by
  rw [List.mem_singleton.1 ht]
  exact (tolV_iff _ _).1 (by rw [line_t00]; exact decide_eq_true (by omega)), hk⟩
set_option maxHeartbeats 16000000 in
theorem awake32_c (nn : Nm) : CallsA Try.prog 23 [] Hp.none nn (Pu (db true) Hp.none) := by
 obtain ⟨code, h1, h2⟩ := c23_ok
 refine callsA_of TTo_ok mixed (N := fun t => (0, t)) Try.func23 h1 h2 r23_ok [] false js_nil js_nil' (by simp [Try.f23]) ?_
 have hn1 := netOf1_x
 have hz := line_sz 100
 have hck : checkI (lineN 100) = 0 := line_ck (C := 100) (by decide)
 have rp3 : RunPre (lineN 100) (planL 30) [t00] 3 := run_pre (C := 100) (r := 30) (by decide) (by decide) 3 (by decide)
 have rp4 : RunPre (lineN 100) (planL 30) [t00] 4 := run_pre (C := 100) (r := 30) (by decide) (by decide) 4 (by decide)
 have m3 := mov_3
 have m4 := mov_4
 have hla : launD (lineN 100) [(0, false)] = .tup [(⟨[(0, false)], 0, 0⟩ : Tol).enc, di 0] := rfl
 have hl1 : selLine [di 100] = some (True, .agg (netD (lineN 100))) := rfl
 have hw1 : lsOf tHopOf1 [[di 0, db false]] = some [(0, false)] := rfl
 have ht1 : ∀ a b : Int, tolOf1 [.sl [[di 0, db false]], di a, di b] = some ⟨[(0, false)], a, b⟩ := fun _ _ => rfl
 have hp1 : plnOf1 [D.sl [[di 30]], .sl [[di 30], [di (-30)]], .sl []] = some (planL 30) := rfl
 have hl2 : lsOf tolOf1 [[.sl [[di 0, db false]], di 0, di 0]] = some [t00] := rfl
 have v4 : tolV (lineN 100) ⟨[(0, false)], 1, 0⟩ = true := rfl
 have s1 : (1 : Nat) ≤ 1000000 := by decide
 generalize lineN 100 = n at *
 simp (maxSteps:=500000) only [↓vp, vv, ↓reduceIte, simprocAttr, c23, TTo, selLaun, netD, hl1, hn1, hz, hck, hw1, hla, Tol.enc, Tol.row, tHop, List.map_cons, List.map_nil]
 refine vc_wk ((weak_eq [] [(0, 1), (0, 2), (0, 4), (0, 17), (0, 18)] [(1, .ptr (0, 1) 0 0 0), (2, .ptr (0, 2) 0 0 0), (3, di 0), (4, .ptr (0, 4) 0 0 0)]
   (H' := hp [((0, 1), ⟨0, 6, [netD n]⟩), ((0, 2), ⟨0, 3, [[.sl [[di 0, db false]], di 0, di 0]]⟩), ((0, 4), ⟨0, 3, [[.own (0, 17) 0 0 1, .own (0, 18) 0 0 2, .mt]]⟩), ((0, 17), ⟨0, 1, [[di 30]]⟩), ((0, 18), ⟨0, 1, [[di 30], [di (-30)]]⟩)])
   (by simp only [↓vp, vv, ↓reduceIte, simprocAttr, coverS]) (by simp only [↓vp, vv, ↓reduceIte, simprocAttr, refsF]) (by simp only [↓vp, vv, ↓reduceIte, simprocAttr, ]) (by simp) (by simp only [↓vp, vv, ↓reduceIte, simprocAttr, hp_cons, hp_nil, netD]; try rfl)).trans
   (weak_fz [(0, 17), (0, 18)] [(0, 1), (0, 2), (0, 4)] (l := [(1, .ptr (0, 1) 0 0 0), (2, .ptr (0, 2) 0 0 0), (3, di 0), (4, .ptr (0, 4) 0 0 0)]) (h := _) (l' := [(1, .ptr (0, 1) 0 0 0), (2, .ptr (0, 2) 0 0 0), (3, di 0), (4, .ptr (0, 4) 0 0 0)]) (H' := (((Hp.none.put (0, 4) ⟨0, 3, [[.sl [[di 30]], .sl [[di 30], [di (-30)]], .mt]]⟩).put (0, 2) ⟨0, 3, [[.sl [[di 0, db false]], di 0, di 0]]⟩).put (0, 1) ⟨0, 6, [netD n]⟩)) (by simp only [↓vp, vv, ↓reduceIte, simprocAttr, vz, listB, okKd, okK, lendKd, lendK, lendOk1B, frzF, Option.map_some, cond_true, cond_false, decide_true, decide_false, Bool.and_self, hp_at, netD]) (by simp only [↓vp, vv, ↓reduceIte, simprocAttr, vz, listB, okKd, okK, lendKd, lendK, lendOk1B, frzF, Option.map_some, cond_true, cond_false, decide_true, decide_false, Bool.and_self, hp_at, netD]) (by simp only [↓vp, vv, ↓reduceIte, simprocAttr, vz, listB, okKd, okK, lendKd, lendK, lendOk1B, frzF, Option.map_some, cond_true, cond_false, decide_true, decide_false, Bool.and_self, hp_at, netD]; try rfl) (by simp only [↓vp, vv, ↓reduceIte, simprocAttr, vz, listB, okKd, okK, lendKd, lendK, lendOk1B, frzF, Option.map_some, cond_true, cond_false, decide_true, decide_false, Bool.and_self, hp_at, netD]; try rfl) (by simp only [↓vp, vv, ↓reduceIte, simprocAttr, vz, listB, okKd, okK, lendKd, lendK, lendOk1B, frzF, Option.map_some, cond_true, cond_false, decide_true, decide_false, Bool.and_self, refsF, hp_at, netD]) (by simp only [↓vp, vv, ↓reduceIte, simprocAttr, vz, listB, okKd, okK, lendKd, lendK, lendOk1B, frzF, Option.map_some, cond_true, cond_false, decide_true, decide_false, Bool.and_self, hp_at, netD]) (by simp))) ?_
 have r3 : recB ⟨[(0, false)], 0, 90⟩ = false := rfl
 have r4 : recB ⟨[(0, false)], 1, 0⟩ = true := rfl
 simp (maxSteps:=500000) only [↓vp, vv, ↓reduceIte, simprocAttr, c23_1, TTo, selRun, selTol, selTVal, r23, netD, hn1, hz, hck, hp1, hl2, ht1, rp3, rp4, m3, m4, r3, r4, v4, s1, Tol.row, Tol.enc, tHop, List.map_cons, List.map_nil, Pu]
end Go.Proofs.Ytadjhfjiimgddaa
