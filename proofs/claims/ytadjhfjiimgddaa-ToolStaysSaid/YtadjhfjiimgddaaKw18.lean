/- ToolStays: Ti7 Ti8 Ty1. -/
import Derived.Test.YtadjhfjiimgddaaKw17
set_option linter.unusedSimpArgs false
set_option linter.unusedVariables false
set_option maxRecDepth 100000

/- The reference's tick: what it computes, and what that keeps. -/
namespace Go.Proofs.Ytadjhfjiimgddaa
open Go
def sgT (n : Net) (i : Nat) : Seg := n.segs.getD i ⟨⟨#[]⟩, 0, 0, 0, 0, 0, []⟩
def ptT (n : Net) (i : Nat) : Port := n.ports.getD i ⟨⟨#[]⟩, 0, 0⟩
theorem sg_at {n : Net} {i : Nat} (h : i < n.segs.length) : n.segs[i] = sgT n i := by
 unfold sgT
 rw [List.getD_eq_getElem?_getD, List.getElem?_eq_getElem h]
 rfl
theorem pt_at' {n : Net} {i : Nat} (h : i < n.ports.length) : n.ports[i] = ptT n i := by
 unfold ptT
 rw [List.getD_eq_getElem?_getD, List.getElem?_eq_getElem h]
 rfl
theorem iA_at {l : List Int} {i : Nat} (h : i < l.length) : l[i] = iA l i := by
 unfold iA
 rw [List.getD_eq_getElem?_getD, List.getElem?_eq_getElem h]
 rfl
structure PS3 where
 st : List Pce
 ra : List Int
 ix : List Nat
def tPort (n : Net) (p : Pln) (fd : List Int) (v : Int) (s : PS3) (i : Nat) : PS3 :=
 if (ptT n i).node = v ∧ 0 < iA p.ports i then ⟨s.st ++ [⟨iA fd i, iA p.ports i⟩], s.ra, s.ix⟩
 else if (ptT n i).node = v ∧ iA p.ports i < 0 then ⟨s.st, s.ra ++ [-(iA p.ports i)], s.ix ++ [i]⟩ else s
def tSeg (n : Net) (p : Pln) (gv : List (List Pce)) (v : Int) (s : PS3) (i : Nat) : PS3 :=
 if iA p.rates i = 0 then s
 else if toOf (sgT n i, iA p.rates i) = v then ⟨s.st ++ pA gv i, s.ra, s.ix⟩
 else if frOf (sgT n i, iA p.rates i) = v then ⟨s.st, s.ra ++ [absI (iA p.rates i)], s.ix ++ [i]⟩ else s
def tkP (n : Net) (p : Pln) (fd : List Int) (v : Int) (k : Nat) : PS3 := (List.range k).foldl (tPort n p fd v) ⟨[], [], []⟩
def tkS (n : Net) (p : Pln) (gv : List (List Pce)) (v : Int) (a : PS3) (k : Nat) : PS3 := (List.range k).foldl (tSeg n p gv v) ⟨a.st, a.ra, []⟩
structure TS where
 nxt : List (List Pce)
 prt : List (List Pce)
 gv : List (List Pce)
 lng : Bool
def tPush (p : Pln) (de : List (List Pce)) (lp : Nat) (ix : List Nat) (s : TS) (k : Nat) : TS :=
 let i := ix.getD k 0
 let b := decide (iA p.rates i < 0)
 let x := pA de (lp + k)
 let sh := shiftL (pA s.nxt i) (if b = true then x else x.reverse) b
 ⟨s.nxt.set i sh.1, s.prt, s.gv.set i (if b = true then sh.2 else sh.2.reverse), s.lng⟩
def tOut (de : List (List Pce)) (ix : List Nat) (P : List (List Pce)) (k : Nat) : List (List Pce) := (List.range k).foldl (fun P k => P.set (ix.getD k 0) (pA de k)) P
def tPushs (p : Pln) (de : List (List Pce)) (lp : Nat) (ix : List Nat) (s : TS) (k : Nat) : TS := (List.range k).foldl (tPush p de lp ix) s
def tNode (n : Net) (p : Pln) (fd : List Int) (s : TS) (v : Nat) : TS :=
 let a := tkP n p fd v n.ports.length
 let b := tkS n p s.gv v a n.segs.length
 let q := joined b.st
 if q.length = 0 then ⟨s.nxt, s.prt, s.gv, s.lng || decide (200 < q.length)⟩ else
  tPushs p (handL q b.ra) a.ix.length b.ix ⟨s.nxt, tOut (handL q b.ra) a.ix s.prt a.ix.length, s.gv, s.lng || decide (200 < q.length)⟩ b.ix.length
def tInit (n : Net) (fs : List (List Pce)) : TS := ⟨fs, List.replicate n.ports.length [], List.replicate fs.length [], false⟩
def tRun (n : Net) (p : Pln) (fs : List (List Pce)) (fd : List Int) (j : Nat) : TS := ((ordB n p).take j).foldl (tNode n p fd) (tInit n fs)
def tEnd (n : Net) (p : Pln) (fs : List (List Pce)) (fd : List Int) : TS := tRun n p fs fd (ordB n p).length
def lngA (s : TS) (l : Bool) (k : Nat) : Bool := (List.range k).foldl (fun b i => (b || decide (200 < (pA s.nxt i).length)) || decide (200 < (pA s.gv i).length)) l
def lngP (s : TS) (l : Bool) (k : Nat) : Bool := (List.range k).foldl (fun b i => b || decide (200 < (pA s.prt i).length)) l
def tLong (s : TS) : Bool := lngP s (lngA s s.lng s.nxt.length) s.prt.length
/-! ### what is kept -/
structure TkM (M : Int) (n : Net) (p : Pln) (fs : List (List Pce)) (fd : List Int) : Prop where
 ok : TkOk n p fs fd
 m1 : M ≤ 1000
 cp : ∀ i, i < n.segs.length → (sgT n i).cap ≤ 1000
 fm : ∀ i, i < n.segs.length → PcP M (fA fs i) ∧ PcN (fA fs i)
 dm : ∀ i, i < fd.length → 0 ≤ iA fd i ∧ iA fd i < M
structure TkI (M B : Int) (n : Net) (s : TS) : Prop where
 nl : s.nxt.length = n.segs.length
 gl : s.gv.length = n.segs.length
 pl : s.prt.length = n.ports.length
 nx : ∀ i, i < n.segs.length → (PcP M (pA s.nxt i) ∧ PcN (pA s.nxt i)) ∧ volS (pA s.nxt i) = (sgT n i).cap
 gp : ∀ i, PcP M (pA s.gv i)
 gb : totV s.gv ≤ B
structure PSI (M : Int) (s : PS3) (B : Int) (R I N : Nat) : Prop where
 p : PcP M s.st
 v : volS s.st ≤ B
 r : s.ra.length = R + s.ix.length
 ra : ∀ x, x ∈ s.ra → 1 ≤ x ∧ x ≤ 1000
 il : s.ix.length ≤ I
 ix : ∀ x, x ∈ s.ix → x < N
theorem range_fold {α : Type} (f : α → Nat → α) (a : α) (k : Nat) : (List.range (k + 1)).foldl f a = f ((List.range k).foldl f a) k := by
 rw [List.range_succ, List.foldl_append]; rfl
theorem tkP_spec {M n p fs fd} (h : TkM M n p fs fd) (v : Int) : ∀ k, k ≤ n.ports.length → PSI M (tkP n p fd v k) (1000 * (k : Int)) 0 k k
 | 0, _ => ⟨PcP.nil M, by show volS [] ≤ _; rw [volS_nil]; simp, rfl, fun x hx => (by cases hx), Nat.le_refl _, fun x hx => (by cases hx)⟩
 | k + 1, hk => by
  have i := tkP_spec h v k (by omega)
  have hv := fck0 h.ok.ck
  have hb := hv.pb (iA p.ports k) (by rw [← iA_at (by have := hv.pl; omega)]; exact List.getElem_mem _)
  have hd := h.dm k (by have := h.ok.dl; omega)
  unfold tkP at i ⊢
  rw [range_fold]
  generalize (List.range k).foldl (tPort n p fd v) ⟨[], [], []⟩ = s at i
  unfold tPort
  split
  ·refine ⟨i.p.app (PcP.one ⟨hd, by dsimp only; omega⟩), ?_, i.r, i.ra, Nat.le_succ_of_le i.il, fun x hx => Nat.lt_succ_of_lt (i.ix x hx)⟩
   have := i.v
   rw [volS_append, volS_cons, volS_nil]
   dsimp only
   omega
  ·split
   ·refine ⟨i.p, by have := i.v; dsimp only; omega, ?_, fun x hx => ?_, by have := i.il; simp; omega, fun x hx => ?_⟩
    ·have := i.r
     simp only [List.length_append, List.length_singleton]
     omega
    ·rcases List.mem_append.1 hx with hx | hx
     ·exact i.ra x hx
     ·rw [List.mem_singleton.1 hx]; omega
    ·rcases List.mem_append.1 hx with hx | hx
     ·exact Nat.lt_succ_of_lt (i.ix x hx)
     ·rw [List.mem_singleton.1 hx]; omega
   ·exact ⟨i.p, by have := i.v; omega, i.r, i.ra, Nat.le_succ_of_le i.il, fun x hx => Nat.lt_succ_of_lt (i.ix x hx)⟩
theorem totV_nil : totV [] = 0 := rfl
theorem totV_append (a b : List (List Pce)) : totV (a ++ b) = totV a + totV b := by
 unfold totV
 rw [List.map_append, List.sum_append_int]
theorem totV_take {L : List (List Pce)} {k : Nat} (h : k < L.length) : totV (L.take (k + 1)) = totV (L.take k) + volS (pA L k) := by
 rw [List.take_add_one, List.getElem?_eq_getElem h, totV_append]
 have : pA L k = L[k] := by unfold pA; rw [List.getD_eq_getElem?_getD, List.getElem?_eq_getElem h]; rfl
 rw [this]
 congr 1
 unfold totV
 simp
theorem totV_nn {M : Int} : ∀ {L : List (List Pce)}, (∀ i, PcP M (pA L i)) → 0 ≤ totV L
 | [], _ => by rw [totV_nil]; exact Int.le_refl _
 | x :: L, h => by
  have := totV_nn (L := L) fun i => h (i + 1)
  have := (h 0).r.nn
  have e : totV (x :: L) = volS x + totV L := by unfold totV; rw [List.map_cons, List.sum_cons]
  have e2 : pA (x :: L) 0 = x := rfl
  rw [e2] at this
  omega
theorem totV_take_le {M : Int} : ∀ {L : List (List Pce)} (k : Nat), (∀ i, PcP M (pA L i)) → totV (L.take k) ≤ totV L
 | [], k, _ => by simp
 | x :: L, 0, h => by rw [List.take_zero, totV_nil]; exact totV_nn h
 | x :: L, k + 1, h => by
  have := totV_take_le (L := L) k fun i => h (i + 1)
  have e : ∀ L, totV (x :: L) = volS x + totV L := fun L => by unfold totV; rw [List.map_cons, List.sum_cons]
  rw [List.take_succ_cons, e, e]
  omega
theorem totV_mem {M : Int} {L : List (List Pce)} (h : ∀ i, PcP M (pA L i)) (i : Nat) : volS (pA L i) ≤ totV L := by
 by_cases hi : i < L.length
 ·have a := totV_take hi
  have b := totV_take_le (i + 1) h
  have c := totV_nn (L := L.take i) (M := M) fun k => by
   by_cases hk : k < i
   ·have : pA (L.take i) k = pA L k := by unfold pA; rw [List.getD_eq_getElem?_getD, List.getElem?_take, if_pos hk, List.getD_eq_getElem?_getD]
    rw [this]; exact h k
   ·rw [pA_out (by rw [List.length_take]; omega)]; exact PcP.nil M
  omega
 ·rw [pA_out (by omega), volS_nil]; exact totV_nn h
theorem totV_set {M : Int} : ∀ {L : List (List Pce)} (i : Nat) (x : List Pce), (∀ i, PcP M (pA L i)) → 0 ≤ volS x → totV (L.set i x) ≤ totV L + volS x
 | [], i, x, _, h0 => by rw [List.set_nil]; omega
 | y :: L, 0, x, h, h0 => by
  have := (h 0).r.nn
  have e : ∀ z, totV (z :: L) = volS z + totV L := fun L => by unfold totV; rw [List.map_cons, List.sum_cons]
  have e2 : pA (y :: L) 0 = y := rfl
  rw [e2] at this
  rw [List.set_cons_zero, e, e]
  omega
 | y :: L, i + 1, x, h, h0 => by
  have := totV_set (L := L) i x (fun i => h (i + 1)) h0
  have e : ∀ L, totV (y :: L) = volS y + totV L := fun L => by unfold totV; rw [List.map_cons, List.sum_cons]
  rw [List.set_cons_succ, e, e]
  omega
theorem rate_in {M n p fs fd} (h : TkM M n p fs fd) {k : Nat} (hk : k < n.segs.length) : -1000 ≤ iA p.rates k ∧ iA p.rates k ≤ 1000 := by
 have hv := fck0 h.ok.ck
 have hr := hv.rl
 have hm : (n.segs[k], p.rates[k]'(by omega)) ∈ n.segs.zip p.rates := by
  have : (n.segs.zip p.rates)[k]'(by rw [List.length_zip]; omega) = (n.segs[k], p.rates[k]'(by omega)) := List.getElem_zip
  rw [← this]
  exact List.getElem_mem _
 have a := withB_of (hv.rb _ hm)
 dsimp only at a
 rw [iA_at (by omega)] at a
 unfold most at a
 split at a <;> omega
theorem tkS_spec {M n p fs fd} (h : TkM M n p fs fd) (v : Int) {gv : List (List Pce)} (gl : gv.length = n.segs.length) (gp : ∀ i, PcP M (pA gv i)) {a : PS3} {A : Int} {I N : Nat} (ha : PSI M a A 0 I N) : ∀ k, k ≤ n.segs.length → PSI M (tkS n p gv v a k) (A + totV (gv.take k)) a.ix.length k k
 | 0, _ => ⟨ha.p, by rw [List.take_zero, totV_nil]; have := ha.v; show volS a.st ≤ _; omega, by have := ha.r; show a.ra.length = _ + 0; omega, ha.ra, Nat.le_refl _, fun x hx => by cases hx⟩
 | k + 1, hk => by
  have i := tkS_spec h v gl gp ha k (by omega)
  have hr := rate_in h (k := k) (by omega)
  have tt := totV_take (L := gv) (k := k) (by omega)
  have vn := (gp k).r.nn
  unfold tkS at i ⊢
  rw [range_fold]
  generalize (List.range k).foldl (tSeg n p gv v) ⟨a.st, a.ra, []⟩ = s at i
  have stay : PSI M s (A + totV (gv.take (k + 1))) a.ix.length (k + 1) (k + 1) := ⟨i.p, by have := i.v; omega, i.r, i.ra, Nat.le_succ_of_le i.il, fun x hx => Nat.lt_succ_of_lt (i.ix x hx)⟩
  unfold tSeg
  split
  ·exact stay
  ·rename_i hz
   split
   ·refine ⟨i.p.app (gp k), ?_, i.r, i.ra, Nat.le_succ_of_le i.il, fun x hx => Nat.lt_succ_of_lt (i.ix x hx)⟩
    have := i.v
    rw [volS_append]
    omega
   ·split
    ·refine ⟨i.p, stay.v, ?_, fun x hx => ?_, by have := i.il; simp; omega, fun x hx => ?_⟩
     ·have := i.r
      simp only [List.length_append, List.length_singleton]
      omega
     ·rcases List.mem_append.1 hx with hx | hx
      ·exact i.ra x hx
      ·rw [List.mem_singleton.1 hx]
       unfold absI
       split <;> omega
     ·rcases List.mem_append.1 hx with hx | hx
      ·exact Nat.lt_succ_of_lt (i.ix x hx)
      ·rw [List.mem_singleton.1 hx]; omega
    ·exact stay
theorem fold_nil {f : PS3 → Nat → PS3} {g : PS3 → Nat → Prop} (hm : ∀ s i, s.ra.length ≤ (f s i).ra.length) : ∀ (k : Nat) (s : PS3), ((List.range k).foldl f s).ra.length ≤ s.ra.length → ∀ i, i < k → (f ((List.range i).foldl f s) i).ra.length ≤ s.ra.length
 | k, s, h, i, hi => by
  have up : ∀ a b, a ≤ b → ((List.range a).foldl f s).ra.length ≤ ((List.range b).foldl f s).ra.length := fun a b hab => by
   induction b with
   | zero =>
        obtain rfl : a = 0 := by omega
        exact Nat.le_refl _
   | succ b ih =>
    by_cases e : a = b + 1
    ·subst e; exact Nat.le_refl _
    ·rw [range_fold]
     exact Nat.le_trans (ih (by omega)) (hm _ _)
  have := up (i + 1) k hi
  rw [range_fold] at this
  omega
theorem tPort_mono (n : Net) (p : Pln) (fd : List Int) (v : Int) (s : PS3) (i : Nat) : s.ra.length ≤ (tPort n p fd v s i).ra.length := by
 unfold tPort
 split
 ·exact Nat.le_refl _
 ·split
  ·simp
  ·exact Nat.le_refl _
theorem tSeg_mono (n : Net) (p : Pln) (gv : List (List Pce)) (v : Int) (s : PS3) (i : Nat) : s.ra.length ≤ (tSeg n p gv v s i).ra.length := by
 unfold tSeg
 split
 ·exact Nat.le_refl _
 ·split
  ·exact Nat.le_refl _
  ·split
   ·simp
   ·exact Nat.le_refl _
theorem zip_flow {n : Net} {p : Pln} (hv : PlnV n p) {t : Fl} (ht : t ∈ flowsOf n p) : (∃ i, i < n.segs.length ∧ t = segFl (sgT n i) (iA p.rates i)) ∨ ∃ i, i < n.ports.length ∧ t = portFl (ptT n i) (iA p.ports i) := by
 have hr := hv.rl
 have hp := hv.pl
 rcases List.mem_append.1 ht with h | h
 ·obtain ⟨i, hi, rfl⟩ := List.getElem_of_mem h
  rw [List.length_zipWith] at hi
  exact .inl ⟨i, by omega, by rw [List.getElem_zipWith, sg_at, iA_at]⟩
 ·obtain ⟨i, hi, rfl⟩ := List.getElem_of_mem h
  rw [List.length_zipWith] at hi
  exact .inr ⟨i, by omega, by rw [List.getElem_zipWith, pt_at', iA_at]⟩
theorem sumI_zero_all {α : Type} {f : α → Int} : ∀ {l : List α}, (∀ x ∈ l, 0 ≤ f x) → sumI f l = 0 → ∀ x ∈ l, f x = 0
 | y :: l, h, h0, x, hx => by
  have a := h y (List.mem_cons_self ..)
  have b := sumI_nn (f := f) (l := l) fun z hz => h z (List.mem_cons_of_mem _ hz)
  rw [sumI] at h0
  rcases List.mem_cons.1 hx with rfl | hx
  ·omega
  ·exact sumI_zero_all (fun z hz => h z (List.mem_cons_of_mem _ hz)) (by omega) x hx
theorem node_nil {M n p fs fd} (h : TkM M n p fs fd) {v : Nat} (hv : v < 24) (gv : List (List Pce)) (h0 : (tkS n p gv v (tkP n p fd v n.ports.length) n.segs.length).ra = []) : (tkS n p gv v (tkP n p fd v n.ports.length) n.segs.length).st = [] := by
 have hV := fck0 h.ok.ck
 have l0 : (tkS n p gv v (tkP n p fd v n.ports.length) n.segs.length).ra.length ≤ 0 := by rw [h0]; exact Nat.le_refl _
 have l1 : (tkP n p fd v n.ports.length).ra.length ≤ 0 := by
  have up : ∀ k, (tkP n p fd v n.ports.length).ra.length ≤ (tkS n p gv v (tkP n p fd v n.ports.length) k).ra.length := fun k => by
   induction k with
   | zero => exact Nat.le_refl _
   | succ k ih => unfold tkS at ih ⊢; rw [range_fold]; exact Nat.le_trans ih (tSeg_mono ..)
  exact Nat.le_trans (up _) l0
 have e1 := fold_nil (f := tPort n p fd v) (g := fun _ _ => True) (tPort_mono n p fd v) n.ports.length ⟨[], [], []⟩ l1
 have e2 := fold_nil (f := tSeg n p gv v) (g := fun _ _ => True) (tSeg_mono n p gv v) n.segs.length ⟨(tkP n p fd v n.ports.length).st, (tkP n p fd v n.ports.length).ra, []⟩ (by have := l0; unfold tkS at this; omega)
 have lp : ∀ i, i < n.ports.length → ¬ ((ptT n i).node = (v : Int) ∧ iA p.ports i < 0) := fun i hi hc => by
  have := e1 i hi
  unfold tPort at this
  rw [if_neg (by omega), if_pos hc, List.length_append] at this
  simp at this
 have ls : ∀ i, i < n.segs.length → iA p.rates i ≠ 0 → frOf (sgT n i, iA p.rates i) ≠ (v : Int) := fun i hi hz hc => by
  have := e2 i hi
  have hne := hV.net.se (sgT n i) (by rw [← sg_at hi]; exact List.getElem_mem _)
  have ht : ¬ toOf (sgT n i, iA p.rates i) = (v : Int) := by
   unfold frOf at hc
   unfold toOf
   dsimp only at hc ⊢
   split at hc <;> simp_all <;> omega
  unfold tSeg at this
  rw [if_neg hz, if_neg ht, if_pos hc] at this
  simp at this
  omega
 have lv : sumI (leaveOf (v : Int)) (flowsOf n p) = 0 := sumI_zero fun t ht => by
  rcases zip_flow hV ht with ⟨i, hi, rfl⟩ | ⟨i, hi, rfl⟩
  ·have := ls i hi
   unfold leaveOf segFl
   unfold frOf at this
   dsimp only at this ⊢
   by_cases hz : iA p.rates i = 0
   ·rw [hz]; simp
   ·have := this hz
    split <;> rename_i c
    ·rw [if_pos c] at this; rw [if_neg this]
    ·rw [if_neg c] at this; rw [if_neg this]
  ·have := lp i hi
   unfold leaveOf portFl
   dsimp only
   split
   ·rw [if_neg (by omega)]
   ·rw [if_neg (by omega)]
 have bal := (bal_iff _).1 hV.bal v hv
 have cs : sumI (comeOf (v : Int)) (flowsOf n p) = 0 := by
  have e := sumI_sub (comeOf (v : Int)) (leaveOf (v : Int)) (flowsOf n p)
  rw [sumI_congr fun t _ => come_leave (v : Int) t] at e
  omega
 have cz := sumI_zero_all (fun t _ => come_nn (v : Int) t) cs
 have cp : ∀ i, i < n.ports.length → ¬ ((ptT n i).node = (v : Int) ∧ 0 < iA p.ports i) := fun i hi hc => by
  have hm : portFl (ptT n i) (iA p.ports i) ∈ flowsOf n p := List.mem_append_right _ (by
   have hp := hV.pl
   rw [← pt_at' hi, ← iA_at (by omega)]
   have : (List.zipWith portFl n.ports p.ports)[i]'(by rw [List.length_zipWith]; omega) = portFl n.ports[i] (p.ports[i]'(by omega)) := List.getElem_zipWith
   rw [← this]
   exact List.getElem_mem _)
  have := cz _ hm
  unfold comeOf portFl at this
  dsimp only at this
  rw [if_neg (by omega), if_pos hc.1] at this
  omega
 have cS : ∀ i, i < n.segs.length → iA p.rates i ≠ 0 → toOf (sgT n i, iA p.rates i) ≠ (v : Int) := fun i hi hz hc => by
  have hm : segFl (sgT n i) (iA p.rates i) ∈ flowsOf n p := List.mem_append_left _ (by
   have hp := hV.rl
   rw [← sg_at hi, ← iA_at (by omega)]
   have : (List.zipWith segFl n.segs p.rates)[i]'(by rw [List.length_zipWith]; omega) = segFl n.segs[i] (p.rates[i]'(by omega)) := List.getElem_zipWith
   rw [← this]
   exact List.getElem_mem _)
  have := cz _ hm
  unfold comeOf segFl at this
  unfold toOf at hc
  dsimp only at this hc
  split at this <;> rename_i c
  ·rw [if_pos c] at hc; rw [if_pos hc] at this; omega
  ·rw [if_neg c] at hc; rw [if_pos hc] at this; omega
 have sA : ∀ k, k ≤ n.ports.length → (tkP n p fd v k).st = [] := fun k => by
  induction k with
  | zero => intro _; rfl
  | succ k ih =>
   intro hk
   have := ih (by omega)
   unfold tkP at this ⊢
   rw [range_fold]
   unfold tPort
   rw [if_neg (cp k (by omega))]
   split <;> exact this
 have sB : ∀ k, k ≤ n.segs.length → (tkS n p gv v (tkP n p fd v n.ports.length) k).st = [] := fun k => by
  induction k with
  | zero => intro _; exact sA _ (Nat.le_refl _)
  | succ k ih =>
   intro hk
   have := ih (by omega)
   unfold tkS at this ⊢
   rw [range_fold]
   unfold tSeg
   split
   ·exact this
   ·rename_i hz
    rw [if_neg (cS k (by omega) hz)]
    split <;> exact this
 exact sB _ (Nat.le_refl _)
theorem tOut_len (de : List (List Pce)) (ix : List Nat) (P : List (List Pce)) : ∀ k, (tOut de ix P k).length = P.length
 | 0 => rfl
 | k + 1 => by
  have := tOut_len de ix P k
  unfold tOut at this ⊢
  rw [range_fold, List.length_set]
  exact this
theorem ixA {ix : List Nat} {N k : Nat} (h : ∀ x, x ∈ ix → x < N) (hk : k < ix.length) : ix.getD k 0 < N := by
 rw [List.getD_eq_getElem?_getD, List.getElem?_eq_getElem hk]
 exact h _ (List.getElem_mem hk)
theorem pA_drop (L : List (List Pce)) (a k : Nat) : pA (L.drop a) k = pA L (a + k) := by
 unfold pA
 rw [List.getD_eq_getElem?_getD, List.getElem?_drop, List.getD_eq_getElem?_getD]
theorem totV_drop {M : Int} : ∀ {L : List (List Pce)} (a : Nat), (∀ i, PcP M (pA L i)) → totV (L.drop a) ≤ totV L
 | [], a, _ => by simp
 | x :: L, 0, _ => Int.le_refl _
 | x :: L, a + 1, h => by
  have := totV_drop (L := L) a fun i => h (i + 1)
  have n0 := (h 0).r.nn
  have e2 : pA (x :: L) 0 = x := rfl
  rw [e2] at n0
  have e : totV (x :: L) = volS x + totV L := by unfold totV; rw [List.map_cons, List.sum_cons]
  rw [List.drop_succ_cons, e]
  omega
theorem tPush_spec {M B : Int} {n : Net} {p : Pln} {fs fd} (h : TkM M n p fs fd) {s : TS} (hs : TkI M B n s) {de : List (List Pce)} {lp k : Nat} {ix : List Nat} (hd : ∀ i, PcP M (pA de i)) (hv : volS (pA de (lp + k)) ≤ 1000000000) (hi : ix.getD k 0 < n.segs.length) : TkI M (B + volS (pA de (lp + k))) n (tPush p de lp ix s k) := by
 unfold tPush
 dsimp only
 generalize ix.getD k 0 = i at hi
 generalize decide (iA p.rates i < 0) = b
 have hx := hd (lp + k)
 generalize pA de (lp + k) = x at hx hv
 have hy : ∃ y, (if b = true then x else x.reverse) = y ∧ PcP M y ∧ volS y = volS x := ⟨_, rfl, by split; exact hx; exact hx.rev, by split; rfl; exact volS_rev x⟩
 obtain ⟨y, ey, y1, y2⟩ := hy
 rw [ey]
 obtain ⟨⟨n1, n2⟩, n3⟩ := hs.nx i hi
 have hc := h.cp i hi
 obtain ⟨⟨a1, a2⟩, a3, a4⟩ := shift_spec n1 y1 b (by omega) (by omega)
 generalize shiftL (pA s.nxt i) y b = sh at a1 a2 a3 a4
 have hz : ∃ z, (if b = true then sh.2 else sh.2.reverse) = z ∧ PcP M z ∧ volS z = volS x := ⟨_, rfl, by split; exact a3; exact a3.rev, by split; omega; rw [volS_rev]; omega⟩
 obtain ⟨z, ez, z1, z2⟩ := hz
 rw [ez]
 refine ⟨by rw [List.length_set]; exact hs.nl, by rw [List.length_set]; exact hs.gl, hs.pl, fun j hj => ?_, fun j => ?_, ?_⟩
 ·dsimp only
  rw [pA_set _ _ _ _ (by rw [hs.nl]; exact hi)]
  split
  ·rename_i e; subst e; exact ⟨a1, by omega⟩
  ·exact hs.nx j hj
 ·dsimp only
  rw [pA_set _ _ _ _ (by rw [hs.gl]; exact hi)]
  split
  ·exact z1
  ·exact hs.gp j
 ·dsimp only
  have := totV_set i z hs.gp z1.r.nn
  have := hs.gb
  omega
theorem tPushs_spec {M B : Int} {n : Net} {p : Pln} {fs fd} (h : TkM M n p fs fd) {s : TS} (hs : TkI M B n s) {de : List (List Pce)} {lp : Nat} {ix : List Nat} (hd : ∀ i, PcP M (pA de i)) (hv : totV de ≤ 1000000000) (hi : ∀ x, x ∈ ix → x < n.segs.length) (hl : lp + ix.length ≤ de.length) : ∀ k, k ≤ ix.length → TkI M (B + totV ((de.drop lp).take k)) n (tPushs p de lp ix s k)
 | 0, _ => by rw [List.take_zero, totV_nil, Int.add_zero]; exact hs
 | k + 1, hk => by
  have a := tPushs_spec h hs hd hv hi hl k (by omega)
  have e : totV ((de.drop lp).take (k + 1)) = totV ((de.drop lp).take k) + volS (pA de (lp + k)) := by rw [totV_take (by rw [List.length_drop]; omega), pA_drop]
  have b := tPush_spec h a (lp := lp) (k := k) (ix := ix) hd (by have := totV_mem hd (lp + k); omega) (ixA hi (by omega))
  unfold tPushs at b ⊢
  rw [range_fold, e, ← Int.add_assoc]
  exact b
structure NdOk (M : Int) (n : Net) (p : Pln) (fd : List Int) (B : Int) (s : TS) (v : Nat) : Prop where
 a : PSI M (tkP n p fd v n.ports.length) 6000 0 n.ports.length n.ports.length
 b : PSI M (tkS n p s.gv v (tkP n p fd v n.ports.length) n.segs.length) (6000 + B) (tkP n p fd v n.ports.length).ix.length n.segs.length n.segs.length
 q : PcP M (joined (tkS n p s.gv v (tkP n p fd v n.ports.length) n.segs.length).st)
 qv : volS (joined (tkS n p s.gv v (tkP n p fd v n.ports.length) n.segs.length).st) ≤ 6000 + B
 sl : (tkS n p s.gv v (tkP n p fd v n.ports.length) n.segs.length).st.length ≤ 1000000
 hn : (joined (tkS n p s.gv v (tkP n p fd v n.ports.length) n.segs.length).st).length ≠ 0 → HnOk (joined (tkS n p s.gv v (tkP n p fd v n.ports.length) n.segs.length).st) (tkS n p s.gv v (tkP n p fd v n.ports.length) n.segs.length).ra
theorem node_ok {M B : Int} {n : Net} {p : Pln} {fs fd} (h : TkM M n p fs fd) {s : TS} (hs : TkI M B n s) (hB : B ≤ 900000) {v : Nat} (hv : v < 24) : NdOk M n p fd B s v := by
 have hql := h.ok.ql
 have hsl := h.ok.sl
 have a := tkP_spec h v n.ports.length (Nat.le_refl _)
 have a' : PSI M (tkP n p fd v n.ports.length) 6000 0 n.ports.length n.ports.length := ⟨a.p, by have := a.v; omega, a.r, a.ra, a.il, a.ix⟩
 have b := tkS_spec h v hs.gl hs.gp a' n.segs.length (Nat.le_refl _)
 have hg := hs.gb
 have ht := totV_take_le n.segs.length hs.gp
 have b' : PSI M (tkS n p s.gv v (tkP n p fd v n.ports.length) n.segs.length) (6000 + B) (tkP n p fd v n.ports.length).ix.length n.segs.length n.segs.length := ⟨b.p, by have := b.v; omega, b.r, b.ra, b.il, b.ix⟩
 have bv := b'.v
 obtain ⟨⟨q1, q2⟩, q3⟩ := joined_spec b'.p.r (by omega)
 have sl := b'.p.len
 have ql := q1.len
 refine ⟨a', b', q1, by omega, by omega, fun hne => ⟨by omega, ?_, ?_, fun x hx => ?_⟩⟩
 ·have := b'.r
  have := b'.il
  have := a'.il
  omega
 ·have nn : (tkS n p s.gv v (tkP n p fd v n.ports.length) n.segs.length).ra ≠ [] := fun e => by
   have := node_nil h hv s.gv e
   rw [this] at hne
   exact hne rfl
  refine ⟨0, List.length_pos_iff.2 nn, ?_⟩
  have := b'.ra _ (List.getElem_mem (List.length_pos_iff.2 nn))
  rw [iA_at (List.length_pos_iff.2 nn)] at this
  omega
 ·have := q1.r.le x hx
  omega
theorem tNode_spec {M B : Int} {n : Net} {p : Pln} {fs fd} (h : TkM M n p fs fd) {s : TS} (hs : TkI M B n s) (hB : B ≤ 900000) (hB0 : 0 ≤ B) {v : Nat} (hv : v < 24) : TkI M (2 * B + 6000) n (tNode n p fd s v) := by
 have k := node_ok h hs hB hv
 unfold tNode
 dsimp only
 split
 ·exact ⟨hs.nl, hs.gl, hs.pl, hs.nx, hs.gp, by have := hs.gb; dsimp only; omega⟩
 ·rename_i hne
  have hn := k.hn hne
  have qv := k.qv
  obtain ⟨d1, d2, d3⟩ := hand_spec hn.pos k.q.r (by omega)
  have br := k.b.r
  have h2 : TkI M B n ⟨s.nxt, tOut (handL (joined (tkS n p s.gv v (tkP n p fd v n.ports.length) n.segs.length).st) (tkS n p s.gv v (tkP n p fd v n.ports.length) n.segs.length).ra) (tkP n p fd v n.ports.length).ix s.prt (tkP n p fd v n.ports.length).ix.length, s.gv, s.lng || decide (200 < (joined (tkS n p s.gv v (tkP n p fd v n.ports.length) n.segs.length).st).length)⟩ := ⟨hs.nl, hs.gl, by dsimp only; rw [tOut_len]; exact hs.pl, hs.nx, hs.gp, hs.gb⟩
  have r := tPushs_spec h h2 d2 (by omega) k.b.ix (lp := (tkP n p fd v n.ports.length).ix.length) (by omega) _ (Nat.le_refl _)
  have t1 := totV_take_le (M := M) (L := (handL (joined (tkS n p s.gv v (tkP n p fd v n.ports.length) n.segs.length).st) (tkS n p s.gv v (tkP n p fd v n.ports.length) n.segs.length).ra).drop (tkP n p fd v n.ports.length).ix.length) (tkS n p s.gv v (tkP n p fd v n.ports.length) n.segs.length).ix.length (fun i => by rw [pA_drop]; exact d2 _)
  have t2 := totV_drop (tkP n p fd v n.ports.length).ix.length d2
  exact ⟨r.nl, r.gl, r.pl, r.nx, r.gp, by have := r.gb; omega⟩
def bndT : Nat → Int
 | 0 => 0
 | j + 1 => 2 * bndT j + 6000
theorem bndT_le (j : Nat) (h : j ≤ 6) : 0 ≤ bndT j ∧ bndT j ≤ 378000 := by
 match j, h with
 | 0, _ => decide
 | 1, _ => decide
 | 2, _ => decide
 | 3, _ => decide
 | 4, _ => decide
 | 5, _ => decide
 | 6, _ => decide
theorem ordB_in {M n p fs fd} (h : TkM M n p fs fd) : (ordB n p).length = n.nodes.length ∧ ∀ v, v ∈ ordB n p → v < n.nodes.length := by
 have hv := fck0 h.ok.ck
 obtain ⟨th, hi, _⟩ := ord_inv hv.ord.2.2.2
 have e : ordL (n.segs.zip p.rates) n.nodes.length (List.replicate n.nodes.length false) [] = ordB n p := rfl
 rw [e] at hi
 exact ⟨by have := hv.all; have := hi.cnt; omega, fun v hv => hi.lt hv⟩
theorem tInit_spec {M n p fs fd} (h : TkM M n p fs fd) : TkI M 0 n (tInit n fs) := by
 have hfl := h.ok.fl
 refine ⟨hfl, by unfold tInit; simp [hfl], by unfold tInit; simp, fun i hi => ⟨h.fm i hi, ?_⟩, fun i => by unfold tInit; dsimp only; rw [pA_rep]; exact PcP.nil M, ?_⟩
 ·obtain ⟨v1, v2⟩ := h.ok.fv i hi
  have l := fl_len v1
  rw [sg_at hi] at v2
  have hp := (h.fm i hi).1
  have e : pA (tInit n fs).nxt i = fA fs i := rfl
  rw [e, ← v2]
  -- the pieces of a fill are at most a million in all
  unfold flV at v1
  rw [if_neg (by omega)] at v1
  have hb : (List.range (fA fs i).length).any (pcBad (fA fs i)) = false := by
   cases hh : (List.range (fA fs i).length).any (pcBad (fA fs i)) with
   | false => rfl
   | true => rw [hh] at v1; simp at v1
  have each : ∀ x, x ∈ fA fs i → x.vo ≤ 1000000 := fun x hx => by
   obtain ⟨m, hm, rfl⟩ := List.getElem_of_mem hx
   rw [List.any_eq_false] at hb
   have := hb m (List.mem_range.2 hm)
   unfold pcBad litB at this
   rw [pc_at hm]
   simp at this
   omega
  have bd : ∀ l : List Pce, PcP M l → (∀ x, x ∈ l → x.vo ≤ 1000000) → volS l ≤ 1000000 * (l.length : Int) := fun l => by
   induction l with
   | nil => intro _ _; rw [volS_nil]; simp
   | cons y l ih =>
    intro h1 h2
    have := ih h1.tail fun x hx => h2 x (List.mem_cons_of_mem _ hx)
    have := h2 y (List.mem_cons_self ..)
    rw [volS_cons, List.length_cons]
    omega
  have := bd _ hp each
  exact (hp.w (by omega)).symm
 ·unfold tInit totV
  dsimp only
  rw [List.map_replicate, volS_nil]
  have : ∀ k : Nat, (List.replicate k (0 : Int)).sum = 0 := fun k => by induction k with
   | zero => rfl
   | succ k ih => rw [List.replicate_succ, List.sum_cons, ih]; rfl
  rw [this]
  exact Int.le_refl _
theorem tRun_spec {M n p fs fd} (h : TkM M n p fs fd) : ∀ j, j ≤ (ordB n p).length → TkI M (bndT j) n (tRun n p fs fd j)
 | 0, _ => tInit_spec h
 | j + 1, hj => by
  obtain ⟨o1, o2⟩ := ordB_in h
  have hnl := h.ok.nl
  have hN := (fck0 h.ok.ck).net.nl
  have a := tRun_spec h j (by omega)
  obtain ⟨b0, b1⟩ := bndT_le j (by omega)
  have m : (ordB n p)[j]'(by omega) < n.nodes.length := o2 _ (List.getElem_mem _)
  have k := tNode_spec h a (by omega) b0 (v := (ordB n p)[j]'(by omega)) (by omega)
  unfold tRun at k ⊢
  rw [List.take_add_one, List.getElem?_eq_getElem (by omega), List.foldl_append]
  exact k
def atL : List Pce → Int → Int
 | [], _ => -1
 | p :: l, x => if x < p.vo then p.ba else atL l (x - p.vo)
theorem atL_app {M : Int} : ∀ (a b : List Pce) (x : Int), PcR M a → 0 ≤ x → atL (a ++ b) x = if x < volS a then atL a x else atL b (x - volS a)
 | [], b, x, _, h => by rw [volS_nil, if_neg (by omega), Int.sub_zero]; rfl
 | p :: a, b, x, ha, h => by
  have hp := ha p (List.mem_cons_self ..)
  have n0 := ha.tail.nn
  rw [List.cons_append, atL, volS_cons, atL]
  by_cases c : x < p.vo
  ·rw [if_pos c, if_pos (by omega), if_pos c]
  ·rw [if_neg c, atL_app a b (x - p.vo) ha.tail (by omega), if_neg c]
   by_cases d : x - p.vo < volS a
   ·rw [if_pos d, if_pos (by omega)]
   ·rw [if_neg d, if_neg (by omega), show x - p.vo - volS a = x - (p.vo + volS a) by omega]
theorem atL_out {M : Int} : ∀ (a : List Pce) (x : Int), PcR M a → volS a ≤ x → atL a x = -1
 | [], x, _, _ => rfl
 | p :: a, x, ha, h => by
  have n0 := ha.tail.nn
  rw [volS_cons] at h
  rw [atL, if_neg (by omega)]
  exact atL_out a (x - p.vo) ha.tail (by omega)
theorem atL_jn1 {M : Int} {out : List Pce} {p : Pce} (h : PcP M out) (hp : (0 ≤ p.ba ∧ p.ba < M) ∧ 0 ≤ p.vo) (hb : volS out + p.vo ≤ 1000000000000) {x : Int} (hx : 0 ≤ x) : atL (jn1 out p) x = atL (out ++ [p]) x := by
 have n0 := h.r.nn
 unfold jn1
 by_cases c : p.vo = 0
 ·rw [if_pos (by simp [c]), atL_app out [p] x h.r hx]
  split
  ·rfl
  ·rw [atL_out out x h.r (by omega), atL, if_neg (by omega)]
   rfl
 ·rw [if_neg (by simp [c])]
  rcases List.eq_nil_or_concat out with e | ⟨L, q, e⟩
  ·subst e
   rw [if_neg (by simp)]
  ·rw [List.concat_eq_append] at e
   subst e
   have el : (L ++ [q]).length - 1 = L.length := by simp
   rw [el, pc_right]
   have hL : PcP M L := fun y hy => h y (List.mem_append_left _ hy)
   have hq := h q (List.mem_append_right _ (List.mem_singleton_self _))
   have n1 := hL.r.nn
   rw [volS_append, volS_cons, volS_nil] at hb
   by_cases e : q.ba = p.ba
   ·rw [if_pos (by simp [e]), wrap_i (by omega), List.set_append_right _ _ (Nat.le_refl _), Nat.sub_self, List.set_cons_zero, List.append_assoc, atL_app L _ x hL.r hx, atL_app L _ x hL.r hx]
    split
    ·rfl
    ·simp only [List.cons_append, List.nil_append, atL]
     by_cases c1 : x - volS L < q.vo
     ·rw [if_pos (by omega), if_pos c1]
     ·rw [if_neg c1]
      by_cases c2 : x - volS L < q.vo + p.vo
      ·rw [if_pos c2, if_pos (by omega), e]
      ·rw [if_neg c2, if_neg (by omega)]
   ·rw [if_neg (by simp [e])]
theorem atL_fold {M : Int} {x : Int} (hx : 0 ≤ x) : ∀ (l out : List Pce), PcR M l → PcP M out → PcN out → volS out + volS l ≤ 1000000000000 → atL (l.foldl jn1 out) x = atL (out ++ l) x
 | [], out, _, _, _, _ => by rw [List.foldl_nil, List.append_nil]
 | p :: l, out, hl, h, hn, hb => by
  have hp := hl p (List.mem_cons_self ..)
  have n0 := hl.tail.nn
  rw [volS_cons] at hb
  obtain ⟨⟨a, b⟩, c⟩ := jn1_spec h hn hp (by omega)
  have e := atL_jn1 h hp (by omega) hx
  have h2 : PcR M (out ++ [p]) := h.r.app (PcR.one hp)
  rw [List.foldl_cons, atL_fold hx l (jn1 out p) hl.tail a b (by omega), show out ++ p :: l = (out ++ [p]) ++ l by simp, atL_app _ l x a.r hx, atL_app _ l x h2 hx, e, c, volS_append, volS_cons, volS_nil, Int.add_zero]
theorem atL_joined {M : Int} {l : List Pce} (h : PcR M l) (hb : volS l ≤ 1000000000000) {x : Int} (hx : 0 ≤ x) : atL (joined l) x = atL l x := by
 have := atL_fold hx l [] h (PcP.nil M) (fun j hj => by simp at hj) (by rw [volS_nil]; omega)
 exact this
theorem atL_spl {M : Int} : ∀ (l : List Pce) (n x : Int), PcR M l → 0 ≤ x → x < n → n ≤ 1000000000000 → volS l ≤ 1000000000000 → atL (spl l n).1 x = atL l x
 | [], n, x, _, _, _, _, _ => rfl
 | p :: l, n, x, h, h0, h1, h2, hb => by
  have hp := h p (List.mem_cons_self ..)
  have n0 := h.tail.nn
  rw [volS_cons] at hb
  rw [spl]
  dsimp only
  rw [atL, atL]
  dsimp only
  by_cases c : p.vo < n
  ·rw [if_pos c, wrap_i (by omega)]
   by_cases d : x < p.vo
   ·rw [if_pos d, if_pos d]
   ·rw [if_neg d, if_neg d]
    exact atL_spl l (n - p.vo) (x - p.vo) h.tail (by omega) (by omega) (by omega) (by omega)
  ·rw [if_neg c, if_pos h1, if_pos (by omega)]
theorem atL_push {M : Int} {x l : List Pce} {C : Int} (hx : PcP M x) (hl : PcP M l) (hv : volS l = C) (hC : C ≤ 1000000) (hr : volS x ≤ 1000000) {k : Int} (hk : volS x ≤ k) (hk2 : k < C) : atL (joined (spl (x ++ l) C).1) k = atL l (k - volS x) := by
 have n1 := hx.r.nn
 have n2 := hl.r.nn
 have hxl := hx.r.app hl.r
 have hs : volS (x ++ l) = volS x + C := by rw [volS_append, hv]
 obtain ⟨⟨a, _⟩, b, c⟩ := spl_spec (x ++ l) C hxl (by omega) (by omega) (by omega)
 have d := a.nn
 rw [atL_joined a (by split at b <;> omega) (by omega), atL_spl (x ++ l) C k hxl (by omega) hk2 (by omega) (by omega), atL_app x l k hx.r (by omega), if_neg (by omega)]
theorem spl_len : ∀ (l : List Pce) (n : Int), (spl l n).1.length = l.length ∧ (spl l n).2.length = l.length
 | [], _ => ⟨rfl, rfl⟩
 | p :: l, n => by
  have := spl_len l (IntKind.i64.wrap (n - if p.vo < n then p.vo else n))
  rw [spl]
  dsimp only
  rw [List.length_cons, List.length_cons, List.length_cons, this.1, this.2]
  exact ⟨rfl, rfl⟩
structure FilM (v : Int) (l : List Pce) : Prop where
 p : PcP 1000 l
 nb : PcN l
 sum : volS l = v
theorem filM_ok {v : Int} {l : List Pce} (h : FilM v l) (hv : v ≤ 1000000) (hl : l.length ≤ 200) : flV l = true ∧ volW l 0 = v := by
 have hw : volW l 0 = v := by rw [h.p.w (by rw [h.sum]; omega), h.sum]
 refine ⟨?_, hw⟩
 unfold flV
 rw [if_neg (by omega), hw]
 have : (List.range l.length).any (pcBad l) = false := by
  rw [List.any_eq_false]
  intro j hj
  have hj := List.mem_range.1 hj
  have hp := h.p (pcA l j) (pc_in hj)
  have hle := h.p.r.le (pcA l j) (pc_in hj)
  rw [h.sum] at hle
  have hnb : 0 < j → (pcA l (j - 1)).ba ≠ (pcA l j).ba := fun h0 => by
   have := h.nb (j - 1) (by omega)
   rw [show j - 1 + 1 = j by omega] at this
   exact this
  unfold pcBad litB
  simp only [Bool.or_eq_true, Bool.not_eq_true', Bool.and_eq_true, Bool.and_eq_false_iff, decide_eq_true_eq, decide_eq_false_iff_not, beq_iff_eq]
  omega
 rw [this]
 simp
 omega
/-! ### lengths -/
theorem hand0_len {rs : List Int} : ∀ (l : List Pce) (u : List (List Pce) × List Int) (m : Nat), u.1.length = rs.length → (∀ i, (pA u.1 i).length ≤ m) → (l.foldl (hdS rs) u).1.length = rs.length ∧ ∀ i, (pA (l.foldl (hdS rs) u).1 i).length ≤ m + l.length
 | [], u, m, h1, h2 => ⟨h1, fun i => h2 i⟩
 | p :: l, u, m, h1, h2 => by
  obtain ⟨a, b⟩ := apAll_spec p.ba (dealN rs p.vo.toNat u.2) u.2 u.1 rs.length (by omega)
  have k := hand0_len (rs := rs) l (hdS rs u p) (m + 1) (by unfold hdS apAll; dsimp only; omega) (fun i => by
   unfold hdS apAll
   dsimp only
   rw [b i]
   have := h2 i
   split
   ·rw [List.length_append, List.length_singleton]; omega
   ·omega)
  rw [List.foldl_cons, List.length_cons]
  refine ⟨k.1, fun i => ?_⟩
  have := k.2 i
  omega
theorem handL_len (l : List Pce) (rs : List Int) (i : Nat) : (pA (handL l rs) i).length ≤ l.length := by
 obtain ⟨a, b⟩ := hand0_len (rs := rs) l (List.replicate rs.length [], List.replicate rs.length 0) 0 (List.length_replicate) (fun i => by rw [pA_rep]; exact Nat.le_refl _)
 have b := b i
 rw [Nat.zero_add] at b
 by_cases h : i < (handL l rs).length
 ·have e : pA (handL l rs) i = joined (pA (hand0 l rs).1 i) := by
   unfold handL at h ⊢
   rw [List.length_map] at h
   unfold pA
   rw [List.getD_eq_getElem?_getD, List.getElem?_map, List.getElem?_eq_getElem h, List.getD_eq_getElem?_getD, List.getElem?_eq_getElem h]
   rfl
  rw [e]
  have := joined_len (pA (hand0 l rs).1 i)
  unfold hand0 at this ⊢
  omega
 ·rw [pA_out (by omega)]
  exact Nat.zero_le _
/-! ### where a piece begins -/
theorem drop_at {l : List Pce} {k : Nat} (h : k < l.length) : l.drop k = pcA l k :: l.drop (k + 1) := by rw [List.drop_eq_getElem_cons h, pc_at h]
theorem atL_take {M : Int} {l : List Pce} (h : PcP M l) {k : Nat} (hk : k < l.length) {x : Int} (h1 : 0 ≤ x) (h2 : x < (pcA l k).vo) : atL l (volS (l.take k) + x) = (pcA l k).ba := by
 have ht : PcP M (l.take k) := fun p hp => h p (List.mem_of_mem_take hp)
 have n0 := ht.r.nn
 have e : atL (l.take k ++ l.drop k) (volS (l.take k) + x) = (pcA l k).ba := by
  rw [atL_app _ _ _ ht.r (by omega), if_neg (by omega), drop_at hk, atL, if_pos (by omega)]
 rw [List.take_append_drop] at e
 exact e
theorem volS_take {l : List Pce} {k : Nat} (h : k < l.length) : volS (l.take (k + 1)) = volS (l.take k) + (pcA l k).vo := by
 rw [List.take_add_one, List.getElem?_eq_getElem h, volS_append, ← pc_at h]
 show _ + volS [l[k]] = _
 rw [volS_cons, volS_nil, Int.add_zero]
theorem atL_left {M : Int} {l : List Pce} (h : PcP M l) {k : Nat} (hk : k < l.length) (h0 : 1 ≤ k) : atL l (volS (l.take k) - 1) = (pcA l (k - 1)).ba := by
 obtain ⟨j, rfl⟩ : ∃ j, k = j + 1 := ⟨k - 1, by omega⟩
 have hp := h (pcA l j) (pc_in (by omega))
 have := atL_take h (k := j) (by omega) (x := (pcA l j).vo - 1) (by omega) (by omega)
 rw [volS_take (by omega), Nat.add_sub_cancel]
 rw [show volS (l.take j) + (pcA l j).vo - 1 = volS (l.take j) + ((pcA l j).vo - 1) by omega]
 exact this
theorem atL_right {M : Int} {l : List Pce} (h : PcP M l) {k : Nat} (hk : k < l.length) : atL l (volS (l.take k)) = (pcA l k).ba := by
 have hp := h (pcA l k) (pc_in hk)
 have := atL_take h hk (x := 0) (Int.le_refl _) (by omega)
 rw [Int.add_zero] at this
 exact this
theorem volS_take_b {M : Int} {l : List Pce} (h : PcP M l) {k : Nat} (hk : k < l.length) (h1 : 1 ≤ k) : 1 ≤ volS (l.take k) ∧ volS (l.take k) < volS l := by
 have e : volS l = volS (l.take k) + volS (l.drop k) := by rw [← volS_append, List.take_append_drop]
 have d : PcP M (l.drop k) := fun p hp => h p (List.mem_of_mem_drop hp)
 have t : PcP M (l.take k) := fun p hp => h p (List.mem_of_mem_take hp)
 have dl := d.len
 have tl := t.len
 rw [List.length_drop] at dl
 rw [List.length_take] at tl
 omega
def numL (f : List Pce) : List Pce := (List.range f.length).map fun i : Nat => ⟨(i : Int), (pcA f i).vo⟩
theorem numL_len (f : List Pce) : (numL f).length = f.length := by unfold numL; simp
theorem numL_at {f : List Pce} {i : Nat} (h : i < f.length) : pcA (numL f) i = ⟨i, (pcA f i).vo⟩ := by
 rw [← pc_at (by rw [numL_len]; exact h)]
 unfold numL
 rw [List.getElem_map, List.getElem_range]
theorem numL_fil {v : Int} {f : List Pce} (hl : f.length ≤ 12) (hp : ∀ p, p ∈ f → 1 ≤ p.vo) (hv : volS f = v) : FilM v (numL f) := by
 refine ⟨fun p h => ?_, fun j hj => ?_, ?_⟩
 ·unfold numL at h
  obtain ⟨i, hi, rfl⟩ := List.mem_map.1 h
  have hi := List.mem_range.1 hi
  have := hp _ (pc_in hi)
  exact ⟨⟨by dsimp only; omega, by dsimp only; omega⟩, this⟩
 ·rw [numL_len] at hj
  rw [numL_at (by omega), numL_at hj]
  dsimp only
  omega
 ·rw [← hv]
  unfold volS numL
  rw [List.map_map]
  congr 1
  refine List.ext_getElem (by simp) fun i h1 h2 => ?_
  rw [List.length_map] at h2
  rw [List.getElem_map, List.getElem_range, List.getElem_map, pc_at h2]
  rfl
end Go.Proofs.Ytadjhfjiimgddaa
