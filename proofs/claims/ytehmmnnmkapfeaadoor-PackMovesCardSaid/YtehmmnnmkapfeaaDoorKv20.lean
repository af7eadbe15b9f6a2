/- PackMoves: PkA Ti6 Ti7 Ti8 Vr. -/
import Derived.Test.YtehmmnnmkapfeaaDoorKv19
import Derived.Test.YtehmmnnmkapfeaaDoorKv18
import Derived.Test.YtehmmnnmkapfeaaDoorKv13
import Derived.Test.YtehmmnnmkapfeaaDoorKv4
set_option linter.unusedSimpArgs false
set_option linter.unusedVariables false
set_option maxRecDepth 100000

/- Rows of what a source yields; inventories at some conditions. -/
namespace Go.Proofs.YtehmmnnmkapfeaaDoor
open Go
def rowPdO : List D → Hp → Nm → Option (Prop × (D → Hp → Prop)) := fun args Hs nn =>
 match args with
 | [.ptr i g r c] =>
  match Hs i with
  | some ⟨_, _, [[.sl L, .v (.int .i64 at')]]⟩ => some ((Hs = Hp.none.put i (sE L at') ∧ g = 0 ∧ r = 0 ∧ c = 0) ∧ SrcOk L at' ∧ (nn.1 ≤ i.1 ∧ nn ≠ i), SrcO i nn L 5 Prd.row PrdsIn)
  | _ => Option.none
 | _ => Option.none
theorem prds_one : PrdsIn [⟨nm1B ⟨#[112]⟩ 0, 800, 0, 0, 1000⟩] := ⟨by simp, fun j hj => by
 obtain rfl : j = 0 := by simp at hj; exact hj
 exact ⟨rfl, by decide, by decide, by decide, by decide⟩⟩
theorem tc_pdO {T : Tbl} (hT : TblOk Tryd.prog T) : TblOk Tryd.prog (tc 29 rowPdO T) :=
 tc_row f29_ok (fun args Hs nn pre R hr hp => by
  unfold rowPdO at hr
  split at hr
  ·split at hr
   ·cases hr
    obtain ⟨⟨h1, rfl, rfl, rfl⟩, h2, h3⟩ := hp
    rw [h1]
    exact ⟨⟨_, _, _, 0, _, h2, prds_one, rfl, rfl⟩, Products_o _ _ _ _ h2 h3.1 h3.2⟩
   ·cases hr
  ·cases hr) hT
def rowBtO : List D → Hp → Nm → Option (Prop × (D → Hp → Prop)) := fun args Hs nn =>
 match args with
 | [.ptr i g r c, .v (.int .i64 n), .v (.int .i64 np)] =>
  match Hs i with
  | some ⟨_, _, [[.sl L, .v (.int .i64 at')]]⟩ => some ((Hs = Hp.none.put i (sE L at') ∧ g = 0 ∧ r = 0 ∧ c = 0) ∧ SrcOk L at' ∧ (nn.1 ≤ i.1 ∧ nn ≠ i) ∧ (0 ≤ n ∧ n ≤ 100) ∧ (1 ≤ np ∧ np ≤ 100), SrcO i nn L 4 Bat.row (BatsIn n np))
  | _ => Option.none
 | _ => Option.none
theorem bats_ex {n np : Int} (h : 0 ≤ n) (h2 : 1 ≤ np) : BatsIn n np (List.replicate n.toNat ⟨0, ⟨#[]⟩, 0, 1⟩) := ⟨by simp; omega, fun b hb => by
 rw [List.eq_of_mem_replicate hb]
 exact ⟨Int.le_refl _, by dsimp only; omega⟩⟩
theorem tc_btO {T : Tbl} (hT : TblOk Tryd.prog T) : TblOk Tryd.prog (tc 30 rowBtO T) :=
 tc_row f30_ok (fun args Hs nn pre R hr hp => by
  unfold rowBtO at hr
  split at hr
  ·split at hr
   ·cases hr
    obtain ⟨⟨h1, rfl, rfl, rfl⟩, h2, h3, h4, h5⟩ := hp
    rw [h1]
    exact ⟨⟨_, _, _, 0, _, h2, bats_ex h4.1 h5.1, rfl, rfl⟩, Batches_o _ _ h4 h5 _ _ _ _ h2 h3.1 h3.2⟩
   ·cases hr
  ·cases hr) hT
def rowFlO : List D → Hp → Nm → Option (Prop × (D → Hp → Prop)) := fun args Hs nn =>
 match args with
 | [.ptr i g r c, .v (.int .i64 v), .v (.int .i64 n)] =>
  match Hs i with
  | some ⟨_, _, [[.sl L, .v (.int .i64 at')]]⟩ => some ((Hs = Hp.none.put i (sE L at') ∧ g = 0 ∧ r = 0 ∧ c = 0) ∧ SrcOk L at' ∧ (nn.1 ≤ i.1 ∧ nn ≠ i) ∧ (1 ≤ v ∧ v ≤ 1000000) ∧ n = 4, SrcO i nn L 2 Pce.row (FillIn v))
  | _ => Option.none
 | _ => Option.none
theorem fill_ex {v : Int} (h : 1 ≤ v) : FillIn v [⟨0, v⟩] := ⟨by simp, fun p hp => by
 rw [List.mem_singleton.1 hp]
 exact ⟨⟨Int.le_refl _, by dsimp only; omega⟩, h⟩, fun j hj => by simp at hj, by simp [volS]⟩
theorem tc_flO {T : Tbl} (hT : TblOk Tryd.prog T) : TblOk Tryd.prog (tc 31 rowFlO T) :=
 tc_row f31_ok (fun args Hs nn pre R hr hp => by
  unfold rowFlO at hr
  split at hr
  ·split at hr
   ·cases hr
    obtain ⟨⟨h1, rfl, rfl, rfl⟩, h2, h3, h4, rfl⟩ := hp
    rw [h1]
    exact ⟨⟨_, _, _, 0, _, h2, fill_ex h4.1, rfl, rfl⟩, Fill_o _ h4 _ _ _ _ h2 h3.1 h3.2⟩
   ·cases hr
  ·cases hr) hT
/-! ### what holds of them -/
theorem nm4 (j : Nat) (h : j < 4) : nameB (nm1B ⟨#[112]⟩ (j : Int)) = true := by
 match j, h with
 | 0, _ => decide
 | 1, _ => decide
 | 2, _ => decide
 | 3, _ => decide
theorem prds_ok {l : List Prd} (h : PrdsIn l) (j : Nat) (hj : j < l.length) : PrdOk (pdA l j) := by
 have k := h.at' j hj
 have := h.len
 exact ⟨by rw [k.nm]; exact nm4 j (by omega), k.de, k.ex, k.co, k.fr⟩
theorem prds_ck {l : List Prd} (h : PrdsIn l) : pckI l = 0 := by
 have hl := h.len
 unfold pckI
 rw [if_neg (by omega)]
 have h1 : l.all pV = true := by
  rw [List.all_eq_true]
  intro x hx
  obtain ⟨j, hj, rfl⟩ := List.getElem_of_mem hx
  rw [pd_at hj]
  exact pV_t (prds_ok h j hj)
 have h2 : dupB eqPn l = false := by
  unfold dupB
  rw [List.any_eq_false]
  intro j hj
  have hj := List.mem_range.1 hj
  rw [dup_at hj, Bool.not_eq_true, List.any_eq_false]
  intro y hy
  obtain ⟨i, hi, rfl⟩ := List.getElem_of_mem hy
  rw [List.length_take] at hi
  rw [List.getElem_take, pd_at hj, pd_at (by omega)]
  unfold eqPn
  rw [(h.at' j hj).nm, (h.at' i (by omega)).nm, nm_ne 112 i j (by omega) (by omega) (by omega)]
  simp
 rw [h1, h2]
 rfl
theorem volW_in : ∀ (l : List Pce) (s : Int), (∀ p, p ∈ l → 1 ≤ p.vo) → 0 ≤ s → s + volS l ≤ 1000000000000 → volW l s = s + volS l ∧ 0 ≤ volS l
 | [], s, _, _, _ => by simp [volW, volS]
 | p :: l, s, h, h0, h1 => by
  have hp := h p (List.mem_cons_self ..)
  have e : volS (p :: l) = p.vo + volS l := by unfold volS; rw [List.map_cons, List.sum_cons]
  have nn : ∀ l : List Pce, (∀ p, p ∈ l → 1 ≤ p.vo) → 0 ≤ volS l := fun l => by
   induction l with
   | nil => intro _; simp [volS]
   | cons q l ih =>
    intro h
    have := ih (fun x hx => h x (List.mem_cons_of_mem _ hx))
    have hq := h q (List.mem_cons_self ..)
    unfold volS at this ⊢
    rw [List.map_cons, List.sum_cons]
    omega
  have n0 := nn l (fun x hx => h x (List.mem_cons_of_mem _ hx))
  rw [e] at h1 ⊢
  rw [volW, wrap_i (by omega)]
  have := volW_in l (s + p.vo) (fun x hx => h x (List.mem_cons_of_mem _ hx)) (by omega) (by omega)
  omega
theorem fill_le {v : Int} {l : List Pce} (h : FillIn v l) : ∀ p, p ∈ l → p.vo ≤ v := by
 intro p hp
 have nn : ∀ l : List Pce, (∀ p, p ∈ l → 1 ≤ p.vo) → 0 ≤ volS l ∧ ∀ p, p ∈ l → p.vo ≤ volS l := fun l => by
  induction l with
  | nil => intro _; exact ⟨by simp [volS], fun p hp => by cases hp⟩
  | cons q l ih =>
   intro h
   obtain ⟨a, b⟩ := ih (fun x hx => h x (List.mem_cons_of_mem _ hx))
   have hq := h q (List.mem_cons_self ..)
   have e : volS (q :: l) = q.vo + volS l := by unfold volS; rw [List.map_cons, List.sum_cons]
   rw [e]
   refine ⟨by omega, fun p hp => ?_⟩
   rcases List.mem_cons.1 hp with rfl | hp
   ·omega
   ·have := b p hp; omega
 have := (nn l (fun p hp => (h.at' p hp).2)).2 p hp
 rw [h.sum] at this
 exact this
theorem fill_ok {v : Int} {l : List Pce} (h : FillIn v l) (hv : v ≤ 1000000) : flV l = true ∧ volW l 0 = v := by
 have hl := h.len
 have hw := volW_in l 0 (fun p hp => (h.at' p hp).2) (Int.le_refl _) (by rw [h.sum]; omega)
 rw [h.sum, Int.zero_add] at hw
 refine ⟨?_, hw.1⟩
 unfold flV
 rw [if_neg (by omega), hw.1]
 have : (List.range l.length).any (pcBad l) = false := by
  rw [List.any_eq_false]
  intro j hj
  have hj := List.mem_range.1 hj
  have hp := h.at' (pcA l j) (by rw [← pc_at hj]; exact List.getElem_mem hj)
  have hle := fill_le h (pcA l j) (by rw [← pc_at hj]; exact List.getElem_mem hj)
  have hnb : 0 < j → (pcA l (j - 1)).ba ≠ (pcA l j).ba := fun h0 => by
   have := h.nb (j - 1) (by omega)
   rw [show j - 1 + 1 = j by omega] at this
   exact this
  unfold pcBad litB
  simp only [Bool.or_eq_true, Bool.not_eq_true', Bool.and_eq_true, Bool.and_eq_false_iff, decide_eq_true_eq, decide_eq_false_iff_not, beq_iff_eq]
  omega
 rw [this]
 simp
 omega
def prdOfP (ps : List Prd) (bs : List Bat) (p : Pce) : Prd := pdA ps (btA bs p.ba.toNat).pr.toNat
def stS (ps : List Prd) (bs : List Bat) (c : Cnd) (l : List Pce) : Int := (l.map fun p => stdV p.vo (fac (prdOfP ps bs p).ex (prdOfP ps bs p).co c.te c.pr)).sum
structure SgIn (ps : List Prd) (bs : List Bat) (l : List Pce) : Prop where
 p : ∀ p, p ∈ l → PrdOk (prdOfP ps bs p)
 v : ∀ p, p ∈ l → 1 ≤ p.vo ∧ p.vo ≤ 1000000
theorem vf_in {ps : List Prd} {bs : List Bat} {l : List Pce} (h : SgIn ps bs l) {c : Cnd} (hc : cdOk c.te c.pr) {p : Pce} (hp : p ∈ l) : vfOk p.vo (fac (prdOfP ps bs p).ex (prdOfP ps bs p).co c.te c.pr) ∧ (0 ≤ stdV p.vo (fac (prdOfP ps bs p).ex (prdOfP ps bs p).co c.te c.pr) ∧ stdV p.vo (fac (prdOfP ps bs p).ex (prdOfP ps bs p).co c.te c.pr) ≤ 2199023255552) := by
 have k := h.p p hp
 have f := (fac_bd k.ex k.co hc).2
 have v := h.v p hp
 have : vfOk p.vo (fac (prdOfP ps bs p).ex (prdOfP ps bs p).co c.te c.pr) := ⟨⟨by omega, by omega⟩, by omega, by omega⟩
 exact ⟨this, std_bd this⟩
theorem segV_in {ps : List Prd} {bs : List Bat} {l : List Pce} (h : SgIn ps bs l) {c : Cnd} (hc : cdOk c.te c.pr) {p : Pce} (hp : p ∈ l) : segV ps bs c p = (stdV p.vo (fac (prdOfP ps bs p).ex (prdOfP ps bs p).co c.te c.pr), 0) := by
 have e : facI (prdOfP ps bs p) c = (fac (prdOfP ps bs p).ex (prdOfP ps bs p).co c.te c.pr, 0) := by unfold facI; rw [pV_t (h.p p hp), cdV_t hc]; simp
 unfold prdOfP at e
 unfold segV
 rw [e]
 have := (vf_in h hc hp).1
 unfold prdOfP at this ⊢
 simp only [if_true]
 unfold stdI
 rw [vfV_t this]
 simp
theorem segGo_in {ps : List Prd} {bs : List Bat} {c : Cnd} (hc : cdOk c.te c.pr) : ∀ (l : List Pce) (s : Int), SgIn ps bs l → 0 ≤ s → s + 2199023255552 * (l.length : Int) ≤ 1000000000000000000 → segGo ps bs c l s = (s + stS ps bs c l, 0)
 | [], s, _, _, _ => by simp [segGo, stS]
 | p :: l, s, h, h0, h1 => by
  have v := (vf_in h hc (List.mem_cons_self ..)).2
  simp only [List.length_cons] at h1
  rw [segGo, segV_in h hc (List.mem_cons_self ..), if_pos rfl]
  dsimp only
  rw [wrap_i (by omega), segGo_in hc l _ ⟨fun p hp => h.p p (List.mem_cons_of_mem _ hp), fun p hp => h.v p (List.mem_cons_of_mem _ hp)⟩ (by omega) (by omega)]
  have e : stS ps bs c (p :: l) = stdV p.vo (fac (prdOfP ps bs p).ex (prdOfP ps bs p).co c.te c.pr) + stS ps bs c l := by unfold stS; rw [List.map_cons, List.sum_cons]
  rw [e, Int.add_assoc]
theorem bats_in {np : Int} {bs : List Bat} {ps : List Prd} (hb : BatsIn 4 np bs) (hnp : np = (ps.length : Int)) {p : Pce} (hp : 0 ≤ p.ba ∧ p.ba < 4) : unkB ps bs p = false ∧ (btA bs p.ba.toNat).pr.toNat < ps.length := by
 have hl := hb.len
 have hm : btA bs p.ba.toNat ∈ bs := by
  unfold btA
  rw [List.getD_eq_getElem?_getD, List.getElem?_eq_getElem (by omega)]
  exact List.getElem_mem (by omega)
 have := hb.at' _ hm
 refine ⟨?_, by omega⟩
 unfold unkB
 simp only [Bool.or_eq_false_iff, decide_eq_false_iff_not]
 omega
theorem hf_mul (v : Int) : hf (v * 1000000) 1000000 = v := by
 unfold hf
 rw [Int.mul_ediv_cancel _ (by decide), Int.mul_emod_left]
 simp
theorem stS_std (ps : List Prd) (bs : List Bat) (l : List Pce) : stS ps bs ⟨150, 0⟩ l = volS l := by
 unfold stS volS
 congr 1
 refine List.map_congr_left fun p hp => ?_
 dsimp only
 rw [fac_one]
 exact hf_mul _
theorem volS_nil : volS [] = 0 := rfl
theorem volS_cons (p : Pce) (l : List Pce) : volS (p :: l) = p.vo + volS l := by unfold volS; rw [List.map_cons, List.sum_cons]
theorem volS_append (a b : List Pce) : volS (a ++ b) = volS a + volS b := by
 induction a with
 | nil => simp [volS_nil]
 | cons p a ih => rw [List.cons_append, volS_cons, volS_cons, ih]; omega
def PcR (M : Int) (l : List Pce) : Prop := ∀ p, p ∈ l → (0 ≤ p.ba ∧ p.ba < M) ∧ 0 ≤ p.vo
def PcP (M : Int) (l : List Pce) : Prop := ∀ p, p ∈ l → (0 ≤ p.ba ∧ p.ba < M) ∧ 1 ≤ p.vo
def PcN (l : List Pce) : Prop := ∀ j, j + 1 < l.length → (pcA l j).ba ≠ (pcA l (j + 1)).ba
theorem PcP.r {M : Int} {l : List Pce} (h : PcP M l) : PcR M l := fun p hp => by have := h p hp; exact ⟨this.1, by omega⟩
theorem PcR.nil (M : Int) : PcR M [] := fun p hp => by cases hp
theorem PcP.nil (M : Int) : PcP M [] := fun p hp => by cases hp
theorem PcR.app {M : Int} {a b : List Pce} (h : PcR M a) (k : PcR M b) : PcR M (a ++ b) := fun p hp => (List.mem_append.1 hp).elim (h p) (k p)
theorem PcP.app {M : Int} {a b : List Pce} (h : PcP M a) (k : PcP M b) : PcP M (a ++ b) := fun p hp => (List.mem_append.1 hp).elim (h p) (k p)
theorem PcR.one {M : Int} {p : Pce} (h : (0 ≤ p.ba ∧ p.ba < M) ∧ 0 ≤ p.vo) : PcR M [p] := fun q hq => by rw [List.mem_singleton.1 hq]; exact h
theorem PcP.one {M : Int} {p : Pce} (h : (0 ≤ p.ba ∧ p.ba < M) ∧ 1 ≤ p.vo) : PcP M [p] := fun q hq => by rw [List.mem_singleton.1 hq]; exact h
theorem PcR.tail {M : Int} {p : Pce} {l : List Pce} (h : PcR M (p :: l)) : PcR M l := fun q hq => h q (List.mem_cons_of_mem _ hq)
theorem PcP.tail {M : Int} {p : Pce} {l : List Pce} (h : PcP M (p :: l)) : PcP M l := fun q hq => h q (List.mem_cons_of_mem _ hq)
theorem PcR.nn {M : Int} : ∀ {l : List Pce}, PcR M l → 0 ≤ volS l
 | [], _ => by rw [volS_nil]; exact Int.le_refl _
 | p :: l, h => by
  have := h.tail.nn
  have := (h p (List.mem_cons_self ..)).2
  rw [volS_cons]; omega
theorem PcR.le {M : Int} : ∀ {l : List Pce}, PcR M l → ∀ p, p ∈ l → p.vo ≤ volS l
 | q :: l, h, p, hp => by
  have n0 := h.tail.nn
  have n1 := (h q (List.mem_cons_self ..)).2
  rw [volS_cons]
  rcases List.mem_cons.1 hp with rfl | hp
  ·omega
  ·have := h.tail.le p hp; omega
theorem PcP.len {M : Int} : ∀ {l : List Pce}, PcP M l → (l.length : Int) ≤ volS l
 | [], _ => by rw [volS_nil]; simp
 | p :: l, h => by
  have := h.tail.len
  have := (h p (List.mem_cons_self ..)).2
  rw [volS_cons, List.length_cons]; omega
theorem PcP.w {M : Int} {l : List Pce} (h : PcP M l) (hb : volS l ≤ 1000000000000) : volW l 0 = volS l := by
 have := (volW_in l 0 (fun p hp => (h p hp).2) (Int.le_refl _) (by omega)).1
 rw [this]; omega
theorem jn1_spec {M : Int} {out : List Pce} {p : Pce} (h : PcP M out) (hn : PcN out) (hp : (0 ≤ p.ba ∧ p.ba < M) ∧ 0 ≤ p.vo) (hb : volS out + p.vo ≤ 1000000000000) : (PcP M (jn1 out p) ∧ PcN (jn1 out p)) ∧ volS (jn1 out p) = volS out + p.vo := by
 unfold jn1
 by_cases c : p.vo = 0
 ·rw [if_pos (by simp [c])]
  exact ⟨⟨h, hn⟩, by omega⟩
 ·rw [if_neg (by simp [c])]
  rcases List.eq_nil_or_concat out with rfl | ⟨L, q, e⟩
  ·rw [if_neg (by simp)]
   exact ⟨⟨PcP.one ⟨hp.1, by omega⟩, fun j hj => by simp at hj⟩, by rw [List.nil_append, volS_cons, volS_nil]; omega⟩
  ·rw [List.concat_eq_append] at e
   subst e
   have el : (L ++ [q]).length - 1 = L.length := by simp
   rw [el, pc_right]
   have hL : PcP M L := fun x hx => h x (List.mem_append_left _ hx)
   have hq := h q (List.mem_append_right _ (List.mem_singleton_self _))
   have n0 := hL.r.nn
   rw [volS_append, volS_cons, volS_nil] at hb
   by_cases e : q.ba = p.ba
   ·rw [if_pos (by simp [e]), wrap_i (by omega), List.set_append_right _ _ (Nat.le_refl _), Nat.sub_self, List.set_cons_zero]
    refine ⟨⟨hL.app (PcP.one ⟨hq.1, by dsimp only; omega⟩), fun j hj => ?_⟩, by rw [volS_append, volS_append, volS_cons, volS_cons, volS_nil]; dsimp only; omega⟩
    have k := hn j (by simpa using hj)
    rw [List.length_append, List.length_singleton] at hj
    rw [pc_left (c := q) (by omega)] at k
    rw [pc_left (by omega)]
    by_cases f : j + 1 < L.length
    ·rw [pc_left f] at k ⊢; exact k
    ·rw [show j + 1 = L.length by omega, pc_right] at k ⊢; exact k
   ·rw [if_neg (by simp [e])]
    refine ⟨⟨h.app (PcP.one ⟨hp.1, by omega⟩), fun j hj => ?_⟩, by rw [volS_append, volS_append, volS_cons, volS_nil, volS_cons, volS_nil]; omega⟩
    rw [List.length_append, List.length_singleton] at hj
    by_cases f : j + 1 < (L ++ [q]).length
    ·have k := hn j f
     rw [pc_left (by omega), pc_left f]
     exact k
    ·have hl : (L ++ [q]).length = L.length + 1 := by simp
     rw [show j + 1 = (L ++ [q]).length by omega, pc_right, pc_left (by omega), show j = L.length by omega, pc_right]
     exact e
theorem foldl_jn1 {M : Int} : ∀ (l out : List Pce), PcR M l → PcP M out → PcN out → volS out + volS l ≤ 1000000000000 → (PcP M (l.foldl jn1 out) ∧ PcN (l.foldl jn1 out)) ∧ volS (l.foldl jn1 out) = volS out + volS l
 | [], out, _, h, hn, _ => ⟨⟨h, hn⟩, by simp [volS_nil]⟩
 | p :: l, out, hl, h, hn, hb => by
  have hp := hl p (List.mem_cons_self ..)
  have n0 := hl.tail.nn
  rw [volS_cons] at hb ⊢
  obtain ⟨⟨a, b⟩, c⟩ := jn1_spec h hn hp (by omega)
  obtain ⟨d, e⟩ := foldl_jn1 l (jn1 out p) hl.tail a b (by omega)
  exact ⟨d, by rw [List.foldl_cons, e, c]; omega⟩
theorem joined_spec {M : Int} {l : List Pce} (h : PcR M l) (hb : volS l ≤ 1000000000000) : (PcP M (joined l) ∧ PcN (joined l)) ∧ volS (joined l) = volS l := by
 obtain ⟨a, b⟩ := foldl_jn1 l [] h (PcP.nil M) (fun j hj => by simp at hj) (by rw [volS_nil]; omega)
 exact ⟨a, by unfold joined; rw [b, volS_nil]; omega⟩
theorem spl_spec {M : Int} : ∀ (l : List Pce) (n : Int), PcR M l → 0 ≤ n → n ≤ 1000000000000 → volS l ≤ 1000000000000 → (PcR M (spl l n).1 ∧ PcR M (spl l n).2) ∧ volS (spl l n).1 = (if volS l < n then volS l else n) ∧ volS (spl l n).1 + volS (spl l n).2 = volS l
 | [], n, _, h0, _, _ => ⟨⟨PcR.nil M, PcR.nil M⟩, by simp only [spl, volS_nil]; omega, by simp only [spl, volS_nil]; omega⟩
 | p :: l, n, h, h0, h1, hb => by
  have hp := h p (List.mem_cons_self ..)
  have n0 := h.tail.nn
  rw [volS_cons] at hb
  have hk : ∃ k, (if p.vo < n then p.vo else n) = k ∧ 0 ≤ k ∧ k ≤ n ∧ k ≤ p.vo ∧ (k = p.vo ∨ k = n) := ⟨_, rfl, by split <;> omega⟩
  obtain ⟨k, e, k0, k1, k2, k3⟩ := hk
  rw [spl]
  dsimp only
  rw [e, wrap_i (by omega), wrap_i (by omega)]
  obtain ⟨⟨a, b⟩, c, d⟩ := spl_spec l (n - k) h.tail (by omega) (by omega) (by omega)
  refine ⟨⟨fun x hx => ?_, fun x hx => ?_⟩, ?_, ?_⟩
  ·rcases List.mem_cons.1 hx with rfl | hx
   ·exact ⟨hp.1, k0⟩
   ·exact a x hx
  ·rcases List.mem_cons.1 hx with rfl | hx
   ·exact ⟨hp.1, by dsimp only; omega⟩
   ·exact b x hx
  ·rw [volS_cons, volS_cons, c]
   dsimp only
   split <;> split <;> omega
  ·rw [volS_cons, volS_cons, volS_cons]
   dsimp only
   omega
theorem shift_spec {M : Int} {f i : List Pce} (hf : PcP M f) (hi : PcP M i) (b : Bool) (h1 : volS f ≤ 1000000000) (h2 : volS i ≤ 1000000000) :
  ((PcP M (shiftL f i b).1 ∧ PcN (shiftL f i b).1) ∧ volS (shiftL f i b).1 = volS f) ∧ PcP M (shiftL f i b).2 ∧ volS (shiftL f i b).2 = volS i := by
 have n1 := hf.r.nn
 have n2 := hi.r.nn
 unfold shiftL
 rw [hf.w (by omega), hi.w (by omega)]
 cases b with
 | true =>
  obtain ⟨⟨a, b⟩, c, d⟩ := spl_spec (f ++ i) (volS i) (hf.r.app hi.r) n2 (by omega) (by rw [volS_append]; omega)
  rw [volS_append] at c d
  have n3 := a.nn
  have n4 := b.nn
  rw [if_neg (by omega)] at c
  obtain ⟨e1, e2⟩ := joined_spec a (by omega)
  obtain ⟨e3, e4⟩ := joined_spec b (by omega)
  exact ⟨⟨e3, by rw [if_pos rfl]; dsimp only; omega⟩, e1.1, by rw [if_pos rfl]; dsimp only; omega⟩
 | false =>
  obtain ⟨⟨a, b⟩, c, d⟩ := spl_spec (i ++ f) (volS f) (hi.r.app hf.r) n1 (by omega) (by rw [volS_append]; omega)
  rw [volS_append] at c d
  have n3 := a.nn
  have n4 := b.nn
  rw [if_neg (by omega)] at c
  obtain ⟨e1, e2⟩ := joined_spec a (by omega)
  obtain ⟨e3, e4⟩ := joined_spec b (by omega)
  exact ⟨⟨e1, by rw [if_neg (by decide)]; dsimp only; omega⟩, e3.1, by rw [if_neg (by decide)]; dsimp only; omega⟩
theorem PcP.rev {M : Int} {l : List Pce} (h : PcP M l) : PcP M l.reverse := fun p hp => h p (List.mem_reverse.1 hp)
theorem volS_rev (l : List Pce) : volS l.reverse = volS l := by
 induction l with
 | nil => rfl
 | cons p l ih => rw [List.reverse_cons, volS_append, volS_cons, volS_cons, volS_nil, ih]; omega
/-! ### dealing -/
theorem sumA_set : ∀ (l : List Int) (i : Nat) (v : Int), i < l.length → (l.set i v).sum = l.sum - iA l i + v
 | x :: l, 0, v, _ => by rw [List.set_cons_zero, List.sum_cons, List.sum_cons]; show _ = _ - x + v; omega
 | x :: l, i + 1, v, h => by
  have := sumA_set l i v (by simpa using h)
  have e : iA (x :: l) (i + 1) = iA l i := rfl
  rw [List.set_cons_succ, List.sum_cons, List.sum_cons, this, e]; omega
theorem iA_set (l : List Int) (i k : Nat) (v : Int) (h : i < l.length) : iA (l.set i v) k = if k = i then v else iA l k := by
 unfold iA
 rw [List.getD_eq_getElem?_getD, List.getElem?_set]
 by_cases e : i = k
 ·subst e; rw [if_pos rfl, if_pos h, if_pos rfl]; rfl
 ·rw [if_neg e, if_neg (fun h => e h.symm), List.getD_eq_getElem?_getD]
theorem iA_le_sum : ∀ (l : List Int) (i : Nat), (∀ k, 0 ≤ iA l k) → iA l i ≤ l.sum ∧ 0 ≤ l.sum
 | [], i, _ => by unfold iA; simp
 | x :: l, i, h => by
  have h0 : 0 ≤ x := h 0
  have hl : ∀ k, 0 ≤ iA l k := fun k => h (k + 1)
  rw [List.sum_cons]
  cases i with
  | zero => have := (iA_le_sum l 0 hl).2; show x ≤ _ ∧ _; omega
  | succ i => have := iA_le_sum l i hl; show iA l i ≤ _ ∧ _; omega
theorem dealN_spec {rs : List Int} (pos : ∃ i, i < rs.length ∧ 0 < iA rs i) : ∀ (m : Nat) (gs : List Int), gs.length = rs.length → (∀ k, 0 ≤ iA gs k) → gs.sum + m ≤ 1000000000000 → (∀ k, iA gs k ≤ iA (dealN rs m gs) k) ∧ (dealN rs m gs).sum = gs.sum + m
 | 0, gs, _, _, _ => ⟨fun _ => Int.le_refl _, by simp [dealN]⟩
 | m + 1, gs, hl, h0, hb => by
  obtain ⟨n0, n1⟩ := nextI_in rs gs pos
  have hx : (nextI rs gs).toNat < gs.length := by omega
  obtain ⟨a, b⟩ := iA_le_sum gs (nextI rs gs).toNat h0
  have c := h0 (nextI rs gs).toNat
  have e1 : (dealO rs gs).sum = gs.sum + 1 := by unfold dealO; rw [wrap_i (by omega), sumA_set _ _ _ hx]; omega
  have e2 : ∀ k, iA gs k ≤ iA (dealO rs gs) k := fun k => by
   unfold dealO
   rw [wrap_i (by omega), iA_set _ _ _ _ hx]
   split
   ·rename_i e; subst e; omega
   ·exact Int.le_refl _
  obtain ⟨d, e⟩ := dealN_spec pos m (dealO rs gs) (by rw [dealO_len]; exact hl) (fun k => by have := h0 k; have := e2 k; omega) (by omega)
  rw [dealN]
  exact ⟨fun k => by have := e2 k; have := d k; omega, by rw [e, e1]; omega⟩
theorem apAll_spec (ba : Int) (gs ws : List Int) (os : List (List Pce)) : ∀ (k : Nat), k ≤ os.length → ((List.range k).foldl (apS ba gs ws) os).length = os.length ∧ ∀ i, pA ((List.range k).foldl (apS ba gs ws) os) i = if i < k then pA os i ++ [⟨ba, IntKind.i64.wrap (iA gs i - iA ws i)⟩] else pA os i
 | 0, _ => ⟨rfl, fun i => by rw [if_neg (Nat.not_lt_zero _)]; rfl⟩
 | k + 1, hk => by
  obtain ⟨a, b⟩ := apAll_spec ba gs ws os k (by omega)
  rw [List.range_succ, List.foldl_append]
  generalize (List.range k).foldl (apS ba gs ws) os = o at a b
  show (apS ba gs ws o k).length = _ ∧ ∀ i, pA (apS ba gs ws o k) i = _
  unfold apS
  refine ⟨by rw [List.length_set]; exact a, fun i => ?_⟩
  rw [pA_set _ _ _ _ (by omega), b, b]
  by_cases e : i = k
  ·subst e
   rw [if_pos rfl, if_neg (Nat.lt_irrefl _), if_pos (by omega)]
  ·rw [if_neg e]
   by_cases f : i < k
   ·rw [if_pos f, if_pos (by omega)]
   ·rw [if_neg f, if_neg (by omega)]
structure HdI (M : Int) (R : Nat) (s : Int) (os : List (List Pce)) (gs : List Int) : Prop where
 ol : os.length = R
 gl : gs.length = R
 pc : ∀ i, PcR M (pA os i)
 vo : ∀ i, volS (pA os i) = iA gs i
 sum : gs.sum = s
theorem HdI.nn {M R s os gs} (h : HdI M R s os gs) (i : Nat) : 0 ≤ iA gs i := by rw [← h.vo]; exact (h.pc i).nn
theorem iA_out {l : List Int} {i : Nat} (h : l.length ≤ i) : iA l i = 0 := by
 unfold iA
 rw [List.getD_eq_getElem?_getD, List.getElem?_eq_none h]
 rfl
theorem pA_out {l : List (List Pce)} {i : Nat} (h : l.length ≤ i) : pA l i = [] := by
 unfold pA
 rw [List.getD_eq_getElem?_getD, List.getElem?_eq_none h]
 rfl
theorem hdS_spec {M : Int} {rs : List Int} {s : Int} {os : List (List Pce)} {gs : List Int} (pos : ∃ i, i < rs.length ∧ 0 < iA rs i) (h : HdI M rs.length s os gs) {p : Pce} (hp : (0 ≤ p.ba ∧ p.ba < M) ∧ 0 ≤ p.vo) (hb : s + p.vo ≤ 1000000000000) : HdI M rs.length (s + p.vo) (hdS rs (os, gs) p).1 (hdS rs (os, gs) p).2 := by
 have ol := h.ol
 have gl := h.gl
 have hs := h.sum
 obtain ⟨a, b⟩ := dealN_spec pos p.vo.toNat gs h.gl h.nn (by omega)
 have lg := dealN_len rs p.vo.toNat gs
 unfold hdS apAll
 dsimp only
 generalize dealN rs p.vo.toNat gs = g2 at a b lg
 obtain ⟨c, d⟩ := apAll_spec p.ba g2 gs os rs.length (by omega)
 have bd : ∀ i, IntKind.i64.wrap (iA g2 i - iA gs i) = iA g2 i - iA gs i := fun i => by
  have := a i
  have := h.nn i
  have := (iA_le_sum g2 i fun k => by have := a k; have := h.nn k; omega).1
  rw [wrap_i (by omega)]
 refine ⟨by rw [c]; exact ol, by omega, fun i => ?_, fun i => ?_, by rw [b, hs]; omega⟩
 ·rw [d]
  split
  ·refine (h.pc i).app (PcR.one ⟨hp.1, ?_⟩)
   dsimp only
   rw [bd]
   have := a i
   omega
  ·exact h.pc i
 ·rw [d]
  split
  ·rw [volS_append, volS_cons, volS_nil, h.vo, bd]
   dsimp only
   omega
  ·rw [h.vo, iA_out (by omega), iA_out (by omega)]
theorem hand0_spec {M : Int} {rs : List Int} (pos : ∃ i, i < rs.length ∧ 0 < iA rs i) : ∀ (l : List Pce) (s : Int) (u : List (List Pce) × List Int), PcR M l → HdI M rs.length s u.1 u.2 → s + volS l ≤ 1000000000000 → HdI M rs.length (s + volS l) (l.foldl (hdS rs) u).1 (l.foldl (hdS rs) u).2
 | [], s, u, _, h, _ => by rw [volS_nil, Int.add_zero]; exact h
 | p :: l, s, u, hl, h, hb => by
  have n0 := hl.tail.nn
  rw [volS_cons] at hb ⊢
  have k := hdS_spec pos h (hl p (List.mem_cons_self ..)) (by omega)
  have := hand0_spec pos l (s + p.vo) (hdS rs (u.1, u.2) p) hl.tail k (by omega)
  rw [List.foldl_cons, show s + (p.vo + volS l) = s + p.vo + volS l by omega]
  exact this
def totV (L : List (List Pce)) : Int := (L.map volS).sum
theorem totV_eq {M : Int} {R : Nat} {s : Int} {os : List (List Pce)} {gs : List Int} (h : HdI M R s os gs) : totV os = s := by
 rw [← h.sum]
 unfold totV
 congr 1
 refine List.ext_getElem? fun k => ?_
 have ol := h.ol
 have gl := h.gl
 have hv := h.vo k
 unfold pA iA at hv
 rw [List.getD_eq_getElem?_getD, List.getD_eq_getElem?_getD] at hv
 rw [List.getElem?_map]
 by_cases hk : k < R
 ·rw [List.getElem?_eq_getElem (by omega), List.getElem?_eq_getElem (by omega)] at hv ⊢
  exact congrArg some hv
 ·rw [List.getElem?_eq_none (by omega), List.getElem?_eq_none (by omega)]; rfl
theorem hand_spec {M : Int} {l : List Pce} {rs : List Int} (pos : ∃ i, i < rs.length ∧ 0 < iA rs i) (h : PcR M l) (hb : volS l ≤ 1000000000) : (handL l rs).length = rs.length ∧ (∀ i, PcP M (pA (handL l rs) i)) ∧ totV (handL l rs) = volS l := by
 have z : HdI M rs.length 0 (List.replicate rs.length []) (List.replicate rs.length 0) := ⟨by simp, by simp, fun i => by rw [pA_rep]; exact PcR.nil M, fun i => by
  rw [pA_rep, volS_nil]
  unfold iA
  rw [List.getD_eq_getElem?_getD, List.getElem?_replicate]
  split <;> rfl, by simp⟩
 have k := hand0_spec pos l 0 (List.replicate rs.length [], List.replicate rs.length 0) h z (by omega)
 rw [Int.zero_add] at k
 have e : (l.foldl (hdS rs) (List.replicate rs.length [], List.replicate rs.length 0)) = hand0 l rs := rfl
 rw [e] at k
 have tv := totV_eq k
 have js : ∀ i, (PcP M (joined (pA (hand0 l rs).1 i)) ∧ PcN (joined (pA (hand0 l rs).1 i))) ∧ volS (joined (pA (hand0 l rs).1 i)) = volS (pA (hand0 l rs).1 i) := fun i => joined_spec (k.pc i) (by
  rw [k.vo]
  have := (iA_le_sum (hand0 l rs).2 i k.nn).1
  rw [k.sum] at this
  omega)
 refine ⟨by unfold handL; rw [List.length_map]; exact k.ol, fun i => ?_, ?_⟩
 ·by_cases hi : i < (hand0 l rs).1.length
  ·have : pA (handL l rs) i = joined (pA (hand0 l rs).1 i) := by
    unfold pA handL
    rw [List.getD_eq_getElem?_getD, List.getElem?_map, List.getD_eq_getElem?_getD, List.getElem?_eq_getElem hi]
    rfl
   rw [this]
   exact (js i).1.1
  ·rw [pA_out (by unfold handL; rw [List.length_map]; omega)]
   exact PcP.nil M
 ·rw [← tv]
  unfold totV handL
  rw [List.map_map]
  congr 1
  refine List.map_congr_left fun x hx => ?_
  obtain ⟨m, hm, rfl⟩ := List.getElem_of_mem hx
  have : pA (hand0 l rs).1 m = (hand0 l rs).1[m] := by
   unfold pA
   rw [List.getD_eq_getElem?_getD, List.getElem?_eq_getElem hm]
   rfl
  have h2 := (js m).2
  rw [this] at h2
  exact h2
def sgT (n : Net) (i : Nat) : Seg := n.segs.getD i ⟨⟨#[]⟩, 0, 0, 0, 0, 0, []⟩
def ptT (n : Net) (i : Nat) : Port := n.ports.getD i ⟨⟨#[]⟩, 0, 0⟩
theorem sg_at {n : Net} {i : Nat} (h : i < n.segs.length) : n.segs[i] = sgT n i := by
 unfold sgT
 rw [List.getD_eq_getElem?_getD, List.getElem?_eq_getElem h]
 rfl
theorem pt_at' {n : Net} {i : Nat} (h : i < n.ports.length) : n.ports[i] = ptT n i := by
 unfold ptT
 rw [List.getD_eq_getElem?_getD, List.getElem?_eq_getElem h]
 rfl
theorem iA_at {l : List Int} {i : Nat} (h : i < l.length) : l[i] = iA l i := by
 unfold iA
 rw [List.getD_eq_getElem?_getD, List.getElem?_eq_getElem h]
 rfl
structure PS3 where
 st : List Pce
 ra : List Int
 ix : List Nat
def tPort (n : Net) (p : Pln) (fd : List Int) (v : Int) (s : PS3) (i : Nat) : PS3 :=
 if (ptT n i).node = v ∧ 0 < iA p.ports i then ⟨s.st ++ [⟨iA fd i, iA p.ports i⟩], s.ra, s.ix⟩
 else if (ptT n i).node = v ∧ iA p.ports i < 0 then ⟨s.st, s.ra ++ [-(iA p.ports i)], s.ix ++ [i]⟩ else s
def tSeg (n : Net) (p : Pln) (gv : List (List Pce)) (v : Int) (s : PS3) (i : Nat) : PS3 :=
 if iA p.rates i = 0 then s
 else if toOf (sgT n i, iA p.rates i) = v then ⟨s.st ++ pA gv i, s.ra, s.ix⟩
 else if frOf (sgT n i, iA p.rates i) = v then ⟨s.st, s.ra ++ [absI (iA p.rates i)], s.ix ++ [i]⟩ else s
def tkP (n : Net) (p : Pln) (fd : List Int) (v : Int) (k : Nat) : PS3 := (List.range k).foldl (tPort n p fd v) ⟨[], [], []⟩
def tkS (n : Net) (p : Pln) (gv : List (List Pce)) (v : Int) (a : PS3) (k : Nat) : PS3 := (List.range k).foldl (tSeg n p gv v) ⟨a.st, a.ra, []⟩
structure TS where
 nxt : List (List Pce)
 prt : List (List Pce)
 gv : List (List Pce)
 lng : Bool
def tPush (p : Pln) (de : List (List Pce)) (lp : Nat) (ix : List Nat) (s : TS) (k : Nat) : TS :=
 let i := ix.getD k 0
 let b := decide (iA p.rates i < 0)
 let x := pA de (lp + k)
 let sh := shiftL (pA s.nxt i) (if b = true then x else x.reverse) b
 ⟨s.nxt.set i sh.1, s.prt, s.gv.set i (if b = true then sh.2 else sh.2.reverse), s.lng⟩
def tOut (de : List (List Pce)) (ix : List Nat) (P : List (List Pce)) (k : Nat) : List (List Pce) := (List.range k).foldl (fun P k => P.set (ix.getD k 0) (pA de k)) P
def tPushs (p : Pln) (de : List (List Pce)) (lp : Nat) (ix : List Nat) (s : TS) (k : Nat) : TS := (List.range k).foldl (tPush p de lp ix) s
def tNode (n : Net) (p : Pln) (fd : List Int) (s : TS) (v : Nat) : TS :=
 let a := tkP n p fd v n.ports.length
 let b := tkS n p s.gv v a n.segs.length
 let q := joined b.st
 if q.length = 0 then ⟨s.nxt, s.prt, s.gv, s.lng || decide (200 < q.length)⟩ else
  tPushs p (handL q b.ra) a.ix.length b.ix ⟨s.nxt, tOut (handL q b.ra) a.ix s.prt a.ix.length, s.gv, s.lng || decide (200 < q.length)⟩ b.ix.length
def tInit (n : Net) (fs : List (List Pce)) : TS := ⟨fs, List.replicate n.ports.length [], List.replicate fs.length [], false⟩
def tRun (n : Net) (p : Pln) (fs : List (List Pce)) (fd : List Int) (j : Nat) : TS := ((ordB n p).take j).foldl (tNode n p fd) (tInit n fs)
def tEnd (n : Net) (p : Pln) (fs : List (List Pce)) (fd : List Int) : TS := tRun n p fs fd (ordB n p).length
def lngA (s : TS) (l : Bool) (k : Nat) : Bool := (List.range k).foldl (fun b i => (b || decide (200 < (pA s.nxt i).length)) || decide (200 < (pA s.gv i).length)) l
def lngP (s : TS) (l : Bool) (k : Nat) : Bool := (List.range k).foldl (fun b i => b || decide (200 < (pA s.prt i).length)) l
def tLong (s : TS) : Bool := lngP s (lngA s s.lng s.nxt.length) s.prt.length
/-! ### what is kept -/
structure TkM (M : Int) (n : Net) (p : Pln) (fs : List (List Pce)) (fd : List Int) : Prop where
 ok : TkOk n p fs fd
 m1 : M ≤ 1000
 cp : ∀ i, i < n.segs.length → (sgT n i).cap ≤ 1000
 fm : ∀ i, i < n.segs.length → PcP M (fA fs i) ∧ PcN (fA fs i)
 dm : ∀ i, i < fd.length → 0 ≤ iA fd i ∧ iA fd i < M
structure TkI (M B : Int) (n : Net) (s : TS) : Prop where
 nl : s.nxt.length = n.segs.length
 gl : s.gv.length = n.segs.length
 pl : s.prt.length = n.ports.length
 nx : ∀ i, i < n.segs.length → (PcP M (pA s.nxt i) ∧ PcN (pA s.nxt i)) ∧ volS (pA s.nxt i) = (sgT n i).cap
 gp : ∀ i, PcP M (pA s.gv i)
 gb : totV s.gv ≤ B
structure PSI (M : Int) (s : PS3) (B : Int) (R I N : Nat) : Prop where
 p : PcP M s.st
 v : volS s.st ≤ B
 r : s.ra.length = R + s.ix.length
 ra : ∀ x, x ∈ s.ra → 1 ≤ x ∧ x ≤ 1000
 il : s.ix.length ≤ I
 ix : ∀ x, x ∈ s.ix → x < N
theorem range_fold {α : Type} (f : α → Nat → α) (a : α) (k : Nat) : (List.range (k + 1)).foldl f a = f ((List.range k).foldl f a) k := by
 rw [List.range_succ, List.foldl_append]; rfl
theorem tkP_spec {M n p fs fd} (h : TkM M n p fs fd) (v : Int) : ∀ k, k ≤ n.ports.length → PSI M (tkP n p fd v k) (1000 * (k : Int)) 0 k k
 | 0, _ => ⟨PcP.nil M, by show volS [] ≤ _; rw [volS_nil]; simp, rfl, fun x hx => (by cases hx), Nat.le_refl _, fun x hx => (by cases hx)⟩
 | k + 1, hk => by
  have i := tkP_spec h v k (by omega)
  have hv := fck0 h.ok.ck
  have hb := hv.pb (iA p.ports k) (by rw [← iA_at (by have := hv.pl; omega)]; exact List.getElem_mem _)
  have hd := h.dm k (by have := h.ok.dl; omega)
  unfold tkP at i ⊢
  rw [range_fold]
  generalize (List.range k).foldl (tPort n p fd v) ⟨[], [], []⟩ = s at i
  unfold tPort
  split
  ·refine ⟨i.p.app (PcP.one ⟨hd, by dsimp only; omega⟩), ?_, i.r, i.ra, Nat.le_succ_of_le i.il, fun x hx => Nat.lt_succ_of_lt (i.ix x hx)⟩
   have := i.v
   rw [volS_append, volS_cons, volS_nil]
   dsimp only
   omega
  ·split
   ·refine ⟨i.p, by have := i.v; dsimp only; omega, ?_, fun x hx => ?_, by have := i.il; simp; omega, fun x hx => ?_⟩
    ·have := i.r
     simp only [List.length_append, List.length_singleton]
     omega
    ·rcases List.mem_append.1 hx with hx | hx
     ·exact i.ra x hx
     ·rw [List.mem_singleton.1 hx]; omega
    ·rcases List.mem_append.1 hx with hx | hx
     ·exact Nat.lt_succ_of_lt (i.ix x hx)
     ·rw [List.mem_singleton.1 hx]; omega
   ·exact ⟨i.p, by have := i.v; omega, i.r, i.ra, Nat.le_succ_of_le i.il, fun x hx => Nat.lt_succ_of_lt (i.ix x hx)⟩
theorem totV_nil : totV [] = 0 := rfl
theorem totV_append (a b : List (List Pce)) : totV (a ++ b) = totV a + totV b := by
 unfold totV
 rw [List.map_append, List.sum_append_int]
theorem totV_take {L : List (List Pce)} {k : Nat} (h : k < L.length) : totV (L.take (k + 1)) = totV (L.take k) + volS (pA L k) := by
 rw [List.take_add_one, List.getElem?_eq_getElem h, totV_append]
 have : pA L k = L[k] := by unfold pA; rw [List.getD_eq_getElem?_getD, List.getElem?_eq_getElem h]; rfl
 rw [this]
 congr 1
 unfold totV
 simp
theorem totV_nn {M : Int} : ∀ {L : List (List Pce)}, (∀ i, PcP M (pA L i)) → 0 ≤ totV L
 | [], _ => by rw [totV_nil]; exact Int.le_refl _
 | x :: L, h => by
  have := totV_nn (L := L) fun i => h (i + 1)
  have := (h 0).r.nn
  have e : totV (x :: L) = volS x + totV L := by unfold totV; rw [List.map_cons, List.sum_cons]
  have e2 : pA (x :: L) 0 = x := rfl
  rw [e2] at this
  omega
theorem totV_take_le {M : Int} : ∀ {L : List (List Pce)} (k : Nat), (∀ i, PcP M (pA L i)) → totV (L.take k) ≤ totV L
 | [], k, _ => by simp
 | x :: L, 0, h => by rw [List.take_zero, totV_nil]; exact totV_nn h
 | x :: L, k + 1, h => by
  have := totV_take_le (L := L) k fun i => h (i + 1)
  have e : ∀ L, totV (x :: L) = volS x + totV L := fun L => by unfold totV; rw [List.map_cons, List.sum_cons]
  rw [List.take_succ_cons, e, e]
  omega
theorem totV_mem {M : Int} {L : List (List Pce)} (h : ∀ i, PcP M (pA L i)) (i : Nat) : volS (pA L i) ≤ totV L := by
 by_cases hi : i < L.length
 ·have a := totV_take hi
  have b := totV_take_le (i + 1) h
  have c := totV_nn (L := L.take i) (M := M) fun k => by
   by_cases hk : k < i
   ·have : pA (L.take i) k = pA L k := by unfold pA; rw [List.getD_eq_getElem?_getD, List.getElem?_take, if_pos hk, List.getD_eq_getElem?_getD]
    rw [this]; exact h k
   ·rw [pA_out (by rw [List.length_take]; omega)]; exact PcP.nil M
  omega
 ·rw [pA_out (by omega), volS_nil]; exact totV_nn h
theorem totV_set {M : Int} : ∀ {L : List (List Pce)} (i : Nat) (x : List Pce), (∀ i, PcP M (pA L i)) → 0 ≤ volS x → totV (L.set i x) ≤ totV L + volS x
 | [], i, x, _, h0 => by rw [List.set_nil]; omega
 | y :: L, 0, x, h, h0 => by
  have := (h 0).r.nn
  have e : ∀ z, totV (z :: L) = volS z + totV L := fun L => by unfold totV; rw [List.map_cons, List.sum_cons]
  have e2 : pA (y :: L) 0 = y := rfl
  rw [e2] at this
  rw [List.set_cons_zero, e, e]
  omega
 | y :: L, i + 1, x, h, h0 => by
  have := totV_set (L := L) i x (fun i => h (i + 1)) h0
  have e : ∀ L, totV (y :: L) = volS y + totV L := fun L => by unfold totV; rw [List.map_cons, List.sum_cons]
  rw [List.set_cons_succ, e, e]
  omega
theorem rate_in {M n p fs fd} (h : TkM M n p fs fd) {k : Nat} (hk : k < n.segs.length) : -1000 ≤ iA p.rates k ∧ iA p.rates k ≤ 1000 := by
 have hv := fck0 h.ok.ck
 have hr := hv.rl
 have hm : (n.segs[k], p.rates[k]'(by omega)) ∈ n.segs.zip p.rates := by
  have : (n.segs.zip p.rates)[k]'(by rw [List.length_zip]; omega) = (n.segs[k], p.rates[k]'(by omega)) := List.getElem_zip
  rw [← this]
  exact List.getElem_mem _
 have a := withB_of (hv.rb _ hm)
 dsimp only at a
 rw [iA_at (by omega)] at a
 unfold most at a
 split at a <;> omega
theorem tkS_spec {M n p fs fd} (h : TkM M n p fs fd) (v : Int) {gv : List (List Pce)} (gl : gv.length = n.segs.length) (gp : ∀ i, PcP M (pA gv i)) {a : PS3} {A : Int} {I N : Nat} (ha : PSI M a A 0 I N) : ∀ k, k ≤ n.segs.length → PSI M (tkS n p gv v a k) (A + totV (gv.take k)) a.ix.length k k
 | 0, _ => ⟨ha.p, by rw [List.take_zero, totV_nil]; have := ha.v; show volS a.st ≤ _; omega, by have := ha.r; show a.ra.length = _ + 0; omega, ha.ra, Nat.le_refl _, fun x hx => by cases hx⟩
 | k + 1, hk => by
  have i := tkS_spec h v gl gp ha k (by omega)
  have hr := rate_in h (k := k) (by omega)
  have tt := totV_take (L := gv) (k := k) (by omega)
  have vn := (gp k).r.nn
  unfold tkS at i ⊢
  rw [range_fold]
  generalize (List.range k).foldl (tSeg n p gv v) ⟨a.st, a.ra, []⟩ = s at i
  have stay : PSI M s (A + totV (gv.take (k + 1))) a.ix.length (k + 1) (k + 1) := ⟨i.p, by have := i.v; omega, i.r, i.ra, Nat.le_succ_of_le i.il, fun x hx => Nat.lt_succ_of_lt (i.ix x hx)⟩
  unfold tSeg
  split
  ·exact stay
  ·rename_i hz
   split
   ·refine ⟨i.p.app (gp k), ?_, i.r, i.ra, Nat.le_succ_of_le i.il, fun x hx => Nat.lt_succ_of_lt (i.ix x hx)⟩
    have := i.v
    rw [volS_append]
    omega
   ·split
    ·refine ⟨i.p, stay.v, ?_, fun x hx => ?_, by have := i.il; simp; omega, fun x hx => ?_⟩
     ·have := i.r
      simp only [List.length_append, List.length_singleton]
      omega
     ·rcases List.mem_append.1 hx with hx | hx
      ·exact i.ra x hx
      ·rw [List.mem_singleton.1 hx]
       unfold absI
       split <;> omega
     ·rcases List.mem_append.1 hx with hx | hx
      ·exact Nat.lt_succ_of_lt (i.ix x hx)
      ·rw [List.mem_singleton.1 hx]; omega
    ·exact stay
theorem fold_nil {f : PS3 → Nat → PS3} {g : PS3 → Nat → Prop} (hm : ∀ s i, s.ra.length ≤ (f s i).ra.length) : ∀ (k : Nat) (s : PS3), ((List.range k).foldl f s).ra.length ≤ s.ra.length → ∀ i, i < k → (f ((List.range i).foldl f s) i).ra.length ≤ s.ra.length
 | k, s, h, i, hi => by
  have up : ∀ a b, a ≤ b → ((List.range a).foldl f s).ra.length ≤ ((List.range b).foldl f s).ra.length := fun a b hab => by
   induction b with
   | zero =>
        obtain rfl : a = 0 := by omega
        exact Nat.le_refl _
   | succ b ih =>
    by_cases e : a = b + 1
    ·subst e; exact Nat.le_refl _
    ·rw [range_fold]
     exact Nat.le_trans (ih (by omega)) (hm _ _)
  have := up (i + 1) k hi
  rw [range_fold] at this
  omega
theorem tPort_mono (n : Net) (p : Pln) (fd : List Int) (v : Int) (s : PS3) (i : Nat) : s.ra.length ≤ (tPort n p fd v s i).ra.length := by
 unfold tPort
 split
 ·exact Nat.le_refl _
 ·split
  ·simp
  ·exact Nat.le_refl _
theorem tSeg_mono (n : Net) (p : Pln) (gv : List (List Pce)) (v : Int) (s : PS3) (i : Nat) : s.ra.length ≤ (tSeg n p gv v s i).ra.length := by
 unfold tSeg
 split
 ·exact Nat.le_refl _
 ·split
  ·exact Nat.le_refl _
  ·split
   ·simp
   ·exact Nat.le_refl _
theorem zip_flow {n : Net} {p : Pln} (hv : PlnV n p) {t : Fl} (ht : t ∈ flowsOf n p) : (∃ i, i < n.segs.length ∧ t = segFl (sgT n i) (iA p.rates i)) ∨ ∃ i, i < n.ports.length ∧ t = portFl (ptT n i) (iA p.ports i) := by
 have hr := hv.rl
 have hp := hv.pl
 rcases List.mem_append.1 ht with h | h
 ·obtain ⟨i, hi, rfl⟩ := List.getElem_of_mem h
  rw [List.length_zipWith] at hi
  exact .inl ⟨i, by omega, by rw [List.getElem_zipWith, sg_at, iA_at]⟩
 ·obtain ⟨i, hi, rfl⟩ := List.getElem_of_mem h
  rw [List.length_zipWith] at hi
  exact .inr ⟨i, by omega, by rw [List.getElem_zipWith, pt_at', iA_at]⟩
theorem sumI_zero_all {α : Type} {f : α → Int} : ∀ {l : List α}, (∀ x ∈ l, 0 ≤ f x) → sumI f l = 0 → ∀ x ∈ l, f x = 0
 | y :: l, h, h0, x, hx => by
  have a := h y (List.mem_cons_self ..)
  have b := sumI_nn (f := f) (l := l) fun z hz => h z (List.mem_cons_of_mem _ hz)
  rw [sumI] at h0
  rcases List.mem_cons.1 hx with rfl | hx
  ·omega
  ·exact sumI_zero_all (fun z hz => h z (List.mem_cons_of_mem _ hz)) (by omega) x hx
theorem node_nil {M n p fs fd} (h : TkM M n p fs fd) {v : Nat} (hv : v < 24) (gv : List (List Pce)) (h0 : (tkS n p gv v (tkP n p fd v n.ports.length) n.segs.length).ra = []) : (tkS n p gv v (tkP n p fd v n.ports.length) n.segs.length).st = [] := by
 have hV := fck0 h.ok.ck
 have l0 : (tkS n p gv v (tkP n p fd v n.ports.length) n.segs.length).ra.length ≤ 0 := by rw [h0]; exact Nat.le_refl _
 have l1 : (tkP n p fd v n.ports.length).ra.length ≤ 0 := by
  have up : ∀ k, (tkP n p fd v n.ports.length).ra.length ≤ (tkS n p gv v (tkP n p fd v n.ports.length) k).ra.length := fun k => by
   induction k with
   | zero => exact Nat.le_refl _
   | succ k ih => unfold tkS at ih ⊢; rw [range_fold]; exact Nat.le_trans ih (tSeg_mono ..)
  exact Nat.le_trans (up _) l0
 have e1 := fold_nil (f := tPort n p fd v) (g := fun _ _ => True) (tPort_mono n p fd v) n.ports.length ⟨[], [], []⟩ l1
 have e2 := fold_nil (f := tSeg n p gv v) (g := fun _ _ => True) (tSeg_mono n p gv v) n.segs.length ⟨(tkP n p fd v n.ports.length).st, (tkP n p fd v n.ports.length).ra, []⟩ (by have := l0; unfold tkS at this; omega)
 have lp : ∀ i, i < n.ports.length → ¬ ((ptT n i).node = (v : Int) ∧ iA p.ports i < 0) := fun i hi hc => by
  have := e1 i hi
  unfold tPort at this
  rw [if_neg (by omega), if_pos hc, List.length_append] at this
  simp at this
 have ls : ∀ i, i < n.segs.length → iA p.rates i ≠ 0 → frOf (sgT n i, iA p.rates i) ≠ (v : Int) := fun i hi hz hc => by
  have := e2 i hi
  have hne := hV.net.se (sgT n i) (by rw [← sg_at hi]; exact List.getElem_mem _)
  have ht : ¬ toOf (sgT n i, iA p.rates i) = (v : Int) := by
   unfold frOf at hc
   unfold toOf
   dsimp only at hc ⊢
   split at hc <;> simp_all <;> omega
  unfold tSeg at this
  rw [if_neg hz, if_neg ht, if_pos hc] at this
  simp at this
  omega
 have lv : sumI (leaveOf (v : Int)) (flowsOf n p) = 0 := sumI_zero fun t ht => by
  rcases zip_flow hV ht with ⟨i, hi, rfl⟩ | ⟨i, hi, rfl⟩
  ·have := ls i hi
   unfold leaveOf segFl
   unfold frOf at this
   dsimp only at this ⊢
   by_cases hz : iA p.rates i = 0
   ·rw [hz]; simp
   ·have := this hz
    split <;> rename_i c
    ·rw [if_pos c] at this; rw [if_neg this]
    ·rw [if_neg c] at this; rw [if_neg this]
  ·have := lp i hi
   unfold leaveOf portFl
   dsimp only
   split
   ·rw [if_neg (by omega)]
   ·rw [if_neg (by omega)]
 have bal := (bal_iff _).1 hV.bal v hv
 have cs : sumI (comeOf (v : Int)) (flowsOf n p) = 0 := by
  have e := sumI_sub (comeOf (v : Int)) (leaveOf (v : Int)) (flowsOf n p)
  rw [sumI_congr fun t _ => come_leave (v : Int) t] at e
  omega
 have cz := sumI_zero_all (fun t _ => come_nn (v : Int) t) cs
 have cp : ∀ i, i < n.ports.length → ¬ ((ptT n i).node = (v : Int) ∧ 0 < iA p.ports i) := fun i hi hc => by
  have hm : portFl (ptT n i) (iA p.ports i) ∈ flowsOf n p := List.mem_append_right _ (by
   have hp := hV.pl
   rw [← pt_at' hi, ← iA_at (by omega)]
   have : (List.zipWith portFl n.ports p.ports)[i]'(by rw [List.length_zipWith]; omega) = portFl n.ports[i] (p.ports[i]'(by omega)) := List.getElem_zipWith
   rw [← this]
   exact List.getElem_mem _)
  have := cz _ hm
  unfold comeOf portFl at this
  dsimp only at this
  rw [if_neg (by omega), if_pos hc.1] at this
  omega
 have cS : ∀ i, i < n.segs.length → iA p.rates i ≠ 0 → toOf (sgT n i, iA p.rates i) ≠ (v : Int) := fun i hi hz hc => by
  have hm : segFl (sgT n i) (iA p.rates i) ∈ flowsOf n p := List.mem_append_left _ (by
   have hp := hV.rl
   rw [← sg_at hi, ← iA_at (by omega)]
   have : (List.zipWith segFl n.segs p.rates)[i]'(by rw [List.length_zipWith]; omega) = segFl n.segs[i] (p.rates[i]'(by omega)) := List.getElem_zipWith
   rw [← this]
   exact List.getElem_mem _)
  have := cz _ hm
  unfold comeOf segFl at this
  unfold toOf at hc
  dsimp only at this hc
  split at this <;> rename_i c
  ·rw [if_pos c] at hc; rw [if_pos hc] at this; omega
  ·rw [if_neg c] at hc; rw [if_pos hc] at this; omega
 have sA : ∀ k, k ≤ n.ports.length → (tkP n p fd v k).st = [] := fun k => by
  induction k with
  | zero => intro _; rfl
  | succ k ih =>
   intro hk
   have := ih (by omega)
   unfold tkP at this ⊢
   rw [range_fold]
   unfold tPort
   rw [if_neg (cp k (by omega))]
   split <;> exact this
 have sB : ∀ k, k ≤ n.segs.length → (tkS n p gv v (tkP n p fd v n.ports.length) k).st = [] := fun k => by
  induction k with
  | zero => intro _; exact sA _ (Nat.le_refl _)
  | succ k ih =>
   intro hk
   have := ih (by omega)
   unfold tkS at this ⊢
   rw [range_fold]
   unfold tSeg
   split
   ·exact this
   ·rename_i hz
    rw [if_neg (cS k (by omega) hz)]
    split <;> exact this
 exact sB _ (Nat.le_refl _)
theorem tOut_len (de : List (List Pce)) (ix : List Nat) (P : List (List Pce)) : ∀ k, (tOut de ix P k).length = P.length
 | 0 => rfl
 | k + 1 => by
  have := tOut_len de ix P k
  unfold tOut at this ⊢
  rw [range_fold, List.length_set]
  exact this
theorem ixA {ix : List Nat} {N k : Nat} (h : ∀ x, x ∈ ix → x < N) (hk : k < ix.length) : ix.getD k 0 < N := by
 rw [List.getD_eq_getElem?_getD, List.getElem?_eq_getElem hk]
 exact h _ (List.getElem_mem hk)
theorem pA_drop (L : List (List Pce)) (a k : Nat) : pA (L.drop a) k = pA L (a + k) := by
 unfold pA
 rw [List.getD_eq_getElem?_getD, List.getElem?_drop, List.getD_eq_getElem?_getD]
theorem totV_drop {M : Int} : ∀ {L : List (List Pce)} (a : Nat), (∀ i, PcP M (pA L i)) → totV (L.drop a) ≤ totV L
 | [], a, _ => by simp
 | x :: L, 0, _ => Int.le_refl _
 | x :: L, a + 1, h => by
  have := totV_drop (L := L) a fun i => h (i + 1)
  have n0 := (h 0).r.nn
  have e2 : pA (x :: L) 0 = x := rfl
  rw [e2] at n0
  have e : totV (x :: L) = volS x + totV L := by unfold totV; rw [List.map_cons, List.sum_cons]
  rw [List.drop_succ_cons, e]
  omega
theorem tPush_spec {M B : Int} {n : Net} {p : Pln} {fs fd} (h : TkM M n p fs fd) {s : TS} (hs : TkI M B n s) {de : List (List Pce)} {lp k : Nat} {ix : List Nat} (hd : ∀ i, PcP M (pA de i)) (hv : volS (pA de (lp + k)) ≤ 1000000000) (hi : ix.getD k 0 < n.segs.length) : TkI M (B + volS (pA de (lp + k))) n (tPush p de lp ix s k) := by
 unfold tPush
 dsimp only
 generalize ix.getD k 0 = i at hi
 generalize decide (iA p.rates i < 0) = b
 have hx := hd (lp + k)
 generalize pA de (lp + k) = x at hx hv
 have hy : ∃ y, (if b = true then x else x.reverse) = y ∧ PcP M y ∧ volS y = volS x := ⟨_, rfl, by split; exact hx; exact hx.rev, by split; rfl; exact volS_rev x⟩
 obtain ⟨y, ey, y1, y2⟩ := hy
 rw [ey]
 obtain ⟨⟨n1, n2⟩, n3⟩ := hs.nx i hi
 have hc := h.cp i hi
 obtain ⟨⟨a1, a2⟩, a3, a4⟩ := shift_spec n1 y1 b (by omega) (by omega)
 generalize shiftL (pA s.nxt i) y b = sh at a1 a2 a3 a4
 have hz : ∃ z, (if b = true then sh.2 else sh.2.reverse) = z ∧ PcP M z ∧ volS z = volS x := ⟨_, rfl, by split; exact a3; exact a3.rev, by split; omega; rw [volS_rev]; omega⟩
 obtain ⟨z, ez, z1, z2⟩ := hz
 rw [ez]
 refine ⟨by rw [List.length_set]; exact hs.nl, by rw [List.length_set]; exact hs.gl, hs.pl, fun j hj => ?_, fun j => ?_, ?_⟩
 ·dsimp only
  rw [pA_set _ _ _ _ (by rw [hs.nl]; exact hi)]
  split
  ·rename_i e; subst e; exact ⟨a1, by omega⟩
  ·exact hs.nx j hj
 ·dsimp only
  rw [pA_set _ _ _ _ (by rw [hs.gl]; exact hi)]
  split
  ·exact z1
  ·exact hs.gp j
 ·dsimp only
  have := totV_set i z hs.gp z1.r.nn
  have := hs.gb
  omega
theorem tPushs_spec {M B : Int} {n : Net} {p : Pln} {fs fd} (h : TkM M n p fs fd) {s : TS} (hs : TkI M B n s) {de : List (List Pce)} {lp : Nat} {ix : List Nat} (hd : ∀ i, PcP M (pA de i)) (hv : totV de ≤ 1000000000) (hi : ∀ x, x ∈ ix → x < n.segs.length) (hl : lp + ix.length ≤ de.length) : ∀ k, k ≤ ix.length → TkI M (B + totV ((de.drop lp).take k)) n (tPushs p de lp ix s k)
 | 0, _ => by rw [List.take_zero, totV_nil, Int.add_zero]; exact hs
 | k + 1, hk => by
  have a := tPushs_spec h hs hd hv hi hl k (by omega)
  have e : totV ((de.drop lp).take (k + 1)) = totV ((de.drop lp).take k) + volS (pA de (lp + k)) := by rw [totV_take (by rw [List.length_drop]; omega), pA_drop]
  have b := tPush_spec h a (lp := lp) (k := k) (ix := ix) hd (by have := totV_mem hd (lp + k); omega) (ixA hi (by omega))
  unfold tPushs at b ⊢
  rw [range_fold, e, ← Int.add_assoc]
  exact b
structure NdOk (M : Int) (n : Net) (p : Pln) (fd : List Int) (B : Int) (s : TS) (v : Nat) : Prop where
 a : PSI M (tkP n p fd v n.ports.length) 6000 0 n.ports.length n.ports.length
 b : PSI M (tkS n p s.gv v (tkP n p fd v n.ports.length) n.segs.length) (6000 + B) (tkP n p fd v n.ports.length).ix.length n.segs.length n.segs.length
 q : PcP M (joined (tkS n p s.gv v (tkP n p fd v n.ports.length) n.segs.length).st)
 qv : volS (joined (tkS n p s.gv v (tkP n p fd v n.ports.length) n.segs.length).st) ≤ 6000 + B
 sl : (tkS n p s.gv v (tkP n p fd v n.ports.length) n.segs.length).st.length ≤ 1000000
 hn : (joined (tkS n p s.gv v (tkP n p fd v n.ports.length) n.segs.length).st).length ≠ 0 → HnOk (joined (tkS n p s.gv v (tkP n p fd v n.ports.length) n.segs.length).st) (tkS n p s.gv v (tkP n p fd v n.ports.length) n.segs.length).ra
theorem node_ok {M B : Int} {n : Net} {p : Pln} {fs fd} (h : TkM M n p fs fd) {s : TS} (hs : TkI M B n s) (hB : B ≤ 900000) {v : Nat} (hv : v < 24) : NdOk M n p fd B s v := by
 have hql := h.ok.ql
 have hsl := h.ok.sl
 have a := tkP_spec h v n.ports.length (Nat.le_refl _)
 have a' : PSI M (tkP n p fd v n.ports.length) 6000 0 n.ports.length n.ports.length := ⟨a.p, by have := a.v; omega, a.r, a.ra, a.il, a.ix⟩
 have b := tkS_spec h v hs.gl hs.gp a' n.segs.length (Nat.le_refl _)
 have hg := hs.gb
 have ht := totV_take_le n.segs.length hs.gp
 have b' : PSI M (tkS n p s.gv v (tkP n p fd v n.ports.length) n.segs.length) (6000 + B) (tkP n p fd v n.ports.length).ix.length n.segs.length n.segs.length := ⟨b.p, by have := b.v; omega, b.r, b.ra, b.il, b.ix⟩
 have bv := b'.v
 obtain ⟨⟨q1, q2⟩, q3⟩ := joined_spec b'.p.r (by omega)
 have sl := b'.p.len
 have ql := q1.len
 refine ⟨a', b', q1, by omega, by omega, fun hne => ⟨by omega, ?_, ?_, fun x hx => ?_⟩⟩
 ·have := b'.r
  have := b'.il
  have := a'.il
  omega
 ·have nn : (tkS n p s.gv v (tkP n p fd v n.ports.length) n.segs.length).ra ≠ [] := fun e => by
   have := node_nil h hv s.gv e
   rw [this] at hne
   exact hne rfl
  refine ⟨0, List.length_pos_iff.2 nn, ?_⟩
  have := b'.ra _ (List.getElem_mem (List.length_pos_iff.2 nn))
  rw [iA_at (List.length_pos_iff.2 nn)] at this
  omega
 ·have := q1.r.le x hx
  omega
theorem tNode_spec {M B : Int} {n : Net} {p : Pln} {fs fd} (h : TkM M n p fs fd) {s : TS} (hs : TkI M B n s) (hB : B ≤ 900000) (hB0 : 0 ≤ B) {v : Nat} (hv : v < 24) : TkI M (2 * B + 6000) n (tNode n p fd s v) := by
 have k := node_ok h hs hB hv
 unfold tNode
 dsimp only
 split
 ·exact ⟨hs.nl, hs.gl, hs.pl, hs.nx, hs.gp, by have := hs.gb; dsimp only; omega⟩
 ·rename_i hne
  have hn := k.hn hne
  have qv := k.qv
  obtain ⟨d1, d2, d3⟩ := hand_spec hn.pos k.q.r (by omega)
  have br := k.b.r
  have h2 : TkI M B n ⟨s.nxt, tOut (handL (joined (tkS n p s.gv v (tkP n p fd v n.ports.length) n.segs.length).st) (tkS n p s.gv v (tkP n p fd v n.ports.length) n.segs.length).ra) (tkP n p fd v n.ports.length).ix s.prt (tkP n p fd v n.ports.length).ix.length, s.gv, s.lng || decide (200 < (joined (tkS n p s.gv v (tkP n p fd v n.ports.length) n.segs.length).st).length)⟩ := ⟨hs.nl, hs.gl, by dsimp only; rw [tOut_len]; exact hs.pl, hs.nx, hs.gp, hs.gb⟩
  have r := tPushs_spec h h2 d2 (by omega) k.b.ix (lp := (tkP n p fd v n.ports.length).ix.length) (by omega) _ (Nat.le_refl _)
  have t1 := totV_take_le (M := M) (L := (handL (joined (tkS n p s.gv v (tkP n p fd v n.ports.length) n.segs.length).st) (tkS n p s.gv v (tkP n p fd v n.ports.length) n.segs.length).ra).drop (tkP n p fd v n.ports.length).ix.length) (tkS n p s.gv v (tkP n p fd v n.ports.length) n.segs.length).ix.length (fun i => by rw [pA_drop]; exact d2 _)
  have t2 := totV_drop (tkP n p fd v n.ports.length).ix.length d2
  exact ⟨r.nl, r.gl, r.pl, r.nx, r.gp, by have := r.gb; omega⟩
def bndT : Nat → Int
 | 0 => 0
 | j + 1 => 2 * bndT j + 6000
theorem bndT_le (j : Nat) (h : j ≤ 6) : 0 ≤ bndT j ∧ bndT j ≤ 378000 := by
 match j, h with
 | 0, _ => decide
 | 1, _ => decide
 | 2, _ => decide
 | 3, _ => decide
 | 4, _ => decide
 | 5, _ => decide
 | 6, _ => decide
theorem ordB_in {M n p fs fd} (h : TkM M n p fs fd) : (ordB n p).length = n.nodes.length ∧ ∀ v, v ∈ ordB n p → v < n.nodes.length := by
 have hv := fck0 h.ok.ck
 obtain ⟨th, hi, _⟩ := ord_inv hv.ord.2.2.2
 have e : ordL (n.segs.zip p.rates) n.nodes.length (List.replicate n.nodes.length false) [] = ordB n p := rfl
 rw [e] at hi
 exact ⟨by have := hv.all; have := hi.cnt; omega, fun v hv => hi.lt hv⟩
theorem tInit_spec {M n p fs fd} (h : TkM M n p fs fd) : TkI M 0 n (tInit n fs) := by
 have hfl := h.ok.fl
 refine ⟨hfl, by unfold tInit; simp [hfl], by unfold tInit; simp, fun i hi => ⟨h.fm i hi, ?_⟩, fun i => by unfold tInit; dsimp only; rw [pA_rep]; exact PcP.nil M, ?_⟩
 ·obtain ⟨v1, v2⟩ := h.ok.fv i hi
  have l := fl_len v1
  rw [sg_at hi] at v2
  have hp := (h.fm i hi).1
  have e : pA (tInit n fs).nxt i = fA fs i := rfl
  rw [e, ← v2]
  -- the pieces of a fill are at most a million in all
  unfold flV at v1
  rw [if_neg (by omega)] at v1
  have hb : (List.range (fA fs i).length).any (pcBad (fA fs i)) = false := by
   cases hh : (List.range (fA fs i).length).any (pcBad (fA fs i)) with
   | false => rfl
   | true => rw [hh] at v1; simp at v1
  have each : ∀ x, x ∈ fA fs i → x.vo ≤ 1000000 := fun x hx => by
   obtain ⟨m, hm, rfl⟩ := List.getElem_of_mem hx
   rw [List.any_eq_false] at hb
   have := hb m (List.mem_range.2 hm)
   unfold pcBad litB at this
   rw [pc_at hm]
   simp at this
   omega
  have bd : ∀ l : List Pce, PcP M l → (∀ x, x ∈ l → x.vo ≤ 1000000) → volS l ≤ 1000000 * (l.length : Int) := fun l => by
   induction l with
   | nil => intro _ _; rw [volS_nil]; simp
   | cons y l ih =>
    intro h1 h2
    have := ih h1.tail fun x hx => h2 x (List.mem_cons_of_mem _ hx)
    have := h2 y (List.mem_cons_self ..)
    rw [volS_cons, List.length_cons]
    omega
  have := bd _ hp each
  exact (hp.w (by omega)).symm
 ·unfold tInit totV
  dsimp only
  rw [List.map_replicate, volS_nil]
  have : ∀ k : Nat, (List.replicate k (0 : Int)).sum = 0 := fun k => by induction k with
   | zero => rfl
   | succ k ih => rw [List.replicate_succ, List.sum_cons, ih]; rfl
  rw [this]
  exact Int.le_refl _
theorem tRun_spec {M n p fs fd} (h : TkM M n p fs fd) : ∀ j, j ≤ (ordB n p).length → TkI M (bndT j) n (tRun n p fs fd j)
 | 0, _ => tInit_spec h
 | j + 1, hj => by
  obtain ⟨o1, o2⟩ := ordB_in h
  have hnl := h.ok.nl
  have hN := (fck0 h.ok.ck).net.nl
  have a := tRun_spec h j (by omega)
  obtain ⟨b0, b1⟩ := bndT_le j (by omega)
  have m : (ordB n p)[j]'(by omega) < n.nodes.length := o2 _ (List.getElem_mem _)
  have k := tNode_spec h a (by omega) b0 (v := (ordB n p)[j]'(by omega)) (by omega)
  unfold tRun at k ⊢
  rw [List.take_add_one, List.getElem?_eq_getElem (by omega), List.foldl_append]
  exact k
def rnm (i j k : Nm) : Nm := if k = i then j else k
mutual
def D.ren (i j : Nm) : D → D
 | .v x => .v x
 | .any => .any
 | .agg cs => .agg (renDs i j cs)
 | .tup cs => .tup (renDs i j cs)
 | .sl l => .sl l
 | .ip f => .ip f
 | .mt => .mt
 | .own k g off n => .own (rnm i j k) g off n
 | .ptr k g r c => .ptr (rnm i j k) g r c
 | .clo f fs cs => .clo f (renDs i j fs) (renDs i j cs)
def renDs (i j : Nm) : List D → List D
 | [] => []
 | d :: ds => d.ren i j :: renDs i j ds
end
theorem renDs_map (i j : Nm) : ∀ l : List D, renDs i j l = l.map (D.ren i j)
 | [] => by rw [renDs]; rfl
 | d :: l => by rw [renDs, renDs_map i j l]; rfl
def En.ren (i j : Nm) (e : En) : En := ⟨e.g, e.sz, e.rows.map (renDs i j)⟩
def Hp.ren (i j : Nm) (H : Hp) : Hp := fun k => if k = j then (match H i with | some e => some (e.ren i j) | Option.none => Option.none) else if k = i then Option.none else (match H k with | some e => some (e.ren i j) | Option.none => Option.none)
theorem ren_plain {Im : Nat → Prop} {h : Array Obj} {d : D} {x : Value} (r : RelP Im h d x) (i j : Nm) : d.ren i j = d := by
 cases r <;> rw [D.ren]
theorem hren_some {i j k : Nm} {H : Hp} {e : En} (hk : H k = some e) (hj : H j = Option.none) : (H.ren i j) (rnm i j k) = some (e.ren i j) := by
 unfold rnm Hp.ren
 by_cases h : k = i
 ·subst h
  rw [if_pos rfl, if_pos rfl, hk]
 ·rw [if_neg h, if_neg (fun e' => by rw [e', hj] at hk; cases hk), if_neg h, hk]
theorem prn {p : Pl} {i j k : Nm} {H : Hp} {e : En} (hk : H k = some e) (hj : H j = Option.none) : (p.put j (p i)) (rnm i j k) = p k := by
 unfold rnm
 by_cases h : k = i
 ·subst h
  rw [if_pos rfl, Pl.put_same]
 ·rw [if_neg h, Pl.put_other _ (fun e' => by rw [e', hj] at hk; cases hk)]
theorem Rel.ren {Im : Nat → Prop} {p : Pl} {H : Hp} {h : Array Obj} {d : D} {x : Value} (i j : Nm) (hj : H j = Option.none) (r : Rel Im p H h d x) : Rel Im (p.put j (p i)) (H.ren i j) h (d.ren i j) x := by
 induction r with
 | p r => rw [ren_plain r]; exact .p r
 | agg cs us hl h1 hr ih =>
  rw [D.ren, renDs_map]
  refine .agg _ us (by simpa using hl) h1 fun m d u hd hu => ?_
  rw [List.getElem?_map] at hd
  cases e : cs[m]? with
  | none => rw [e] at hd; cases hd
  | some d' => rw [e] at hd; cases hd; exact ih m d' u e hu
 | tup cs us hl hr ih =>
  rw [D.ren, renDs_map]
  refine .tup _ us (by simpa using hl) fun m d u hd hu => ?_
  rw [List.getElem?_map] at hd
  cases e : cs[m]? with
  | none => rw [e] at hd; cases hd
  | some d' => rw [e] at hd; cases hd; exact ih m d' u e hu
 | ip f b o u him hcell hr => rw [D.ren]; exact .ip f b o u him hcell hr
 | own k g off n a cap e hH hg hn hl =>
  rw [D.ren]
  refine .own _ g off n a cap _ (hren_some hH hj) hg hn fun hge hc => ?_
  obtain ⟨q1, q2, c, t, q3, q4⟩ := hl hge hc
  rw [prn hH hj]
  exact ⟨q1, by simpa [En.ren] using q2, c, t, q3, q4⟩
 | ptr k g r c x h1 e hH hg hx =>
  rw [D.ren]
  refine .ptr _ g r c x h1 _ (hren_some hH hj) hg fun hge => ?_
  rw [prn hH hj]
  exact hx hge
 | clo f fs cs us vs hl hl' hr hr' ih ih' =>
  rw [D.ren, renDs_map, renDs_map]
  refine .clo f _ _ us vs (by simpa using hl) (by simpa using hl') (fun m d u hd hu => ?_) fun m d u hd hu => ?_
  ·rw [List.getElem?_map] at hd
   cases e : fs[m]? with
   | none => rw [e] at hd; cases hd
   | some d' => rw [e] at hd; cases hd; exact ih m d' u e hu
  ·rw [List.getElem?_map] at hd
   cases e : cs[m]? with
   | none => rw [e] at hd; cases hd
   | some d' => rw [e] at hd; cases hd; exact ih' m d' u e hu
theorem hren_inv {i j k : Nm} {H : Hp} {e : En} (hj : H j = Option.none) (hk : (H.ren i j) k = some e) : ∃ k' e', H k' = some e' ∧ k = rnm i j k' ∧ e = e'.ren i j := by
 unfold Hp.ren at hk
 split at hk
 ·rename_i h
  split at hk
  ·rename_i e' h'
   cases hk
   exact ⟨i, e', h', by unfold rnm; rw [if_pos rfl, h], rfl⟩
  ·cases hk
 ·rename_i h
  split at hk
  ·cases hk
  ·rename_i h2
   split at hk
   ·rename_i e' h'
    cases hk
    exact ⟨k, e', h', by unfold rnm; rw [if_neg h2], rfl⟩
   ·cases hk
theorem RowsAt.ren {Im : Nat → Prop} {p : Pl} {H : Hp} {h : Array Obj} {c : Array Value} {s sz : Nat} {rows : List (List D)} (i j : Nm) (hj : H j = Option.none) (r : RowsAt Im p H h c s sz rows) : RowsAt Im (p.put j (p i)) (H.ren i j) h c s sz (rows.map (renDs i j)) := by
 refine ⟨fun x hx => ?_, by rw [List.length_map]; exact r.le, fun a b row d ha hb => ?_⟩
 ·obtain ⟨y, hy, rfl⟩ := List.mem_map.1 hx
  rw [renDs_map, List.length_map]
  exact r.len y hy
 ·rw [List.getElem?_map] at ha
  cases e : rows[a]? with
  | none => rw [e] at ha; cases ha
  | some row' =>
   rw [e] at ha
   cases ha
   rw [renDs_map, List.getElem?_map] at hb
   cases e2 : row'[b]? with
   | none => rw [e2] at hb; cases hb
   | some d' =>
    rw [e2] at hb
    cases hb
    obtain ⟨u, u1, u2, u3⟩ := r.cell a b row' d' e e2
    exact ⟨u, u1, u2.ren i j hj, u3⟩
theorem weak_ren {J : List Nm} {F : Fr} {H : Hp} (i j : Nm) (hj : H j = Option.none) (hJ : i ∉ J) : Weak J ⟨F, H⟩ ⟨fun t => (F t).ren i j, H.ren i j⟩ := by
 intro E hE Im p a w hR
 have hni : ∀ {k k' e e'}, H k = some e → H k' = some e' → rnm i j k = rnm i j k' → k = k' := fun {k k' e e'} hk hk' h => by
  have nk : k ≠ j := fun h' => by rw [h', hj] at hk; cases hk
  have nk' : k' ≠ j := fun h' => by rw [h', hj] at hk'; cases hk'
  unfold rnm at h
  split at h <;> split at h
  ·rename_i h1 h2; rw [h1, h2]
  ·exact absurd h.symm nk'
  ·exact absurd h nk
  ·exact h
 refine ⟨Im, p.put j (p i), hR.sz, fun t => (hR.fr t).ren i j hj, ⟨fun k e hk hn => ?_, fun k l e e' hk hl nk nl hkl => ?_, hR.hp.im⟩, ⟨hR.en.os, hR.en.tape, hR.en.output, hR.en.size, hR.en.block, hR.en.im, hR.en.im', fun k e hk hn => ?_⟩, ⟨hR.gr.im, hR.gr.blk, fun k e hk => ?_⟩, hR.df⟩
 ·obtain ⟨k', e', h1, rfl, rfl⟩ := hren_inv hj hk
  have hn' : e'.rows ≠ [] := fun h => hn (by simp [En.ren, h])
  obtain ⟨c, t, q1, q2, q3⟩ := hR.hp.cell k' e' h1 hn'
  rw [prn h1 hj]
  exact ⟨c, t, q1, q2, q3.ren i j hj⟩
 ·obtain ⟨k', e1, h1, rfl, rfl⟩ := hren_inv hj hk
  obtain ⟨l', e2, h2, rfl, rfl⟩ := hren_inv hj hl
  rw [prn h1 hj, prn h2 hj]
  exact hR.hp.inj k' l' e1 e2 h1 h2 (fun h => nk (by simp [En.ren, h])) (fun h => nl (by simp [En.ren, h])) (fun h => hkl (by rw [h]))
 ·obtain ⟨k', e', h1, rfl, rfl⟩ := hren_inv hj hk
  rw [prn h1 hj]
  exact hR.en.ids k' e' h1 (fun h => hn (by simp [En.ren, h]))
 ·obtain ⟨e', h1, h2, h3⟩ := hR.gr.ids k e hk
  have hki : k ≠ i := fun h => hJ (h ▸ hE k e hk)
  have ek : rnm i j k = k := by unfold rnm; rw [if_neg hki]
  have hs := hren_some (i := i) h1 hj
  have hp := prn (p := p) (i := i) h1 hj
  rw [ek] at hs hp
  refine ⟨_, hs, h2, fun he => ?_⟩
  obtain ⟨q1, q2, q3⟩ := h3 he
  rw [hp]
  exact ⟨q1, q2, fun hn => ⟨by simpa [En.ren] using (q3 hn).1, (q3 hn).2⟩⟩
def D.nil : D → D
 | .mt => .sl []
 | d => d
theorem Rel.nil {Im : Nat → Prop} {p : Pl} {H : Hp} {h : Array Obj} {d : D} {x : Value} (r : Rel Im p H h d x) : Rel Im p H h d.nil x := by
 cases d with
 | mt =>
  cases r with
  | p r =>
   cases r with
   | mt a => exact .p (.sl0 a 0)
 | _ => exact r
theorem weak_nil {J : List Nm} {F : Fr} {H : Hp} (j : Nm) (g sz : Nat) (rows : List (List D)) (hj : H j = some ⟨g, sz, rows⟩) : Weak J ⟨F, H⟩ ⟨F, H.put j ⟨g, sz, rows.map fun r => r.map D.nil⟩⟩ := by
 intro E hE Im p a w hR
 have hne : (rows.map fun r => r.map D.nil) ≠ [] → rows ≠ [] := fun h h' => h (by rw [h']; rfl)
 have T : Turn Im p H w.heap j ⟨g, sz, rows⟩ ⟨g, sz, rows.map fun r => r.map D.nil⟩ (p j) w.heap := by
  refine ⟨.inl hj, .inr (.inr ⟨rfl, rfl, rfl, fun hn => ?_⟩), fun _ _ _ => rfl, Nat.le_refl _, fun h => .inl ⟨hne h, rfl⟩, fun h => ?_⟩
  ·obtain ⟨c, t, k1, _⟩ := hR.hp.cell j _ hj hn
   exact ⟨by simpa using hn, c, t, c, k1, k1, rfl⟩
  ·obtain ⟨c, t, k1, _, k2⟩ := hR.hp.cell j _ hj (hne h)
   refine ⟨c, t, k1, fun r hr => ?_, by dsimp only; rw [List.length_map]; exact k2.le, fun r m row d hr hd => ?_⟩
   ·obtain ⟨y, hy, rfl⟩ := List.mem_map.1 hr
    rw [List.length_map]
    exact k2.len y hy
   ·rw [List.getElem?_map] at hr
    cases e : rows[r]? with
    | none => rw [e] at hr; cases hr
    | some row' =>
     rw [e] at hr
     cases hr
     rw [List.getElem?_map] at hd
     cases e2 : row'[m]? with
     | none => rw [e2] at hd; cases hd
     | some d' =>
      rw [e2] at hd
      cases hd
      obtain ⟨u, u1, u2, u3⟩ := k2.cell r m row' d' e e2
      exact ⟨u, u1, u2.nil, u3⟩
 have ep : p.put j (p j) = p := by funext k; unfold Pl.put; split <;> simp_all
 have G := T.grows hR.hp
 have R1 := T.relH hR.hp
 have X1 := T.relE hR.hp hR.en rfl rfl rfl
 rw [ep] at G R1 X1
 exact ⟨Im, p, hR.sz, fun k => (hR.fr k).mono G, R1, X1, hR.gr.trans G, hR.df⟩
theorem hren_at (i j k : Nm) (H : Hp) : (H.ren i j) k = if k = j then (match H i with | some e => some (e.ren i j) | Option.none => Option.none) else if k = i then Option.none else (match H k with | some e => some (e.ren i j) | Option.none => Option.none) := rfl
end Go.Proofs.YtehmmnnmkapfeaaDoor
