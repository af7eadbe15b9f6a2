/- FlowAnswers: Fl2 CodeF. -/
import Derived.Test.YtkjibmfggeibjaaFaG9
import Derived.Test.YtkjibmfggeibjaaFaG3
import Derived.Test.YtkjibmfggeibjaaProg

/- The order of flow. -/
namespace Go.Proofs.Ytkjibmfggeibjaa
open Go
set_option linter.unusedVariables false
set_option linter.unusedSimpArgs false
set_option maxRecDepth 100000

def frOf (x : Seg × Int) : Int := if x.2 < 0 then x.1.to else x.1.fr
def toOf (x : Seg × Int) : Int := if x.2 < 0 then x.1.fr else x.1.to
theorem blk_eq (th : List Bool) (k : Nat) (x : Seg × Int) : blk th k x = true ↔ x.2 ≠ 0 ∧ toOf x = k ∧ th.getD (frOf x).toNat false = false := by
  unfold blk
  by_cases h : x.2 = 0
  · rw [if_pos (beq_iff_eq.2 h)]
    simp [h]
  · rw [if_neg (fun e => h (beq_iff_eq.1 e))]
    by_cases h2 : toOf x = (k : Int)
    · have h3 : ((if x.2 < 0 then x.1.fr else x.1.to) == (k : Int)) = true := beq_iff_eq.2 h2
      rw [if_pos h3]
      simp [h, h2, frOf]
    · have h3 : ¬ ((if x.2 < 0 then x.1.fr else x.1.to) == (k : Int)) = true := fun e => h2 (beq_iff_eq.1 e)
      rw [if_neg h3]
      simp [h2]
theorem pick_iff (E : List (Seg × Int)) (th : List Bool) (k : Nat) : pickB E th k = true ↔ th.getD k true = false ∧ ∀ x ∈ E, x.2 ≠ 0 → toOf x = k → th.getD (frOf x).toNat false = true := by
  unfold pickB
  split
  · rename_i h; simp at h ⊢; simp [h]
  · rename_i h
    constructor
    · intro ha
      refine ⟨by simpa using h, fun x hx h1 h2 => ?_⟩
      cases h3 : th.getD (frOf x).toNat false with
      | true => rfl
      | false =>
        have := List.any_eq_true.2 ⟨x, hx, (blk_eq th k x).2 ⟨h1, h2, h3⟩⟩
        rw [this] at ha
        cases ha
    · rintro ⟨h1, h2⟩
      have : E.any (blk th k) = false := by
        rw [List.any_eq_false]
        intro x hx hb
        obtain ⟨b1, b2, b3⟩ := (blk_eq th k x).1 hb
        rw [h2 x hx b1 b2] at b3
        cases b3
      rw [this]
      rfl
structure OrdInv (E : List (Seg × Int)) (N : Nat) (th : List Bool) (out : List Nat) : Prop where
  len : th.length = N
  mem : ∀ j, th.getD j false = true ↔ j ∈ out
  nd : out.Nodup
  cnt : cntF th + out.length = N
  good : ∀ q k : Nat, out[q]? = some k → ∀ x ∈ E, x.2 ≠ 0 → toOf x = (k : Int) → ∃ q' k' : Nat, q' < q ∧ out[q']? = some k' ∧ frOf x = (k' : Int)
def EdgeIn (E : List (Seg × Int)) (N : Nat) : Prop := ∀ x ∈ E, (0 ≤ x.1.fr ∧ x.1.fr < N) ∧ 0 ≤ x.1.to ∧ x.1.to < N
theorem fr_in {E : List (Seg × Int)} {N : Nat} (h : EdgeIn E N) {x : Seg × Int} (hx : x ∈ E) : 0 ≤ frOf x ∧ frOf x < N := by
  have := h x hx
  unfold frOf
  split <;> omega
theorem OrdInv.lt {E : List (Seg × Int)} {N : Nat} {th : List Bool} {out : List Nat} (h : OrdInv E N th out) {j : Nat} (hj : j ∈ out) : j < N := by
  have := (h.mem j).2 hj
  rw [List.getD_eq_getElem?_getD] at this
  rcases Nat.lt_or_ge j th.length with h1 | h1
  · rw [← h.len]; exact h1
  · rw [List.getElem?_eq_none h1] at this; cases this
theorem OrdInv.step {E : List (Seg × Int)} {N : Nat} {th : List Bool} {out : List Nat} (h : OrdInv E N th out) (hE : EdgeIn E N) {k : Nat} (hk : pickB E th k = true) : OrdInv E N (th.set k true) (out ++ [k]) := by
  obtain ⟨h1, h2⟩ := (pick_iff E th k).1 hk
  have hs := getD_none h1
  have hkl : k < th.length := by
    rcases Nat.lt_or_ge k th.length with h | h
    · exact h
    · rw [List.getElem?_eq_none h] at hs; cases hs
  have hno : k ∉ out := fun hm => by
    have := (h.mem k).2 hm
    rw [List.getD_eq_getElem?_getD, hs] at this
    cases this
  refine ⟨by rw [List.length_set]; exact h.len, fun j => ?_, ?_, ?_, fun q j hj x hx hr ht => ?_⟩
  · rw [List.getD_eq_getElem?_getD, List.getElem?_set, List.mem_append, List.mem_singleton, ← h.mem j, List.getD_eq_getElem?_getD]
    by_cases e : k = j
    · subst e; simp [hkl]
    · simp [e, Ne.symm e]
  · rw [List.nodup_append]
    exact ⟨h.nd, by simp, fun a ha b hb => by rw [List.mem_singleton.1 hb]; exact fun e => hno (e ▸ ha)⟩
  · have := cntF_set th k hs
    have := h.cnt
    rw [List.length_append, List.length_singleton]
    omega
  · rcases Nat.lt_or_ge q out.length with hq | hq
    · rw [List.getElem?_append_left hq] at hj
      obtain ⟨q', k', a, b, c⟩ := h.good q j hj x hx hr ht
      exact ⟨q', k', a, by rw [List.getElem?_append_left (by omega)]; exact b, c⟩
    · have hj2 : j = k := by
        rw [List.getElem?_append_right hq] at hj
        cases e : q - out.length with
        | zero => rw [e] at hj; cases hj; rfl
        | succ => rw [e] at hj; simp at hj
      subst hj2
      have h3 := h2 x hx hr ht
      have h4 := (h.mem _).1 h3
      obtain ⟨q', hq'⟩ := List.getElem?_of_mem h4
      have hl : q' < out.length := by
        rcases Nat.lt_or_ge q' out.length with h | h
        · exact h
        · rw [List.getElem?_eq_none h] at hq'; cases hq'
      exact ⟨q', _, by omega, by rw [List.getElem?_append_left hl]; exact hq', by have := (fr_in hE hx).1; omega⟩
theorem cntF_zero : ∀ {th : List Bool}, cntF th = 0 → ∀ j, th.getD j true = true
  | [], _, j => by simp
  | b :: th, h, 0 => by cases b <;> simp [cntF] at h ⊢
  | b :: th, h, j + 1 => by
    have := @cntF_zero th (by cases b <;> simp [cntF] at h ⊢; omega) j
    simpa using this
theorem ordL_inv {E : List (Seg × Int)} {N : Nat} (hE : EdgeIn E N) : ∀ (m : Nat) {th : List Bool} {out : List Nat}, cntF th = m → OrdInv E N th out → ∃ th', OrdInv E N th' (ordL E m th out) ∧ ∀ j, pickB E th' j = false
  | 0, th, out, hm, h => ⟨th, h, fun j => by unfold pickB; rw [cntF_zero hm j]; rfl⟩
  | m + 1, th, out, hm, h => by
    rw [ordL]
    cases hf : (List.range th.length).find? (pickB E th) with
    | none =>
      refine ⟨th, h, fun j => ?_⟩
      rcases Nat.lt_or_ge j th.length with h1 | h1
      · have := List.find?_eq_none.1 hf j (List.mem_range.2 h1)
        simpa using this
      · unfold pickB
        rw [List.getD_eq_getElem?_getD, List.getElem?_eq_none h1]
        rfl
    | some k =>
      have hk : pickB E th k = true := List.find?_some hf
      have hs := getD_none ((pick_iff E th k).1 hk).1
      have hc := cntF_set th k hs
      exact ordL_inv hE m (by omega) (h.step hE hk)
def UpOk (x : Seg × Int) : Prop := x.2 ≠ 0 → frOf x < toOf x
def DownOk (x : Seg × Int) : Prop := x.2 ≠ 0 → toOf x < frOf x
theorem init_inv (E : List (Seg × Int)) (N : Nat) : OrdInv E N (List.replicate N false) [] ∧ cntF (List.replicate N false) = N := by
  have hc : cntF (List.replicate N false) = N := by unfold cntF; rw [List.count_replicate_self]
  refine ⟨⟨List.length_replicate, fun j => ?_, List.nodup_nil, by rw [hc]; rfl, fun q k h => by simp at h⟩, hc⟩
  rw [List.getD_eq_getElem?_getD, List.getElem?_replicate]
  split <;> simp
theorem ord_inv {E : List (Seg × Int)} {N : Nat} (hE : EdgeIn E N) : ∃ th', OrdInv E N th' (ordL E N (List.replicate N false) []) ∧ ∀ j, pickB E th' j = false := by
  obtain ⟨h1, h2⟩ := init_inv E N
  exact ordL_inv hE N h2 h1
end Go.Proofs.Ytkjibmfggeibjaa
/- Compiled code of some functions (printed by a program), each checked by the kernel. -/
namespace Go.Proofs.Ytkjibmfggeibjaa
open Go
set_option maxRecDepth 100000
def c51_1 : C := (.seq (.ops false [oP 13 (.ld 6 true (.t 2)), oP 14 (.ld 3 true (.t 3)), oP 15 (.call 118 [(.t 13), (.t 14)]), oP 4 (.mv (.t 15)), oP 5 (.mv (cI 0))]) .ret)
def c51 : C := (.seq (.ops false [oP 2 (.box 6 (.t 0)), oP 3 (.box 3 (.t 1)), oP 4 (.mv (.c .mt)), oP 5 (.mv (cI 0))]) (.seq (.seq (.ops false [oP 7 (.ld 6 true (.t 2)), oP 8 (.ld 3 true (.t 3)), oB 9 (.call 55 [(.t 7), (.t 8)]), oP 6 (.mv (.t 9))]) (.seq (.ops false [oP 10 (.mv (.t 6)), oP 11 (.bin .neq (.t 10) (cI 0))]) (.cond (.t 11) (.seq (.ops false [oP 12 (.mv (.t 6)), oP 4 (.mv (.c .mt)),
  oP 5 (.mv (.t 12))]) .ret) .skip))) c51_1))
def r51 : List RV := [(.tmp 4), (.tmp 5)]
theorem c51_ok : ∃ code, Try.f51.body = some code ∧ compC Try.prog Try.f51.ntmps code = some (C.strip c51) := ⟨_, rfl, by kernel_rfl⟩
theorem r51_ok : compRes Try.prog Try.f51.results.toList = some r51 := by kernel_rfl
theorem f51_ok : fnOk Try.prog 51 = true := by kernel_rfl
def c53_1 : C := (.seq (.block 1 (.seq (.ops false [oP 23 (.iaS 1 (.t 19) (.t 21)), oP 24 (.ld 1 false (.t 23)), oP 11 (.mv (.t 24))]) (.ops false [oP 25 (.mv (.t 8)), oP 26 (.mv (.t 11)), oP 27 (.mnx true (cI 0) (.t 26)), oP 28 (.bin .add (.t 25) (.t 27)), oP 29 (.mv (.t 9)), oP 30 (.mv (.t 11)), oP 31 (.neg (.t 30)), oP 32 (.mnx true (cI 0) (.t 31)), oP 33 (.bin .add (.t 29) (.t 32)), oP 8 (.mv (.t 28)),
  oP 9 (.mv (.t 33))]))) (.ops false [oP 34 (.bin .add (.t 21) (cI 1)), oP 21 (.mv (.t 34))]))
def c53_2 : C := (.seq (.ops false [oP 22 (.bin .lss (.t 21) (.t 20))]) (.seq (.cond (.t 22) .skip (.exit 0)) c53_1))
def c53_3 : C := (.seq (.ops false [oP 35 (.mv (.t 8)), oP 36 (.mv (.t 9)), oP 4 (.mv (.t 35)), oP 5 (.mv (.t 36)), oP 6 (.mv (cI 0))]) .ret)
def c53_4 : C := (.seq (.ops false [oP 8 (.mv (cI 0)), oP 9 (.mv (cI 0))]) (.seq (.seq (.ops false [oP 18 (.fa 1 (.t 3)), oP 19 (.ld 1 false (.t 18)), oP 20 (.len (.t 19)), oP 21 (.mv (cI 0))]) (.block 0 (.loop c53_2))) c53_3))
def c53 : C := (.seq (.ops false [oP 2 (.box 6 (.t 0)), oP 3 (.box 3 (.t 1)), oP 4 (.mv (cI 0)), oP 5 (.mv (cI 0)), oP 6 (.mv (cI 0))]) (.seq (.seq (.ops false [oP 12 (.ld 6 true (.t 2)), oP 13 (.ld 3 true (.t 3)), oB 14 (.call 55 [(.t 12), (.t 13)]), oP 7 (.mv (.t 14))]) (.seq (.ops false [oP 15 (.mv (.t 7)), oP 16 (.bin .neq (.t 15) (cI 0))]) (.cond (.t 16) (.seq (.ops false [oP 17 (.mv (.t 7)),
  oP 4 (.mv (cI 0)), oP 5 (.mv (cI 0)), oP 6 (.mv (.t 17))]) .ret) .skip))) c53_4))
def r53 : List RV := [(.tmp 4), (.tmp 5), (.tmp 6)]
theorem c53_ok : ∃ code, Try.f53.body = some code ∧ compC Try.prog Try.f53.ntmps code = some (C.strip c53) := ⟨_, rfl, by kernel_rfl⟩
theorem r53_ok : compRes Try.prog Try.f53.results.toList = some r53 := by kernel_rfl
theorem f53_ok : fnOk Try.prog 53 = true := by kernel_rfl
def c55_1 : C := (.ops false [oP 57 (.bin .add (.t 42) (cI 1)), oP 42 (.mv (.t 57))])
def c55_2 : C := (.seq (.block 1 (.seq (.ops false [oP 44 (.mv (.t 42)), oP 45 (.iaS 7 (.t 40) (.t 42)), oP 46 (.ld 7 true (.t 45)), oP 7 (.new [(.v (.string ({ data := #[] }))), (.v (.int .i64 0)), (.v (.int .i64 0)), (.v (.int .i64 0)), (.v (.int .i64 0)), (.v (.int .i64 0)), .mt]), oP 6 (.mv (.t 44)), oS (.st 7 (.t 7) (.t 46))]) (.seq (.ops true [oP 47 (.fa 0 (.t 3)), oA 48 (.ld 1 false (.t 47)) [0],
  oP 49 (.mv (.t 6)), oA 50 (.iaS 1 (.t 48) (.t 49)) [0, 2, 1], oA 51 (.ld 1 false (.t 50)) [1, 2, 0, 3], oP 52 (.fa 3 (.t 7)), oA 53 (.ld 1 false (.t 52)) [5], oA 54 (.mnx false (cI 1000) (.t 53)) [5, 6], ⟨(.some 55), Option.none, (.call 120 [(.t 51), (.t 54)]), 55, [6, 5, 3, 0, 2, 1, 7, 4], true⟩, oA 56 (.not (.t 55)) [4, 7, 1, 2, 0, 3, 5, 6, 8]]) (.cond (.t 56)
  (.seq (.ops false [oP 4 (.mv (cI 1))]) .ret) .skip)))) c55_1)
def c55_3 : C := (.seq (.ops false [oP 43 (.bin .lss (.t 42) (.t 41))]) (.seq (.cond (.t 43) .skip (.exit 0)) c55_2))
def c55_4 : C := (.seq (.ops false [oP 4 (.mv (cI 0))]) .ret)
def c55_5 : C := (.seq (.seq (.ops true [oP 69 (.ld 6 true (.t 2)), oP 70 (.ld 3 true (.t 3)), oA 71 (.call 118 [(.t 69), (.t 70)]) [1, 0], oA 72 (.len (.t 71)) [0, 1, 2], oP 73 (.fa 0 (.t 2)), oA 74 (.ld 1 false (.t 73)) [4], oA 75 (.len (.t 74)) [4, 5], oA 76 (.bin .lss (.t 72) (.t 75)) [5, 4, 2, 1, 0, 6, 3]]) (.cond (.t 76) (.seq (.ops false [oP 4 (.mv (cI 13))]) .ret) .skip)) c55_4)
def c55_6 : C := (.seq (.seq (.ops false [oP 61 (.ld 6 true (.t 2)), oP 62 (.ld 3 true (.t 3)), oB 63 (.call 123 [(.t 61), (.t 62)]), oP 8 (.new [(.v (.int .i64 0)), (.v (.int .i64 0)), (.v (.int .i64 0)), (.v (.int .i64 0)), (.v (.int .i64 0)), (.v (.int .i64 0)), (.v (.int .i64 0)), (.v (.int .i64 0)), (.v (.int .i64 0)), (.v (.int .i64 0)), (.v (.int .i64 0)), (.v (.int .i64 0)), (.v (.int .i64 0)),
  (.v (.int .i64 0)), (.v (.int .i64 0)), (.v (.int .i64 0)), (.v (.int .i64 0)), (.v (.int .i64 0)), (.v (.int .i64 0)), (.v (.int .i64 0)), (.v (.int .i64 0)), (.v (.int .i64 0)), (.v (.int .i64 0)), (.v (.int .i64 0)), (.v (.int .i64 0)), (.v (.int .i64 0)), (.v (.int .i64 0)), (.v (.int .i64 0)), (.v (.int .i64 0)), (.v (.int .i64 0)), (.v (.int .i64 0)), (.v (.int .i64 0)), (.v (.int .i64 0)),
  (.v (.int .i64 0)), (.v (.int .i64 0)), (.v (.int .i64 0)), (.v (.int .i64 0)), (.v (.int .i64 0)), (.v (.int .i64 0)), (.v (.int .i64 0)), (.v (.int .i64 0)), (.v (.int .i64 0)), (.v (.int .i64 0)), (.v (.int .i64 0)), (.v (.int .i64 0)), (.v (.int .i64 0)), (.v (.int .i64 0)), (.v (.int .i64 0))]), oS (.st 48 (.t 8) (.t 63))]) (.seq (.ops false [oP 64 (.fa 0 (.t 8)), oP 65 (.ld 24 true (.t 64)),
  oP 66 (.fa 24 (.t 8)), oP 67 (.ld 24 true (.t 66)), oP 68 (.eqa true [0, 0, 0, 0, 0, 0, 0, 0, 0, 0, 0, 0, 0, 0, 0, 0, 0, 0, 0, 0, 0, 0, 0, 0] (.t 65) (.t 67))]) (.cond (.t 68) (.seq (.ops false [oP 4 (.mv (cI 12))]) .ret) .skip))) c55_5)
def c55_7 : C := (.seq (.seq (.ops false [oP 58 (.fa 1 (.t 3)), oP 59 (.ld 1 false (.t 58)), oB 60 (.call 121 [(.t 59), (.c (.clo 122 [] []))])]) (.cond (.t 60) (.seq (.ops false [oP 4 (.mv (cI 1))]) .ret) .skip)) c55_6)
def c55_8 : C := (.seq (.seq (.ops false [oP 39 (.fa 1 (.t 2)), oP 40 (.ld 1 false (.t 39)), oP 41 (.len (.t 40)), oP 42 (.mv (cI 0))]) (.block 0 (.loop c55_3))) c55_7)
def c55_9 : C := (.seq (.seq (.ops false [oP 14 (.fa 0 (.t 3)), oP 15 (.ld 1 false (.t 14)), oP 16 (.len (.t 15)), oP 17 (.fa 1 (.t 2)), oP 18 (.ld 1 false (.t 17)), oP 19 (.len (.t 18)), oP 20 (.bin .neq (.t 16) (.t 19)), oP 21 (.mv (.t 20)), oG 22 21 false (.fa 1 (.t 3)), oG 23 21 false (.ld 1 false (.t 22)), oG 24 21 false (.len (.t 23)), oG 25 21 false (.fa 2 (.t 2)), oG 26 21 false (.ld 1 false (.t 25)),
  oG 27 21 false (.len (.t 26)), oG 28 21 false (.bin .neq (.t 24) (.t 27)), oP 29 (.pick (.t 21) (cB true) (.t 28)), oP 30 (.mv (.t 29)), oG 31 30 false (.fa 2 (.t 3)), oG 32 30 false (.ld 1 false (.t 31)), oG 33 30 false (.len (.t 32)), oG 34 30 false (.fa 3 (.t 2)), oG 35 30 false (.ld 1 false (.t 34)), oG 36 30 false (.len (.t 35)), oG 37 30 false (.bin .neq (.t 33) (.t 36)),
  oP 38 (.pick (.t 30) (cB true) (.t 37))]) (.cond (.t 38) (.seq (.ops false [oP 4 (.mv (cI 9))]) .ret) .skip)) c55_8)
def c55 : C := (.seq (.ops false [oP 2 (.box 6 (.t 0)), oP 3 (.box 3 (.t 1)), oP 4 (.mv (cI 0))]) (.seq (.seq (.ops false [oP 9 (.ld 6 true (.t 2)), oB 10 (.call 74 [(.t 9)]), oP 5 (.mv (.t 10))]) (.seq (.ops false [oP 11 (.mv (.t 5)), oP 12 (.bin .neq (.t 11) (cI 0))]) (.cond (.t 12) (.seq (.ops false [oP 13 (.mv (.t 5)), oP 4 (.mv (.t 13))]) .ret) .skip))) c55_9))
def r55 : List RV := [(.tmp 4)]
theorem c55_ok : ∃ code, Try.f55.body = some code ∧ compC Try.prog Try.f55.ntmps code = some (C.strip c55) := ⟨_, rfl, by kernel_rfl⟩
theorem r55_ok : compRes Try.prog Try.f55.results.toList = some r55 := by kernel_rfl
theorem f55_ok : fnOk Try.prog 55 = true := by kernel_rfl
def c58_1 : C := (.seq (.ops false [oP 24 (.ld 6 true (.t 3)), oP 25 (.ld 3 true (.t 4)), oB 26 (.call 123 [(.t 24), (.t 25)]), oP 27 (.fld 0 24 true (.t 26)), oP 28 (.mv (.t 2)), oP 29 (.ixA 24 1 false (.t 27) (.t 28)), oP 6 (.mv (.t 29)), oP 7 (.mv (cI 0))]) .ret)
def c58_2 : C := (.seq (.seq (.ops false [oP 15 (.mv (.t 2)), oP 16 (.bin .lss (.t 15) (cI 0)), oP 17 (.mv (.t 16)), oG 18 17 false (.mv (.t 2)), oG 19 17 false (.fa 0 (.t 3)), oG 20 17 false (.ld 1 false (.t 19)), oG 21 17 false (.len (.t 20)), oG 22 17 false (.bin .geq (.t 18) (.t 21)), oP 23 (.pick (.t 17) (cB true) (.t 22))]) (.cond (.t 23) (.seq (.ops false [oP 6 (.mv (cI 0)), oP 7 (.mv (cI 8))]) .ret)
  .skip)) c58_1)
def c58 : C := (.seq (.ops false [oP 3 (.box 6 (.t 0)), oP 4 (.box 3 (.t 1)), oP 6 (.mv (cI 0)), oP 7 (.mv (cI 0))]) (.seq (.seq (.ops false [oP 9 (.ld 6 true (.t 3)), oP 10 (.ld 3 true (.t 4)), oB 11 (.call 55 [(.t 9), (.t 10)]), oP 8 (.mv (.t 11))]) (.seq (.ops false [oP 12 (.mv (.t 8)), oP 13 (.bin .neq (.t 12) (cI 0))]) (.cond (.t 13) (.seq (.ops false [oP 14 (.mv (.t 8)), oP 6 (.mv (cI 0)),
  oP 7 (.mv (.t 14))]) .ret) .skip))) c58_2))
def r58 : List RV := [(.tmp 6), (.tmp 7)]
theorem c58_ok : ∃ code, Try.f58.body = some code ∧ compC Try.prog Try.f58.ntmps code = some (C.strip c58) := ⟨_, rfl, by kernel_rfl⟩
theorem r58_ok : compRes Try.prog Try.f58.results.toList = some r58 := by kernel_rfl
theorem f58_ok : fnOk Try.prog 58 = true := by kernel_rfl
def c118_1 : C := (.ops false [oP 63 (.bin .add (.t 30) (cI 1)), oP 30 (.mv (.t 63))])
def c118_2 : C := (.seq (.block 3 (.seq (.ops false [oP 32 (.mv (.t 30)), oP 33 (.iaS 7 (.t 28) (.t 30)), oP 34 (.ld 7 true (.t 33)), oP 9 (.new [(.v (.string ({ data := #[] }))), (.v (.int .i64 0)), (.v (.int .i64 0)), (.v (.int .i64 0)), (.v (.int .i64 0)), (.v (.int .i64 0)), .mt]), oP 8 (.mv (.t 32)), oS (.st 7 (.t 9) (.t 34))]) (.seq (.ops true [oP 36 (.ld 7 true (.t 9)), oP 37 (.fa 0 (.t 3)),
  oA 38 (.ld 1 false (.t 37)) [1], oP 39 (.mv (.t 8)), oA 40 (.iaS 1 (.t 38) (.t 39)) [1, 3, 2], oA 41 (.ld 1 false (.t 40)) [2, 3, 1, 4], ⟨(.some 42), Option.none, (.call 171 [(.t 36), (.t 41)]), 42, [4, 1, 3, 2, 5, 0], true⟩, oA 35 (.mv (.t 42)) [0, 5, 2, 3, 1, 4, 6], oA 43 (.ext (.t 35) 0) [6, 4, 1, 3, 2, 5, 0, 7], oA 44 (.ext (.t 35) 1) [6, 4, 1, 3, 2, 5, 0, 7], oA 10 (.mv (.t 43)) [7, 5, 4, 3,
  2, 1, 0, 6, 8], oA 11 (.mv (.t 44)) [8, 7, 6, 5, 4, 3, 2, 1, 0, 10, 9]]) (.seq (.ops false [oP 45 (.fa 0 (.t 3)), oP 46 (.ld 1 false (.t 45)), oP 47 (.mv (.t 8)), oP 48 (.iaS 1 (.t 46) (.t 47)), oP 49 (.ld 1 false (.t 48)), oP 50 (.bin .neq (.t 49) (cI 0)), oP 51 (.mv (.t 50)), oG 52 51 true (.mv (.t 11)), oG 53 51 true (.mv (.t 7)), oG 54 51 true (.bin .eql (.t 52) (.t 53)), oP 55 (.pick (.t 51)
  (.t 54) (cB false)), oP 56 (.mv (.t 55)), oG 57 56 true (.mv (.t 6)), oG 58 56 true (.mv (.t 10)), oG 59 56 true (.iaS 1 (.t 57) (.t 58)), oG 60 56 true (.ld 1 false (.t 59)), oG 61 56 true (.not (.t 60)), oP 62 (.pick (.t 56) (.t 61) (cB false))]) (.cond (.t 62) (.exit 1) .skip))))) c118_1)
def c118_3 : C := (.seq (.ops false [oP 31 (.bin .lss (.t 30) (.t 29))]) (.seq (.cond (.t 31) .skip (.exit 2)) c118_2))
def c118_4 : C := (.seq (.ops false [oP 64 (.mv (.t 6)), oP 65 (.mv (.t 7)), oP 66 (.iaS 1 (.t 64) (.t 65)), oS (.st 1 (.t 66) (cB true))]) (.seq (.ops false [oP 67 (.mv (.t 5)), oP 68 (.mv (.t 7)), oP 69 (.bsl 1 1 [(.v (.int .i64 0))] [(0, (.t 68))]), oP 70 (.app 1 8 (.t 67) (.t 69)), oP 5 (.mv (.t 70))]) (.ops false [oP 7 (.mv (cI (-1)))])))
def c118_5 : C := (.seq (.seq (.ops false [oP 27 (.fa 1 (.t 2)), oP 28 (.ld 1 false (.t 27)), oP 29 (.len (.t 28)), oP 30 (.mv (cI 0))]) (.block 2 (.loop c118_3))) c118_4)
def c118_6 : C := (.ops false [oP 21 (.mv (.t 7)), oP 22 (.bin .add (.t 21) (cI 1)), oP 7 (.mv (.t 22))])
def c118_7 : C := (.seq (.block 1 (.seq (.seq (.ops false [oP 23 (.mv (.t 6)), oP 24 (.mv (.t 7)), oP 25 (.iaS 1 (.t 23) (.t 24)), oP 26 (.ld 1 false (.t 25))]) (.cond (.t 26) (.exit 1) .skip)) c118_5)) c118_6)
def c118_8 : C := (.seq (.seq (.ops false [oP 16 (.mv (.t 7)), oP 17 (.fa 0 (.t 2)), oP 18 (.ld 1 false (.t 17)), oP 19 (.len (.t 18)), oP 20 (.bin .lss (.t 16) (.t 19))]) (.cond (.t 20) .skip (.exit 0))) c118_7)
def c118_9 : C := (.seq (.ops false [oP 71 (.mv (.t 5)), oP 4 (.mv (.t 71))]) .ret)
def c118 : C := (.seq (.ops false [oP 2 (.box 6 (.t 0)), oP 3 (.box 3 (.t 1)), oP 4 (.mv (.c .mt))]) (.seq (.ops false [oP 5 (.mv (.c .mt))]) (.seq (.ops false [oP 12 (.fa 0 (.t 2)), oP 13 (.ld 1 false (.t 12)), oP 14 (.len (.t 13)), oP 15 (.mks 1 1 [(.v (.bool false))] (.t 14)), oP 6 (.mv (.t 15))]) (.seq .skip (.seq (.seq (.ops false [oP 7 (.mv (cI 0))]) (.block 0 (.loop c118_8))) c118_9)))))
def r118 : List RV := [(.tmp 4)]
theorem c118_ok : ∃ code, Try.f118.body = some code ∧ compC Try.prog Try.f118.ntmps code = some (C.strip c118) := ⟨_, rfl, by kernel_rfl⟩
theorem r118_ok : compRes Try.prog Try.f118.results.toList = some r118 := by kernel_rfl
theorem f118_ok : fnOk Try.prog 118 = true := by kernel_rfl
def c120 : C := (.seq (.ops false [oP 4 (.mv (cB false))]) (.seq (.ops false [oP 5 (.mv (.t 0)), oP 6 (.mv (.t 1)), oP 7 (.neg (.t 6)), oP 8 (.bin .geq (.t 5) (.t 7)), oP 9 (.mv (.t 8)), oG 10 9 true (.mv (.t 0)), oG 11 9 true (.mv (.t 1)), oG 12 9 true (.bin .leq (.t 10) (.t 11)), oP 13 (.pick (.t 9) (.t 12) (cB false)), oP 4 (.mv (.t 13))]) .ret))
def r120 : List RV := [(.tmp 4)]
theorem c120_ok : ∃ code, Try.f120.body = some code ∧ compC Try.prog Try.f120.ntmps code = some (C.strip c120) := ⟨_, rfl, by kernel_rfl⟩
theorem r120_ok : compRes Try.prog Try.f120.results.toList = some r120 := by kernel_rfl
theorem f120_ok : fnOk Try.prog 120 = true := by kernel_rfl
def c122 : C := (.seq (.ops false [oP 2 (.mv (cB false))]) (.seq (.ops false [oP 3 (.mv (.t 0)), oB 4 (.call 120 [(.t 3), (cI 1000)]), oP 5 (.not (.t 4)), oP 2 (.mv (.t 5))]) .ret))
def r122 : List RV := [(.tmp 2)]
theorem c122_ok : ∃ code, Try.f122.body = some code ∧ compC Try.prog Try.f122.ntmps code = some (C.strip c122) := ⟨_, rfl, by kernel_rfl⟩
theorem r122_ok : compRes Try.prog Try.f122.results.toList = some r122 := by kernel_rfl
theorem f122_ok : fnOk Try.prog 122 = true := by kernel_rfl
def c123_1 : C := (.seq (.block 1 (.seq (.ops false [oP 15 (.mv (.t 13)), oP 16 (.iaS 7 (.t 11) (.t 13)), oP 17 (.ld 7 true (.t 16)), oP 7 (.new [(.v (.string ({ data := #[] }))), (.v (.int .i64 0)), (.v (.int .i64 0)), (.v (.int .i64 0)), (.v (.int .i64 0)), (.v (.int .i64 0)), .mt]), oP 6 (.mv (.t 15)), oS (.st 7 (.t 7) (.t 17))]) (.ops true [oP 18 (.fa 1 (.t 7)), oA 19 (.ld 1 false (.t 18)) [0],
  oP 20 (.fa 2 (.t 7)), oA 21 (.ld 1 false (.t 20)) [2], oP 22 (.fa 0 (.t 3)), oA 23 (.ld 1 false (.t 22)) [4], oP 24 (.mv (.t 6)), oA 25 (.iaS 1 (.t 23) (.t 24)) [4, 6, 5], oA 26 (.ld 1 false (.t 25)) [5, 6, 4, 7], ⟨(.some 27), Option.none, (.call 173 [(.t 5), (.t 19), (.t 21), (.t 26)]), 27, [7, 4, 6, 5, 2, 0, 8, 3, 1], true⟩]))) (.ops false [oP 28 (.bin .add (.t 13) (cI 1)),
  oP 13 (.mv (.t 28))]))
def c123_2 : C := (.seq (.ops false [oP 14 (.bin .lss (.t 13) (.t 12))]) (.seq (.cond (.t 14) .skip (.exit 0)) c123_1))
def c123_3 : C := (.seq (.block 3 (.seq (.ops false [oP 34 (.mv (.t 32)), oP 35 (.iaS 3 (.t 30) (.t 32)), oP 36 (.ld 3 true (.t 35)), oP 9 (.new [(.v (.string ({ data := #[] }))), (.v (.int .i64 0)), (.v (.int .i64 0))]), oP 8 (.mv (.t 34)), oS (.st 3 (.t 9) (.t 36))]) (.ops true [oP 37 (.fa 1 (.t 9)), oA 38 (.ld 1 false (.t 37)) [0], oP 39 (.fa 1 (.t 3)), oA 40 (.ld 1 false (.t 39)) [2], oP 41 (.mv (.t 8)),
  oA 42 (.iaS 1 (.t 40) (.t 41)) [2, 4, 3], oA 43 (.ld 1 false (.t 42)) [3, 4, 2, 5], ⟨(.some 44), Option.none, (.call 173 [(.t 5), (cI (-1)), (.t 38), (.t 43)]), 44, [5, 2, 4, 3, 0, 6, 1], true⟩]))) (.ops false [oP 45 (.bin .add (.t 32) (cI 1)), oP 32 (.mv (.t 45))]))
def c123_4 : C := (.seq (.ops false [oP 33 (.bin .lss (.t 32) (.t 31))]) (.seq (.cond (.t 33) .skip (.exit 2)) c123_3))
def c123_5 : C := (.seq (.ops false [oP 46 (.ld 48 true (.t 5)), oS (.st 48 (.t 4) (.t 46))]) .ret)
def c123_6 : C := (.seq (.seq (.ops false [oP 29 (.fa 2 (.t 2)), oP 30 (.ld 1 false (.t 29)), oP 31 (.len (.t 30)), oP 32 (.mv (cI 0))]) (.block 2 (.loop c123_4))) c123_5)
def c123 : C := (.seq (.ops false [oP 2 (.box 6 (.t 0)), oP 3 (.box 3 (.t 1)), oP 4 (.new [(.v (.int .i64 0)), (.v (.int .i64 0)), (.v (.int .i64 0)), (.v (.int .i64 0)), (.v (.int .i64 0)), (.v (.int .i64 0)), (.v (.int .i64 0)), (.v (.int .i64 0)), (.v (.int .i64 0)), (.v (.int .i64 0)), (.v (.int .i64 0)), (.v (.int .i64 0)), (.v (.int .i64 0)), (.v (.int .i64 0)), (.v (.int .i64 0)), (.v (.int .i64 0)),
  (.v (.int .i64 0)), (.v (.int .i64 0)), (.v (.int .i64 0)), (.v (.int .i64 0)), (.v (.int .i64 0)), (.v (.int .i64 0)), (.v (.int .i64 0)), (.v (.int .i64 0)), (.v (.int .i64 0)), (.v (.int .i64 0)), (.v (.int .i64 0)), (.v (.int .i64 0)), (.v (.int .i64 0)), (.v (.int .i64 0)), (.v (.int .i64 0)), (.v (.int .i64 0)), (.v (.int .i64 0)), (.v (.int .i64 0)), (.v (.int .i64 0)), (.v (.int .i64 0)),
  (.v (.int .i64 0)), (.v (.int .i64 0)), (.v (.int .i64 0)), (.v (.int .i64 0)), (.v (.int .i64 0)), (.v (.int .i64 0)), (.v (.int .i64 0)), (.v (.int .i64 0)), (.v (.int .i64 0)), (.v (.int .i64 0)), (.v (.int .i64 0)), (.v (.int .i64 0))])]) (.seq (.ops false [oP 5 (.new [(.v (.int .i64 0)), (.v (.int .i64 0)), (.v (.int .i64 0)), (.v (.int .i64 0)), (.v (.int .i64 0)), (.v (.int .i64 0)),
  (.v (.int .i64 0)), (.v (.int .i64 0)), (.v (.int .i64 0)), (.v (.int .i64 0)), (.v (.int .i64 0)), (.v (.int .i64 0)), (.v (.int .i64 0)), (.v (.int .i64 0)), (.v (.int .i64 0)), (.v (.int .i64 0)), (.v (.int .i64 0)), (.v (.int .i64 0)), (.v (.int .i64 0)), (.v (.int .i64 0)), (.v (.int .i64 0)), (.v (.int .i64 0)), (.v (.int .i64 0)), (.v (.int .i64 0)), (.v (.int .i64 0)), (.v (.int .i64 0)),
  (.v (.int .i64 0)), (.v (.int .i64 0)), (.v (.int .i64 0)), (.v (.int .i64 0)), (.v (.int .i64 0)), (.v (.int .i64 0)), (.v (.int .i64 0)), (.v (.int .i64 0)), (.v (.int .i64 0)), (.v (.int .i64 0)), (.v (.int .i64 0)), (.v (.int .i64 0)), (.v (.int .i64 0)), (.v (.int .i64 0)), (.v (.int .i64 0)), (.v (.int .i64 0)), (.v (.int .i64 0)), (.v (.int .i64 0)), (.v (.int .i64 0)), (.v (.int .i64 0)),
  (.v (.int .i64 0)), (.v (.int .i64 0))])]) (.seq (.seq (.ops false [oP 10 (.fa 1 (.t 2)), oP 11 (.ld 1 false (.t 10)), oP 12 (.len (.t 11)), oP 13 (.mv (cI 0))]) (.block 0 (.loop c123_2))) c123_6)))
def r123 : List RV := [(.cell 4 48 true)]
theorem c123_ok : ∃ code, Try.f123.body = some code ∧ compC Try.prog Try.f123.ntmps code = some (C.strip c123) := ⟨_, rfl, by kernel_rfl⟩
theorem r123_ok : compRes Try.prog Try.f123.results.toList = some r123 := by kernel_rfl
theorem f123_ok : fnOk Try.prog 123 = true := by kernel_rfl
def c171_1 : C := (.seq (.ops true [oP 12 (.fa 1 (.t 2)), oA 13 (.ld 1 false (.t 12)) [0], oP 14 (.fa 2 (.t 2)), oA 15 (.ld 1 false (.t 14)) [2], oA 4 (.mv (.t 13)) [0, 1], oA 5 (.mv (.t 15)) [2, 1, 0, 4, 3]]) .ret)
def c171 : C := (.seq (.ops false [oP 2 (.box 7 (.t 0)), oP 4 (.mv (cI 0)), oP 5 (.mv (cI 0))]) (.seq (.seq (.ops false [oP 6 (.mv (.t 1)), oP 7 (.bin .lss (.t 6) (cI 0))]) (.cond (.t 7) (.seq (.ops true [oP 8 (.fa 2 (.t 2)), oA 9 (.ld 1 false (.t 8)) [0], oP 10 (.fa 1 (.t 2)), oA 11 (.ld 1 false (.t 10)) [2], oA 4 (.mv (.t 9)) [0, 1], oA 5 (.mv (.t 11)) [2, 1, 0, 4, 3]]) .ret) .skip)) c171_1))
def r171 : List RV := [(.tmp 4), (.tmp 5)]
theorem c171_ok : ∃ code, Try.f171.body = some code ∧ compC Try.prog Try.f171.ntmps code = some (C.strip c171) := ⟨_, rfl, by kernel_rfl⟩
theorem r171_ok : compRes Try.prog Try.f171.results.toList = some r171 := by kernel_rfl
theorem f171_ok : fnOk Try.prog 171 = true := by kernel_rfl
def c173_1 : C := (.seq (.ops false [oP 27 (.mv (.t 2)), oP 28 (.bin .geq (.t 27) (cI 0))]) (.cond (.t 28) (.ops true [oP 29 (.mv (.t 0)), oP 30 (.mv (.t 2)), oA 31 (.nck (.t 29)) [0], oA 32 (.fa 0 (.t 31)) [0, 2], oA 33 (.iaA 24 1 (.t 32) (.t 30)) [2, 0, 1, 3], oA 34 (.ld 1 false (.t 33)) [3, 1, 0, 2, 4], oP 35 (.mv (.t 3)), oA 36 (.bin .add (.t 34) (.t 35)) [4, 2, 0, 1, 3, 6, 5], oA 37 (.nck (.t 29)) [0],
  oA 38 (.fa 0 (.t 37)) [0, 8], oA 39 (.iaA 24 1 (.t 38) (.t 30)) [8, 7, 6, 5, 4, 3, 2, 0, 1, 9], ⟨Option.none, Option.none, (.st 1 (.t 39) (.t 36)), 0, [9, 8, 6, 5, 4, 3, 2, 1, 0, 7, 10], false⟩]) .skip))
def c173_2 : C := (.seq (.seq (.ops false [oP 14 (.mv (.t 1)), oP 15 (.bin .geq (.t 14) (cI 0))]) (.cond (.t 15) (.ops true [oP 16 (.mv (.t 0)), oP 17 (.mv (.t 1)), oA 18 (.nck (.t 16)) [0], oA 19 (.fa 24 (.t 18)) [0, 2], oA 20 (.iaA 24 1 (.t 19) (.t 17)) [2, 0, 1, 3], oA 21 (.ld 1 false (.t 20)) [3, 1, 0, 2, 4], oP 22 (.mv (.t 3)), oA 23 (.bin .add (.t 21) (.t 22)) [4, 2, 0, 1, 3, 6, 5], oA 24 (.nck (.t 16)) [0],
  oA 25 (.fa 24 (.t 24)) [0, 8], oA 26 (.iaA 24 1 (.t 25) (.t 17)) [8, 7, 6, 5, 4, 3, 2, 0, 1, 9], ⟨Option.none, Option.none, (.st 1 (.t 26) (.t 23)), 0, [9, 8, 6, 5, 4, 3, 2, 1, 0, 7, 10], false⟩]) .skip)) c173_1)
def c173 : C := (.seq (.seq (.ops false [oP 8 (.mv (.t 3)), oP 9 (.bin .lss (.t 8) (cI 0))]) (.cond (.t 9) (.ops false [oP 10 (.mv (.t 2)), oP 11 (.mv (.t 1)), oP 12 (.mv (.t 3)), oP 13 (.neg (.t 12)), oP 1 (.mv (.t 10)), oP 2 (.mv (.t 11)), oP 3 (.mv (.t 13))]) .skip)) c173_2)
def r173 : List RV := []
theorem c173_ok : ∃ code, Try.f173.body = some code ∧ compC Try.prog Try.f173.ntmps code = some (C.strip c173) := ⟨_, rfl, by kernel_rfl⟩
theorem r173_ok : compRes Try.prog Try.f173.results.toList = some r173 := by kernel_rfl
theorem f173_ok : fnOk Try.prog 173 = true := by kernel_rfl
end Go.Proofs.Ytkjibmfggeibjaa
