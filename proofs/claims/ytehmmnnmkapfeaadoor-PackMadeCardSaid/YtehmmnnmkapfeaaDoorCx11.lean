/- PackMade: CtB CodePK Pk2 GFd CtC. -/
import Derived.Test.YtehmmnnmkapfeaaDoorCx10
import Derived.Test.YtehmmnnmkapfeaaDoorCx3
import Derived.Test.YtehmmnnmkapfeaaDoorProg
import Derived.Test.YtehmmnnmkapfeaaDoorCx4
import Derived.Test.YtehmmnnmkapfeaaDoorCx9
import Derived.Test.YtehmmnnmkapfeaaDoorCx5
set_option linter.unusedSimpArgs false
set_option linter.unusedVariables false
set_option maxRecDepth 100000

/- Tickets: chains, sums, of both. -/
namespace Go.Proofs.YtehmmnnmkapfeaaDoor
open Go
def RngIP {α : Type} (n : Nat) (st : Nat → α → St) (P : Nat → α → Prop) (m : Nat) (s : St) : Prop := ∃ (j : Nat) (u : α), j + m = n ∧ P j u ∧ s = st j u
theorem rng_loopP {T : Tbl} {N : Nat → Nm} {J : List Nm} {c : C} {Q : Ex → St → Prop} {s : St} {α : Type} (n : Nat) (st : Nat → α → St) (P : Nat → α → Prop) {u0 : α} (h0 : Weak J s (st 0 u0)) (hP : P 0 u0)
    (hs : ∀ j, j < n → ∀ u, P j u → vc T N J c (loopQ J (RngIP n st P) (n - j) Q) (st j u)) (he : ∀ u, P n u → vc T N J c (loopQ J (RngIP n st P) 0 Q) (st n u)) : vc T N J (.loop c) Q s := by
  rw [vc_loop]
  refine ⟨RngIP n st P, ⟨n, _, h0, 0, u0, by omega, hP, rfl⟩, ?_⟩
  rintro m s' ⟨j, u, hj, hPj, rfl⟩
  by_cases h : j < n
  · obtain rfl : m = n - j := by omega
    exact hs j h u hPj
  · obtain rfl : j = n := by omega
    obtain rfl : m = 0 := by omega
    exact he u hPj
theorem rng_nextP {J : List Nm} {n : Nat} {α : Type} {st : Nat → α → St} {P : Nat → α → Prop} {j : Nat} {s : St} (hj : j < n) (u : α) (w : Weak J s (st (j + 1) u)) (hp : P (j + 1) u) : ∃ k' s', k' < n - j ∧ Weak J s s' ∧ RngIP n st P k' s' :=
  ⟨n - (j + 1), _, by omega, w, j + 1, u, by omega, hp, rfl⟩
def cdA (l : List Cnd) (j : Nat) : Cnd := l.getD j ⟨0, 0⟩
theorem cd_get {l : List Cnd} {j : Nat} (h : j < l.length) : (l.map Cnd.row).getD j [] = [di (cdA l j).te, di (cdA l j).pr] := by
  unfold cdA
  rw [List.getD_eq_getElem?_getD, List.getElem?_map, List.getD_eq_getElem?_getD, List.getElem?_eq_getElem h]
  rfl
def cndsOf : List (List D) → Option (List Cnd)
  | [] => some []
  | r :: l => match cndOf r, cndsOf l with
    | some c, some cs => some (c :: cs)
    | _, _ => Option.none
theorem cndsOf_map (l : List Cnd) : cndsOf (l.map Cnd.row) = some l := by
  induction l with
  | nil => rfl
  | cons c l ih => rw [List.map_cons, cndsOf, ih]; rfl
theorem cndsOf_eq : ∀ {l : List (List D)} {cs : List Cnd}, cndsOf l = some cs → l = cs.map Cnd.row
  | [], cs, h => by cases h; rfl
  | r :: l, cs, h => by
    rw [cndsOf] at h
    split at h
    · rename_i e e'; cases h; rw [List.map_cons, cndOf_eq e, cndsOf_eq e']
    · cases h
def c28 : C := (.seq (.ops false [oP 0 (.mv (cB false))]) (.seq (.ops false [oP 6 (.bld [(.v (.string ({ data := #[] }))), (.v (.int .i64 0)), (.v (.int .i64 0)), (.v (.int .i64 0)), (.v (.int .i64 0))] [(0, (1, (.c (.v (.string ({ data := #[112] })))))), (1, (1, (cI 800))), (2, (1, (cI 800))), (4, (1, (cI 1000)))]), oP 7 (.bsl 5 1 [(.v (.string ({ data := #[] }))), (.v (.int .i64 0)), (.v (.int .i64 0)),
  (.v (.int .i64 0)), (.v (.int .i64 0))] [(0, (.t 6))]), oP 8 (.bld [(.v (.int .i64 0)), (.v (.string ({ data := #[] }))), (.v (.int .i64 0)), (.v (.int .i64 0))] [(1, (1, (.c (.v (.string ({ data := #[115] }))))))]), oP 9 (.bsl 4 1 [(.v (.int .i64 0)), (.v (.string ({ data := #[] }))), (.v (.int .i64 0)), (.v (.int .i64 0))] [(0, (.t 8))]), oP 10 (.bld [(.v (.int .i64 0)), (.v (.int .i64 0))] [(1,
  (1, (cI 100)))]), oP 11 (.bsl 2 1 [(.v (.int .i64 0)), (.v (.int .i64 0))] [(0, (.t 10))]), oP 12 (.bld [(.v (.int .i64 0)), (.v (.int .i64 0))] [(0, (1, (cI 150)))]), oB 13 (.call 34 [(.t 7), (.t 9), (.t 11), (.t 12)]), oP 5 (.mv (.t 13)), oP 14 (.ext (.t 5) 0), oP 15 (.ext (.t 5) 1), oP 1 (.mv (.t 14)), oP 2 (.mv (.t 15))]) (.seq (.ops false [oP 17 (.bsl 1 2 [(.v (.int .i64 0))] [(0, (cI 5)),
  (1, (cI 7))]), oP 18 (.bsl 1 2 [(.v (.int .i64 0))] [(0, (cI 6)), (1, (cI 9))]), oP 19 (.bsl 1 1 [(.v (.int .i64 0))] [(0, (cI 1))]), oB 20 (.call 38 [(.t 17), (.t 18), (.t 19)]), oP 16 (.mv (.t 20)), oP 21 (.ext (.t 16) 0), oP 22 (.ext (.t 16) 1), oP 3 (.mv (.t 21)), oP 4 (.mv (.t 22))]) (.seq (.ops false [oP 23 (.mv (.t 2)), oP 24 (.bin .eql (.t 23) (cI 0)), oP 25 (.mv (.t 24)),
  oG 26 25 true (.mv (.t 4)), oG 27 25 true (.bin .eql (.t 26) (cI 0)), oP 28 (.pick (.t 25) (.t 27) (cB false)), oP 29 (.mv (.t 28)), oG 30 29 true (.mv (.t 1)), oG 31 29 true (.bin .eql (.t 30) (cI 100)), oP 32 (.pick (.t 29) (.t 31) (cB false)), oP 33 (.mv (.t 32)), oG 34 33 true (.mv (.t 3)), oG 35 33 true (.bin .eql (.t 34) (cI 2)), oP 36 (.pick (.t 33) (.t 35) (cB false)), oP 0 (.mv (.t 36))])
  .ret))))
def r28 : List RV := [(.tmp 0)]
theorem c28_ok : ∃ code, Tryd.f28.body = some code ∧ compC Tryd.prog Tryd.f28.ntmps code = some (C.strip c28) := ⟨_, rfl, by kernel_rfl⟩
theorem r28_ok : compRes Tryd.prog Tryd.f28.results.toList = some r28 := by kernel_rfl
theorem f28_ok : fnOk Tryd.prog 28 = true := by kernel_rfl
def c34_1 : C := (.ops false [oP 58 (.bin .add (.t 29) (cI 1)), oP 29 (.mv (.t 58))])
def c34_2 : C := (.seq (.block 1 (.seq (.ops false [oP 31 (.iaS 2 (.t 27) (.t 29)), oP 32 (.ld 2 true (.t 31)), oP 12 (.new [(.v (.int .i64 0)), (.v (.int .i64 0))]), oS (.st 2 (.t 12) (.t 32))]) (.seq (.ops false [oP 33 (.fa 0 (.t 12)), oP 34 (.ld 1 false (.t 33)), oP 35 (.mv (.t 1)), oP 36 (.len (.t 35)), oP 37 (.bin .geq (.t 34) (.t 36)), oP 38 (.mv (.t 37)), oG 39 38 false (.mv (.t 1)),
  oG 40 38 false (.fa 0 (.t 12)), oG 41 38 false (.ld 1 false (.t 40)), oG 42 38 false (.iaS 4 (.t 39) (.t 41)), oG 43 38 false (.fa 0 (.t 42)), oG 44 38 false (.ld 1 false (.t 43)), oG 45 38 false (.bin .lss (.t 44) (cI 0)), oP 46 (.pick (.t 38) (cB true) (.t 45)), oP 47 (.mv (.t 46)), oG 48 47 false (.mv (.t 1)), oG 49 47 false (.fa 0 (.t 12)), oG 50 47 false (.ld 1 false (.t 49)),
  oG 51 47 false (.iaS 4 (.t 48) (.t 50)), oG 52 47 false (.fa 0 (.t 51)), oG 53 47 false (.ld 1 false (.t 52)), oG 54 47 false (.mv (.t 0)), oG 55 47 false (.len (.t 54)), oG 56 47 false (.bin .geq (.t 53) (.t 55)), oP 57 (.pick (.t 47) (cB true) (.t 56))]) (.cond (.t 57) (.seq (.ops false [oP 8 (.mv (cI 0)), oP 9 (.mv (cI 8))]) .ret) .skip)))) c34_1)
def c34_3 : C := (.seq (.ops false [oP 30 (.bin .lss (.t 29) (.t 28))]) (.seq (.cond (.t 30) .skip (.exit 0)) c34_2))
def c34_4 : C := (.ops false [oP 92 (.mv (.t 13)), oP 93 (.mv (.t 18)), oP 94 (.bsl 1 1 [(.v (.int .i64 0))] [(0, (.t 93))]), oP 95 (.app 1 8 (.t 92) (.t 94)), oP 13 (.mv (.t 95))])
def c34_5 : C := (.seq (.ops false [oP 83 (.fa 1 (.t 15)), oP 84 (.ld 1 false (.t 83)), oP 85 (.mv (.t 16)), oB 86 (.call 58 [(.t 84), (.t 85)]), oP 82 (.mv (.t 86)), oP 87 (.ext (.t 82) 0), oP 88 (.ext (.t 82) 1), oP 18 (.mv (.t 87)), oP 17 (.mv (.t 88))]) (.seq (.seq (.ops false [oP 89 (.mv (.t 17)), oP 90 (.bin .neq (.t 89) (cI 0))]) (.cond (.t 90) (.seq (.ops false [oP 91 (.mv (.t 17)), oP 8 (.mv (cI 0)),
  oP 9 (.mv (.t 91))]) .ret) .skip)) c34_4))
def c34_6 : C := (.ops false [oP 96 (.bin .add (.t 61) (cI 1)), oP 61 (.mv (.t 96))])
def c34_7 : C := (.seq (.block 3 (.seq (.ops false [oP 63 (.iaS 2 (.t 59) (.t 61)), oP 64 (.ld 2 true (.t 63)), oP 15 (.new [(.v (.int .i64 0)), (.v (.int .i64 0))]), oS (.st 2 (.t 15) (.t 64))]) (.seq (.ops true [oP 66 (.mv (.t 0)), oP 67 (.mv (.t 1)), oP 68 (.fa 0 (.t 15)), oA 69 (.ld 1 false (.t 68)) [2], oA 70 (.iaS 4 (.t 67) (.t 69)) [2, 3, 1], oA 71 (.fa 0 (.t 70)) [1, 3, 2, 4], oA 72 (.ld 1 false (.t 71))
  [4, 2, 3, 1, 5], oA 73 (.iaS 5 (.t 66) (.t 72)) [5, 1, 3, 2, 4, 6, 0], oA 74 (.ld 5 true (.t 73)) [0, 6, 4, 2, 3, 1, 5, 7], oP 75 (.ld 2 true (.t 7)), oE 76 (.call 57 [(.t 74), (.t 75)]) [7, 5, 1, 3, 2, 4, 6, 0, 9, 8], oA 65 (.mv (.t 76)) [8, 9, 0, 6, 4, 2, 3, 1, 5, 7, 10], oA 77 (.ext (.t 65) 0) [10, 7, 5, 1, 3, 2, 4, 6, 0, 9, 8, 11], oA 78 (.ext (.t 65) 1) [10, 7, 5, 1, 3, 2, 4, 6, 0, 9, 8, 11],
  oA 16 (.mv (.t 77)) [11, 9, 8, 7, 6, 5, 4, 3, 2, 1, 0, 10, 12], oA 17 (.mv (.t 78)) [12, 11, 10, 9, 8, 7, 6, 5, 4, 3, 2, 1, 0, 14, 13]]) (.seq (.seq (.ops false [oP 79 (.mv (.t 17)), oP 80 (.bin .neq (.t 79) (cI 0))]) (.cond (.t 80) (.seq (.ops false [oP 81 (.mv (.t 17)), oP 8 (.mv (cI 0)), oP 9 (.mv (.t 81))]) .ret) .skip)) c34_5)))) c34_6)
def c34_8 : C := (.seq (.ops false [oP 62 (.bin .lss (.t 61) (.t 60))]) (.seq (.cond (.t 62) .skip (.exit 2)) c34_7))
def c34_9 : C := (.seq (.ops false [oP 97 (.mv (.t 13)), oB 98 (.call 68 [(.t 97)]), oP 8 (.mv (.t 98)), oP 9 (.mv (cI 0))]) .ret)
def c34_10 : C := (.seq (.ops false [oP 13 (.mv (.c .mt))]) (.seq (.seq (.ops false [oP 59 (.mv (.t 2)), oP 60 (.len (.t 59)), oP 61 (.mv (cI 0))]) (.block 2 (.loop c34_8))) c34_9))
def c34_11 : C := (.seq (.seq (.ops false [oP 27 (.mv (.t 2)), oP 28 (.len (.t 27)), oP 29 (.mv (cI 0))]) (.block 0 (.loop c34_3))) c34_10)
def c34_12 : C := (.seq (.seq (.ops false [oP 24 (.mv (.t 2)), oB 25 (.call 67 [(.t 24)]), oP 26 (.not (.t 25))]) (.cond (.t 26) (.seq (.ops false [oP 8 (.mv (cI 0)), oP 9 (.mv (cI 14))]) .ret) .skip)) c34_11)
def c34 : C := (.seq (.ops false [oP 7 (.box 2 (.t 3)), oP 8 (.mv (cI 0)), oP 9 (.mv (cI 0))]) (.seq (.seq (.ops false [oP 19 (.mv (.t 0)), oB 20 (.call 66 [(.t 19)]), oP 10 (.mv (.t 20))]) (.seq (.ops false [oP 21 (.mv (.t 10)), oP 22 (.bin .neq (.t 21) (cI 0))]) (.cond (.t 22) (.seq (.ops false [oP 23 (.mv (.t 10)), oP 8 (.mv (cI 0)), oP 9 (.mv (.t 23))]) .ret) .skip))) c34_12))
def r34 : List RV := [(.tmp 8), (.tmp 9)]
theorem c34_ok : ∃ code, Tryd.f34.body = some code ∧ compC Tryd.prog Tryd.f34.ntmps code = some (C.strip c34) := ⟨_, rfl, by kernel_rfl⟩
theorem r34_ok : compRes Tryd.prog Tryd.f34.results.toList = some r34 := by kernel_rfl
theorem f34_ok : fnOk Tryd.prog 34 = true := by kernel_rfl
def c37_1 : C := (.seq (.block 2 (.seq (.ops false [oP 24 (.iaS 1 (.t 20) (.t 22)), oP 25 (.ld 1 false (.t 24)), oP 9 (.mv (.t 25))]) (.ops false [oP 26 (.mv (.t 7)), oP 27 (.ld 1 false (.t 2)), oP 28 (.mv (.t 9)), oP 29 (.iaS 1 (.t 27) (.t 28)), oP 30 (.ld 1 false (.t 29)), oP 31 (.bsl 1 1 [(.v (.int .i64 0))] [(0, (.t 30))]), oP 32 (.app 1 8 (.t 26) (.t 31)), oP 7 (.mv (.t 32))])))
  (.ops false [oP 33 (.bin .add (.t 22) (cI 1)), oP 22 (.mv (.t 33))]))
def c37_2 : C := (.seq (.ops false [oP 23 (.bin .lss (.t 22) (.t 21))]) (.seq (.cond (.t 23) .skip (.exit 1)) c37_1))
def c37_3 : C := (.seq (.ops false [oP 34 (.mv (.t 7)), oB 35 (.call 68 [(.t 34)]), oP 4 (.mv (.t 35)), oP 5 (.mv (cI 0))]) .ret)
def c37_4 : C := (.seq (.seq (.ops false [oP 20 (.mv (.t 1)), oP 21 (.len (.t 20)), oP 22 (.mv (cI 0))]) (.block 1 (.loop c37_2))) c37_3)
def c37_5 : C := (.seq (.ops false [oP 7 (.mv (.c .mt))]) (.seq (.seq (.ops false [oP 18 (.ld 1 false (.t 2)), oB 19 (.call 73 [(.t 18), (.c (.clo 75 [] []))])]) (.cond (.t 19) (.seq (.ops false [oP 4 (.mv (cI 0)), oP 5 (.mv (cI 1))]) .ret) .skip)) c37_4))
def c37_6 : C := (.seq (.ops false [oP 10 (.mkf 72 [] [(.t 2)]), oP 6 (.mv (.t 10))]) (.seq (.block 0 (.seq (.ops false [oP 12 (.mv (.t 1)), oP 13 (.mv (.t 6)), oB 14 (.call 73 [(.t 12), (.t 13)]), oP 11 (.mv (.t 14))]) (.cond (.t 11) (.seq (.ops false [oP 4 (.mv (cI 0)), oP 5 (.mv (cI 8))]) .ret) (.seq (.ops false [oP 16 (.mv (.t 1)), oB 17 (.call 74 [(.t 16)]), oP 15 (.mv (.t 17))]) (.cond (.t 15)
  (.seq (.ops false [oP 4 (.mv (cI 0)), oP 5 (.mv (cI 7))]) .ret) .skip))))) (.weak c37_5)))
def c37 : C := (.seq (.ops false [oP 2 (.box 1 (.t 0)), oP 4 (.mv (cI 0)), oP 5 (.mv (cI 0))]) (.weak c37_6))
def r37 : List RV := [(.tmp 4), (.tmp 5)]
theorem c37_ok : ∃ code, Tryd.f37.body = some code ∧ compC Tryd.prog Tryd.f37.ntmps code = some (C.strip c37) := ⟨_, rfl, by kernel_rfl⟩
theorem r37_ok : compRes Tryd.prog Tryd.f37.results.toList = some r37 := by kernel_rfl
theorem f37_ok : fnOk Tryd.prog 37 = true := by kernel_rfl
def c38_1 : C := (.seq (.ops false [oP 29 (.mv (.t 10)), oP 30 (.mv (.t 8)), oP 31 (.bin .sub (.t 29) (.t 30)), oP 6 (.mv (.t 31)), oP 7 (.mv (cI 0))]) .ret)
def c38_2 : C := (.seq (.ops false [oP 21 (.mv (.t 1)), oP 22 (.mv (.t 2)), oB 23 (.call 37 [(.t 21), (.t 22)]), oP 20 (.mv (.t 23)), oP 24 (.ext (.t 20) 0), oP 25 (.ext (.t 20) 1), oP 10 (.mv (.t 24)), oP 9 (.mv (.t 25))]) (.seq (.seq (.ops false [oP 26 (.mv (.t 9)), oP 27 (.bin .neq (.t 26) (cI 0))]) (.cond (.t 27) (.seq (.ops false [oP 28 (.mv (.t 9)), oP 6 (.mv (cI 0)), oP 7 (.mv (.t 28))]) .ret) .skip))
  c38_1))
def c38 : C := (.seq (.ops false [oP 6 (.mv (cI 0)), oP 7 (.mv (cI 0))]) (.seq (.ops false [oP 12 (.mv (.t 0)), oP 13 (.mv (.t 2)), oB 14 (.call 37 [(.t 12), (.t 13)]), oP 11 (.mv (.t 14)), oP 15 (.ext (.t 11) 0), oP 16 (.ext (.t 11) 1), oP 8 (.mv (.t 15)), oP 9 (.mv (.t 16))]) (.seq (.seq (.ops false [oP 17 (.mv (.t 9)), oP 18 (.bin .neq (.t 17) (cI 0))]) (.cond (.t 18) (.seq (.ops false [oP 19 (.mv (.t 9)),
  oP 6 (.mv (cI 0)), oP 7 (.mv (.t 19))]) .ret) .skip)) c38_2)))
def r38 : List RV := [(.tmp 6), (.tmp 7)]
theorem c38_ok : ∃ code, Tryd.f38.body = some code ∧ compC Tryd.prog Tryd.f38.ntmps code = some (C.strip c38) := ⟨_, rfl, by kernel_rfl⟩
theorem r38_ok : compRes Tryd.prog Tryd.f38.results.toList = some r38 := by kernel_rfl
theorem f38_ok : fnOk Tryd.prog 38 = true := by kernel_rfl
def c42_1 : C := (.ops false [oP 58 (.mv (.t 13)), oP 59 (.mv (.t 16)), oP 60 (.bsl 1 1 [(.v (.int .i64 0))] [(0, (.t 59))]), oP 61 (.app 1 8 (.t 58) (.t 60)), oP 13 (.mv (.t 61))])
def c42_2 : C := (.ops false [oP 62 (.bin .add (.t 39) (cI 1)), oP 39 (.mv (.t 62))])
def c42_3 : C := (.seq (.block 2 (.seq (.ops false [oP 41 (.mv (.t 39)), oP 42 (.iaS 1 (.t 37) (.t 39)), oP 43 (.ld 1 false (.t 42)), oP 14 (.mv (.t 41)), oP 15 (.mv (.t 43))]) (.seq (.ops false [oP 45 (.mv (.t 1)), oP 46 (.mv (.t 2)), oP 47 (.mv (.t 15)), oP 48 (.mv (.t 4)), oP 49 (.mv (.t 14)), oP 50 (.iaS 2 (.t 48) (.t 49)), oP 51 (.ld 2 true (.t 50)), oB 52 (.call 34 [(.t 45), (.t 46), (.t 47), (.t 51)]),
  oP 44 (.mv (.t 52)), oP 53 (.ext (.t 44) 0), oP 54 (.ext (.t 44) 1), oP 16 (.mv (.t 53)), oP 17 (.mv (.t 54))]) (.seq (.seq (.ops false [oP 55 (.mv (.t 17)), oP 56 (.bin .neq (.t 55) (cI 0))]) (.cond (.t 56) (.seq (.ops false [oP 57 (.mv (.t 17)), oP 10 (.mv (.c .mt)), oP 11 (.mv (.t 57))]) .ret) .skip)) c42_1)))) c42_2)
def c42_4 : C := (.seq (.ops false [oP 40 (.bin .lss (.t 39) (.t 38))]) (.seq (.cond (.t 40) .skip (.exit 1)) c42_3))
def c42_5 : C := (.seq (.ops false [oP 63 (.mv (.t 13)), oP 10 (.mv (.t 63)), oP 11 (.mv (cI 0))]) .ret)
def c42_6 : C := (.seq (.ops false [oP 13 (.mv (.c .mt))]) (.seq (.seq (.ops false [oP 37 (.mv (.t 3)), oP 38 (.len (.t 37)), oP 39 (.mv (cI 0))]) (.block 1 (.loop c42_4))) c42_5))
def c42_7 : C := (.seq (.block 0 (.seq (.ops false [oP 24 (.mv (.t 3)), oP 25 (.len (.t 24)), oP 26 (.fa 1 (.t 5)), oP 27 (.ld 1 false (.t 26)), oP 28 (.len (.t 27)), oP 29 (.bin .neq (.t 25) (.t 28)), oP 23 (.mv (.t 29))]) (.cond (.t 23) (.seq (.ops false [oP 10 (.mv (.c .mt)), oP 11 (.mv (cI 14))]) .ret) (.seq (.ops false [oP 31 (.mv (.t 4)), oP 32 (.len (.t 31)), oP 33 (.fa 1 (.t 5)),
  oP 34 (.ld 1 false (.t 33)), oP 35 (.len (.t 34)), oP 36 (.bin .neq (.t 32) (.t 35)), oP 30 (.mv (.t 36))]) (.cond (.t 30) (.seq (.ops false [oP 10 (.mv (.c .mt)), oP 11 (.mv (cI 9))]) .ret) .skip))))) c42_6)
def c42 : C := (.seq (.ops false [oP 5 (.box 6 (.t 0)), oP 10 (.mv (.c .mt)), oP 11 (.mv (cI 0))]) (.seq (.seq (.ops false [oP 18 (.ld 6 true (.t 5)), oB 19 (.call 77 [(.t 18)]), oP 12 (.mv (.t 19))]) (.seq (.ops false [oP 20 (.mv (.t 12)), oP 21 (.bin .neq (.t 20) (cI 0))]) (.cond (.t 21) (.seq (.ops false [oP 22 (.mv (.t 12)), oP 10 (.mv (.c .mt)), oP 11 (.mv (.t 22))]) .ret) .skip))) c42_7))
def r42 : List RV := [(.tmp 10), (.tmp 11)]
theorem c42_ok : ∃ code, Tryd.f42.body = some code ∧ compC Tryd.prog Tryd.f42.ntmps code = some (C.strip c42) := ⟨_, rfl, by kernel_rfl⟩
theorem r42_ok : compRes Tryd.prog Tryd.f42.results.toList = some r42 := by kernel_rfl
theorem f42_ok : fnOk Tryd.prog 42 = true := by kernel_rfl
def c43_1 : C := (.ops false [oP 57 (.mv (.t 13)), oP 58 (.mv (.t 15)), oP 59 (.bsl 1 1 [(.v (.int .i64 0))] [(0, (.t 58))]), oP 60 (.app 1 8 (.t 57) (.t 59)), oP 13 (.mv (.t 60))])
def c43_2 : C := (.ops false [oP 38 (.mv (.t 14)), oP 39 (.bin .add (.t 38) (cI 1)), oP 14 (.mv (.t 39))])
def c43_3 : C := (.seq (.block 1 (.seq (.ops true [oP 41 (.mv (.t 1)), oP 42 (.mv (.t 2)), oP 43 (.mv (.t 3)), oP 44 (.mv (.t 14)), oA 45 (.iaS 1 (.t 43) (.t 44)) [3, 2], oA 46 (.ld 1 false (.t 45)) [2, 3, 4], oP 47 (.mv (.t 4)), oP 48 (.mv (.t 14)), oA 49 (.iaS 2 (.t 47) (.t 48)) [7, 6], oA 50 (.ld 2 true (.t 49)) [6, 7, 8], oE 51 (.call 45 [(.t 41), (.t 42), (.t 46), (.t 50)]) [8, 7, 6, 4, 3, 2, 9, 5, 1, 0],
  oA 40 (.mv (.t 51)) [0, 1, 5, 9, 2, 3, 4, 6, 7, 8, 10], oA 52 (.ext (.t 40) 0) [10, 8, 7, 6, 4, 3, 2, 9, 5, 1, 0, 11], oA 53 (.ext (.t 40) 1) [10, 8, 7, 6, 4, 3, 2, 9, 5, 1, 0, 11], oA 15 (.mv (.t 52)) [11, 9, 8, 7, 6, 5, 4, 3, 2, 1, 0, 10, 12], oA 16 (.mv (.t 53)) [12, 11, 10, 9, 8, 7, 6, 5, 4, 3, 2, 1, 0, 14, 13]]) (.seq (.seq (.ops false [oP 54 (.mv (.t 16)), oP 55 (.bin .neq (.t 54) (cI 0))])
  (.cond (.t 55) (.seq (.ops false [oP 56 (.mv (.t 16)), oP 10 (.mv (.c .mt)), oP 11 (.mv (.t 56))]) .ret) .skip)) c43_1))) c43_2)
def c43_4 : C := (.seq (.seq (.ops false [oP 34 (.mv (.t 14)), oP 35 (.mv (.t 3)), oP 36 (.len (.t 35)), oP 37 (.bin .lss (.t 34) (.t 36))]) (.cond (.t 37) .skip (.exit 0))) c43_3)
def c43_5 : C := (.seq (.ops false [oP 61 (.mv (.t 13)), oP 10 (.mv (.t 61)), oP 11 (.mv (cI 0))]) .ret)
def c43_6 : C := (.seq (.ops false [oP 13 (.mv (.c .mt))]) (.seq (.seq (.ops false [oP 14 (.mv (cI 0))]) (.block 0 (.loop c43_4))) c43_5))
def c43_7 : C := (.seq (.seq (.ops false [oP 28 (.mv (.t 4)), oP 29 (.len (.t 28)), oP 30 (.fa 1 (.t 5)), oP 31 (.ld 1 false (.t 30)), oP 32 (.len (.t 31)), oP 33 (.bin .neq (.t 29) (.t 32))]) (.cond (.t 33) (.seq (.ops false [oP 10 (.mv (.c .mt)), oP 11 (.mv (cI 9))]) .ret) .skip)) c43_6)
def c43_8 : C := (.seq (.seq (.ops false [oP 22 (.mv (.t 3)), oP 23 (.len (.t 22)), oP 24 (.fa 1 (.t 5)), oP 25 (.ld 1 false (.t 24)), oP 26 (.len (.t 25)), oP 27 (.bin .neq (.t 23) (.t 26))]) (.cond (.t 27) (.seq (.ops false [oP 10 (.mv (.c .mt)), oP 11 (.mv (cI 14))]) .ret) .skip)) c43_7)
def c43 : C := (.seq (.ops false [oP 5 (.box 6 (.t 0)), oP 10 (.mv (.c .mt)), oP 11 (.mv (cI 0))]) (.seq (.seq (.ops false [oP 17 (.ld 6 true (.t 5)), oB 18 (.call 78 [(.t 17)]), oP 12 (.mv (.t 18))]) (.seq (.ops false [oP 19 (.mv (.t 12)), oP 20 (.bin .neq (.t 19) (cI 0))]) (.cond (.t 20) (.seq (.ops false [oP 21 (.mv (.t 12)), oP 10 (.mv (.c .mt)), oP 11 (.mv (.t 21))]) .ret) .skip))) c43_8))
def r43 : List RV := [(.tmp 10), (.tmp 11)]
theorem c43_ok : ∃ code, Tryd.f43.body = some code ∧ compC Tryd.prog Tryd.f43.ntmps code = some (C.strip c43) := ⟨_, rfl, by kernel_rfl⟩
theorem r43_ok : compRes Tryd.prog Tryd.f43.results.toList = some r43 := by kernel_rfl
theorem f43_ok : fnOk Tryd.prog 43 = true := by kernel_rfl
def c45_1 : C := (.ops false [oP 29 (.mv (.t 11)), oP 30 (.bin .add (.t 29) (cI 1)), oP 11 (.mv (.t 30))])
def c45_2 : C := (.seq (.block 1 (.seq (.ops false [oP 31 (.mv (.t 2)), oP 32 (.mv (.t 11)), oP 33 (.iaS 2 (.t 31) (.t 32)), oP 34 (.fa 0 (.t 33)), oP 35 (.ld 1 false (.t 34)), oP 36 (.mv (.t 1)), oP 37 (.len (.t 36)), oP 38 (.bin .geq (.t 35) (.t 37)), oP 39 (.mv (.t 38)), oG 40 39 false (.mv (.t 1)), oG 41 39 false (.mv (.t 2)), oG 42 39 false (.mv (.t 11)), oG 43 39 false (.iaS 2 (.t 41) (.t 42)),
  oG 44 39 false (.fa 0 (.t 43)), oG 45 39 false (.ld 1 false (.t 44)), oG 46 39 false (.iaS 4 (.t 40) (.t 45)), oG 47 39 false (.fa 0 (.t 46)), oG 48 39 false (.ld 1 false (.t 47)), oG 49 39 false (.bin .lss (.t 48) (cI 0)), oP 50 (.pick (.t 39) (cB true) (.t 49)), oP 51 (.mv (.t 50)), oG 52 51 false (.mv (.t 1)), oG 53 51 false (.mv (.t 2)), oG 54 51 false (.mv (.t 11)),
  oG 55 51 false (.iaS 2 (.t 53) (.t 54)), oG 56 51 false (.fa 0 (.t 55)), oG 57 51 false (.ld 1 false (.t 56)), oG 58 51 false (.iaS 4 (.t 52) (.t 57)), oG 59 51 false (.fa 0 (.t 58)), oG 60 51 false (.ld 1 false (.t 59)), oG 61 51 false (.mv (.t 0)), oG 62 51 false (.len (.t 61)), oG 63 51 false (.bin .geq (.t 60) (.t 62)), oP 64 (.pick (.t 51) (cB true) (.t 63))]) (.cond (.t 64)
  (.seq (.ops false [oP 8 (.mv (cI 0)), oP 9 (.mv (cI 8))]) .ret) .skip))) c45_1)
def c45_3 : C := (.seq (.seq (.ops false [oP 25 (.mv (.t 11)), oP 26 (.mv (.t 2)), oP 27 (.len (.t 26)), oP 28 (.bin .lss (.t 25) (.t 27))]) (.cond (.t 28) .skip (.exit 0))) c45_2)
def c45_4 : C := (.ops false [oP 104 (.mv (.t 12)), oP 105 (.mv (.t 16)), oP 106 (.bin .add (.t 104) (.t 105)), oP 12 (.mv (.t 106))])
def c45_5 : C := (.seq (.ops false [oP 92 (.mv (.t 2)), oP 93 (.mv (.t 13)), oP 94 (.iaS 2 (.t 92) (.t 93)), oP 95 (.fa 1 (.t 94)), oP 96 (.ld 1 false (.t 95)), oP 97 (.mv (.t 14)), oB 98 (.call 61 [(.t 96), (.t 97)]), oP 91 (.mv (.t 98)), oP 99 (.ext (.t 91) 0), oP 100 (.ext (.t 91) 1), oP 16 (.mv (.t 99)), oP 15 (.mv (.t 100))]) (.seq (.seq (.ops false [oP 101 (.mv (.t 15)), oP 102 (.bin .neq (.t 101) (cI 0))])
  (.cond (.t 102) (.seq (.ops false [oP 103 (.mv (.t 15)), oP 8 (.mv (cI 0)), oP 9 (.mv (.t 103))]) .ret) .skip)) c45_4))
def c45_6 : C := (.ops false [oP 69 (.mv (.t 13)), oP 70 (.bin .add (.t 69) (cI 1)), oP 13 (.mv (.t 70))])
def c45_7 : C := (.seq (.block 3 (.seq (.ops true [oP 72 (.mv (.t 0)), oP 73 (.mv (.t 1)), oP 74 (.mv (.t 2)), oP 75 (.mv (.t 13)), oA 76 (.iaS 2 (.t 74) (.t 75)) [3, 2], oA 77 (.fa 0 (.t 76)) [2, 3, 4], oA 78 (.ld 1 false (.t 77)) [4, 3, 2, 5], oA 79 (.iaS 4 (.t 73) (.t 78)) [5, 2, 3, 4, 6, 1], oA 80 (.fa 0 (.t 79)) [1, 6, 4, 3, 2, 5, 7], oA 81 (.ld 1 false (.t 80)) [7, 5, 2, 3, 4, 6, 1, 8], oA 82 (.iaS 5 (.t 72)
  (.t 81)) [8, 1, 6, 4, 3, 2, 5, 7, 9, 0], oA 83 (.ld 5 true (.t 82)) [0, 9, 7, 5, 2, 3, 4, 6, 1, 8, 10], oP 84 (.ld 2 true (.t 7)), oE 85 (.call 35 [(.t 83), (.t 84)]) [10, 8, 1, 6, 4, 3, 2, 5, 7, 9, 0, 12, 11], oA 71 (.mv (.t 85)) [11, 12, 0, 9, 7, 5, 2, 3, 4, 6, 1, 8, 10, 13], oA 86 (.ext (.t 71) 0) [13, 10, 8, 1, 6, 4, 3, 2, 5, 7, 9, 0, 12, 11, 14], oA 87 (.ext (.t 71) 1) [13, 10, 8, 1, 6, 4, 3,
  2, 5, 7, 9, 0, 12, 11, 14], oA 14 (.mv (.t 86)) [14, 12, 11, 10, 9, 8, 7, 6, 5, 4, 3, 2, 1, 0, 13, 15], oA 15 (.mv (.t 87)) [15, 14, 13, 12, 11, 10, 9, 8, 7, 6, 5, 4, 3, 2, 1, 0, 17, 16]]) (.seq (.seq (.ops false [oP 88 (.mv (.t 15)), oP 89 (.bin .neq (.t 88) (cI 0))]) (.cond (.t 89) (.seq (.ops false [oP 90 (.mv (.t 15)), oP 8 (.mv (cI 0)), oP 9 (.mv (.t 90))]) .ret) .skip)) c45_5))) c45_6)
def c45_8 : C := (.seq (.seq (.ops false [oP 65 (.mv (.t 13)), oP 66 (.mv (.t 2)), oP 67 (.len (.t 66)), oP 68 (.bin .lss (.t 65) (.t 67))]) (.cond (.t 68) .skip (.exit 2))) c45_7)
def c45_9 : C := (.seq (.ops false [oP 107 (.mv (.t 12)), oP 8 (.mv (.t 107)), oP 9 (.mv (cI 0))]) .ret)
def c45_10 : C := (.seq (.ops false [oP 12 (.mv (cI 0))]) (.seq (.seq (.ops false [oP 13 (.mv (cI 0))]) (.block 2 (.loop c45_8))) c45_9))
def c45_11 : C := (.seq (.seq (.ops false [oP 11 (.mv (cI 0))]) (.block 0 (.loop c45_3))) c45_10)
def c45_12 : C := (.seq (.seq (.ops false [oP 22 (.mv (.t 2)), oB 23 (.call 70 [(.t 22)]), oP 24 (.not (.t 23))]) (.cond (.t 24) (.seq (.ops false [oP 8 (.mv (cI 0)), oP 9 (.mv (cI 14))]) .ret) .skip)) c45_11)
def c45 : C := (.seq (.ops false [oP 7 (.box 2 (.t 3)), oP 8 (.mv (cI 0)), oP 9 (.mv (cI 0))]) (.seq (.seq (.ops false [oP 17 (.mv (.t 0)), oB 18 (.call 79 [(.t 17)]), oP 10 (.mv (.t 18))]) (.seq (.ops false [oP 19 (.mv (.t 10)), oP 20 (.bin .neq (.t 19) (cI 0))]) (.cond (.t 20) (.seq (.ops false [oP 21 (.mv (.t 10)), oP 8 (.mv (cI 0)), oP 9 (.mv (.t 21))]) .ret) .skip))) c45_12))
def r45 : List RV := [(.tmp 8), (.tmp 9)]
theorem c45_ok : ∃ code, Tryd.f45.body = some code ∧ compC Tryd.prog Tryd.f45.ntmps code = some (C.strip c45) := ⟨_, rfl, by kernel_rfl⟩
theorem r45_ok : compRes Tryd.prog Tryd.f45.results.toList = some r45 := by kernel_rfl
theorem f45_ok : fnOk Tryd.prog 45 = true := by kernel_rfl
def c46_1 : C := (.ops false [oP 16 (.mv (.t 6)), oP 17 (.bin .add (.t 16) (cI 1)), oP 6 (.mv (.t 17))])
def c46_2 : C := (.seq (.block 1 (.seq (.ops false [oP 18 (.mv (.t 1)), oP 19 (.mv (.t 6)), oP 20 (.iaS 1 (.t 18) (.t 19)), oP 21 (.ld 1 false (.t 20)), oP 22 (.bin .lss (.t 21) (cI 0)), oP 23 (.mv (.t 22)), oG 24 23 false (.mv (.t 1)), oG 25 23 false (.mv (.t 6)), oG 26 23 false (.iaS 1 (.t 24) (.t 25)), oG 27 23 false (.ld 1 false (.t 26)), oG 28 23 false (.mv (.t 0)), oG 29 23 false (.len (.t 28)),
  oG 30 23 false (.bin .geq (.t 27) (.t 29)), oP 31 (.pick (.t 23) (cB true) (.t 30))]) (.cond (.t 31) (.seq (.ops false [oP 4 (.mv (cI 0)), oP 5 (.mv (cI 8))]) .ret) .skip))) c46_1)
def c46_3 : C := (.seq (.seq (.ops false [oP 12 (.mv (.t 6)), oP 13 (.mv (.t 1)), oP 14 (.len (.t 13)), oP 15 (.bin .lss (.t 12) (.t 14))]) (.cond (.t 15) .skip (.exit 0))) c46_2)
def c46_4 : C := (.ops false [oP 48 (.mv (.t 7)), oP 49 (.mv (.t 1)), oP 50 (.mv (.t 8)), oP 51 (.iaS 1 (.t 49) (.t 50)), oP 52 (.ld 1 false (.t 51)), oP 53 (.iaS 1 (.t 48) (.t 52)), oS (.st 1 (.t 53) (cB true))])
def c46_5 : C := (.ops false [oP 39 (.mv (.t 8)), oP 40 (.bin .add (.t 39) (cI 1)), oP 8 (.mv (.t 40))])
def c46_6 : C := (.seq (.block 3 (.seq (.seq (.ops false [oP 41 (.mv (.t 7)), oP 42 (.mv (.t 1)), oP 43 (.mv (.t 8)), oP 44 (.iaS 1 (.t 42) (.t 43)), oP 45 (.ld 1 false (.t 44)), oP 46 (.iaS 1 (.t 41) (.t 45)), oP 47 (.ld 1 false (.t 46))]) (.cond (.t 47) (.seq (.ops false [oP 4 (.mv (cI 0)), oP 5 (.mv (cI 7))]) .ret) .skip)) c46_4)) c46_5)
def c46_7 : C := (.seq (.seq (.ops false [oP 35 (.mv (.t 8)), oP 36 (.mv (.t 1)), oP 37 (.len (.t 36)), oP 38 (.bin .lss (.t 35) (.t 37))]) (.cond (.t 38) .skip (.exit 2))) c46_6)
def c46_8 : C := (.ops false [oP 58 (.mv (.t 9)), oP 59 (.bin .add (.t 58) (cI 1)), oP 9 (.mv (.t 59))])
def c46_9 : C := (.seq (.block 5 (.seq (.ops false [oP 60 (.mv (.t 0)), oP 61 (.mv (.t 9)), oP 62 (.iaS 1 (.t 60) (.t 61)), oP 63 (.ld 1 false (.t 62)), oP 64 (.bin .lss (.t 63) (cI 0)), oP 65 (.mv (.t 64)), oG 66 65 false (.mv (.t 0)), oG 67 65 false (.mv (.t 9)), oG 68 65 false (.iaS 1 (.t 66) (.t 67)), oG 69 65 false (.ld 1 false (.t 68)), oG 70 65 false (.bin .gtr (.t 69) (cI 1099511627776)),
  oP 71 (.pick (.t 65) (cB true) (.t 70))]) (.cond (.t 71) (.seq (.ops false [oP 4 (.mv (cI 0)), oP 5 (.mv (cI 1))]) .ret) .skip))) c46_8)
def c46_10 : C := (.seq (.seq (.ops false [oP 54 (.mv (.t 9)), oP 55 (.mv (.t 0)), oP 56 (.len (.t 55)), oP 57 (.bin .lss (.t 54) (.t 56))]) (.cond (.t 57) .skip (.exit 4))) c46_9)
def c46_11 : C := (.seq (.block 7 (.ops false [oP 78 (.mv (.t 10)), oP 79 (.mv (.t 0)), oP 80 (.mv (.t 1)), oP 81 (.mv (.t 11)), oP 82 (.iaS 1 (.t 80) (.t 81)), oP 83 (.ld 1 false (.t 82)), oP 84 (.iaS 1 (.t 79) (.t 83)), oP 85 (.ld 1 false (.t 84)), oP 86 (.bin .add (.t 78) (.t 85)), oP 10 (.mv (.t 86))])) (.ops false [oP 76 (.mv (.t 11)), oP 77 (.bin .add (.t 76) (cI 1)), oP 11 (.mv (.t 77))]))
def c46_12 : C := (.seq (.seq (.ops false [oP 72 (.mv (.t 11)), oP 73 (.mv (.t 1)), oP 74 (.len (.t 73)), oP 75 (.bin .lss (.t 72) (.t 74))]) (.cond (.t 75) .skip (.exit 6))) c46_11)
def c46_13 : C := (.seq (.ops false [oP 87 (.mv (.t 10)), oP 4 (.mv (.t 87)), oP 5 (.mv (cI 0))]) .ret)
def c46_14 : C := (.seq (.ops false [oP 10 (.mv (cI 0))]) (.seq (.seq (.ops false [oP 11 (.mv (cI 0))]) (.block 6 (.loop c46_12))) c46_13))
def c46_15 : C := (.seq (.seq (.ops false [oP 9 (.mv (cI 0))]) (.block 4 (.loop c46_10))) c46_14)
def c46_16 : C := (.seq (.ops false [oP 32 (.mv (.t 0)), oP 33 (.len (.t 32)), oP 34 (.mks 1 1 [(.v (.bool false))] (.t 33)), oP 7 (.mv (.t 34))]) (.seq (.seq (.ops false [oP 8 (.mv (cI 0))]) (.block 2 (.loop c46_7))) c46_15))
def c46 : C := (.seq (.ops false [oP 4 (.mv (cI 0)), oP 5 (.mv (cI 0))]) (.seq (.seq (.ops false [oP 6 (.mv (cI 0))]) (.block 0 (.loop c46_3))) c46_16))
def r46 : List RV := [(.tmp 4), (.tmp 5)]
theorem c46_ok : ∃ code, Tryd.f46.body = some code ∧ compC Tryd.prog Tryd.f46.ntmps code = some (C.strip c46) := ⟨_, rfl, by kernel_rfl⟩
theorem r46_ok : compRes Tryd.prog Tryd.f46.results.toList = some r46 := by kernel_rfl
theorem f46_ok : fnOk Tryd.prog 46 = true := by kernel_rfl
def c47_1 : C := (.seq (.ops false [oP 29 (.mv (.t 10)), oP 30 (.mv (.t 8)), oP 31 (.bin .sub (.t 29) (.t 30)), oP 6 (.mv (.t 31)), oP 7 (.mv (cI 0))]) .ret)
def c47_2 : C := (.seq (.ops false [oP 21 (.mv (.t 1)), oP 22 (.mv (.t 2)), oB 23 (.call 46 [(.t 21), (.t 22)]), oP 20 (.mv (.t 23)), oP 24 (.ext (.t 20) 0), oP 25 (.ext (.t 20) 1), oP 10 (.mv (.t 24)), oP 9 (.mv (.t 25))]) (.seq (.seq (.ops false [oP 26 (.mv (.t 9)), oP 27 (.bin .neq (.t 26) (cI 0))]) (.cond (.t 27) (.seq (.ops false [oP 28 (.mv (.t 9)), oP 6 (.mv (cI 0)), oP 7 (.mv (.t 28))]) .ret) .skip))
  c47_1))
def c47 : C := (.seq (.ops false [oP 6 (.mv (cI 0)), oP 7 (.mv (cI 0))]) (.seq (.ops false [oP 12 (.mv (.t 0)), oP 13 (.mv (.t 2)), oB 14 (.call 46 [(.t 12), (.t 13)]), oP 11 (.mv (.t 14)), oP 15 (.ext (.t 11) 0), oP 16 (.ext (.t 11) 1), oP 8 (.mv (.t 15)), oP 9 (.mv (.t 16))]) (.seq (.seq (.ops false [oP 17 (.mv (.t 9)), oP 18 (.bin .neq (.t 17) (cI 0))]) (.cond (.t 18) (.seq (.ops false [oP 19 (.mv (.t 9)),
  oP 6 (.mv (cI 0)), oP 7 (.mv (.t 19))]) .ret) .skip)) c47_2)))
def r47 : List RV := [(.tmp 6), (.tmp 7)]
theorem c47_ok : ∃ code, Tryd.f47.body = some code ∧ compC Tryd.prog Tryd.f47.ntmps code = some (C.strip c47) := ⟨_, rfl, by kernel_rfl⟩
theorem r47_ok : compRes Tryd.prog Tryd.f47.results.toList = some r47 := by kernel_rfl
theorem f47_ok : fnOk Tryd.prog 47 = true := by kernel_rfl
def c66_1 : C := (.ops false [oP 19 (.bin .add (.t 12) (cI 1)), oP 12 (.mv (.t 19))])
def c66_2 : C := (.seq (.block 1 (.seq (.ops false [oP 14 (.iaS 5 (.t 10) (.t 12)), oP 15 (.ld 5 true (.t 14)), oP 4 (.new [(.v (.string ({ data := #[] }))), (.v (.int .i64 0)), (.v (.int .i64 0)), (.v (.int .i64 0)), (.v (.int .i64 0))]), oS (.st 5 (.t 4) (.t 15))]) (.seq (.ops false [oP 16 (.ld 5 true (.t 4)), oB 17 (.call 91 [(.t 16)]), oP 18 (.not (.t 17))]) (.cond (.t 18)
  (.seq (.ops false [oP 2 (.mv (cI 9))]) .ret) .skip)))) c66_1)
def c66_3 : C := (.seq (.ops false [oP 13 (.bin .lss (.t 12) (.t 11))]) (.seq (.cond (.t 13) .skip (.exit 0)) c66_2))
def c66_4 : C := (.ops false [oP 33 (.bin .add (.t 22) (cI 1)), oP 22 (.mv (.t 33))])
def c66_5 : C := (.seq (.block 3 (.seq (.ops false [oP 24 (.mv (.t 22)), oP 25 (.iaS 5 (.t 20) (.t 22)), oP 26 (.ld 5 true (.t 25)), oP 6 (.new [(.v (.string ({ data := #[] }))), (.v (.int .i64 0)), (.v (.int .i64 0)), (.v (.int .i64 0)), (.v (.int .i64 0))]), oP 5 (.mv (.t 24)), oS (.st 5 (.t 6) (.t 26))]) (.seq (.ops false [oP 27 (.mv (.t 0)), oP 28 (.fa 0 (.t 6)), oP 29 (.ld 1 false (.t 28)),
  oB 30 (.call 102 [(.t 27), (.t 29)]), oP 31 (.mv (.t 5)), oP 32 (.bin .lss (.t 30) (.t 31))]) (.cond (.t 32) (.seq (.ops false [oP 2 (.mv (cI 7))]) .ret) .skip)))) c66_4)
def c66_6 : C := (.seq (.ops false [oP 23 (.bin .lss (.t 22) (.t 21))]) (.seq (.cond (.t 23) .skip (.exit 2)) c66_5))
def c66_7 : C := (.seq (.ops false [oP 2 (.mv (cI 0))]) .ret)
def c66_8 : C := (.seq (.seq (.ops false [oP 20 (.mv (.t 0)), oP 21 (.len (.t 20)), oP 22 (.mv (cI 0))]) (.block 2 (.loop c66_6))) c66_7)
def c66_9 : C := (.seq (.seq (.ops false [oP 10 (.mv (.t 0)), oP 11 (.len (.t 10)), oP 12 (.mv (cI 0))]) (.block 0 (.loop c66_3))) c66_8)
def c66 : C := (.seq (.ops false [oP 2 (.mv (cI 0))]) (.seq (.seq (.ops false [oP 7 (.mv (.t 0)), oP 8 (.len (.t 7)), oP 9 (.bin .gtr (.t 8) (cI 16))]) (.cond (.t 9) (.seq (.ops false [oP 2 (.mv (cI 4))]) .ret) .skip)) c66_9))
def r66 : List RV := [(.tmp 2)]
theorem c66_ok : ∃ code, Tryd.f66.body = some code ∧ compC Tryd.prog Tryd.f66.ntmps code = some (C.strip c66) := ⟨_, rfl, by kernel_rfl⟩
theorem r66_ok : compRes Tryd.prog Tryd.f66.results.toList = some r66 := by kernel_rfl
theorem f66_ok : fnOk Tryd.prog 66 = true := by kernel_rfl
def c67_1 : C := (.ops false [oP 38 (.bin .add (.t 10) (cI 1)), oP 10 (.mv (.t 38))])
def c67_2 : C := (.seq (.block 1 (.seq (.ops false [oP 12 (.mv (.t 10)), oP 13 (.iaS 2 (.t 8) (.t 10)), oP 14 (.ld 2 true (.t 13)), oP 4 (.new [(.v (.int .i64 0)), (.v (.int .i64 0))]), oP 3 (.mv (.t 12)), oS (.st 2 (.t 4) (.t 14))]) (.seq (.ops true [oP 15 (.ld 2 true (.t 4)), oE 16 (.call 103 [(.t 15)]) [0], oA 17 (.not (.t 16)) [0, 1], oA 18 (.mv (.t 17)) [0, 1, 2], oH 19 18 false (.fa 1 (.t 4)) [2, 1, 0, 3],
  oH 20 18 false (.ld 1 false (.t 19)) [0, 1, 2, 3, 4], oH 21 18 false (.bin .eql (.t 20) (cI 0)) [4, 2, 1, 0, 3, 5], oA 22 (.pick (.t 18) (cB true) (.t 21)) [5, 4, 2, 1, 0, 6, 3], oA 23 (.mv (.t 22)) [6, 0, 1, 2, 4, 5, 3, 7], oH 24 23 false (.mv (.t 3)) [7, 3, 5, 4, 2, 1, 0, 6, 8], oH 25 23 false (.bin .gtr (.t 24) (cI 0)) [6, 0, 1, 2, 4, 5, 3, 7, 8, 9], oH 26 23 false (.mv (.t 25)) [9, 7, 3, 5, 4,
  2, 1, 0, 6, 8, 10], oH 27 26 true (.mv (.t 0)) [10, 8, 6, 0, 1, 2, 4, 5, 3, 7, 9, 11], oH 28 26 true (.mv (.t 3)) [10, 8, 6, 0, 1, 2, 4, 5, 3, 7, 9, 11], oH 29 26 true (.bin .sub (.t 28) (cI 1)) [9, 7, 3, 5, 4, 2, 1, 0, 6, 8, 10, 11, 13], oH 30 26 true (.iaS 2 (.t 27) (.t 29)) [13, 9, 7, 3, 5, 4, 2, 1, 0, 6, 8, 10, 11, 14, 12], oH 31 26 true (.fa 0 (.t 30)) [12, 14, 10, 8, 6, 0, 1, 2, 4, 5, 3, 7,
  9, 13, 11, 15], oH 32 26 true (.ld 1 false (.t 31)) [15, 13, 9, 7, 3, 5, 4, 2, 1, 0, 6, 8, 10, 14, 12, 11, 16], oH 33 26 true (.fa 0 (.t 4)) [10, 8, 6, 0, 1, 2, 4, 5, 3, 7, 9, 11], oH 34 26 true (.ld 1 false (.t 33)) [9, 7, 3, 5, 4, 2, 1, 0, 6, 8, 10, 11, 18], oH 35 26 true (.bin .eql (.t 32) (.t 34)) [18, 16, 12, 14, 10, 8, 6, 0, 1, 2, 4, 5, 3, 7, 9, 13, 15, 11, 19, 17],
  oH 36 23 false (.pick (.t 26) (.t 35) (cB false)) [17, 19, 15, 13, 14, 12, 16, 18, 10, 6, 0, 1, 2, 4, 5, 3, 7, 9, 8, 20, 11], oA 37 (.pick (.t 23) (cB true) (.t 36)) [11, 20, 9, 10, 18, 16, 12, 14, 13, 15, 19, 17, 7, 3, 5, 4, 2, 1, 0, 6, 21, 8]]) (.cond (.t 37) (.seq (.ops false [oP 2 (.mv (cB false))]) .ret) .skip)))) c67_1)
def c67_3 : C := (.seq (.ops false [oP 11 (.bin .lss (.t 10) (.t 9))]) (.seq (.cond (.t 11) .skip (.exit 0)) c67_2))
def c67_4 : C := (.seq (.ops false [oP 39 (.mv (.t 0)), oB 40 (.call 104 [(.t 39)]), oP 41 (.bin .leq (.t 40) (cI 1000000)), oP 2 (.mv (.t 41))]) .ret)
def c67_5 : C := (.seq (.seq (.ops false [oP 8 (.mv (.t 0)), oP 9 (.len (.t 8)), oP 10 (.mv (cI 0))]) (.block 0 (.loop c67_3))) c67_4)
def c67 : C := (.seq (.ops false [oP 2 (.mv (cB false))]) (.seq (.seq (.ops false [oP 5 (.mv (.t 0)), oP 6 (.len (.t 5)), oP 7 (.bin .gtr (.t 6) (cI 200))]) (.cond (.t 7) (.seq (.ops false [oP 2 (.mv (cB false))]) .ret) .skip)) c67_5))
def r67 : List RV := [(.tmp 2)]
theorem c67_ok : ∃ code, Tryd.f67.body = some code ∧ compC Tryd.prog Tryd.f67.ntmps code = some (C.strip c67) := ⟨_, rfl, by kernel_rfl⟩
theorem r67_ok : compRes Tryd.prog Tryd.f67.results.toList = some r67 := by kernel_rfl
theorem f67_ok : fnOk Tryd.prog 67 = true := by kernel_rfl
def c68_1 : C := (.seq (.block 1 (.seq (.ops false [oP 10 (.iaS 1 (.t 6) (.t 8)), oP 11 (.ld 1 false (.t 10)), oP 5 (.mv (.t 11))]) (.ops false [oP 12 (.mv (.t 3)), oP 13 (.mv (.t 5)), oP 14 (.bin .add (.t 12) (.t 13)), oP 3 (.mv (.t 14))]))) (.ops false [oP 15 (.bin .add (.t 8) (cI 1)), oP 8 (.mv (.t 15))]))
def c68_2 : C := (.seq (.ops false [oP 9 (.bin .lss (.t 8) (.t 7))]) (.seq (.cond (.t 9) .skip (.exit 0)) c68_1))
def c68_3 : C := (.seq (.ops false [oP 16 (.mv (.t 3)), oP 2 (.mv (.t 16))]) .ret)
def c68 : C := (.seq (.ops false [oP 2 (.mv (cI 0))]) (.seq (.ops false [oP 3 (.mv (cI 0))]) (.seq (.seq (.ops false [oP 6 (.mv (.t 0)), oP 7 (.len (.t 6)), oP 8 (.mv (cI 0))]) (.block 0 (.loop c68_2))) c68_3)))
def r68 : List RV := [(.tmp 2)]
theorem c68_ok : ∃ code, Tryd.f68.body = some code ∧ compC Tryd.prog Tryd.f68.ntmps code = some (C.strip c68) := ⟨_, rfl, by kernel_rfl⟩
theorem r68_ok : compRes Tryd.prog Tryd.f68.results.toList = some r68 := by kernel_rfl
theorem f68_ok : fnOk Tryd.prog 68 = true := by kernel_rfl
def c70_1 : C := (.ops false [oP 45 (.mv (.t 3)), oP 46 (.fa 1 (.t 5)), oP 47 (.ld 1 false (.t 46)), oP 48 (.bin .add (.t 45) (.t 47)), oP 3 (.mv (.t 48))])
def c70_2 : C := (.ops false [oP 49 (.bin .add (.t 11) (cI 1)), oP 11 (.mv (.t 49))])
def c70_3 : C := (.seq (.block 1 (.seq (.ops false [oP 13 (.mv (.t 11)), oP 14 (.iaS 2 (.t 9) (.t 11)), oP 15 (.ld 2 true (.t 14)), oP 5 (.new [(.v (.int .i64 0)), (.v (.int .i64 0))]), oP 4 (.mv (.t 13)), oS (.st 2 (.t 5) (.t 15))]) (.seq (.seq (.ops true [oP 16 (.fa 0 (.t 5)), oA 17 (.ld 1 false (.t 16)) [0], oE 18 (.call 107 [(.t 17)]) [0, 1], oA 19 (.not (.t 18)) [1, 0, 2], oA 20 (.mv (.t 19)) [0, 1, 2, 3],
  oH 21 20 false (.fa 1 (.t 5)) [3, 2, 1, 0, 4], oH 22 20 false (.ld 1 false (.t 21)) [0, 1, 2, 3, 4, 5], oH 23 20 false (.bin .lss (.t 22) (cI 1)) [5, 3, 2, 1, 0, 4, 6], oA 24 (.pick (.t 20) (cB true) (.t 23)) [6, 5, 3, 2, 1, 0, 7, 4], oA 25 (.mv (.t 24)) [7, 0, 1, 2, 3, 5, 6, 4, 8], oH 26 25 false (.fa 1 (.t 5)) [8, 4, 6, 5, 3, 2, 1, 0, 7, 9], oH 27 25 false (.ld 1 false (.t 26)) [7, 0, 1, 2, 3,
  5, 6, 4, 8, 9, 10], oH 28 25 false (.bin .gtr (.t 27) (cI 1000000)) [10, 8, 4, 6, 5, 3, 2, 1, 0, 7, 9, 11], oA 29 (.pick (.t 25) (cB true) (.t 28)) [11, 10, 8, 4, 6, 5, 3, 2, 1, 0, 7, 12, 9], oA 30 (.mv (.t 29)) [12, 7, 0, 1, 2, 3, 5, 6, 4, 8, 10, 11, 9, 13], oH 31 30 false (.mv (.t 4)) [13, 9, 11, 10, 8, 4, 6, 5, 3, 2, 1, 0, 7, 12, 14], oH 32 30 false (.bin .gtr (.t 31) (cI 0)) [12, 7, 0, 1, 2,
  3, 5, 6, 4, 8, 10, 11, 9, 13, 14, 15], oH 33 30 false (.mv (.t 32)) [15, 13, 9, 11, 10, 8, 4, 6, 5, 3, 2, 1, 0, 7, 12, 14, 16], oH 34 33 true (.fa 0 (.t 5)) [16, 14, 12, 7, 0, 1, 2, 3, 5, 6, 4, 8, 10, 11, 9, 13, 15, 17], oH 35 33 true (.ld 1 false (.t 34)) [15, 13, 9, 11, 10, 8, 4, 6, 5, 3, 2, 1, 0, 7, 12, 14, 16, 17, 18], oH 36 33 true (.mv (.t 0)) [16, 14, 12, 7, 0, 1, 2, 3, 5, 6, 4, 8, 10, 11,
  9, 13, 15, 17], oH 37 33 true (.mv (.t 4)) [16, 14, 12, 7, 0, 1, 2, 3, 5, 6, 4, 8, 10, 11, 9, 13, 15, 17], oH 38 33 true (.bin .sub (.t 37) (cI 1)) [15, 13, 9, 11, 10, 8, 4, 6, 5, 3, 2, 1, 0, 7, 12, 14, 16, 17, 21], oH 39 33 true (.iaS 2 (.t 36) (.t 38)) [21, 15, 13, 9, 11, 10, 8, 4, 6, 5, 3, 2, 1, 0, 7, 12, 14, 16, 17, 22, 20], oH 40 33 true (.fa 0 (.t 39)) [20, 22, 16, 14, 12, 7, 0, 1, 2, 3, 5,
  6, 4, 8, 10, 11, 9, 13, 15, 21, 17, 23], oH 41 33 true (.ld 1 false (.t 40)) [23, 21, 15, 13, 9, 11, 10, 8, 4, 6, 5, 3, 2, 1, 0, 7, 12, 14, 16, 22, 20, 17, 24], oH 42 33 true (.bin .eql (.t 35) (.t 41)) [24, 20, 22, 21, 23, 18, 16, 14, 12, 7, 0, 1, 2, 3, 5, 6, 4, 8, 10, 11, 9, 13, 15, 17, 25, 19], oH 43 30 false (.pick (.t 33) (.t 42) (cB false)) [19, 25, 18, 23, 21, 22, 20, 24, 16, 12, 7, 0, 1,
  2, 3, 5, 6, 4, 8, 10, 11, 9, 13, 15, 14, 26, 17], oA 44 (.pick (.t 30) (cB true) (.t 43)) [17, 26, 15, 16, 24, 20, 22, 21, 23, 18, 25, 19, 13, 9, 11, 10, 8, 4, 6, 5, 3, 2, 1, 0, 7, 12, 27, 14]]) (.cond (.t 44) (.seq (.ops false [oP 2 (.mv (cB false))]) .ret) .skip)) c70_1))) c70_2)
def c70_4 : C := (.seq (.ops false [oP 12 (.bin .lss (.t 11) (.t 10))]) (.seq (.cond (.t 12) .skip (.exit 0)) c70_3))
def c70_5 : C := (.seq (.ops false [oP 50 (.mv (.t 3)), oP 51 (.bin .leq (.t 50) (cI 1000000)), oP 2 (.mv (.t 51))]) .ret)
def c70_6 : C := (.seq (.ops false [oP 3 (.mv (cI 0))]) (.seq (.seq (.ops false [oP 9 (.mv (.t 0)), oP 10 (.len (.t 9)), oP 11 (.mv (cI 0))]) (.block 0 (.loop c70_4))) c70_5))
def c70 : C := (.seq (.ops false [oP 2 (.mv (cB false))]) (.seq (.seq (.ops false [oP 6 (.mv (.t 0)), oP 7 (.len (.t 6)), oP 8 (.bin .gtr (.t 7) (cI 200))]) (.cond (.t 8) (.seq (.ops false [oP 2 (.mv (cB false))]) .ret) .skip)) c70_6))
def r70 : List RV := [(.tmp 2)]
theorem c70_ok : ∃ code, Tryd.f70.body = some code ∧ compC Tryd.prog Tryd.f70.ntmps code = some (C.strip c70) := ⟨_, rfl, by kernel_rfl⟩
theorem r70_ok : compRes Tryd.prog Tryd.f70.results.toList = some r70 := by kernel_rfl
theorem f70_ok : fnOk Tryd.prog 70 = true := by kernel_rfl
def c72 : C := (.seq (.ops false [oP 3 (.mv (cB false))]) (.seq (.ops false [oP 4 (.mv (.t 0)), oP 5 (.bin .lss (.t 4) (cI 0)), oP 6 (.mv (.t 5)), oG 7 6 false (.mv (.t 0)), oG 8 6 false (.ld 1 false (.t 1)), oG 9 6 false (.len (.t 8)), oG 10 6 false (.bin .geq (.t 7) (.t 9)), oP 11 (.pick (.t 6) (cB true) (.t 10)), oP 3 (.mv (.t 11))]) .ret))
def r72 : List RV := [(.tmp 3)]
theorem c72_ok : ∃ code, Tryd.f72.body = some code ∧ compC Tryd.prog Tryd.f72.ntmps code = some (C.strip c72) := ⟨_, rfl, by kernel_rfl⟩
theorem r72_ok : compRes Tryd.prog Tryd.f72.results.toList = some r72 := by kernel_rfl
theorem f72_ok : fnOk Tryd.prog 72 = true := by kernel_rfl
def c75 : C := (.seq (.ops false [oP 2 (.mv (cB false))]) (.seq (.ops false [oP 3 (.mv (.t 0)), oP 4 (.bin .lss (.t 3) (cI 0)), oP 5 (.mv (.t 4)), oG 6 5 false (.mv (.t 0)), oG 7 5 false (.bin .gtr (.t 6) (cI 1099511627776)), oP 8 (.pick (.t 5) (cB true) (.t 7)), oP 2 (.mv (.t 8))]) .ret))
def r75 : List RV := [(.tmp 2)]
theorem c75_ok : ∃ code, Tryd.f75.body = some code ∧ compC Tryd.prog Tryd.f75.ntmps code = some (C.strip c75) := ⟨_, rfl, by kernel_rfl⟩
theorem r75_ok : compRes Tryd.prog Tryd.f75.results.toList = some r75 := by kernel_rfl
theorem f75_ok : fnOk Tryd.prog 75 = true := by kernel_rfl
def c79_1 : C := (.ops false [oP 19 (.bin .add (.t 10) (cI 1)), oP 10 (.mv (.t 19))])
def c79_2 : C := (.seq (.block 1 (.seq (.ops false [oP 12 (.mv (.t 10)), oP 3 (.mv (.t 12))]) (.seq (.ops false [oP 13 (.mv (.t 0)), oP 14 (.mv (.t 3)), oP 15 (.iaS 5 (.t 13) (.t 14)), oP 16 (.ld 5 true (.t 15)), oB 17 (.call 64 [(.t 16)]), oP 18 (.not (.t 17))]) (.cond (.t 18) (.seq (.ops false [oP 2 (.mv (cI 9))]) .ret) .skip)))) c79_1)
def c79_3 : C := (.seq (.ops false [oP 11 (.bin .lss (.t 10) (.t 9))]) (.seq (.cond (.t 11) .skip (.exit 0)) c79_2))
def c79_4 : C := (.ops false [oP 34 (.bin .add (.t 22) (cI 1)), oP 22 (.mv (.t 34))])
def c79_5 : C := (.seq (.block 3 (.seq (.ops false [oP 24 (.mv (.t 22)), oP 4 (.mv (.t 24))]) (.seq (.ops false [oP 25 (.mv (.t 0)), oP 26 (.mv (.t 0)), oP 27 (.mv (.t 4)), oP 28 (.iaS 5 (.t 26) (.t 27)), oP 29 (.fa 0 (.t 28)), oP 30 (.ld 1 false (.t 29)), oB 31 (.call 121 [(.t 25), (.t 30)]), oP 32 (.mv (.t 4)), oP 33 (.bin .neq (.t 31) (.t 32))]) (.cond (.t 33) (.seq (.ops false [oP 2 (.mv (cI 7))]) .ret)
  .skip)))) c79_4)
def c79_6 : C := (.seq (.ops false [oP 23 (.bin .lss (.t 22) (.t 21))]) (.seq (.cond (.t 23) .skip (.exit 2)) c79_5))
def c79_7 : C := (.seq (.ops false [oP 2 (.mv (cI 0))]) .ret)
def c79_8 : C := (.seq (.seq (.ops false [oP 20 (.mv (.t 0)), oP 21 (.len (.t 20)), oP 22 (.mv (cI 0))]) (.block 2 (.loop c79_6))) c79_7)
def c79_9 : C := (.seq (.seq (.ops false [oP 8 (.mv (.t 0)), oP 9 (.len (.t 8)), oP 10 (.mv (cI 0))]) (.block 0 (.loop c79_3))) c79_8)
def c79 : C := (.seq (.ops false [oP 2 (.mv (cI 0))]) (.seq (.seq (.ops false [oP 5 (.mv (.t 0)), oP 6 (.len (.t 5)), oP 7 (.bin .gtr (.t 6) (cI 16))]) (.cond (.t 7) (.seq (.ops false [oP 2 (.mv (cI 4))]) .ret) .skip)) c79_9))
def r79 : List RV := [(.tmp 2)]
theorem c79_ok : ∃ code, Tryd.f79.body = some code ∧ compC Tryd.prog Tryd.f79.ntmps code = some (C.strip c79) := ⟨_, rfl, by kernel_rfl⟩
theorem r79_ok : compRes Tryd.prog Tryd.f79.results.toList = some r79 := by kernel_rfl
theorem f79_ok : fnOk Tryd.prog 79 = true := by kernel_rfl
def c102_1 : C := (.seq (.ops false [oP 5 (.mv (.t 0)), oP 6 (.mkf 133 [] [(.t 3)]), oB 7 (.call 132 [(.t 5), (.t 6)]), oP 4 (.mv (.t 7))]) .ret)
def c102 : C := (.seq (.ops false [oP 3 (.box 1 (.t 1)), oP 4 (.mv (cI 0))]) (.weak c102_1))
def r102 : List RV := [(.tmp 4)]
theorem c102_ok : ∃ code, Tryd.f102.body = some code ∧ compC Tryd.prog Tryd.f102.ntmps code = some (C.strip c102) := ⟨_, rfl, by kernel_rfl⟩
theorem r102_ok : compRes Tryd.prog Tryd.f102.results.toList = some r102 := by kernel_rfl
theorem f102_ok : fnOk Tryd.prog 102 = true := by kernel_rfl
def c103 : C := (.seq (.ops false [oP 1 (.box 2 (.t 0)), oP 2 (.mv (cB false))]) (.seq (.ops false [oP 3 (.fa 0 (.t 1)), oP 4 (.ld 1 false (.t 3)), oP 5 (.bin .geq (.t 4) (cI 0)), oP 6 (.mv (.t 5)), oG 7 6 true (.fa 0 (.t 1)), oG 8 6 true (.ld 1 false (.t 7)), oG 9 6 true (.bin .lss (.t 8) (cI 1000)), oP 10 (.pick (.t 6) (.t 9) (cB false)), oP 11 (.mv (.t 10)), oG 12 11 true (.fa 1 (.t 1)),
  oG 13 11 true (.ld 1 false (.t 12)), oG 14 11 true (.bin .geq (.t 13) (cI 0)), oP 15 (.pick (.t 11) (.t 14) (cB false)), oP 16 (.mv (.t 15)), oG 17 16 true (.fa 1 (.t 1)), oG 18 16 true (.ld 1 false (.t 17)), oG 19 16 true (.bin .leq (.t 18) (cI 1000000)), oP 20 (.pick (.t 16) (.t 19) (cB false)), oP 2 (.mv (.t 20))]) .ret))
def r103 : List RV := [(.tmp 2)]
theorem c103_ok : ∃ code, Tryd.f103.body = some code ∧ compC Tryd.prog Tryd.f103.ntmps code = some (C.strip c103) := ⟨_, rfl, by kernel_rfl⟩
theorem r103_ok : compRes Tryd.prog Tryd.f103.results.toList = some r103 := by kernel_rfl
theorem f103_ok : fnOk Tryd.prog 103 = true := by kernel_rfl
def c104_1 : C := (.seq (.block 1 (.seq (.ops false [oP 10 (.iaS 2 (.t 6) (.t 8)), oP 11 (.ld 2 true (.t 10)), oP 5 (.new [(.v (.int .i64 0)), (.v (.int .i64 0))]), oS (.st 2 (.t 5) (.t 11))]) (.ops false [oP 12 (.mv (.t 3)), oP 13 (.fa 1 (.t 5)), oP 14 (.ld 1 false (.t 13)), oP 15 (.bin .add (.t 12) (.t 14)), oP 3 (.mv (.t 15))]))) (.ops false [oP 16 (.bin .add (.t 8) (cI 1)), oP 8 (.mv (.t 16))]))
def c104_2 : C := (.seq (.ops false [oP 9 (.bin .lss (.t 8) (.t 7))]) (.seq (.cond (.t 9) .skip (.exit 0)) c104_1))
def c104_3 : C := (.seq (.ops false [oP 17 (.mv (.t 3)), oP 2 (.mv (.t 17))]) .ret)
def c104 : C := (.seq (.ops false [oP 2 (.mv (cI 0))]) (.seq (.ops false [oP 3 (.mv (cI 0))]) (.seq (.seq (.ops false [oP 6 (.mv (.t 0)), oP 7 (.len (.t 6)), oP 8 (.mv (cI 0))]) (.block 0 (.loop c104_2))) c104_3)))
def r104 : List RV := [(.tmp 2)]
theorem c104_ok : ∃ code, Tryd.f104.body = some code ∧ compC Tryd.prog Tryd.f104.ntmps code = some (C.strip c104) := ⟨_, rfl, by kernel_rfl⟩
theorem r104_ok : compRes Tryd.prog Tryd.f104.results.toList = some r104 := by kernel_rfl
theorem f104_ok : fnOk Tryd.prog 104 = true := by kernel_rfl
def c107 : C := (.seq (.ops false [oP 2 (.mv (cB false))]) (.seq (.ops false [oP 3 (.mv (.t 0)), oP 4 (.bin .geq (.t 3) (cI 0)), oP 5 (.mv (.t 4)), oG 6 5 true (.mv (.t 0)), oG 7 5 true (.bin .lss (.t 6) (cI 1000)), oP 8 (.pick (.t 5) (.t 7) (cB false)), oP 2 (.mv (.t 8))]) .ret))
def r107 : List RV := [(.tmp 2)]
theorem c107_ok : ∃ code, Tryd.f107.body = some code ∧ compC Tryd.prog Tryd.f107.ntmps code = some (C.strip c107) := ⟨_, rfl, by kernel_rfl⟩
theorem r107_ok : compRes Tryd.prog Tryd.f107.results.toList = some r107 := by kernel_rfl
theorem f107_ok : fnOk Tryd.prog 107 = true := by kernel_rfl
def c121_1 : C := (.ops false [oP 19 (.bin .add (.t 8) (cI 1)), oP 8 (.mv (.t 19))])
def c121_2 : C := (.seq (.block 1 (.seq (.ops false [oP 10 (.mv (.t 8)), oP 5 (.mv (.t 10))]) (.seq (.ops false [oP 11 (.mv (.t 0)), oP 12 (.mv (.t 5)), oP 13 (.iaS 5 (.t 11) (.t 12)), oP 14 (.fa 0 (.t 13)), oP 15 (.ld 1 false (.t 14)), oP 16 (.mv (.t 1)), oP 17 (.bin .eql (.t 15) (.t 16))]) (.cond (.t 17) (.seq (.ops false [oP 18 (.mv (.t 5)), oP 4 (.mv (.t 18))]) .ret) .skip)))) c121_1)
def c121_3 : C := (.seq (.ops false [oP 9 (.bin .lss (.t 8) (.t 7))]) (.seq (.cond (.t 9) .skip (.exit 0)) c121_2))
def c121_4 : C := (.seq (.ops false [oP 4 (.mv (cI (-1)))]) .ret)
def c121 : C := (.seq (.ops false [oP 4 (.mv (cI 0))]) (.seq (.seq (.ops false [oP 6 (.mv (.t 0)), oP 7 (.len (.t 6)), oP 8 (.mv (cI 0))]) (.block 0 (.loop c121_3))) c121_4))
def r121 : List RV := [(.tmp 4)]
theorem c121_ok : ∃ code, Tryd.f121.body = some code ∧ compC Tryd.prog Tryd.f121.ntmps code = some (C.strip c121) := ⟨_, rfl, by kernel_rfl⟩
theorem r121_ok : compRes Tryd.prog Tryd.f121.results.toList = some r121 := by kernel_rfl
theorem f121_ok : fnOk Tryd.prog 121 = true := by kernel_rfl
def c132_1 : C := (.ops false [oP 18 (.bin .add (.t 8) (cI 1)), oP 8 (.mv (.t 18))])
def c132_2 : C := (.seq (.block 1 (.seq (.ops false [oP 10 (.mv (.t 8)), oP 5 (.mv (.t 10))]) (.seq (.ops false [oP 11 (.mv (.t 1)), oP 12 (.mv (.t 0)), oP 13 (.mv (.t 5)), oP 14 (.iaS 5 (.t 12) (.t 13)), oP 15 (.ld 5 true (.t 14)), oP 16 (.callv (.t 11) [(.t 15)])]) (.cond (.t 16) (.seq (.ops false [oP 17 (.mv (.t 5)), oP 4 (.mv (.t 17))]) .ret) .skip)))) c132_1)
def c132_3 : C := (.seq (.ops false [oP 9 (.bin .lss (.t 8) (.t 7))]) (.seq (.cond (.t 9) .skip (.exit 0)) c132_2))
def c132_4 : C := (.seq (.ops false [oP 4 (.mv (cI (-1)))]) .ret)
def c132 : C := (.seq (.ops false [oP 4 (.mv (cI 0))]) (.seq (.seq (.ops false [oP 6 (.mv (.t 0)), oP 7 (.len (.t 6)), oP 8 (.mv (cI 0))]) (.block 0 (.loop c132_3))) c132_4))
def r132 : List RV := [(.tmp 4)]
theorem c132_ok : ∃ code, Tryd.f132.body = some code ∧ compC Tryd.prog Tryd.f132.ntmps code = some (C.strip c132) := ⟨_, rfl, by kernel_rfl⟩
theorem r132_ok : compRes Tryd.prog Tryd.f132.results.toList = some r132 := by kernel_rfl
theorem f132_ok : fnOk Tryd.prog 132 = true := by kernel_rfl
def c133 : C := (.seq (.ops false [oP 2 (.box 5 (.t 0)), oP 3 (.mv (cB false))]) (.seq (.ops false [oP 4 (.fa 0 (.t 2)), oP 5 (.ld 1 false (.t 4)), oP 6 (.ld 1 false (.t 1)), oP 7 (.bin .eql (.t 5) (.t 6)), oP 3 (.mv (.t 7))]) .ret))
def r133 : List RV := [(.tmp 3)]
theorem c133_ok : ∃ code, Tryd.f133.body = some code ∧ compC Tryd.prog Tryd.f133.ntmps code = some (C.strip c133) := ⟨_, rfl, by kernel_rfl⟩
theorem r133_ok : compRes Tryd.prog Tryd.f133.results.toList = some r133 := by kernel_rfl
theorem f133_ok : fnOk Tryd.prog 133 = true := by kernel_rfl
def iR (n : Int) : List D := [di n]
theorem intsOf_iR (l : List Int) : intsOf (l.map iR) = some l := intsOf_map l
theorem intsOf_eqR {l : List (List D)} {ns : List Int} (h : intsOf l = some ns) : l = ns.map iR := intsOf_eq h
def sumW : List Int → Int → Int
  | [], s => s
  | x :: l, s => sumW l (IntKind.i64.wrap (s + x))
def iA (l : List Int) (j : Nat) : Int := l.getD j 0
theorem i_get {l : List Int} {j : Nat} (h : j < l.length) : (l.map iR).getD j [] = [di (iA l j)] := by
  unfold iA
  rw [List.getD_eq_getElem?_getD, List.getElem?_map, List.getD_eq_getElem?_getD, List.getElem?_eq_getElem h]
  rfl
theorem i_drop {l : List Int} {j : Nat} (h : j < l.length) : l.drop j = iA l j :: l.drop (j + 1) := by
  rw [List.drop_eq_getElem_cons h]
  congr 1
  unfold iA
  rw [List.getD_eq_getElem?_getD, List.getElem?_eq_getElem h]
  rfl
theorem i_take {l : List Int} {j : Nat} (h : j < l.length) : l.take (j + 1) = l.take j ++ [iA l j] := by
  rw [List.take_add_one, List.getElem?_eq_getElem h]
  unfold iA
  rw [List.getD_eq_getElem?_getD, List.getElem?_eq_getElem h]
  rfl
theorem i_pl (l : List Int) : ∀ j : Int, j ∈ l → ∀ d : D, d ∈ iR j → d.plain = true := fun j _ d hd => by
  unfold iR at hd
  rw [List.mem_singleton.1 hd]
  rfl
def SuF (l : List Int) (s : Int) (j : Int) : List (Nat × D) := [(3, di s), (6, .sl (l.map iR)), (7, di l.length), (8, di j)]
set_option maxHeartbeats 4000000 in
theorem psum_c (l : List Int) (hl : l.length ≤ 1000000) (nn : Nm) : CallsA Tryd.prog 68 [.sl (l.map iR)] Hp.none nn (Pu (di (sumW l 0)) Hp.none) := by
  obtain ⟨code, h1, h2⟩ := c68_ok
  refine callsA_of (T0_ok _) mixed (N := fun t => (0, t)) Tryd.func68 h1 h2 r68_ok [] false js_nil js_nil' (by simp [Tryd.f68]) ?_
  generalize hX : sumW l 0 = X
  simp (maxSteps:=500000) only [↓vp, vv, ↓reduceIte, simprocAttr, c68, r68, c68_1, c68_2, c68_3]
  refine rng_loopP l.length (fun j (s : Int) => ⟨fr (SuF l s (j : Nat)), Hp.none⟩) (fun j s => sumW (l.drop j) s = X) (u0 := 0) (weak0 (by simp (maxSteps:=500000) only [↓vp, vv, ↓reduceIte, simprocAttr, coverS, SuF]) (by simp (maxSteps:=500000) only [↓vp, vv, ↓reduceIte, simprocAttr, refsF, SuF])) hX (fun j hj s hP => ?_) (fun s hP => ?_)
  · have hj' : (j : Int) < l.length := by omega
    have w1 := idx_next (j := j) (by omega)
    have g1 := i_get hj
    have nx := hP
    rw [i_drop hj, sumW] at nx
    simp (maxSteps:=500000) only [↓vp, vv, ↓reduceIte, simprocAttr, c68, r68, c68_1, c68_2, c68_3, SuF, hj', hj, g1, Int.toNat_natCast, idx_nn]
    refine rng_nextP hj (IntKind.i64.wrap (s + iA l j)) ?_ nx
    exact (weak_eq [] [] (SuF l (IntKind.i64.wrap (s + iA l j)) ((j + 1 : Nat) : Int)) (by simp (maxSteps:=500000) only [↓vp, vv, ↓reduceIte, simprocAttr, coverS, SuF, w1]) (by simp (maxSteps:=500000) only [↓vp, vv, ↓reduceIte, simprocAttr, refsF, SuF, w1]) (by simp (maxSteps:=500000) only [↓vp, vv, ↓reduceIte, simprocAttr, SuF, w1]) (by simp) (by simp (maxSteps:=500000) only [↓vp, vv, ↓reduceIte, simprocAttr, SuF, w1]; try rfl))
  · rw [List.drop_of_length_le (Nat.le_refl _), sumW] at hP
    simp (maxSteps:=500000) only [↓vp, vv, ↓reduceIte, simprocAttr, c68, r68, c68_1, c68_2, c68_3, r68, Int.lt_irrefl, SuF, hP, Pu]
def decI1 : List D → Option (List Int)
  | [.sl x] => intsOf x
  | _ => Option.none
theorem decI1_eq : ∀ l a, decI1 l = some a → l = [.sl (a.map iR)] := fun l a h => by
  unfold decI1 at h
  split at h
  · rw [intsOf_eqR h]
  · cases h
def I1Ok (l : List Int) : Prop := l.length ≤ 1000000
def selSu := selX decI1 I1Ok fun l => di (sumW l 0)
theorem tc_su {T : Tbl} (hT : TblOk Tryd.prog T) : TblOk Tryd.prog (tc 68 (rowPu selSu) T) := tc_x f68_ok decI1_eq (fun a h nn => psum_c _ h nn) hT
def TwOk (l : List Int) : Prop := l.length ≤ 1000000 ∧ ∀ n, n ∈ l → InI n
def selTw := selX decI1 TwOk fun l => db (ptB l)
theorem f74_ok : fnOk Tryd.prog 74 = true := by kernel_rfl
theorem tc_tw {T : Tbl} (hT : TblOk Tryd.prog T) : TblOk Tryd.prog (tc 74 (rowPu selTw) T) := tc_x f74_ok decI1_eq (fun a h nn => ptwice_c _ h.1 h.2 nn) hT
def secBad (n : Nat) (i : Int) : Bool := decide (i < 0) || decide ((n : Int) ≤ i)
def pkBad (n : Int) : Bool := decide (n < 0) || decide (1099511627776 < n)
theorem sec1_c (p : List Int) (i : Int) (nn : Nm) : CallsA Tryd.prog 72 [di i, .ip [.sl (p.map iR)]] Hp.none nn (Pu (db (secBad p.length i)) Hp.none) := by
  obtain ⟨code, h1, h2⟩ := c72_ok
  refine callsA_of (T0_ok _) mixed (N := fun t => (0, t)) Tryd.func72 h1 h2 r72_ok [] false js_nil js_nil' (by simp [Tryd.f72]) ?_
  unfold secBad
  cases c1 : decide (i < 0) with
  | true => simp (maxSteps:=500000) only [↓vp, vv, ↓reduceIte, simprocAttr, c72, r72, r72, c1, Pu, Bool.true_or]
  | false => simp (maxSteps:=500000) only [↓vp, vv, ↓reduceIte, simprocAttr, c72, r72, r72, c1, Pu, Bool.false_or]
theorem sec2_c (n : Int) (nn : Nm) : CallsA Tryd.prog 75 [di n] Hp.none nn (Pu (db (pkBad n)) Hp.none) := by
  obtain ⟨code, h1, h2⟩ := c75_ok
  refine callsA_of (T0_ok _) mixed (N := fun t => (0, t)) Tryd.func75 h1 h2 r75_ok [] false js_nil js_nil' (by simp [Tryd.f75]) ?_
  unfold pkBad
  cases c1 : decide (n < 0) with
  | true => simp (maxSteps:=500000) only [↓vp, vv, ↓reduceIte, simprocAttr, c75, r75, r75, c1, Pu, Bool.true_or]
  | false => simp (maxSteps:=500000) only [↓vp, vv, ↓reduceIte, simprocAttr, c75, r75, r75, c1, Pu, Bool.false_or]
def pick (p s : List Int) : List Int := s.map fun i => iA p i.toNat
def secI (p s : List Int) : Int × Int := if s.any (secBad p.length) then (0, 8) else if ptB s then (0, 7) else if p.any pkBad then (0, 1) else (sumW (pick p s) 0, 0)
def chgI (a b s : List Int) : Int × Int := if (secI a s).2 = 0 then (if (secI b s).2 = 0 then (IntKind.i64.wrap ((secI b s).1 - (secI a s).1), 0) else (0, (secI b s).2)) else (0, (secI a s).2)
def qPk (l : List (List D)) : D → Bool := match l with
  | [[.sl r]] => qRow intOf (secBad r.length)
  | _ => qRow intOf pkBad
def PkT (P : Program) : Tbl := tc 73 (rowPu (selQ P false 1 (fun _ l => qPk l) outC)) (tc 74 (rowPu selTw) (tc 68 (rowPu selSu) T0))
theorem PkT_ok : TblOk Tryd.prog (PkT Tryd.prog) := tc_cf f73_ok (fun q g l rows h nn => hasF_I q g l rows h nn) (tc_tw (tc_su (T0_ok _)))
theorem outC_ints (q : Int → Bool) (l : List Int) : outC (fun r => qRow intOf q (elV false r)) (l.map iR) = db (l.any q) := by
  have e : ((fun r => qRow intOf q (elV false r)) ∘ iR) = q := funext fun x => rfl
  unfold outC
  rw [List.any_map, e]
structure SecPre (p s : List Int) : Prop where
  pl : p.length ≤ 1000000
  sl : s.length ≤ 1000000
  si : ∀ n, n ∈ s → InI n
def SecF (p s out : List Int) (g : Nat) (j : Int) : List (Nat × D) := [(2, .ip [.sl (p.map iR)]), (7, .own (0, 1000) g 0 out.length), (20, .sl (s.map iR)), (21, di s.length), (22, di j)]
def SecH (out : List Int) (g : Nat) : Hp := Hp.none.put (0, 1000) ⟨g, 1, out.map iR⟩
set_option maxHeartbeats 16000000 in
theorem psec_c (p s : List Int) (h : SecPre p s) (nn : Nm) : CallsA Tryd.prog 37 [.sl (p.map iR), .sl (s.map iR)] Hp.none nn (Pu (ie (secI p s)) Hp.none) := by
  obtain ⟨code, h1, h2⟩ := c37_ok
  refine callsA_of PkT_ok mixed (N := fun t => (0, t)) Tryd.func37 h1 h2 r37_ok [] false js_nil js_nil' (by simp [Tryd.f37]) ?_
  have q1 : QOk Tryd.prog false 1 (qRow intOf (secBad p.length)) 72 [[.sl (p.map iR)]] (s.map iR) := by
    refine ⟨f72_ok, by simp; have := h.sl; omega, fun r hr => ?_⟩
    obtain ⟨x, _, rfl⟩ := List.mem_map.1 hr
    exact ⟨rfl, rfl, fun _ => ⟨_, rfl⟩, fun nn => sec1_c p x nn⟩
  have q2 : QOk Tryd.prog false 1 (qRow intOf pkBad) 75 [] (p.map iR) := by
    refine ⟨f75_ok, by simp; have := h.pl; omega, fun r hr => ?_⟩
    obtain ⟨x, _, rfl⟩ := List.mem_map.1 hr
    exact ⟨rfl, rfl, fun _ => ⟨_, rfl⟩, fun nn => sec2_c x nn⟩
  have o1 := outC_ints (secBad p.length) s
  have o2 := outC_ints pkBad p
  have b1 : TwOk s := ⟨h.sl, h.si⟩
  have qe : qPk [[.sl (p.map iR)]] = qRow intOf (secBad p.length) := by unfold qPk; simp
  have qe2 : qPk [] = qRow intOf pkBad := rfl
  have e0 : secI p s = if s.any (secBad p.length) then (0, 8) else if ptB s then (0, 7) else if p.any pkBad then (0, 1) else (sumW (pick p s) 0, 0) := rfl
  simp (maxSteps:=500000) only [↓vp, vv, ↓reduceIte, simprocAttr, c37, r37, c37_1, c37_2, c37_3, c37_4, c37_5, c37_6, PkT, Pu]
  refine vc_wk ((weak_ip 2 (0, 2) 0 1 [.sl (p.map iR)] (by simp (maxSteps:=500000) only [↓vp, vv, ↓reduceIte, simprocAttr, ]) (by simp (maxSteps:=500000) only [↓vp, vv, ↓reduceIte, simprocAttr, ]) (by simp (maxSteps:=500000) only [↓vp, vv, ↓reduceIte, simprocAttr, ]) (by simp)).trans (weak_eq [] [] [(1, .sl (s.map iR)), (2, .ip [.sl (p.map iR)])] (by simp (maxSteps:=500000) only [↓vp, vv, ↓reduceIte, simprocAttr, coverS, ]) (by simp (maxSteps:=500000) only [↓vp, vv, ↓reduceIte, simprocAttr, refsF, ]) (by simp (maxSteps:=500000) only [↓vp, vv, ↓reduceIte, simprocAttr, ]) (by simp) (by simp (maxSteps:=500000) only [↓vp, vv, ↓reduceIte, simprocAttr, ]; try rfl))) ?_
  cases a1 : s.any (secBad p.length) with
  | true =>
    rw [a1] at o1 e0
    simp (maxSteps:=500000) only [↓vp, vv, ↓reduceIte, simprocAttr, c37, r37, c37_1, c37_2, c37_3, c37_4, c37_5, c37_6, r37, PkT, selQ, ipsOf, qe, qe2, q1, o1, a1, e0, ie, Pu]
  | false =>
  rw [a1] at o1 e0
  cases a2 : ptB s with
  | true =>
    rw [a2] at e0
    simp (maxSteps:=500000) only [↓vp, vv, ↓reduceIte, simprocAttr, c37, r37, c37_1, c37_2, c37_3, c37_4, c37_5, c37_6, r37, PkT, selQ, ipsOf, qe, qe2, q1, o1, a1, selTw, selX, decI1, intsOf_iR, b1, a2, e0, ie, Pu]
  | false =>
  rw [a2] at e0
  simp (maxSteps:=500000) only [↓vp, vv, ↓reduceIte, simprocAttr, c37, r37, c37_1, c37_2, c37_3, c37_4, c37_5, c37_6, PkT, selQ, ipsOf, qe, qe2, q1, o1, a1, selTw, selX, decI1, intsOf_iR, b1, a2]
  refine vc_wk (weak_eq [] [] [(1, .sl (s.map iR)), (2, .ip [.sl (p.map iR)])] (by simp (maxSteps:=500000) only [↓vp, vv, ↓reduceIte, simprocAttr, coverS, ]) (by simp (maxSteps:=500000) only [↓vp, vv, ↓reduceIte, simprocAttr, refsF, ]) (by simp (maxSteps:=500000) only [↓vp, vv, ↓reduceIte, simprocAttr, ]) (by simp) (by simp (maxSteps:=500000) only [↓vp, vv, ↓reduceIte, simprocAttr, ]; try rfl)) ?_
  cases a3 : p.any pkBad with
  | true =>
    rw [a3] at o2 e0
    simp (maxSteps:=500000) only [↓vp, vv, ↓reduceIte, simprocAttr, c37, r37, c37_1, c37_2, c37_3, c37_4, c37_5, c37_6, r37, PkT, selQ, ipsOf, qe, qe2, q2, o2, a3, e0, ie, Pu]
  | false =>
  rw [a3] at o2 e0
  have hin : ∀ j, j < s.length → 0 ≤ iA s j ∧ (iA s j).toNat < p.length := fun j hj => by
    have h1 : secBad p.length (iA s j) = false := by
      have : iA s j ∈ s := by
        unfold iA
        rw [List.getD_eq_getElem?_getD, List.getElem?_eq_getElem hj]
        exact List.getElem_mem hj
      have := List.any_eq_false.1 a1 _ this
      simpa using this
    unfold secBad at h1
    rw [Bool.or_eq_false_iff] at h1
    have k1 := of_decide_eq_false h1.1
    have k2 := of_decide_eq_false h1.2
    omega
  have hs := h.sl
  have hsu : ∀ l : List Int, l.length ≤ 1000000 → I1Ok l := fun l h => h
  simp (maxSteps:=500000) only [↓vp, vv, ↓reduceIte, simprocAttr, c37, r37, c37_1, c37_2, c37_3, c37_4, c37_5, c37_6, PkT, selQ, ipsOf, qe, qe2, q2, o2, a3]
  refine rng_loopP s.length (fun j (u : List Int × Nat) => ⟨fr (SecF p s u.1 u.2 (j : Nat)), SecH u.1 u.2⟩) (fun j u => u.1 = pick p (s.take j)) (u0 := ([], 0)) ((weak_own 7 (0, 1000) 1 (by simp (maxSteps:=500000) only [↓vp, vv, ↓reduceIte, simprocAttr, ]) (by simp (maxSteps:=500000) only [↓vp, vv, ↓reduceIte, simprocAttr, ])).trans (weak_eq [] [(0, 1000)] (SecF p s [] 0 0) (by simp (maxSteps:=500000) only [↓vp, vv, ↓reduceIte, simprocAttr, coverS, SecF, SecH]) (by simp (maxSteps:=500000) only [↓vp, vv, ↓reduceIte, simprocAttr, refsF, SecF, SecH]) (by simp (maxSteps:=500000) only [↓vp, vv, ↓reduceIte, simprocAttr, SecF, SecH]) (by simp) (by simp (maxSteps:=500000) only [↓vp, vv, ↓reduceIte, simprocAttr, SecF, SecH]; try rfl))) rfl (fun j hj u hP => ?_) (fun u hP => ?_)
  · obtain ⟨out, g⟩ := u
    dsimp only at hP
    have ho : out.length = j := by rw [hP]; unfold pick; simp; omega
    have hj' : (j : Int) < s.length := by omega
    have w1 := idx_next (j := j) (by omega)
    have g1 := i_get hj
    obtain ⟨k1, k2⟩ := hin j hj
    have g2 := i_get k2
    have k3 : (iA s j) < p.length := by omega
    have y1 : (out.length + 1) * 8 ≤ 140737488355328 := by omega
    have y2 : out.length + 1 ≤ 4611686018427387904 := by omega
    have nx : out ++ [iA p (iA s j).toNat] = pick p (s.take (j + 1)) := by rw [hP, i_take hj]; unfold pick; rw [List.map_append]; rfl
    generalize iA s j = i at g1 k1 k2 k3 g2 nx
    generalize iA p i.toNat = v at g2 nx
    simp (maxSteps:=500000) only [↓vp, vv, ↓reduceIte, simprocAttr, c37, r37, c37_1, c37_2, c37_3, c37_4, c37_5, c37_6, PkT, SecF, SecH, hj', hj, g1, g2, k1, k2, k3, y1, y2, Int.toNat_natCast, idx_nn]
    refine rng_nextP hj (out ++ [v], g + 1) ?_ nx
    exact (weak_eq [] [(0, 1000)] (SecF p s (out ++ [v]) (g + 1) ((j + 1 : Nat) : Int)) (by simp (maxSteps:=500000) only [↓vp, vv, ↓reduceIte, simprocAttr, coverS, SecF, SecH, iR, w1, List.map_append, List.map_cons, List.map_nil, List.length_append, List.length_cons, List.length_nil]) (by simp (maxSteps:=500000) only [↓vp, vv, ↓reduceIte, simprocAttr, refsF, SecF, SecH, iR, w1, List.map_append, List.map_cons, List.map_nil, List.length_append, List.length_cons, List.length_nil]) (by simp (maxSteps:=500000) only [↓vp, vv, ↓reduceIte, simprocAttr, SecF, SecH, iR, w1, List.map_append, List.map_cons, List.map_nil, List.length_append, List.length_cons, List.length_nil]) (by simp) (by simp (maxSteps:=500000) only [↓vp, vv, ↓reduceIte, simprocAttr, SecF, SecH, iR, w1, List.map_append, List.map_cons, List.map_nil, List.length_append, List.length_cons, List.length_nil]; try rfl))
  · obtain ⟨out, g⟩ := u
    dsimp only at hP
    rw [List.take_length] at hP
    have ho : out.length = s.length := by rw [hP]; unfold pick; simp
    have tk : (out.map iR).take out.length = out.map iR := List.take_of_length_le (by simp)
    have b2 := hsu out (by omega)
    rw [← hP] at e0
    simp (maxSteps:=500000) only [↓vp, vv, ↓reduceIte, simprocAttr, c37, r37, c37_1, c37_2, c37_3, c37_4, c37_5, c37_6, r37, PkT, selSu, selX, decI1, intsOf_iR, tk, b2, SecF, SecH, Int.lt_irrefl, eq_true (i_pl out), e0, ie, Pu]
set_option maxHeartbeats 4000000 in
theorem idxF_D (q : D → Bool) (g : FuncId) (l rows : List (List D)) (h : QOk Tryd.prog true 5 q g l rows) (nn : Nm) : CallsA Tryd.prog 132 [.sl rows, .clo g [] (ips l)] Hp.none nn (Pu (outI (fun r => q (elV true r)) rows) Hp.none) := by
  obtain ⟨hg, hl, hq⟩ := h
  obtain ⟨code, h1, h2⟩ := c132_ok
  refine callsA_of (tc_q (q := q) hg (T0_ok _)) mixed (N := fun t => (0, t)) Tryd.func132 h1 h2 r132_ok [] false js_nil js_nil' (by simp [Tryd.f132]) ?_
  unfold outI
  simp (maxSteps:=500000) only [↓vp, vv, ↓reduceIte, simprocAttr, c132]
  rw [vc_loop]
  refine ⟨fun m s => ∃ j : Nat, j + m = rows.length ∧ idxOf (fun r => q (elV true r)) 0 rows = idxOf (fun r => q (elV true r)) j (rows.drop j) ∧ s = ⟨fr [(0, .sl rows), (1, .clo g [] (ips l)), (7, di rows.length), (8, di j)], Hp.none⟩, ⟨rows.length, _, (weak_eq [] [] [(0, .sl rows), (1, .clo g [] (ips l)), (7, di rows.length), (8, di 0)] (by simp (maxSteps:=500000) only [↓vp, vv, ↓reduceIte, simprocAttr, coverS]) (by simp (maxSteps:=500000) only [↓vp, vv, ↓reduceIte, simprocAttr, refsF, ips_refs]) (by simp (maxSteps:=500000) only [↓vp, vv, ↓reduceIte, simprocAttr, ]) (by simp) (by simp (maxSteps:=500000) only [↓vp, vv, ↓reduceIte, simprocAttr, ]; try rfl)), ⟨0, by omega, rfl, rfl⟩⟩, ?_⟩
  rintro m s ⟨j, hj, he, rfl⟩
  by_cases hlt : j < rows.length
  · have hlt' : (j : Int) < rows.length := by omega
    have h0 : (0 : Int) ≤ j := by omega
    obtain ⟨r, hr⟩ : ∃ r, rows[j]? = some r := ⟨_, get_lt hlt⟩
    have hg' : rows.getD j [] = r := by rw [List.getD_eq_getElem?_getD, hr]; rfl
    obtain ⟨hr1, hr2, hr0, hr3⟩ := hq r (List.mem_of_getElem? hr)
    rw [idxOf_drop _ _ _ _ hr] at he
    have w1 : IntKind.i64.wrap ((j : Int) + 1) = ((j + 1 : Nat) : Int) := by rw [wrap_i (by omega)]; rfl
    have ht : r.take 5 = r := List.take_of_length_le (by omega)
    have d1 := fun H => (doneR H [] hr2).1
    have d2 := fun H => (doneR H [] hr2).2.1
    have d3 := fun H => (doneR H [] hr2).2.2.1
    have d4 := (doneR Hp.none [] hr2).2.2.2.1
    have d5 := fun js => (doneR Hp.none js hr2).2.2.2.2
    have hc : ∀ nn, CallsA Tryd.prog g ((.agg r) :: ips l) Hp.none nn (Pu (db (q (.agg r))) Hp.none) := hr3
    have he2 : idxOf (fun r => q (elV true r)) 0 rows = if q (.agg r) = true then (j : Int) else idxOf (fun r => q (elV true r)) (j + 1 : Nat) (rows.drop (j + 1)) := he
    cases hb : q (.agg r) with
    | true =>
      rw [hb, if_pos rfl] at he2
      have hcT : ∀ nn, CallsA Tryd.prog g ((.agg r) :: ips l) Hp.none nn (Pu (db true) Hp.none) = True := fun nn => eq_true (by have := hc nn; rwa [hb] at this)
      simp (maxSteps:=500000) only [↓vp, vv, ↓reduceIte, simprocAttr, c132, r132, c132_1, c132_2, c132_3, c132_4, hlt', h0, Int.toNat_natCast, hg', hr1, ht, d1, d2, d3, d4, d5, ips_nms, ips_lend, ips_lendNm, ips_ok, ips_refs, rowQ, hb, he2, Pu, addNm, cellNms, hcT]
    | false =>
      rw [hb, if_neg (by simp)] at he2
      have hcT : ∀ nn, CallsA Tryd.prog g ((.agg r) :: ips l) Hp.none nn (Pu (db false) Hp.none) = True := fun nn => eq_true (by have := hc nn; rwa [hb] at this)
      simp (maxSteps:=500000) only [↓vp, vv, ↓reduceIte, simprocAttr, c132, r132, c132_1, c132_2, c132_3, c132_4, hlt', h0, Int.toNat_natCast, hg', hr1, ht, d1, d2, d3, d4, d5, ips_nms, ips_lend, ips_lendNm, ips_ok, ips_refs, rowQ, hb, addNm, cellNms, hcT]
      exact ⟨m - 1, _, by omega, weak_eq [] [] [(0, .sl rows), (1, .clo g [] (ips l)), (7, di rows.length), (8, di ((j + 1 : Nat) : Int))] (by simp (maxSteps:=500000) only [↓vp, vv, ↓reduceIte, simprocAttr, coverS, w1]) (by simp (maxSteps:=500000) only [↓vp, vv, ↓reduceIte, simprocAttr, refsF, ips_refs]) (by simp (maxSteps:=500000) only [↓vp, vv, ↓reduceIte, simprocAttr, ]) (by simp) (by simp (maxSteps:=500000) only [↓vp, vv, ↓reduceIte, simprocAttr, ]; try rfl), ⟨j + 1, by omega, he2, rfl⟩⟩
  · have hlt' : ¬ (j : Int) < rows.length := by omega
    rw [List.drop_of_length_le (by omega)] at he
    have he2 : idxOf (fun r => q (elV true r)) 0 rows = -1 := he
    simp (maxSteps:=500000) only [↓vp, vv, ↓reduceIte, simprocAttr, c132, r132, c132_1, c132_2, c132_3, c132_4, hlt', he2, Pu]
end Go.Proofs.YtehmmnnmkapfeaaDoor
