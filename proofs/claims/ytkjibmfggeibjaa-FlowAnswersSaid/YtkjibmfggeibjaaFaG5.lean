/- FlowAnswers: Vw CodeN. -/
import Derived.Test.YtkjibmfggeibjaaFaG4
import Derived.Test.YtkjibmfggeibjaaFaG3
import Derived.Test.YtkjibmfggeibjaaProg

/- Loops over ranges: a rule. -/
namespace Go.Proofs.Ytkjibmfggeibjaa
open Go
set_option linter.unusedVariables false
set_option linter.unusedSimpArgs false

def RngI (n : Nat) (st : Nat → St) (P : Nat → Prop) (m : Nat) (s : St) : Prop := ∃ j, j + m = n ∧ P j ∧ s = st j
theorem rng_loop {T : Tbl} {N : Nat → Nm} {J : List Nm} {c : C} {Q : Ex → St → Prop} {s : St} (n : Nat) (st : Nat → St) (P : Nat → Prop) (h0 : Weak J s (st 0)) (hP : P 0)
    (hs : ∀ j, j < n → P j → vc T N J c (loopQ J (RngI n st P) (n - j) Q) (st j)) (he : P n → vc T N J c (loopQ J (RngI n st P) 0 Q) (st n)) : vc T N J (.loop c) Q s := by
  rw [vc_loop]
  refine ⟨RngI n st P, ⟨n, _, h0, 0, by omega, hP, rfl⟩, ?_⟩
  rintro m s' ⟨j, hj, hPj, rfl⟩
  by_cases h : j < n
  · obtain rfl : m = n - j := by omega
    exact hs j h hPj
  · obtain rfl : j = n := by omega
    obtain rfl : m = 0 := by omega
    exact he hPj
theorem rng_next {J : List Nm} {n : Nat} {st : Nat → St} {P : Nat → Prop} {j : Nat} {s : St} (hj : j < n) (w : Weak J s (st (j + 1))) (hp : P (j + 1)) : ∃ k' s', k' < n - j ∧ Weak J s s' ∧ RngI n st P k' s' :=
  ⟨n - (j + 1), _, by omega, w, j + 1, by omega, hp, rfl⟩
theorem weak0 {F : Fr} {H : Hp} {l : List (Nat × D)} (h1 : coverS F H [] l) (h2 : refsF [] l = true) : Weak [] ⟨F, H⟩ ⟨fr l, Hp.none⟩ := weak_eq [] [] l h1 h2 trivial (by simp) rfl
theorem drop_all {α : Type} {p : α → Bool} {l : List α} {j : Nat} {b : Bool} (hj : j < l.length) (he : (l.drop j).all p = b) : (p l[j] = false → b = false) ∧ (p l[j] = true → (l.drop (j + 1)).all p = b) := by
  rw [List.drop_eq_getElem_cons hj, List.all_cons] at he
  exact ⟨fun h => by rw [h] at he; simpa using he.symm, fun h => by rw [h] at he; simpa using he⟩
theorem drop_all_end {α : Type} {p : α → Bool} {l : List α} {b : Bool} (he : (l.drop l.length).all p = b) : b = true := by
  rw [List.drop_of_length_le (Nat.le_refl _)] at he
  exact he.symm
/-- The index of a round, as a number. -/
theorem idx_next {j : Nat} (h : (j : Int) ≤ 1000000000000) : IntKind.i64.wrap ((j : Int) + 1) = ((j + 1 : Nat) : Int) := by rw [wrap_i (by omega)]; rfl
theorem idx_nn (j : Nat) : (0 : Int) ≤ (j : Int) := Int.natCast_nonneg j
end Go.Proofs.Ytkjibmfggeibjaa
/- Compiled code of some functions (printed by a program), each checked by the kernel. -/
namespace Go.Proofs.Ytkjibmfggeibjaa
open Go
set_option maxRecDepth 100000
def c74_1 : C := (.ops false [oP 15 (.bin .add (.t 10) (cI 1)), oP 10 (.mv (.t 15))])
def c74_2 : C := (.seq (.block 1 (.seq (.ops false [oP 12 (.ixA 4 1 false (.t 9) (.t 10)), oP 4 (.mv (.t 12))]) (.seq (.ops false [oP 13 (.mv (.t 4)), oB 14 (.call 143 [(.t 13), (.c (.clo 144 [] []))])]) (.cond (.t 14) (.seq (.ops false [oP 2 (.mv (cI 3))]) .ret) .skip)))) c74_1)
def c74_3 : C := (.seq (.ops false [oP 11 (.bin .lss (.t 10) (cI 4))]) (.seq (.cond (.t 11) .skip (.exit 0)) c74_2))
def c74_4 : C := (.seq (.ops false [oP 2 (.mv (cI 0))]) .ret)
def c74_5 : C := (.seq (.block 2 (.seq (.ops false [oP 17 (.ld 6 true (.t 1)), oB 18 (.call 146 [(.t 17)]), oP 16 (.mv (.t 18))]) (.cond (.t 16) (.seq (.ops false [oP 2 (.mv (cI 7))]) .ret) (.seq (.ops false [oP 20 (.ld 6 true (.t 1)), oB 21 (.call 147 [(.t 20)]), oP 22 (.not (.t 21)), oP 19 (.mv (.t 22))]) (.cond (.t 19) (.seq (.ops false [oP 2 (.mv (cI 8))]) .ret) (.seq (.ops false [oP 24 (.ld 6 true (.t 1)),
  oB 25 (.call 148 [(.t 24)]), oP 26 (.not (.t 25)), oP 23 (.mv (.t 26))]) (.cond (.t 23) (.seq (.ops false [oP 2 (.mv (cI 9))]) .ret) .skip))))))) c74_4)
def c74_6 : C := (.seq (.seq (.ops false [oP 8 (.ld 6 true (.t 1)), oP 9 (.call 142 [(.t 8)]), oP 10 (.mv (cI 0))]) (.block 0 (.loop c74_3))) c74_5)
def c74 : C := (.seq (.ops false [oP 1 (.box 6 (.t 0)), oP 2 (.mv (cI 0))]) (.seq (.seq (.ops false [oP 5 (.ld 6 true (.t 1)), oB 6 (.call 141 [(.t 5)]), oP 7 (.not (.t 6))]) (.cond (.t 7) (.seq (.ops false [oP 2 (.mv (cI 4))]) .ret) .skip)) c74_6))
def r74 : List RV := [(.tmp 2)]
theorem c74_ok : ∃ code, Try.f74.body = some code ∧ compC Try.prog Try.f74.ntmps code = some (C.strip c74) := ⟨_, rfl, by kernel_rfl⟩
theorem r74_ok : compRes Try.prog Try.f74.results.toList = some r74 := by kernel_rfl
theorem f74_ok : fnOk Try.prog 74 = true := by kernel_rfl
def c99_1 : C := (.ops false [oP 62 (.bin .add (.t 53) (cI 1)), oP 53 (.mv (.t 62))])
def c99_2 : C := (.seq (.block 1 (.seq (.ops false [oP 55 (.iaS 7 (.t 51) (.t 53)), oP 56 (.ld 7 true (.t 55)), oP 4 (.new [(.v (.string ({ data := #[] }))), (.v (.int .i64 0)), (.v (.int .i64 0)), (.v (.int .i64 0)), (.v (.int .i64 0)), (.v (.int .i64 0)), .mt]), oS (.st 7 (.t 4) (.t 56))]) (.seq (.ops false [oP 57 (.fa 6 (.t 4)), oP 58 (.ld 1 false (.t 57)), oP 59 (.len (.t 58)), oB 60 (.call 156 [(.t 59),
  (cI 2), (cI 8)]), oP 61 (.not (.t 60))]) (.cond (.t 61) (.seq (.ops false [oP 2 (.mv (cI 4))]) .ret) .skip)))) c99_1)
def c99_3 : C := (.seq (.ops false [oP 54 (.bin .lss (.t 53) (.t 52))]) (.seq (.cond (.t 54) .skip (.exit 0)) c99_2))
def c99_4 : C := (.ops false [oP 78 (.bin .add (.t 71) (cI 1)), oP 71 (.mv (.t 78))])
def c99_5 : C := (.seq (.block 5 (.seq (.ops false [oP 73 (.iaS 1 (.t 69) (.t 71)), oP 74 (.ld 1 false (.t 73)), oP 9 (.mv (.t 74))]) (.seq (.ops false [oP 75 (.mv (.t 9)), oB 76 (.call 158 [(.t 75)]), oP 77 (.not (.t 76))]) (.cond (.t 77) (.seq (.ops false [oP 2 (.mv (cI 3))]) .ret) .skip)))) c99_4)
def c99_6 : C := (.seq (.ops false [oP 72 (.bin .lss (.t 71) (.t 70))]) (.seq (.cond (.t 72) .skip (.exit 4)) c99_5))
def c99_7 : C := (.ops false [oP 79 (.bin .add (.t 66) (cI 1)), oP 66 (.mv (.t 79))])
def c99_8 : C := (.seq (.block 3 (.seq (.ops false [oP 68 (.ixA 4 1 false (.t 65) (.t 66)), oP 7 (.mv (.t 68))]) (.seq (.ops false [oP 69 (.mv (.t 7)), oP 70 (.len (.t 69)), oP 71 (.mv (cI 0))]) (.block 4 (.loop c99_6))))) c99_7)
def c99_9 : C := (.seq (.ops false [oP 67 (.bin .lss (.t 66) (cI 4))]) (.seq (.cond (.t 67) .skip (.exit 2)) c99_8))
def c99_10 : C := (.ops false [oP 86 (.bin .add (.t 81) (cI 1)), oP 81 (.mv (.t 86))])
def c99_11 : C := (.seq (.block 7 (.seq (.ops false [oP 83 (.ixA 4 1 false (.t 80) (.t 81)), oP 11 (.mv (.t 83))]) (.seq (.ops false [oP 84 (.mv (.t 11)), oB 85 (.call 159 [(.t 84)])]) (.cond (.t 85) (.seq (.ops false [oP 2 (.mv (cI 7))]) .ret) .skip)))) c99_10)
def c99_12 : C := (.seq (.ops false [oP 82 (.bin .lss (.t 81) (cI 4))]) (.seq (.cond (.t 82) .skip (.exit 6)) c99_11))
def c99_13 : C := (.ops false [oP 96 (.mv (.t 13)), oP 97 (.bin .add (.t 96) (cI 1)), oP 13 (.mv (.t 97))])
def c99_14 : C := (.seq (.block 11 (.seq (.ops true [oP 98 (.fa 3 (.t 1)), oA 99 (.ld 1 false (.t 98)) [0], oP 100 (.mv (.t 12)), oA 101 (.iaS 5 (.t 99) (.t 100)) [0, 2, 1], oA 102 (.fa 1 (.t 101)) [1, 2, 0, 3], oA 103 (.ld 1 false (.t 102)) [3, 0, 2, 1, 4], oP 104 (.fa 3 (.t 1)), oA 105 (.ld 1 false (.t 104)) [6], oP 106 (.mv (.t 13)), oA 107 (.iaS 5 (.t 105) (.t 106)) [6, 8, 7], oA 108 (.fa 1 (.t 107)) [7, 8, 6,
  9], oA 109 (.ld 1 false (.t 108)) [9, 6, 8, 7, 10], oA 110 (.bin .eql (.t 103) (.t 109)) [10, 7, 8, 6, 9, 4, 1, 2, 0, 3, 11, 5]]) (.cond (.t 110) (.seq (.ops false [oP 2 (.mv (cI 7))]) .ret) .skip))) c99_13)
def c99_15 : C := (.seq (.seq (.ops false [oP 93 (.mv (.t 13)), oP 94 (.mv (.t 12)), oP 95 (.bin .lss (.t 93) (.t 94))]) (.cond (.t 95) .skip (.exit 10))) c99_14)
def c99_16 : C := (.ops false [oP 111 (.bin .add (.t 90) (cI 1)), oP 90 (.mv (.t 111))])
def c99_17 : C := (.seq (.block 9 (.seq (.ops false [oP 92 (.mv (.t 90)), oP 12 (.mv (.t 92))]) (.seq (.ops false [oP 13 (.mv (cI 0))]) (.block 10 (.loop c99_15))))) c99_16)
def c99_18 : C := (.seq (.ops false [oP 91 (.bin .lss (.t 90) (.t 89))]) (.seq (.cond (.t 91) .skip (.exit 8)) c99_17))
def c99_19 : C := (.ops false [oP 135 (.bin .add (.t 119) (cI 1)), oP 119 (.mv (.t 135))])
def c99_20 : C := (.seq (.block 13 (.seq (.ops false [oP 121 (.iaS 7 (.t 117) (.t 119)), oP 122 (.ld 7 true (.t 121)), oP 16 (.new [(.v (.string ({ data := #[] }))), (.v (.int .i64 0)), (.v (.int .i64 0)), (.v (.int .i64 0)), (.v (.int .i64 0)), (.v (.int .i64 0)), .mt]), oS (.st 7 (.t 16) (.t 122))]) (.seq (.ops false [oP 123 (.fa 1 (.t 16)), oP 124 (.ld 1 false (.t 123)), oP 125 (.mv (.t 14)),
  oB 126 (.call 156 [(.t 124), (cI 0), (.t 125)]), oP 127 (.not (.t 126)), oP 128 (.mv (.t 127)), oG 129 128 false (.fa 2 (.t 16)), oG 130 128 false (.ld 1 false (.t 129)), oG 131 128 false (.mv (.t 14)), ⟨(.some 132), (.some (128, false)), (.call 156 [(.t 130), (cI 0), (.t 131)]), 132, [], true⟩, oG 133 128 false (.not (.t 132)), oP 134 (.pick (.t 128) (cB true) (.t 133))]) (.cond (.t 134)
  (.seq (.ops false [oP 2 (.mv (cI 8))]) .ret) .skip)))) c99_19)
def c99_21 : C := (.seq (.ops false [oP 120 (.bin .lss (.t 119) (.t 118))]) (.seq (.cond (.t 120) .skip (.exit 12)) c99_20))
def c99_22 : C := (.ops false [oP 148 (.bin .add (.t 139) (cI 1)), oP 139 (.mv (.t 148))])
def c99_23 : C := (.seq (.block 15 (.seq (.ops false [oP 141 (.iaS 3 (.t 137) (.t 139)), oP 142 (.ld 3 true (.t 141)), oP 18 (.new [(.v (.string ({ data := #[] }))), (.v (.int .i64 0)), (.v (.int .i64 0))]), oS (.st 3 (.t 18) (.t 142))]) (.seq (.ops false [oP 143 (.fa 1 (.t 18)), oP 144 (.ld 1 false (.t 143)), oP 145 (.mv (.t 14)), oB 146 (.call 156 [(.t 144), (cI 0), (.t 145)]), oP 147 (.not (.t 146))])
  (.cond (.t 147) (.seq (.ops false [oP 2 (.mv (cI 8))]) .ret) .skip)))) c99_22)
def c99_24 : C := (.seq (.ops false [oP 140 (.bin .lss (.t 139) (.t 138))]) (.seq (.cond (.t 140) .skip (.exit 14)) c99_23))
def c99_25 : C := (.ops false [oP 161 (.bin .add (.t 152) (cI 1)), oP 152 (.mv (.t 161))])
def c99_26 : C := (.seq (.block 17 (.seq (.ops false [oP 154 (.iaS 5 (.t 150) (.t 152)), oP 155 (.ld 5 true (.t 154)), oP 20 (.new [(.v (.string ({ data := #[] }))), (.v (.int .i64 0)), (.v (.int .i64 0)), (.v (.int .i64 0)), (.v (.int .i64 0))]), oS (.st 5 (.t 20) (.t 155))]) (.seq (.ops false [oP 156 (.fa 1 (.t 20)), oP 157 (.ld 1 false (.t 156)), oP 158 (.mv (.t 14)), oB 159 (.call 156 [(.t 157), (cI 0),
  (.t 158)]), oP 160 (.not (.t 159))]) (.cond (.t 160) (.seq (.ops false [oP 2 (.mv (cI 8))]) .ret) .skip)))) c99_25)
def c99_27 : C := (.seq (.ops false [oP 153 (.bin .lss (.t 152) (.t 151))]) (.seq (.cond (.t 153) .skip (.exit 16)) c99_26))
def c99_28 : C := (.ops false [oP 172 (.bin .add (.t 165) (cI 1)), oP 165 (.mv (.t 172))])
def c99_29 : C := (.seq (.block 19 (.seq (.ops false [oP 167 (.iaS 7 (.t 163) (.t 165)), oP 168 (.ld 7 true (.t 167)), oP 22 (.new [(.v (.string ({ data := #[] }))), (.v (.int .i64 0)), (.v (.int .i64 0)), (.v (.int .i64 0)), (.v (.int .i64 0)), (.v (.int .i64 0)), .mt]), oS (.st 7 (.t 22) (.t 168))]) (.seq (.ops false [oP 169 (.ld 7 true (.t 22)), oB 170 (.call 160 [(.t 169)]), oP 171 (.not (.t 170))])
  (.cond (.t 171) (.seq (.ops false [oP 2 (.mv (cI 9))]) .ret) .skip)))) c99_28)
def c99_30 : C := (.seq (.ops false [oP 166 (.bin .lss (.t 165) (.t 164))]) (.seq (.cond (.t 166) .skip (.exit 18)) c99_29))
def c99_31 : C := (.ops false [oP 184 (.bin .add (.t 176) (cI 1)), oP 176 (.mv (.t 184))])
def c99_32 : C := (.seq (.block 21 (.seq (.ops false [oP 178 (.iaS 3 (.t 174) (.t 176)), oP 179 (.ld 3 true (.t 178)), oP 24 (.new [(.v (.string ({ data := #[] }))), (.v (.int .i64 0)), (.v (.int .i64 0))]), oS (.st 3 (.t 24) (.t 179))]) (.seq (.ops false [oP 180 (.fa 2 (.t 24)), oP 181 (.ld 1 false (.t 180)), oB 182 (.call 156 [(.t 181), (cI 0), (cI 100000000)]), oP 183 (.not (.t 182))]) (.cond (.t 183)
  (.seq (.ops false [oP 2 (.mv (cI 9))]) .ret) .skip)))) c99_31)
def c99_33 : C := (.seq (.ops false [oP 177 (.bin .lss (.t 176) (.t 175))]) (.seq (.cond (.t 177) .skip (.exit 20)) c99_32))
def c99_34 : C := (.ops false [oP 208 (.bin .add (.t 188) (cI 1)), oP 188 (.mv (.t 208))])
def c99_35 : C := (.seq (.block 23 (.seq (.ops false [oP 190 (.iaS 5 (.t 186) (.t 188)), oP 191 (.ld 5 true (.t 190)), oP 26 (.new [(.v (.string ({ data := #[] }))), (.v (.int .i64 0)), (.v (.int .i64 0)), (.v (.int .i64 0)), (.v (.int .i64 0))]), oS (.st 5 (.t 26) (.t 191))]) (.seq (.ops false [oP 192 (.fa 2 (.t 26)), oP 193 (.ld 1 false (.t 192)), oB 194 (.call 156 [(.t 193), (cI 0), (cI 100000000)]),
  oP 195 (.not (.t 194)), oP 196 (.mv (.t 195)), oG 197 196 false (.fa 3 (.t 26)), oG 198 196 false (.ld 1 false (.t 197)), ⟨(.some 199), (.some (196, false)), (.call 156 [(.t 198), (cI 0), (cI 100000)]), 199, [], true⟩, oG 200 196 false (.not (.t 199)), oP 201 (.pick (.t 196) (cB true) (.t 200)), oP 202 (.mv (.t 201)), oG 203 202 false (.fa 4 (.t 26)), oG 204 202 false (.ld 1 false (.t 203)),
  ⟨(.some 205), (.some (202, false)), (.call 156 [(.t 204), (cI 0), (cI 100000000)]), 205, [], true⟩, oG 206 202 false (.not (.t 205)), oP 207 (.pick (.t 202) (cB true) (.t 206))]) (.cond (.t 207) (.seq (.ops false [oP 2 (.mv (cI 9))]) .ret) .skip)))) c99_34)
def c99_36 : C := (.seq (.ops false [oP 189 (.bin .lss (.t 188) (.t 187))]) (.seq (.cond (.t 189) .skip (.exit 22)) c99_35))
def c99_37 : C := (.seq (.ops false [oP 2 (.mv (cI 0))]) .ret)
def c99_38 : C := (.seq (.seq (.ops false [oP 209 (.fa 4 (.t 1)), oP 210 (.ld 1 false (.t 209)), oB 211 (.call 156 [(.t 210), (cI (-100000)), (cI 100000000)]), oP 212 (.not (.t 211)), oP 213 (.mv (.t 212)), oG 214 213 false (.fa 5 (.t 1)), oG 215 213 false (.ld 1 false (.t 214)), ⟨(.some 216), (.some (213, false)), (.call 156 [(.t 215), (cI 0), (cI 100)]), 216, [], true⟩, oG 217 213 false (.not (.t 216)),
  oP 218 (.pick (.t 213) (cB true) (.t 217))]) (.cond (.t 218) (.seq (.ops false [oP 2 (.mv (cI 9))]) .ret) .skip)) c99_37)
def c99_39 : C := (.seq (.seq (.ops false [oP 185 (.fa 3 (.t 1)), oP 186 (.ld 1 false (.t 185)), oP 187 (.len (.t 186)), oP 188 (.mv (cI 0))]) (.block 22 (.loop c99_36))) c99_38)
def c99_40 : C := (.seq (.seq (.ops false [oP 173 (.fa 2 (.t 1)), oP 174 (.ld 1 false (.t 173)), oP 175 (.len (.t 174)), oP 176 (.mv (cI 0))]) (.block 20 (.loop c99_33))) c99_39)
def c99_41 : C := (.seq (.seq (.ops false [oP 162 (.fa 1 (.t 1)), oP 163 (.ld 1 false (.t 162)), oP 164 (.len (.t 163)), oP 165 (.mv (cI 0))]) (.block 18 (.loop c99_30))) c99_40)
def c99_42 : C := (.seq (.seq (.ops false [oP 149 (.fa 3 (.t 1)), oP 150 (.ld 1 false (.t 149)), oP 151 (.len (.t 150)), oP 152 (.mv (cI 0))]) (.block 16 (.loop c99_27))) c99_41)
def c99_43 : C := (.seq (.seq (.ops false [oP 136 (.fa 2 (.t 1)), oP 137 (.ld 1 false (.t 136)), oP 138 (.len (.t 137)), oP 139 (.mv (cI 0))]) (.block 14 (.loop c99_24))) c99_42)
def c99_44 : C := (.seq (.ops false [oP 112 (.fa 0 (.t 1)), oP 113 (.ld 1 false (.t 112)), oP 114 (.len (.t 113)), oP 115 (.bin .sub (.t 114) (cI 1)), oP 14 (.mv (.t 115))]) (.seq (.seq (.ops false [oP 116 (.fa 1 (.t 1)), oP 117 (.ld 1 false (.t 116)), oP 118 (.len (.t 117)), oP 119 (.mv (cI 0))]) (.block 12 (.loop c99_21))) c99_43))
def c99_45 : C := (.seq (.seq (.ops false [oP 87 (.fa 3 (.t 1)), oP 88 (.ld 1 false (.t 87)), oP 89 (.len (.t 88)), oP 90 (.mv (cI 0))]) (.block 8 (.loop c99_18))) c99_44)
def c99_46 : C := (.seq (.seq (.ops false [oP 80 (.ld 4 true (.t 5)), oP 81 (.mv (cI 0))]) (.block 6 (.loop c99_12))) c99_45)
def c99_47 : C := (.seq (.ops false [oP 63 (.ld 6 true (.t 1)), oP 64 (.call 157 [(.t 63)]), oP 5 (.new [.mt, .mt, .mt, .mt]), oS (.st 4 (.t 5) (.t 64))]) (.seq (.seq (.ops false [oP 65 (.ld 4 true (.t 5)), oP 66 (.mv (cI 0))]) (.block 2 (.loop c99_9))) c99_46))
def c99_48 : C := (.seq (.seq (.ops false [oP 50 (.fa 1 (.t 1)), oP 51 (.ld 1 false (.t 50)), oP 52 (.len (.t 51)), oP 53 (.mv (cI 0))]) (.block 0 (.loop c99_3))) c99_47)
def c99 : C := (.seq (.ops false [oP 1 (.box 6 (.t 0)), oP 2 (.mv (cI 0))]) (.seq (.seq (.ops false [oP 27 (.fa 0 (.t 1)), oP 28 (.ld 1 false (.t 27)), oP 29 (.len (.t 28)), oB 30 (.call 156 [(.t 29), (cI 1), (cI 24)]), oP 31 (.not (.t 30)), oP 32 (.mv (.t 31)), oG 33 32 false (.fa 1 (.t 1)), oG 34 32 false (.ld 1 false (.t 33)), oG 35 32 false (.len (.t 34)), oG 36 32 false (.bin .gtr (.t 35) (cI 32)),
  oP 37 (.pick (.t 32) (cB true) (.t 36)), oP 38 (.mv (.t 37)), oG 39 38 false (.fa 2 (.t 1)), oG 40 38 false (.ld 1 false (.t 39)), oG 41 38 false (.len (.t 40)), oG 42 38 false (.bin .gtr (.t 41) (cI 24)), oP 43 (.pick (.t 38) (cB true) (.t 42)), oP 44 (.mv (.t 43)), oG 45 44 false (.fa 3 (.t 1)), oG 46 44 false (.ld 1 false (.t 45)), oG 47 44 false (.len (.t 46)),
  oG 48 44 false (.bin .gtr (.t 47) (cI 12)), oP 49 (.pick (.t 44) (cB true) (.t 48))]) (.cond (.t 49) (.seq (.ops false [oP 2 (.mv (cI 4))]) .ret) .skip)) c99_48))
def r99 : List RV := [(.tmp 2)]
theorem c99_ok : ∃ code, Try.f99.body = some code ∧ compC Try.prog Try.f99.ntmps code = some (C.strip c99) := ⟨_, rfl, by kernel_rfl⟩
theorem r99_ok : compRes Try.prog Try.f99.results.toList = some r99 := by kernel_rfl
theorem f99_ok : fnOk Try.prog 99 = true := by kernel_rfl
def c141_1 : C := (.seq (.ops false [oP 31 (.fa 1 (.t 1)), oP 32 (.ld 1 false (.t 31)), oB 33 (.call 178 [(.t 32), (.c (.clo 179 [] []))]), oP 34 (.not (.t 33)), oP 2 (.mv (.t 34))]) .ret)
def c141 : C := (.seq (.ops false [oP 1 (.box 6 (.t 0)), oP 2 (.mv (cB false))]) (.seq (.seq (.ops false [oP 3 (.fa 0 (.t 1)), oP 4 (.ld 1 false (.t 3)), oP 5 (.len (.t 4)), oP 6 (.bin .lss (.t 5) (cI 1)), oP 7 (.mv (.t 6)), oG 8 7 false (.fa 0 (.t 1)), oG 9 7 false (.ld 1 false (.t 8)), oG 10 7 false (.len (.t 9)), oG 11 7 false (.bin .gtr (.t 10) (cI 24)), oP 12 (.pick (.t 7) (cB true) (.t 11)),
  oP 13 (.mv (.t 12)), oG 14 13 false (.fa 1 (.t 1)), oG 15 13 false (.ld 1 false (.t 14)), oG 16 13 false (.len (.t 15)), oG 17 13 false (.bin .gtr (.t 16) (cI 32)), oP 18 (.pick (.t 13) (cB true) (.t 17)), oP 19 (.mv (.t 18)), oG 20 19 false (.fa 2 (.t 1)), oG 21 19 false (.ld 1 false (.t 20)), oG 22 19 false (.len (.t 21)), oG 23 19 false (.bin .gtr (.t 22) (cI 24)), oP 24 (.pick (.t 19)
  (cB true) (.t 23)), oP 25 (.mv (.t 24)), oG 26 25 false (.fa 3 (.t 1)), oG 27 25 false (.ld 1 false (.t 26)), oG 28 25 false (.len (.t 27)), oG 29 25 false (.bin .gtr (.t 28) (cI 12)), oP 30 (.pick (.t 25) (cB true) (.t 29))]) (.cond (.t 30) (.seq (.ops false [oP 2 (.mv (cB false))]) .ret) .skip)) c141_1))
def r141 : List RV := [(.tmp 2)]
theorem c141_ok : ∃ code, Try.f141.body = some code ∧ compC Try.prog Try.f141.ntmps code = some (C.strip c141) := ⟨_, rfl, by kernel_rfl⟩
theorem r141_ok : compRes Try.prog Try.f141.results.toList = some r141 := by kernel_rfl
theorem f141_ok : fnOk Try.prog 141 = true := by kernel_rfl
def c142_1 : C := (.seq (.block 1 (.seq (.ops false [oP 18 (.iaS 7 (.t 14) (.t 16)), oP 19 (.ld 7 true (.t 18)), oP 5 (.new [(.v (.string ({ data := #[] }))), (.v (.int .i64 0)), (.v (.int .i64 0)), (.v (.int .i64 0)), (.v (.int .i64 0)), (.v (.int .i64 0)), .mt]), oS (.st 7 (.t 5) (.t 19))]) (.ops false [oP 20 (.iaA 4 1 (.t 3) (cI 1)), oP 21 (.ld 1 false (.t 20)), oP 22 (.fa 0 (.t 5)), oP 23 (.ld 1 false (.t 22)),
  oP 24 (.bsl 1 1 [(.v (.string ({ data := #[] })))] [(0, (.t 23))]), oP 25 (.app 1 16 (.t 21) (.t 24)), oP 26 (.iaA 4 1 (.t 3) (cI 1)), oS (.st 1 (.t 26) (.t 25))]))) (.ops false [oP 27 (.bin .add (.t 16) (cI 1)), oP 16 (.mv (.t 27))]))
def c142_2 : C := (.seq (.ops false [oP 17 (.bin .lss (.t 16) (.t 15))]) (.seq (.cond (.t 17) .skip (.exit 0)) c142_1))
def c142_3 : C := (.seq (.block 3 (.seq (.ops false [oP 33 (.iaS 3 (.t 29) (.t 31)), oP 34 (.ld 3 true (.t 33)), oP 7 (.new [(.v (.string ({ data := #[] }))), (.v (.int .i64 0)), (.v (.int .i64 0))]), oS (.st 3 (.t 7) (.t 34))]) (.ops false [oP 35 (.iaA 4 1 (.t 3) (cI 2)), oP 36 (.ld 1 false (.t 35)), oP 37 (.fa 0 (.t 7)), oP 38 (.ld 1 false (.t 37)), oP 39 (.bsl 1 1 [(.v (.string ({ data := #[] })))] [(0,
  (.t 38))]), oP 40 (.app 1 16 (.t 36) (.t 39)), oP 41 (.iaA 4 1 (.t 3) (cI 2)), oS (.st 1 (.t 41) (.t 40))]))) (.ops false [oP 42 (.bin .add (.t 31) (cI 1)), oP 31 (.mv (.t 42))]))
def c142_4 : C := (.seq (.ops false [oP 32 (.bin .lss (.t 31) (.t 30))]) (.seq (.cond (.t 32) .skip (.exit 2)) c142_3))
def c142_5 : C := (.seq (.block 5 (.seq (.ops false [oP 48 (.iaS 5 (.t 44) (.t 46)), oP 49 (.ld 5 true (.t 48)), oP 9 (.new [(.v (.string ({ data := #[] }))), (.v (.int .i64 0)), (.v (.int .i64 0)), (.v (.int .i64 0)), (.v (.int .i64 0))]), oS (.st 5 (.t 9) (.t 49))]) (.ops false [oP 50 (.iaA 4 1 (.t 3) (cI 3)), oP 51 (.ld 1 false (.t 50)), oP 52 (.fa 0 (.t 9)), oP 53 (.ld 1 false (.t 52)),
  oP 54 (.bsl 1 1 [(.v (.string ({ data := #[] })))] [(0, (.t 53))]), oP 55 (.app 1 16 (.t 51) (.t 54)), oP 56 (.iaA 4 1 (.t 3) (cI 3)), oS (.st 1 (.t 56) (.t 55))]))) (.ops false [oP 57 (.bin .add (.t 46) (cI 1)), oP 46 (.mv (.t 57))]))
def c142_6 : C := (.seq (.ops false [oP 47 (.bin .lss (.t 46) (.t 45))]) (.seq (.cond (.t 47) .skip (.exit 4)) c142_5))
def c142_7 : C := (.seq (.ops false [oP 58 (.ld 4 true (.t 3)), oS (.st 4 (.t 2) (.t 58))]) .ret)
def c142_8 : C := (.seq (.seq (.ops false [oP 43 (.fa 3 (.t 1)), oP 44 (.ld 1 false (.t 43)), oP 45 (.len (.t 44)), oP 46 (.mv (cI 0))]) (.block 4 (.loop c142_6))) c142_7)
def c142_9 : C := (.seq (.seq (.ops false [oP 28 (.fa 2 (.t 1)), oP 29 (.ld 1 false (.t 28)), oP 30 (.len (.t 29)), oP 31 (.mv (cI 0))]) (.block 2 (.loop c142_4))) c142_8)
def c142 : C := (.seq (.ops false [oP 1 (.box 6 (.t 0)), oP 2 (.new [.mt, .mt, .mt, .mt])]) (.seq (.ops false [oP 3 (.new [.mt, .mt, .mt, .mt])]) (.seq (.ops false [oP 10 (.fa 0 (.t 1)), oP 11 (.ld 1 false (.t 10)), oP 12 (.iaA 4 1 (.t 3) (cI 0)), oS (.st 1 (.t 12) (.t 11))]) (.seq (.seq (.ops false [oP 13 (.fa 1 (.t 1)), oP 14 (.ld 1 false (.t 13)), oP 15 (.len (.t 14)), oP 16 (.mv (cI 0))])
  (.block 0 (.loop c142_2))) c142_9))))
def r142 : List RV := [(.cell 2 4 true)]
theorem c142_ok : ∃ code, Try.f142.body = some code ∧ compC Try.prog Try.f142.ntmps code = some (C.strip c142) := ⟨_, rfl, by kernel_rfl⟩
theorem r142_ok : compRes Try.prog Try.f142.results.toList = some r142 := by kernel_rfl
theorem f142_ok : fnOk Try.prog 142 = true := by kernel_rfl
def c144 : C := (.seq (.ops false [oP 2 (.mv (cB false))]) (.seq (.ops false [oP 3 (.mv (.t 0)), oB 4 (.call 145 [(.t 3)]), oP 5 (.not (.t 4)), oP 2 (.mv (.t 5))]) .ret))
def r144 : List RV := [(.tmp 2)]
theorem c144_ok : ∃ code, Try.f144.body = some code ∧ compC Try.prog Try.f144.ntmps code = some (C.strip c144) := ⟨_, rfl, by kernel_rfl⟩
theorem r144_ok : compRes Try.prog Try.f144.results.toList = some r144 := by kernel_rfl
theorem f144_ok : fnOk Try.prog 144 = true := by kernel_rfl
def c145_1 : C := (.ops false [oP 28 (.bin .add (.t 20) (cI 1)), oP 20 (.mv (.t 28))])
def c145_2 : C := (.seq (.block 1 (.seq (.ops false [oP 22 (.mv (.t 20)), oP 3 (.mv (.t 22))]) (.seq (.ops false [oP 23 (.mv (.t 0)), oP 24 (.mv (.t 3)), oP 25 (.ixS (.t 23) (.t 24)), oB 26 (.call 181 [(.t 25)]), oP 27 (.bin .eql (.t 26) (cI 0))]) (.cond (.t 27) (.seq (.ops false [oP 2 (.mv (cB false))]) .ret) .skip)))) c145_1)
def c145_3 : C := (.seq (.ops false [oP 21 (.bin .lss (.t 20) (.t 19))]) (.seq (.cond (.t 21) .skip (.exit 0)) c145_2))
def c145_4 : C := (.seq (.ops false [oP 2 (.mv (cB true))]) .ret)
def c145_5 : C := (.seq (.seq (.ops false [oP 18 (.mv (.t 0)), oP 19 (.lenS (.t 18)), oP 20 (.mv (cI 0))]) (.block 0 (.loop c145_3))) c145_4)
def c145 : C := (.seq (.ops false [oP 2 (.mv (cB false))]) (.seq (.seq (.ops false [oP 4 (.mv (.t 0)), oP 5 (.lenS (.t 4)), oP 6 (.bin .lss (.t 5) (cI 1)), oP 7 (.mv (.t 6)), oG 8 7 false (.mv (.t 0)), oG 9 7 false (.lenS (.t 8)), oG 10 7 false (.bin .gtr (.t 9) (cI 12)), oP 11 (.pick (.t 7) (cB true) (.t 10)), oP 12 (.mv (.t 11)), oG 13 12 false (.mv (.t 0)), oG 14 12 false (.ixS (.t 13) (cI 0)), ⟨(.some 15),
  (.some (12, false)), (.call 181 [(.t 14)]), 15, [], true⟩, oG 16 12 false (.bin .neq (.t 15) (cI 1)), oP 17 (.pick (.t 12) (cB true) (.t 16))]) (.cond (.t 17) (.seq (.ops false [oP 2 (.mv (cB false))]) .ret) .skip)) c145_5))
def r145 : List RV := [(.tmp 2)]
theorem c145_ok : ∃ code, Try.f145.body = some code ∧ compC Try.prog Try.f145.ntmps code = some (C.strip c145) := ⟨_, rfl, by kernel_rfl⟩
theorem r145_ok : compRes Try.prog Try.f145.results.toList = some r145 := by kernel_rfl
theorem f145_ok : fnOk Try.prog 145 = true := by kernel_rfl
def c146_1 : C := (.ops false [oP 26 (.bin .add (.t 16) (cI 1)), oP 16 (.mv (.t 26))])
def c146_2 : C := (.seq (.block 3 (.seq (.ops false [oP 18 (.mv (.t 16)), oP 19 (.iaS 1 (.t 14) (.t 16)), oP 20 (.ld 1 false (.t 19)), oP 5 (.mv (.t 18)), oP 6 (.mv (.t 20))]) (.seq (.ops false [oP 21 (.mv (.t 4)), oP 22 (.mv (.t 6)), oB 23 (.call 182 [(.t 21), (.t 22)]), oP 24 (.mv (.t 5)), oP 25 (.bin .lss (.t 23) (.t 24))]) (.cond (.t 25) (.seq (.ops false [oP 2 (.mv (cB true))]) .ret) .skip)))) c146_1)
def c146_3 : C := (.seq (.ops false [oP 17 (.bin .lss (.t 16) (.t 15))]) (.seq (.cond (.t 17) .skip (.exit 2)) c146_2))
def c146_4 : C := (.ops false [oP 27 (.bin .add (.t 11) (cI 1)), oP 11 (.mv (.t 27))])
def c146_5 : C := (.seq (.block 1 (.seq (.ops false [oP 13 (.ixA 4 1 false (.t 10) (.t 11)), oP 4 (.mv (.t 13))]) (.seq (.ops false [oP 14 (.mv (.t 4)), oP 15 (.len (.t 14)), oP 16 (.mv (cI 0))]) (.block 2 (.loop c146_3))))) c146_4)
def c146_6 : C := (.seq (.ops false [oP 12 (.bin .lss (.t 11) (cI 4))]) (.seq (.cond (.t 12) .skip (.exit 0)) c146_5))
def c146_7 : C := (.seq (.ops false [oP 36 (.fa 3 (.t 1)), oP 37 (.ld 1 false (.t 36)), oP 38 (.mkf 184 [] [(.t 8)]), oB 39 (.call 183 [(.t 37), (.t 38)]), oP 40 (.mv (.t 7)), oP 41 (.bin .lss (.t 39) (.t 40))]) (.cond (.t 41) (.seq (.ops false [oP 2 (.mv (cB true))]) .ret) .skip))
def c146_8 : C := (.ops false [oP 42 (.bin .add (.t 31) (cI 1)), oP 31 (.mv (.t 42))])
def c146_9 : C := (.seq (.block 5 (.seq (.ops false [oP 33 (.mv (.t 31)), oP 34 (.iaS 5 (.t 29) (.t 31)), oP 35 (.ld 5 true (.t 34)), oP 8 (.new [(.v (.string ({ data := #[] }))), (.v (.int .i64 0)), (.v (.int .i64 0)), (.v (.int .i64 0)), (.v (.int .i64 0))]), oP 7 (.mv (.t 33)), oS (.st 5 (.t 8) (.t 35))]) (.weak c146_7))) c146_8)
def c146_10 : C := (.seq (.ops false [oP 32 (.bin .lss (.t 31) (.t 30))]) (.seq (.cond (.t 32) .skip (.exit 4)) c146_9))
def c146_11 : C := (.seq (.ops false [oP 2 (.mv (cB false))]) .ret)
def c146_12 : C := (.seq (.seq (.ops false [oP 28 (.fa 3 (.t 1)), oP 29 (.ld 1 false (.t 28)), oP 30 (.len (.t 29)), oP 31 (.mv (cI 0))]) (.block 4 (.loop c146_10))) c146_11)
def c146 : C := (.seq (.ops false [oP 1 (.box 6 (.t 0)), oP 2 (.mv (cB false))]) (.seq (.seq (.ops false [oP 9 (.ld 6 true (.t 1)), oP 10 (.call 142 [(.t 9)]), oP 11 (.mv (cI 0))]) (.block 0 (.loop c146_6))) c146_12))
def r146 : List RV := [(.tmp 2)]
theorem c146_ok : ∃ code, Try.f146.body = some code ∧ compC Try.prog Try.f146.ntmps code = some (C.strip c146) := ⟨_, rfl, by kernel_rfl⟩
theorem r146_ok : compRes Try.prog Try.f146.results.toList = some r146 := by kernel_rfl
theorem f146_ok : fnOk Try.prog 146 = true := by kernel_rfl
def c147_1 : C := (.seq (.block 1 (.seq (.ops false [oP 15 (.iaS 7 (.t 11) (.t 13)), oP 16 (.ld 7 true (.t 15)), oP 5 (.new [(.v (.string ({ data := #[] }))), (.v (.int .i64 0)), (.v (.int .i64 0)), (.v (.int .i64 0)), (.v (.int .i64 0)), (.v (.int .i64 0)), .mt]), oS (.st 7 (.t 5) (.t 16))]) (.ops false [oP 17 (.mv (.t 3)), oP 18 (.fa 1 (.t 5)), oP 19 (.ld 1 false (.t 18)), oP 20 (.fa 2 (.t 5)),
  oP 21 (.ld 1 false (.t 20)), oP 22 (.bsl 1 2 [(.v (.int .i64 0))] [(0, (.t 19)), (1, (.t 21))]), oP 23 (.app 1 8 (.t 17) (.t 22)), oP 3 (.mv (.t 23))]))) (.ops false [oP 24 (.bin .add (.t 13) (cI 1)), oP 13 (.mv (.t 24))]))
def c147_2 : C := (.seq (.ops false [oP 14 (.bin .lss (.t 13) (.t 12))]) (.seq (.cond (.t 14) .skip (.exit 0)) c147_1))
def c147_3 : C := (.seq (.block 3 (.seq (.ops false [oP 30 (.iaS 3 (.t 26) (.t 28)), oP 31 (.ld 3 true (.t 30)), oP 7 (.new [(.v (.string ({ data := #[] }))), (.v (.int .i64 0)), (.v (.int .i64 0))]), oS (.st 3 (.t 7) (.t 31))]) (.ops false [oP 32 (.mv (.t 3)), oP 33 (.fa 1 (.t 7)), oP 34 (.ld 1 false (.t 33)), oP 35 (.bsl 1 1 [(.v (.int .i64 0))] [(0, (.t 34))]), oP 36 (.app 1 8 (.t 32) (.t 35)),
  oP 3 (.mv (.t 36))]))) (.ops false [oP 37 (.bin .add (.t 28) (cI 1)), oP 28 (.mv (.t 37))]))
def c147_4 : C := (.seq (.ops false [oP 29 (.bin .lss (.t 28) (.t 27))]) (.seq (.cond (.t 29) .skip (.exit 2)) c147_3))
def c147_5 : C := (.seq (.block 5 (.seq (.ops false [oP 43 (.iaS 5 (.t 39) (.t 41)), oP 44 (.ld 5 true (.t 43)), oP 9 (.new [(.v (.string ({ data := #[] }))), (.v (.int .i64 0)), (.v (.int .i64 0)), (.v (.int .i64 0)), (.v (.int .i64 0))]), oS (.st 5 (.t 9) (.t 44))]) (.ops false [oP 45 (.mv (.t 3)), oP 46 (.fa 1 (.t 9)), oP 47 (.ld 1 false (.t 46)), oP 48 (.bsl 1 1 [(.v (.int .i64 0))] [(0, (.t 47))]),
  oP 49 (.app 1 8 (.t 45) (.t 48)), oP 3 (.mv (.t 49))]))) (.ops false [oP 50 (.bin .add (.t 41) (cI 1)), oP 41 (.mv (.t 50))]))
def c147_6 : C := (.seq (.ops false [oP 42 (.bin .lss (.t 41) (.t 40))]) (.seq (.cond (.t 42) .skip (.exit 4)) c147_5))
def c147_7 : C := (.seq (.ops false [oP 51 (.mv (.t 3)), oP 52 (.mkf 185 [] [(.t 1)]), oB 53 (.call 121 [(.t 51), (.t 52)]), oP 54 (.not (.t 53)), oP 2 (.mv (.t 54))]) .ret)
def c147_8 : C := (.seq (.seq (.ops false [oP 38 (.fa 3 (.t 1)), oP 39 (.ld 1 false (.t 38)), oP 40 (.len (.t 39)), oP 41 (.mv (cI 0))]) (.block 4 (.loop c147_6))) (.weak c147_7))
def c147_9 : C := (.seq (.seq (.ops false [oP 25 (.fa 2 (.t 1)), oP 26 (.ld 1 false (.t 25)), oP 27 (.len (.t 26)), oP 28 (.mv (cI 0))]) (.block 2 (.loop c147_4))) c147_8)
def c147 : C := (.seq (.ops false [oP 1 (.box 6 (.t 0)), oP 2 (.mv (cB false))]) (.seq (.ops false [oP 3 (.mv (.c .mt))]) (.seq (.seq (.ops false [oP 10 (.fa 1 (.t 1)), oP 11 (.ld 1 false (.t 10)), oP 12 (.len (.t 11)), oP 13 (.mv (cI 0))]) (.block 0 (.loop c147_2))) c147_9)))
def r147 : List RV := [(.tmp 2)]
theorem c147_ok : ∃ code, Try.f147.body = some code ∧ compC Try.prog Try.f147.ntmps code = some (C.strip c147) := ⟨_, rfl, by kernel_rfl⟩
theorem r147_ok : compRes Try.prog Try.f147.results.toList = some r147 := by kernel_rfl
theorem f147_ok : fnOk Try.prog 147 = true := by kernel_rfl
def c148_1 : C := (.seq (.ops false [oP 12 (.fa 4 (.t 1)), oP 13 (.ld 1 false (.t 12)), oB 14 (.call 190 [(.t 13), (cI (-100000)), (cI 100000000)]), oP 15 (.mv (.t 14)), oG 16 15 true (.fa 5 (.t 1)), oG 17 15 true (.ld 1 false (.t 16)), ⟨(.some 18), (.some (15, true)), (.call 190 [(.t 17), (cI 0), (cI 100)]), 18, [], true⟩, oP 19 (.pick (.t 15) (.t 18) (cB false)), oP 2 (.mv (.t 19))]) .ret)
def c148_2 : C := (.seq (.seq (.ops false [oP 9 (.fa 3 (.t 1)), oP 10 (.ld 1 false (.t 9)), oB 11 (.call 191 [(.t 10), (.c (.clo 192 [] []))])]) (.cond (.t 11) (.seq (.ops false [oP 2 (.mv (cB false))]) .ret) .skip)) c148_1)
def c148_3 : C := (.seq (.seq (.ops false [oP 6 (.fa 2 (.t 1)), oP 7 (.ld 1 false (.t 6)), oB 8 (.call 188 [(.t 7), (.c (.clo 189 [] []))])]) (.cond (.t 8) (.seq (.ops false [oP 2 (.mv (cB false))]) .ret) .skip)) c148_2)
def c148 : C := (.seq (.ops false [oP 1 (.box 6 (.t 0)), oP 2 (.mv (cB false))]) (.seq (.seq (.ops false [oP 3 (.fa 1 (.t 1)), oP 4 (.ld 1 false (.t 3)), oB 5 (.call 178 [(.t 4), (.c (.clo 186 [] []))])]) (.cond (.t 5) (.seq (.ops false [oP 2 (.mv (cB false))]) .ret) .skip)) c148_3))
def r148 : List RV := [(.tmp 2)]
theorem c148_ok : ∃ code, Try.f148.body = some code ∧ compC Try.prog Try.f148.ntmps code = some (C.strip c148) := ⟨_, rfl, by kernel_rfl⟩
theorem r148_ok : compRes Try.prog Try.f148.results.toList = some r148 := by kernel_rfl
theorem f148_ok : fnOk Try.prog 148 = true := by kernel_rfl
def c156 : C := (.seq (.ops false [oP 6 (.mv (cB false))]) (.seq (.ops false [oP 7 (.mv (.t 0)), oP 8 (.mv (.t 1)), oP 9 (.bin .geq (.t 7) (.t 8)), oP 10 (.mv (.t 9)), oG 11 10 true (.mv (.t 0)), oG 12 10 true (.mv (.t 2)), oG 13 10 true (.bin .leq (.t 11) (.t 12)), oP 14 (.pick (.t 10) (.t 13) (cB false)), oP 6 (.mv (.t 14))]) .ret))
def r156 : List RV := [(.tmp 6)]
theorem c156_ok : ∃ code, Try.f156.body = some code ∧ compC Try.prog Try.f156.ntmps code = some (C.strip c156) := ⟨_, rfl, by kernel_rfl⟩
theorem r156_ok : compRes Try.prog Try.f156.results.toList = some r156 := by kernel_rfl
theorem f156_ok : fnOk Try.prog 156 = true := by kernel_rfl
def c157_1 : C := (.seq (.block 1 (.seq (.ops false [oP 18 (.iaS 7 (.t 14) (.t 16)), oP 19 (.ld 7 true (.t 18)), oP 5 (.new [(.v (.string ({ data := #[] }))), (.v (.int .i64 0)), (.v (.int .i64 0)), (.v (.int .i64 0)), (.v (.int .i64 0)), (.v (.int .i64 0)), .mt]), oS (.st 7 (.t 5) (.t 19))]) (.ops false [oP 20 (.iaA 4 1 (.t 3) (cI 1)), oP 21 (.ld 1 false (.t 20)), oP 22 (.fa 0 (.t 5)), oP 23 (.ld 1 false (.t 22)),
  oP 24 (.bsl 1 1 [(.v (.string ({ data := #[] })))] [(0, (.t 23))]), oP 25 (.app 1 16 (.t 21) (.t 24)), oP 26 (.iaA 4 1 (.t 3) (cI 1)), oS (.st 1 (.t 26) (.t 25))]))) (.ops false [oP 27 (.bin .add (.t 16) (cI 1)), oP 16 (.mv (.t 27))]))
def c157_2 : C := (.seq (.ops false [oP 17 (.bin .lss (.t 16) (.t 15))]) (.seq (.cond (.t 17) .skip (.exit 0)) c157_1))
def c157_3 : C := (.seq (.block 3 (.seq (.ops false [oP 33 (.iaS 3 (.t 29) (.t 31)), oP 34 (.ld 3 true (.t 33)), oP 7 (.new [(.v (.string ({ data := #[] }))), (.v (.int .i64 0)), (.v (.int .i64 0))]), oS (.st 3 (.t 7) (.t 34))]) (.ops false [oP 35 (.iaA 4 1 (.t 3) (cI 2)), oP 36 (.ld 1 false (.t 35)), oP 37 (.fa 0 (.t 7)), oP 38 (.ld 1 false (.t 37)), oP 39 (.bsl 1 1 [(.v (.string ({ data := #[] })))] [(0,
  (.t 38))]), oP 40 (.app 1 16 (.t 36) (.t 39)), oP 41 (.iaA 4 1 (.t 3) (cI 2)), oS (.st 1 (.t 41) (.t 40))]))) (.ops false [oP 42 (.bin .add (.t 31) (cI 1)), oP 31 (.mv (.t 42))]))
def c157_4 : C := (.seq (.ops false [oP 32 (.bin .lss (.t 31) (.t 30))]) (.seq (.cond (.t 32) .skip (.exit 2)) c157_3))
def c157_5 : C := (.seq (.block 5 (.seq (.ops false [oP 48 (.iaS 5 (.t 44) (.t 46)), oP 49 (.ld 5 true (.t 48)), oP 9 (.new [(.v (.string ({ data := #[] }))), (.v (.int .i64 0)), (.v (.int .i64 0)), (.v (.int .i64 0)), (.v (.int .i64 0))]), oS (.st 5 (.t 9) (.t 49))]) (.ops false [oP 50 (.iaA 4 1 (.t 3) (cI 3)), oP 51 (.ld 1 false (.t 50)), oP 52 (.fa 0 (.t 9)), oP 53 (.ld 1 false (.t 52)),
  oP 54 (.bsl 1 1 [(.v (.string ({ data := #[] })))] [(0, (.t 53))]), oP 55 (.app 1 16 (.t 51) (.t 54)), oP 56 (.iaA 4 1 (.t 3) (cI 3)), oS (.st 1 (.t 56) (.t 55))]))) (.ops false [oP 57 (.bin .add (.t 46) (cI 1)), oP 46 (.mv (.t 57))]))
def c157_6 : C := (.seq (.ops false [oP 47 (.bin .lss (.t 46) (.t 45))]) (.seq (.cond (.t 47) .skip (.exit 4)) c157_5))
def c157_7 : C := (.seq (.ops false [oP 58 (.ld 4 true (.t 3)), oS (.st 4 (.t 2) (.t 58))]) .ret)
def c157_8 : C := (.seq (.seq (.ops false [oP 43 (.fa 3 (.t 1)), oP 44 (.ld 1 false (.t 43)), oP 45 (.len (.t 44)), oP 46 (.mv (cI 0))]) (.block 4 (.loop c157_6))) c157_7)
def c157_9 : C := (.seq (.seq (.ops false [oP 28 (.fa 2 (.t 1)), oP 29 (.ld 1 false (.t 28)), oP 30 (.len (.t 29)), oP 31 (.mv (cI 0))]) (.block 2 (.loop c157_4))) c157_8)
def c157 : C := (.seq (.ops false [oP 1 (.box 6 (.t 0)), oP 2 (.new [.mt, .mt, .mt, .mt])]) (.seq (.ops false [oP 3 (.new [.mt, .mt, .mt, .mt])]) (.seq (.ops false [oP 10 (.fa 0 (.t 1)), oP 11 (.ld 1 false (.t 10)), oP 12 (.iaA 4 1 (.t 3) (cI 0)), oS (.st 1 (.t 12) (.t 11))]) (.seq (.seq (.ops false [oP 13 (.fa 1 (.t 1)), oP 14 (.ld 1 false (.t 13)), oP 15 (.len (.t 14)), oP 16 (.mv (cI 0))])
  (.block 0 (.loop c157_2))) c157_9))))
def r157 : List RV := [(.cell 2 4 true)]
theorem c157_ok : ∃ code, Try.f157.body = some code ∧ compC Try.prog Try.f157.ntmps code = some (C.strip c157) := ⟨_, rfl, by kernel_rfl⟩
theorem r157_ok : compRes Try.prog Try.f157.results.toList = some r157 := by kernel_rfl
theorem f157_ok : fnOk Try.prog 157 = true := by kernel_rfl
def c158_1 : C := (.ops false [oP 26 (.mv (.t 3)), oP 27 (.bin .add (.t 26) (cI 1)), oP 3 (.mv (.t 27))])
def c158_2 : C := (.seq (.block 1 (.seq (.ops false [oP 28 (.mv (.t 0)), oP 29 (.mv (.t 3)), oP 30 (.ixS (.t 28) (.t 29)), oP 31 (.bin .lss (.t 30) (.c (.v (.int .u8 97)))), oP 32 (.mv (.t 31)), oG 33 32 false (.mv (.t 0)), oG 34 32 false (.mv (.t 3)), oG 35 32 false (.ixS (.t 33) (.t 34)), oG 36 32 false (.bin .gtr (.t 35) (.c (.v (.int .u8 122)))), oP 37 (.pick (.t 32) (cB true) (.t 36)), oP 38 (.mv (.t 37)),
  oG 39 38 true (.mv (.t 0)), oG 40 38 true (.mv (.t 3)), oG 41 38 true (.ixS (.t 39) (.t 40)), oG 42 38 true (.bin .lss (.t 41) (.c (.v (.int .u8 48)))), oG 43 38 true (.mv (.t 42)), oG 44 43 false (.mv (.t 0)), oG 45 43 false (.mv (.t 3)), oG 46 43 false (.ixS (.t 44) (.t 45)), oG 47 43 false (.bin .gtr (.t 46) (.c (.v (.int .u8 57)))), oG 48 38 true (.pick (.t 43) (cB true) (.t 47)),
  oP 49 (.pick (.t 38) (.t 48) (cB false)), oP 50 (.mv (.t 49)), oG 51 50 true (.mv (.t 0)), oG 52 50 true (.mv (.t 3)), oG 53 50 true (.ixS (.t 51) (.t 52)), oG 54 50 true (.bin .neq (.t 53) (.c (.v (.int .u8 45)))), oP 55 (.pick (.t 50) (.t 54) (cB false))]) (.cond (.t 55) (.seq (.ops false [oP 2 (.mv (cB false))]) .ret) .skip))) c158_1)
def c158_3 : C := (.seq (.seq (.ops false [oP 22 (.mv (.t 3)), oP 23 (.mv (.t 0)), oP 24 (.lenS (.t 23)), oP 25 (.bin .lss (.t 22) (.t 24))]) (.cond (.t 25) .skip (.exit 0))) c158_2)
def c158_4 : C := (.seq (.ops false [oP 2 (.mv (cB true))]) .ret)
def c158_5 : C := (.seq (.seq (.ops false [oP 3 (.mv (cI 0))]) (.block 0 (.loop c158_3))) c158_4)
def c158 : C := (.seq (.ops false [oP 2 (.mv (cB false))]) (.seq (.seq (.ops false [oP 4 (.mv (.t 0)), oP 5 (.lenS (.t 4)), oP 6 (.bin .lss (.t 5) (cI 1)), oP 7 (.mv (.t 6)), oG 8 7 false (.mv (.t 0)), oG 9 7 false (.lenS (.t 8)), oG 10 7 false (.bin .gtr (.t 9) (cI 12)), oP 11 (.pick (.t 7) (cB true) (.t 10)), oP 12 (.mv (.t 11)), oG 13 12 false (.mv (.t 0)), oG 14 12 false (.ixS (.t 13) (cI 0)),
  oG 15 12 false (.bin .lss (.t 14) (.c (.v (.int .u8 97)))), oP 16 (.pick (.t 12) (cB true) (.t 15)), oP 17 (.mv (.t 16)), oG 18 17 false (.mv (.t 0)), oG 19 17 false (.ixS (.t 18) (cI 0)), oG 20 17 false (.bin .gtr (.t 19) (.c (.v (.int .u8 122)))), oP 21 (.pick (.t 17) (cB true) (.t 20))]) (.cond (.t 21) (.seq (.ops false [oP 2 (.mv (cB false))]) .ret) .skip)) c158_5))
def r158 : List RV := [(.tmp 2)]
theorem c158_ok : ∃ code, Try.f158.body = some code ∧ compC Try.prog Try.f158.ntmps code = some (C.strip c158) := ⟨_, rfl, by kernel_rfl⟩
theorem r158_ok : compRes Try.prog Try.f158.results.toList = some r158 := by kernel_rfl
theorem f158_ok : fnOk Try.prog 158 = true := by kernel_rfl
def c159_1 : C := (.ops false [oP 13 (.mv (.t 4)), oP 14 (.bin .add (.t 13) (cI 1)), oP 4 (.mv (.t 14))])
def c159_2 : C := (.seq (.block 3 (.seq (.ops true [oP 15 (.mv (.t 0)), oP 16 (.mv (.t 3)), oA 17 (.iaS 1 (.t 15) (.t 16)) [1, 0], oA 18 (.ld 1 false (.t 17)) [0, 1, 2], oP 19 (.mv (.t 0)), oP 20 (.mv (.t 4)), oA 21 (.iaS 1 (.t 19) (.t 20)) [5, 4], oA 22 (.ld 1 false (.t 21)) [4, 5, 6], oA 23 (.bin .eql (.t 18) (.t 22)) [6, 5, 4, 2, 1, 0, 7, 3]]) (.cond (.t 23) (.seq (.ops false [oP 2 (.mv (cB true))]) .ret)
  .skip))) c159_1)
def c159_3 : C := (.seq (.seq (.ops false [oP 10 (.mv (.t 4)), oP 11 (.mv (.t 3)), oP 12 (.bin .lss (.t 10) (.t 11))]) (.cond (.t 12) .skip (.exit 2))) c159_2)
def c159_4 : C := (.ops false [oP 24 (.bin .add (.t 7) (cI 1)), oP 7 (.mv (.t 24))])
def c159_5 : C := (.seq (.block 1 (.seq (.ops false [oP 9 (.mv (.t 7)), oP 3 (.mv (.t 9))]) (.seq (.ops false [oP 4 (.mv (cI 0))]) (.block 2 (.loop c159_3))))) c159_4)
def c159_6 : C := (.seq (.ops false [oP 8 (.bin .lss (.t 7) (.t 6))]) (.seq (.cond (.t 8) .skip (.exit 0)) c159_5))
def c159_7 : C := (.seq (.ops false [oP 2 (.mv (cB false))]) .ret)
def c159 : C := (.seq (.ops false [oP 2 (.mv (cB false))]) (.seq (.seq (.ops false [oP 5 (.mv (.t 0)), oP 6 (.len (.t 5)), oP 7 (.mv (cI 0))]) (.block 0 (.loop c159_6))) c159_7))
def r159 : List RV := [(.tmp 2)]
theorem c159_ok : ∃ code, Try.f159.body = some code ∧ compC Try.prog Try.f159.ntmps code = some (C.strip c159) := ⟨_, rfl, by kernel_rfl⟩
theorem r159_ok : compRes Try.prog Try.f159.results.toList = some r159 := by kernel_rfl
theorem f159_ok : fnOk Try.prog 159 = true := by kernel_rfl
def c160_1 : C := (.ops false [oP 84 (.bin .add (.t 53) (cI 1)), oP 53 (.mv (.t 84))])
def c160_2 : C := (.seq (.block 1 (.seq (.ops false [oP 55 (.mv (.t 53)), oP 56 (.iaS 3 (.t 51) (.t 53)), oP 57 (.ld 3 true (.t 56)), oP 4 (.new [(.v (.int .i64 0)), (.v (.int .i64 0)), (.v (.int .i64 0))]), oP 3 (.mv (.t 55)), oS (.st 3 (.t 4) (.t 57))]) (.seq (.ops true [oP 58 (.mv (.t 3)), oA 59 (.bin .gtr (.t 58) (cI 0)) [0], oA 60 (.mv (.t 59)) [0, 1], ⟨(.some 61), (.some (60, true)), (.fa 0 (.t 4)), 61, [1,
  0, 2], false⟩, ⟨(.some 62), (.some (60, true)), (.ld 1 false (.t 61)), 62, [0, 1, 2, 3], false⟩, ⟨(.some 63), (.some (60, true)), (.fa 6 (.t 1)), 63, [1, 0, 2], false⟩, ⟨(.some 64), (.some (60, true)), (.ld 1 false (.t 63)), 64, [0, 1, 2, 5], false⟩, ⟨(.some 65), (.some (60, true)), (.mv (.t 3)), 65, [1, 0, 2], false⟩, ⟨(.some 66), (.some (60, true)), (.bin .sub (.t 65) (cI 1)), 66, [0, 1, 2, 7],
  false⟩, ⟨(.some 67), (.some (60, true)), (.iaS 3 (.t 64) (.t 66)), 67, [7, 5, 1, 0, 2, 8, 6], false⟩, ⟨(.some 68), (.some (60, true)), (.fa 0 (.t 67)), 68, [6, 8, 0, 1, 5, 7, 2, 9], false⟩, ⟨(.some 69), (.some (60, true)), (.ld 1 false (.t 68)), 69, [9, 7, 5, 1, 0, 8, 6, 2, 10], false⟩, ⟨(.some 70), (.some (60, true)), (.bin .leq (.t 62) (.t 69)), 70, [10, 6, 8, 5, 7, 9, 3, 1, 0, 2, 11, 4],
  false⟩, oA 71 (.pick (.t 60) (.t 70) (cB false)) [4, 11, 3, 9, 7, 5, 8, 6, 10, 1, 0, 12, 2], oA 72 (.mv (.t 71)) [12, 0, 1, 10, 6, 8, 5, 7, 9, 3, 11, 4, 2, 13], ⟨(.some 73), (.some (72, false)), (.fa 1 (.t 4)), 73, [13, 2, 4, 11, 3, 9, 7, 5, 8, 6, 10, 1, 0, 12, 14], false⟩, ⟨(.some 74), (.some (72, false)), (.ld 1 false (.t 73)), 74, [12, 0, 1, 10, 6, 8, 5, 7, 9, 3, 11, 4, 2, 13, 14, 15], false⟩,
  ⟨(.some 75), (.some (72, false)), (.call 156 [(.t 74), (cI (-500)), (cI 5000)]), 75, [15, 13, 2, 4, 11, 3, 9, 7, 5, 8, 6, 10, 1, 0, 12, 14, 16], true⟩, ⟨(.some 76), (.some (72, false)), (.not (.t 75)), 76, [16, 12, 0, 1, 10, 6, 8, 5, 7, 9, 3, 11, 4, 2, 13, 15, 14, 17], false⟩, oA 77 (.pick (.t 72) (cB true) (.t 76)) [17, 15, 16, 13, 2, 4, 11, 3, 9, 7, 5, 8, 6, 10, 1, 0, 12, 18, 14],
  oA 78 (.mv (.t 77)) [14, 18, 12, 0, 1, 10, 6, 8, 5, 7, 9, 3, 11, 4, 2, 13, 16, 15, 17, 19], ⟨(.some 79), (.some (78, false)), (.fa 2 (.t 4)), 79, [19, 17, 15, 16, 13, 2, 4, 11, 3, 9, 7, 5, 8, 6, 10, 1, 0, 12, 18, 14, 20], false⟩, ⟨(.some 80), (.some (78, false)), (.ld 1 false (.t 79)), 80, [14, 18, 12, 0, 1, 10, 6, 8, 5, 7, 9, 3, 11, 4, 2, 13, 16, 15, 17, 19, 20, 21], false⟩, ⟨(.some 81),
  (.some (78, false)), (.call 156 [(.t 80), (cI 0), (cI 100000000)]), 81, [21, 19, 17, 15, 16, 13, 2, 4, 11, 3, 9, 7, 5, 8, 6, 10, 1, 0, 12, 18, 14, 20, 22], true⟩, ⟨(.some 82), (.some (78, false)), (.not (.t 81)), 82, [22, 14, 18, 12, 0, 1, 10, 6, 8, 5, 7, 9, 3, 11, 4, 2, 13, 16, 15, 17, 19, 21, 20, 23], false⟩, oA 83 (.pick (.t 78) (cB true) (.t 82)) [23, 21, 22, 19, 17, 15, 16, 13, 2, 4, 11, 3,
  9, 7, 5, 8, 6, 10, 1, 0, 12, 18, 14, 24, 20]]) (.cond (.t 83) (.seq (.ops false [oP 2 (.mv (cB false))]) .ret) .skip)))) c160_1)
def c160_3 : C := (.seq (.ops false [oP 54 (.bin .lss (.t 53) (.t 52))]) (.seq (.cond (.t 54) .skip (.exit 0)) c160_2))
def c160_4 : C := (.seq (.ops false [oP 2 (.mv (cB true))]) .ret)
def c160_5 : C := (.seq (.seq (.ops false [oP 50 (.fa 6 (.t 1)), oP 51 (.ld 1 false (.t 50)), oP 52 (.len (.t 51)), oP 53 (.mv (cI 0))]) (.block 0 (.loop c160_3))) c160_4)
def c160 : C := (.seq (.ops false [oP 1 (.box 7 (.t 0)), oP 2 (.mv (cB false))]) (.seq (.seq (.ops true [oP 5 (.fa 1 (.t 1)), oA 6 (.ld 1 false (.t 5)) [0], oP 7 (.fa 2 (.t 1)), oA 8 (.ld 1 false (.t 7)) [2], oA 9 (.bin .eql (.t 6) (.t 8)) [2, 0, 3, 1], oA 10 (.mv (.t 9)) [1, 3, 0, 2, 4], ⟨(.some 11), (.some (10, false)), (.fa 3 (.t 1)), 11, [4, 2, 0, 3, 1, 5], false⟩, ⟨(.some 12), (.some (10, false)),
  (.ld 1 false (.t 11)), 12, [1, 3, 0, 2, 4, 5, 6], false⟩, ⟨(.some 13), (.some (10, false)), (.call 156 [(.t 12), (cI 1), (cI 1000000)]), 13, [6, 4, 2, 0, 3, 1, 5, 7], true⟩, ⟨(.some 14), (.some (10, false)), (.not (.t 13)), 14, [7, 1, 3, 0, 2, 4, 6, 5, 8], false⟩, oA 15 (.pick (.t 10) (cB true) (.t 14)) [8, 6, 7, 4, 2, 0, 3, 1, 9, 5], oA 16 (.mv (.t 15)) [5, 9, 1, 3, 0, 2, 4, 7, 6, 8, 10],
  ⟨(.some 17), (.some (16, false)), (.fa 4 (.t 1)), 17, [10, 8, 6, 7, 4, 2, 0, 3, 1, 9, 5, 11], false⟩, ⟨(.some 18), (.some (16, false)), (.ld 1 false (.t 17)), 18, [5, 9, 1, 3, 0, 2, 4, 7, 6, 8, 10, 11, 12], false⟩, ⟨(.some 19), (.some (16, false)), (.call 156 [(.t 18), (cI 0), (cI 1000)]), 19, [12, 10, 8, 6, 7, 4, 2, 0, 3, 1, 9, 5, 11, 13], true⟩, ⟨(.some 20), (.some (16, false)), (.not (.t 19)),
  20, [13, 5, 9, 1, 3, 0, 2, 4, 7, 6, 8, 10, 12, 11, 14], false⟩, oA 21 (.pick (.t 16) (cB true) (.t 20)) [14, 12, 13, 10, 8, 6, 7, 4, 2, 0, 3, 1, 9, 5, 15, 11], oA 22 (.mv (.t 21)) [11, 15, 5, 9, 1, 3, 0, 2, 4, 7, 6, 8, 10, 13, 12, 14, 16], ⟨(.some 23), (.some (22, false)), (.fa 5 (.t 1)), 23, [16, 14, 12, 13, 10, 8, 6, 7, 4, 2, 0, 3, 1, 9, 5, 15, 11, 17], false⟩, ⟨(.some 24), (.some (22, false)),
  (.ld 1 false (.t 23)), 24, [11, 15, 5, 9, 1, 3, 0, 2, 4, 7, 6, 8, 10, 13, 12, 14, 16, 17, 18], false⟩, ⟨(.some 25), (.some (22, false)), (.call 156 [(.t 24), (cI 0), (cI 100000)]), 25, [18, 16, 14, 12, 13, 10, 8, 6, 7, 4, 2, 0, 3, 1, 9, 5, 15, 11, 17, 19], true⟩, ⟨(.some 26), (.some (22, false)), (.not (.t 25)), 26, [19, 11, 15, 5, 9, 1, 3, 0, 2, 4, 7, 6, 8, 10, 13, 12, 14, 16, 18, 17, 20],
  false⟩, oA 27 (.pick (.t 22) (cB true) (.t 26)) [20, 18, 19, 16, 14, 12, 13, 10, 8, 6, 7, 4, 2, 0, 3, 1, 9, 5, 15, 11, 21, 17], oA 28 (.mv (.t 27)) [17, 21, 11, 15, 5, 9, 1, 3, 0, 2, 4, 7, 6, 8, 10, 13, 12, 14, 16, 19, 18, 20, 22], ⟨(.some 29), (.some (28, false)), (.fa 6 (.t 1)), 29, [22, 20, 18, 19, 16, 14, 12, 13, 10, 8, 6, 7, 4, 2, 0, 3, 1, 9, 5, 15, 11, 21, 17, 23], false⟩, ⟨(.some 30),
  (.some (28, false)), (.ld 1 false (.t 29)), 30, [17, 21, 11, 15, 5, 9, 1, 3, 0, 2, 4, 7, 6, 8, 10, 13, 12, 14, 16, 19, 18, 20, 22, 23, 24], false⟩, ⟨(.some 31), (.some (28, false)), (.iaS 3 (.t 30) (cI 0)), 31, [24, 22, 20, 18, 19, 16, 14, 12, 13, 10, 8, 6, 7, 4, 2, 0, 3, 1, 9, 5, 15, 11, 21, 17, 23, 25], false⟩, ⟨(.some 32), (.some (28, false)), (.fa 0 (.t 31)), 32, [25, 17, 21, 11, 15, 5, 9, 1,
  3, 0, 2, 4, 7, 6, 8, 10, 13, 12, 14, 16, 19, 18, 20, 22, 24, 23, 26], false⟩, ⟨(.some 33), (.some (28, false)), (.ld 1 false (.t 32)), 33, [26, 24, 22, 20, 18, 19, 16, 14, 12, 13, 10, 8, 6, 7, 4, 2, 0, 3, 1, 9, 5, 15, 11, 21, 17, 25, 23, 27], false⟩, ⟨(.some 34), (.some (28, false)), (.bin .neq (.t 33) (cI 0)), 34, [27, 25, 17, 21, 11, 15, 5, 9, 1, 3, 0, 2, 4, 7, 6, 8, 10, 13, 12, 14, 16, 19, 18,
  20, 22, 24, 26, 23, 28], false⟩, oA 35 (.pick (.t 28) (cB true) (.t 34)) [28, 26, 24, 25, 27, 22, 20, 18, 19, 16, 14, 12, 13, 10, 8, 6, 7, 4, 2, 0, 3, 1, 9, 5, 15, 11, 21, 17, 29, 23], oA 36 (.mv (.t 35)) [29, 17, 21, 11, 15, 5, 9, 1, 3, 0, 2, 4, 7, 6, 8, 10, 13, 12, 14, 16, 19, 18, 20, 22, 27, 25, 24, 26, 28, 23, 30], ⟨(.some 37), (.some (36, false)), (.fa 6 (.t 1)), 37, [30, 23, 28, 26, 24, 25,
  27, 22, 20, 18, 19, 16, 14, 12, 13, 10, 8, 6, 7, 4, 2, 0, 3, 1, 9, 5, 15, 11, 21, 17, 29, 31], false⟩, ⟨(.some 38), (.some (36, false)), (.ld 1 false (.t 37)), 38, [29, 17, 21, 11, 15, 5, 9, 1, 3, 0, 2, 4, 7, 6, 8, 10, 13, 12, 14, 16, 19, 18, 20, 22, 27, 25, 24, 26, 28, 23, 30, 31, 32], false⟩, ⟨(.some 39), (.some (36, false)), (.fa 6 (.t 1)), 39, [30, 23, 28, 26, 24, 25, 27, 22, 20, 18, 19, 16,
  14, 12, 13, 10, 8, 6, 7, 4, 2, 0, 3, 1, 9, 5, 15, 11, 21, 17, 29, 31], false⟩, ⟨(.some 40), (.some (36, false)), (.ld 1 false (.t 39)), 40, [29, 17, 21, 11, 15, 5, 9, 1, 3, 0, 2, 4, 7, 6, 8, 10, 13, 12, 14, 16, 19, 18, 20, 22, 27, 25, 24, 26, 28, 23, 30, 31, 34], false⟩, ⟨(.some 41), (.some (36, false)), (.len (.t 40)), 41, [34, 30, 23, 28, 26, 24, 25, 27, 22, 20, 18, 19, 16, 14, 12, 13, 10, 8, 6,
  7, 4, 2, 0, 3, 1, 9, 5, 15, 11, 21, 17, 29, 31, 35], false⟩, ⟨(.some 42), (.some (36, false)), (.bin .sub (.t 41) (cI 1)), 42, [35, 29, 17, 21, 11, 15, 5, 9, 1, 3, 0, 2, 4, 7, 6, 8, 10, 13, 12, 14, 16, 19, 18, 20, 22, 27, 25, 24, 26, 28, 23, 30, 34, 31, 36], false⟩, ⟨(.some 43), (.some (36, false)), (.iaS 3 (.t 38) (.t 42)), 43, [36, 34, 35, 32, 30, 23, 28, 26, 24, 25, 27, 22, 20, 18, 19, 16, 14,
  12, 13, 10, 8, 6, 7, 4, 2, 0, 3, 1, 9, 5, 15, 11, 21, 17, 29, 31, 37, 33], false⟩, ⟨(.some 44), (.some (36, false)), (.fa 0 (.t 43)), 44, [33, 37, 29, 17, 21, 11, 15, 5, 9, 1, 3, 0, 2, 4, 7, 6, 8, 10, 13, 12, 14, 16, 19, 18, 20, 22, 27, 25, 24, 26, 28, 23, 30, 32, 35, 34, 36, 31, 38], false⟩, ⟨(.some 45), (.some (36, false)), (.ld 1 false (.t 44)), 45, [38, 36, 34, 35, 32, 30, 23, 28, 26, 24, 25,
  27, 22, 20, 18, 19, 16, 14, 12, 13, 10, 8, 6, 7, 4, 2, 0, 3, 1, 9, 5, 15, 11, 21, 17, 29, 37, 33, 31, 39], false⟩, ⟨(.some 46), (.some (36, false)), (.fa 3 (.t 1)), 46, [30, 23, 28, 26, 24, 25, 27, 22, 20, 18, 19, 16, 14, 12, 13, 10, 8, 6, 7, 4, 2, 0, 3, 1, 9, 5, 15, 11, 21, 17, 29, 31], false⟩, ⟨(.some 47), (.some (36, false)), (.ld 1 false (.t 46)), 47, [29, 17, 21, 11, 15, 5, 9, 1, 3, 0, 2, 4,
  7, 6, 8, 10, 13, 12, 14, 16, 19, 18, 20, 22, 27, 25, 24, 26, 28, 23, 30, 31, 41], false⟩, ⟨(.some 48), (.some (36, false)), (.bin .neq (.t 45) (.t 47)), 48, [41, 39, 33, 37, 29, 17, 21, 11, 15, 5, 9, 1, 3, 0, 2, 4, 7, 6, 8, 10, 13, 12, 14, 16, 19, 18, 20, 22, 27, 25, 24, 26, 28, 23, 30, 32, 35, 34, 36, 38, 31, 42, 40], false⟩, oA 49 (.pick (.t 36) (cB true) (.t 48)) [40, 42, 38, 36, 34, 35, 32,
  37, 33, 39, 41, 30, 23, 28, 26, 24, 25, 27, 22, 20, 18, 19, 16, 14, 12, 13, 10, 8, 6, 7, 4, 2, 0, 3, 1, 9, 5, 15, 11, 21, 17, 29, 43, 31]]) (.cond (.t 49) (.seq (.ops false [oP 2 (.mv (cB false))]) .ret) .skip)) c160_5))
def r160 : List RV := [(.tmp 2)]
theorem c160_ok : ∃ code, Try.f160.body = some code ∧ compC Try.prog Try.f160.ntmps code = some (C.strip c160) := ⟨_, rfl, by kernel_rfl⟩
theorem r160_ok : compRes Try.prog Try.f160.results.toList = some r160 := by kernel_rfl
theorem f160_ok : fnOk Try.prog 160 = true := by kernel_rfl
def c179 : C := (.seq (.ops false [oP 1 (.box 7 (.t 0)), oP 2 (.mv (cB false))]) (.seq (.ops false [oP 3 (.fa 6 (.t 1)), oP 4 (.ld 1 false (.t 3)), oP 5 (.len (.t 4)), oP 6 (.bin .lss (.t 5) (cI 2)), oP 7 (.mv (.t 6)), oG 8 7 false (.fa 6 (.t 1)), oG 9 7 false (.ld 1 false (.t 8)), oG 10 7 false (.len (.t 9)), oG 11 7 false (.bin .gtr (.t 10) (cI 8)), oP 12 (.pick (.t 7) (cB true) (.t 11)), oP 2 (.mv (.t 12))])
  .ret))
def r179 : List RV := [(.tmp 2)]
theorem c179_ok : ∃ code, Try.f179.body = some code ∧ compC Try.prog Try.f179.ntmps code = some (C.strip c179) := ⟨_, rfl, by kernel_rfl⟩
theorem r179_ok : compRes Try.prog Try.f179.results.toList = some r179 := by kernel_rfl
theorem f179_ok : fnOk Try.prog 179 = true := by kernel_rfl
def c181_1 : C := (.seq (.ops false [oP 18 (.mv (.t 0)), oP 19 (.bin .eql (.t 18) (.c (.v (.int .u8 45)))), oP 17 (.mv (.t 19))]) (.cond (.t 17) (.exit 3) .skip))
def c181_2 : C := (.seq (.seq (.ops false [oP 11 (.mv (.t 0)), oP 12 (.bin .geq (.t 11) (.c (.v (.int .u8 48)))), oP 13 (.mv (.t 12)), oG 14 13 true (.mv (.t 0)), oG 15 13 true (.bin .leq (.t 14) (.c (.v (.int .u8 57)))), oP 16 (.pick (.t 13) (.t 15) (cB false)), oP 10 (.mv (.t 16))]) (.cond (.t 10) (.exit 2) .skip)) c181_1)
def c181_3 : C := (.exit 0)
def c181_4 : C := (.seq (.seq (.ops false [oP 2 (.mv (cI 1))]) .ret) (.exit 0))
def c181_5 : C := (.seq (.seq (.ops false [oP 2 (.mv (cI 2))]) .ret) (.exit 0))
def c181_6 : C := (.seq (.ops false [oP 2 (.mv (cI 0))]) .ret)
def c181 : C := (.seq (.ops false [oP 2 (.mv (cI 0))]) (.seq (.block 0 (.seq (.block 3 (.block 2 (.seq (.block 1 (.seq (.seq (.seq (.ops false [oP 4 (.mv (.t 0)), oP 5 (.bin .geq (.t 4) (.c (.v (.int .u8 97)))), oP 6 (.mv (.t 5)), oG 7 6 true (.mv (.t 0)), oG 8 6 true (.bin .leq (.t 7) (.c (.v (.int .u8 122)))), oP 9 (.pick (.t 6) (.t 8) (cB false)), oP 3 (.mv (.t 9))]) (.cond (.t 3) (.exit 1) .skip)) c181_2)
  c181_3)) c181_4))) c181_5)) c181_6))
def r181 : List RV := [(.tmp 2)]
theorem c181_ok : ∃ code, Try.f181.body = some code ∧ compC Try.prog Try.f181.ntmps code = some (C.strip c181) := ⟨_, rfl, by kernel_rfl⟩
theorem r181_ok : compRes Try.prog Try.f181.results.toList = some r181 := by kernel_rfl
theorem f181_ok : fnOk Try.prog 181 = true := by kernel_rfl
def c182_1 : C := (.ops false [oP 18 (.bin .add (.t 8) (cI 1)), oP 8 (.mv (.t 18))])
def c182_2 : C := (.seq (.block 1 (.seq (.ops false [oP 10 (.mv (.t 8)), oP 5 (.mv (.t 10))]) (.seq (.ops false [oP 11 (.mv (.t 1)), oP 12 (.mv (.t 0)), oP 13 (.mv (.t 5)), oP 14 (.iaS 1 (.t 12) (.t 13)), oP 15 (.ld 1 false (.t 14)), oP 16 (.bin .eql (.t 11) (.t 15))]) (.cond (.t 16) (.seq (.ops false [oP 17 (.mv (.t 5)), oP 4 (.mv (.t 17))]) .ret) .skip)))) c182_1)
def c182_3 : C := (.seq (.ops false [oP 9 (.bin .lss (.t 8) (.t 7))]) (.seq (.cond (.t 9) .skip (.exit 0)) c182_2))
def c182_4 : C := (.seq (.ops false [oP 4 (.mv (cI (-1)))]) .ret)
def c182 : C := (.seq (.ops false [oP 4 (.mv (cI 0))]) (.seq (.seq (.ops false [oP 6 (.mv (.t 0)), oP 7 (.len (.t 6)), oP 8 (.mv (cI 0))]) (.block 0 (.loop c182_3))) c182_4))
def r182 : List RV := [(.tmp 4)]
theorem c182_ok : ∃ code, Try.f182.body = some code ∧ compC Try.prog Try.f182.ntmps code = some (C.strip c182) := ⟨_, rfl, by kernel_rfl⟩
theorem r182_ok : compRes Try.prog Try.f182.results.toList = some r182 := by kernel_rfl
theorem f182_ok : fnOk Try.prog 182 = true := by kernel_rfl
def c184 : C := (.seq (.ops false [oP 2 (.box 5 (.t 0)), oP 3 (.mv (cB false))]) (.seq (.ops false [oP 4 (.fa 1 (.t 2)), oP 5 (.ld 1 false (.t 4)), oP 6 (.fa 1 (.t 1)), oP 7 (.ld 1 false (.t 6)), oP 8 (.bin .eql (.t 5) (.t 7)), oP 3 (.mv (.t 8))]) .ret))
def r184 : List RV := [(.tmp 3)]
theorem c184_ok : ∃ code, Try.f184.body = some code ∧ compC Try.prog Try.f184.ntmps code = some (C.strip c184) := ⟨_, rfl, by kernel_rfl⟩
theorem r184_ok : compRes Try.prog Try.f184.results.toList = some r184 := by kernel_rfl
theorem f184_ok : fnOk Try.prog 184 = true := by kernel_rfl
def c185 : C := (.seq (.ops false [oP 3 (.mv (cB false))]) (.seq (.ops false [oP 4 (.mv (.t 0)), oP 5 (.bin .lss (.t 4) (cI 0)), oP 6 (.mv (.t 5)), oG 7 6 false (.mv (.t 0)), oG 8 6 false (.fa 0 (.t 1)), oG 9 6 false (.ld 1 false (.t 8)), oG 10 6 false (.len (.t 9)), oG 11 6 false (.bin .geq (.t 7) (.t 10)), oP 12 (.pick (.t 6) (cB true) (.t 11)), oP 3 (.mv (.t 12))]) .ret))
def r185 : List RV := [(.tmp 3)]
theorem c185_ok : ∃ code, Try.f185.body = some code ∧ compC Try.prog Try.f185.ntmps code = some (C.strip c185) := ⟨_, rfl, by kernel_rfl⟩
theorem r185_ok : compRes Try.prog Try.f185.results.toList = some r185 := by kernel_rfl
theorem f185_ok : fnOk Try.prog 185 = true := by kernel_rfl
def c186 : C := (.seq (.ops false [oP 1 (.box 7 (.t 0)), oP 2 (.mv (cB false))]) (.seq (.ops false [oP 3 (.ld 7 true (.t 1)), oB 4 (.call 187 [(.t 3)]), oP 5 (.not (.t 4)), oP 2 (.mv (.t 5))]) .ret))
def r186 : List RV := [(.tmp 2)]
theorem c186_ok : ∃ code, Try.f186.body = some code ∧ compC Try.prog Try.f186.ntmps code = some (C.strip c186) := ⟨_, rfl, by kernel_rfl⟩
theorem r186_ok : compRes Try.prog Try.f186.results.toList = some r186 := by kernel_rfl
theorem f186_ok : fnOk Try.prog 186 = true := by kernel_rfl
def c187_1 : C := (.ops false [oP 62 (.bin .add (.t 31) (cI 1)), oP 31 (.mv (.t 62))])
def c187_2 : C := (.seq (.block 1 (.seq (.ops false [oP 33 (.mv (.t 31)), oP 34 (.iaS 3 (.t 29) (.t 31)), oP 35 (.ld 3 true (.t 34)), oP 4 (.new [(.v (.int .i64 0)), (.v (.int .i64 0)), (.v (.int .i64 0))]), oP 3 (.mv (.t 33)), oS (.st 3 (.t 4) (.t 35))]) (.seq (.ops true [oP 36 (.fa 1 (.t 4)), oA 37 (.ld 1 false (.t 36)) [0], ⟨(.some 38), Option.none, (.call 190 [(.t 37), (cI (-500)), (cI 5000)]), 38, [0, 1],
  true⟩, oA 39 (.not (.t 38)) [1, 0, 2], oA 40 (.mv (.t 39)) [0, 1, 2, 3], ⟨(.some 41), (.some (40, false)), (.fa 2 (.t 4)), 41, [3, 2, 1, 0, 4], false⟩, ⟨(.some 42), (.some (40, false)), (.ld 1 false (.t 41)), 42, [0, 1, 2, 3, 4, 5], false⟩, ⟨(.some 43), (.some (40, false)), (.call 190 [(.t 42), (cI 0), (cI 100000000)]), 43, [5, 3, 2, 1, 0, 4, 6], true⟩, ⟨(.some 44), (.some (40, false)),
  (.not (.t 43)), 44, [6, 0, 1, 2, 3, 5, 4, 7], false⟩, oA 45 (.pick (.t 40) (cB true) (.t 44)) [7, 5, 6, 3, 2, 1, 0, 8, 4], oA 46 (.mv (.t 45)) [4, 8, 0, 1, 2, 3, 6, 5, 7, 9], ⟨(.some 47), (.some (46, false)), (.mv (.t 3)), 47, [9, 7, 5, 6, 3, 2, 1, 0, 8, 4, 10], false⟩, ⟨(.some 48), (.some (46, false)), (.bin .gtr (.t 47) (cI 0)), 48, [4, 8, 0, 1, 2, 3, 6, 5, 7, 9, 10, 11], false⟩, ⟨(.some 49),
  (.some (46, false)), (.mv (.t 48)), 49, [11, 9, 7, 5, 6, 3, 2, 1, 0, 8, 4, 10, 12], false⟩, ⟨(.some 50), (.some (49, true)), (.fa 0 (.t 4)), 50, [12, 10, 4, 8, 0, 1, 2, 3, 6, 5, 7, 9, 11, 13], false⟩, ⟨(.some 51), (.some (49, true)), (.ld 1 false (.t 50)), 51, [11, 9, 7, 5, 6, 3, 2, 1, 0, 8, 4, 10, 12, 13, 14], false⟩, ⟨(.some 52), (.some (49, true)), (.fa 6 (.t 1)), 52, [12, 10, 4, 8, 0, 1, 2, 3,
  6, 5, 7, 9, 11, 13], false⟩, ⟨(.some 53), (.some (49, true)), (.ld 1 false (.t 52)), 53, [11, 9, 7, 5, 6, 3, 2, 1, 0, 8, 4, 10, 12, 13, 16], false⟩, ⟨(.some 54), (.some (49, true)), (.mv (.t 3)), 54, [12, 10, 4, 8, 0, 1, 2, 3, 6, 5, 7, 9, 11, 13], false⟩, ⟨(.some 55), (.some (49, true)), (.bin .sub (.t 54) (cI 1)), 55, [11, 9, 7, 5, 6, 3, 2, 1, 0, 8, 4, 10, 12, 13, 18], false⟩, ⟨(.some 56),
  (.some (49, true)), (.iaS 3 (.t 53) (.t 55)), 56, [18, 16, 12, 10, 4, 8, 0, 1, 2, 3, 6, 5, 7, 9, 11, 13, 19, 17], false⟩, ⟨(.some 57), (.some (49, true)), (.fa 0 (.t 56)), 57, [17, 19, 11, 9, 7, 5, 6, 3, 2, 1, 0, 8, 4, 10, 12, 16, 18, 13, 20], false⟩, ⟨(.some 58), (.some (49, true)), (.ld 1 false (.t 57)), 58, [20, 18, 16, 12, 10, 4, 8, 0, 1, 2, 3, 6, 5, 7, 9, 11, 19, 17, 13, 21], false⟩,
  ⟨(.some 59), (.some (49, true)), (.bin .leq (.t 51) (.t 58)), 59, [21, 17, 19, 16, 18, 20, 14, 12, 10, 4, 8, 0, 1, 2, 3, 6, 5, 7, 9, 11, 13, 22, 15], false⟩, ⟨(.some 60), (.some (46, false)), (.pick (.t 49) (.t 59) (cB false)), 60, [15, 22, 14, 20, 18, 16, 19, 17, 21, 12, 4, 8, 0, 1, 2, 3, 6, 5, 7, 9, 11, 10, 23, 13], false⟩, oA 61 (.pick (.t 46) (cB true) (.t 60)) [13, 23, 11, 12, 21, 17, 19, 16,
  18, 20, 14, 22, 15, 9, 7, 5, 6, 3, 2, 1, 0, 8, 4, 24, 10]]) (.cond (.t 61) (.seq (.ops false [oP 2 (.mv (cB false))]) .ret) .skip)))) c187_1)
def c187_3 : C := (.seq (.ops false [oP 32 (.bin .lss (.t 31) (.t 30))]) (.seq (.cond (.t 32) .skip (.exit 0)) c187_2))
def c187_4 : C := (.seq (.ops true [oP 63 (.fa 6 (.t 1)), oA 64 (.ld 1 false (.t 63)) [0], oA 65 (.iaS 3 (.t 64) (cI 0)) [0, 1], oA 66 (.fa 0 (.t 65)) [1, 0, 2], oA 67 (.ld 1 false (.t 66)) [2, 0, 1, 3], oA 68 (.bin .eql (.t 67) (cI 0)) [3, 1, 0, 2, 4], oA 69 (.mv (.t 68)) [4, 2, 0, 1, 3, 5], ⟨(.some 70), (.some (69, true)), (.fa 6 (.t 1)), 70, [5, 3, 1, 0, 2, 4, 6], false⟩, ⟨(.some 71), (.some (69, true)),
  (.ld 1 false (.t 70)), 71, [4, 2, 0, 1, 3, 5, 6, 7], false⟩, ⟨(.some 72), (.some (69, true)), (.fa 6 (.t 1)), 72, [5, 3, 1, 0, 2, 4, 6], false⟩, ⟨(.some 73), (.some (69, true)), (.ld 1 false (.t 72)), 73, [4, 2, 0, 1, 3, 5, 6, 9], false⟩, ⟨(.some 74), (.some (69, true)), (.len (.t 73)), 74, [9, 5, 3, 1, 0, 2, 4, 6, 10], false⟩, ⟨(.some 75), (.some (69, true)), (.bin .sub (.t 74) (cI 1)), 75, [10,
  4, 2, 0, 1, 3, 5, 9, 6, 11], false⟩, ⟨(.some 76), (.some (69, true)), (.iaS 3 (.t 71) (.t 75)), 76, [11, 9, 10, 7, 5, 3, 1, 0, 2, 4, 6, 12, 8], false⟩, ⟨(.some 77), (.some (69, true)), (.fa 0 (.t 76)), 77, [8, 12, 4, 2, 0, 1, 3, 5, 7, 10, 9, 11, 6, 13], false⟩, ⟨(.some 78), (.some (69, true)), (.ld 1 false (.t 77)), 78, [13, 11, 9, 10, 7, 5, 3, 1, 0, 2, 4, 12, 8, 6, 14], false⟩, ⟨(.some 79),
  (.some (69, true)), (.fa 3 (.t 1)), 79, [5, 3, 1, 0, 2, 4, 6], false⟩, ⟨(.some 80), (.some (69, true)), (.ld 1 false (.t 79)), 80, [4, 2, 0, 1, 3, 5, 6, 16], false⟩, ⟨(.some 81), (.some (69, true)), (.bin .eql (.t 78) (.t 80)), 81, [16, 14, 8, 12, 4, 2, 0, 1, 3, 5, 7, 10, 9, 11, 13, 6, 17, 15], false⟩, oA 82 (.pick (.t 69) (.t 81) (cB false)) [15, 17, 13, 11, 9, 10, 7, 12, 8, 14, 16, 5, 3, 1, 0,
  2, 4, 18, 6], oA 2 (.mv (.t 82)) [18, 17, 16, 15, 14, 13, 12, 11, 10, 9, 8, 7, 5, 4, 3, 2, 1, 0, 6, 19]]) .ret)
def c187_5 : C := (.seq (.seq (.ops false [oP 28 (.fa 6 (.t 1)), oP 29 (.ld 1 false (.t 28)), oP 30 (.len (.t 29)), oP 31 (.mv (cI 0))]) (.block 0 (.loop c187_3))) c187_4)
def c187 : C := (.seq (.ops false [oP 1 (.box 7 (.t 0)), oP 2 (.mv (cB false))]) (.seq (.seq (.ops false [oP 5 (.fa 1 (.t 1)), oP 6 (.ld 1 false (.t 5)), oP 7 (.fa 2 (.t 1)), oP 8 (.ld 1 false (.t 7)), oP 9 (.bin .eql (.t 6) (.t 8)), oP 10 (.mv (.t 9)), oG 11 10 false (.fa 3 (.t 1)), oG 12 10 false (.ld 1 false (.t 11)), ⟨(.some 13), (.some (10, false)), (.call 190 [(.t 12), (cI 1), (cI 1000000)]), 13, [], true⟩,
  oG 14 10 false (.not (.t 13)), oP 15 (.pick (.t 10) (cB true) (.t 14)), oP 16 (.mv (.t 15)), oG 17 16 false (.fa 4 (.t 1)), oG 18 16 false (.ld 1 false (.t 17)), ⟨(.some 19), (.some (16, false)), (.call 190 [(.t 18), (cI 0), (cI 1000)]), 19, [], true⟩, oG 20 16 false (.not (.t 19)), oP 21 (.pick (.t 16) (cB true) (.t 20)), oP 22 (.mv (.t 21)), oG 23 22 false (.fa 5 (.t 1)),
  oG 24 22 false (.ld 1 false (.t 23)), ⟨(.some 25), (.some (22, false)), (.call 190 [(.t 24), (cI 0), (cI 100000)]), 25, [], true⟩, oG 26 22 false (.not (.t 25)), oP 27 (.pick (.t 22) (cB true) (.t 26))]) (.cond (.t 27) (.seq (.ops false [oP 2 (.mv (cB false))]) .ret) .skip)) c187_5))
def r187 : List RV := [(.tmp 2)]
theorem c187_ok : ∃ code, Try.f187.body = some code ∧ compC Try.prog Try.f187.ntmps code = some (C.strip c187) := ⟨_, rfl, by kernel_rfl⟩
theorem r187_ok : compRes Try.prog Try.f187.results.toList = some r187 := by kernel_rfl
theorem f187_ok : fnOk Try.prog 187 = true := by kernel_rfl
def c189 : C := (.seq (.ops false [oP 1 (.box 3 (.t 0)), oP 2 (.mv (cB false))]) (.seq (.ops false [oP 3 (.fa 2 (.t 1)), oP 4 (.ld 1 false (.t 3)), oB 5 (.call 190 [(.t 4), (cI 0), (cI 100000000)]), oP 6 (.not (.t 5)), oP 2 (.mv (.t 6))]) .ret))
def r189 : List RV := [(.tmp 2)]
theorem c189_ok : ∃ code, Try.f189.body = some code ∧ compC Try.prog Try.f189.ntmps code = some (C.strip c189) := ⟨_, rfl, by kernel_rfl⟩
theorem r189_ok : compRes Try.prog Try.f189.results.toList = some r189 := by kernel_rfl
theorem f189_ok : fnOk Try.prog 189 = true := by kernel_rfl
def c190 : C := (.seq (.ops false [oP 6 (.mv (cB false))]) (.seq (.ops false [oP 7 (.mv (.t 0)), oP 8 (.mv (.t 1)), oP 9 (.bin .geq (.t 7) (.t 8)), oP 10 (.mv (.t 9)), oG 11 10 true (.mv (.t 0)), oG 12 10 true (.mv (.t 2)), oG 13 10 true (.bin .leq (.t 11) (.t 12)), oP 14 (.pick (.t 10) (.t 13) (cB false)), oP 6 (.mv (.t 14))]) .ret))
def r190 : List RV := [(.tmp 6)]
theorem c190_ok : ∃ code, Try.f190.body = some code ∧ compC Try.prog Try.f190.ntmps code = some (C.strip c190) := ⟨_, rfl, by kernel_rfl⟩
theorem r190_ok : compRes Try.prog Try.f190.results.toList = some r190 := by kernel_rfl
theorem f190_ok : fnOk Try.prog 190 = true := by kernel_rfl
def c192 : C := (.seq (.ops false [oP 1 (.box 5 (.t 0)), oP 2 (.mv (cB false))]) (.seq (.ops false [oP 3 (.fa 2 (.t 1)), oP 4 (.ld 1 false (.t 3)), oB 5 (.call 190 [(.t 4), (cI 0), (cI 100000000)]), oP 6 (.not (.t 5)), oP 7 (.mv (.t 6)), oG 8 7 false (.fa 3 (.t 1)), oG 9 7 false (.ld 1 false (.t 8)), ⟨(.some 10), (.some (7, false)), (.call 190 [(.t 9), (cI 0), (cI 100000)]), 10, [], true⟩,
  oG 11 7 false (.not (.t 10)), oP 12 (.pick (.t 7) (cB true) (.t 11)), oP 13 (.mv (.t 12)), oG 14 13 false (.fa 4 (.t 1)), oG 15 13 false (.ld 1 false (.t 14)), ⟨(.some 16), (.some (13, false)), (.call 190 [(.t 15), (cI 0), (cI 100000000)]), 16, [], true⟩, oG 17 13 false (.not (.t 16)), oP 18 (.pick (.t 13) (cB true) (.t 17)), oP 2 (.mv (.t 18))]) .ret))
def r192 : List RV := [(.tmp 2)]
theorem c192_ok : ∃ code, Try.f192.body = some code ∧ compC Try.prog Try.f192.ntmps code = some (C.strip c192) := ⟨_, rfl, by kernel_rfl⟩
theorem r192_ok : compRes Try.prog Try.f192.results.toList = some r192 := by kernel_rfl
theorem f192_ok : fnOk Try.prog 192 = true := by kernel_rfl
end Go.Proofs.Ytkjibmfggeibjaa
