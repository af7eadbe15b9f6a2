/- Compiled code of some functions (printed by a program), each checked by the kernel. -/
import Derived.Test.YtkjibmfggeibjaaV3
import Derived.Test.YtkjibmfggeibjaaProg
namespace Go.Proofs.Ytkjibmfggeibjaa
open Go
set_option maxRecDepth 100000
def c18 : C := (.seq (.ops false [oP 2 (.mv (.c (.v (.pointer Option.none))))]) (.seq (.ops false [oP 3 (.mv (.t 0)), oP 4 (.mv (.t 0)), oP 5 (.len (.t 4)), oP 6 (.mnx false (.t 5) (cI 2000)), oP 7 (.slc 1 (.t 3) Option.none (.some (.t 6))), oP 8 (.bld [.mt, (.v (.int .i64 0))] [(0, (1, (.t 7)))]), oP 9 (.box 2 (.t 8)), oP 2 (.mv (.t 9))]) .ret))
def r18 : List RV := [(.tmp 2)]
theorem c18_ok : ∃ code, Try.f18.body = some code ∧ compC Try.prog Try.f18.ntmps code = some (C.strip c18) := ⟨_, rfl, by kernel_rfl⟩
theorem r18_ok : compRes Try.prog Try.f18.results.toList = some r18 := by kernel_rfl
theorem f18_ok : fnOk Try.prog 18 = true := by kernel_rfl
def c19_1 : C := (.seq (.block 1 (.ops true [oP 23 (.fa 0 (.t 3)), oA 24 (.ld 1 false (.t 23)) [0], oP 25 (.fa 0 (.t 3)), oA 26 (.ld 1 false (.t 25)) [2], oA 27 (.len (.t 26)) [2, 3], ⟨(.some 28), Option.none, (.call 80 [(.c (.v (.string ({ data := #[110] })))), (.t 27)]), 28, [3, 2, 4], true⟩, oA 29 (.bsl 1 1 [(.v (.string ({ data := #[] })))] [(0, (.t 28))]) [4, 2, 3, 5], oA 30 (.app 1 16 (.t 24) (.t 29)) [3, 2,
  4, 0, 5, 6, 1], oA 31 (.fa 0 (.t 3)) [7, 6, 5, 4, 3, 2, 1, 0], ⟨Option.none, Option.none, (.st 1 (.t 31) (.t 30)), 0, [6, 5, 4, 3, 2, 1, 0, 7, 8], false⟩])) (.ops false [oP 21 (.mv (.t 4)), oP 22 (.bin .sub (.t 21) (cI 1)), oP 4 (.mv (.t 22))]))
def c19_2 : C := (.seq (.seq (.ops false [oP 19 (.mv (.t 4)), oP 20 (.bin .gtr (.t 19) (cI 0))]) (.cond (.t 20) .skip (.exit 0))) c19_1)
def c19_3 : C := (.seq (.block 3 (.ops true [oP 41 (.fa 1 (.t 3)), oA 42 (.ld 1 false (.t 41)) [0], oP 43 (.mv (.t 0)), oP 44 (.fa 1 (.t 3)), oA 45 (.ld 1 false (.t 44)) [3], oA 46 (.len (.t 45)) [3, 4], oP 47 (.mv (.t 6)), oP 48 (.mv (.t 6)), oA 49 (.bin .add (.t 48) (cI 1)) [7], oA 50 (.call 81 [(.t 43), (.t 46), (.t 47), (.t 49)]) [7, 4, 3, 8, 6, 5, 2], oA 51 (.bsl 7 1 [(.v (.string ({ data := #[] }))),
  (.v (.int .i64 0)), (.v (.int .i64 0)), (.v (.int .i64 0)), (.v (.int .i64 0)), (.v (.int .i64 0)), .mt] [(0, (.t 50))]) [2, 5, 6, 8, 3, 4, 7, 9], oA 52 (.app 7 80 (.t 42) (.t 51)) [7, 4, 3, 8, 6, 5, 2, 0, 9, 10, 1], oA 53 (.fa 1 (.t 3)) [11, 10, 9, 8, 7, 6, 5, 4, 3, 2, 1, 0], ⟨Option.none, Option.none, (.st 1 (.t 53) (.t 52)), 0, [10, 9, 8, 7, 6, 5, 4, 3, 2, 1, 0, 11, 12], false⟩]))
  (.ops false [oP 39 (.mv (.t 6)), oP 40 (.bin .add (.t 39) (cI 1)), oP 6 (.mv (.t 40))]))
def c19_4 : C := (.seq (.seq (.ops false [oP 36 (.mv (.t 6)), oP 37 (.mv (.t 5)), oP 38 (.bin .lss (.t 36) (.t 37))]) (.cond (.t 38) .skip (.exit 2))) c19_3)
def c19_5 : C := (.seq (.block 5 (.seq (.ops false [oP 60 (.mv (.t 0)), oP 61 (.mv (.t 5)), oB 62 (.call 24 [(.t 60), (.t 61)]), oP 8 (.mv (.t 62))]) (.ops true [oP 63 (.fa 1 (.t 3)), oA 64 (.ld 1 false (.t 63)) [0], oP 65 (.mv (.t 0)), oP 66 (.fa 1 (.t 3)), oA 67 (.ld 1 false (.t 66)) [3], oA 68 (.len (.t 67)) [3, 4], oP 69 (.mv (.t 8)), oP 70 (.mv (.t 0)), oP 71 (.mv (.t 8)), oA 72 (.bin .add (.t 71) (cI 1))
  [8], oP 73 (.mv (.t 5)), ⟨(.some 74), Option.none, (.call 27 [(.t 70), (.t 72), (.t 73)]), 74, [8, 10, 9, 7], true⟩, oA 75 (.call 81 [(.t 65), (.t 68), (.t 69), (.t 74)]) [7, 9, 10, 8, 4, 3, 11, 6, 5, 2], oA 76 (.bsl 7 1 [(.v (.string ({ data := #[] }))), (.v (.int .i64 0)), (.v (.int .i64 0)), (.v (.int .i64 0)), (.v (.int .i64 0)), (.v (.int .i64 0)), .mt] [(0, (.t 75))]) [2, 5, 6, 11, 3, 4, 8,
  10, 9, 7, 12], oA 77 (.app 7 80 (.t 64) (.t 76)) [7, 9, 10, 8, 4, 3, 11, 6, 5, 2, 0, 12, 13, 1], oA 78 (.fa 1 (.t 3)) [14, 13, 12, 11, 10, 9, 8, 7, 6, 5, 4, 3, 2, 1, 0], ⟨Option.none, Option.none, (.st 1 (.t 78) (.t 77)), 0, [13, 12, 11, 10, 9, 8, 7, 6, 5, 4, 3, 2, 1, 0, 14, 15], false⟩]))) (.ops false [oP 58 (.mv (.t 7)), oP 59 (.bin .sub (.t 58) (cI 1)), oP 7 (.mv (.t 59))]))
def c19_6 : C := (.seq (.seq (.ops false [oP 56 (.mv (.t 7)), oP 57 (.bin .gtr (.t 56) (cI 0))]) (.cond (.t 57) .skip (.exit 4))) c19_5)
def c19_7 : C := (.seq (.ops false [oP 110 (.mv (.t 9)), oP 111 (.mv (.t 5)), oP 112 (.bin .lss (.t 110) (.t 111)), oP 113 (.mv (.t 112)), oG 114 113 true (.mv (.t 0)), ⟨(.some 115), (.some (113, true)), (.call 24 [(.t 114), (cI 3)]), 115, [], true⟩, oG 116 113 true (.bin .eql (.t 115) (cI 0)), oP 117 (.pick (.t 113) (.t 116) (cB false))]) (.cond (.t 117) (.ops true [oP 118 (.fa 3 (.t 3)),
  oA 119 (.ld 1 false (.t 118)) [0], oP 120 (.fa 3 (.t 3)), oA 121 (.ld 1 false (.t 120)) [2], oA 122 (.len (.t 121)) [2, 3], ⟨(.some 123), Option.none, (.call 80 [(.c (.v (.string ({ data := #[115] })))), (.t 122)]), 123, [3, 2, 4], true⟩, oP 124 (.mv (.t 9)), oP 125 (.mv (.t 0)), oP 126 (.bsl 1 3 [(.v (.int .i64 0))] [(0, (cI 500000)), (1, (cI 2000000)), (2, (cI 0))]), ⟨(.some 127), Option.none,
  (.call 79 [(.t 125), (.t 126)]), 127, [4, 2, 3, 5, 8, 7], true⟩, oP 128 (.mv (.t 0)), oP 129 (.bsl 1 3 [(.v (.int .i64 0))] [(0, (cI 0)), (1, (cI 200)), (2, (cI 100000))]), ⟨(.some 130), Option.none, (.call 79 [(.t 128), (.t 129)]), 130, [7, 8, 5, 3, 2, 4, 9, 11, 10], true⟩, oP 131 (.mv (.t 0)), oP 132 (.bsl 1 3 [(.v (.int .i64 0))] [(0, (cI 0)), (1, (cI 100000)), (2, (cI 400000))]), ⟨(.some 133),
  Option.none, (.call 79 [(.t 131), (.t 132)]), 133, [10, 11, 9, 4, 2, 3, 5, 8, 7, 12, 14, 13], true⟩, oA 134 (.bld [(.v (.string ({ data := #[] }))), (.v (.int .i64 0)), (.v (.int .i64 0)), (.v (.int .i64 0)), (.v (.int .i64 0))] [(0, (1, (.t 123))), (1, (1, (.t 124))), (2, (1, (.t 127))), (3, (1, (.t 130))), (4, (1, (.t 133)))]) [13, 14, 10, 11, 7, 8, 4, 2, 3, 15, 12, 9, 6, 5],
  oA 135 (.bsl 5 1 [(.v (.string ({ data := #[] }))), (.v (.int .i64 0)), (.v (.int .i64 0)), (.v (.int .i64 0)), (.v (.int .i64 0))] [(0, (.t 134))]) [5, 6, 9, 12, 15, 3, 2, 4, 8, 7, 11, 10, 14, 13, 16], oA 136 (.app 5 48 (.t 119) (.t 135)) [16, 13, 14, 10, 11, 7, 8, 4, 2, 3, 12, 9, 6, 5, 0, 15, 17, 1], oA 137 (.fa 3 (.t 3)) [18, 17, 16, 15, 14, 13, 12, 11, 10, 9, 8, 7, 6, 5, 4, 3, 2, 1, 0],
  ⟨Option.none, Option.none, (.st 1 (.t 137) (.t 136)), 0, [17, 16, 15, 14, 13, 12, 11, 10, 9, 8, 7, 6, 5, 4, 3, 2, 1, 0, 18, 19], false⟩]) .skip))
def c19_8 : C := (.ops false [oP 82 (.mv (.t 9)), oP 83 (.bin .add (.t 82) (cI 1)), oP 9 (.mv (.t 83))])
def c19_9 : C := (.seq (.block 7 (.seq (.seq (.ops false [oP 84 (.mv (.t 9)), oP 85 (.bin .eql (.t 84) (cI 0)), oP 86 (.mv (.t 85)), oG 87 86 false (.mv (.t 9)), oG 88 86 false (.mv (.t 5)), oG 89 86 false (.bin .eql (.t 87) (.t 88)), oP 90 (.pick (.t 86) (cB true) (.t 89)), oP 91 (.mv (.t 90)), oG 92 91 false (.mv (.t 0)), ⟨(.some 93), (.some (91, false)), (.call 24 [(.t 92), (cI 2)]), 93, [], true⟩,
  oG 94 91 false (.bin .eql (.t 93) (cI 0)), oP 95 (.pick (.t 91) (cB true) (.t 94))]) (.cond (.t 95) (.ops true [oP 96 (.fa 2 (.t 3)), oA 97 (.ld 1 false (.t 96)) [0], oP 98 (.fa 2 (.t 3)), oA 99 (.ld 1 false (.t 98)) [2], oA 100 (.len (.t 99)) [2, 3], ⟨(.some 101), Option.none, (.call 80 [(.c (.v (.string ({ data := #[113] })))), (.t 100)]), 101, [3, 2, 4], true⟩, oP 102 (.mv (.t 9)),
  oP 103 (.mv (.t 0)), oP 104 (.bsl 1 4 [(.v (.int .i64 0))] [(0, (cI 300000)), (1, (cI 1000000)), (2, (cI 0)), (3, (cI 5000000))]), ⟨(.some 105), Option.none, (.call 79 [(.t 103), (.t 104)]), 105, [4, 2, 3, 5, 8, 7], true⟩, oA 106 (.bld [(.v (.string ({ data := #[] }))), (.v (.int .i64 0)), (.v (.int .i64 0))] [(0, (1, (.t 101))), (1, (1, (.t 102))), (2, (1, (.t 105)))]) [7, 8, 4, 2, 3, 9, 6, 5],
  oA 107 (.bsl 3 1 [(.v (.string ({ data := #[] }))), (.v (.int .i64 0)), (.v (.int .i64 0))] [(0, (.t 106))]) [5, 6, 9, 3, 2, 4, 8, 7, 10], oA 108 (.app 3 32 (.t 97) (.t 107)) [10, 7, 8, 4, 2, 3, 6, 5, 0, 9, 11, 1], oA 109 (.fa 2 (.t 3)) [12, 11, 10, 9, 8, 7, 6, 5, 4, 3, 2, 1, 0], ⟨Option.none, Option.none, (.st 1 (.t 109) (.t 108)), 0, [11, 10, 9, 8, 7, 6, 5, 4, 3, 2, 1, 0, 12, 13], false⟩])
  .skip)) c19_7)) c19_8)
def c19_10 : C := (.seq (.seq (.ops false [oP 79 (.mv (.t 9)), oP 80 (.mv (.t 5)), oP 81 (.bin .leq (.t 79) (.t 80))]) (.cond (.t 81) .skip (.exit 6))) c19_9)
def c19_11 : C := (.seq (.ops false [oP 138 (.ld 6 true (.t 3)), oS (.st 6 (.t 2) (.t 138))]) .ret)
def c19_12 : C := (.seq (.seq (.ops false [oP 9 (.mv (cI 0))]) (.block 6 (.loop c19_10))) c19_11)
def c19_13 : C := (.seq (.seq (.ops false [oP 54 (.mv (.t 0)), oB 55 (.call 24 [(.t 54), (cI 4)]), oP 7 (.mv (.t 55))]) (.block 4 (.loop c19_6))) (.weak c19_12))
def c19_14 : C := (.seq (.ops false [oP 32 (.fa 0 (.t 3)), oP 33 (.ld 1 false (.t 32)), oP 34 (.len (.t 33)), oP 35 (.bin .sub (.t 34) (cI 1)), oP 5 (.mv (.t 35))]) (.seq (.seq (.ops false [oP 6 (.mv (cI 0))]) (.block 2 (.loop c19_4))) (.weak c19_13)))
def c19 : C := (.seq (.ops false [oP 2 (.new [.mt, .mt, .mt, .mt, (.v (.int .i64 0)), (.v (.int .i64 0))])]) (.seq (.ops false [oP 10 (.mv (.t 0)), oP 11 (.bsl 1 3 [(.v (.int .i64 0))] [(0, (cI (-100000))), (1, (cI 0)), (2, (cI 50000))]), oB 12 (.call 79 [(.t 10), (.t 11)]), oP 13 (.mv (.t 0)), oP 14 (.bsl 1 4 [(.v (.int .i64 0))] [(0, (cI 0)), (1, (cI 1)), (2, (cI 5)), (3, (cI 100))]), oB 15 (.call 79 [(.t 13),
  (.t 14)]), oP 16 (.bld [.mt, .mt, .mt, .mt, (.v (.int .i64 0)), (.v (.int .i64 0))] [(4, (1, (.t 12))), (5, (1, (.t 15)))]), oP 3 (.new [.mt, .mt, .mt, .mt, (.v (.int .i64 0)), (.v (.int .i64 0))]), oS (.st 6 (.t 3) (.t 16))]) (.seq (.seq (.ops false [oP 17 (.mv (.t 0)), oB 18 (.call 27 [(.t 17), (cI 2), (cI 6)]), oP 4 (.mv (.t 18))]) (.block 0 (.loop c19_2))) (.weak c19_14))))
def r19 : List RV := [(.cell 2 6 true)]
theorem c19_ok : ∃ code, Try.f19.body = some code ∧ compC Try.prog Try.f19.ntmps code = some (C.strip c19) := ⟨_, rfl, by kernel_rfl⟩
theorem r19_ok : compRes Try.prog Try.f19.results.toList = some r19 := by kernel_rfl
theorem f19_ok : fnOk Try.prog 19 = true := by kernel_rfl
def c24 : C := (.seq (.ops false [oP 4 (.mv (cI 0))]) (.seq (.ops false [oP 5 (.mv (.t 0)), oB 6 (.call 87 [(.t 5)]), oP 7 (.mv (.t 1)), oB 8 (.call 86 [(.t 6), (.t 7)]), oP 4 (.mv (.t 8))]) .ret))
def r24 : List RV := [(.tmp 4)]
theorem c24_ok : ∃ code, Try.f24.body = some code ∧ compC Try.prog Try.f24.ntmps code = some (C.strip c24) := ⟨_, rfl, by kernel_rfl⟩
theorem r24_ok : compRes Try.prog Try.f24.results.toList = some r24 := by kernel_rfl
theorem f24_ok : fnOk Try.prog 24 = true := by kernel_rfl
def c27 : C := (.seq (.ops false [oP 6 (.mv (cI 0))]) (.seq (.ops false [oP 7 (.mv (.t 1)), oP 8 (.mv (.t 0)), oP 9 (.mv (.t 2)), oP 10 (.mv (.t 1)), oP 11 (.bin .sub (.t 9) (.t 10)), oP 12 (.bin .add (.t 11) (cI 1)), oB 13 (.call 24 [(.t 8), (.t 12)]), oP 14 (.bin .add (.t 7) (.t 13)), oP 6 (.mv (.t 14))]) .ret))
def r27 : List RV := [(.tmp 6)]
theorem c27_ok : ∃ code, Try.f27.body = some code ∧ compC Try.prog Try.f27.ntmps code = some (C.strip c27) := ⟨_, rfl, by kernel_rfl⟩
theorem r27_ok : compRes Try.prog Try.f27.results.toList = some r27 := by kernel_rfl
theorem f27_ok : fnOk Try.prog 27 = true := by kernel_rfl
def c79 : C := (.seq (.ops false [oP 4 (.mv (cI 0))]) (.seq (.ops false [oP 5 (.mv (.t 1)), oP 6 (.mv (.t 0)), oP 7 (.mv (.t 1)), oP 8 (.len (.t 7)), oB 9 (.call 24 [(.t 6), (.t 8)]), oP 10 (.iaS 1 (.t 5) (.t 9)), oP 11 (.ld 1 false (.t 10)), oP 4 (.mv (.t 11))]) .ret))
def r79 : List RV := [(.tmp 4)]
theorem c79_ok : ∃ code, Try.f79.body = some code ∧ compC Try.prog Try.f79.ntmps code = some (C.strip c79) := ⟨_, rfl, by kernel_rfl⟩
theorem r79_ok : compRes Try.prog Try.f79.results.toList = some r79 := by kernel_rfl
theorem f79_ok : fnOk Try.prog 79 = true := by kernel_rfl
def c80 : C := (.seq (.ops false [oP 4 (.mv (.c (.v (.string ({ data := #[] })))))]) (.seq (.ops false [oP 5 (.mv (.t 0)), oP 6 (.mv (.t 1)), oP 7 (.bin .rem (.t 6) (cI 26)), oP 8 (.bin .add (cI 97) (.t 7)), oP 9 (.cvi .u8 (.t 8)), oP 10 (.bsl 1 1 [(.v (.int .u8 0))] [(0, (.t 9))]), oP 11 (.bts (.t 10)), oP 12 (.bin .add (.t 5) (.t 11)), oP 4 (.mv (.t 12))]) .ret))
def r80 : List RV := [(.tmp 4)]
theorem c80_ok : ∃ code, Try.f80.body = some code ∧ compC Try.prog Try.f80.ntmps code = some (C.strip c80) := ⟨_, rfl, by kernel_rfl⟩
theorem r80_ok : compRes Try.prog Try.f80.results.toList = some r80 := by kernel_rfl
theorem f80_ok : fnOk Try.prog 80 = true := by kernel_rfl
def c81_1 : C := (.ops true [oP 60 (.fa 6 (.t 9)), oA 61 (.ld 1 false (.t 60)) [0], oP 62 (.mv (.t 11)), oP 63 (.mv (.t 0)), ⟨(.some 64), Option.none, (.call 27 [(.t 63), (cI (-5)), (cI 60)]), 64, [3], true⟩, oP 65 (.mv (.t 0)), oP 66 (.bsl 1 3 [(.v (.int .i64 0))] [(0, (cI 1)), (1, (cI 1)), (2, (cI 10))]), ⟨(.some 67), Option.none, (.call 79 [(.t 65), (.t 66)]), 67, [3, 4, 6, 5], true⟩, oA 68 (.bin .mul (.t 64)
  (.t 67)) [5, 6, 3, 7, 4], oP 69 (.mv (.t 10)), oP 70 (.mv (.t 0)), ⟨(.some 71), Option.none, (.call 24 [(.t 70), (cI 3)]), 71, [5, 6, 4, 3, 7, 10], true⟩, oA 72 (.bin .mul (.t 71) (cI 1000)) [10, 7, 3, 4, 6, 5, 11], oA 73 (.bin .sub (.t 69) (.t 72)) [11, 5, 6, 4, 3, 7, 10, 12, 9], oA 74 (.bld [(.v (.int .i64 0)), (.v (.int .i64 0)), (.v (.int .i64 0))] [(0, (1, (.t 62))), (1, (1, (.t 68))), (2,
  (1, (.t 73)))]) [9, 12, 10, 11, 4, 7, 3, 6, 5, 13, 8, 2], oA 75 (.bsl 3 1 [(.v (.int .i64 0)), (.v (.int .i64 0)), (.v (.int .i64 0))] [(0, (.t 74))]) [2, 8, 13, 5, 6, 3, 7, 4, 11, 10, 12, 9, 14], oA 76 (.app 3 24 (.t 61) (.t 75)) [14, 9, 12, 10, 4, 7, 3, 6, 5, 13, 8, 2, 0, 11, 15, 1], oA 77 (.fa 6 (.t 9)) [16, 15, 14, 13, 12, 11, 10, 9, 8, 7, 6, 5, 4, 3, 2, 1, 0], ⟨Option.none, Option.none,
  (.st 1 (.t 77) (.t 76)), 0, [15, 14, 13, 12, 11, 10, 9, 8, 7, 6, 5, 4, 3, 2, 1, 0, 16, 17], false⟩])
def c81_2 : C := (.block 1 (.seq (.ops false [oP 52 (.mv (.t 11)), oP 53 (.mv (.t 0)), oB 54 (.call 27 [(.t 53), (cI 1), (cI 40)]), oP 55 (.bin .add (.t 52) (.t 54)), oP 11 (.mv (.t 55))]) (.seq (.seq (.ops false [oP 56 (.mv (.t 11)), oP 57 (.fa 3 (.t 9)), oP 58 (.ld 1 false (.t 57)), oP 59 (.bin .geq (.t 56) (.t 58))]) (.cond (.t 59) (.exit 0) .skip)) c81_1)))
def c81_3 : C := (.seq (.seq (.ops false [oP 43 (.fa 6 (.t 9)), oP 44 (.ld 1 false (.t 43)), oP 45 (.len (.t 44)), oP 46 (.bin .lss (.t 45) (cI 7)), oP 47 (.mv (.t 46)), oG 48 47 true (.mv (.t 0)), ⟨(.some 49), (.some (47, true)), (.call 24 [(.t 48), (cI 3)]), 49, [], true⟩, oG 50 47 true (.bin .gtr (.t 49) (cI 0)), oP 51 (.pick (.t 47) (.t 50) (cB false))]) (.cond (.t 51) .skip (.exit 0))) c81_2)
def c81_4 : C := (.seq (.ops true [oP 78 (.fa 6 (.t 9)), oA 79 (.ld 1 false (.t 78)) [0], oP 80 (.fa 3 (.t 9)), oA 81 (.ld 1 false (.t 80)) [2], oP 82 (.mv (.t 0)), ⟨(.some 83), Option.none, (.call 27 [(.t 82), (cI (-5)), (cI 30)]), 83, [4], true⟩, oP 84 (.mv (.t 10)), oA 85 (.bld [(.v (.int .i64 0)), (.v (.int .i64 0)), (.v (.int .i64 0))] [(0, (1, (.t 81))), (1, (1, (.t 83))), (2, (1, (.t 84)))]) [4, 2, 6, 5,
  3], oA 86 (.bsl 3 1 [(.v (.int .i64 0)), (.v (.int .i64 0)), (.v (.int .i64 0))] [(0, (.t 85))]) [3, 5, 6, 2, 4, 7], oA 87 (.app 3 24 (.t 79) (.t 86)) [7, 4, 2, 6, 3, 0, 5, 8, 1], oA 88 (.fa 6 (.t 9)) [9, 8, 7, 6, 5, 4, 3, 2, 1, 0], ⟨Option.none, Option.none, (.st 1 (.t 88) (.t 87)), 0, [8, 7, 6, 5, 4, 3, 2, 1, 0, 9, 10], false⟩]) (.seq (.ops false [oP 89 (.ld 7 true (.t 9)), oS (.st 7 (.t 8)
  (.t 89))]) .ret))
def c81_5 : C := (.seq (.ops false [oP 17 (.mv (.t 1)), oB 18 (.call 80 [(.c (.v (.string ({ data := #[103] })))), (.t 17)]), oP 19 (.mv (.t 2)), oP 20 (.mv (.t 3)), oP 21 (.mv (.t 0)), oP 22 (.bsl 1 7 [(.v (.int .i64 0))] [(0, (cI 1)), (1, (cI 2)), (2, (cI 7)), (3, (cI 20)), (4, (cI 60)), (5, (cI 200)), (6, (cI 1000))]), oB 23 (.call 79 [(.t 21), (.t 22)]), oP 24 (.mv (.t 0)), oP 25 (.bsl 1 4 [(.v (.int .i64 0))]
  [(0, (cI 0)), (1, (cI 1)), (2, (cI 5)), (3, (cI 1000))]), oB 26 (.call 79 [(.t 24), (.t 25)]), oP 27 (.mv (.t 0)), oP 28 (.bsl 1 4 [(.v (.int .i64 0))] [(0, (cI 0)), (1, (cI 50)), (2, (cI 1000)), (3, (cI 100000))]), oB 29 (.call 79 [(.t 27), (.t 28)]), oP 30 (.bld [(.v (.string ({ data := #[] }))), (.v (.int .i64 0)), (.v (.int .i64 0)), (.v (.int .i64 0)), (.v (.int .i64 0)), (.v (.int .i64 0)),
  .mt] [(0, (1, (.t 18))), (1, (1, (.t 19))), (2, (1, (.t 20))), (3, (1, (.t 23))), (4, (1, (.t 26))), (5, (1, (.t 29)))]), oP 9 (.new [(.v (.string ({ data := #[] }))), (.v (.int .i64 0)), (.v (.int .i64 0)), (.v (.int .i64 0)), (.v (.int .i64 0)), (.v (.int .i64 0)), .mt]), oS (.st 7 (.t 9) (.t 30))]) (.seq (.ops false [oP 31 (.mv (.t 0)), oP 32 (.bsl 1 3 [(.v (.int .i64 0))] [(0, (cI 1000000)),
  (1, (cI 6000000)), (2, (cI 100000000))]), oB 33 (.call 79 [(.t 31), (.t 32)]), oP 10 (.mv (.t 33))]) (.seq (.ops true [oP 34 (.fa 6 (.t 9)), oA 35 (.ld 1 false (.t 34)) [0], oP 36 (.mv (.t 0)), ⟨(.some 37), Option.none, (.call 27 [(.t 36), (cI (-5)), (cI 30)]), 37, [2], true⟩, oP 38 (.mv (.t 10)), oA 39 (.bld [(.v (.int .i64 0)), (.v (.int .i64 0)), (.v (.int .i64 0))] [(1, (1, (.t 37))), (2, (1,
  (.t 38)))]) [2, 4, 3], oA 40 (.bsl 3 1 [(.v (.int .i64 0)), (.v (.int .i64 0)), (.v (.int .i64 0))] [(0, (.t 39))]) [3, 4, 2, 5], oA 41 (.app 3 24 (.t 35) (.t 40)) [5, 2, 4, 0, 3, 6, 1], oA 42 (.fa 6 (.t 9)) [7, 6, 5, 4, 3, 2, 1, 0], ⟨Option.none, Option.none, (.st 1 (.t 42) (.t 41)), 0, [6, 5, 4, 3, 2, 1, 0, 7, 8], false⟩]) (.seq (.seq (.ops false [oP 11 (.mv (cI 0))]) (.block 0 (.loop c81_3)))
  c81_4))))
def c81 : C := (.seq (.ops false [oP 8 (.new [(.v (.string ({ data := #[] }))), (.v (.int .i64 0)), (.v (.int .i64 0)), (.v (.int .i64 0)), (.v (.int .i64 0)), (.v (.int .i64 0)), .mt])]) (.seq (.seq (.ops false [oP 12 (.mv (.t 0)), oB 13 (.call 24 [(.t 12), (cI 4)]), oP 14 (.bin .eql (.t 13) (cI 0))]) (.cond (.t 14) (.ops false [oP 15 (.mv (.t 3)), oP 16 (.mv (.t 2)), oP 2 (.mv (.t 15)), oP 3 (.mv (.t 16))])
  .skip)) (.weak c81_5)))
def r81 : List RV := [(.cell 8 7 true)]
theorem c81_ok : ∃ code, Try.f81.body = some code ∧ compC Try.prog Try.f81.ntmps code = some (C.strip c81) := ⟨_, rfl, by kernel_rfl⟩
theorem r81_ok : compRes Try.prog Try.f81.results.toList = some r81 := by kernel_rfl
theorem f81_ok : fnOk Try.prog 81 = true := by kernel_rfl
def c86_1 : C := (.seq (.ops false [oP 15 (.mv (.t 0)), oP 4 (.mv (.t 15))]) .ret)
def c86_2 : C := (.seq (.ops false [oP 7 (.mv (.t 0)), oP 8 (.mv (.t 1)), oP 9 (.bin .rem (.t 7) (.t 8)), oP 0 (.mv (.t 9))]) (.seq (.seq (.ops false [oP 10 (.mv (.t 0)), oP 11 (.bin .lss (.t 10) (cI 0))]) (.cond (.t 11) (.ops false [oP 12 (.mv (.t 0)), oP 13 (.mv (.t 1)), oP 14 (.bin .add (.t 12) (.t 13)), oP 0 (.mv (.t 14))]) .skip)) c86_1))
def c86 : C := (.seq (.ops false [oP 4 (.mv (cI 0))]) (.seq (.seq (.ops false [oP 5 (.mv (.t 1)), oP 6 (.bin .lss (.t 5) (cI 1))]) (.cond (.t 6) (.seq (.ops false [oP 4 (.mv (cI 0))]) .ret) .skip)) c86_2))
def r86 : List RV := [(.tmp 4)]
theorem c86_ok : ∃ code, Try.f86.body = some code ∧ compC Try.prog Try.f86.ntmps code = some (C.strip c86) := ⟨_, rfl, by kernel_rfl⟩
theorem r86_ok : compRes Try.prog Try.f86.results.toList = some r86 := by kernel_rfl
theorem f86_ok : fnOk Try.prog 86 = true := by kernel_rfl
def c87_1 : C := (.seq (.ops false [oP 13 (.mv (.t 0)), oP 14 (.nck (.t 13)), oP 15 (.fa 1 (.t 14)), oP 16 (.ld 1 false (.t 15)), oP 17 (.bin .add (.t 16) (cI 1)), oP 18 (.nck (.t 13)), oP 19 (.fa 1 (.t 18)), oS (.st 1 (.t 19) (.t 17))]) (.seq (.ops true [oP 20 (.mv (.t 0)), oA 21 (.nck (.t 20)) [0], oA 22 (.fa 0 (.t 21)) [0, 1], oA 23 (.ld 1 false (.t 22)) [1, 0, 2], oP 24 (.mv (.t 0)), oA 25 (.nck (.t 24)) [4],
  oA 26 (.fa 1 (.t 25)) [4, 5], oA 27 (.ld 1 false (.t 26)) [5, 4, 6], oA 28 (.bin .sub (.t 27) (cI 1)) [6, 4, 5, 7], oA 29 (.iaS 1 (.t 23) (.t 28)) [7, 5, 4, 6, 2, 0, 1, 8, 3], oA 30 (.ld 1 false (.t 29)) [3, 8, 1, 0, 2, 6, 4, 5, 7, 9], oA 2 (.mv (.t 30)) [9, 8, 7, 6, 5, 4, 3, 2, 1, 0, 10]]) .ret))
def c87 : C := (.seq (.ops false [oP 2 (.mv (cI 0))]) (.seq (.seq (.ops true [oP 3 (.mv (.t 0)), oA 4 (.nck (.t 3)) [0], oA 5 (.fa 1 (.t 4)) [0, 1], oA 6 (.ld 1 false (.t 5)) [1, 0, 2], oP 7 (.mv (.t 0)), oA 8 (.nck (.t 7)) [4], oA 9 (.fa 0 (.t 8)) [4, 5], oA 10 (.ld 1 false (.t 9)) [5, 4, 6], oA 11 (.len (.t 10)) [6, 4, 5, 7], oA 12 (.bin .geq (.t 6) (.t 11)) [7, 5, 4, 6, 2, 0, 1, 8, 3]]) (.cond (.t 12)
  (.seq (.ops false [oP 2 (.mv (cI 0))]) .ret) .skip)) c87_1))
def r87 : List RV := [(.tmp 2)]
theorem c87_ok : ∃ code, Try.f87.body = some code ∧ compC Try.prog Try.f87.ntmps code = some (C.strip c87) := ⟨_, rfl, by kernel_rfl⟩
theorem r87_ok : compRes Try.prog Try.f87.results.toList = some r87 := by kernel_rfl
theorem f87_ok : fnOk Try.prog 87 = true := by kernel_rfl
def c98 : C := (.seq (.ops false [oP 4 (.mv (.c (.v (.string ({ data := #[] })))))]) (.seq (.ops false [oP 5 (.mv (.t 1)), oP 6 (.mv (.t 0)), oP 7 (.mv (.t 1)), oP 8 (.len (.t 7)), oB 9 (.call 24 [(.t 6), (.t 8)]), oP 10 (.iaS 1 (.t 5) (.t 9)), oP 11 (.ld 1 false (.t 10)), oP 4 (.mv (.t 11))]) .ret))
def r98 : List RV := [(.tmp 4)]
theorem c98_ok : ∃ code, Try.f98.body = some code ∧ compC Try.prog Try.f98.ntmps code = some (C.strip c98) := ⟨_, rfl, by kernel_rfl⟩
theorem r98_ok : compRes Try.prog Try.f98.results.toList = some r98 := by kernel_rfl
theorem f98_ok : fnOk Try.prog 98 = true := by kernel_rfl
end Go.Proofs.Ytkjibmfggeibjaa
