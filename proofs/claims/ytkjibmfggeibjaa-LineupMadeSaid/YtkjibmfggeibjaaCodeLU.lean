/- Compiled code of some functions (printed by a program), each checked by the kernel. -/
import Derived.Test.YtkjibmfggeibjaaV3
import Derived.Test.YtkjibmfggeibjaaProg
namespace Go.Proofs.Ytkjibmfggeibjaa
open Go
set_option maxRecDepth 100000
def c17 : C := (.seq (.ops false [oP 2 (.mv (cB false))]) (.seq (.ops false [oP 3 (.mv (.t 0)), oP 4 (.len (.t 3)), oP 5 (.bin .leq (.t 4) (cI 400)), oP 2 (.mv (.t 5))]) .ret))
def r17 : List RV := [(.tmp 2)]
theorem c17_ok : ∃ code, Try.f17.body = some code ∧ compC Try.prog Try.f17.ntmps code = some (C.strip c17) := ⟨_, rfl, by kernel_rfl⟩
theorem r17_ok : compRes Try.prog Try.f17.results.toList = some r17 := by kernel_rfl
theorem f17_ok : fnOk Try.prog 17 = true := by kernel_rfl
def c33 : C := (.seq (.ops false [oP 4 (.mv (cI 0))]) (.seq (.ops false [oP 5 (.mv (.t 0)), oP 6 (.mv (.t 1)), oB 7 (.call 86 [(.t 5), (.t 6)]), oP 4 (.mv (.t 7))]) .ret))
def r33 : List RV := [(.tmp 4)]
theorem c33_ok : ∃ code, Try.f33.body = some code ∧ compC Try.prog Try.f33.ntmps code = some (C.strip c33) := ⟨_, rfl, by kernel_rfl⟩
theorem r33_ok : compRes Try.prog Try.f33.results.toList = some r33 := by kernel_rfl
theorem f33_ok : fnOk Try.prog 33 = true := by kernel_rfl
def c42_1 : C := (.seq (.ops false [oP 20 (.ld 6 true (.t 1)), oP 21 (.bsl 1 1 [(.v (.int .i64 0))] [(0, (cI 3))]), oP 22 (.bsl 1 2 [(.v (.int .i64 0))] [(0, (cI 3)), (1, (cI (-3)))]), oP 23 (.bld [.mt, .mt, .mt] [(0, (1, (.t 21))), (1, (1, (.t 22)))]), oP 24 (.call 102 [(.t 20), (.t 23)]), oP 19 (.mv (.t 24)), oP 25 (.ext (.t 19) 0), oP 26 (.ext (.t 19) 1), oP 2 (.new [.mt, .mt]), oS (.st 2 (.t 2) (.t 25)),
  oP 3 (.mv (.t 26))]) (.seq (.ops false [oP 28 (.ld 6 true (.t 1)), oP 29 (.bsl 1 1 [(.v (.int .i64 0))] [(0, (cI 0))]), oP 30 (.bsl 1 2 [(.v (.int .i64 0))] [(0, (cI 0)), (1, (cI 0))]), oP 31 (.bld [.mt, .mt, .mt] [(0, (1, (.t 29))), (1, (1, (.t 30)))]), oP 32 (.call 102 [(.t 28), (.t 31)]), oP 27 (.mv (.t 32)), oP 33 (.ext (.t 27) 0), oP 34 (.ext (.t 27) 1), oP 4 (.new [.mt, .mt]),
  oS (.st 2 (.t 4) (.t 33)), oP 5 (.mv (.t 34))]) (.seq (.ops false [oP 36 (.ld 6 true (.t 1)), oP 37 (.ld 2 true (.t 4)), oP 38 (.ld 2 true (.t 2)), oP 39 (.call 103 [(.t 36), (.t 37), (.t 38)]), oP 35 (.mv (.t 39)), oP 40 (.ext (.t 35) 0), oP 41 (.ext (.t 35) 1), oP 42 (.ext (.t 35) 2), oP 6 (.mv (.t 40)), oP 7 (.mv (.t 41)), oP 8 (.mv (.t 42))]) (.seq (.ops false [oP 43 (.mv (.t 3)),
  oP 44 (.bin .eql (.t 43) (cI 0)), oP 45 (.mv (.t 44)), oG 46 45 true (.mv (.t 5)), oG 47 45 true (.bin .eql (.t 46) (cI 0)), oP 48 (.pick (.t 45) (.t 47) (cB false)), oP 49 (.mv (.t 48)), oG 50 49 true (.mv (.t 8)), oG 51 49 true (.bin .eql (.t 50) (cI 0)), oP 52 (.pick (.t 49) (.t 51) (cB false)), oP 53 (.mv (.t 52)), oG 54 53 true (.mv (.t 6)), oG 55 53 true (.len (.t 54)),
  oG 56 53 true (.bin .eql (.t 55) (cI 3)), oP 57 (.pick (.t 53) (.t 56) (cB false)), oP 58 (.mv (.t 57)), oG 59 58 true (.mv (.t 6)), oG 60 58 true (.iaS 1 (.t 59) (cI 2)), oG 61 58 true (.ld 1 false (.t 60)), oG 62 58 true (.bin .eql (.t 61) (cI 2)), oP 63 (.pick (.t 58) (.t 62) (cB false)), oP 64 (.mv (.t 63)), oG 65 64 true (.mv (.t 7)), oG 66 64 true (.len (.t 65)),
  oG 67 64 true (.bin .eql (.t 66) (cI 0)), oP 68 (.pick (.t 64) (.t 67) (cB false)), oP 69 (.mv (.t 68)), oG 70 69 true (.fa 0 (.t 2)), oG 71 69 true (.ld 1 false (.t 70)), oG 72 69 true (.iaS 1 (.t 71) (cI 0)), oG 73 69 true (.ld 1 false (.t 72)), oP 74 (.pick (.t 69) (.t 73) (cB false)), oP 0 (.mv (.t 74))]) .ret))))
def c42 : C := (.seq (.ops false [oP 0 (.mv (cB false))]) (.seq (.ops false [oP 9 (.bsl 1 2 [(.v (.string ({ data := #[] })))] [(0, (.c (.v (.string ({ data := #[97] }))))), (1, (.c (.v (.string ({ data := #[98] })))))]), oP 10 (.bld [(.v (.int .i64 0)), (.v (.int .i64 0)), (.v (.int .i64 0))] [(2, (1, (cI 1000)))]), oP 11 (.bld [(.v (.int .i64 0)), (.v (.int .i64 0)), (.v (.int .i64 0))] [(0, (1, (cI 10))), (2,
  (1, (cI 1000)))]), oP 12 (.bsl 3 2 [(.v (.int .i64 0)), (.v (.int .i64 0)), (.v (.int .i64 0))] [(0, (.t 10)), (1, (.t 11))]), oP 13 (.bld [(.v (.string ({ data := #[] }))), (.v (.int .i64 0)), (.v (.int .i64 0)), (.v (.int .i64 0)), (.v (.int .i64 0)), (.v (.int .i64 0)), .mt] [(0, (1, (.c (.v (.string ({ data := #[103] })))))), (1, (1, (cI 0))), (2, (1, (cI 1))), (3, (1, (cI 10))), (6, (1,
  (.t 12)))]), oP 14 (.bsl 7 1 [(.v (.string ({ data := #[] }))), (.v (.int .i64 0)), (.v (.int .i64 0)), (.v (.int .i64 0)), (.v (.int .i64 0)), (.v (.int .i64 0)), .mt] [(0, (.t 13))]), oP 15 (.bld [(.v (.string ({ data := #[] }))), (.v (.int .i64 0)), (.v (.int .i64 0))] [(0, (1, (.c (.v (.string ({ data := #[112] })))))), (1, (1, (cI 0)))]), oP 16 (.bld [(.v (.string ({ data := #[] }))),
  (.v (.int .i64 0)), (.v (.int .i64 0))] [(0, (1, (.c (.v (.string ({ data := #[113] })))))), (1, (1, (cI 1)))]), oP 17 (.bsl 3 2 [(.v (.string ({ data := #[] }))), (.v (.int .i64 0)), (.v (.int .i64 0))] [(0, (.t 15)), (1, (.t 16))]), oP 18 (.bld [.mt, .mt, .mt, .mt, (.v (.int .i64 0)), (.v (.int .i64 0))] [(0, (1, (.t 9))), (1, (1, (.t 14))), (2, (1, (.t 17)))]), oP 1 (.new [.mt, .mt, .mt, .mt,
  (.v (.int .i64 0)), (.v (.int .i64 0))]), oS (.st 6 (.t 1) (.t 18))]) (.weak c42_1)))
def r42 : List RV := [(.tmp 0)]
theorem c42_ok : ∃ code, Try.f42.body = some code ∧ compC Try.prog Try.f42.ntmps code = some (C.strip c42) := ⟨_, rfl, by kernel_rfl⟩
theorem r42_ok : compRes Try.prog Try.f42.results.toList = some r42 := by kernel_rfl
theorem f42_ok : fnOk Try.prog 42 = true := by kernel_rfl
def c43_1 : C := (.seq (.block 1 (.ops true [oP 15 (.fa 0 (.t 5)), oA 16 (.ld 1 false (.t 15)) [0], oP 17 (.mv (.t 0)), ⟨(.some 18), Option.none, (.call 24 [(.t 17), (cI 2)]), 18, [2], true⟩, oA 19 (.bin .eql (.t 18) (cI 0)) [2, 3], oA 20 (.bsl 1 1 [(.v (.bool false))] [(0, (.t 19))]) [3, 2, 4], oA 21 (.app 1 1 (.t 16) (.t 20)) [4, 2, 0, 3, 5, 1], oA 22 (.fa 0 (.t 5)) [6, 5, 4, 3, 2, 1, 0], ⟨Option.none,
  Option.none, (.st 1 (.t 22) (.t 21)), 0, [5, 4, 3, 2, 1, 0, 6, 7], false⟩])) (.ops false [oP 13 (.mv (.t 6)), oP 14 (.bin .add (.t 13) (cI 1)), oP 6 (.mv (.t 14))]))
def c43_2 : C := (.seq (.seq (.ops false [oP 8 (.mv (.t 6)), oP 9 (.fa 1 (.t 3)), oP 10 (.ld 1 false (.t 9)), oP 11 (.len (.t 10)), oP 12 (.bin .lss (.t 8) (.t 11))]) (.cond (.t 12) .skip (.exit 0))) c43_1)
def c43_3 : C := (.seq (.block 3 (.ops true [oP 30 (.fa 1 (.t 5)), oA 31 (.ld 1 false (.t 30)) [0], oP 32 (.mv (.t 0)), ⟨(.some 33), Option.none, (.call 24 [(.t 32), (cI 2)]), 33, [2], true⟩, oA 34 (.bin .eql (.t 33) (cI 0)) [2, 3], oA 35 (.bsl 1 1 [(.v (.bool false))] [(0, (.t 34))]) [3, 2, 4], oA 36 (.app 1 1 (.t 31) (.t 35)) [4, 2, 0, 3, 5, 1], oA 37 (.fa 1 (.t 5)) [6, 5, 4, 3, 2, 1, 0], ⟨Option.none,
  Option.none, (.st 1 (.t 37) (.t 36)), 0, [5, 4, 3, 2, 1, 0, 6, 7], false⟩])) (.ops false [oP 28 (.mv (.t 7)), oP 29 (.bin .add (.t 28) (cI 1)), oP 7 (.mv (.t 29))]))
def c43_4 : C := (.seq (.seq (.ops false [oP 23 (.mv (.t 7)), oP 24 (.fa 2 (.t 3)), oP 25 (.ld 1 false (.t 24)), oP 26 (.len (.t 25)), oP 27 (.bin .lss (.t 23) (.t 26))]) (.cond (.t 27) .skip (.exit 2))) c43_3)
def c43_5 : C := (.seq (.ops false [oP 38 (.ld 2 true (.t 5)), oS (.st 2 (.t 4) (.t 38))]) .ret)
def c43_6 : C := (.seq (.seq (.ops false [oP 7 (.mv (cI 0))]) (.block 2 (.loop c43_4))) c43_5)
def c43 : C := (.seq (.ops false [oP 3 (.box 6 (.t 1)), oP 4 (.new [.mt, .mt])]) (.seq (.ops false [oP 5 (.new [.mt, .mt])]) (.seq (.seq (.ops false [oP 6 (.mv (cI 0))]) (.block 0 (.loop c43_2))) c43_6)))
def r43 : List RV := [(.cell 4 2 true)]
theorem c43_ok : ∃ code, Try.f43.body = some code ∧ compC Try.prog Try.f43.ntmps code = some (C.strip c43) := ⟨_, rfl, by kernel_rfl⟩
theorem r43_ok : compRes Try.prog Try.f43.results.toList = some r43 := by kernel_rfl
theorem f43_ok : fnOk Try.prog 43 = true := by kernel_rfl
def c44 : C := (.seq (.ops false [oP 1 (.box 6 (.t 0)), oP 2 (.mv (cI 0))]) (.seq (.ops false [oP 3 (.fa 1 (.t 1)), oP 4 (.ld 1 false (.t 3)), oP 5 (.len (.t 4)), oP 6 (.fa 2 (.t 1)), oP 7 (.ld 1 false (.t 6)), oP 8 (.len (.t 7)), oP 9 (.bin .add (.t 5) (.t 8)), oP 2 (.mv (.t 9))]) .ret))
def r44 : List RV := [(.tmp 2)]
theorem c44_ok : ∃ code, Try.f44.body = some code ∧ compC Try.prog Try.f44.ntmps code = some (C.strip c44) := ⟨_, rfl, by kernel_rfl⟩
theorem r44_ok : compRes Try.prog Try.f44.results.toList = some r44 := by kernel_rfl
theorem f44_ok : fnOk Try.prog 44 = true := by kernel_rfl
def c102_1 : C := (.seq (.ops true [oP 21 (.fa 0 (.t 3)), oA 22 (.ld 1 false (.t 21)) [0], oA 23 (.call 162 [(.t 22)]) [0, 1], oP 24 (.fa 1 (.t 3)), oA 25 (.ld 1 false (.t 24)) [3], oA 26 (.call 162 [(.t 25)]) [1, 0, 3, 2, 4], oA 27 (.bld [.mt, .mt] [(0, (1, (.t 23))), (1, (1, (.t 26)))]) [4, 3, 1, 0, 5, 2], ⟨Option.none, Option.none, (.st 2 (.t 4) (.t 27)), 0, [4, 3, 2, 1, 0, 5, 6], false⟩, oA 5 (.mv (cI 0)) [6,
  5, 4, 3, 2, 1, 0, 7]]) .ret)
def c102_2 : C := (.seq (.seq (.ops false [oP 14 (.ld 6 true (.t 2)), oP 15 (.ld 3 true (.t 3)), oB 16 (.call 55 [(.t 14), (.t 15)]), oP 7 (.mv (.t 16))]) (.seq (.ops false [oP 17 (.mv (.t 7)), oP 18 (.bin .neq (.t 17) (cI 0))]) (.cond (.t 18) (.seq (.ops false [oP 19 (.bld [.mt, .mt] []), oP 20 (.mv (.t 7)), oS (.st 2 (.t 4) (.t 19)), oP 5 (.mv (.t 20))]) .ret) .skip))) c102_1)
def c102 : C := (.seq (.ops false [oP 2 (.box 6 (.t 0)), oP 3 (.box 3 (.t 1)), oP 4 (.new [.mt, .mt]), oP 5 (.mv (cI 0))]) (.seq (.seq (.ops false [oP 8 (.ld 6 true (.t 2)), oB 9 (.call 74 [(.t 8)]), oP 6 (.mv (.t 9))]) (.seq (.ops false [oP 10 (.mv (.t 6)), oP 11 (.bin .neq (.t 10) (cI 0))]) (.cond (.t 11) (.seq (.ops false [oP 12 (.bld [.mt, .mt] []), oP 13 (.mv (.t 6)), oS (.st 2 (.t 4) (.t 12)),
  oP 5 (.mv (.t 13))]) .ret) .skip))) c102_2))
def r102 : List RV := [(.cell 4 2 true), (.tmp 5)]
theorem c102_ok : ∃ code, Try.f102.body = some code ∧ compC Try.prog Try.f102.ntmps code = some (C.strip c102) := ⟨_, rfl, by kernel_rfl⟩
theorem r102_ok : compRes Try.prog Try.f102.results.toList = some r102 := by kernel_rfl
theorem f102_ok : fnOk Try.prog 102 = true := by kernel_rfl
def c103_1 : C := (.ops false [oP 57 (.bin .add (.t 26) (cI 1)), oP 26 (.mv (.t 57))])
def c103_2 : C := (.seq (.block 1 (.seq (.ops false [oP 28 (.mv (.t 26)), oP 29 (.iaS 1 (.t 24) (.t 26)), oP 30 (.ld 1 false (.t 29)), oP 11 (.mv (.t 28)), oP 12 (.mv (.t 30))]) (.block 2 (.seq (.ops false [oP 32 (.mv (.t 10)), oP 33 (.mv (.t 11)), oP 34 (.iaS 1 (.t 32) (.t 33)), oP 35 (.ld 1 false (.t 34)), oP 36 (.mv (.t 35)), oG 37 36 true (.mv (.t 12)), oG 38 36 true (.not (.t 37)), oP 39 (.pick (.t 36) (.t 38)
  (cB false)), oP 31 (.mv (.t 39))]) (.cond (.t 31) (.ops false [oP 40 (.mv (.t 6)), oP 41 (.mv (.t 11)), oP 42 (.bsl 1 1 [(.v (.int .i64 0))] [(0, (.t 41))]), oP 43 (.app 1 8 (.t 40) (.t 42)), oP 6 (.mv (.t 43))]) (.seq (.ops false [oP 45 (.mv (.t 12)), oP 46 (.mv (.t 45)), oG 47 46 true (.mv (.t 10)), oG 48 46 true (.mv (.t 11)), oG 49 46 true (.iaS 1 (.t 47) (.t 48)),
  oG 50 46 true (.ld 1 false (.t 49)), oG 51 46 true (.not (.t 50)), oP 52 (.pick (.t 46) (.t 51) (cB false)), oP 44 (.mv (.t 52))]) (.cond (.t 44) (.ops false [oP 53 (.mv (.t 7)), oP 54 (.mv (.t 11)), oP 55 (.bsl 1 1 [(.v (.int .i64 0))] [(0, (.t 54))]), oP 56 (.app 1 8 (.t 53) (.t 55)), oP 7 (.mv (.t 56))]) .skip))))))) c103_1)
def c103_3 : C := (.seq (.ops false [oP 27 (.bin .lss (.t 26) (.t 25))]) (.seq (.cond (.t 27) .skip (.exit 0)) c103_2))
def c103_4 : C := (.seq (.ops false [oP 58 (.mv (.t 6)), oP 59 (.mv (.t 7)), oP 6 (.mv (.t 58)), oP 7 (.mv (.t 59)), oP 8 (.mv (cI 0))]) .ret)
def c103_5 : C := (.seq (.ops false [oP 21 (.ld 2 true (.t 5)), oP 22 (.call 164 [(.t 21)]), oP 10 (.mv (.t 22))]) (.seq (.seq (.ops false [oP 23 (.ld 2 true (.t 4)), oP 24 (.call 164 [(.t 23)]), oP 25 (.len (.t 24)), oP 26 (.mv (cI 0))]) (.block 0 (.loop c103_3))) c103_4))
def c103 : C := (.seq (.ops false [oP 3 (.box 6 (.t 0)), oP 4 (.box 2 (.t 1)), oP 5 (.box 2 (.t 2)), oP 6 (.mv (.c .mt)), oP 7 (.mv (.c .mt)), oP 8 (.mv (cI 0))]) (.seq (.seq (.ops false [oP 13 (.ld 6 true (.t 3)), oP 14 (.ld 2 true (.t 4)), oP 15 (.ld 2 true (.t 5)), oP 16 (.bsl 2 2 [.mt, .mt] [(0, (.t 14)), (1, (.t 15))]), oB 17 (.call 163 [(.t 13), (.t 16)]), oP 9 (.mv (.t 17))])
  (.seq (.ops false [oP 18 (.mv (.t 9)), oP 19 (.bin .neq (.t 18) (cI 0))]) (.cond (.t 19) (.seq (.ops false [oP 20 (.mv (.t 9)), oP 6 (.mv (.c .mt)), oP 7 (.mv (.c .mt)), oP 8 (.mv (.t 20))]) .ret) .skip))) c103_5))
def r103 : List RV := [(.tmp 6), (.tmp 7), (.tmp 8)]
theorem c103_ok : ∃ code, Try.f103.body = some code ∧ compC Try.prog Try.f103.ntmps code = some (C.strip c103) := ⟨_, rfl, by kernel_rfl⟩
theorem r103_ok : compRes Try.prog Try.f103.results.toList = some r103 := by kernel_rfl
theorem f103_ok : fnOk Try.prog 103 = true := by kernel_rfl
def c104_1 : C := (.seq (.block 1 (.ops true [oP 13 (.fa 0 (.t 3)), oA 14 (.ld 1 false (.t 13)) [0], oP 15 (.fa 0 (.t 1)), oA 16 (.ld 1 false (.t 15)) [2], oP 17 (.mv (.t 4)), oA 18 (.iaS 1 (.t 16) (.t 17)) [2, 4, 3], oA 19 (.ld 1 false (.t 18)) [3, 4, 2, 5], oA 20 (.bin .neq (.t 19) (cI 0)) [5, 2, 4, 3, 6], oA 21 (.bsl 1 1 [(.v (.bool false))] [(0, (.t 20))]) [6, 3, 4, 2, 5, 7], oA 22 (.app 1 1 (.t 14) (.t 21))
  [7, 5, 2, 4, 3, 6, 0, 8, 1], oA 23 (.fa 0 (.t 3)) [9, 8, 7, 6, 5, 4, 3, 2, 1, 0], ⟨Option.none, Option.none, (.st 1 (.t 23) (.t 22)), 0, [8, 7, 6, 5, 4, 3, 2, 1, 0, 9, 10], false⟩])) (.ops false [oP 11 (.mv (.t 4)), oP 12 (.bin .add (.t 11) (cI 1)), oP 4 (.mv (.t 12))]))
def c104_2 : C := (.seq (.seq (.ops false [oP 6 (.mv (.t 4)), oP 7 (.fa 0 (.t 1)), oP 8 (.ld 1 false (.t 7)), oP 9 (.len (.t 8)), oP 10 (.bin .lss (.t 6) (.t 9))]) (.cond (.t 10) .skip (.exit 0))) c104_1)
def c104_3 : C := (.seq (.block 3 (.ops true [oP 31 (.fa 1 (.t 3)), oA 32 (.ld 1 false (.t 31)) [0], oP 33 (.fa 1 (.t 1)), oA 34 (.ld 1 false (.t 33)) [2], oP 35 (.mv (.t 5)), oA 36 (.iaS 1 (.t 34) (.t 35)) [2, 4, 3], oA 37 (.ld 1 false (.t 36)) [3, 4, 2, 5], oA 38 (.bin .neq (.t 37) (cI 0)) [5, 2, 4, 3, 6], oA 39 (.bsl 1 1 [(.v (.bool false))] [(0, (.t 38))]) [6, 3, 4, 2, 5, 7], oA 40 (.app 1 1 (.t 32) (.t 39))
  [7, 5, 2, 4, 3, 6, 0, 8, 1], oA 41 (.fa 1 (.t 3)) [9, 8, 7, 6, 5, 4, 3, 2, 1, 0], ⟨Option.none, Option.none, (.st 1 (.t 41) (.t 40)), 0, [8, 7, 6, 5, 4, 3, 2, 1, 0, 9, 10], false⟩])) (.ops false [oP 29 (.mv (.t 5)), oP 30 (.bin .add (.t 29) (cI 1)), oP 5 (.mv (.t 30))]))
def c104_4 : C := (.seq (.seq (.ops false [oP 24 (.mv (.t 5)), oP 25 (.fa 1 (.t 1)), oP 26 (.ld 1 false (.t 25)), oP 27 (.len (.t 26)), oP 28 (.bin .lss (.t 24) (.t 27))]) (.cond (.t 28) .skip (.exit 2))) c104_3)
def c104_5 : C := (.seq (.ops false [oP 42 (.ld 2 true (.t 3)), oS (.st 2 (.t 2) (.t 42))]) .ret)
def c104_6 : C := (.seq (.seq (.ops false [oP 5 (.mv (cI 0))]) (.block 2 (.loop c104_4))) c104_5)
def c104 : C := (.seq (.ops false [oP 1 (.box 3 (.t 0)), oP 2 (.new [.mt, .mt])]) (.seq (.ops false [oP 3 (.new [.mt, .mt])]) (.seq (.seq (.ops false [oP 4 (.mv (cI 0))]) (.block 0 (.loop c104_2))) c104_6)))
def r104 : List RV := [(.cell 2 2 true)]
theorem c104_ok : ∃ code, Try.f104.body = some code ∧ compC Try.prog Try.f104.ntmps code = some (C.strip c104) := ⟨_, rfl, by kernel_rfl⟩
theorem r104_ok : compRes Try.prog Try.f104.results.toList = some r104 := by kernel_rfl
theorem f104_ok : fnOk Try.prog 104 = true := by kernel_rfl
def c105_1 : C := (.ops false [oP 33 (.mv (.t 7)), oP 34 (.ld 4 true (.t 9)), oB 35 (.call 167 [(.t 34)]), oP 36 (.bsl 1 1 [(.v (.bool false))] [(0, (.t 35))]), oP 37 (.app 1 1 (.t 33) (.t 36)), oP 7 (.mv (.t 37))])
def c105_2 : C := (.ops false [oP 38 (.bin .add (.t 25) (cI 1)), oP 25 (.mv (.t 38))])
def c105_3 : C := (.seq (.block 1 (.seq (.ops false [oP 27 (.iaS 4 (.t 23) (.t 25)), oP 28 (.ld 4 true (.t 27)), oP 9 (.new [(.v (.int .i64 0)), (.v (.int .i64 0)), (.v (.bool false)), (.v (.bool false))]), oS (.st 4 (.t 9) (.t 28))]) (.seq (.seq (.ops false [oP 29 (.ld 4 true (.t 9)), oB 30 (.call 166 [(.t 29)]), oP 31 (.not (.t 30))]) (.cond (.t 31) (.seq (.ops false [oP 32 (.bld [.mt, .mt] []), oS (.st 2 (.t 4)
  (.t 32)), oP 5 (.mv (cI 20))]) .ret) .skip)) c105_1))) c105_2)
def c105_4 : C := (.seq (.ops false [oP 26 (.bin .lss (.t 25) (.t 24))]) (.seq (.cond (.t 26) .skip (.exit 0)) c105_3))
def c105_5 : C := (.seq (.ops false [oP 39 (.fa 1 (.t 2)), oP 40 (.ld 1 false (.t 39)), oP 41 (.len (.t 40)), oP 10 (.mv (.t 41))]) (.seq (.ops true [oP 42 (.mv (.t 7)), oP 43 (.mv (.t 10)), oP 44 (.mv (.t 10)), oA 45 (.slc3 1 (.t 42) Option.none (.t 43) (.t 44)) [2, 1, 0], oP 46 (.mv (.t 7)), oP 47 (.mv (.t 10)), oA 48 (.slc 1 (.t 46) (.some (.t 47)) Option.none) [5, 4], oA 49 (.bld [.mt, .mt] [(0, (1, (.t 45))),
  (1, (1, (.t 48)))]) [4, 5, 0, 1, 2, 6, 3], ⟨Option.none, Option.none, (.st 2 (.t 4) (.t 49)), 0, [6, 5, 4, 3, 2, 1, 0, 7], false⟩, oA 5 (.mv (cI 0)) [7, 6, 5, 4, 3, 2, 1, 0, 8]]) .ret))
def c105_6 : C := (.seq (.ops false [oP 7 (.mv (.c .mt))]) (.seq (.seq (.ops false [oP 23 (.mv (.t 1)), oP 24 (.len (.t 23)), oP 25 (.mv (cI 0))]) (.block 0 (.loop c105_4))) c105_5))
def c105_7 : C := (.seq (.seq (.ops false [oP 17 (.mv (.t 1)), oP 18 (.len (.t 17)), oP 19 (.ld 6 true (.t 2)), oB 20 (.call 165 [(.t 19)]), oP 21 (.bin .neq (.t 18) (.t 20))]) (.cond (.t 21) (.seq (.ops false [oP 22 (.bld [.mt, .mt] []), oS (.st 2 (.t 4) (.t 22)), oP 5 (.mv (cI 20))]) .ret) .skip)) c105_6)
def c105 : C := (.seq (.ops false [oP 2 (.box 6 (.t 0)), oP 4 (.new [.mt, .mt]), oP 5 (.mv (cI 0))]) (.seq (.seq (.ops false [oP 11 (.ld 6 true (.t 2)), oB 12 (.call 74 [(.t 11)]), oP 6 (.mv (.t 12))]) (.seq (.ops false [oP 13 (.mv (.t 6)), oP 14 (.bin .neq (.t 13) (cI 0))]) (.cond (.t 14) (.seq (.ops false [oP 15 (.bld [.mt, .mt] []), oP 16 (.mv (.t 6)), oS (.st 2 (.t 4) (.t 15)), oP 5 (.mv (.t 16))]) .ret)
  .skip))) c105_7))
def r105 : List RV := [(.cell 4 2 true), (.tmp 5)]
theorem c105_ok : ∃ code, Try.f105.body = some code ∧ compC Try.prog Try.f105.ntmps code = some (C.strip c105) := ⟨_, rfl, by kernel_rfl⟩
theorem r105_ok : compRes Try.prog Try.f105.results.toList = some r105 := by kernel_rfl
theorem f105_ok : fnOk Try.prog 105 = true := by kernel_rfl
def c108 : C := (.seq (.ops false [oP 2 (.box 6 (.t 0)), oP 3 (.box 2 (.t 1)), oP 4 (.mv (cB false))]) (.seq (.ops false [oP 5 (.fa 0 (.t 3)), oP 6 (.ld 1 false (.t 5)), oP 7 (.len (.t 6)), oP 8 (.fa 1 (.t 2)), oP 9 (.ld 1 false (.t 8)), oP 10 (.len (.t 9)), oP 11 (.bin .eql (.t 7) (.t 10)), oP 12 (.mv (.t 11)), oG 13 12 true (.fa 1 (.t 3)), oG 14 12 true (.ld 1 false (.t 13)), oG 15 12 true (.len (.t 14)),
  oG 16 12 true (.fa 2 (.t 2)), oG 17 12 true (.ld 1 false (.t 16)), oG 18 12 true (.len (.t 17)), oG 19 12 true (.bin .eql (.t 15) (.t 18)), oP 20 (.pick (.t 12) (.t 19) (cB false)), oP 4 (.mv (.t 20))]) .ret))
def r108 : List RV := [(.tmp 4)]
theorem c108_ok : ∃ code, Try.f108.body = some code ∧ compC Try.prog Try.f108.ntmps code = some (C.strip c108) := ⟨_, rfl, by kernel_rfl⟩
theorem r108_ok : compRes Try.prog Try.f108.results.toList = some r108 := by kernel_rfl
theorem f108_ok : fnOk Try.prog 108 = true := by kernel_rfl
def c109 : C := (.seq (.ops false [oP 2 (.box 6 (.t 0)), oP 3 (.box 2 (.t 1)), oP 4 (.mv (cB false))]) (.seq (.ops false [oP 5 (.fa 0 (.t 3)), oP 6 (.ld 1 false (.t 5)), oP 7 (.len (.t 6)), oP 8 (.fa 1 (.t 2)), oP 9 (.ld 1 false (.t 8)), oP 10 (.len (.t 9)), oP 11 (.bin .eql (.t 7) (.t 10)), oP 12 (.mv (.t 11)), oG 13 12 true (.fa 1 (.t 3)), oG 14 12 true (.ld 1 false (.t 13)), oG 15 12 true (.len (.t 14)),
  oG 16 12 true (.fa 2 (.t 2)), oG 17 12 true (.ld 1 false (.t 16)), oG 18 12 true (.len (.t 17)), oG 19 12 true (.bin .eql (.t 15) (.t 18)), oP 20 (.pick (.t 12) (.t 19) (cB false)), oP 4 (.mv (.t 20))]) .ret))
def r109 : List RV := [(.tmp 4)]
theorem c109_ok : ∃ code, Try.f109.body = some code ∧ compC Try.prog Try.f109.ntmps code = some (C.strip c109) := ⟨_, rfl, by kernel_rfl⟩
theorem r109_ok : compRes Try.prog Try.f109.results.toList = some r109 := by kernel_rfl
theorem f109_ok : fnOk Try.prog 109 = true := by kernel_rfl
def c110_1 : C := (.ops false [oP 50 (.bin .add (.t 37) (cI 1)), oP 37 (.mv (.t 50))])
def c110_2 : C := (.seq (.block 1 (.seq (.ops false [oP 39 (.mv (.t 37)), oP 40 (.iaS 1 (.t 35) (.t 37)), oP 41 (.ld 1 false (.t 40)), oP 12 (.mv (.t 39)), oP 13 (.mv (.t 41))]) (.seq (.ops false [oP 42 (.mv (.t 13)), oP 43 (.mv (.t 42)), oG 44 43 true (.mv (.t 11)), oG 45 43 true (.mv (.t 12)), oG 46 43 true (.iaS 1 (.t 44) (.t 45)), oG 47 43 true (.ld 1 false (.t 46)), oG 48 43 true (.not (.t 47)),
  oP 49 (.pick (.t 43) (.t 48) (cB false))]) (.cond (.t 49) (.seq (.ops false [oP 6 (.mv (cB false)), oP 7 (.mv (cI 0))]) .ret) .skip)))) c110_1)
def c110_3 : C := (.seq (.ops false [oP 38 (.bin .lss (.t 37) (.t 36))]) (.seq (.cond (.t 38) .skip (.exit 0)) c110_2))
def c110_4 : C := (.seq (.ops false [oP 6 (.mv (cB true)), oP 7 (.mv (cI 0))]) .ret)
def c110_5 : C := (.seq (.ops false [oP 32 (.ld 2 true (.t 4)), oP 33 (.call 164 [(.t 32)]), oP 11 (.mv (.t 33))]) (.seq (.seq (.ops false [oP 34 (.ld 2 true (.t 9)), oP 35 (.call 164 [(.t 34)]), oP 36 (.len (.t 35)), oP 37 (.mv (cI 0))]) (.block 0 (.loop c110_3))) c110_4))
def c110_6 : C := (.seq (.ops false [oP 24 (.ld 6 true (.t 3)), oP 25 (.ld 3 true (.t 5)), oP 26 (.call 102 [(.t 24), (.t 25)]), oP 23 (.mv (.t 26)), oP 27 (.ext (.t 23) 0), oP 28 (.ext (.t 23) 1), oP 9 (.new [.mt, .mt]), oS (.st 2 (.t 9) (.t 27)), oP 10 (.mv (.t 28))]) (.seq (.seq (.ops false [oP 29 (.mv (.t 10)), oP 30 (.bin .neq (.t 29) (cI 0))]) (.cond (.t 30) (.seq (.ops false [oP 31 (.mv (.t 10)),
  oP 6 (.mv (cB false)), oP 7 (.mv (.t 31))]) .ret) .skip)) c110_5))
def c110_7 : C := (.seq (.seq (.ops false [oP 19 (.ld 6 true (.t 3)), oP 20 (.ld 2 true (.t 4)), oB 21 (.call 108 [(.t 19), (.t 20)]), oP 22 (.not (.t 21))]) (.cond (.t 22) (.seq (.ops false [oP 6 (.mv (cB false)), oP 7 (.mv (cI 9))]) .ret) .skip)) c110_6)
def c110 : C := (.seq (.ops false [oP 3 (.box 6 (.t 0)), oP 4 (.box 2 (.t 1)), oP 5 (.box 3 (.t 2)), oP 6 (.mv (cB false)), oP 7 (.mv (cI 0))]) (.seq (.seq (.ops false [oP 14 (.ld 6 true (.t 3)), oB 15 (.call 74 [(.t 14)]), oP 8 (.mv (.t 15))]) (.seq (.ops false [oP 16 (.mv (.t 8)), oP 17 (.bin .neq (.t 16) (cI 0))]) (.cond (.t 17) (.seq (.ops false [oP 18 (.mv (.t 8)), oP 6 (.mv (cB false)), oP 7 (.mv (.t 18))])
  .ret) .skip))) c110_7))
def r110 : List RV := [(.tmp 6), (.tmp 7)]
theorem c110_ok : ∃ code, Try.f110.body = some code ∧ compC Try.prog Try.f110.ntmps code = some (C.strip c110) := ⟨_, rfl, by kernel_rfl⟩
theorem r110_ok : compRes Try.prog Try.f110.results.toList = some r110 := by kernel_rfl
theorem f110_ok : fnOk Try.prog 110 = true := by kernel_rfl
def c113_1 : C := (.seq (.block 1 (.seq (.ops false [oP 22 (.iaS 1 (.t 18) (.t 20)), oP 23 (.ld 1 false (.t 22)), oP 9 (.mv (.t 23))]) (.ops false [oP 24 (.mv (.t 7)), oP 25 (.mv (.t 9)), oP 26 (.not (.t 25)), oP 27 (.bsl 1 1 [(.v (.bool false))] [(0, (.t 26))]), oP 28 (.app 1 1 (.t 24) (.t 27)), oP 7 (.mv (.t 28))]))) (.ops false [oP 29 (.bin .add (.t 20) (cI 1)), oP 20 (.mv (.t 29))]))
def c113_2 : C := (.seq (.ops false [oP 21 (.bin .lss (.t 20) (.t 19))]) (.seq (.cond (.t 21) .skip (.exit 0)) c113_1))
def c113_3 : C := (.seq (.ops false [oP 30 (.mv (.t 7)), oP 4 (.mv (.t 30)), oP 5 (.mv (cI 0))]) .ret)
def c113_4 : C := (.seq (.ops false [oP 7 (.mv (.c .mt))]) (.seq (.seq (.ops false [oP 17 (.fa 0 (.t 3)), oP 18 (.ld 1 false (.t 17)), oP 19 (.len (.t 18)), oP 20 (.mv (cI 0))]) (.block 0 (.loop c113_2))) c113_3))
def c113 : C := (.seq (.ops false [oP 2 (.box 6 (.t 0)), oP 3 (.box 2 (.t 1)), oP 4 (.mv (.c .mt)), oP 5 (.mv (cI 0))]) (.seq (.seq (.ops false [oP 10 (.ld 6 true (.t 2)), oP 11 (.ld 2 true (.t 3)), oP 12 (.bsl 2 1 [.mt, .mt] [(0, (.t 11))]), oB 13 (.call 163 [(.t 10), (.t 12)]), oP 6 (.mv (.t 13))]) (.seq (.ops false [oP 14 (.mv (.t 6)), oP 15 (.bin .neq (.t 14) (cI 0))]) (.cond (.t 15)
  (.seq (.ops false [oP 16 (.mv (.t 6)), oP 4 (.mv (.c .mt)), oP 5 (.mv (.t 16))]) .ret) .skip))) c113_4))
def r113 : List RV := [(.tmp 4), (.tmp 5)]
theorem c113_ok : ∃ code, Try.f113.body = some code ∧ compC Try.prog Try.f113.ntmps code = some (C.strip c113) := ⟨_, rfl, by kernel_rfl⟩
theorem r113_ok : compRes Try.prog Try.f113.results.toList = some r113 := by kernel_rfl
theorem f113_ok : fnOk Try.prog 113 = true := by kernel_rfl
def c115_1 : C := (.ops false [oP 15 (.mv (.t 5)), oP 16 (.bin .add (.t 15) (cI 1)), oP 5 (.mv (.t 16))])
def c115_2 : C := (.seq (.block 1 (.seq (.ops true [oP 17 (.mv (.t 0)), oP 18 (.mv (.t 5)), oA 19 (.iaS 1 (.t 17) (.t 18)) [1, 0], oA 20 (.ld 1 false (.t 19)) [0, 1, 2], oP 21 (.mv (.t 1)), oP 22 (.mv (.t 5)), oA 23 (.iaS 1 (.t 21) (.t 22)) [5, 4], oA 24 (.ld 1 false (.t 23)) [4, 5, 6], oA 25 (.bin .neq (.t 20) (.t 24)) [6, 5, 4, 2, 1, 0, 7, 3]]) (.cond (.t 25) (.seq (.ops false [oP 4 (.mv (cB false))]) .ret)
  .skip))) c115_1)
def c115_3 : C := (.seq (.seq (.ops false [oP 11 (.mv (.t 5)), oP 12 (.mv (.t 0)), oP 13 (.len (.t 12)), oP 14 (.bin .lss (.t 11) (.t 13))]) (.cond (.t 14) .skip (.exit 0))) c115_2)
def c115_4 : C := (.seq (.ops false [oP 4 (.mv (cB true))]) .ret)
def c115_5 : C := (.seq (.seq (.ops false [oP 5 (.mv (cI 0))]) (.block 0 (.loop c115_3))) c115_4)
def c115 : C := (.seq (.ops false [oP 4 (.mv (cB false))]) (.seq (.seq (.ops false [oP 6 (.mv (.t 0)), oP 7 (.len (.t 6)), oP 8 (.mv (.t 1)), oP 9 (.len (.t 8)), oP 10 (.bin .neq (.t 7) (.t 9))]) (.cond (.t 10) (.seq (.ops false [oP 4 (.mv (cB false))]) .ret) .skip)) c115_5))
def r115 : List RV := [(.tmp 4)]
theorem c115_ok : ∃ code, Try.f115.body = some code ∧ compC Try.prog Try.f115.ntmps code = some (C.strip c115) := ⟨_, rfl, by kernel_rfl⟩
theorem r115_ok : compRes Try.prog Try.f115.results.toList = some r115 := by kernel_rfl
theorem f115_ok : fnOk Try.prog 115 = true := by kernel_rfl
def c116_1 : C := (.ops false [oP 15 (.mv (.t 5)), oP 16 (.bin .add (.t 15) (cI 1)), oP 5 (.mv (.t 16))])
def c116_2 : C := (.seq (.block 1 (.seq (.ops true [oP 17 (.mv (.t 0)), oP 18 (.mv (.t 5)), oA 19 (.iaS 1 (.t 17) (.t 18)) [1, 0], oA 20 (.ld 1 false (.t 19)) [0, 1, 2], oP 21 (.mv (.t 1)), oP 22 (.mv (.t 5)), oA 23 (.iaS 1 (.t 21) (.t 22)) [5, 4], oA 24 (.ld 1 false (.t 23)) [4, 5, 6], oA 25 (.beq true (.t 20) (.t 24)) [6, 5, 4, 2, 1, 0, 7, 3]]) (.cond (.t 25) (.seq (.ops false [oP 4 (.mv (cB false))]) .ret)
  .skip))) c116_1)
def c116_3 : C := (.seq (.seq (.ops false [oP 11 (.mv (.t 5)), oP 12 (.mv (.t 0)), oP 13 (.len (.t 12)), oP 14 (.bin .lss (.t 11) (.t 13))]) (.cond (.t 14) .skip (.exit 0))) c116_2)
def c116_4 : C := (.seq (.ops false [oP 4 (.mv (cB true))]) .ret)
def c116_5 : C := (.seq (.seq (.ops false [oP 5 (.mv (cI 0))]) (.block 0 (.loop c116_3))) c116_4)
def c116 : C := (.seq (.ops false [oP 4 (.mv (cB false))]) (.seq (.seq (.ops false [oP 6 (.mv (.t 0)), oP 7 (.len (.t 6)), oP 8 (.mv (.t 1)), oP 9 (.len (.t 8)), oP 10 (.bin .neq (.t 7) (.t 9))]) (.cond (.t 10) (.seq (.ops false [oP 4 (.mv (cB false))]) .ret) .skip)) c116_5))
def r116 : List RV := [(.tmp 4)]
theorem c116_ok : ∃ code, Try.f116.body = some code ∧ compC Try.prog Try.f116.ntmps code = some (C.strip c116) := ⟨_, rfl, by kernel_rfl⟩
theorem r116_ok : compRes Try.prog Try.f116.results.toList = some r116 := by kernel_rfl
theorem f116_ok : fnOk Try.prog 116 = true := by kernel_rfl
def c162_1 : C := (.seq (.block 1 (.seq (.ops false [oP 10 (.iaS 1 (.t 6) (.t 8)), oP 11 (.ld 1 false (.t 10)), oP 5 (.mv (.t 11))]) (.ops false [oP 12 (.mv (.t 3)), oP 13 (.mv (.t 5)), oP 14 (.bin .neq (.t 13) (cI 0)), oP 15 (.bsl 1 1 [(.v (.bool false))] [(0, (.t 14))]), oP 16 (.app 1 1 (.t 12) (.t 15)), oP 3 (.mv (.t 16))]))) (.ops false [oP 17 (.bin .add (.t 8) (cI 1)), oP 8 (.mv (.t 17))]))
def c162_2 : C := (.seq (.ops false [oP 9 (.bin .lss (.t 8) (.t 7))]) (.seq (.cond (.t 9) .skip (.exit 0)) c162_1))
def c162_3 : C := (.seq (.ops false [oP 18 (.mv (.t 3)), oP 2 (.mv (.t 18))]) .ret)
def c162 : C := (.seq (.ops false [oP 2 (.mv (.c .mt))]) (.seq (.ops false [oP 3 (.mv (.c .mt))]) (.seq (.seq (.ops false [oP 6 (.mv (.t 0)), oP 7 (.len (.t 6)), oP 8 (.mv (cI 0))]) (.block 0 (.loop c162_2))) c162_3)))
def r162 : List RV := [(.tmp 2)]
theorem c162_ok : ∃ code, Try.f162.body = some code ∧ compC Try.prog Try.f162.ntmps code = some (C.strip c162) := ⟨_, rfl, by kernel_rfl⟩
theorem r162_ok : compRes Try.prog Try.f162.results.toList = some r162 := by kernel_rfl
theorem f162_ok : fnOk Try.prog 162 = true := by kernel_rfl
def c163_1 : C := (.ops false [oP 23 (.bin .add (.t 15) (cI 1)), oP 15 (.mv (.t 23))])
def c163_2 : C := (.seq (.block 1 (.seq (.ops false [oP 17 (.iaS 2 (.t 13) (.t 15)), oP 18 (.ld 2 true (.t 17)), oP 7 (.new [.mt, .mt]), oS (.st 2 (.t 7) (.t 18))]) (.seq (.ops false [oP 19 (.ld 6 true (.t 2)), oP 20 (.ld 2 true (.t 7)), oB 21 (.call 108 [(.t 19), (.t 20)]), oP 22 (.not (.t 21))]) (.cond (.t 22) (.seq (.ops false [oP 4 (.mv (cI 9))]) .ret) .skip)))) c163_1)
def c163_3 : C := (.seq (.ops false [oP 16 (.bin .lss (.t 15) (.t 14))]) (.seq (.cond (.t 16) .skip (.exit 0)) c163_2))
def c163_4 : C := (.seq (.ops false [oP 4 (.mv (cI 0))]) .ret)
def c163_5 : C := (.seq (.seq (.ops false [oP 13 (.mv (.t 1)), oP 14 (.len (.t 13)), oP 15 (.mv (cI 0))]) (.block 0 (.loop c163_3))) c163_4)
def c163 : C := (.seq (.ops false [oP 2 (.box 6 (.t 0)), oP 4 (.mv (cI 0))]) (.seq (.seq (.ops false [oP 8 (.ld 6 true (.t 2)), oB 9 (.call 74 [(.t 8)]), oP 5 (.mv (.t 9))]) (.seq (.ops false [oP 10 (.mv (.t 5)), oP 11 (.bin .neq (.t 10) (cI 0))]) (.cond (.t 11) (.seq (.ops false [oP 12 (.mv (.t 5)), oP 4 (.mv (.t 12))]) .ret) .skip))) c163_5))
def r163 : List RV := [(.tmp 4)]
theorem c163_ok : ∃ code, Try.f163.body = some code ∧ compC Try.prog Try.f163.ntmps code = some (C.strip c163) := ⟨_, rfl, by kernel_rfl⟩
theorem r163_ok : compRes Try.prog Try.f163.results.toList = some r163 := by kernel_rfl
theorem f163_ok : fnOk Try.prog 163 = true := by kernel_rfl
def c164 : C := (.seq (.ops false [oP 1 (.box 2 (.t 0)), oP 2 (.mv (.c .mt))]) (.seq (.ops false [oP 4 (.fa 0 (.t 1)), oP 5 (.ld 1 false (.t 4)), oP 6 (.app 1 1 (.c .mt) (.t 5)), oP 3 (.mv (.t 6))]) (.seq (.ops false [oP 7 (.mv (.t 3)), oP 8 (.fa 1 (.t 1)), oP 9 (.ld 1 false (.t 8)), oP 10 (.app 1 1 (.t 7) (.t 9)), oP 2 (.mv (.t 10))]) .ret)))
def r164 : List RV := [(.tmp 2)]
theorem c164_ok : ∃ code, Try.f164.body = some code ∧ compC Try.prog Try.f164.ntmps code = some (C.strip c164) := ⟨_, rfl, by kernel_rfl⟩
theorem r164_ok : compRes Try.prog Try.f164.results.toList = some r164 := by kernel_rfl
theorem f164_ok : fnOk Try.prog 164 = true := by kernel_rfl
def c165 : C := (.seq (.ops false [oP 1 (.box 6 (.t 0)), oP 2 (.mv (cI 0))]) (.seq (.ops false [oP 3 (.fa 1 (.t 1)), oP 4 (.ld 1 false (.t 3)), oP 5 (.len (.t 4)), oP 6 (.fa 2 (.t 1)), oP 7 (.ld 1 false (.t 6)), oP 8 (.len (.t 7)), oP 9 (.bin .add (.t 5) (.t 8)), oP 2 (.mv (.t 9))]) .ret))
def r165 : List RV := [(.tmp 2)]
theorem c165_ok : ∃ code, Try.f165.body = some code ∧ compC Try.prog Try.f165.ntmps code = some (C.strip c165) := ⟨_, rfl, by kernel_rfl⟩
theorem r165_ok : compRes Try.prog Try.f165.results.toList = some r165 := by kernel_rfl
theorem f165_ok : fnOk Try.prog 165 = true := by kernel_rfl
def c166 : C := (.seq (.ops false [oP 1 (.box 4 (.t 0)), oP 2 (.mv (cB false))]) (.seq (.ops false [oP 3 (.fa 0 (.t 1)), oP 4 (.ld 1 false (.t 3)), oP 5 (.bin .geq (.t 4) (cI 1)), oP 6 (.mv (.t 5)), oG 7 6 true (.fa 0 (.t 1)), oG 8 6 true (.ld 1 false (.t 7)), oG 9 6 true (.bin .leq (.t 8) (cI 60)), oP 10 (.pick (.t 6) (.t 9) (cB false)), oP 11 (.mv (.t 10)), oG 12 11 true (.fa 1 (.t 1)),
  oG 13 11 true (.ld 1 false (.t 12)), oG 14 11 true (.bin .geq (.t 13) (cI 0)), oP 15 (.pick (.t 11) (.t 14) (cB false)), oP 16 (.mv (.t 15)), oG 17 16 true (.fa 1 (.t 1)), oG 18 16 true (.ld 1 false (.t 17)), oG 19 16 true (.fa 0 (.t 1)), oG 20 16 true (.ld 1 false (.t 19)), oG 21 16 true (.bin .leq (.t 18) (.t 20)), oP 22 (.pick (.t 16) (.t 21) (cB false)), oP 2 (.mv (.t 22))]) .ret))
def r166 : List RV := [(.tmp 2)]
theorem c166_ok : ∃ code, Try.f166.body = some code ∧ compC Try.prog Try.f166.ntmps code = some (C.strip c166) := ⟨_, rfl, by kernel_rfl⟩
theorem r166_ok : compRes Try.prog Try.f166.results.toList = some r166 := by kernel_rfl
theorem f166_ok : fnOk Try.prog 166 = true := by kernel_rfl
def c167 : C := (.seq (.ops false [oP 1 (.box 4 (.t 0)), oP 2 (.mv (cB false))]) (.seq (.ops false [oP 3 (.ld 4 true (.t 1)), oB 4 (.call 166 [(.t 3)]), oP 5 (.mv (.t 4)), oG 6 5 true (.fa 1 (.t 1)), oG 7 5 true (.ld 1 false (.t 6)), oG 8 5 true (.fa 0 (.t 1)), oG 9 5 true (.ld 1 false (.t 8)), oG 10 5 true (.bin .eql (.t 7) (.t 9)), oP 11 (.pick (.t 5) (.t 10) (cB false)), oP 2 (.mv (.t 11))]) .ret))
def r167 : List RV := [(.tmp 2)]
theorem c167_ok : ∃ code, Try.f167.body = some code ∧ compC Try.prog Try.f167.ntmps code = some (C.strip c167) := ⟨_, rfl, by kernel_rfl⟩
theorem r167_ok : compRes Try.prog Try.f167.results.toList = some r167 := by kernel_rfl
theorem f167_ok : fnOk Try.prog 167 = true := by kernel_rfl
def c169 : C := (.seq (.ops false [oP 1 (.box 4 (.t 0)), oP 2 (.mv (cB false))]) (.seq (.ops false [oP 3 (.ld 4 true (.t 1)), oB 4 (.call 197 [(.t 3)]), oP 5 (.mv (.t 4)), oG 6 5 true (.fa 1 (.t 1)), oG 7 5 true (.ld 1 false (.t 6)), oG 8 5 true (.fa 0 (.t 1)), oG 9 5 true (.ld 1 false (.t 8)), oG 10 5 true (.bin .eql (.t 7) (.t 9)), oP 11 (.pick (.t 5) (.t 10) (cB false)), oP 2 (.mv (.t 11))]) .ret))
def r169 : List RV := [(.tmp 2)]
theorem c169_ok : ∃ code, Try.f169.body = some code ∧ compC Try.prog Try.f169.ntmps code = some (C.strip c169) := ⟨_, rfl, by kernel_rfl⟩
theorem r169_ok : compRes Try.prog Try.f169.results.toList = some r169 := by kernel_rfl
theorem f169_ok : fnOk Try.prog 169 = true := by kernel_rfl
def c170 : C := (.seq (.ops false [oP 1 (.box 2 (.t 0)), oP 2 (.mv (.c .mt))]) (.seq (.ops true [oP 3 (.bsl 1 0 [(.v (.bool false))] []), oP 4 (.fa 0 (.t 1)), oA 5 (.ld 1 false (.t 4)) [1], oA 6 (.app 1 1 (.t 3) (.t 5)) [1, 2, 0], oP 7 (.fa 1 (.t 1)), oA 8 (.ld 1 false (.t 7)) [4], oA 9 (.app 1 1 (.t 6) (.t 8)) [4, 0, 2, 1, 5, 3], oA 2 (.mv (.t 9)) [5, 4, 3, 2, 1, 0, 6]]) .ret))
def r170 : List RV := [(.tmp 2)]
theorem c170_ok : ∃ code, Try.f170.body = some code ∧ compC Try.prog Try.f170.ntmps code = some (C.strip c170) := ⟨_, rfl, by kernel_rfl⟩
theorem r170_ok : compRes Try.prog Try.f170.results.toList = some r170 := by kernel_rfl
theorem f170_ok : fnOk Try.prog 170 = true := by kernel_rfl
def c197 : C := (.seq (.ops false [oP 1 (.box 4 (.t 0)), oP 2 (.mv (cB false))]) (.seq (.ops false [oP 3 (.fa 0 (.t 1)), oP 4 (.ld 1 false (.t 3)), oP 5 (.bin .geq (.t 4) (cI 1)), oP 6 (.mv (.t 5)), oG 7 6 true (.fa 0 (.t 1)), oG 8 6 true (.ld 1 false (.t 7)), oG 9 6 true (.bin .leq (.t 8) (cI 60)), oP 10 (.pick (.t 6) (.t 9) (cB false)), oP 11 (.mv (.t 10)), oG 12 11 true (.fa 1 (.t 1)),
  oG 13 11 true (.ld 1 false (.t 12)), oG 14 11 true (.bin .geq (.t 13) (cI 0)), oP 15 (.pick (.t 11) (.t 14) (cB false)), oP 16 (.mv (.t 15)), oG 17 16 true (.fa 1 (.t 1)), oG 18 16 true (.ld 1 false (.t 17)), oG 19 16 true (.fa 0 (.t 1)), oG 20 16 true (.ld 1 false (.t 19)), oG 21 16 true (.bin .leq (.t 18) (.t 20)), oP 22 (.pick (.t 16) (.t 21) (cB false)), oP 2 (.mv (.t 22))]) .ret))
def r197 : List RV := [(.tmp 2)]
theorem c197_ok : ∃ code, Try.f197.body = some code ∧ compC Try.prog Try.f197.ntmps code = some (C.strip c197) := ⟨_, rfl, by kernel_rfl⟩
theorem r197_ok : compRes Try.prog Try.f197.results.toList = some r197 := by kernel_rfl
theorem f197_ok : fnOk Try.prog 197 = true := by kernel_rfl
end Go.Proofs.Ytkjibmfggeibjaa
