/- PackMade: CodePM PkM. -/
import Derived.Test.YtehmmnnmkapfeaaDoorCx3
import Derived.Test.YtehmmnnmkapfeaaDoorProg
import Derived.Test.YtehmmnnmkapfeaaDoorCx16
import Derived.Test.YtehmmnnmkapfeaaDoorCx17
set_option linter.unusedSimpArgs false
set_option linter.unusedVariables false
set_option maxRecDepth 100000

/- Compiled code of some functions (printed by a program), each checked by the kernel. -/
namespace Go.Proofs.YtehmmnnmkapfeaaDoor
open Go
def c7_1 : C := (.ops false [oP 55 (.mv (.t 14)), oP 56 (.bin .add (.t 55) (cI 1)), oP 14 (.mv (.t 56))])
def c7_2 : C := (.seq (.block 1 (.seq (.ops false [oP 57 (.mv (.t 12)), oP 58 (.mv (.t 7)), oB 59 (.call 16 [(.t 58)]), oP 60 (.bsl 2 1 [(.v (.int .i64 0)), (.v (.int .i64 0))] [(0, (.t 59))]), oP 61 (.app 2 16 (.t 57) (.t 60)), oP 12 (.mv (.t 61))]) (.seq (.ops false [oP 62 (.mv (.t 7)), oB 63 (.call 14 [(.t 62), (cI 2)]), oP 64 (.bin .eql (.t 63) (cI 0))]) (.cond (.t 64) (.ops false [oP 65 (.mv (.t 13)),
  oP 66 (.mv (.t 14)), oP 67 (.bsl 1 1 [(.v (.int .i64 0))] [(0, (.t 66))]), oP 68 (.app 1 8 (.t 65) (.t 67)), oP 13 (.mv (.t 68))]) .skip)))) c7_1)
def c7_3 : C := (.seq (.seq (.ops false [oP 50 (.mv (.t 14)), oP 51 (.fa 1 (.t 8)), oP 52 (.ld 1 false (.t 51)), oP 53 (.len (.t 52)), oP 54 (.bin .lss (.t 50) (.t 53))]) (.cond (.t 54) .skip (.exit 0))) c7_2)
def c7_4 : C := (.seq (.block 4 (.ops true [oP 195 (.mv (.t 23)), oP 196 (.mv (.t 24)), oP 197 (.mv (.t 23)), oP 198 (.mv (.t 24)), oA 199 (.iaS 1 (.t 197) (.t 198)) [3, 2], oA 200 (.ld 1 false (.t 199)) [2, 3, 4], oP 201 (.mv (.t 7)), oE 202 (.call 14 [(.t 201), (cI 20)]) [6], oA 203 (.bin .add (.t 200) (.t 202)) [6, 4, 3, 2, 7, 5], oA 204 (.bin .sub (.t 203) (cI 10)) [5, 7, 2, 3, 4, 6, 8],
  oA 205 (.mnx true (cI 0) (.t 204)) [8, 6, 4, 3, 2, 7, 5, 9], oA 206 (.iaS 1 (.t 195) (.t 196)) [10, 9, 8, 7, 6, 5, 4, 3, 2, 1, 0], oT (.st 1 (.t 206) (.t 205)) [9, 8, 6, 5, 4, 3, 2, 1, 0, 7, 10, 11]])) (.ops false [oP 193 (.mv (.t 24)), oP 194 (.bin .add (.t 193) (cI 1)), oP 24 (.mv (.t 194))]))
def c7_5 : C := (.seq (.seq (.ops false [oP 189 (.mv (.t 24)), oP 190 (.mv (.t 23)), oP 191 (.len (.t 190)), oP 192 (.bin .lss (.t 189) (.t 191))]) (.cond (.t 192) .skip (.exit 3))) c7_4)
def c7_6 : C := (.seq (.ops false [oP 226 (.mv (.t 17)), oP 227 (.mv (.t 13)), oB 228 (.call 37 [(.t 226), (.t 227)]), oP 225 (.mv (.t 228)), oP 229 (.ext (.t 225) 0), oP 230 (.ext (.t 225) 1), oP 25 (.mv (.t 229)), oP 26 (.mv (.t 230))]) (.seq (.ops false [oP 232 (.mv (.t 17)), oP 233 (.mv (.t 13)), oB 234 (.call 46 [(.t 232), (.t 233)]), oP 231 (.mv (.t 234)), oP 235 (.ext (.t 231) 0), oP 236 (.ext (.t 231) 1),
  oP 27 (.mv (.t 235)), oP 28 (.mv (.t 236))]) (.seq (.ops false [oP 238 (.mv (.t 23)), oP 239 (.mv (.t 17)), oP 240 (.mv (.t 13)), oB 241 (.call 38 [(.t 238), (.t 239), (.t 240)]), oP 237 (.mv (.t 241)), oP 242 (.ext (.t 237) 0), oP 243 (.ext (.t 237) 1), oP 29 (.mv (.t 242)), oP 30 (.mv (.t 243))]) (.seq (.ops false [oP 245 (.mv (.t 23)), oP 246 (.mv (.t 17)), oP 247 (.mv (.t 13)),
  oB 248 (.call 47 [(.t 245), (.t 246), (.t 247)]), oP 244 (.mv (.t 248)), oP 249 (.ext (.t 244) 0), oP 250 (.ext (.t 244) 1), oP 31 (.mv (.t 249)), oP 32 (.mv (.t 250))]) (.seq (.ops false [oP 251 (.mv (.t 25)), oP 252 (.mv (.t 27)), oP 253 (.bin .eql (.t 251) (.t 252)), oP 254 (.mv (.t 253)), oG 255 254 true (.mv (.t 26)), oG 256 254 true (.mv (.t 28)), oG 257 254 true (.bin .eql (.t 255)
  (.t 256)), oP 258 (.pick (.t 254) (.t 257) (cB false)), oP 259 (.mv (.t 258)), oG 260 259 true (.mv (.t 29)), oG 261 259 true (.mv (.t 31)), oG 262 259 true (.bin .eql (.t 260) (.t 261)), oP 263 (.pick (.t 259) (.t 262) (cB false)), oP 264 (.mv (.t 263)), oG 265 264 true (.mv (.t 30)), oG 266 264 true (.mv (.t 32)), oG 267 264 true (.bin .eql (.t 265) (.t 266)), oP 268 (.pick (.t 264) (.t 267)
  (cB false)), oP 269 (.mv (.t 268)), oD 270 269 true (.call 28 []) [], oP 271 (.pick (.t 269) (.t 270) (cB false)), oP 6 (.mv (.t 271))]) .ret)))))
def c7_7 : C := (.seq (.seq (.ops false [oP 207 (.mv (.t 1)), oB 208 (.call 17 [(.t 207), (cI 12)])]) (.block 5 (.seq (.ops false [oP 210 (.bin .eql (.t 208) (cI 8)), oP 209 (.mv (.t 210))]) (.cond (.t 209) (.ops false [oP 211 (.mv (.t 13)), oP 212 (.mv (.t 2)), oB 213 (.call 17 [(.t 212), (cI 40)]), oP 214 (.bin .sub (.t 213) (cI 1)), oP 215 (.bsl 1 1 [(.v (.int .i64 0))] [(0, (.t 214))]),
  oP 216 (.app 1 8 (.t 211) (.t 215)), oP 13 (.mv (.t 216))]) (.seq (.ops false [oP 218 (.bin .eql (.t 208) (cI 9)), oP 217 (.mv (.t 218))]) (.cond (.t 217) (.seq (.ops false [oP 219 (.mv (.t 23)), oP 220 (.len (.t 219)), oP 221 (.bin .gtr (.t 220) (cI 0))]) (.cond (.t 221) (.ops false [oP 222 (.mv (.t 23)), oP 223 (.mv (.t 2)), oP 224 (.iaS 1 (.t 222) (cI 0)), oS (.st 1 (.t 224) (.t 223))]) .skip))
  .skip)))))) (.weak c7_6))
def c7_8 : C := (.seq (.ops false [oP 186 (.bsl 1 0 [(.v (.int .i64 0))] []), oP 187 (.mv (.t 17)), oP 188 (.app 1 8 (.t 186) (.t 187)), oP 23 (.mv (.t 188))]) (.seq (.seq (.ops false [oP 24 (.mv (cI 0))]) (.block 3 (.loop c7_5))) (.weak c7_7)))
def c7_9 : C := (.seq (.seq (.ops false [oP 146 (.mv (.t 11)), oP 147 (.len (.t 146)), oP 148 (.bin .gtr (.t 147) (cI 0)), oP 149 (.mv (.t 148)), oG 150 149 true (.mv (.t 12)), oG 151 149 true (.len (.t 150)), oG 152 149 true (.bin .gtr (.t 151) (cI 0)), oP 153 (.pick (.t 149) (.t 152) (cB false))]) (.cond (.t 153) (.seq (.ops true [oP 155 (.mv (.t 9)), oP 156 (.mv (.t 10)), oP 157 (.mv (.t 11)),
  oA 158 (.iaS 1 (.t 157) (cI 0)) [2], oA 159 (.ld 1 false (.t 158)) [2, 3], oP 160 (.mv (.t 12)), oA 161 (.iaS 2 (.t 160) (cI 0)) [5], oA 162 (.ld 2 true (.t 161)) [5, 6], oE 163 (.call 34 [(.t 155), (.t 156), (.t 159), (.t 162)]) [6, 5, 3, 2, 7, 4, 1, 0], oA 154 (.mv (.t 163)) [0, 1, 4, 7, 2, 3, 5, 6, 8], oA 164 (.ext (.t 154) 0) [8, 6, 5, 3, 2, 7, 4, 1, 0, 9], oA 165 (.ext (.t 154) 1) [8, 6, 5,
  3, 2, 7, 4, 1, 0, 9], oA 19 (.mv (.t 164)) [9, 7, 6, 5, 4, 3, 2, 1, 0, 8, 10], oA 20 (.mv (.t 165)) [10, 9, 8, 7, 6, 5, 4, 3, 2, 1, 0, 12, 11]]) (.seq (.ops true [oP 167 (.mv (.t 9)), oP 168 (.mv (.t 10)), oP 169 (.mv (.t 11)), oA 170 (.iaS 1 (.t 169) (cI 0)) [2], oA 171 (.ld 1 false (.t 170)) [2, 3], oP 172 (.mv (.t 12)), oA 173 (.iaS 2 (.t 172) (cI 0)) [5], oA 174 (.ld 2 true (.t 173)) [5, 6],
  oE 175 (.call 45 [(.t 167), (.t 168), (.t 171), (.t 174)]) [6, 5, 3, 2, 7, 4, 1, 0], oA 166 (.mv (.t 175)) [0, 1, 4, 7, 2, 3, 5, 6, 8], oA 176 (.ext (.t 166) 0) [8, 6, 5, 3, 2, 7, 4, 1, 0, 9], oA 177 (.ext (.t 166) 1) [8, 6, 5, 3, 2, 7, 4, 1, 0, 9], oA 21 (.mv (.t 176)) [9, 7, 6, 5, 4, 3, 2, 1, 0, 8, 10], oA 22 (.mv (.t 177)) [10, 9, 8, 7, 6, 5, 4, 3, 2, 1, 0, 12, 11]])
  (.seq (.ops false [oP 178 (.mv (.t 19)), oP 179 (.mv (.t 21)), oP 180 (.bin .neq (.t 178) (.t 179)), oP 181 (.mv (.t 180)), oG 182 181 false (.mv (.t 20)), oG 183 181 false (.mv (.t 22)), oG 184 181 false (.bin .neq (.t 182) (.t 183)), oP 185 (.pick (.t 181) (cB true) (.t 184))]) (.cond (.t 185) (.seq (.ops false [oP 6 (.mv (cB false))]) .ret) .skip)))) .skip)) (.weak c7_8))
def c7_10 : C := (.seq (.ops false [oP 120 (.ld 6 true (.t 8)), oP 121 (.mv (.t 9)), oP 122 (.mv (.t 10)), oP 123 (.mv (.t 11)), oP 124 (.mv (.t 12)), oP 125 (.call 42 [(.t 120), (.t 121), (.t 122), (.t 123), (.t 124)]), oP 119 (.mv (.t 125)), oP 126 (.ext (.t 119) 0), oP 127 (.ext (.t 119) 1), oP 15 (.mv (.t 126)), oP 16 (.mv (.t 127))]) (.seq (.ops false [oP 129 (.ld 6 true (.t 8)), oP 130 (.mv (.t 9)),
  oP 131 (.mv (.t 10)), oP 132 (.mv (.t 11)), oP 133 (.mv (.t 12)), oP 134 (.call 43 [(.t 129), (.t 130), (.t 131), (.t 132), (.t 133)]), oP 128 (.mv (.t 134)), oP 135 (.ext (.t 128) 0), oP 136 (.ext (.t 128) 1), oP 17 (.mv (.t 135)), oP 18 (.mv (.t 136))]) (.seq (.seq (.ops false [oP 137 (.mv (.t 16)), oP 138 (.mv (.t 18)), oP 139 (.bin .neq (.t 137) (.t 138)), oP 140 (.mv (.t 139)),
  oG 141 140 false (.mv (.t 15)), oG 142 140 false (.mv (.t 17)), oD 143 140 false (.call 44 [(.t 141), (.t 142)]) [], oG 144 140 false (.not (.t 143)), oP 145 (.pick (.t 140) (cB true) (.t 144))]) (.cond (.t 145) (.seq (.ops false [oP 6 (.mv (cB false))]) .ret) .skip)) c7_9)))
def c7_11 : C := (.seq (.seq (.ops false [oP 69 (.mv (.t 1)), oB 70 (.call 17 [(.t 69), (cI 12)])]) (.block 2 (.seq (.ops false [oP 72 (.bin .eql (.t 70) (cI 0)), oP 71 (.mv (.t 72))]) (.cond (.t 71) (.ops false [oP 73 (.mv (.t 7)), oP 74 (.ld 6 true (.t 8)), oP 75 (.call 41 [(.t 73), (.t 74)]), oS (.st 6 (.t 8) (.t 75))]) (.seq (.ops false [oP 77 (.bin .eql (.t 70) (cI 1)), oP 76 (.mv (.t 77))]) (.cond (.t 76)
  (.ops false [oP 78 (.mv (.t 9)), oP 79 (.mv (.t 7)), oP 80 (.mv (.t 9)), oP 81 (.iaS 5 (.t 80) (cI 0)), oP 82 (.ld 5 true (.t 81)), oB 83 (.call 18 [(.t 79), (.t 82)]), oP 84 (.iaS 5 (.t 78) (cI 0)), oS (.st 5 (.t 84) (.t 83))]) (.seq (.ops false [oP 86 (.bin .eql (.t 70) (cI 2)), oP 85 (.mv (.t 86))]) (.cond (.t 85) (.ops false [oP 87 (.mv (.t 10)), oP 88 (.mv (.t 2)), oB 89 (.call 17 [(.t 88),
  (cI 9)]), oP 90 (.bin .sub (.t 89) (cI 1)), oP 91 (.iaS 4 (.t 87) (cI 0)), oP 92 (.fa 0 (.t 91)), oS (.st 1 (.t 92) (.t 90))]) (.seq (.ops false [oP 94 (.bin .eql (.t 70) (cI 3)), oP 93 (.mv (.t 94))]) (.cond (.t 93) (.ops false [oP 95 (.mv (.t 12)), oP 96 (.mv (.t 2)), oP 97 (.iaS 2 (.t 95) (cI 0)), oP 98 (.fa 0 (.t 97)), oS (.st 1 (.t 98) (.t 96))]) (.seq (.ops false [oP 100 (.bin .eql (.t 70)
  (cI 4)), oP 99 (.mv (.t 100))]) (.cond (.t 99) (.ops false [oP 101 (.mv (.t 12)), oP 102 (.slc 2 (.t 101) (.some (cI 1)) Option.none), oP 12 (.mv (.t 102))]) (.seq (.ops false [oP 104 (.bin .eql (.t 70) (cI 5)), oP 103 (.mv (.t 104))]) (.cond (.t 103) (.ops false [oP 105 (.mv (.t 11)), oP 106 (.slc 1 (.t 105) (.some (cI 1)) Option.none), oP 11 (.mv (.t 106))])
  (.seq (.ops false [oP 108 (.bin .eql (.t 70) (cI 6)), oP 107 (.mv (.t 108))]) (.cond (.t 107) (.ops false [oP 109 (.mv (.t 11)), oP 110 (.iaS 1 (.t 109) (cI 0)), oP 111 (.ld 1 false (.t 110)), oP 112 (.mv (.t 2)), oP 113 (.iaS 2 (.t 111) (cI 0)), oP 114 (.fa 1 (.t 113)), oS (.st 1 (.t 114) (.t 112))]) (.seq (.ops false [oP 116 (.bin .eql (.t 70) (cI 7)), oP 115 (.mv (.t 116))]) (.cond (.t 115)
  (.ops false [oP 117 (.mv (.t 10)), oP 118 (.slc 4 (.t 117) Option.none (.some (cI 1))), oP 10 (.mv (.t 118))]) .skip)))))))))))))))))) (.weak c7_10))
def c7_12 : C := (.seq (.ops false [oP 37 (.mv (.t 0)), oP 38 (.call 11 [(.t 37)]), oP 7 (.mv (.t 38))]) (.seq (.ops false [oP 39 (.mv (.t 7)), oP 40 (.call 39 [(.t 39)]), oP 8 (.new [.mt, .mt, .mt, .mt, (.v (.int .i64 0)), (.v (.int .i64 0))]), oS (.st 6 (.t 8) (.t 40))]) (.seq (.ops false [oP 41 (.mv (.t 7)), oP 42 (.call 29 [(.t 41)]), oP 9 (.mv (.t 42))]) (.seq (.ops false [oP 43 (.mv (.t 7)),
  oP 44 (.mv (.t 9)), oP 45 (.len (.t 44)), oP 46 (.call 30 [(.t 43), (cI 4), (.t 45)]), oP 10 (.mv (.t 46))]) (.seq (.ops false [oP 47 (.mv (.t 7)), oP 48 (.ld 6 true (.t 8)), oP 49 (.call 40 [(.t 47), (.t 48), (cI 4)]), oP 11 (.mv (.t 49))]) (.seq (.ops false [oP 12 (.mv (.c .mt))]) (.seq (.ops false [oP 13 (.mv (.c .mt))]) (.seq (.seq (.ops false [oP 14 (.mv (cI 0))]) (.block 0 (.loop c7_3)))
  (.weak c7_11)))))))))
def c7 : C := (.seq (.ops false [oP 6 (.mv (cB false))]) (.seq (.seq (.ops false [oP 33 (.mv (.t 0)), oB 34 (.call 9 [(.t 33)]), oP 35 (.not (.t 34))]) (.cond (.t 35) (.seq (.ops false [oB 36 (.call 28 []), oP 6 (.mv (.t 36))]) .ret) .skip)) c7_12))
def r7 : List RV := [(.tmp 6)]
theorem c7_ok : ∃ code, Tryd.f7.body = some code ∧ compC Tryd.prog Tryd.f7.ntmps code = some (C.strip c7) := ⟨_, rfl, by kernel_rfl⟩
theorem r7_ok : compRes Tryd.prog Tryd.f7.results.toList = some r7 := by kernel_rfl
theorem mod_e (x n : Int) (hn : InI n) (nn : Nm) : CallsA Tryd.prog 17 [di x, di n] Hp.none nn (Pu (di (modI x n)) Hp.none) := by
  obtain ⟨code, h1, h2⟩ := c17_ok
  refine callsA_of TN_ok mixed (N := fun t => (0, t)) Tryd.func17 h1 h2 r17_ok [] false js_nil js_nil' (by simp [Tryd.f17]) ?_
  simp (maxSteps:=500000) only [↓vp, vv, ↓reduceIte, simprocAttr, c17, r17, r17, TN, selMod, hn, Pu]
theorem tc_mode {T : Tbl} (hT : TblOk Tryd.prog T) : TblOk Tryd.prog (tc 17 (rowPu selMod) T) :=
  tc_pu f17_ok (fun args pre d h hp nn => by
    unfold selMod at h
    split at h <;> cases h
    exact mod_e _ _ hp nn) hT
theorem tc_ne {T : Tbl} (hT : TblOk Tryd.prog T) : TblOk Tryd.prog (tc 14 (rowSrc (selI InI NPost) di) T) :=
  tc_src f14_ok (fun args pre post h hp => by
    unfold selI at h
    split at h <;> cases h
    exact ⟨⟨_, modI_in 0 _⟩, N_c _ hp⟩) hT
def selWe : List D → Option (Prop × (Net → Prop))
  | [.agg r] => match netOf1 r with
    | some n => some (NetOk n, WrOk n)
    | Option.none => Option.none
  | _ => Option.none
theorem wre_self {n : Net} (hn : NetOk n) : WrOk n n := by
  have h1 := hn.nlen
  refine ⟨by omega, rfl, rfl, by omega, fun s hsm => ?_⟩
  obtain ⟨j, a, b, _, _, _, hk, _⟩ := hn.segs.mem hsm
  have := hk.len
  omega
theorem tc_wre {T : Tbl} (hT : TblOk Tryd.prog T) : TblOk Tryd.prog (tc 41 (rowSrc selWe Net.enc) T) :=
  tc_src f41_ok (fun args pre post h hp => by
    unfold selWe at h
    split at h
    · split at h
      · rename_i n hn
        cases h
        rw [netOf1_eq hn]
        exact ⟨⟨_, wre_self hp⟩, Wrong_c n hp⟩
      · cases h
    · cases h) hT
def PmA : Tbl := tc 42 (rowPu selAl) (tc 43 (rowPu selAl) (tc 44 (rowPu selSq) (tc 34 (rowPu selSg) (tc 45 (rowPu selSg) (tc 37 (rowPu selSc) (tc 46 (rowPu selSc) (tc 38 (rowPu selCg) (tc 47 (rowPu selCg) T0))))))))
def PmT : Tbl := tc 9 (rowPu selFe) (tc 28 (rowPu selAw) (tc 11 rowNew (tc 39 (rowSrc (sel0 NetOk) Net.enc) (tc 29 rowPdO (tc 30 rowBtO (tc 40 rowFls (tc 16 (rowSrc (sel0 CndIn) Cnd.enc) (tc 14 (rowSrc (selI InI NPost) di) (tc 17 (rowPu selMod) (tc 41 (rowSrc selWe Net.enc) (tc 18 (rowSrc selOdd Prd.enc) PmA)))))))))))
theorem PmT_ok : TblOk Tryd.prog PmT := tc_fewe (tc_aw33 (tc_new (tc_net (tc_pdO (tc_btO (tc_fls (tc_cond (tc_ne (tc_mode (tc_wre (tc_odd (tc_al (tc_ral (tc_sq (tc_sg (tc_rsg (tc_sc (tc_rsc (tc_cg (tc_rcg (T0_ok _)))))))))))))))))))))
theorem mod12e (x : Int) : 0 ≤ modI x 12 ∧ modI x 12 < 12 := ⟨(modI_in x 12).1, (modI_in x 12).2.1 (by omega)⟩
def PmF6 (sg X old : List Int) : List (Nat × D) := [(13, .sl (sg.map iR)), (17, .sl (X.map iR)), (23, .sl (old.map iR))]
set_option maxHeartbeats 16000000 in
theorem pm_6 (sg X old : List Int) (h1 : sg.length ≤ 1000) (h2 : X.length ≤ 1000000) (h3 : old.length ≤ 1000000) (hi : ∀ n, n ∈ sg → InI n) :
    vc PmT (fun t => (0, t)) [] c7_6 (finQ r7 [] false (Pu (db true) Hp.none)) ⟨fr (PmF6 sg X old), Hp.none⟩ := by
  have s1 : SecPre X sg := ⟨h2, by omega, hi⟩
  have s2 : SecPre old sg := ⟨h3, by omega, hi⟩
  have o1 : Sc2 (X, sg) := s1
  have o2 : Ch3 (old, X, sg) := ⟨s2, s1⟩
  simp (maxSteps:=500000) only [↓vp, vv, ↓reduceIte, simprocAttr, c7_6, r7, PmT, PmA, PmF6, selSc, selCg, selAw, selX, decI2, decI3, intsOf_iR, o1, o2, ie, beq_self_eq_true, Pu]
def PmF7 (odd by' : Int) (sg X old : List Int) (gs go : Nat) : List (Nat × D) := [(1, di odd), (2, di by'), (13, .own (0, 68) gs 0 sg.length), (17, .sl (X.map iR)), (23, .own (0, 186) go 0 old.length)]
def PmH7 (sg old : List Int) (gs go : Nat) : Hp := (Hp.none.put (0, 186) ⟨go, 1, old.map iR⟩).put (0, 68) ⟨gs, 1, sg.map iR⟩
set_option maxHeartbeats 16000000 in
theorem pm_7 (odd by' : Int) (sg X old : List Int) (gs go : Nat) (h1 : sg.length ≤ 100) (h2 : X.length ≤ 1000000) (h3 : old.length ≤ 1000000) (hi : ∀ n, n ∈ sg → InI n) :
    vc PmT (fun t => (0, t)) [] c7_7 (finQ r7 [] false (Pu (db true) Hp.none)) ⟨fr (PmF7 odd by' sg X old gs go), PmH7 sg old gs go⟩ := by
  have hc := mod12e odd
  obtain ⟨c, hcc⟩ : ∃ c, modI odd 12 = c := ⟨_, rfl⟩
  rw [hcc] at hc
  have y1 : (sg.length + 1) * 8 ≤ 140737488355328 := by omega
  have y2 : sg.length + 1 ≤ 4611686018427387904 := by omega
  have fin : ∀ (sg old : List Int) (gs go : Nat) st, sg.length ≤ 1000 → old.length ≤ 1000000 → (∀ n, n ∈ sg → InI n) → Weak [] st ⟨fr (PmF7 odd by' sg X old gs go), PmH7 sg old gs go⟩ → vc PmT (fun t => (0, t)) [] (.weak c7_6) (finQ r7 [] false (Pu (db true) Hp.none)) st := fun sg old gs go st k1 k2 k3 w => by
    have t1 : (sg.map iR).take sg.length = sg.map iR := List.take_of_length_le (by simp)
    have t2 : (old.map iR).take old.length = old.map iR := List.take_of_length_le (by simp)
    refine vc_wk (w.trans (weak_eq [(0, 68), (0, 186)] [] (PmF6 sg X old) (by simp (maxSteps:=500000) only [↓vp, vv, ↓reduceIte, simprocAttr, coverS, PmF7, PmF6, PmH7, t1, t2]; exact ⟨⟨i_pl sg, by simp⟩, ⟨i_pl old, by simp⟩⟩) (by simp (maxSteps:=500000) only [↓vp, vv, ↓reduceIte, simprocAttr, refsF, PmF6]) (by simp (maxSteps:=500000) only [↓vp, vv, ↓reduceIte, simprocAttr, ]) (by simp) (by simp (maxSteps:=500000) only [↓vp, vv, ↓reduceIte, simprocAttr, PmH7]; try rfl))) (pm_6 sg X old k1 h2 k2 k3)
  by_cases c8 : c = 8
  · subst c8
    simp (maxSteps:=500000) only [↓vp, vv, ↓reduceIte, simprocAttr, c7_7, PmT, PmA, selMod, hcc, PmF7, PmH7, y1, y2]
    refine fin (sg ++ [IntKind.i64.wrap (modI by' 40 - 1)]) old (gs + 1) go _ (by simp; omega) h3 (fun n hn => ?_) (weak_eq [] [(0, 68), (0, 186)] (PmF7 odd by' (sg ++ [IntKind.i64.wrap (modI by' 40 - 1)]) X old (gs + 1) go) (by simp (maxSteps:=500000) only [↓vp, vv, ↓reduceIte, simprocAttr, coverS, PmF7, PmH7, iR, List.map_append, List.map_cons, List.map_nil, List.length_append, List.length_cons, List.length_nil]) (by simp (maxSteps:=500000) only [↓vp, vv, ↓reduceIte, simprocAttr, refsF, PmF7, PmH7, iR, List.map_append, List.map_cons, List.map_nil, List.length_append, List.length_cons, List.length_nil]) (by simp (maxSteps:=500000) only [↓vp, vv, ↓reduceIte, simprocAttr, PmF7, PmH7, iR, List.map_append, List.map_cons, List.map_nil, List.length_append, List.length_cons, List.length_nil]) (by simp) (by simp (maxSteps:=500000) only [↓vp, vv, ↓reduceIte, simprocAttr, PmF7, PmH7, iR, List.map_append, List.map_cons, List.map_nil, List.length_append, List.length_cons, List.length_nil]; try rfl))
    rcases List.mem_append.1 hn with hn | hn
    · exact hi n hn
    · have m := modI_in by' 40
      have m2 := m.2.1 (by omega)
      rw [List.mem_singleton.1 hn, wrap_i (by omega)]
      unfold InI
      omega
  have q8 : (c == 8) = false := by rw [beq_eq_false_iff_ne]; exact c8
  by_cases c9 : c = 9
  · subst c9
    cases z : decide ((0 : Int) < (old.length : Int)) with
    | true =>
      have z1 := of_decide_eq_true z
      have z2 : 0 < old.length := by omega
      have st : (old.map iR).set 0 [di by'] = (old.set 0 by').map iR := by rw [List.map_set]; rfl
      have g0 := i_get z2
      simp (maxSteps:=500000) only [↓vp, vv, ↓reduceIte, simprocAttr, c7_7, PmT, PmA, selMod, hcc, PmF7, PmH7, z, z1, z2, g0]
      exact fin sg (old.set 0 by') gs go _ (by omega) (by simp; exact h3) hi (weak_eq [] [(0, 68), (0, 186)] (PmF7 odd by' sg X (old.set 0 by') gs go) (by simp (maxSteps:=500000) only [↓vp, vv, ↓reduceIte, simprocAttr, coverS, PmF7, PmH7, iR, st, List.length_set]) (by simp (maxSteps:=500000) only [↓vp, vv, ↓reduceIte, simprocAttr, refsF, PmF7, PmH7, iR, st, List.length_set]) (by simp (maxSteps:=500000) only [↓vp, vv, ↓reduceIte, simprocAttr, PmF7, PmH7, iR, st, List.length_set]) (by simp) (by simp (maxSteps:=500000) only [↓vp, vv, ↓reduceIte, simprocAttr, PmF7, PmH7, iR, st, List.length_set]; try rfl))
    | false =>
      simp (maxSteps:=500000) only [↓vp, vv, ↓reduceIte, simprocAttr, c7_7, PmT, PmA, selMod, hcc, PmF7, PmH7, z]
      exact fin sg old gs go _ (by omega) h3 hi (weak_eq [] [(0, 68), (0, 186)] (PmF7 odd by' sg X old gs go) (by simp (maxSteps:=500000) only [↓vp, vv, ↓reduceIte, simprocAttr, coverS, PmF7, PmH7, iR]) (by simp (maxSteps:=500000) only [↓vp, vv, ↓reduceIte, simprocAttr, refsF, PmF7, PmH7, iR]) (by simp (maxSteps:=500000) only [↓vp, vv, ↓reduceIte, simprocAttr, PmF7, PmH7, iR]) (by simp) (by simp (maxSteps:=500000) only [↓vp, vv, ↓reduceIte, simprocAttr, PmF7, PmH7, iR]; try rfl))
  have q9 : (c == 9) = false := by rw [beq_eq_false_iff_ne]; exact c9
  simp (maxSteps:=500000) only [↓vp, vv, ↓reduceIte, simprocAttr, c7_7, PmT, PmA, selMod, hcc, PmF7, PmH7, q8, q9]
  exact fin sg old gs go _ (by omega) h3 hi (weak_eq [] [(0, 68), (0, 186)] (PmF7 odd by' sg X old gs go) (by simp (maxSteps:=500000) only [↓vp, vv, ↓reduceIte, simprocAttr, coverS, PmF7, PmH7, iR]) (by simp (maxSteps:=500000) only [↓vp, vv, ↓reduceIte, simprocAttr, refsF, PmF7, PmH7, iR]) (by simp (maxSteps:=500000) only [↓vp, vv, ↓reduceIte, simprocAttr, PmF7, PmH7, iR]) (by simp) (by simp (maxSteps:=500000) only [↓vp, vv, ↓reduceIte, simprocAttr, PmF7, PmH7, iR]; try rfl))
def PmF8 (odd by' : Int) (sg X : List Int) (gs : Nat) (e : List (Nat × D)) : List (Nat × D) := (1, di odd) :: (2, di by') :: (7, .ptr (0, 38) 0 0 0) :: (13, .own (0, 68) gs 0 sg.length) :: (17, .sl (X.map iR)) :: e
def PmH8 (sg : List Int) (gs : Nat) (L : List (List D)) (at' : Int) : Hp := (Hp.none.put (0, 68) ⟨gs, 1, sg.map iR⟩).put (0, 38) (sE L at')
def PmHo (sg old : List Int) (gs go : Nat) (L : List (List D)) (at' : Int) : Hp := ((Hp.none.put (0, 186) ⟨go, 1, old.map iR⟩).put (0, 68) ⟨gs, 1, sg.map iR⟩).put (0, 38) (sE L at')
set_option maxHeartbeats 16000000 in
theorem pm_8 (odd by' : Int) (sg X : List Int) (gs : Nat) (L : List (List D)) (at' : Int) (ho : SrcOk L at') (h1 : sg.length ≤ 100) (h2 : X.length ≤ 1000000) (hi : ∀ n, n ∈ sg → InI n) :
    vc PmT (fun t => (0, t)) [] c7_8 (finQ r7 [] false (Pu (db true) Hp.none)) ⟨fr (PmF8 odd by' sg X gs []), PmH8 sg gs L at'⟩ := by
  have y1 : X.length * 8 ≤ 140737488355328 := by omega
  have y2 : X.length ≤ 4611686018427387904 := by omega
  have i20 : InI 20 := by unfold InI; decide
  simp (maxSteps:=500000) only [↓vp, vv, ↓reduceIte, simprocAttr, c7_8, PmT, PmA, PmF8, PmH8, y1, y2, Nat.zero_add]
  refine ⟨fun j _ => rfl, ?_⟩
  refine rng_loopP X.length (fun j (u : SA L × List Int) => ⟨fr (PmF8 odd by' sg X gs [(23, .own (0, 186) 1 0 X.length), (24, di (j : Nat))]), PmHo sg u.2 gs 1 L u.1.1⟩) (fun _ u => u.2.length = X.length) (u0 := (⟨at', ho⟩, X)) (weak_eq [] [(0, 38), (0, 68), (0, 186)] (PmF8 odd by' sg X gs [(23, .own (0, 186) 1 0 X.length), (24, di 0)]) (by simp (maxSteps:=500000) only [↓vp, vv, ↓reduceIte, simprocAttr, coverS, PmF8, PmH8, PmHo, sE, iR]) (by simp (maxSteps:=500000) only [↓vp, vv, ↓reduceIte, simprocAttr, refsF, PmF8, PmH8, PmHo, sE, iR]) (by simp (maxSteps:=500000) only [↓vp, vv, ↓reduceIte, simprocAttr, PmF8, PmH8, PmHo, sE, iR]) (by simp) (by simp (maxSteps:=500000) only [↓vp, vv, ↓reduceIte, simprocAttr, PmF8, PmH8, PmHo, sE, iR]; try rfl)) rfl (fun j hj u hP => ?_) (fun u hP => ?_)
  · obtain ⟨a, old⟩ := u
    dsimp only at hP
    have oa := a.2
    have hj' : (j : Int) < X.length := by omega
    have hjo : j < old.length := by omega
    have w1 := idx_next (j := j) (by omega)
    have g1 := i_get hjo
    have st : ∀ v : Int, (old.map iR).set j [di v] = (old.set j v).map iR := fun v => by rw [List.map_set]; rfl
    generalize iA old j = o at g1
    simp (maxSteps:=500000) only [↓vp, vv, ↓reduceIte, simprocAttr, c7_5, c7_4, c7_3, PmT, PmA, PmF8, PmHo, selI, i20, oa, hj, hj', hjo, g1, Int.toNat_natCast, idx_nn]
    intro a2 x hx
    obtain ⟨v, hv⟩ : ∃ v, (if 0 < IntKind.i64.wrap (IntKind.i64.wrap (o + x) - 10) then IntKind.i64.wrap (IntKind.i64.wrap (o + x) - 10) else 0) = v := ⟨_, rfl⟩
    have nx : (old.set j v).length = X.length := by rw [List.length_set]; exact hP
    refine rng_nextP hj (a2, old.set j v) ?_ nx
    exact (weak_eq [] [(0, 38), (0, 68), (0, 186)] (PmF8 odd by' sg X gs [(23, .own (0, 186) 1 0 X.length), (24, di ((j + 1 : Nat) : Int))]) (by simp (maxSteps:=500000) only [↓vp, vv, ↓reduceIte, simprocAttr, coverS, PmF8, PmHo, sE, iR, st, hv, w1]) (by simp (maxSteps:=500000) only [↓vp, vv, ↓reduceIte, simprocAttr, refsF, PmF8, PmHo, sE, iR, st, hv, w1]) (by simp (maxSteps:=500000) only [↓vp, vv, ↓reduceIte, simprocAttr, PmF8, PmHo, sE, iR, st, hv, w1]) (by simp) (by simp (maxSteps:=500000) only [↓vp, vv, ↓reduceIte, simprocAttr, PmF8, PmHo, sE, iR, st, hv, w1]; try rfl))
  · obtain ⟨a, old⟩ := u
    dsimp only at hP
    have nx := pm_7 odd by' sg X old gs 1 h1 h2 (by omega) hi
    have e : PmF7 odd by' sg X old gs 1 = [(1, di odd), (2, di by'), (13, .own (0, 68) gs 0 sg.length), (17, .sl (X.map iR)), (23, .own (0, 186) 1 0 X.length)] := by unfold PmF7; rw [hP]
    rw [e] at nx
    simp (maxSteps:=500000) only [↓vp, vv, ↓reduceIte, simprocAttr, c7_5, c7_4, c7_3, PmT, PmA, PmF8, PmHo, Int.lt_irrefl]
    exact vc_wk (weak_eq [] [(0, 68), (0, 186)] [(1, di odd), (2, di by'), (13, .own (0, 68) gs 0 sg.length), (17, .sl (X.map iR)), (23, .own (0, 186) 1 0 X.length)] (by simp (maxSteps:=500000) only [↓vp, vv, ↓reduceIte, simprocAttr, coverS, PmF8, PmHo, PmH7, iR]) (by simp (maxSteps:=500000) only [↓vp, vv, ↓reduceIte, simprocAttr, refsF, PmF8, PmHo, PmH7, iR]) (by simp (maxSteps:=500000) only [↓vp, vv, ↓reduceIte, simprocAttr, PmF8, PmHo, PmH7, iR]) (by simp) (by simp (maxSteps:=500000) only [↓vp, vv, ↓reduceIte, simprocAttr, PmF8, PmHo, PmH7, iR]; try rfl)) nx
def PmFa (odd by' : Int) (ps : List Prd) (bs : List Bat) (fs : List (List Pce)) (cs : List Cnd) (sg : List Int) (gs : Nat) : List (Nat × D) := [(1, di odd), (2, di by'), (7, .ptr (0, 38) 0 0 0), (8, .ptr (0, 8) 0 0 0), (9, .sl (ps.map Prd.row)), (10, .sl (bs.map Bat.row)), (11, .sl (fs.map fR)), (12, .sl (cs.map Cnd.row)), (13, .own (0, 68) gs 0 sg.length)]
def PmHa (n : Net) (sg : List Int) (gs : Nat) (L : List (List D)) (at' : Int) : Hp := ((Hp.none.put (0, 68) ⟨gs, 1, sg.map iR⟩).put (0, 8) ⟨0, 6, [netD n]⟩).put (0, 38) (sE L at')
theorem allGo_len (ps : List Prd) (bs : List Bat) (l : List Cnd) : ∀ (fs : List (List Pce)) (i : Nat) (out : List Int), (allGo ps bs l fs i out).1.length ≤ out.length + fs.length
  | [], i, out => by rw [allGo]; simp
  | f :: fs, i, out => by
    rw [allGo]
    split
    · have := allGo_len ps bs l fs (i + 1) (out ++ [(segI ps bs f (cdA l i)).1])
      simp only [List.length_append, List.length_cons, List.length_nil] at this ⊢
      omega
    · simp
theorem allI_len (n : Net) (ps : List Prd) (bs : List Bat) (fs : List (List Pce)) (l : List Cnd) : (allI n ps bs fs l).1.length ≤ fs.length := by
  unfold allI
  split
  · split
    · split
      · have := allGo_len ps bs l fs 0 []
        simpa using this
      · simp
    · simp
  · simp
structure PmOk (n : Net) (ps : List Prd) (bs : List Bat) (fs : List (List Pce)) (cs : List Cnd) : Prop where
  nz : NetSz n
  hp : ps.length ≤ 100
  hb : bs.length ≤ 100
  hf : fs.length ≤ 100
  hl : cs.length ≤ 100
  ha : ∀ f, f ∈ fs → f.length ≤ 100
set_option maxHeartbeats 16000000 in
theorem pm_10 (odd by' : Int) (n : Net) (ps : List Prd) (bs : List Bat) (fs : List (List Pce)) (cs : List Cnd) (sg : List Int) (gs : Nat) (L : List (List D)) (at' : Int) (ho : SrcOk L at') (hk : PmOk n ps bs fs cs) (h1 : sg.length ≤ 100) (hi : ∀ n, n ∈ sg → InI n) :
    vc PmT (fun t => (0, t)) [] c7_10 (finQ r7 [] false (Pu (db true) Hp.none)) ⟨fr (PmFa odd by' ps bs fs cs sg gs), PmHa n sg gs L at'⟩ := by
  have hn1 := netOf1_x n
  have b1 := hk.hp
  have b2 := hk.hb
  have b3 := hk.hf
  have b4 := hk.hl
  have ok : AlOk ⟨n, ps, bs, fs, cs⟩ := ⟨hk.nz, by dsimp only; omega, by dsimp only; omega, by dsimp only; omega, by dsimp only; omega, fun f hf => by have := hk.ha f hf; omega⟩
  have hlen := allI_len n ps bs fs cs
  obtain ⟨X, e, hX⟩ : ∃ X e, allI n ps bs fs cs = (X, e) := ⟨_, _, rfl⟩
  rw [hX] at hlen
  dsimp only at hlen
  have okX : X.length ≤ 1000000 := by omega
  have fin := pm_8 odd by' sg X gs L at' ho h1 okX hi
  cases c1 : decide ((0 : Int) < (fs.length : Int)) with
  | false =>
    simp (maxSteps:=500000) only [↓vp, vv, ↓reduceIte, simprocAttr, c7_10, c7_9, PmT, PmA, PmFa, PmHa, netD, selAl, selSq, selX, decAl, hn1, prdsOf_map, btsOf_map, fsOf_map, cndsOf_map, ok, hX, reA, intsOf_iR, okX, bne_self_eq_false, Bool.not_true, c1]
    exact vc_wk (weak_eq [] [(0, 38), (0, 68)] (PmF8 odd by' sg X gs []) (by simp (maxSteps:=500000) only [↓vp, vv, ↓reduceIte, simprocAttr, coverS, PmFa, PmHa, PmF8, PmH8, sE, iR]) (by simp (maxSteps:=500000) only [↓vp, vv, ↓reduceIte, simprocAttr, refsF, PmFa, PmHa, PmF8, PmH8, sE, iR]) (by simp (maxSteps:=500000) only [↓vp, vv, ↓reduceIte, simprocAttr, PmFa, PmHa, PmF8, PmH8, sE, iR]) (by simp) (by simp (maxSteps:=500000) only [↓vp, vv, ↓reduceIte, simprocAttr, PmFa, PmHa, PmF8, PmH8, sE, iR]; try rfl)) fin
  | true =>
  cases c2 : decide ((0 : Int) < (cs.length : Int)) with
  | false =>
    simp (maxSteps:=500000) only [↓vp, vv, ↓reduceIte, simprocAttr, c7_10, c7_9, PmT, PmA, PmFa, PmHa, netD, selAl, selSq, selX, decAl, hn1, prdsOf_map, btsOf_map, fsOf_map, cndsOf_map, ok, hX, reA, intsOf_iR, okX, bne_self_eq_false, Bool.not_true, c1, c2]
    exact vc_wk (weak_eq [] [(0, 38), (0, 68)] (PmF8 odd by' sg X gs []) (by simp (maxSteps:=500000) only [↓vp, vv, ↓reduceIte, simprocAttr, coverS, PmFa, PmHa, PmF8, PmH8, sE, iR]) (by simp (maxSteps:=500000) only [↓vp, vv, ↓reduceIte, simprocAttr, refsF, PmFa, PmHa, PmF8, PmH8, sE, iR]) (by simp (maxSteps:=500000) only [↓vp, vv, ↓reduceIte, simprocAttr, PmFa, PmHa, PmF8, PmH8, sE, iR]) (by simp) (by simp (maxSteps:=500000) only [↓vp, vv, ↓reduceIte, simprocAttr, PmFa, PmHa, PmF8, PmH8, sE, iR]; try rfl)) fin
  | true =>
    have z1 := of_decide_eq_true c1
    have z2 := of_decide_eq_true c2
    have z3 : 0 < fs.length := by omega
    have z4 : 0 < cs.length := by omega
    have g1 := f_get z3
    have g2 := cd_get z4
    have hf : fA fs 0 ∈ fs := by rw [← f_at z3]; exact List.getElem_mem z3
    have okS : SgOk ⟨ps, bs, fA fs 0, cdA cs 0⟩ := ⟨by dsimp only; omega, by dsimp only; omega, by have := hk.ha _ hf; dsimp only; omega⟩
    generalize fA fs 0 = f at g1 okS
    generalize cdA cs 0 = c at g2 okS
    have dc : cndOf [di c.te, di c.pr] = some c := rfl
    simp (maxSteps:=500000) only [↓vp, vv, ↓reduceIte, simprocAttr, c7_10, c7_9, PmT, PmA, PmFa, PmHa, netD, selAl, selSq, selSg, selX, decAl, decSg, hn1, prdsOf_map, btsOf_map, fsOf_map, cndsOf_map, pcsOf_map, dc, ok, okS, hX, reA, ie, intsOf_iR, okX, bne_self_eq_false, Bool.not_true, c1, c2, z1, z2, z3, z4, g1, g2]
    exact vc_wk (weak_eq [] [(0, 38), (0, 68)] (PmF8 odd by' sg X gs []) (by simp (maxSteps:=500000) only [↓vp, vv, ↓reduceIte, simprocAttr, coverS, PmFa, PmHa, PmF8, PmH8, sE, iR]) (by simp (maxSteps:=500000) only [↓vp, vv, ↓reduceIte, simprocAttr, refsF, PmFa, PmHa, PmF8, PmH8, sE, iR]) (by simp (maxSteps:=500000) only [↓vp, vv, ↓reduceIte, simprocAttr, PmFa, PmHa, PmF8, PmH8, sE, iR]) (by simp) (by simp (maxSteps:=500000) only [↓vp, vv, ↓reduceIte, simprocAttr, PmFa, PmHa, PmF8, PmH8, sE, iR]; try rfl)) fin
def PmFo (odd by' : Int) (g1 n1 g2 n2 g3 o3 n3 g4 o4 n4 gs ns : Nat) : List (Nat × D) := [(1, di odd), (2, di by'), (7, .ptr (0, 38) 0 0 0), (8, .ptr (0, 8) 0 0 0), (9, .own (0, 42) g1 0 n1), (10, .own (0, 46) g2 0 n2), (11, .own (0, 49) g3 o3 n3), (12, .own (0, 61) g4 o4 n4), (13, .own (0, 68) gs 0 ns)]
structure PmD where
  n : Net
  ps : List Prd
  bs : List Bat
  f0 : List Pce
  rest : List (List Pce)
  cs : List Cnd
  sg : List Int
structure PmG where
  g1 : Nat
  g2 : Nat
  g3 : Nat
  g4 : Nat
  g5 : Nat
  gs : Nat
def PmW (d : PmD) (g : PmG) (L : List (List D)) (at' : Int) : List (Nm × En) := [((0, 38), sE L at'), ((0, 8), ⟨0, 6, [netD d.n]⟩), ((0, 42), ⟨g.g1, 5, d.ps.map Prd.row⟩), ((0, 46), ⟨g.g2, 4, d.bs.map Bat.row⟩), ((0, 49), ⟨g.g3, 1, [.own (0, 5049) g.g5 0 d.f0.length] :: d.rest.map fR⟩), ((0, 61), ⟨g.g4, 2, d.cs.map Cnd.row⟩), ((0, 68), ⟨g.gs, 1, d.sg.map iR⟩), ((0, 5049), ⟨g.g5, 2, d.f0.map Pce.row⟩)]
def PmV (d : PmD) (g : PmG) (L : List (List D)) (at' : Int) : Hp := ((((((Hp.none.put (0, 68) ⟨g.gs, 1, d.sg.map iR⟩).put (0, 61) ⟨g.g4, 2, d.cs.map Cnd.row⟩).put (0, 49) ⟨g.g3, 1, (d.f0 :: d.rest).map fR⟩).put (0, 46) ⟨g.g2, 4, d.bs.map Bat.row⟩).put (0, 42) ⟨g.g1, 5, d.ps.map Prd.row⟩).put (0, 8) ⟨0, 6, [netD d.n]⟩).put (0, 38) (sE L at')
theorem prd_v (x : Prd) : rowV x.row = true := rfl
theorem bat_v (x : Bat) : rowV x.row = true := rfl
theorem cnd_v (x : Cnd) : rowV x.row = true := rfl
theorem i_v (x : Int) : rowV (iR x) = true := rfl
set_option maxHeartbeats 8000000 in
theorem pm_fz (d : PmD) (g : PmG) (L : List (List D)) (at' : Int) (odd by' : Int) (n1 n2 o3 n3 o4 n4 ns : Nat) : Weak [] ⟨fr (PmFo odd by' g.g1 n1 g.g2 n2 g.g3 o3 n3 g.g4 o4 n4 g.gs ns), hp (PmW d g L at')⟩ ⟨fr (PmFo odd by' g.g1 n1 g.g2 n2 g.g3 o3 n3 g.g4 o4 n4 g.gs ns), PmV d g L at'⟩ := by
  have ra := fun ks H => rows_ok fR fR_v ks H d.rest
  have ra2 := fun ks H => rows_ok Prd.row prd_v ks H d.ps
  have ra3 := fun ks H => rows_ok Bat.row bat_v ks H d.bs
  have ra4 := fun ks H => rows_ok Cnd.row cnd_v ks H d.cs
  have ra5 := fun ks H => rows_ok iR i_v ks H d.sg
  have rb := fun ks H => rows_ok Pce.row pce_v ks H d.f0
  have rc := fun ks H => rows_fz fR fR_v ks H d.rest
  have rc2 := fun ks H => rows_fz Prd.row prd_v ks H d.ps
  have rc3 := fun ks H => rows_fz Bat.row bat_v ks H d.bs
  have rc4 := fun ks H => rows_fz Cnd.row cnd_v ks H d.cs
  have rc5 := fun ks H => rows_fz iR i_v ks H d.sg
  have rd := fun ks H => rows_fz Pce.row pce_v ks H d.f0
  have re := rows_pl Pce.row pce_v d.f0
  have t3 : (d.f0.map Pce.row).take d.f0.length = d.f0.map Pce.row := List.take_of_length_le (by simp)
  have rf : (d.f0 :: d.rest).map fR = [.sl (d.f0.map Pce.row)] :: d.rest.map fR := rfl
  have rg1 : ∀ js, (∀ j ∈ d.rest, refsInL js (fR j) = true) = True := fun js => eq_true fun j _ => rfl
  have rg2 : ∀ js, (∀ j ∈ d.ps, refsInL js (Prd.row j) = true) = True := fun js => eq_true fun j _ => rfl
  have rg3 : ∀ js, (∀ j ∈ d.bs, refsInL js (Bat.row j) = true) = True := fun js => eq_true fun j _ => rfl
  have rg4 : ∀ js, (∀ j ∈ d.cs, refsInL js (Cnd.row j) = true) = True := fun js => eq_true fun j _ => rfl
  have rg5 : ∀ js, (∀ j ∈ d.sg, refsInL js (iR j) = true) = True := fun js => eq_true fun j _ => rfl
  exact (Weak.refl [] _).trans (weak_fz [(0, 5049)] [(0, 38), (0, 8), (0, 42), (0, 46), (0, 49), (0, 61), (0, 68)] (l := (PmFo odd by' g.g1 n1 g.g2 n2 g.g3 o3 n3 g.g4 o4 n4 g.gs ns)) (h := (PmW d g L at')) (l' := (PmFo odd by' g.g1 n1 g.g2 n2 g.g3 o3 n3 g.g4 o4 n4 g.gs ns)) (H' := (PmV d g L at')) (by simp (maxSteps:=500000) only [↓vp, vv, ↓reduceIte, simprocAttr, vz, listB, okKd, okK, lendKd, lendK, lendOk1B, frzF, Option.map_some, cond_true, cond_false, decide_true, decide_false, Bool.and_self, PmW, PmFo, PmV, sE, netD, ra, ra2, ra3, ra4, ra5, rb, rc, rc2, rc3, rc4, rc5, rd, re, rf, rg1, rg2, rg3, rg4, rg5, t3, List.map_cons, List.map_nil]) (by simp (maxSteps:=500000) only [↓vp, vv, ↓reduceIte, simprocAttr, vz, listB, okKd, okK, lendKd, lendK, lendOk1B, frzF, Option.map_some, cond_true, cond_false, decide_true, decide_false, Bool.and_self, PmW, PmFo, PmV, sE, netD, ra, ra2, ra3, ra4, ra5, rb, rc, rc2, rc3, rc4, rc5, rd, re, rf, rg1, rg2, rg3, rg4, rg5, t3, List.map_cons, List.map_nil]) (by simp (maxSteps:=500000) only [↓vp, vv, ↓reduceIte, simprocAttr, vz, listB, okKd, okK, lendKd, lendK, lendOk1B, frzF, Option.map_some, cond_true, cond_false, decide_true, decide_false, Bool.and_self, PmW, PmFo, PmV, sE, netD, ra, ra2, ra3, ra4, ra5, rb, rc, rc2, rc3, rc4, rc5, rd, re, rf, rg1, rg2, rg3, rg4, rg5, t3, List.map_cons, List.map_nil]; try rfl) (by simp (maxSteps:=500000) only [↓vp, vv, ↓reduceIte, simprocAttr, vz, listB, okKd, okK, lendKd, lendK, lendOk1B, frzF, Option.map_some, cond_true, cond_false, decide_true, decide_false, Bool.and_self, PmW, PmFo, PmV, sE, netD, ra, ra2, ra3, ra4, ra5, rb, rc, rc2, rc3, rc4, rc5, rd, re, rf, rg1, rg2, rg3, rg4, rg5, t3, List.map_cons, List.map_nil]; try rfl) (by simp (maxSteps:=500000) only [↓vp, vv, ↓reduceIte, simprocAttr, vz, listB, okKd, okK, lendKd, lendK, lendOk1B, frzF, Option.map_some, cond_true, cond_false, decide_true, decide_false, Bool.and_self, refsF, PmW, PmFo, PmV, sE, netD, ra, ra2, ra3, ra4, ra5, rb, rc, rc2, rc3, rc4, rc5, rd, re, rf, rg1, rg2, rg3, rg4, rg5, t3, List.map_cons, List.map_nil]) (by simp (maxSteps:=500000) only [↓vp, vv, ↓reduceIte, simprocAttr, vz, listB, okKd, okK, lendKd, lendK, lendOk1B, frzF, Option.map_some, cond_true, cond_false, decide_true, decide_false, Bool.and_self, PmW, PmFo, PmV, sE, netD, ra, ra2, ra3, ra4, ra5, rb, rc, rc2, rc3, rc4, rc5, rd, re, rf, rg1, rg2, rg3, rg4, rg5, t3, List.map_cons, List.map_nil]) (by simp))
theorem fR_pl (x : List Pce) : ∀ d : D, d ∈ fR x → d.plain = true := fun d hd => by
  unfold fR at hd
  rw [List.mem_singleton.1 hd]
  rfl
theorem cnd_ple (l : List Cnd) : ∀ j : Cnd, j ∈ l → ∀ d : D, d ∈ j.row → d.plain = true := fun j _ d hd => by
  simp only [Cnd.row, List.mem_cons, List.not_mem_nil, or_false] at hd
  rcases hd with rfl | rfl <;> rfl
set_option maxHeartbeats 8000000 in
theorem pm_sl (d : PmD) (g : PmG) (L : List (List D)) (at' : Int) (odd by' : Int) (n2 o3 n3 o4 n4 : Nat) (bs : List Bat) (fs : List (List Pce)) (cs : List Cnd)
    (h2 : (d.bs.map Bat.row).take n2 = bs.map Bat.row) (k2 : n2 ≤ d.bs.length) (h3 : (((d.f0 :: d.rest).map fR).drop o3).take n3 = fs.map fR) (k3 : o3 + n3 ≤ d.rest.length + 1) (h4 : ((d.cs.map Cnd.row).drop o4).take n4 = cs.map Cnd.row) (k4 : o4 + n4 ≤ d.cs.length) :
    Weak [] ⟨fr (PmFo odd by' g.g1 d.ps.length g.g2 n2 g.g3 o3 n3 g.g4 o4 n4 g.gs d.sg.length), PmV d g L at'⟩ ⟨fr (PmFa odd by' d.ps bs fs cs d.sg g.gs), PmHa d.n d.sg g.gs L at'⟩ := by
  have t1 : (d.ps.map Prd.row).take d.ps.length = d.ps.map Prd.row := List.take_of_length_le (by simp)
  have rg5 : ∀ js, (∀ j ∈ d.sg, refsInL js (iR j) = true) = True := fun js => eq_true fun j _ => rfl
  refine (weak_eq [(0, 42), (0, 46), (0, 49), (0, 61)] [(0, 38), (0, 8), (0, 68)] (PmFa odd by' d.ps bs fs cs d.sg g.gs) (by simp (maxSteps:=500000) only [↓vp, vv, ↓reduceIte, simprocAttr, coverS, PmFo, PmFa, PmV, t1, h2, h3, h4]; exact ⟨⟨prd_pl _, by simp⟩, ⟨⟨bat_pl _, k2⟩, by simp⟩, ⟨by rw [← h3]; rfl, ⟨⟨fR_pl d.f0, fun j _ => fR_pl j⟩, k3⟩, by simp⟩, ⟨cnd_ple _, k4⟩, by simp⟩) (by simp (maxSteps:=500000) only [↓vp, vv, ↓reduceIte, simprocAttr, refsF, PmFa]) (by simp (maxSteps:=500000) only [↓vp, vv, ↓reduceIte, simprocAttr, PmV, sE, netD, rg5]) (by simp) (by simp (maxSteps:=500000) only [↓vp, vv, ↓reduceIte, simprocAttr, PmV, PmHa, sE, netD]; try rfl))
theorem wr_sze {n n' : Net} (hn : NetOk n) (h : WrOk n n') : NetSz n' := by
  have h1 := hn.slen
  have h2 := hn.nlen
  have h3 := hn.ports.len
  have h4 := hn.sts.len
  have h5 := h.nodes
  have h6 := h.segs
  have h7 := h.ports
  have h8 := h.sts
  refine ⟨by omega, by omega, by omega, by omega, fun s hs => ?_⟩
  have := h.pts s hs
  omega
def PmU (d : PmD) (g : PmG) (L : List (List D)) (at' : Int) : Hp := (((((((Hp.none.put (0, 5049) ⟨g.g5, 2, d.f0.map Pce.row⟩).put (0, 68) ⟨g.gs, 1, d.sg.map iR⟩).put (0, 61) ⟨g.g4, 2, d.cs.map Cnd.row⟩).put (0, 49) ⟨g.g3, 1, [.own (0, 5049) g.g5 0 d.f0.length] :: d.rest.map fR⟩).put (0, 46) ⟨g.g2, 4, d.bs.map Bat.row⟩).put (0, 42) ⟨g.g1, 5, d.ps.map Prd.row⟩).put (0, 8) ⟨0, 6, [netD d.n]⟩).put (0, 38) (sE L at')
structure PmS (d : PmD) : Prop where
  ps : 1 ≤ d.ps.length ∧ d.ps.length ≤ 10
  bs : 1 ≤ d.bs.length ∧ d.bs.length ≤ 10
  f0 : 1 ≤ d.f0.length ∧ d.f0.length ≤ 20
  rl : d.rest.length ≤ 20
  rf : ∀ f, f ∈ d.rest → f.length ≤ 20
  cs : 1 ≤ d.cs.length ∧ d.cs.length ≤ 20
  sl : d.sg.length ≤ 20
  si : ∀ n, n ∈ d.sg → InI n
set_option maxHeartbeats 16000000 in
theorem pm_11 (odd by' : Int) (d : PmD) (g : PmG) (L : List (List D)) (at' : Int) (ho : SrcOk L at') (hs : PmS d) (hn : NetOk d.n) :
    vc PmT (fun t => (0, t)) [] c7_11 (finQ r7 [] false (Pu (db true) Hp.none)) ⟨fr (PmFo odd by' g.g1 d.ps.length g.g2 d.bs.length g.g3 0 (d.rest.length + 1) g.g4 0 d.cs.length g.gs d.sg.length), PmU d g L at'⟩ := by
  have hc := mod12e odd
  obtain ⟨c, hcc⟩ : ∃ c, modI odd 12 = c := ⟨_, rfl⟩
  rw [hcc] at hc
  obtain ⟨n, ps, bs, f0, rest, cs, sg⟩ := d
  obtain ⟨hps, hbs, hf0, hrl, hrf, hcs, hsl, hsi⟩ := hs
  dsimp only at hps hbs hf0 hrl hrf hcs hsl hsi hn ⊢
  have hn1 := netOf1_x n
  have nz : NetSz n := wr_sze hn (wre_self hn)
  have rg1 : ∀ (l : List (List Pce)) js, (∀ j ∈ l, refsInL js (fR j) = true) = True := fun l js => eq_true fun j _ => rfl
  have rg2 : ∀ (l : List Prd) js, (∀ j ∈ l, refsInL js (Prd.row j) = true) = True := fun l js => eq_true fun j _ => rfl
  have rg3 : ∀ (l : List Bat) js, (∀ j ∈ l, refsInL js (Bat.row j) = true) = True := fun l js => eq_true fun j _ => rfl
  have rg4 : ∀ (l : List Cnd) js, (∀ j ∈ l, refsInL js (Cnd.row j) = true) = True := fun l js => eq_true fun j _ => rfl
  have rg5 : ∀ (l : List Int) js, (∀ j ∈ l, refsInL js (iR j) = true) = True := fun l js => eq_true fun j _ => rfl
  have rg6 : ∀ (l : List Pce) js, (∀ j ∈ l, refsInL js (Pce.row j) = true) = True := fun l js => eq_true fun j _ => rfl
  have tb : ∀ l : List Bat, (l.map Bat.row).take l.length = l.map Bat.row := fun l => List.take_of_length_le (by simp)
  have tf : ∀ l : List (List Pce), ((l.map fR).drop 0).take l.length = l.map fR := fun l => by rw [List.drop_zero]; exact List.take_of_length_le (by simp)
  have tcd : ∀ l : List Cnd, ((l.map Cnd.row).drop 0).take l.length = l.map Cnd.row := fun l => by rw [List.drop_zero]; exact List.take_of_length_le (by simp)
  have fin : ∀ (d : PmD) (n2 o3 n3 o4 n4 : Nat) (bs : List Bat) (fs : List (List Pce)) (cs : List Cnd) (at' : Int) st, SrcOk L at' → d.sg = sg → PmOk d.n d.ps bs fs cs → (d.bs.map Bat.row).take n2 = bs.map Bat.row → n2 ≤ d.bs.length → (((d.f0 :: d.rest).map fR).drop o3).take n3 = fs.map fR → o3 + n3 ≤ d.rest.length + 1 → ((d.cs.map Cnd.row).drop o4).take n4 = cs.map Cnd.row → o4 + n4 ≤ d.cs.length →
      Weak [] st ⟨fr (PmFo odd by' g.g1 d.ps.length g.g2 n2 g.g3 o3 n3 g.g4 o4 n4 g.gs d.sg.length), hp (PmW d g L at')⟩ → vc PmT (fun t => (0, t)) [] (.weak c7_10) (finQ r7 [] false (Pu (db true) Hp.none)) st := fun d n2 o3 n3 o4 n4 bs fs cs at' st oo e ok h2 k2 h3 k3 h4 k4 w =>
    vc_wk ((w.trans (pm_fz d g L at' odd by' d.ps.length n2 o3 n3 o4 n4 d.sg.length)).trans (pm_sl d g L at' odd by' n2 o3 n3 o4 n4 bs fs cs h2 k2 h3 k3 h4 k4)) (pm_10 odd by' d.n d.ps bs fs cs d.sg g.gs L at' oo ok (by rw [e]; omega) (by rw [e]; exact hsi))
  have pok : ∀ (n : Net) (ps : List Prd) (bs : List Bat) (fs : List (List Pce)) (cs : List Cnd), NetSz n → ps.length ≤ 10 → bs.length ≤ 10 → fs.length ≤ 21 → cs.length ≤ 20 → (∀ f, f ∈ fs → f.length ≤ 20) → PmOk n ps bs fs cs := fun n ps bs fs cs a b c d e f => ⟨a, by omega, by omega, by omega, by omega, fun x hx => by have := f x hx; omega⟩
  have hfa : ∀ f, f ∈ f0 :: rest → f.length ≤ 20 := fun f hf => by
    rcases List.mem_cons.1 hf with rfl | hf
    · exact hf0.2
    · exact hrf f hf
  have z1 : 0 < ps.length := by omega
  have z1' : (0 : Int) < ps.length := by omega
  have z2 : 0 < bs.length := by omega
  have z2' : (0 : Int) < bs.length := by omega
  have z3 : 0 < cs.length := by omega
  have z3' : (0 : Int) < cs.length := by omega
  have z4 : 0 < f0.length := by omega
  have z4' : (0 : Int) < f0.length := by omega
  have z5 : 0 < rest.length + 1 := by omega
  have z5' : (0 : Int) < ((rest.length + 1 : Nat) : Int) := by omega
  have gp := pd_get z1
  have gb := bt_get z2
  have gc := cd_get z3
  have gf := pc_get z4
  generalize pdA ps 0 = p0 at gp
  generalize btA bs 0 = b0 at gb
  generalize cdA cs 0 = c0 at gc
  generalize pcA f0 0 = y0p at gf
  have sp : ∀ q : Prd, (ps.map Prd.row).set 0 [ds q.nm, di q.de, di q.ex, di q.co, di q.fr] = (ps.set 0 q).map Prd.row := fun q => by rw [List.map_set]; rfl
  have sb : ∀ v : Int, (bs.map Bat.row).set 0 [di v, ds b0.sh, di b0.fr, di b0.to] = (bs.set 0 ⟨v, b0.sh, b0.fr, b0.to⟩).map Bat.row := fun q => by rw [List.map_set]; rfl
  have sc : ∀ v : Int, (cs.map Cnd.row).set 0 [di v, di c0.pr] = (cs.set 0 ⟨v, c0.pr⟩).map Cnd.row := fun q => by rw [List.map_set]; rfl
  have sf : ∀ v : Int, (f0.map Pce.row).set 0 [di y0p.ba, di v] = (f0.set 0 ⟨y0p.ba, v⟩).map Pce.row := fun q => by rw [List.map_set]; rfl
  by_cases q0 : c = 0
  · subst q0
    simp (maxSteps:=500000) only [↓vp, vv, ↓reduceIte, simprocAttr, c7_11, PmT, PmA, PmFo, PmU, sE, netD, Net.enc, selMod, selWe, selOdd, hn1, hn, eq_true ho, prdOf_x, hcc, z1, z1', z2, z2', z3, z3', z4, z4', z5, z5', gp, gb, gc, gf, Prd.enc, Prd.row, Bat.row, Cnd.row, Pce.row, Int.toNat_natCast, idx_nn]
    intro a2 n' hw
    exact fin ⟨n', ps, bs, f0, rest, cs, sg⟩ bs.length 0 (rest.length + 1) 0 cs.length bs (f0 :: rest) cs a2.1 _ a2.2 rfl (pok _ _ _ _ _ (wr_sze hn hw) (by dsimp only; omega) (by omega) (by simp; omega) (by omega) hfa) (tb bs) (Nat.le_refl _) (tf (f0 :: rest)) (by dsimp only; omega) (tcd cs) (by dsimp only; omega) (weak_eq [] [(0, 38), (0, 8), (0, 42), (0, 46), (0, 49), (0, 61), (0, 68), (0, 5049)] (PmFo odd by' g.g1 ps.length g.g2 bs.length g.g3 0 (rest.length + 1) g.g4 0 cs.length g.gs sg.length) (H' := hp (PmW ⟨n', ps, bs, f0, rest, cs, sg⟩ g L a2.1)) (by simp (maxSteps:=500000) only [↓vp, vv, ↓reduceIte, simprocAttr, coverS, PmFo, List.length_cons]) (by simp (maxSteps:=500000) only [↓vp, vv, ↓reduceIte, simprocAttr, refsF, PmFo]) (by simp (maxSteps:=500000) only [↓vp, vv, ↓reduceIte, simprocAttr, PmU, sE, netD, rg1, rg2, rg3, rg4, rg5, rg6, List.length_cons]) (by simp) (by simp (maxSteps:=500000) only [↓vp, vv, ↓reduceIte, simprocAttr, hp_cons, hp_nil, PmW, PmU, sE, netD, List.length_cons]; try rfl))
  by_cases q1 : c = 1
  · subst q1
    simp (maxSteps:=500000) only [↓vp, vv, ↓reduceIte, simprocAttr, c7_11, PmT, PmA, PmFo, PmU, sE, netD, Net.enc, selMod, selWe, selOdd, hn1, hn, eq_true ho, prdOf_x, hcc, z1, z1', z2, z2', z3, z3', z4, z4', z5, z5', gp, gb, gc, gf, Prd.enc, Prd.row, Bat.row, Cnd.row, Pce.row, Int.toNat_natCast, idx_nn]
    intro a2 q
    exact fin ⟨n, ps.set 0 q, bs, f0, rest, cs, sg⟩ bs.length 0 (rest.length + 1) 0 cs.length bs (f0 :: rest) cs a2.1 _ a2.2 rfl (pok _ _ _ _ _ nz (by simp; omega) (by omega) (by simp; omega) (by omega) hfa) (tb bs) (Nat.le_refl _) (tf (f0 :: rest)) (by dsimp only; omega) (tcd cs) (by dsimp only; omega) (weak_eq [] [(0, 38), (0, 8), (0, 42), (0, 46), (0, 49), (0, 61), (0, 68), (0, 5049)] (PmFo odd by' g.g1 (ps.set 0 q).length g.g2 bs.length g.g3 0 (rest.length + 1) g.g4 0 cs.length g.gs sg.length) (H' := hp (PmW ⟨n, ps.set 0 q, bs, f0, rest, cs, sg⟩ g L a2.1)) (by simp (maxSteps:=500000) only [↓vp, vv, ↓reduceIte, simprocAttr, coverS, PmFo, List.length_cons, List.length_set, sp]) (by simp (maxSteps:=500000) only [↓vp, vv, ↓reduceIte, simprocAttr, refsF, PmFo]) (by simp (maxSteps:=500000) only [↓vp, vv, ↓reduceIte, simprocAttr, PmU, sE, netD, rg1, rg2, rg3, rg4, rg5, rg6, List.length_cons, List.length_set, sp]) (by simp) (by simp (maxSteps:=500000) only [↓vp, vv, ↓reduceIte, simprocAttr, hp_cons, hp_nil, PmW, PmU, sE, netD, List.length_cons, List.length_set, sp]; try rfl))
  by_cases q2 : c = 2
  · subst q2
    simp (maxSteps:=500000) only [↓vp, vv, ↓reduceIte, simprocAttr, c7_11, PmT, PmA, PmFo, PmU, sE, netD, Net.enc, selMod, selWe, selOdd, hn1, hn, eq_true ho, prdOf_x, hcc, z1, z1', z2, z2', z3, z3', z4, z4', z5, z5', gp, gb, gc, gf, Prd.enc, Prd.row, Bat.row, Cnd.row, Pce.row, Int.toNat_natCast, idx_nn]
    exact fin ⟨n, ps, bs.set 0 ⟨IntKind.i64.wrap (modI by' 9 - 1), b0.sh, b0.fr, b0.to⟩, f0, rest, cs, sg⟩ (bs.set 0 ⟨IntKind.i64.wrap (modI by' 9 - 1), b0.sh, b0.fr, b0.to⟩).length 0 (rest.length + 1) 0 cs.length (bs.set 0 ⟨IntKind.i64.wrap (modI by' 9 - 1), b0.sh, b0.fr, b0.to⟩) (f0 :: rest) cs at' _ ho rfl (pok _ _ _ _ _ nz (by dsimp only; omega) (by simp; omega) (by simp; omega) (by omega) hfa) (tb _) (Nat.le_refl _) (tf (f0 :: rest)) (by dsimp only; omega) (tcd cs) (by dsimp only; omega) (weak_eq [] [(0, 38), (0, 8), (0, 42), (0, 46), (0, 49), (0, 61), (0, 68), (0, 5049)] (PmFo odd by' g.g1 ps.length g.g2 (bs.set 0 ⟨IntKind.i64.wrap (modI by' 9 - 1), b0.sh, b0.fr, b0.to⟩).length g.g3 0 (rest.length + 1) g.g4 0 cs.length g.gs sg.length) (H' := hp (PmW ⟨n, ps, bs.set 0 ⟨IntKind.i64.wrap (modI by' 9 - 1), b0.sh, b0.fr, b0.to⟩, f0, rest, cs, sg⟩ g L at')) (by simp (maxSteps:=500000) only [↓vp, vv, ↓reduceIte, simprocAttr, coverS, PmFo, List.length_cons, List.length_set, sb]) (by simp (maxSteps:=500000) only [↓vp, vv, ↓reduceIte, simprocAttr, refsF, PmFo]) (by simp (maxSteps:=500000) only [↓vp, vv, ↓reduceIte, simprocAttr, PmU, sE, netD, rg1, rg2, rg3, rg4, rg5, rg6, List.length_cons, List.length_set, sb]) (by simp) (by simp (maxSteps:=500000) only [↓vp, vv, ↓reduceIte, simprocAttr, hp_cons, hp_nil, PmW, PmU, sE, netD, List.length_cons, List.length_set, sb]; try rfl))
  by_cases q3 : c = 3
  · subst q3
    simp (maxSteps:=500000) only [↓vp, vv, ↓reduceIte, simprocAttr, c7_11, PmT, PmA, PmFo, PmU, sE, netD, Net.enc, selMod, selWe, selOdd, hn1, hn, eq_true ho, prdOf_x, hcc, z1, z1', z2, z2', z3, z3', z4, z4', z5, z5', gp, gb, gc, gf, Prd.enc, Prd.row, Bat.row, Cnd.row, Pce.row, Int.toNat_natCast, idx_nn]
    exact fin ⟨n, ps, bs, f0, rest, cs.set 0 ⟨by', c0.pr⟩, sg⟩ bs.length 0 (rest.length + 1) 0 (cs.set 0 ⟨by', c0.pr⟩).length bs (f0 :: rest) (cs.set 0 ⟨by', c0.pr⟩) at' _ ho rfl (pok _ _ _ _ _ nz (by dsimp only; omega) (by omega) (by simp; omega) (by simp; omega) hfa) (tb bs) (Nat.le_refl _) (tf (f0 :: rest)) (by dsimp only; omega) (tcd _) (by dsimp only; omega) (weak_eq [] [(0, 38), (0, 8), (0, 42), (0, 46), (0, 49), (0, 61), (0, 68), (0, 5049)] (PmFo odd by' g.g1 ps.length g.g2 bs.length g.g3 0 (rest.length + 1) g.g4 0 (cs.set 0 ⟨by', c0.pr⟩).length g.gs sg.length) (H' := hp (PmW ⟨n, ps, bs, f0, rest, cs.set 0 ⟨by', c0.pr⟩, sg⟩ g L at')) (by simp (maxSteps:=500000) only [↓vp, vv, ↓reduceIte, simprocAttr, coverS, PmFo, List.length_cons, List.length_set, sc]) (by simp (maxSteps:=500000) only [↓vp, vv, ↓reduceIte, simprocAttr, refsF, PmFo]) (by simp (maxSteps:=500000) only [↓vp, vv, ↓reduceIte, simprocAttr, PmU, sE, netD, rg1, rg2, rg3, rg4, rg5, rg6, List.length_cons, List.length_set, sc]) (by simp) (by simp (maxSteps:=500000) only [↓vp, vv, ↓reduceIte, simprocAttr, hp_cons, hp_nil, PmW, PmU, sE, netD, List.length_cons, List.length_set, sc]; try rfl))
  by_cases q4 : c = 4
  · subst q4
    simp (maxSteps:=500000) only [↓vp, vv, ↓reduceIte, simprocAttr, c7_11, PmT, PmA, PmFo, PmU, sE, netD, Net.enc, selMod, selWe, selOdd, hn1, hn, eq_true ho, prdOf_x, hcc, z1, z1', z2, z2', z3, z3', z4, z4', z5, z5', gp, gb, gc, gf, Prd.enc, Prd.row, Bat.row, Cnd.row, Pce.row, Int.toNat_natCast, idx_nn]
    refine ⟨by omega, ?_⟩
    exact fin ⟨n, ps, bs, f0, rest, cs, sg⟩ bs.length 0 (rest.length + 1) 1 (cs.length - 1) bs (f0 :: rest) (cs.drop 1) at' _ ho rfl (pok _ _ _ _ _ nz (by dsimp only; omega) (by omega) (by simp; omega) (by simp; omega) hfa) (tb bs) (Nat.le_refl _) (tf (f0 :: rest)) (by dsimp only; omega) (by rw [← List.map_drop]; exact List.take_of_length_le (by simp)) (by dsimp only; omega) (weak_eq [] [(0, 38), (0, 8), (0, 42), (0, 46), (0, 49), (0, 61), (0, 68), (0, 5049)] (PmFo odd by' g.g1 ps.length g.g2 bs.length g.g3 0 (rest.length + 1) g.g4 1 (cs.length - 1) g.gs sg.length) (H' := hp (PmW ⟨n, ps, bs, f0, rest, cs, sg⟩ g L at')) (by simp (maxSteps:=500000) only [↓vp, vv, ↓reduceIte, simprocAttr, coverS, PmFo, List.length_cons]) (by simp (maxSteps:=500000) only [↓vp, vv, ↓reduceIte, simprocAttr, refsF, PmFo]) (by simp (maxSteps:=500000) only [↓vp, vv, ↓reduceIte, simprocAttr, PmU, sE, netD, rg1, rg2, rg3, rg4, rg5, rg6, List.length_cons]) (by simp) (by simp (maxSteps:=500000) only [↓vp, vv, ↓reduceIte, simprocAttr, hp_cons, hp_nil, PmW, PmU, sE, netD, List.length_cons]; try rfl))
  by_cases q5 : c = 5
  · subst q5
    simp (maxSteps:=500000) only [↓vp, vv, ↓reduceIte, simprocAttr, c7_11, PmT, PmA, PmFo, PmU, sE, netD, Net.enc, selMod, selWe, selOdd, hn1, hn, eq_true ho, prdOf_x, hcc, z1, z1', z2, z2', z3, z3', z4, z4', z5, z5', gp, gb, gc, gf, Prd.enc, Prd.row, Bat.row, Cnd.row, Pce.row, Int.toNat_natCast, idx_nn]
    refine ⟨by omega, ?_⟩
    exact fin ⟨n, ps, bs, f0, rest, cs, sg⟩ bs.length 1 rest.length 0 cs.length bs rest cs at' _ ho rfl (pok _ _ _ _ _ nz (by dsimp only; omega) (by omega) (by omega) (by omega) hrf) (tb bs) (Nat.le_refl _) (List.take_of_length_le (by simp)) (by dsimp only; omega) (tcd cs) (by dsimp only; omega) (weak_eq [] [(0, 38), (0, 8), (0, 42), (0, 46), (0, 49), (0, 61), (0, 68), (0, 5049)] (PmFo odd by' g.g1 ps.length g.g2 bs.length g.g3 1 rest.length g.g4 0 cs.length g.gs sg.length) (H' := hp (PmW ⟨n, ps, bs, f0, rest, cs, sg⟩ g L at')) (by simp (maxSteps:=500000) only [↓vp, vv, ↓reduceIte, simprocAttr, coverS, PmFo, List.length_cons]) (by simp (maxSteps:=500000) only [↓vp, vv, ↓reduceIte, simprocAttr, refsF, PmFo]) (by simp (maxSteps:=500000) only [↓vp, vv, ↓reduceIte, simprocAttr, PmU, sE, netD, rg1, rg2, rg3, rg4, rg5, rg6, List.length_cons]) (by simp) (by simp (maxSteps:=500000) only [↓vp, vv, ↓reduceIte, simprocAttr, hp_cons, hp_nil, PmW, PmU, sE, netD, List.length_cons]; try rfl))
  by_cases q6 : c = 6
  · subst q6
    simp (maxSteps:=500000) only [↓vp, vv, ↓reduceIte, simprocAttr, c7_11, PmT, PmA, PmFo, PmU, sE, netD, Net.enc, selMod, selWe, selOdd, hn1, hn, eq_true ho, prdOf_x, hcc, z1, z1', z2, z2', z3, z3', z4, z4', z5, z5', gp, gb, gc, gf, Prd.enc, Prd.row, Bat.row, Cnd.row, Pce.row, Int.toNat_natCast, idx_nn]
    exact fin ⟨n, ps, bs, f0.set 0 ⟨y0p.ba, by'⟩, rest, cs, sg⟩ bs.length 0 (rest.length + 1) 0 cs.length bs (f0.set 0 ⟨y0p.ba, by'⟩ :: rest) cs at' _ ho rfl (pok _ _ _ _ _ nz (by dsimp only; omega) (by omega) (by simp; omega) (by omega) (fun f hf => by
      rcases List.mem_cons.1 hf with rfl | hf
      · rw [List.length_set]; exact hf0.2
      · exact hrf f hf)) (tb bs) (Nat.le_refl _) (tf (_ :: rest)) (by dsimp only; omega) (tcd cs) (by dsimp only; omega) (weak_eq [] [(0, 38), (0, 8), (0, 42), (0, 46), (0, 49), (0, 61), (0, 68), (0, 5049)] (PmFo odd by' g.g1 ps.length g.g2 bs.length g.g3 0 (rest.length + 1) g.g4 0 cs.length g.gs sg.length) (H' := hp (PmW ⟨n, ps, bs, f0.set 0 ⟨y0p.ba, by'⟩, rest, cs, sg⟩ g L at')) (by simp (maxSteps:=500000) only [↓vp, vv, ↓reduceIte, simprocAttr, coverS, PmFo, List.length_cons, List.length_set, sf]) (by simp (maxSteps:=500000) only [↓vp, vv, ↓reduceIte, simprocAttr, refsF, PmFo]) (by simp (maxSteps:=500000) only [↓vp, vv, ↓reduceIte, simprocAttr, PmU, sE, netD, rg1, rg2, rg3, rg4, rg5, rg6, List.length_cons, List.length_set, sf]) (by simp) (by simp (maxSteps:=500000) only [↓vp, vv, ↓reduceIte, simprocAttr, hp_cons, hp_nil, PmW, PmU, sE, netD, List.length_cons, List.length_set, sf]; try rfl))
  by_cases q7 : c = 7
  · subst q7
    simp (maxSteps:=500000) only [↓vp, vv, ↓reduceIte, simprocAttr, c7_11, PmT, PmA, PmFo, PmU, sE, netD, Net.enc, selMod, selWe, selOdd, hn1, hn, eq_true ho, prdOf_x, hcc, z1, z1', z2, z2', z3, z3', z4, z4', z5, z5', gp, gb, gc, gf, Prd.enc, Prd.row, Bat.row, Cnd.row, Pce.row, Int.toNat_natCast, idx_nn]
    refine ⟨by omega, ?_⟩
    exact fin ⟨n, ps, bs, f0, rest, cs, sg⟩ 1 0 (rest.length + 1) 0 cs.length (bs.take 1) (f0 :: rest) cs at' _ ho rfl (pok _ _ _ _ _ nz (by dsimp only; omega) (by simp; omega) (by simp; omega) (by omega) hfa) (List.map_take.symm) (by dsimp only; omega) (tf (f0 :: rest)) (by dsimp only; omega) (tcd cs) (by dsimp only; omega) (weak_eq [] [(0, 38), (0, 8), (0, 42), (0, 46), (0, 49), (0, 61), (0, 68), (0, 5049)] (PmFo odd by' g.g1 ps.length g.g2 1 g.g3 0 (rest.length + 1) g.g4 0 cs.length g.gs sg.length) (H' := hp (PmW ⟨n, ps, bs, f0, rest, cs, sg⟩ g L at')) (by simp (maxSteps:=500000) only [↓vp, vv, ↓reduceIte, simprocAttr, coverS, PmFo, List.length_cons]) (by simp (maxSteps:=500000) only [↓vp, vv, ↓reduceIte, simprocAttr, refsF, PmFo]) (by simp (maxSteps:=500000) only [↓vp, vv, ↓reduceIte, simprocAttr, PmU, sE, netD, rg1, rg2, rg3, rg4, rg5, rg6, List.length_cons]) (by simp) (by simp (maxSteps:=500000) only [↓vp, vv, ↓reduceIte, simprocAttr, hp_cons, hp_nil, PmW, PmU, sE, netD, List.length_cons]; try rfl))
  have r0 : (c == 0) = false := by rw [beq_eq_false_iff_ne]; exact q0
  have r1 : (c == 1) = false := by rw [beq_eq_false_iff_ne]; exact q1
  have r2 : (c == 2) = false := by rw [beq_eq_false_iff_ne]; exact q2
  have r3 : (c == 3) = false := by rw [beq_eq_false_iff_ne]; exact q3
  have r4 : (c == 4) = false := by rw [beq_eq_false_iff_ne]; exact q4
  have r5 : (c == 5) = false := by rw [beq_eq_false_iff_ne]; exact q5
  have r6 : (c == 6) = false := by rw [beq_eq_false_iff_ne]; exact q6
  have r7 : (c == 7) = false := by rw [beq_eq_false_iff_ne]; exact q7
  simp (maxSteps:=500000) only [↓vp, vv, ↓reduceIte, simprocAttr, c7_11, PmT, PmA, PmFo, PmU, sE, netD, Net.enc, selMod, selWe, selOdd, hn1, hn, eq_true ho, prdOf_x, hcc, z1, z1', z2, z2', z3, z3', z4, z4', z5, z5', gp, gb, gc, gf, Prd.enc, Prd.row, Bat.row, Cnd.row, Pce.row, Int.toNat_natCast, idx_nn, r0, r1, r2, r3, r4, r5, r6, r7]
  exact fin ⟨n, ps, bs, f0, rest, cs, sg⟩ bs.length 0 (rest.length + 1) 0 cs.length bs (f0 :: rest) cs at' _ ho rfl (pok _ _ _ _ _ nz (by dsimp only; omega) (by omega) (by simp; omega) (by omega) hfa) (tb bs) (Nat.le_refl _) (tf (f0 :: rest)) (by dsimp only; omega) (tcd cs) (by dsimp only; omega) (weak_eq [] [(0, 38), (0, 8), (0, 42), (0, 46), (0, 49), (0, 61), (0, 68), (0, 5049)] (PmFo odd by' g.g1 ps.length g.g2 bs.length g.g3 0 (rest.length + 1) g.g4 0 cs.length g.gs sg.length) (H' := hp (PmW ⟨n, ps, bs, f0, rest, cs, sg⟩ g L at')) (by simp (maxSteps:=500000) only [↓vp, vv, ↓reduceIte, simprocAttr, coverS, PmFo, List.length_cons]) (by simp (maxSteps:=500000) only [↓vp, vv, ↓reduceIte, simprocAttr, refsF, PmFo]) (by simp (maxSteps:=500000) only [↓vp, vv, ↓reduceIte, simprocAttr, PmU, sE, netD, rg1, rg2, rg3, rg4, rg5, rg6, List.length_cons]) (by simp) (by simp (maxSteps:=500000) only [↓vp, vv, ↓reduceIte, simprocAttr, hp_cons, hp_nil, PmW, PmU, sE, netD, List.length_cons]; try rfl))
def PmL (odd by' : Int) (d : PmD) (g : PmG) (j : Int) : List (Nat × D) := [(1, di odd), (2, di by'), (7, .ptr (0, 38) 0 0 0), (8, .ptr (0, 8) 0 0 0), (9, .own (0, 42) g.g1 0 d.ps.length), (10, .own (0, 46) g.g2 0 d.bs.length), (11, .own (0, 49) g.g3 0 (d.rest.length + 1)), (12, .own (0, 61) g.g4 0 d.cs.length), (13, .own (0, 68) g.gs 0 d.sg.length), (14, di j)]
theorem fill_pos {v : Int} {l : List Pce} (h : FillIn v l) (hv : 1 ≤ v) : 1 ≤ l.length := by
  rcases Nat.eq_zero_or_pos l.length with z | z
  · have := List.length_eq_zero_iff.1 z
    have k := h.sum
    rw [this] at k
    simp [volS] at k
    omega
  · exact z
set_option maxHeartbeats 16000000 in
theorem PMade_c (ns : List Int) (hns : ∀ n ∈ ns, InI n) (odd by' : Int) (nn : Nm) : CallsA Tryd.prog 7 [.sl (ns.map fun n => [di n]), di odd, di by'] Hp.none nn (Pu (db true) Hp.none) := by
  obtain ⟨code, h1, h2⟩ := c7_ok
  refine callsA_of PmT_ok mixed (N := fun t => (0, t)) Tryd.func7 h1 h2 r7_ok [] false js_nil js_nil' (by simp [Tryd.f7]) ?_
  have ho : SrcOk ((ns.map fun n => [di n]).take 2000) 0 := src_new ns hns
  have hf' : ((ns.map fun n => [di n]).length : Int) = (ns.length : Int) := by simp
  cases hf : decide ((ns.length : Int) ≤ 400) with
  | false => simp (maxSteps:=500000) only [↓vp, vv, ↓reduceIte, simprocAttr, c7, r7, PmT, PmA, selFe, selAw, hf', hf, Pu]
  | true =>
    have hnr : ∀ n : Net, netOf1 [D.sl (n.nodes.map nmRow), .sl (n.segs.map Seg.row), .sl (n.ports.map Port.row), .sl (n.sts.map Stn.row), di n.vap, di n.set] = some n := fun n => netOf1_row n
    simp (maxSteps:=500000) only [↓vp, vv, ↓reduceIte, simprocAttr, c7, c7_12, PmT, PmA, selFe, rowNew, sel0, rowPdO, rowBtO, rowFls, SrcO_all, flsO_all, hf', hf, ho, hnr, Net.enc, netD]
    intro a1 n hn a2 g1 ps hps
    have lps := hps.len
    refine ⟨by omega, ?_⟩
    intro a3 g2 bs hbs
    have lbs := hbs.len
    refine ⟨hn, ?_⟩
    intro a4 g3 g5 f0 rest hfs
    have nsl := hn.slen
    have nnl := hn.nlen
    have lfs := hfs.len
    simp only [List.length_cons] at lfs
    have hcap : ∀ k (h : k < n.segs.length), 1 ≤ (n.segs[k]).cap ∧ (n.segs[k]).cap ≤ 1000 := fun k h => by
      obtain ⟨_, x, y, _, _, _, h, _⟩ := hn.segs.mem (List.getElem_mem h)
      exact h.cap
    have hf0 : 1 ≤ f0.length ∧ f0.length ≤ 12 := by
      have := hfs.at' 0 (by omega)
      exact ⟨fill_pos this (hcap 0 (by omega)).1, this.len⟩
    have hrf : ∀ f, f ∈ rest → f.length ≤ 12 := fun f hf => by
      obtain ⟨k, hk, rfl⟩ := List.getElem_of_mem hf
      have := (hfs.at' (k + 1) (by omega)).len
      have e : fA (f0 :: rest) (k + 1) = rest[k] := by
        unfold fA
        rw [List.getD_eq_getElem?_getD, List.getElem?_cons_succ, List.getElem?_eq_getElem hk]
        rfl
      rw [e] at this
      exact this
    have i2 : InI 2 := by unfold InI; decide
    have rg1 : ∀ (l : List (List Pce)) js, (∀ j ∈ l, refsInL js (fR j) = true) = True := fun l js => eq_true fun j _ => rfl
    have rg2 : ∀ (l : List Prd) js, (∀ j ∈ l, refsInL js (Prd.row j) = true) = True := fun l js => eq_true fun j _ => rfl
    have rg3 : ∀ (l : List Bat) js, (∀ j ∈ l, refsInL js (Bat.row j) = true) = True := fun l js => eq_true fun j _ => rfl
    have rg4 : ∀ (l : List Cnd) js, (∀ j ∈ l, refsInL js (Cnd.row j) = true) = True := fun l js => eq_true fun j _ => rfl
    have rg5 : ∀ (l : List Int) js, (∀ j ∈ l, refsInL js (iR j) = true) = True := fun l js => eq_true fun j _ => rfl
    have rg6 : ∀ (l : List Pce) js, (∀ j ∈ l, refsInL js (Pce.row j) = true) = True := fun l js => eq_true fun j _ => rfl
    refine rng_loopP n.segs.length (fun j (u : SA ((ns.map fun n => [di n]).take 2000) × Nat × Nat × List Cnd × List Int) => ⟨fr (PmL odd by' ⟨n, ps, bs, f0, rest, u.2.2.2.1, u.2.2.2.2⟩ ⟨g1, g2, g3, u.2.1, g5, u.2.2.1⟩ (j : Nat)), PmU ⟨n, ps, bs, f0, rest, u.2.2.2.1, u.2.2.2.2⟩ ⟨g1, g2, g3, u.2.1, g5, u.2.2.1⟩ ((ns.map fun n => [di n]).take 2000) u.1.1⟩) (fun j u => u.2.2.2.1.length = j ∧ u.2.2.2.2.length ≤ j ∧ ∀ x, x ∈ u.2.2.2.2 → InI x) (u0 := (a4, 0, 0, [], []))
      ((weak_own 12 (0, 61) 2 (by simp (maxSteps:=500000) only [↓vp, vv, ↓reduceIte, simprocAttr, ]) (by simp (maxSteps:=500000) only [↓vp, vv, ↓reduceIte, simprocAttr, ])).trans ((weak_own 13 (0, 68) 1 (by simp (maxSteps:=500000) only [↓vp, vv, ↓reduceIte, simprocAttr, ]) (by simp (maxSteps:=500000) only [↓vp, vv, ↓reduceIte, simprocAttr, ])).trans (weak_eq [] [(0, 38), (0, 8), (0, 42), (0, 46), (0, 49), (0, 61), (0, 68), (0, 5049)] (PmL odd by' ⟨n, ps, bs, f0, rest, [], []⟩ ⟨g1, g2, g3, 0, g5, 0⟩ 0) (by simp (maxSteps:=500000) only [↓vp, vv, ↓reduceIte, simprocAttr, coverS, PmL, PmU, sE, netD, rg1, rg2, rg3, rg6, List.map_nil, List.length_nil]) (by simp (maxSteps:=500000) only [↓vp, vv, ↓reduceIte, simprocAttr, refsF, PmL, PmU, sE, netD, rg1, rg2, rg3, rg6, List.map_nil, List.length_nil]) (by simp (maxSteps:=500000) only [↓vp, vv, ↓reduceIte, simprocAttr, PmL, PmU, sE, netD, rg1, rg2, rg3, rg6, List.map_nil, List.length_nil]) (by simp) (by simp (maxSteps:=500000) only [↓vp, vv, ↓reduceIte, simprocAttr, PmL, PmU, sE, netD, rg1, rg2, rg3, rg6, List.map_nil, List.length_nil]; try rfl)))) ⟨rfl, Nat.zero_le _, fun x hx => (by cases hx)⟩ (fun j hj u hP => ?_) (fun u hP => ?_)
    · obtain ⟨a, g4, gs, cs, sg⟩ := u
      obtain ⟨k1, k2, k3⟩ := hP
      dsimp only at k1 k2 k3
      have oa := a.2
      have hj' : (j : Int) < n.segs.length := by omega
      have w1 := idx_next (j := j) (by omega)
      have y1 : (cs.length + 1) * 16 ≤ 140737488355328 := by omega
      have y2 : cs.length + 1 ≤ 4611686018427387904 := by omega
      have y3 : (sg.length + 1) * 8 ≤ 140737488355328 := by omega
      have y4 : sg.length + 1 ≤ 4611686018427387904 := by omega
      simp (maxSteps:=500000) only [↓vp, vv, ↓reduceIte, simprocAttr, c7, r7, c7_1, c7_10, c7_11, c7_12, c7_2, c7_3, c7_4, c7_5, c7_6, c7_7, c7_8, c7_9, PmT, PmA, PmL, PmU, sE, netD, sel0, selI, i2, oa, Cnd.enc, Cnd.row, hj', y1, y2, y3, y4, Int.toNat_natCast, idx_nn]
      intro a5 c hc a6 x hx
      split
      · have nx : (cs ++ [c]).length = j + 1 ∧ (sg ++ [(j : Int)]).length ≤ j + 1 ∧ ∀ x, x ∈ sg ++ [(j : Int)] → InI x := ⟨by simp; omega, by simp; omega, fun x hx => by
          rcases List.mem_append.1 hx with hx | hx
          · exact k3 x hx
          · rw [List.mem_singleton.1 hx]; unfold InI; omega⟩
        refine rng_nextP hj (a6, g4 + 1, gs + 1, cs ++ [c], sg ++ [(j : Int)]) ?_ nx
        exact (weak_eq [] [(0, 38), (0, 8), (0, 42), (0, 46), (0, 49), (0, 61), (0, 68), (0, 5049)] (PmL odd by' ⟨n, ps, bs, f0, rest, cs ++ [c], sg ++ [(j : Int)]⟩ ⟨g1, g2, g3, g4 + 1, g5, gs + 1⟩ ((j + 1 : Nat) : Int)) (by simp (maxSteps:=500000) only [↓vp, vv, ↓reduceIte, simprocAttr, coverS, PmL, PmU, sE, netD, iR, Cnd.row, w1, rg1, rg2, rg3, rg4, rg5, rg6, List.map_append, List.map_cons, List.map_nil, List.length_append, List.length_cons, List.length_nil]) (by simp (maxSteps:=500000) only [↓vp, vv, ↓reduceIte, simprocAttr, refsF, PmL, PmU, sE, netD, iR, Cnd.row, w1, rg1, rg2, rg3, rg4, rg5, rg6, List.map_append, List.map_cons, List.map_nil, List.length_append, List.length_cons, List.length_nil]) (by simp (maxSteps:=500000) only [↓vp, vv, ↓reduceIte, simprocAttr, PmL, PmU, sE, netD, iR, Cnd.row, w1, rg1, rg2, rg3, rg4, rg5, rg6, List.map_append, List.map_cons, List.map_nil, List.length_append, List.length_cons, List.length_nil]) (by simp) (by simp (maxSteps:=500000) only [↓vp, vv, ↓reduceIte, simprocAttr, PmL, PmU, sE, netD, iR, Cnd.row, w1, rg1, rg2, rg3, rg4, rg5, rg6, List.map_append, List.map_cons, List.map_nil, List.length_append, List.length_cons, List.length_nil]; try rfl))
      · have nx : (cs ++ [c]).length = j + 1 ∧ sg.length ≤ j + 1 ∧ ∀ x, x ∈ sg → InI x := ⟨by simp; omega, by omega, k3⟩
        refine rng_nextP hj (a6, g4 + 1, gs, cs ++ [c], sg) ?_ nx
        exact (weak_eq [] [(0, 38), (0, 8), (0, 42), (0, 46), (0, 49), (0, 61), (0, 68), (0, 5049)] (PmL odd by' ⟨n, ps, bs, f0, rest, cs ++ [c], sg⟩ ⟨g1, g2, g3, g4 + 1, g5, gs⟩ ((j + 1 : Nat) : Int)) (by simp (maxSteps:=500000) only [↓vp, vv, ↓reduceIte, simprocAttr, coverS, PmL, PmU, sE, netD, iR, Cnd.row, w1, rg1, rg2, rg3, rg4, rg5, rg6, List.map_append, List.map_cons, List.map_nil, List.length_append, List.length_cons, List.length_nil]) (by simp (maxSteps:=500000) only [↓vp, vv, ↓reduceIte, simprocAttr, refsF, PmL, PmU, sE, netD, iR, Cnd.row, w1, rg1, rg2, rg3, rg4, rg5, rg6, List.map_append, List.map_cons, List.map_nil, List.length_append, List.length_cons, List.length_nil]) (by simp (maxSteps:=500000) only [↓vp, vv, ↓reduceIte, simprocAttr, PmL, PmU, sE, netD, iR, Cnd.row, w1, rg1, rg2, rg3, rg4, rg5, rg6, List.map_append, List.map_cons, List.map_nil, List.length_append, List.length_cons, List.length_nil]) (by simp) (by simp (maxSteps:=500000) only [↓vp, vv, ↓reduceIte, simprocAttr, PmL, PmU, sE, netD, iR, Cnd.row, w1, rg1, rg2, rg3, rg4, rg5, rg6, List.map_append, List.map_cons, List.map_nil, List.length_append, List.length_cons, List.length_nil]; try rfl))
    · obtain ⟨a, g4, gs, cs, sg⟩ := u
      obtain ⟨k1, k2, k3⟩ := hP
      dsimp only at k1 k2 k3
      have nx := pm_11 odd by' ⟨n, ps, bs, f0, rest, cs, sg⟩ ⟨g1, g2, g3, g4, g5, gs⟩ ((ns.map fun n => [di n]).take 2000) a.1 a.2 ⟨by dsimp only; omega, by dsimp only; omega, by dsimp only; omega, by dsimp only; omega, fun f hf => by have := hrf f hf; omega, by dsimp only; omega, by dsimp only; omega, k3⟩ hn
      simp (maxSteps:=500000) only [↓vp, vv, ↓reduceIte, simprocAttr, c7, r7, c7_1, c7_10, c7_11, c7_12, c7_2, c7_3, c7_4, c7_5, c7_6, c7_7, c7_8, c7_9, PmT, PmA, PmL, PmU, sE, netD, Int.lt_irrefl]
      exact vc_wk (weak_eq [] [(0, 38), (0, 8), (0, 42), (0, 46), (0, 49), (0, 61), (0, 68), (0, 5049)] (PmFo odd by' g1 ps.length g2 bs.length g3 0 (rest.length + 1) g4 0 cs.length gs sg.length) (by simp (maxSteps:=500000) only [↓vp, vv, ↓reduceIte, simprocAttr, coverS, PmL, PmU, PmFo, sE, netD, rg1, rg2, rg3, rg4, rg5, rg6]) (by simp (maxSteps:=500000) only [↓vp, vv, ↓reduceIte, simprocAttr, refsF, PmL, PmU, PmFo, sE, netD, rg1, rg2, rg3, rg4, rg5, rg6]) (by simp (maxSteps:=500000) only [↓vp, vv, ↓reduceIte, simprocAttr, PmL, PmU, PmFo, sE, netD, rg1, rg2, rg3, rg4, rg5, rg6]) (by simp) (by simp (maxSteps:=500000) only [↓vp, vv, ↓reduceIte, simprocAttr, PmL, PmU, PmFo, sE, netD, rg1, rg2, rg3, rg4, rg5, rg6]; try rfl)) nx
theorem PackMade_law (a : Option Addr) (len cap : Nat) (odd by' : Int) (w : World) (h : ArgInts w a len cap) (hsp : LaidFacts w) :
    Calls Tryd.prog 7 #[.slice a len cap, .int .i64 odd, .int .i64 by'] w (Ret (.bool true) w) :=
  law_intsG (us := [.int .i64 odd, .int .i64 by']) (glOk_of hsp) h fun ns hns => PMade_c ns hns odd by' _
end Go.Proofs.YtehmmnnmkapfeaaDoor
