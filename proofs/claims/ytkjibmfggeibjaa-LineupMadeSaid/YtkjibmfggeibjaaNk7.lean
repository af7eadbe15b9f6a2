
/- Networks: network.Check. -/
import Derived.Test.YtkjibmfggeibjaaNk6
namespace Go.Proofs.Ytkjibmfggeibjaa
open Go
set_option linter.unusedVariables false
set_option linter.unusedSimpArgs false
set_option maxRecDepth 100000

def portBad (p : Port) : Bool := !inB p.press 0 100000000
def stnBad (x : Stn) : Bool := if inB x.head 0 100000000 = true then (if inB x.fall 0 100000 = true then !inB x.suct 0 100000000 else true) else true
def segBad (s : Seg) : Bool := !pipeB s
def PtsPos (n : Net) : Prop := ∀ s ∈ n.segs, 1 ≤ s.points.length
def prB (n : Net) : Bool := if n.segs.any segBad = true then false else if n.ports.any portBad = true then false else if n.sts.any stnBad = true then false else if inB n.vap (-100000) 100000000 = true then inB n.set 0 100 else false
def selSegP (out : Seg → D) : List D → Option (Prop × D)
  | [.agg r] => match segOf1 r with
    | some s => some (1 ≤ s.points.length ∧ s.points.length ≤ 1000000, out s)
    | Option.none => Option.none
  | _ => Option.none
def TI2 : Tbl := tc 187 (rowPu (selSegP fun s => db (pipeB s))) TI
theorem TI2_ok : TblOk Try.prog TI2 := by
  refine tc_pu f187_ok (fun args pre d h hp nn => ?_) TI_ok
  unfold selSegP at h
  split at h
  · split at h
    · rename_i hm; cases h; rw [segOf1_eq hm]; exact pipe_c _ hp nn
    · cases h
  · cases h
set_option maxHeartbeats 2000000 in
theorem pr1_c (s : Seg) (hz : 1 ≤ s.points.length ∧ s.points.length ≤ 1000000) (nn : Nm) : CallsA Try.prog 186 [.agg s.row] Hp.none nn (Pu (db (segBad s)) Hp.none) := by
  obtain ⟨code, h1, h2⟩ := c186_ok
  refine callsA_of TI2_ok mixed (N := fun t => (0, t)) Try.func186 h1 h2 r186_ok [] false js_nil js_nil' (by simp [Try.f186]) ?_
  have hs : segOf1 [ds s.name, di s.fr, di s.to, di s.cap, di s.resist, di s.wave, .sl (s.points.map Pt.row)] = some s := segOf1_row s
  simp (config := { maxSteps := 500000 }) only [↓vp, vv, implies_true, forall_const, undef, InI, ↓reduceIte, simprocAttr, c186, r186, TI2, selSegP, Seg.row, hs, hz, segBad, Pu]
set_option maxHeartbeats 2000000 in
theorem pr2_c (p : Port) (nn : Nm) : CallsA Try.prog 189 [.agg p.row] Hp.none nn (Pu (db (portBad p)) Hp.none) := by
  obtain ⟨code, h1, h2⟩ := c189_ok
  refine callsA_of TI_ok mixed (N := fun t => (0, t)) Try.func189 h1 h2 r189_ok [] false js_nil js_nil' (by simp [Try.f189]) ?_
  simp (config := { maxSteps := 500000 }) only [↓vp, vv, implies_true, forall_const, undef, InI, ↓reduceIte, simprocAttr, c189, r189, TI, selIn, Port.row, portBad, Pu]
set_option maxHeartbeats 2000000 in
theorem pr3_c (x : Stn) (nn : Nm) : CallsA Try.prog 192 [.agg x.row] Hp.none nn (Pu (db (stnBad x)) Hp.none) := by
  obtain ⟨code, h1, h2⟩ := c192_ok
  refine callsA_of TI_ok mixed (N := fun t => (0, t)) Try.func192 h1 h2 r192_ok [] false js_nil js_nil' (by simp [Try.f192]) ?_
  cases a1 : inB x.head 0 100000000 with
  | false => simp (config := { maxSteps := 500000 }) only [↓vp, vv, implies_true, forall_const, undef, InI, ↓reduceIte, simprocAttr, c192, r192, TI, selIn, Stn.row, stnBad, a1, Pu]
  | true =>
    cases a2 : inB x.fall 0 100000 with
    | false => simp (config := { maxSteps := 500000 }) only [↓vp, vv, implies_true, forall_const, undef, InI, ↓reduceIte, simprocAttr, c192, r192, TI, selIn, Stn.row, stnBad, a1, a2, Pu]
    | true => simp (config := { maxSteps := 500000 }) only [↓vp, vv, implies_true, forall_const, undef, InI, ↓reduceIte, simprocAttr, c192, r192, TI, selIn, Stn.row, stnBad, a1, a2, Pu]
def TPr (P : Program) : Tbl := tc 178 (rowPu (selQ P true 7 (fun g l => qRow segOf1 segBad) outC)) (tc 188 (rowPu (selQ P true 3 (fun g l => qRow portOf1 portBad) outC)) (tc 191 (rowPu (selQ P true 5 (fun g l => qRow stnOf1 stnBad) outC)) TI))
theorem tc_cf {P : Program} {ag : Bool} {sz : Nat} {f : FuncId} {q : FuncId → List (List D) → D → Bool} {T : Tbl} (hf : fnOk P f = true) (h : ∀ (q : D → Bool) (g : FuncId) (l rows : List (List D)), QOk P ag sz q g l rows → ∀ nn, CallsA P f [.sl rows, .clo g [] (ips l)] Hp.none nn (Pu (outC (fun r => q (elV ag r)) rows) Hp.none)) (hT : TblOk P T) : TblOk P (tc f (rowPu (selQ P ag sz q outC)) T) :=
  tc_pu hf (fun args pre d hs hp nn => by
    unfold selQ at hs
    split at hs
    · split at hs
      · rename_i hi
        cases hs
        rw [ipsOf_eq hi]
        exact h _ _ _ _ hp nn
      · cases hs
    · cases hs) hT
theorem TPr_ok : TblOk Try.prog (TPr Try.prog) := tc_cf f178_ok (fun q g l rows h nn => hasF_G q g l rows h nn) (tc_cf f188_ok (fun q g l rows h nn => hasF_P q g l rows h nn) (tc_cf f191_ok (fun q g l rows h nn => hasF_N q g l rows h nn) TI_ok))
theorem outC_rows {α : Type} (f : List D → Option α) (g : α → List D) (q : α → Bool) (h : ∀ x, f (g x) = some x) (l : List α) : outC (fun r => qRow f q (elV true r)) (l.map g) = db (l.any q) := by
  have e : ((fun r => qRow f q (elV true r)) ∘ g) = q := funext fun x => qRow_agg (h x)
  unfold outC
  rw [List.any_map, e]
set_option maxHeartbeats 4000000 in
theorem proper_c (n : Net) (hz : NetSz n) (hp : PtsPos n) (nn : Nm) : CallsA Try.prog 148 [n.enc] Hp.none nn (Pu (db (prB n)) Hp.none) := by
  obtain ⟨code, h1, h2⟩ := c148_ok
  refine callsA_of TPr_ok mixed (N := fun t => (0, t)) Try.func148 h1 h2 r148_ok [] false js_nil js_nil' (by simp [Try.f148]) ?_
  have q1 : QOk Try.prog true 7 (qRow segOf1 segBad) 186 [] (n.segs.map Seg.row) := by
    refine ⟨f186_ok, by simp; have := hz.segs; omega, fun r hr => ?_⟩
    obtain ⟨x, hx, rfl⟩ := List.mem_map.1 hr
    refine ⟨rfl, x.done, fun h => Bool.noConfusion h, fun nn => ?_⟩
    have := pr1_c x ⟨hp x hx, hz.pts x hx⟩ nn
    rw [← qRow_agg (q := segBad) (segOf1_row x)] at this
    exact this
  have q2 : QOk Try.prog true 3 (qRow portOf1 portBad) 189 [] (n.ports.map Port.row) := by
    refine ⟨f189_ok, by simp; have := hz.ports; omega, fun r hr => ?_⟩
    obtain ⟨x, _, rfl⟩ := List.mem_map.1 hr
    exact ⟨rfl, x.done, fun h => Bool.noConfusion h, fun nn => pr2_c x nn⟩
  have q3 : QOk Try.prog true 5 (qRow stnOf1 stnBad) 192 [] (n.sts.map Stn.row) := by
    refine ⟨f192_ok, by simp; have := hz.sts; omega, fun r hr => ?_⟩
    obtain ⟨x, _, rfl⟩ := List.mem_map.1 hr
    exact ⟨rfl, x.done, fun h => Bool.noConfusion h, fun nn => pr3_c x nn⟩
  have o1 := outC_rows segOf1 Seg.row segBad segOf1_row n.segs
  have o2 := outC_rows portOf1 Port.row portBad portOf1_row n.ports
  have o3 := outC_rows stnOf1 Stn.row stnBad stnOf1_row n.sts
  cases a1 : n.segs.any segBad with
  | true => rw [a1] at o1; simp (config := { maxSteps := 500000 }) only [↓vp, vv, implies_true, forall_const, undef, InI, ↓reduceIte, simprocAttr, c148, r148, c148_1, c148_2, c148_3, TPr, TI, selQ, ipsOf, Net.enc, q1, o1, a1, prB, Pu]
  | false =>
  rw [a1] at o1
  cases a2 : n.ports.any portBad with
  | true => rw [a2] at o2; simp (config := { maxSteps := 500000 }) only [↓vp, vv, implies_true, forall_const, undef, InI, ↓reduceIte, simprocAttr, c148, r148, c148_1, c148_2, c148_3, TPr, TI, selQ, ipsOf, Net.enc, q1, q2, o1, o2, a1, a2, prB, Pu]
  | false =>
  rw [a2] at o2
  cases a3 : n.sts.any stnBad with
  | true => rw [a3] at o3; simp (config := { maxSteps := 500000 }) only [↓vp, vv, implies_true, forall_const, undef, InI, ↓reduceIte, simprocAttr, c148, r148, c148_1, c148_2, c148_3, TPr, TI, selQ, ipsOf, Net.enc, q1, q2, q3, o1, o2, o3, a1, a2, a3, prB, Pu]
  | false =>
  rw [a3] at o3
  cases a4 : inB n.vap (-100000) 100000000 with
  | false => simp (config := { maxSteps := 500000 }) only [↓vp, vv, implies_true, forall_const, undef, InI, ↓reduceIte, simprocAttr, c148, r148, c148_1, c148_2, c148_3, TPr, TI, selIn, selQ, ipsOf, Net.enc, q1, q2, q3, o1, o2, o3, a1, a2, a3, a4, prB, Pu]
  | true => simp (config := { maxSteps := 500000 }) only [↓vp, vv, implies_true, forall_const, undef, InI, ↓reduceIte, simprocAttr, c148, r148, c148_1, c148_2, c148_3, TPr, TI, selIn, selQ, ipsOf, Net.enc, q1, q2, q3, o1, o2, o3, a1, a2, a3, a4, prB, Pu]
def nmBad (s : ByteArray) : Bool := !nameB s
def selNm : List D → Option (Prop × D)
  | [.v (.string s)] => some (True, db (nameB s))
  | _ => Option.none
def TN1 : Tbl := tc 145 (rowPu selNm) (tc 158 (rowPu selNm) T0)
theorem TN1_ok : TblOk Try.prog TN1 := by
  refine tc_pu f145_ok (fun args pre d h hp nn => ?_) (tc_pu f158_ok (fun args pre d h hp nn => ?_) (T0_ok _))
  · unfold selNm at h
    split at h <;> cases h
    exact lname_c _ nn
  · unfold selNm at h
    split at h <;> cases h
    exact rname_c _ nn
theorem ck1_c (s : ByteArray) (nn : Nm) : CallsA Try.prog 144 [ds s] Hp.none nn (Pu (db (nmBad s)) Hp.none) := by
  obtain ⟨code, h1, h2⟩ := c144_ok
  refine callsA_of TN1_ok mixed (N := fun t => (0, t)) Try.func144 h1 h2 r144_ok [] false js_nil js_nil' (by simp [Try.f144]) ?_
  simp (config := { maxSteps := 500000 }) only [↓vp, vv, implies_true, forall_const, undef, InI, ↓reduceIte, simprocAttr, c144, r144, TN1, selNm, nmBad, Pu]
def formBad (n : Net) : Bool := (nms4 n).any fun l => l.any nmBad
def checkI (n : Net) : Int := if limB n = true then (if formBad n = true then 3 else if twB n = true then 7 else if knB n = true then (if prB n = true then 0 else 9) else 8) else 4
def selNetP (out : Net → D) : List D → Option (Prop × D)
  | [.agg r] => match netOf1 r with
    | some n => some (NetSz n ∧ PtsPos n, out n)
    | Option.none => Option.none
  | _ => Option.none
def TC (P : Program) : Tbl := tc 141 (rowPu (selNet fun n => db (limB n))) (tc 142 (rowPu (selNet nmsD)) (tc 143 (rowPu (selQ P false 1 (fun g l => qRow nmOf1 nmBad) outC)) (tc 146 (rowPu (selNet fun n => db (twB n))) (tc 147 (rowPu (selNet fun n => db (knB n))) (tc 148 (rowPu (selNetP fun n => db (prB n))) T0)))))
theorem TC_ok : TblOk Try.prog (TC Try.prog) := by
  refine tc_netf f141_ok limits_c (tc_netf f142_ok (fun n hz nn => pnames_c n hz.segs hz.ports hz.sts nn) (tc_cf f143_ok (fun q g l rows h nn => hasF_S q g l rows h nn) (tc_netf f146_ok twice_c (tc_netf f147_ok known_c (tc_pu f148_ok (fun args pre d hs hp nn => ?_) (T0_ok _))))))
  unfold selNetP at hs
  split at hs
  · split at hs
    · rename_i n hn
      cases hs
      rw [netOf1_eq hn]
      exact proper_c _ hp.1 hp.2 nn
    · cases hs
  · cases hs
theorem lim_pts {n : Net} (h : limB n = true) : PtsPos n ∧ ∀ s ∈ n.segs, 2 ≤ s.points.length ∧ s.points.length ≤ 8 := by
  have h' : n.segs.any ptsBad = false := by
    unfold limB at h
    repeat (split at h; · cases h)
    simpa using h
  have k : ∀ s ∈ n.segs, 2 ≤ s.points.length ∧ s.points.length ≤ 8 := fun s hs => by
    have : ptsBad s = false := by
      cases hp : ptsBad s with
      | false => rfl
      | true => rw [List.any_eq_true.2 ⟨s, hs, hp⟩] at h'; cases h'
    unfold ptsBad at this
    split at this
    · cases this
    · rename_i h1
      simp at h1 this
      omega
  exact ⟨fun s hs => by have := k s hs; omega, k⟩
set_option maxHeartbeats 4000000 in
theorem check_c (n : Net) (hz : NetSz n) (nn : Nm) : CallsA Try.prog 74 [n.enc] Hp.none nn (Pu (di (checkI n)) Hp.none) := by
  obtain ⟨code, h1, h2⟩ := c74_ok
  refine callsA_of TC_ok mixed (N := fun t => (0, t)) Try.func74 h1 h2 r74_ok [] false js_nil js_nil' (by simp [Try.f74]) ?_
  have hn1 : netOf1 [D.sl (n.nodes.map nmRow), .sl (n.segs.map Seg.row), .sl (n.ports.map Port.row), .sl (n.sts.map Stn.row), di n.vap, di n.set] = some n := netOf1_row n
  cases a1 : limB n with
  | false => simp (config := { maxSteps := 500000 }) only [↓vp, vv, implies_true, forall_const, undef, InI, ↓reduceIte, simprocAttr, c74, r74, c74_1, c74_2, c74_3, c74_4, c74_5, c74_6, TC, selNet, Net.enc, hn1, hz, a1, checkI, Pu]
  | true =>
  have hp := (lim_pts a1).1
  generalize hb : formBad n = b
  have hc : checkI n = if b = true then 3 else if twB n = true then 7 else if knB n = true then (if prB n = true then 0 else 9) else 8 := by unfold checkI; rw [a1, hb]; rfl
  simp (config := { maxSteps := 500000 }) only [↓vp, vv, implies_true, forall_const, undef, InI, ↓reduceIte, simprocAttr, c74, c74_6, TC, selNet, Net.enc, hn1, hz, a1]
  refine rng_loop 4 (fun j => ⟨fr [(1, .ptr (0, 1) 0 0 0), (9, nmsD n), (10, di j)], netH n⟩) (fun j => ((nms4 n).drop j).any (fun l => l.any nmBad) = b) (weak1 (by simp (config := { maxSteps := 500000 }) only [↓vp, vv, implies_true, forall_const, undef, InI, ↓reduceIte, simprocAttr, coverS]) (by simp (config := { maxSteps := 500000 }) only [↓vp, vv, implies_true, forall_const, undef, InI, ↓reduceIte, simprocAttr, refsF, nmsD]) (by simp (config := { maxSteps := 500000 }) only [↓vp, vv, implies_true, forall_const, undef, InI, ↓reduceIte, simprocAttr, netD]) (by simp (config := { maxSteps := 500000 }) only [↓vp, vv, implies_true, forall_const, undef, InI, ↓reduceIte, simprocAttr, ])) hb (fun j hj he => ?_) (fun he => ?_)
  · have hj' : (j : Int) < 4 := by omega
    have hn := idx_nn j
    have w1 := idx_next (j := j) (by omega)
    have hjl : j < (nms4 n).length := by rw [nms4_len]; exact hj
    obtain ⟨hf, ht⟩ := drop_any hjl he
    have hg := getD_any (fun l => D.sl (List.map nmRow l)) (nms4 n) j hjl
    have hl := nms4_small hz _ (List.getElem_mem hjl)
    generalize (nms4 n)[j] = l at hf ht hg hl
    have hcl2 : j * 1 + 1 ≤ (nms4 n).length := by rw [nms4_len]; omega
    have hq : QOk Try.prog false 1 (qRow nmOf1 nmBad) 144 [] (l.map nmRow) := by
      refine ⟨f144_ok, by simp; omega, fun r hr => ?_⟩
      obtain ⟨x, _, rfl⟩ := List.mem_map.1 hr
      exact ⟨rfl, rfl, fun _ => ⟨_, rfl⟩, fun nn => ck1_c x nn⟩
    have ho : outC (fun r => qRow nmOf1 nmBad (elV false r)) (l.map nmRow) = db (l.any nmBad) := by
      unfold outC
      rw [List.any_map]
      rfl
    have hcl3 : j + 1 ≤ (nms4 n).length := by omega
    cases hd : l.any nmBad with
    | true =>
      have e1 := hf hd
      rw [e1] at hc
      rw [hd] at ho
      have hc3 : checkI n = 3 := hc
      simp (config := { maxSteps := 500000 }) only [↓vp, vv, implies_true, forall_const, undef, InI, ↓reduceIte, simprocAttr, c74, r74, c74_1, c74_2, c74_3, c74_4, c74_5, c74_6, TC, selQ, ipsOf, netH, netD, nmsD_map, hj', hn, Int.toNat_natCast, hcl2, hcl3, Nat.mul_one, hg, hq, ho, hc3, Pu]
    | false =>
      rw [hd] at ho
      simp (config := { maxSteps := 500000 }) only [↓vp, vv, implies_true, forall_const, undef, InI, ↓reduceIte, simprocAttr, c74, r74, c74_1, c74_2, c74_3, c74_4, c74_5, c74_6, TC, selQ, ipsOf, netH, netD, nmsD_map, hj', hn, Int.toNat_natCast, hcl2, hcl3, Nat.mul_one, hg, hq, ho, w1]
      exact rng_next hj (weak1 (by simp (config := { maxSteps := 500000 }) only [↓vp, vv, implies_true, forall_const, undef, InI, ↓reduceIte, simprocAttr, coverS, nmsD, nms4, w1]) (by simp (config := { maxSteps := 500000 }) only [↓vp, vv, implies_true, forall_const, undef, InI, ↓reduceIte, simprocAttr, refsF, nmsD, nms4]) (by simp (config := { maxSteps := 500000 }) only [↓vp, vv, implies_true, forall_const, undef, InI, ↓reduceIte, simprocAttr, netD]) (by simp (config := { maxSteps := 500000 }) only [↓vp, vv, implies_true, forall_const, undef, InI, ↓reduceIte, simprocAttr, netD])) (ht hd)
  · have e1 : b = false := drop_any_end (nms4_len n).symm he
    rw [e1] at hc
    simp only [Bool.false_eq_true, if_false] at hc
    cases a2 : twB n with
    | true =>
      rw [a2] at hc
      have hc3 : checkI n = 7 := hc
      simp (config := { maxSteps := 500000 }) only [↓vp, vv, implies_true, forall_const, undef, InI, ↓reduceIte, simprocAttr, c74, r74, c74_1, c74_2, c74_3, c74_4, c74_5, c74_6, TC, selNet, netH, netD, hn1, hz, Int.lt_irrefl, a2, hc3, Pu]
    | false =>
    cases a3 : knB n with
    | false =>
      rw [a2, a3] at hc
      have hc3 : checkI n = 8 := hc
      simp (config := { maxSteps := 500000 }) only [↓vp, vv, implies_true, forall_const, undef, InI, ↓reduceIte, simprocAttr, c74, r74, c74_1, c74_2, c74_3, c74_4, c74_5, c74_6, TC, selNet, netH, netD, hn1, hz, Int.lt_irrefl, a2, a3, hc3, Pu]
    | true =>
    cases a4 : prB n with
    | false =>
      rw [a2, a3, a4] at hc
      have hc3 : checkI n = 9 := hc
      simp (config := { maxSteps := 500000 }) only [↓vp, vv, implies_true, forall_const, undef, InI, ↓reduceIte, simprocAttr, c74, r74, c74_1, c74_2, c74_3, c74_4, c74_5, c74_6, TC, selNet, selNetP, netH, netD, hn1, hz, hp, Int.lt_irrefl, a2, a3, a4, hc3, Pu]
    | true =>
      rw [a2, a3, a4] at hc
      have hc3 : checkI n = 0 := hc
      simp (config := { maxSteps := 500000 }) only [↓vp, vv, implies_true, forall_const, undef, InI, ↓reduceIte, simprocAttr, c74, r74, c74_1, c74_2, c74_3, c74_4, c74_5, c74_6, TC, selNet, selNetP, netH, netD, hn1, hz, hp, Int.lt_irrefl, a2, a3, a4, hc3, Pu]
end Go.Proofs.Ytkjibmfggeibjaa
