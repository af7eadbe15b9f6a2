/- PackConditions: PkB. -/
import Derived.Test.YtehmmnnmkapfeaaDoorCc9
set_option linter.unusedSimpArgs false
set_option linter.unusedVariables false
set_option maxRecDepth 100000

/- PackConditions: the walk and the law. -/
namespace Go.Proofs.YtehmmnnmkapfeaaDoor
open Go
theorem few_e (L : List (List D)) (nn : Nm) : CallsA Tryd.prog 9 [.sl L] Hp.none nn (Pu (db (decide ((L.length : Int) ≤ 400))) Hp.none) := by
  obtain ⟨code, h1, h2⟩ := c9_ok
  refine callsA_of (T0_ok _) mixed (N := fun t => (0, t)) Tryd.func9 h1 h2 r9_ok [] false js_nil js_nil' (by simp [Tryd.f9]) ?_
  simp (maxSteps:=500000) only [↓vp, vv, ↓reduceIte, simprocAttr, c9, r9, Pu]
def selFe : List D → Option (Prop × D)
  | [.sl L] => some (True, db (decide ((L.length : Int) ≤ 400)))
  | _ => Option.none
theorem tc_fewe {T : Tbl} (hT : TblOk Tryd.prog T) : TblOk Tryd.prog (tc 9 (rowPu selFe) T) :=
  tc_pu f9_ok (fun args pre d h hp nn => by
    unfold selFe at h
    split at h <;> cases h
    exact few_e _ nn) hT
def PcT : Tbl := tc 9 (rowPu selFe) (tc 28 (rowPu selAw) (tc 11 rowNew (tc 29 rowPdO (tc 30 rowBtO (tc 31 rowFlO (tc 34 (rowPu selSg) (tc 35 (rowPu selFa) (tc 36 (rowPu selVo) T2))))))))
theorem PcT_ok : TblOk Tryd.prog PcT := tc_fewe (tc_aw33 (tc_new (tc_pdO (tc_btO (tc_flO (tc_sg (tc_rfa (tc_rvo T2_ok))))))))
theorem pce_pl (l : List Pce) : ∀ j : Pce, j ∈ l → ∀ d : D, d ∈ j.row → d.plain = true := fun j _ d hd => by
  simp only [Pce.row, List.mem_cons, List.not_mem_nil, or_false] at hd
  rcases hd with rfl | rfl <;> rfl
theorem bat_pl (l : List Bat) : ∀ j : Bat, j ∈ l → ∀ d : D, d ∈ j.row → d.plain = true := fun j _ d hd => by
  simp only [Bat.row, List.mem_cons, List.not_mem_nil, or_false] at hd
  rcases hd with rfl | rfl | rfl | rfl <;> rfl
theorem prd_pl (l : List Prd) : ∀ j : Prd, j ∈ l → ∀ d : D, d ∈ j.row → d.plain = true := fun j _ d hd => by
  simp only [Prd.row, List.mem_cons, List.not_mem_nil, or_false] at hd
  rcases hd with rfl | rfl | rfl | rfl | rfl <;> rfl
set_option maxHeartbeats 16000000 in
theorem PCon_c (ns : List Int) (hns : ∀ n ∈ ns, InI n) (a b : Nat) (ha : a < 256) (hb : b < 256) (nn : Nm) : CallsA Tryd.prog 5 [.sl (ns.map fun n => [di n]), .v (.int .u8 a), .v (.int .u8 b)] Hp.none nn (Pu (db true) Hp.none) := by
  obtain ⟨code, h1, h2⟩ := c5_ok
  refine callsA_of PcT_ok mixed (N := fun t => (0, t)) Tryd.func5 h1 h2 r5_ok [] false js_nil js_nil' (by simp [Tryd.f5]) ?_
  have ho : SrcOk ((ns.map fun n => [di n]).take 2000) 0 := src_new ns hns
  have hf' : ((ns.map fun n => [di n]).length : Int) = (ns.length : Int) := by simp
  cases hf : decide ((ns.length : Int) ≤ 400) with
  | false => simp (maxSteps:=500000) only [↓vp, vv, ↓reduceIte, simprocAttr, c5, r5, c5_1, c5_2, r5, PcT, selFe, selAw, hf', hf, Pu]
  | true =>
    have wa : IntKind.i64.wrap (a : Int) = a := wrap_i (by omega)
    have wb : IntKind.i64.wrap (b : Int) = b := wrap_i (by omega)
    have wa2 : IntKind.i64.wrap ((a : Int) * 10) = (a : Int) * 10 := wrap_i (by omega)
    have wb2 : IntKind.i64.wrap ((b : Int) * 10) = (b : Int) * 10 := wrap_i (by omega)
    have wab : IntKind.i64.wrap ((a : Int) * 10 + (b : Int) * 10) = (a : Int) * 10 + (b : Int) * 10 := wrap_i (by omega)
    simp (maxSteps:=500000) only [↓vp, vv, ↓reduceIte, simprocAttr, c5, r5, c5_1, c5_2, PcT, T2, T1, selFe, rowNew, rowPdO, rowBtO, rowFlO, selRange, selPick, SrcO_all, hf', hf, ho, wa, wb, wa2, wb2, wab]
    intro a1 g1 ps hps
    have lps := hps.len
    refine ⟨by omega, ?_⟩
    intro a2 g2 bs hbs a3 v hv
    unfold RPost at hv
    refine ⟨by omega, ?_⟩
    intro a4 g4 f hfl a5 temp htemp
    simp only [IsMem, List.mem_cons, List.not_mem_nil, or_false] at htemp
    have t1 : (ps.map Prd.row).take ps.length = ps.map Prd.row := List.take_of_length_le (by simp)
    have t2 : (bs.map Bat.row).take bs.length = bs.map Bat.row := List.take_of_length_le (by simp)
    have t3 : (f.map Pce.row).take f.length = f.map Pce.row := List.take_of_length_le (by simp)
    refine vc_wk (weak_eq [(0, 31), (0, 35), (0, 39)] [] [(2, .v (.int .u8 b)), (8, .sl (ps.map Prd.row)), (9, .sl (bs.map Bat.row)), (10, .sl (f.map Pce.row)), (11, di temp), (12, di ((a : Int) * 10)), (13, di ((a : Int) * 10 + (b : Int) * 10))] (by simp (maxSteps:=500000) only [↓vp, vv, ↓reduceIte, simprocAttr, coverS, t1, t2, t3]; exact ⟨⟨prd_pl ps, by simp⟩, ⟨bat_pl bs, by simp⟩, ⟨pce_pl f, by simp⟩⟩) (by simp (maxSteps:=500000) only [↓vp, vv, ↓reduceIte, simprocAttr, refsF]) (by simp (maxSteps:=500000) only [↓vp, vv, ↓reduceIte, simprocAttr, ]) (by simp) (by simp (maxSteps:=500000) only [↓vp, vv, ↓reduceIte, simprocAttr, ]; try rfl)) ?_
    have hv6 : v ≤ 1000000 := by omega
    have wt : IntKind.i64.wrap (temp + (b : Int)) = temp + b := wrap_i (by omega)
    have c1 : cdOk 150 0 := by decide
    have c2 : cdOk temp ((a : Int) * 10) := by unfold cdOk; omega
    have c3 : cdOk temp ((a : Int) * 10 + (b : Int) * 10) := by unfold cdOk; omega
    have c4 : cdOk (temp + b) ((a : Int) * 10) := by unfold cdOk; omega
    have s1 := seg_in hps hbs hfl hv6 (c := ⟨150, 0⟩) c1
    have s2 := seg_in hps hbs hfl hv6 (c := ⟨temp, (a : Int) * 10⟩) c2
    have s3 := seg_in hps hbs hfl hv6 (c := ⟨temp, (a : Int) * 10 + (b : Int) * 10⟩) c3
    have s4 := seg_in hps hbs hfl hv6 (c := ⟨temp + b, (a : Int) * 10⟩) c4
    rw [stS_std, hfl.sum] at s1
    have sg := sg_in hps hbs hfl hv6
    have m1 := stS_press sg c2 c3 (by omega)
    have m2 := stS_temp sg c2 c4 (by omega)
    generalize stS ps bs ⟨temp, (a : Int) * 10⟩ f = V2 at *
    generalize stS ps bs ⟨temp, (a : Int) * 10 + (b : Int) * 10⟩ f = V3 at *
    generalize stS ps bs ⟨temp + b, (a : Int) * 10⟩ f = V4 at *
    have d1 : cndOf [di 150, di 0] = some ⟨150, 0⟩ := rfl
    have d2 : cndOf [di temp, di ((a : Int) * 10)] = some ⟨temp, (a : Int) * 10⟩ := rfl
    have d3 : cndOf [di temp, di ((a : Int) * 10 + (b : Int) * 10)] = some ⟨temp, (a : Int) * 10 + (b : Int) * 10⟩ := rfl
    have d4 : cndOf [di (temp + b), di ((a : Int) * 10)] = some ⟨temp + b, (a : Int) * 10⟩ := rfl
    have lbs := hbs.len
    have lf := hfl.len
    have ok : ∀ c, SgOk ⟨ps, bs, f, c⟩ := fun c => ⟨by dsimp only; omega, by dsimp only; omega, by dsimp only; omega⟩
    have x1 : 0 < ps.length := by omega
    have x2 : (0 : Int) < ps.length := by omega
    have gp := pd_get x1
    have p0 := prds_ok hps 0 x1
    have fa : facI (pdA ps 0) ⟨150, 0⟩ = (1000000, 0) := by
      unfold facI
      rw [pV_t p0, cdV_t c1]
      simp only [if_true]
      rw [fac_one]
    obtain ⟨fv, fw⟩ := fill_ok hfl hv6
    have pf : PfOk f := by unfold PfOk; omega
    generalize pdA ps 0 = q0 at gp fa
    simp (maxSteps:=500000) only [↓vp, vv, ↓reduceIte, simprocAttr, c5, r5, c5_1, c5_2, r5, PcT, T2, T1, selAw, selSg, selFa, selVo, selX, decSg, decPC, decPf, prdsOf_map, btsOf_map, pcsOf_map, tt, prdOf_x, d1, d2, d3, d4, ok, s1, s2, s3, s4, wb, wt, x1, x2, gp, fa, fv, fw, pf, m1, m2, ie, beq_self_eq_true, decide_true, Int.toNat_natCast, Pu]
theorem PackConditions_law (a : Option Addr) (len cap : Nat) (x y : Int) (w : World) (h : ArgInts w a len cap) (x0 : 0 ≤ x) (x1 : x ≤ 255) (y0 : 0 ≤ y) (y1 : y ≤ 255) (hsp : LaidFacts w) :
    Calls Tryd.prog 5 #[.slice a len cap, .int .u8 x, .int .u8 y] w (Ret (.bool true) w) := by
  refine law_intsG (us := [.int .u8 x, .int .u8 y]) (glOk_of hsp) h fun ns hns => ?_
  have := PCon_c ns hns x.toNat y.toNat (by omega) (by omega) (0, 0)
  rw [show ((x.toNat : Nat) : Int) = x by omega, show ((y.toNat : Nat) : Int) = y by omega] at this
  exact this
end Go.Proofs.YtehmmnnmkapfeaaDoor
