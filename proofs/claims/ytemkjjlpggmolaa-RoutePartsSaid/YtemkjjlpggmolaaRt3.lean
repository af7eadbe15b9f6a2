
/- Ways through a network: the library's functions, and those of one segment. -/
import Derived.Test.YtemkjjlpggmolaaGFh
import Derived.Test.YtemkjjlpggmolaaRt2
import Derived.Test.YtemkjjlpggmolaaFw4
namespace Go.Proofs.Ytemkjjlpggmolaa
open Go
set_option linter.unusedVariables false
set_option linter.unusedSimpArgs false
set_option maxRecDepth 100000

theorem mask32 {y : Int} (h : 0 ≤ y ∧ y < 4294967296) : ((BitVec.ofInt 64 y &&& BitVec.ofInt 64 4294967295).toNat : Int) = y := by
  obtain ⟨n, rfl⟩ : ∃ n : Nat, y = n := ⟨y.toNat, by omega⟩
  have e : (BitVec.ofInt 64 (n : Int)).toNat = n := by
    rw [BitVec.ofInt_natCast, BitVec.toNat_ofNat]
    exact Nat.mod_eq_of_lt (by omega)
  have e2 : (BitVec.ofInt 64 (4294967295 : Int)).toNat = 2 ^ 32 - 1 := rfl
  rw [BitVec.toNat_and, e, e2, Nat.and_two_pow_sub_one_eq_mod, Nat.mod_eq_of_lt (by omega)]
theorem wrap_u {y : Int} (h : 0 ≤ y ∧ y < 18446744073709551616) : IntKind.u64.wrap y = y := by
  unfold IntKind.wrap
  simp [IntKind.bits, IntKind.signed]
  omega
theorem div32 {y : Int} (h : 0 ≤ y ∧ y < 4294967296) : y.fdiv 4294967296 = 0 := by
  rw [Int.fdiv_eq_ediv_of_nonneg _ (by omega)]
  omega
abbrev du (n : Int) : D := .v (.int .u64 n)
theorem Mul64_c (y : Int) (hy : 0 ≤ y ∧ y < 4294967296) (nn : Nm) : CallsA Try.prog 182 [du 1, du y] Hp.none nn (Pu (.tup [du 0, du y]) Hp.none) := by
  obtain ⟨code, h1, h2⟩ := c182_ok
  refine callsA_of (T0_ok _) mixed (N := fun t => (0, t)) Try.func182 h1 h2 r182_ok [] false js_nil js_nil' (by simp [Try.f182]) ?_
  have m1 : ((BitVec.ofInt IntKind.u64.bits y &&& BitVec.ofInt IntKind.u64.bits 4294967295).toNat : Int) = y := mask32 hy
  have m2 : ((BitVec.ofInt IntKind.u64.bits 1 &&& BitVec.ofInt IntKind.u64.bits 4294967295).toNat : Int) = 1 := mask32 (by omega)
  have m3 : ((BitVec.ofInt IntKind.u64.bits 0 &&& BitVec.ofInt IntKind.u64.bits 4294967295).toNat : Int) = 0 := mask32 (by omega)
  have p1 : (2 : Int) ^ min 32 IntKind.u64.bits = 4294967296 := rfl
  have d4 : Int.fdiv 0 4294967296 = 0 := rfl
  have d1 := div32 hy
  have d2 := div32 (y := 1) (by omega)
  have d3 := div32 (y := 0) (by omega)
  have w1 := wrap_u (y := y) (by omega)
  have w2 := wrap_u (y := 1) (by omega)
  have w3 := wrap_u (y := 0) (by omega)
  simp (config := { maxSteps := 500000 }) only [↓vp, vv, implies_true, forall_const, undef, InI, ↓reduceIte, simprocAttr, c182, r182, r182, p1, d4, Int.one_mul, Int.zero_mul, Int.mul_zero, Int.add_zero, Int.zero_add, m1, m2, m3, d1, d2, d3, w1, w2, w3, Pu]
def repR (v : Int) (m N : Nat) : List (List D) := List.replicate m [di v] ++ List.replicate (N - m) [di 0]
theorem repR_refs (v : Int) (m N : Nat) (js : List Nm) : (∀ r ∈ repR v m N, refsInL js r = true) = True := eq_true fun r hr => by
  unfold repR at hr
  rcases List.mem_append.1 hr with h | h <;> (rw [(List.mem_replicate.1 h).2]; rfl)
def selMul : List D → Option (Prop × D)
  | [.v (.int .u64 x), .v (.int .u64 y)] => some (x = 1 ∧ 0 ≤ y ∧ y < 4294967296, .tup [du 0, du y])
  | _ => Option.none
theorem selMul_ok {f : FuncId} {T : Tbl} (hf : fnOk Try.prog f = true) (h : ∀ y, 0 ≤ y ∧ y < 4294967296 → ∀ nn, CallsA Try.prog f [du 1, du y] Hp.none nn (Pu (.tup [du 0, du y]) Hp.none)) (hT : TblOk Try.prog T) : TblOk Try.prog (tc f (rowPu selMul) T) :=
  tc_pu hf (fun args pre d hs hp nn => by
    unfold selMul at hs
    split at hs
    · cases hs
      obtain ⟨rfl, hp⟩ := hp
      exact h _ hp nn
    · cases hs) hT
theorem Mul_c (y : Int) (hy : 0 ≤ y ∧ y < 4294967296) (nn : Nm) : CallsA Try.prog 178 [du 1, du y] Hp.none nn (Pu (.tup [du 0, du y]) Hp.none) := by
  obtain ⟨code, h1, h2⟩ := c178_ok
  refine callsA_of (selMul_ok f182_ok Mul64_c (T0_ok _)) mixed (N := fun t => (0, t)) Try.func178 h1 h2 r178_ok [] false js_nil js_nil' (by simp [Try.f178]) ?_
  have e0 := hy.1
  have e1 := hy.2
  simp (config := { maxSteps := 500000 }) only [↓vp, vv, implies_true, forall_const, undef, InI, ↓reduceIte, simprocAttr, c178, r178, c178_1, r178, selMul, e0, e1, Pu]
/-- The row of a function that makes something new. -/
def rowOwn (sel : List D → Option (Prop × (Nm → D) × (Nm → Hp))) : List D → Hp → Nm → Option (Prop × (D → Hp → Prop)) := fun args Hs nn =>
  match sel args with
  | some (pre, d, h) => some (Hs = Hp.none ∧ pre, Pu (d nn) (h nn))
  | Option.none => Option.none
theorem tc_own {P : Program} {f : FuncId} {sel : List D → Option (Prop × (Nm → D) × (Nm → Hp))} {T : Tbl} (hf : fnOk P f = true) (h : ∀ args pre d H, sel args = some (pre, d, H) → pre → ∀ nn, CallsA P f args Hp.none nn (Pu (d nn) (H nn))) (hT : TblOk P T) : TblOk P (tc f (rowOwn sel) T) :=
  tc_row hf (fun args Hs nn pre R hr hp => by
    unfold rowOwn at hr
    split at hr
    · rename_i pre' d H hs
      cases hr
      obtain ⟨rfl, hp⟩ := hp
      exact ⟨⟨_, _, rfl, rfl⟩, h _ _ _ _ hs hp nn⟩
    · cases hr) hT
theorem repR_len (v : Int) {m N : Nat} (h : m ≤ N) : (repR v m N).length = N := by unfold repR; simp; omega
theorem repR_one (v : Int) (m N : Nat) : ∀ r ∈ repR v m N, r.length = 1 := fun r hr => by
  unfold repR at hr
  rcases List.mem_append.1 hr with h | h <;> (rw [(List.mem_replicate.1 h).2]; rfl)
theorem repR_next (v : Int) {m N : Nat} (h : m ≤ N) : (repR v m N).take m ++ ((repR v m N).take m).take (min m (N - m)) ++ (repR v m N).drop (m + min m (N - m)) = repR v (m + min m (N - m)) N := by
  have e1 : (repR v m N).take m = List.replicate m [di v] := by unfold repR; rw [List.take_append_of_le_length (by simp), List.take_of_length_le (by simp)]
  have e2 : (repR v m N).drop (m + min m (N - m)) = List.replicate (N - (m + min m (N - m))) [di 0] := by
    unfold repR
    rw [List.drop_append, List.length_replicate, List.drop_of_length_le (by simp), List.nil_append, List.drop_replicate]
    congr 1
    omega
  rw [e1, e2, List.take_replicate, List.replicate_append_replicate]
  unfold repR
  congr 2
  omega
theorem cvi_u {n : Nat} (h : n ≤ 4294967295) : IntKind.u64.wrap (n : Int) = n := wrap_u (by omega)
set_option maxHeartbeats 4000000 in
theorem Repeat_c (v : Int) (N : Nat) (hN : 1 ≤ N ∧ N ≤ 1000000) (nn : Nm) : CallsA Try.prog 157 [.sl [[di v]], di N] Hp.none nn (Pu (.own nn 0 0 N) (Hp.none.put nn ⟨0, 1, List.replicate N [di v]⟩)) := by
  obtain ⟨code, h1, h2⟩ := c157_ok
  refine callsA_of (selMul_ok f178_ok Mul_c (T0_ok _)) mixed (N := fun _ => nn) Try.func157 h1 h2 r157_ok [nn] true js_nn js_nn' (by simp [Try.f157]) ?_
  have hN0 := idx_nn N
  have hN1 : decide ((N : Int) < 0) = false := decide_eq_false (by omega)
  have m1 : min 1 N = 1 := by omega
  have hN1' : N ≤ N := Nat.le_refl _
  have hN2 : (N : Int) < 4294967296 := by omega
  have c1 : IntKind.u64.wrap (N : Int) = N := wrap_u (by omega)
  have c2 : IntKind.u64.wrap (1 : Int) = 1 := wrap_u (by omega)
  have c3 : decide ((N : Int) > 9223372036854775807) = false := decide_eq_false (by omega)
  have e0 : [di v] :: List.drop 1 (List.replicate N [di 0]) = repR v 1 N := by
    unfold repR; rw [List.drop_replicate]; rfl
  have c4 : IntKind.i64.wrap (N : Int) = N := wrap_i (by omega)
  have z1 : (8 : Int) * N ≤ 281474976710656 := by omega
  have z2 : (N : Int) ≤ 4611686018427387904 := by omega
  simp (config := { maxSteps := 500000 }) only [↓vp, vv, implies_true, forall_const, undef, InI, ↓reduceIte, simprocAttr, c157, c157_5, c157_4, selMul, hN0, hN1, hN2, c1, c2, c3, c4, z1, z2, m1, hN1', e0, decide_false, Bool.not_false, List.length_replicate, Int.toNat_natCast]
  rw [vc_loop]
  refine ⟨fun k s => ∃ m : Nat, 1 ≤ m ∧ m + k = N ∧ s = ⟨fr [(7, .own nn 0 0 N), (8, di m)], Hp.none.put nn ⟨0, 1, repR v m N⟩⟩, ⟨N - 1, _, (weak_eq [] [nn] [(7, .own nn 0 0 N), (8, di (1 : Nat))] (by simp (config := { maxSteps := 500000 }) only [↓vp, vv, implies_true, forall_const, undef, InI, ↓reduceIte, simprocAttr, coverS, e0, repR_refs]) (by simp (config := { maxSteps := 500000 }) only [↓vp, vv, implies_true, forall_const, undef, InI, ↓reduceIte, simprocAttr, refsF, e0, repR_refs]) (by simp (config := { maxSteps := 500000 }) only [↓vp, vv, implies_true, forall_const, undef, InI, ↓reduceIte, simprocAttr, e0, repR_refs]) (by simp) (by simp (config := { maxSteps := 500000 }) only [↓vp, vv, implies_true, forall_const, undef, InI, ↓reduceIte, simprocAttr, e0, repR_refs]; try rfl)), 1, Nat.le_refl _, by omega, rfl⟩, ?_⟩
  rintro k s ⟨m, hm, hk, rfl⟩
  have hm0 := idx_nn m
  have lr := repR_len v (show m ≤ N by omega)
  by_cases hlt : m < N
  · have hlt' : (m : Int) < N := by omega
    have hle : m ≤ N := by omega
    have hle' : (m : Int) ≤ N := by omega
    have hmm : min m (N - m) ≥ 1 := by omega
    have w1 : IntKind.i64.wrap ((m : Int) + ((min m (N - m) : Nat) : Int)) = ((m + min m (N - m) : Nat) : Int) := by rw [wrap_i (by omega)]; omega
    have r1 := repR_next v hle
    have o1 : (∀ r ∈ (repR v m N).take m, r.length = 1) = True := eq_true fun r hr => repR_one v m N r (List.mem_of_mem_take hr)
    have lt1 : ((repR v m N).take m).length = m := by rw [List.length_take]; omega
    have b1 : m + (N - m) ≤ N := by omega
    have b2 : 0 < min m (N - m) := by omega
    simp (config := { maxSteps := 500000 }) only [↓vp, vv, implies_true, forall_const, undef, InI, ↓reduceIte, simprocAttr, c157_2, c157_1, hlt', hle, hle', hm0, w1, r1, lr, o1, lt1, b1, b2, Nat.sub_zero, Int.toNat_natCast]
    exact ⟨N - (m + min m (N - m)), _, by omega, (weak_eq [] [nn] [(7, .own nn 0 0 N), (8, di (m + min m (N - m) : Nat))] (by simp (config := { maxSteps := 500000 }) only [↓vp, vv, implies_true, forall_const, undef, InI, ↓reduceIte, simprocAttr, coverS, repR_refs]) (by simp (config := { maxSteps := 500000 }) only [↓vp, vv, implies_true, forall_const, undef, InI, ↓reduceIte, simprocAttr, refsF, repR_refs]) (by simp (config := { maxSteps := 500000 }) only [↓vp, vv, implies_true, forall_const, undef, InI, ↓reduceIte, simprocAttr, repR_refs]) (by simp) (by simp (config := { maxSteps := 500000 }) only [↓vp, vv, implies_true, forall_const, undef, InI, ↓reduceIte, simprocAttr, repR_refs]; try rfl)), m + min m (N - m), by omega, by omega, rfl⟩
  · obtain rfl : m = N := by omega
    have e1 : repR v m m = List.replicate m [di v] := by unfold repR; rw [Nat.sub_self]; simp
    simp (config := { maxSteps := 500000 }) only [↓vp, vv, implies_true, forall_const, undef, InI, ↓reduceIte, simprocAttr, c157_2, c157_3, r157, Int.lt_irrefl, e1, Pu]
    exact fun r hr => by rw [(List.mem_replicate.1 hr).2]; rfl
set_option maxHeartbeats 4000000 in
theorem Clone_c (c : List Bool) (hc : 1 ≤ c.length ∧ c.length ≤ 1000000) (nn : Nm) : CallsA Try.prog 132 [.sl (c.map bRow)] Hp.none nn (Pu (.own nn 1 0 c.length) (Hp.none.put nn ⟨1, 1, c.map bRow⟩)) := by
  obtain ⟨code, h1, h2⟩ := c132_ok
  refine callsA_of (T0_ok _) mixed (N := fun _ => nn) Try.func132 h1 h2 r132_ok [nn] true js_nn js_nn' (by simp [Try.f132]) ?_
  have a1 : 0 < c.length := by omega
  have a2 : c.length ≤ 140737488355328 := by omega
  have a3 : c.length ≤ 4611686018427387904 := by omega
  have o1 : (∀ r ∈ c.map bRow, r.length = 1) = True := eq_true fun r hr => by obtain ⟨b, _, rfl⟩ := List.mem_map.1 hr; rfl
  have o2 : (∀ r ∈ c.map bRow, refsInL [nn] r = true) = True := eq_true fun r hr => by obtain ⟨b, _, rfl⟩ := List.mem_map.1 hr; rfl
  simp (config := { maxSteps := 500000 }) only [↓vp, vv, implies_true, forall_const, undef, InI, ↓reduceIte, simprocAttr, c132, r132, c132_1, r132, a1, a2, a3, o1, o2, Pu]
  exact ⟨⟨fun j _ => rfl, by omega⟩, fun j _ => rfl⟩
/-- A network of which some segments are closed. -/
def gD (n : Net) (c : List Bool) : List D := [.sl (n.nodes.map nmRow), .sl (n.segs.map Seg.row), .sl (n.ports.map Port.row), .sl (n.sts.map Stn.row), di n.vap, di n.set, .sl (c.map bRow)]
def gOf1 : List D → Option (Net × List Bool)
  | [a, b, c, d, e, f, .sl rows] => match netOf1 [a, b, c, d, e, f], lsOf boolOf1 rows with
    | some n, some c => some (n, c)
    | _, _ => Option.none
  | _ => Option.none
theorem gOf1_row (n : Net) (c : List Bool) : gOf1 (gD n c) = some (n, c) := by
  have e1 : netOf1 [D.sl (n.nodes.map nmRow), .sl (n.segs.map Seg.row), .sl (n.ports.map Port.row), .sl (n.sts.map Stn.row), di n.vap, di n.set] = some n := netOf1_row n
  have e2 : lsOf boolOf1 (c.map bRow) = some c := lsOf_map boolOf1_row c
  unfold gD gOf1
  simp only [e1, e2]
theorem gOf1_eq {r : List D} {n : Net} {c : List Bool} (h : gOf1 r = some (n, c)) : r = gD n c := by
  unfold gOf1 at h
  split at h
  · split at h
    · rename_i e1 e2
      cases h
      have := netOf1_eq e1
      unfold netD at this
      rw [lsOf_eq (fun r x => boolOf1_eq) e2]
      injection this with q1 this
      injection this with q2 this
      injection this with q3 this
      injection this with q4 this
      injection this with q5 this
      injection this with q6 this
      rw [q1, q2, q3, q4, q5, q6]
      rfl
    · cases h
  · cases h
structure RtV (n : Net) (c : List Bool) : Prop where
  z : NetSz n
  ck : checkI n = 0
  l : c.length = n.segs.length
theorem RtV.v {n : Net} {c : List Bool} (h : RtV n c) : NetV n := check0 h.ck
theorem RtV.ok {n : Net} {c : List Bool} (h : RtV n c) : RtOk n c := ⟨h.l, fun x hx => by
  have := h.v.se x.1 (List.of_mem_zip hx).1
  exact ⟨this.1, this.2.1⟩⟩
def ovD : Option (Nat × Bool) → D
  | some (w, b) => .tup [di w, db b, db true]
  | Option.none => .tup [di 0, db false, db false]
set_option maxHeartbeats 4000000 in
theorem over_c (n : Net) (c : List Bool) (h : RtV n c) (k v : Nat) {x : Seg × Bool} (hx : (n.segs.zip c)[k]? = some x) (nn : Nm) : CallsA Try.prog 125 [.agg (gD n c), di k, di v] Hp.none nn (Pu (ovD (ovr x v)) Hp.none) := by
  obtain ⟨code, h1, h2⟩ := c125_ok
  refine callsA_of (T0_ok _) mixed (N := fun t => (0, t)) Try.func125 h1 h2 r125_ok [] false js_nil js_nil' (by simp [Try.f125]) ?_
  have hk : k < (n.segs.zip c).length := by
    rcases Nat.lt_or_ge k (n.segs.zip c).length with h1 | h1
    · exact h1
    · rw [List.getElem?_eq_none h1] at hx; cases hx
  have hl := h.l
  rw [List.length_zip] at hk
  have hks : k < n.segs.length := by omega
  have hks' : (k : Int) < n.segs.length := by omega
  have hkc : k < c.length := by omega
  have hkc' : (k : Int) < c.length := by omega
  have hk0 := idx_nn k
  rw [zip_get hks hkc] at hx
  cases hx
  have hgs := getD_map Seg.row n.segs k hks
  have hgc := getD_map bRow c k hkc
  have hsn := h.v.se n.segs[k] (List.getElem_mem hks)
  generalize n.segs[k] = s at hgs hsn
  generalize c[k] = b at hgc
  have e1 : ((s.to.toNat : Nat) : Int) = s.to := by omega
  have e2 : ((s.fr.toNat : Nat) : Int) = s.fr := by omega
  unfold ovr
  cases b with
  | true =>
    simp (config := { maxSteps := 500000 }) only [↓vp, vv, implies_true, forall_const, undef, InI, ↓reduceIte, simprocAttr, c125, r125, c125_1, r125, gD, Seg.row, bRow, hks', hkc', hk0, Int.toNat_natCast, hgs, hgc, ovD, Pu]
  | false =>
    by_cases q1 : s.fr = v
    · have q1' : (s.fr == (v : Int)) = true := by rw [beq_iff_eq]; exact q1
      simp only [q1, if_true, if_false, Bool.false_eq_true, ovD, e1]
      simp (config := { maxSteps := 500000 }) only [↓vp, vv, implies_true, forall_const, undef, InI, ↓reduceIte, simprocAttr, c125, r125, c125_1, r125, gD, Seg.row, bRow, hks', hkc', hk0, Int.toNat_natCast, hgs, hgc, q1', Pu]
    · have q1' : (s.fr == (v : Int)) = false := by rw [beq_eq_false_iff_ne]; exact q1
      by_cases q2 : s.to = v
      · have q2' : (s.to == (v : Int)) = true := by rw [beq_iff_eq]; exact q2
        simp only [q1, q2, if_true, if_false, Bool.false_eq_true, ovD, e2]
        simp (config := { maxSteps := 500000 }) only [↓vp, vv, implies_true, forall_const, undef, InI, ↓reduceIte, simprocAttr, c125, r125, c125_1, r125, gD, Seg.row, bRow, hks', hkc', hk0, Int.toNat_natCast, hgs, hgc, q1', q2', Pu]
      · have q2' : (s.to == (v : Int)) = false := by rw [beq_eq_false_iff_ne]; exact q2
        simp only [q1, q2, if_false, Bool.false_eq_true, ovD]
        simp (config := { maxSteps := 500000 }) only [↓vp, vv, implies_true, forall_const, undef, InI, ↓reduceIte, simprocAttr, c125, r125, c125_1, r125, gD, Seg.row, bRow, hks', hkc', hk0, Int.toNat_natCast, hgs, hgc, q1', q2', Pu]
/-- No element. -/
theorem weak_mt {J : List Nm} {F : Fr} {H : Hp} (t : Nat) (h : F t = .mt) : Weak J ⟨F, H⟩ ⟨putF F (some t) (.sl []), H⟩ := by
  intro E hE Im p a w hR
  refine ⟨Im, p, hR.sz, fun k => ?_, hR.hp, hR.en, hR.gr, hR.df⟩
  dsimp only [putF]
  by_cases hk : k = t
  · subst hk
    rw [if_pos rfl]
    have r := hR.fr k
    dsimp only at r
    rw [h] at r
    obtain ⟨ao, ex⟩ := rel_mt r
    rw [ex]
    exact .p (.sl0 ao 0)
  · rw [if_neg (by simpa using hk)]
    exact hR.fr k
/-- The first error of a network, of what is closed, of nodes. -/
def gchk (n : Net) (c : List Bool) (ks : List Int) : Int := if checkI n ≠ 0 then checkI n else if c.length ≠ n.segs.length then 9 else if ks.any (unk n) = true then 8 else 0
theorem gk1_c (n : Net) (c : List Bool) (k : Int) (nn : Nm) : CallsA Try.prog 156 [di k, .ip (gD n c)] Hp.none nn (Pu (db (unk n k)) Hp.none) := by
  obtain ⟨code, h1, h2⟩ := c156_ok
  refine callsA_of (T0_ok _) mixed (N := fun t => (0, t)) Try.func156 h1 h2 r156_ok [] false js_nil js_nil' (by simp [Try.f156]) ?_
  cases a1 : decide (k < 0) <;> simp (config := { maxSteps := 500000 }) only [↓vp, vv, implies_true, forall_const, undef, InI, ↓reduceIte, simprocAttr, c156, r156, gD, a1, unk, Pu]
def TGk (P : Program) (n : Net) : Tbl := tc 80 (rowPu (selQ P false 1 (fun g l => qRow intOf1 (unk n)) outC)) (tc 78 (rowPu (selNet fun n => di (checkI n))) T0)
theorem TGk_ok (n : Net) : TblOk Try.prog (TGk Try.prog n) := by
  refine tc_pu f80_ok (fun args pre d h hp nn => ?_) (tc_netf f78_ok (fun n hz nn => check_c n hz nn) (T0_ok _))
  unfold selQ at h
  split at h
  · split at h
    · rename_i hi
      cases h
      rw [ipsOf_eq hi]
      exact hasF_I _ _ _ _ hp nn
    · cases h
  · cases h
set_option maxHeartbeats 4000000 in
theorem gcheck_c (n : Net) (hz : NetSz n) (c : List Bool) (a1 : D) (ks : List Int) (hk : ks.length ≤ 1000) (ha : a1 = .sl (ks.map iRow) ∨ (a1 = .mt ∧ ks = [])) (nn : Nm) : CallsA Try.prog 123 [.agg (gD n c), a1] Hp.none nn (Pu (di (gchk n c ks)) Hp.none) := by
  obtain ⟨code, h1, h2⟩ := c123_ok
  refine callsA_of (TGk_ok n) mixed (N := fun t => (0, t)) Try.func123 h1 h2 r123_ok [] false js_nil js_nil' (by simp [Try.f123]) ?_
  have hn1 : netOf1 [D.sl (n.nodes.map nmRow), .sl (n.segs.map Seg.row), .sl (n.ports.map Port.row), .sl (n.sts.map Stn.row), di n.vap, di n.set] = some n := netOf1_row n
  have hq : QOk Try.prog false 1 (qRow intOf1 (unk n)) 156 [gD n c] (ks.map iRow) := by
    refine ⟨f156_ok, by rw [List.length_map]; omega, fun r hr => ?_⟩
    obtain ⟨x, _, rfl⟩ := List.mem_map.1 hr
    exact ⟨rfl, rfl, fun _ => ⟨_, rfl⟩, fun nn => gk1_c n c x nn⟩
  have ho : outC (fun r => qRow intOf1 (unk n) (elV false r)) (ks.map iRow) = db (ks.any (unk n)) := by
    unfold outC
    rw [List.any_map]
    rfl
  have fin : ∀ (F : Fr) (H : Hp), checkI n = 0 → c.length = n.segs.length → Weak [] ⟨F, H⟩ ⟨fr [(1, .sl (ks.map iRow)), (2, .ptr (0, 2) 0 0 0)], Hp.none.put (0, 2) ⟨0, 7, [gD n c]⟩⟩ → vc (TGk Try.prog n) (fun t => (0, t)) [] (.weak c123_2) (finQ r123 [] false (Pu (di (gchk n c ks)) Hp.none)) ⟨F, H⟩ := fun F H e1 e2 hw => by
    refine vc_wk (hw.trans ((weak_ip 2 (0, 2) 0 7 (gD n c) (by simp (config := { maxSteps := 500000 }) only [↓vp, vv, implies_true, forall_const, undef, InI, ↓reduceIte, simprocAttr, ]) (by simp (config := { maxSteps := 500000 }) only [↓vp, vv, implies_true, forall_const, undef, InI, ↓reduceIte, simprocAttr, gD]) (by simp (config := { maxSteps := 500000 }) only [↓vp, vv, implies_true, forall_const, undef, InI, ↓reduceIte, simprocAttr, gD]) (by simp)).trans (weak_eq [] [] [(1, .sl (ks.map iRow)), (2, .ip (gD n c))] (by simp (config := { maxSteps := 500000 }) only [↓vp, vv, implies_true, forall_const, undef, InI, ↓reduceIte, simprocAttr, coverS, iRow]) (by simp (config := { maxSteps := 500000 }) only [↓vp, vv, implies_true, forall_const, undef, InI, ↓reduceIte, simprocAttr, refsF]) (by simp (config := { maxSteps := 500000 }) only [↓vp, vv, implies_true, forall_const, undef, InI, ↓reduceIte, simprocAttr, ]) (by simp) (by simp (config := { maxSteps := 500000 }) only [↓vp, vv, implies_true, forall_const, undef, InI, ↓reduceIte, simprocAttr, ]; try rfl)))) ?_
    have g : gchk n c ks = if ks.any (unk n) = true then 8 else 0 := by unfold gchk; rw [if_neg (by omega), if_neg (by omega)]
    rw [g]
    cases hb : ks.any (unk n) <;> (rw [hb] at ho; simp (config := { maxSteps := 500000 }) only [↓vp, vv, implies_true, forall_const, undef, InI, ↓reduceIte, simprocAttr, c123_2, c123_1, r123, TGk, selQ, ipsOf, hq, ho, Pu])
  cases c1 : (checkI n != 0) with
  | true =>
    have e1 : checkI n ≠ 0 := by simpa using c1
    have g : gchk n c ks = checkI n := by unfold gchk; rw [if_pos e1]
    rw [g]
    rcases ha with rfl | ⟨rfl, rfl⟩ <;> simp (config := { maxSteps := 500000 }) only [↓vp, vv, implies_true, forall_const, undef, InI, ↓reduceIte, simprocAttr, c123, gD, TGk, selNet, hn1, hz, c1, r123, Pu]
  | false =>
    have e1 : checkI n = 0 := by simpa using c1
    rw [e1] at c1
    cases c2 : ((c.length : Int) != (n.segs.length : Int)) with
    | true =>
      have e2 : c.length ≠ n.segs.length := fun h => by rw [h] at c2; simp at c2
      have g : gchk n c ks = 9 := by unfold gchk; rw [if_neg (by omega), if_pos e2]
      rw [g]
      rcases ha with rfl | ⟨rfl, rfl⟩ <;> simp (config := { maxSteps := 500000 }) only [↓vp, vv, implies_true, forall_const, undef, InI, ↓reduceIte, simprocAttr, c123, c123_3, gD, TGk, selNet, hn1, hz, c1, c2, e1, r123, Pu]
    | false =>
      have e2 : c.length = n.segs.length := by simp at c2; omega
      rcases ha with rfl | ⟨rfl, rfl⟩
      · simp (config := { maxSteps := 500000 }) only [↓vp, vv, implies_true, forall_const, undef, InI, ↓reduceIte, simprocAttr, c123, c123_3, gD, TGk, selNet, hn1, hz, c1, c2, e1]
        refine fin _ _ e1 e2 ?_
        exact (weak_eq [] [(0, 2)] [(1, .sl (ks.map iRow)), (2, .ptr (0, 2) 0 0 0)] (by simp (config := { maxSteps := 500000 }) only [↓vp, vv, implies_true, forall_const, undef, InI, ↓reduceIte, simprocAttr, coverS, gD, iRow]) (by simp (config := { maxSteps := 500000 }) only [↓vp, vv, implies_true, forall_const, undef, InI, ↓reduceIte, simprocAttr, refsF, gD, iRow]) (by simp (config := { maxSteps := 500000 }) only [↓vp, vv, implies_true, forall_const, undef, InI, ↓reduceIte, simprocAttr, gD, iRow]) (by simp) (by simp (config := { maxSteps := 500000 }) only [↓vp, vv, implies_true, forall_const, undef, InI, ↓reduceIte, simprocAttr, gD, iRow]; try rfl))
      · simp (config := { maxSteps := 500000 }) only [↓vp, vv, implies_true, forall_const, undef, InI, ↓reduceIte, simprocAttr, c123, c123_3, gD, TGk, selNet, hn1, hz, c1, c2, e1]
        refine fin _ _ e1 e2 ?_
        exact (weak_mt 1 (by simp (config := { maxSteps := 500000 }) only [↓vp, vv, implies_true, forall_const, undef, InI, ↓reduceIte, simprocAttr, ])).trans (weak_eq [] [(0, 2)] [(1, .sl []), (2, .ptr (0, 2) 0 0 0)] (by simp (config := { maxSteps := 500000 }) only [↓vp, vv, implies_true, forall_const, undef, InI, ↓reduceIte, simprocAttr, coverS, gD, iRow]) (by simp (config := { maxSteps := 500000 }) only [↓vp, vv, implies_true, forall_const, undef, InI, ↓reduceIte, simprocAttr, refsF, gD, iRow]) (by simp (config := { maxSteps := 500000 }) only [↓vp, vv, implies_true, forall_const, undef, InI, ↓reduceIte, simprocAttr, gD, iRow]) (by simp) (by simp (config := { maxSteps := 500000 }) only [↓vp, vv, implies_true, forall_const, undef, InI, ↓reduceIte, simprocAttr, gD, iRow]; try rfl))
end Go.Proofs.Ytemkjjlpggmolaa
