
/- Troubles out of a source. -/
import Derived.Test.YtfkhjkkhdfcnjaaTr3
namespace Go.Proofs.Ytfkhjkkhdfcnjaa
open Go
set_option linter.unusedVariables false
set_option linter.unusedSimpArgs false
set_option maxRecDepth 100000

set_option maxHeartbeats 4000000 in
theorem Numbers_c (a b c d : List (List D)) (v s : Int) (hb : b.length ≤ 1000000) (hc : c.length ≤ 1000000) (nn : Nm) : CallsA Try.prog 57 [.agg [.sl a, .sl b, .sl c, .sl d, di v, di s]] Hp.none nn (Pu (di (b.length + c.length)) Hp.none) := by
  obtain ⟨code, h1, h2⟩ := c57_ok
  refine callsA_of (T0_ok _) mixed (N := fun t => (0, t)) Try.func57 h1 h2 r57_ok [] false js_nil js_nil' (by simp [Try.f57]) ?_
  have w : IntKind.i64.wrap ((b.length : Int) + c.length) = b.length + c.length := wrap_i (by omega)
  simp (config := { maxSteps := 500000 }) only [↓vp, vv, implies_true, forall_const, undef, InI, ↓reduceIte, simprocAttr, c57, r57, w, Pu]
def selNum : List D → Option (Prop × D)
  | [.agg [.sl a, .sl b, .sl c, .sl d, .v (.int .i64 v), .v (.int .i64 s)]] => some (b.length ≤ 1000000 ∧ c.length ≤ 1000000, di (b.length + c.length))
  | _ => Option.none
def TT3 : Tbl := tc 74 (rowSrc selPick di) (tc 57 (rowPu selNum) T1)
theorem TT3_ok : TblOk Try.prog TT3 := by
  refine tc_src f74_ok (fun args pre post h hp => ?_) (tc_pu f57_ok (fun args pre d h hp nn => ?_) T1_ok)
  · unfold selPick at h
    split at h
    · split at h
      · rename_i ns hns
        cases h
        obtain ⟨h0, hl⟩ := hp
        rw [intsOf_eq hns]
        refine ⟨?_, Pick_c _ h0 hl⟩
        cases ns with
        | nil => exact absurd rfl h0
        | cons n ns => exact ⟨n, List.mem_cons_self ..⟩
      · cases h
    · cases h
  · unfold selNum at h
    split at h <;> cases h
    exact Numbers_c _ _ _ _ _ _ hp.1 hp.2 nn
structure TrOk (p q : Nat) (x : Tro) : Prop where
  kind : 1 ≤ x.kind ∧ x.kind ≤ 4
  index : 0 ≤ x.index ∧ x.index < p + q
  value : -100000 ≤ x.value ∧ x.value ≤ 100000
  fr : 0 ≤ x.fr ∧ x.fr ≤ 7
  to : x.to = x.fr ∨ x.to = x.fr + 1 ∨ x.to = x.fr + 5 ∨ x.to = x.fr + 100
  k1 : x.kind = 1 → x.index < p ∧ 1 ≤ x.value ∧ x.value ≤ 300
  k2 : x.kind = 2 → x.index < q
  k3 : x.kind = 3 → x.index < q ∧ x.value = 0
  k4 : x.kind = 4 → x.value = 0
def TrsOk (p q : Nat) (most : Int) (l : List Tro) : Prop := (l.length : Int) ≤ most ∧ ∀ x ∈ l, TrOk p q x
def TrEnc (l : List Tro) : D := .sl (l.map Tro.row)
def TrHp (i : Nm) (L : List (List D)) (at' : Int) (g : Nat) (l : List Tro) (r : List D) : Hp := ((Hp.none.put (i.1 + 1, 1000) ⟨g, 5, l.map Tro.row⟩).put (i.1 + 1, 4) ⟨0, 6, [r]⟩).put i (sE L at')
def TrFr (i : Nm) (g n : Nat) (c : Int) : List (Nat × D) := [(0, .ptr i 0 0 0), (4, .ptr (i.1 + 1, 4) 0 0 0), (7, .own (i.1 + 1, 1000) g 0 n), (8, di c)]
set_option maxHeartbeats 8000000 in
theorem Troubles_c (a b c d : List (List D)) (v s most : Int) (hb : 1 ≤ b.length ∧ b.length ≤ 1000000) (hc : 1 ≤ c.length ∧ c.length ≤ 1000000) (hm : 0 ≤ most ∧ most ≤ 1000) :
    SrcC Try.prog 19 [.agg [.sl a, .sl b, .sl c, .sl d, di v, di s], di most] (TrsOk b.length c.length most) TrEnc := by
  intro i L at' nn ho
  obtain ⟨code, h1, h2⟩ := c19_ok
  refine callsA_of TT3_ok mixed (N := fun t => (i.1 + 1, t)) Try.func19 h1 h2 r19_ok [i] false js_one js_one' (by simp [Try.f19]) ?_
  have w0 : IntKind.i64.wrap (most + 1) = most + 1 := wrap_i (by omega)
  simp (config := { maxSteps := 500000 }) only [↓vp, vv, implies_true, forall_const, undef, InI, ↓reduceIte, simprocAttr, c19, TT3, T1, selI, selPick, selNum, ho, w0]
  refine ⟨by omega, fun a1 n hn => ?_⟩
  unfold NPost at hn
  rw [vc_loop]
  refine ⟨fun m st => ∃ at' g l, SrcOk L at' ∧ (∀ x ∈ l, TrOk b.length c.length x) ∧ (l.length : Int) + m ≤ most ∧ st = ⟨fr (TrFr i g l.length m), TrHp i L at' g l [.sl a, .sl b, .sl c, .sl d, di v, di s]⟩, ⟨n.toNat, _, (weak_own 7 (i.1 + 1, 1000) 5 (by simp (config := { maxSteps := 500000 }) only [↓vp, vv, implies_true, forall_const, undef, InI, ↓reduceIte, simprocAttr, ]) (by simp (config := { maxSteps := 500000 }) only [↓vp, vv, implies_true, forall_const, undef, InI, ↓reduceIte, simprocAttr, ])).trans (weak_eq [] [i, (i.1 + 1, 4), (i.1 + 1, 1000)] (TrFr i 0 0 n) (by simp (config := { maxSteps := 500000 }) only [↓vp, vv, implies_true, forall_const, undef, InI, ↓reduceIte, simprocAttr, coverS, TrFr]) (by simp (config := { maxSteps := 500000 }) only [↓vp, vv, implies_true, forall_const, undef, InI, ↓reduceIte, simprocAttr, refsF, TrFr]) (by simp (config := { maxSteps := 500000 }) only [↓vp, vv, implies_true, forall_const, undef, InI, ↓reduceIte, simprocAttr, TrFr]) (by simp) (by simp (config := { maxSteps := 500000 }) only [↓vp, vv, implies_true, forall_const, undef, InI, ↓reduceIte, simprocAttr, TrFr]; try rfl)), ⟨a1.1, 0, [], a1.2, by simp, by simp; omega, by rw [show ((n.toNat : Nat) : Int) = n by omega]; rfl⟩⟩, ?_⟩
  rintro m st ⟨at1, g, l, o1, hl, hlm, rfl⟩
  by_cases h1 : (0 : Int) < m
  · have w1 : IntKind.i64.wrap ((m : Int) - 1) = ((m - 1 : Nat) : Int) := by rw [wrap_i (by omega)]; omega
    have fin : ∀ (F : Fr) (H : Hp) (at' : Int) (x' : Tro), SrcOk L at' → TrOk b.length c.length x' → F 0 = .ptr i 0 0 0 → F 4 = .ptr (i.1 + 1, 4) 0 0 0 → F 7 = .own (i.1 + 1, 1000) (g + 1) 0 (l.length + 1) → F 8 = di (m - 1 : Nat) → H i = some (sE L at') → H (i.1 + 1, 4) = some ⟨0, 6, [[.sl a, .sl b, .sl c, .sl d, di v, di s]]⟩ → H (i.1 + 1, 1000) = some ⟨g + 1, 5, l.map Tro.row ++ [x'.row]⟩ →
      ∃ k' s', k' < m ∧ Weak [i] ⟨F, H⟩ s' ∧ ∃ (at' : Int) (g : Nat) (l : List Tro), SrcOk L at' ∧ (∀ x ∈ l, TrOk b.length c.length x) ∧ (l.length : Int) + k' ≤ most ∧ s' = ⟨fr [(0, .ptr i 0 0 0), (4, .ptr (i.1 + 1, 4) 0 0 0), (7, .own (i.1 + 1, 1000) g 0 l.length), (8, di k')], ((Hp.none.put (i.1 + 1, 1000) ⟨g, 5, l.map Tro.row⟩).put (i.1 + 1, 4) ⟨0, 6, [[.sl a, .sl b, .sl c, .sl d, di v, di s]]⟩).put i ⟨0, 2, [[.sl L, di at']]⟩⟩ := fun F H at' x' o hx' f0 f4 f7 f8 hi h4 h10 =>
      ⟨m - 1, _, by omega, weak_eq [] [i, (i.1 + 1, 4), (i.1 + 1, 1000)] (TrFr i (g + 1) (l.length + 1) ((m - 1 : Nat) : Int)) (by simp (config := { maxSteps := 500000 }) only [↓vp, vv, implies_true, forall_const, undef, InI, ↓reduceIte, simprocAttr, coverS, TrFr, f0, f4, f7, f8]) (by simp (config := { maxSteps := 500000 }) only [↓vp, vv, implies_true, forall_const, undef, InI, ↓reduceIte, simprocAttr, refsF, TrFr]) (by simp (config := { maxSteps := 500000 }) only [↓vp, vv, implies_true, forall_const, undef, InI, ↓reduceIte, simprocAttr, hi, h4, h10, Tro.row]) (by simp) (by simp (config := { maxSteps := 500000 }) only [↓vp, vv, implies_true, forall_const, undef, InI, ↓reduceIte, simprocAttr, hi, h4, h10]; try rfl), ⟨at', g + 1, l ++ [x'], o, fun y hy => by
        rcases List.mem_append.1 hy with hy | hy
        · exact hl y hy
        · rw [List.mem_singleton.1 hy]; exact hx', by simp; omega, by simp [TrFr, sE]⟩⟩
    have hb0 : InI (b.length : Int) := by omega
    have hc0 : InI (c.length : Int) := by omega
    have hb1 : InI ((b.length : Int) + c.length) := by omega
    simp (config := { maxSteps := 500000 }) only [↓vp, vv, implies_true, forall_const, undef, InI, ↓reduceIte, simprocAttr, c19, r19, c19_1, c19_2, c19_3, c19_4, c19_5, TT3, T1, selI, selPick, selNum, o1, TrHp, TrFr, h1, w1, Tro.row, hb.2, hc.2, hb0, hc0, hb1]
    intro a1 x hx a2 f hf a3 d hd
    unfold NPost at hx hf
    simp [IsMem] at hd
    have w2 : IntKind.i64.wrap (1 + x) = 1 + x := wrap_i (by omega)
    have w3 : IntKind.i64.wrap (f + d) = f + d := wrap_i (by omega)
    simp only [w2, w3]
    split
    · rename_i hk
      have hk := beq_iff_eq.1 hk
      intro a4 p hp a5 q hq
      unfold NPost at hp
      simp [IsMem] at hq
      refine ⟨⟨by omega, by omega⟩, fin _ _ a5.1 ⟨1 + x, p, q, f, f + d⟩ a5.2 ⟨by dsimp only; omega, by dsimp only; omega, by dsimp only; omega, by dsimp only; omega, by dsimp only; omega, fun h => by simp at h ⊢ <;> omega, fun h => by simp at h ⊢ <;> omega, fun h => by simp at h ⊢ <;> omega, fun h => by simp at h ⊢ <;> omega⟩ ?_ ?_ ?_ ?_ ?_ ?_ ?_⟩ <;> simp (config := { maxSteps := 500000 }) only [↓vp, vv, implies_true, forall_const, undef, InI, ↓reduceIte, simprocAttr, sE, Tro.row, w2, w3]
    · rename_i hk
      have hk : ¬ (1 + x = 1) := fun h => hk (beq_iff_eq.2 h)
      split
      · rename_i hk2
        have hk2 := beq_iff_eq.1 hk2
        intro a4 p hp a5 q hq
        unfold NPost at hp
        simp [IsMem] at hq
        refine ⟨⟨by omega, by omega⟩, fin _ _ a5.1 ⟨1 + x, p, q, f, f + d⟩ a5.2 ⟨by dsimp only; omega, by dsimp only; omega, by dsimp only; omega, by dsimp only; omega, by dsimp only; omega, fun h => by simp at h ⊢ <;> omega, fun h => by simp at h ⊢ <;> omega, fun h => by simp at h ⊢ <;> omega, fun h => by simp at h ⊢ <;> omega⟩ ?_ ?_ ?_ ?_ ?_ ?_ ?_⟩ <;> simp (config := { maxSteps := 500000 }) only [↓vp, vv, implies_true, forall_const, undef, InI, ↓reduceIte, simprocAttr, sE, Tro.row, w2, w3]
      · rename_i hk2
        have hk2 : ¬ (1 + x = 2) := fun h => hk2 (beq_iff_eq.2 h)
        split
        · rename_i hk3
          have hk3 := beq_iff_eq.1 hk3
          intro a4 p hp
          unfold NPost at hp
          refine ⟨⟨by omega, by omega⟩, fin _ _ a4.1 ⟨1 + x, p, 0, f, f + d⟩ a4.2 ⟨by dsimp only; omega, by dsimp only; omega, by simp, by dsimp only; omega, by dsimp only; omega, fun h => by simp at h ⊢ <;> omega, fun h => by simp at h ⊢ <;> omega, fun h => by simp at h ⊢ <;> omega, fun h => by simp at h ⊢ <;> omega⟩ ?_ ?_ ?_ ?_ ?_ ?_ ?_⟩ <;> simp (config := { maxSteps := 500000 }) only [↓vp, vv, implies_true, forall_const, undef, InI, ↓reduceIte, simprocAttr, sE, Tro.row, w2, w3]
        · rename_i hk3
          have hk3 : ¬ (1 + x = 3) := fun h => hk3 (beq_iff_eq.2 h)
          intro a4 p hp
          unfold NPost at hp
          refine ⟨⟨by omega, by omega⟩, fin _ _ a4.1 ⟨1 + x, p, 0, f, f + d⟩ a4.2 ⟨by dsimp only; omega, by dsimp only; omega, by simp, by dsimp only; omega, by dsimp only; omega, fun h => by simp at h ⊢ <;> omega, fun h => by simp at h ⊢ <;> omega, fun h => by simp at h ⊢ <;> omega, fun h => by simp at h ⊢ <;> omega⟩ ?_ ?_ ?_ ?_ ?_ ?_ ?_⟩ <;> simp (config := { maxSteps := 500000 }) only [↓vp, vv, implies_true, forall_const, undef, InI, ↓reduceIte, simprocAttr, sE, Tro.row, w2, w3]
  · simp (config := { maxSteps := 500000 }) only [↓vp, vv, implies_true, forall_const, undef, InI, ↓reduceIte, simprocAttr, c19, r19, c19_1, c19_2, c19_3, c19_4, c19_5, TT3, T1, selI, selPick, selNum, o1, TrHp, TrFr, h1, Tro.row]
    exact ⟨at1, l, o1, ⟨by omega, hl⟩, rfl, rfl⟩
end Go.Proofs.Ytfkhjkkhdfcnjaa
