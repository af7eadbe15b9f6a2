
/- Troubles out of a source, as a slice of one's own. -/
import Derived.Test.YtfkhjkkhdfcnjaaTm2
import Derived.Test.YtfkhjkkhdfcnjaaWr
import Derived.Test.YtfkhjkkhdfcnjaaNw
import Derived.Test.YtfkhjkkhdfcnjaaBridge
/- Troubles out of a source, as a slice of one's own. -/
namespace Go.Proofs.Ytfkhjkkhdfcnjaa
open Go
set_option linter.unusedVariables false
set_option linter.unusedSimpArgs false
set_option maxRecDepth 100000

/-- What a function yields that reads from a source and makes a slice. -/
def SrcO {α : Type} (i nn : Nm) (L : List (List D)) (sz : Nat) (row : α → List D) (post : List α → Prop) : D → Hp → Prop := fun v H' => ∃ at' g l, SrcOk L at' ∧ post l ∧ v = .own nn g 0 l.length ∧ H' = (Hp.none.put nn ⟨g, sz, l.map row⟩).put i (sE L at')
theorem SrcO_all {α : Type} (i nn : Nm) (L : List (List D)) (sz : Nat) (row : α → List D) (post : List α → Prop) (K : D → Hp → Prop) : (∀ v H', SrcO i nn L sz row post v H' → K v H') = ∀ (at' : SA L) (g : Nat) (l : List α), post l → K (.own nn g 0 l.length) ((Hp.none.put nn ⟨g, sz, l.map row⟩).put i (sE L at'.1)) :=
  propext ⟨fun h at' g l h2 => h _ _ ⟨at'.1, g, l, at'.2, h2, rfl, rfl⟩, fun h v H' ⟨at', g, l, h1, h2, e1, e2⟩ => by rw [e1, e2]; exact h ⟨at', h1⟩ g l h2⟩
theorem js_two (i nn : Nm) (e : En) : ∀ (j : Nm) (x : En), (Hp.none.put i e) j = some x → j ∈ [i, nn] := fun j x h => by
  by_cases hj : j = i
  · rw [hj]; exact List.mem_cons_self ..
  · rw [Hp.put_other _ hj] at h; cases h
theorem js_two' (i nn : Nm) (e : En) : ∀ j ∈ [i, nn], ((Hp.none.put i e) j).isSome = true ∨ j = nn := fun j h => by
  rcases List.mem_cons.1 h with h | h
  · rw [h, Hp.put_same]; exact .inl rfl
  · exact .inr (List.mem_singleton.1 h)
def TrHo (i nn : Nm) (L : List (List D)) (at' : Int) (g : Nat) (l : List Tro) (r : List D) : Hp := ((Hp.none.put nn ⟨g, 5, l.map Tro.row⟩).put (i.1 + 1, 4) ⟨0, 6, [r]⟩).put i (sE L at')
def TrFo (i nn : Nm) (g n : Nat) (c : Int) : List (Nat × D) := [(0, .ptr i 0 0 0), (4, .ptr (i.1 + 1, 4) 0 0 0), (7, .own nn g 0 n), (8, di c)]
set_option maxHeartbeats 8000000 in
theorem Troubles_o (a b c d : List (List D)) (v s most : Int) (hb : 1 ≤ b.length ∧ b.length ≤ 1000000) (hc : 1 ≤ c.length ∧ c.length ≤ 1000000) (hm : 0 ≤ most ∧ most ≤ 1000) :
    ∀ i L at' nn, SrcOk L at' → nn.1 ≤ i.1 → nn ≠ i → CallsA Try.prog 19 [.ptr i 0 0 0, .agg [.sl a, .sl b, .sl c, .sl d, di v, di s], di most] (Hp.none.put i (sE L at')) nn (SrcO i nn L 5 Tro.row (TrsOk b.length c.length most)) := by
  intro i L at' nn ho hn1 hn2
  have hn3 : ¬ i = nn := fun e => hn2 e.symm
  have hn4 : ∀ t : Nat, ¬ nn = (i.1 + 1, t) := fun t e => by rw [e] at hn1; dsimp only at hn1; omega
  have hn5 : ∀ t : Nat, ¬ (i.1 + 1, t) = nn := fun t e => hn4 t e.symm
  have hn6 : ¬ nn = i := hn2
  obtain ⟨code, h1, h2⟩ := c19_ok
  refine callsA_of TT3_ok mixed (N := fun t => (i.1 + 1, t)) Try.func19 h1 h2 r19_ok [i, nn] true (js_two i nn _) (js_two' i nn _) (by simp [Try.f19]) ?_
  have w0 : IntKind.i64.wrap (most + 1) = most + 1 := wrap_i (by omega)
  simp (config := { maxSteps := 500000 }) only [↓vp, vv, implies_true, forall_const, undef, InI, ↓reduceIte, simprocAttr, hn3, hn4, hn5, hn6, c19, TT3, T1, selI, selPick, selNum, ho, w0]
  refine ⟨by omega, fun a1 n hn => ?_⟩
  unfold NPost at hn
  rw [vc_loop]
  refine ⟨fun m st => ∃ at' g l, SrcOk L at' ∧ (∀ x ∈ l, TrOk b.length c.length x) ∧ (l.length : Int) + m ≤ most ∧ st = ⟨fr (TrFo i nn g l.length m), TrHo i nn L at' g l [.sl a, .sl b, .sl c, .sl d, di v, di s]⟩, ⟨n.toNat, _, (weak_own 7 nn 5 (by simp (config := { maxSteps := 500000 }) only [↓vp, vv, implies_true, forall_const, undef, InI, ↓reduceIte, simprocAttr, hn3, hn4, hn5, hn6, ]) (by simp (config := { maxSteps := 500000 }) only [↓vp, vv, implies_true, forall_const, undef, InI, ↓reduceIte, simprocAttr, hn3, hn4, hn5, hn6, ])).trans (weak_eq [] [i, (i.1 + 1, 4), nn] (TrFo i nn 0 0 n) (by simp (config := { maxSteps := 500000 }) only [↓vp, vv, implies_true, forall_const, undef, InI, ↓reduceIte, simprocAttr, coverS, TrFo, hn3, hn4, hn5, hn6]) (by simp (config := { maxSteps := 500000 }) only [↓vp, vv, implies_true, forall_const, undef, InI, ↓reduceIte, simprocAttr, refsF, TrFo, hn3, hn4, hn5, hn6]) (by simp (config := { maxSteps := 500000 }) only [↓vp, vv, implies_true, forall_const, undef, InI, ↓reduceIte, simprocAttr, TrFo, hn3, hn4, hn5, hn6]) (by simp) (by simp (config := { maxSteps := 500000 }) only [↓vp, vv, implies_true, forall_const, undef, InI, ↓reduceIte, simprocAttr, TrFo, hn3, hn4, hn5, hn6]; try rfl)), ⟨a1.1, 0, [], a1.2, by simp, by simp; omega, by rw [show ((n.toNat : Nat) : Int) = n by omega]; rfl⟩⟩, ?_⟩
  rintro m st ⟨at1, g, l, o1, hl, hlm, rfl⟩
  by_cases h1 : (0 : Int) < m
  · have w1 : IntKind.i64.wrap ((m : Int) - 1) = ((m - 1 : Nat) : Int) := by rw [wrap_i (by omega)]; omega
    have fin : ∀ (F : Fr) (H : Hp) (at' : Int) (x' : Tro), SrcOk L at' → TrOk b.length c.length x' → F 0 = .ptr i 0 0 0 → F 4 = .ptr (i.1 + 1, 4) 0 0 0 → F 7 = .own nn (g + 1) 0 (l.length + 1) → F 8 = di (m - 1 : Nat) → H i = some (sE L at') → H (i.1 + 1, 4) = some ⟨0, 6, [[.sl a, .sl b, .sl c, .sl d, di v, di s]]⟩ → H nn = some ⟨g + 1, 5, l.map Tro.row ++ [x'.row]⟩ →
      ∃ k' s', k' < m ∧ Weak [i, nn] ⟨F, H⟩ s' ∧ ∃ (at' : Int) (g : Nat) (l : List Tro), SrcOk L at' ∧ (∀ x ∈ l, TrOk b.length c.length x) ∧ (l.length : Int) + k' ≤ most ∧ s' = ⟨fr [(0, .ptr i 0 0 0), (4, .ptr (i.1 + 1, 4) 0 0 0), (7, .own nn g 0 l.length), (8, di k')], ((Hp.none.put nn ⟨g, 5, l.map Tro.row⟩).put (i.1 + 1, 4) ⟨0, 6, [[.sl a, .sl b, .sl c, .sl d, di v, di s]]⟩).put i ⟨0, 2, [[.sl L, di at']]⟩⟩ := fun F H at' x' o hx' f0 f4 f7 f8 hi h4 h10 =>
      ⟨m - 1, _, by omega, weak_eq [] [i, (i.1 + 1, 4), nn] (TrFo i nn (g + 1) (l.length + 1) ((m - 1 : Nat) : Int)) (by simp (config := { maxSteps := 500000 }) only [↓vp, vv, implies_true, forall_const, undef, InI, ↓reduceIte, simprocAttr, hn3, hn4, hn5, hn6, coverS, TrFo, f0, f4, f7, f8]) (by simp (config := { maxSteps := 500000 }) only [↓vp, vv, implies_true, forall_const, undef, InI, ↓reduceIte, simprocAttr, hn3, hn4, hn5, hn6, refsF, TrFo]) (by simp (config := { maxSteps := 500000 }) only [↓vp, vv, implies_true, forall_const, undef, InI, ↓reduceIte, simprocAttr, hn3, hn4, hn5, hn6, hi, h4, h10, Tro.row]) (by simp [hn3, hn4, hn5, hn6]) (by simp (config := { maxSteps := 500000 }) only [↓vp, vv, implies_true, forall_const, undef, InI, ↓reduceIte, simprocAttr, hn3, hn4, hn5, hn6, hi, h4, h10]; try rfl), ⟨at', g + 1, l ++ [x'], o, fun y hy => by
        rcases List.mem_append.1 hy with hy | hy
        · exact hl y hy
        · rw [List.mem_singleton.1 hy]; exact hx', by simp; omega, by simp [TrFo, sE]⟩⟩
    have hb0 : InI (b.length : Int) := by omega
    have hc0 : InI (c.length : Int) := by omega
    have hb1 : InI ((b.length : Int) + c.length) := by omega
    simp (config := { maxSteps := 500000 }) only [↓vp, vv, implies_true, forall_const, undef, InI, ↓reduceIte, simprocAttr, hn3, hn4, hn5, hn6, c19, r19, c19_1, c19_2, c19_3, c19_4, c19_5, TT3, T1, selI, selPick, selNum, o1, TrHo, TrFo, h1, w1, Tro.row, hb.2, hc.2, hb0, hc0, hb1]
    intro a1 x hx a2 f hf a3 d hd
    unfold NPost at hx hf
    simp [IsMem] at hd
    have w2 : IntKind.i64.wrap (1 + x) = 1 + x := wrap_i (by omega)
    have w3 : IntKind.i64.wrap (f + d) = f + d := wrap_i (by omega)
    simp only [w2, w3]
    split
    · rename_i hk
      have hk := beq_iff_eq.1 hk
      intro a4 p hp a5 q hq
      unfold NPost at hp
      simp [IsMem] at hq
      refine ⟨⟨by omega, by omega⟩, fin _ _ a5.1 ⟨1 + x, p, q, f, f + d⟩ a5.2 ⟨by dsimp only; omega, by dsimp only; omega, by dsimp only; omega, by dsimp only; omega, by dsimp only; omega, fun h => by simp at h ⊢ <;> omega, fun h => by simp at h ⊢ <;> omega, fun h => by simp at h ⊢ <;> omega, fun h => by simp at h ⊢ <;> omega⟩ ?_ ?_ ?_ ?_ ?_ ?_ ?_⟩ <;> simp (config := { maxSteps := 500000 }) only [↓vp, vv, implies_true, forall_const, undef, InI, ↓reduceIte, simprocAttr, hn3, hn4, hn5, hn6, sE, Tro.row, w2, w3]
    · rename_i hk
      have hk : ¬ (1 + x = 1) := fun h => hk (beq_iff_eq.2 h)
      split
      · rename_i hk2
        have hk2 := beq_iff_eq.1 hk2
        intro a4 p hp a5 q hq
        unfold NPost at hp
        simp [IsMem] at hq
        refine ⟨⟨by omega, by omega⟩, fin _ _ a5.1 ⟨1 + x, p, q, f, f + d⟩ a5.2 ⟨by dsimp only; omega, by dsimp only; omega, by dsimp only; omega, by dsimp only; omega, by dsimp only; omega, fun h => by simp at h ⊢ <;> omega, fun h => by simp at h ⊢ <;> omega, fun h => by simp at h ⊢ <;> omega, fun h => by simp at h ⊢ <;> omega⟩ ?_ ?_ ?_ ?_ ?_ ?_ ?_⟩ <;> simp (config := { maxSteps := 500000 }) only [↓vp, vv, implies_true, forall_const, undef, InI, ↓reduceIte, simprocAttr, hn3, hn4, hn5, hn6, sE, Tro.row, w2, w3]
      · rename_i hk2
        have hk2 : ¬ (1 + x = 2) := fun h => hk2 (beq_iff_eq.2 h)
        split
        · rename_i hk3
          have hk3 := beq_iff_eq.1 hk3
          intro a4 p hp
          unfold NPost at hp
          refine ⟨⟨by omega, by omega⟩, fin _ _ a4.1 ⟨1 + x, p, 0, f, f + d⟩ a4.2 ⟨by dsimp only; omega, by dsimp only; omega, by simp, by dsimp only; omega, by dsimp only; omega, fun h => by simp at h ⊢ <;> omega, fun h => by simp at h ⊢ <;> omega, fun h => by simp at h ⊢ <;> omega, fun h => by simp at h ⊢ <;> omega⟩ ?_ ?_ ?_ ?_ ?_ ?_ ?_⟩ <;> simp (config := { maxSteps := 500000 }) only [↓vp, vv, implies_true, forall_const, undef, InI, ↓reduceIte, simprocAttr, hn3, hn4, hn5, hn6, sE, Tro.row, w2, w3]
        · rename_i hk3
          have hk3 : ¬ (1 + x = 3) := fun h => hk3 (beq_iff_eq.2 h)
          intro a4 p hp
          unfold NPost at hp
          refine ⟨⟨by omega, by omega⟩, fin _ _ a4.1 ⟨1 + x, p, 0, f, f + d⟩ a4.2 ⟨by dsimp only; omega, by dsimp only; omega, by simp, by dsimp only; omega, by dsimp only; omega, fun h => by simp at h ⊢ <;> omega, fun h => by simp at h ⊢ <;> omega, fun h => by simp at h ⊢ <;> omega, fun h => by simp at h ⊢ <;> omega⟩ ?_ ?_ ?_ ?_ ?_ ?_ ?_⟩ <;> simp (config := { maxSteps := 500000 }) only [↓vp, vv, implies_true, forall_const, undef, InI, ↓reduceIte, simprocAttr, hn3, hn4, hn5, hn6, sE, Tro.row, w2, w3]
  · simp (config := { maxSteps := 500000 }) only [↓vp, vv, implies_true, forall_const, undef, InI, ↓reduceIte, simprocAttr, hn3, hn4, hn5, hn6, c19, r19, c19_1, c19_2, c19_3, c19_4, c19_5, TT3, T1, selI, selPick, selNum, o1, TrHo, TrFo, h1, Tro.row]
    exact ⟨at1, g, l, o1, ⟨by omega, hl⟩, rfl, rfl⟩
end Go.Proofs.Ytfkhjkkhdfcnjaa
/- TroubleMade: what the law calls, and its end. -/
namespace Go.Proofs.Ytfkhjkkhdfcnjaa
open Go
set_option linter.unusedVariables false
set_option linter.unusedSimpArgs false
set_option maxRecDepth 100000

theorem mod2_c (x n : Int) (hn : InI n) (nn : Nm) : CallsA Try.prog 20 [di x, di n] Hp.none nn (Pu (di (modI x n)) Hp.none) := by
  obtain ⟨code, h1, h2⟩ := c20_ok
  refine callsA_of TN_ok mixed (N := fun t => (0, t)) Try.func20 h1 h2 r20_ok [] false js_nil js_nil' (by simp [Try.f20]) ?_
  simp (config := { maxSteps := 500000 }) only [↓vp, vv, implies_true, forall_const, undef, InI, ↓reduceIte, simprocAttr, c20, r20, r20, TN, selMod, hn, Pu]
def rowTrs : List D → Hp → Nm → Option (Prop × (D → Hp → Prop)) := fun args Hs nn =>
  match args with
  | [.ptr i g r c, .agg [.sl a, .sl b, .sl q, .sl d, .v (.int .i64 v), .v (.int .i64 s)], .v (.int .i64 m)] =>
    match Hs i with
    | some ⟨_, _, [[.sl L, .v (.int .i64 at')]]⟩ => some ((Hs = Hp.none.put i (sE L at') ∧ g = 0 ∧ r = 0 ∧ c = 0) ∧ SrcOk L at' ∧ (nn.1 ≤ i.1 ∧ nn ≠ i) ∧ (1 ≤ b.length ∧ b.length ≤ 1000000) ∧ (1 ≤ q.length ∧ q.length ≤ 1000000) ∧ 0 ≤ m ∧ m ≤ 1000, SrcO i nn L 5 Tro.row (TrsOk b.length q.length m))
    | _ => Option.none
  | _ => Option.none
theorem tc_trs {T : Tbl} (hT : TblOk Try.prog T) : TblOk Try.prog (tc 19 rowTrs T) :=
  tc_row f19_ok (fun args Hs nn pre R hr hp => by
    unfold rowTrs at hr
    split at hr
    · split at hr
      · cases hr
        obtain ⟨⟨h1, rfl, rfl, rfl⟩, h2, h3, h4, h5, h6⟩ := hp
        rw [h1]
        exact ⟨⟨_, _, _, 0, [], h2, ⟨by simp; omega, fun x hx => (by cases hx)⟩, rfl, rfl⟩, Troubles_o _ _ _ _ _ _ _ h4 h5 h6 _ _ _ _ h2 h3.1 h3.2⟩
      · cases hr
    · cases hr) hT
def selWr : List D → Option (Prop × (Net → Prop))
  | [.agg r] => match netOf1 r with
    | some n => some (NetOk n, WrOk n)
    | Option.none => Option.none
  | _ => Option.none
theorem wr_self {n : Net} (hn : NetOk n) : WrOk n n := by
  have h1 := hn.nlen
  refine ⟨by omega, rfl, rfl, by omega, fun s hsm => ?_⟩
  obtain ⟨j, a, b, _, _, _, hk, _⟩ := hn.segs.mem hsm
  have := hk.len
  omega
theorem tc_wr {T : Tbl} (hT : TblOk Try.prog T) : TblOk Try.prog (tc 21 (rowSrc selWr Net.enc) T) :=
  tc_src f21_ok (fun args pre post h hp => by
    unfold selWr at h
    split at h
    · split at h
      · rename_i n hn
        cases h
        rw [netOf1_eq hn]
        exact ⟨⟨_, wr_self hp⟩, Wrong_c n hp⟩
      · cases h
    · cases h) hT
theorem tc_mod2 {T : Tbl} (hT : TblOk Try.prog T) : TblOk Try.prog (tc 20 (rowPu selMod) T) :=
  tc_pu f20_ok (fun args pre d h hp nn => by
    unfold selMod at h
    split at h <;> cases h
    exact mod2_c _ _ hp nn) hT
def selTck : List D → Option (Prop × D)
  | [.agg r, .sl rows] => match netOf1 r, troOf rows with
    | some n, some l => some (NetSz n ∧ l.length ≤ 1000000, di (chkT n l))
    | _, _ => Option.none
  | _ => Option.none
def selAgr : List D → Option (Prop × D)
  | [.sl rows, .v (.int .i64 i), .v (.int .i64 t)] => match troOf rows with
    | some l => some (l.length ≤ 1000000, db true)
    | Option.none => Option.none
  | _ => Option.none
def TM5 : Tbl := tc 22 (rowPu selTck) (tc 23 (rowPu selTck) (tc 24 (rowPu selAgr) (tc 15 (rowPu selFew) (tc 16 (rowPu selAw) (tc 17 rowNew (tc 18 (rowSrc (sel0 NetOk) Net.enc) (tc 19 rowTrs (tc 21 (rowSrc selWr Net.enc) (tc 20 (rowPu selMod) T0)))))))))
theorem TM5_ok : TblOk Try.prog TM5 := by
  refine tc_pu f22_ok (fun args pre d h hp nn => ?_) (tc_pu f23_ok (fun args pre d h hp nn => ?_) (tc_pu f24_ok (fun args pre d h hp nn => ?_) (tc_pu f15_ok (fun args pre d h hp nn => ?_) (tc_pu f16_ok (fun args pre d h hp nn => ?_) (tc_new (tc_net (tc_trs (tc_wr (tc_mod2 (T0_ok _))))))))))
  · unfold selTck at h
    split at h
    · split at h
      · rename_i e1 e2
        cases h
        rw [netOf1_eq e1, troOf_eq e2]
        exact tcheck_c _ hp.1 _ hp.2 nn
      · cases h
    · cases h
  · unfold selTck at h
    split at h
    · split at h
      · rename_i e1 e2
        cases h
        rw [netOf1_eq e1, troOf_eq e2]
        exact r42check_c _ hp.1 _ hp.2 nn
      · cases h
    · cases h
  · unfold selAgr at h
    split at h
    · split at h
      · rename_i e1
        cases h
        rw [troOf_eq e1]
        exact agree42_c _ _ _ hp nn
      · cases h
    · cases h
  · unfold selFew at h
    split at h <;> cases h
    exact Few_c _ nn
  · unfold selAw at h
    split at h <;> cases h
    exact awake42_c nn
def TmH (n : Net) (g : Nat) (x : List Tro) : Hp := (Hp.none.put (0, 26) ⟨g, 5, x.map Tro.row⟩).put (0, 12) ⟨0, 6, [netD n]⟩
def TmF (by' ix tk : Int) (g k : Nat) : List (Nat × D) := [(2, di by'), (3, di ix), (4, di tk), (12, .ptr (0, 12) 0 0 0), (13, .own (0, 26) g 0 k)]
def TmL (ix tk : Int) (g k : Nat) (j : Int) : List (Nat × D) := [(3, di ix), (4, di tk), (13, .own (0, 26) g 0 k), (15, di j)]
def TmG (g : Nat) (x : List Tro) : Hp := Hp.none.put (0, 26) ⟨g, 5, x.map Tro.row⟩
theorem tro_pl {x : Tro} {d : D} (h : d ∈ x.row) : d.plain = true := by
  simp only [Tro.row, List.mem_cons, List.not_mem_nil, or_false] at h
  rcases h with rfl | rfl | rfl | rfl | rfl <;> rfl
set_option maxHeartbeats 16000000 in
theorem tm_end (n : Net) (hz : NetSz n) (x : List Tro) (hx : x.length ≤ 60) (g : Nat) (by' ix tk : Int) :
    vc TM5 (fun t => (0, t)) [] c3_8 (finQ r3 [] false (Pu (db true) Hp.none)) ⟨fr (TmF by' ix tk g x.length), TmH n g x⟩ := by
  have hn1 : netOf1 [D.sl (n.nodes.map nmRow), .sl (n.segs.map Seg.row), .sl (n.ports.map Port.row), .sl (n.sts.map Stn.row), di n.vap, di n.set] = some n := netOf1_row n
  have ht : ∀ l : List Tro, troOf (l.map Tro.row) = some l := troOf_map
  have tk1 : ∀ l : List Tro, (l.map Tro.row).take l.length = l.map Tro.row := fun l => List.take_of_length_le (by simp)
  have hl : x.length ≤ 1000000 := by omega
  have pl := rows_pl Tro.row (fun _ => rfl) x
  simp (config := { maxSteps := 500000 }) only [↓vp, vv, implies_true, forall_const, undef, InI, ↓reduceIte, simprocAttr, c3_8, c3_7, TM5, selTck, TmF, TmH, netD, hn1, ht, tk1, hz, hl, bne_self_eq_false, pl]
  refine ⟨fun j _ d hd => tro_pl hd, fun j _ d hd => tro_pl hd, ?_⟩
  rw [vc_loop]
  refine ⟨fun k st => ∃ (j : Nat) (y : List Tro), j + k = x.length ∧ y.length = x.length ∧ st = ⟨fr (TmL ix tk g x.length j), TmG g y⟩, ⟨x.length, _, (weak_eq [] [(0, 26)] (TmL ix tk g x.length 0) (by simp (config := { maxSteps := 500000 }) only [↓vp, vv, implies_true, forall_const, undef, InI, ↓reduceIte, simprocAttr, coverS, TmL, TmG, Tro.row]) (by simp (config := { maxSteps := 500000 }) only [↓vp, vv, implies_true, forall_const, undef, InI, ↓reduceIte, simprocAttr, refsF, TmL, TmG, Tro.row]) (by simp (config := { maxSteps := 500000 }) only [↓vp, vv, implies_true, forall_const, undef, InI, ↓reduceIte, simprocAttr, TmL, TmG, Tro.row]) (by simp) (by simp (config := { maxSteps := 500000 }) only [↓vp, vv, implies_true, forall_const, undef, InI, ↓reduceIte, simprocAttr, TmL, TmG, Tro.row]; try rfl)), 0, x, by omega, rfl, rfl⟩, ?_⟩
  rintro m st ⟨j, y, hm, hy, rfl⟩
  by_cases hj : j < x.length
  · have hj' : (j : Int) < x.length := by omega
    have hjn := idx_nn j
    have hjy : j < y.length := by omega
    have w1 := idx_next (j := j) (by omega)
    have hg := getD_map Tro.row y j hjy
    generalize y[j] = z at hg
    obtain ⟨k, i0, v, f, t⟩ := z
    obtain ⟨v', hv'⟩ : ∃ v', (if -1099511627776 < (if v < 1099511627776 then v else 1099511627776) then (if v < 1099511627776 then v else 1099511627776) else -1099511627776) = v' := ⟨_, rfl⟩
    have e1 : (y.map Tro.row).set j [di k, di i0, di v', di f, di t] = (y.set j ⟨k, i0, v', f, t⟩).map Tro.row := by rw [List.map_set]; rfl
    simp (config := { maxSteps := 500000 }) only [↓vp, vv, implies_true, forall_const, undef, InI, ↓reduceIte, simprocAttr, c3_5, c3_4, TmL, TmG, hj', hjn, hjy, Int.toNat_natCast, hg, Tro.row, w1, hv', e1]
    exact ⟨m - 1, _, by omega, (weak_eq [] [(0, 26)] (TmL ix tk g x.length (j + 1 : Nat)) (by simp (config := { maxSteps := 500000 }) only [↓vp, vv, implies_true, forall_const, undef, InI, ↓reduceIte, simprocAttr, coverS, TmL, TmG, Tro.row, w1]) (by simp (config := { maxSteps := 500000 }) only [↓vp, vv, implies_true, forall_const, undef, InI, ↓reduceIte, simprocAttr, refsF, TmL, TmG, Tro.row, w1]) (by simp (config := { maxSteps := 500000 }) only [↓vp, vv, implies_true, forall_const, undef, InI, ↓reduceIte, simprocAttr, TmL, TmG, Tro.row, w1]) (by simp) (by simp (config := { maxSteps := 500000 }) only [↓vp, vv, implies_true, forall_const, undef, InI, ↓reduceIte, simprocAttr, TmL, TmG, Tro.row, w1]; try rfl)), j + 1, y.set j ⟨k, i0, v', f, t⟩, by omega, by simp; omega, rfl⟩
  · have hj' : ¬ (j : Int) < x.length := by omega
    have ply := tk1 y
    rw [hy] at ply
    have hyl : y.length ≤ 1000000 := by omega
    cases a1 : decide ((32 : Int) < x.length) with
    | true =>
      simp (config := { maxSteps := 500000 }) only [↓vp, vv, implies_true, forall_const, undef, InI, ↓reduceIte, simprocAttr, c3_5, c3_6, r3, TM5, selAw, TmL, TmG, hj', a1, Pu]
    | false =>
      simp (config := { maxSteps := 500000 }) only [↓vp, vv, implies_true, forall_const, undef, InI, ↓reduceIte, simprocAttr, c3_5, c3_6, r3, TM5, selAw, selAgr, selMod, TmL, TmG, hj', a1, ht, ply, hyl, Pu]
      exact ⟨fun j _ d hd => tro_pl hd, by omega⟩
theorem wr_sz {n n' : Net} (hn : NetOk n) (h : WrOk n n') : NetSz n' := by
  have h1 := hn.slen
  have h2 := hn.nlen
  have h3 := hn.ports.len
  have h4 := hn.sts.len
  have h5 := h.nodes
  have h6 := h.segs
  have h7 := h.ports
  have h8 := h.sts
  refine ⟨by omega, by omega, by omega, by omega, fun s hs => ?_⟩
  have := h.pts s hs
  omega
def TmS (odd by' ix tk : Int) (g k : Nat) (e : List (Nat × D)) : List (Nat × D) := (1, di odd) :: (2, di by') :: (3, di ix) :: (4, di tk) :: (11, .ptr (0, 21) 0 0 0) :: (12, .ptr (0, 12) 0 0 0) :: (13, .own (0, 26) g 0 k) :: e
def TmHs (n : Net) (g : Nat) (x : List Tro) (L : List (List D)) (at' : Int) : Hp := ((Hp.none.put (0, 26) ⟨g, 5, x.map Tro.row⟩).put (0, 12) ⟨0, 6, [netD n]⟩).put (0, 21) (sE L at')
set_option maxHeartbeats 16000000 in
theorem tm_sw (n : Net) (hn : NetOk n) (x : List Tro) (hxl : x.length ≤ 12) (g : Nat) (odd by' ix tk : Int) (L : List (List D)) (at' : Int) (ho : SrcOk L at') (kn : Nat) (hkx : kn < x.length) (c : Int) (hc : 0 ≤ c ∧ c < 14) :
    vc TM5 (fun t => (0, t)) [] c3_3 (thenQ (vc TM5 (fun t => (0, t)) [] (.weak c3_8) (finQ r3 [] false (Pu (db true) Hp.none))) (finQ r3 [] false (Pu (db true) Hp.none))) ⟨fr (TmS odd by' ix tk g x.length [(14, .ptr (0, 26) g kn 0), (37, di c)]), TmHs n g x L at'⟩ := by
  have hz := wr_sz hn (wr_self hn)
  have hk0 := idx_nn kn
  have hk1 : (kn : Int) < x.length := by omega
  have hg := getD_map Tro.row x kn hkx
  obtain ⟨z, hzx⟩ : ∃ z, x[kn] = z := ⟨_, rfl⟩
  rw [hzx] at hg
  obtain ⟨k, i0, v, f, t⟩ := z
  have fin : ∀ (y : List Tro) (g' : Nat), y.length ≤ 60 → ∀ st, Weak [] st ⟨fr (TmF by' ix tk g' y.length), TmH n g' y⟩ → vc TM5 (fun t => (0, t)) [] (.weak c3_8) (finQ r3 [] false (Pu (db true) Hp.none)) st := fun y g' hy st hw => vc_wk hw (tm_end n hz y hy g' by' ix tk)
  have fin2 : ∀ (z' : Tro) st, Weak [] st ⟨fr (TmF by' ix tk g x.length), TmH n g (x.set kn z')⟩ → vc TM5 (fun t => (0, t)) [] (.weak c3_8) (finQ r3 [] false (Pu (db true) Hp.none)) st := fun z' st hw => by
    have := fin (x.set kn z') g (by rw [List.length_set]; omega) st
    rw [List.length_set] at this
    exact this hw
  have e1 : ∀ k' i' v' f' t', (x.map Tro.row).set kn [di k', di i', di v', di f', di t'] = (x.set kn ⟨k', i', v', f', t'⟩).map Tro.row := fun _ _ _ _ _ => by rw [List.map_set]; rfl
  have hcs : c = 0 ∨ c = 1 ∨ c = 2 ∨ c = 3 ∨ c = 4 ∨ c = 5 ∨ c = 6 ∨ c = 7 ∨ 8 ≤ c := by omega
  rcases hcs with rfl | rfl | rfl | rfl | rfl | rfl | rfl | rfl | hc8
  · simp (config := { maxSteps := 500000 }) only [↓vp, vv, implies_true, forall_const, undef, InI, ↓reduceIte, simprocAttr, c3_3, TM5, selMod, TmS, TmHs, netD, hk0, hk1, hkx, Int.toNat_natCast, hg, Tro.row, e1]
    exact fin2 ⟨IntKind.i64.wrap (modI by' 7 - 1), i0, v, f, t⟩ _ (weak_eq [] [(0, 12), (0, 26)] (TmF by' ix tk g x.length) (by simp (config := { maxSteps := 500000 }) only [↓vp, vv, implies_true, forall_const, undef, InI, ↓reduceIte, simprocAttr, coverS, TmF, TmH, netD, Tro.row, e1, List.length_set]) (by simp (config := { maxSteps := 500000 }) only [↓vp, vv, implies_true, forall_const, undef, InI, ↓reduceIte, simprocAttr, refsF, TmF, TmH, netD, Tro.row, e1, List.length_set]) (by simp (config := { maxSteps := 500000 }) only [↓vp, vv, implies_true, forall_const, undef, InI, ↓reduceIte, simprocAttr, TmF, TmH, netD, Tro.row, e1, List.length_set]) (by simp) (by simp (config := { maxSteps := 500000 }) only [↓vp, vv, implies_true, forall_const, undef, InI, ↓reduceIte, simprocAttr, TmF, TmH, netD, Tro.row, e1, List.length_set]; try rfl))
  · simp (config := { maxSteps := 500000 }) only [↓vp, vv, implies_true, forall_const, undef, InI, ↓reduceIte, simprocAttr, c3_3, TM5, selMod, TmS, TmHs, netD, hk0, hk1, hkx, Int.toNat_natCast, hg, Tro.row, e1]
    exact fin2 ⟨k, IntKind.i64.wrap (modI by' 60 - 2), v, f, t⟩ _ (weak_eq [] [(0, 12), (0, 26)] (TmF by' ix tk g x.length) (by simp (config := { maxSteps := 500000 }) only [↓vp, vv, implies_true, forall_const, undef, InI, ↓reduceIte, simprocAttr, coverS, TmF, TmH, netD, Tro.row, e1, List.length_set]) (by simp (config := { maxSteps := 500000 }) only [↓vp, vv, implies_true, forall_const, undef, InI, ↓reduceIte, simprocAttr, refsF, TmF, TmH, netD, Tro.row, e1, List.length_set]) (by simp (config := { maxSteps := 500000 }) only [↓vp, vv, implies_true, forall_const, undef, InI, ↓reduceIte, simprocAttr, TmF, TmH, netD, Tro.row, e1, List.length_set]) (by simp) (by simp (config := { maxSteps := 500000 }) only [↓vp, vv, implies_true, forall_const, undef, InI, ↓reduceIte, simprocAttr, TmF, TmH, netD, Tro.row, e1, List.length_set]; try rfl))
  · simp (config := { maxSteps := 500000 }) only [↓vp, vv, implies_true, forall_const, undef, InI, ↓reduceIte, simprocAttr, c3_3, TM5, selMod, TmS, TmHs, netD, hk0, hk1, hkx, Int.toNat_natCast, hg, Tro.row, e1]
    exact fin2 ⟨k, i0, by', f, t⟩ _ (weak_eq [] [(0, 12), (0, 26)] (TmF by' ix tk g x.length) (by simp (config := { maxSteps := 500000 }) only [↓vp, vv, implies_true, forall_const, undef, InI, ↓reduceIte, simprocAttr, coverS, TmF, TmH, netD, Tro.row, e1, List.length_set]) (by simp (config := { maxSteps := 500000 }) only [↓vp, vv, implies_true, forall_const, undef, InI, ↓reduceIte, simprocAttr, refsF, TmF, TmH, netD, Tro.row, e1, List.length_set]) (by simp (config := { maxSteps := 500000 }) only [↓vp, vv, implies_true, forall_const, undef, InI, ↓reduceIte, simprocAttr, TmF, TmH, netD, Tro.row, e1, List.length_set]) (by simp) (by simp (config := { maxSteps := 500000 }) only [↓vp, vv, implies_true, forall_const, undef, InI, ↓reduceIte, simprocAttr, TmF, TmH, netD, Tro.row, e1, List.length_set]; try rfl))
  · simp (config := { maxSteps := 500000 }) only [↓vp, vv, implies_true, forall_const, undef, InI, ↓reduceIte, simprocAttr, c3_3, TM5, selMod, TmS, TmHs, netD, hk0, hk1, hkx, Int.toNat_natCast, hg, Tro.row, e1]
    exact fin2 ⟨k, i0, v, f, IntKind.i64.wrap (f - 1)⟩ _ (weak_eq [] [(0, 12), (0, 26)] (TmF by' ix tk g x.length) (by simp (config := { maxSteps := 500000 }) only [↓vp, vv, implies_true, forall_const, undef, InI, ↓reduceIte, simprocAttr, coverS, TmF, TmH, netD, Tro.row, e1, List.length_set]) (by simp (config := { maxSteps := 500000 }) only [↓vp, vv, implies_true, forall_const, undef, InI, ↓reduceIte, simprocAttr, refsF, TmF, TmH, netD, Tro.row, e1, List.length_set]) (by simp (config := { maxSteps := 500000 }) only [↓vp, vv, implies_true, forall_const, undef, InI, ↓reduceIte, simprocAttr, TmF, TmH, netD, Tro.row, e1, List.length_set]) (by simp) (by simp (config := { maxSteps := 500000 }) only [↓vp, vv, implies_true, forall_const, undef, InI, ↓reduceIte, simprocAttr, TmF, TmH, netD, Tro.row, e1, List.length_set]; try rfl))
  · simp (config := { maxSteps := 500000 }) only [↓vp, vv, implies_true, forall_const, undef, InI, ↓reduceIte, simprocAttr, c3_3, TM5, selMod, TmS, TmHs, netD, hk0, hk1, hkx, Int.toNat_natCast, hg, Tro.row, e1]
    exact fin2 ⟨k, i0, v, -1, t⟩ _ (weak_eq [] [(0, 12), (0, 26)] (TmF by' ix tk g x.length) (by simp (config := { maxSteps := 500000 }) only [↓vp, vv, implies_true, forall_const, undef, InI, ↓reduceIte, simprocAttr, coverS, TmF, TmH, netD, Tro.row, e1, List.length_set]) (by simp (config := { maxSteps := 500000 }) only [↓vp, vv, implies_true, forall_const, undef, InI, ↓reduceIte, simprocAttr, refsF, TmF, TmH, netD, Tro.row, e1, List.length_set]) (by simp (config := { maxSteps := 500000 }) only [↓vp, vv, implies_true, forall_const, undef, InI, ↓reduceIte, simprocAttr, TmF, TmH, netD, Tro.row, e1, List.length_set]) (by simp) (by simp (config := { maxSteps := 500000 }) only [↓vp, vv, implies_true, forall_const, undef, InI, ↓reduceIte, simprocAttr, TmF, TmH, netD, Tro.row, e1, List.length_set]; try rfl))
  · simp (config := { maxSteps := 500000 }) only [↓vp, vv, implies_true, forall_const, undef, InI, ↓reduceIte, simprocAttr, c3_3, TM5, selMod, TmS, TmHs, netD, hk0, hk1, hkx, Int.toNat_natCast, hg, Tro.row, e1]
    exact fin2 ⟨k, i0, v, f, IntKind.i64.wrap (IntKind.i64.wrap (1099511627776 + modI by' 3) - 1)⟩ _ (weak_eq [] [(0, 12), (0, 26)] (TmF by' ix tk g x.length) (by simp (config := { maxSteps := 500000 }) only [↓vp, vv, implies_true, forall_const, undef, InI, ↓reduceIte, simprocAttr, coverS, TmF, TmH, netD, Tro.row, e1, List.length_set]) (by simp (config := { maxSteps := 500000 }) only [↓vp, vv, implies_true, forall_const, undef, InI, ↓reduceIte, simprocAttr, refsF, TmF, TmH, netD, Tro.row, e1, List.length_set]) (by simp (config := { maxSteps := 500000 }) only [↓vp, vv, implies_true, forall_const, undef, InI, ↓reduceIte, simprocAttr, TmF, TmH, netD, Tro.row, e1, List.length_set]) (by simp) (by simp (config := { maxSteps := 500000 }) only [↓vp, vv, implies_true, forall_const, undef, InI, ↓reduceIte, simprocAttr, TmF, TmH, netD, Tro.row, e1, List.length_set]; try rfl))
  · have hn1 : netOf1 [D.sl (n.nodes.map nmRow), .sl (n.segs.map Seg.row), .sl (n.ports.map Port.row), .sl (n.sts.map Stn.row), di n.vap, di n.set] = some n := netOf1_row n
    simp (config := { maxSteps := 500000 }) only [↓vp, vv, implies_true, forall_const, undef, InI, ↓reduceIte, simprocAttr, c3_3, TM5, selWr, TmS, TmHs, netD, hn1, hn, ho, Net.enc]
    intro a n' hw
    refine vc_wk (weak_eq [] [(0, 12), (0, 26)] (TmF by' ix tk g x.length) (by simp (config := { maxSteps := 500000 }) only [↓vp, vv, implies_true, forall_const, undef, InI, ↓reduceIte, simprocAttr, coverS, TmF, TmH, netD, Tro.row]) (by simp (config := { maxSteps := 500000 }) only [↓vp, vv, implies_true, forall_const, undef, InI, ↓reduceIte, simprocAttr, refsF, TmF, TmH, netD, Tro.row]) (by simp (config := { maxSteps := 500000 }) only [↓vp, vv, implies_true, forall_const, undef, InI, ↓reduceIte, simprocAttr, TmF, TmH, netD, Tro.row]) (by simp) (by simp (config := { maxSteps := 500000 }) only [↓vp, vv, implies_true, forall_const, undef, InI, ↓reduceIte, simprocAttr, TmF, TmH, netD, Tro.row]; try rfl)) ?_
    exact tm_end n' (wr_sz hn hw) x (by omega) g by' ix tk
  · simp (config := { maxSteps := 500000 }) only [↓vp, vv, implies_true, forall_const, undef, InI, ↓reduceIte, simprocAttr, c3_3, TmS, TmHs, netD]
    rw [vc_loop]
    refine ⟨fun m st => ∃ (g : Nat) (y : List Tro), y.length + m = 40 ∧ x.length ≤ y.length ∧ st = ⟨fr (TmF by' ix tk g y.length), TmH n g y⟩, ⟨40 - x.length, _, (weak_eq [] [(0, 12), (0, 26)] (TmF by' ix tk g x.length) (by simp (config := { maxSteps := 500000 }) only [↓vp, vv, implies_true, forall_const, undef, InI, ↓reduceIte, simprocAttr, coverS, TmF, TmH, netD, Tro.row]) (by simp (config := { maxSteps := 500000 }) only [↓vp, vv, implies_true, forall_const, undef, InI, ↓reduceIte, simprocAttr, refsF, TmF, TmH, netD, Tro.row]) (by simp (config := { maxSteps := 500000 }) only [↓vp, vv, implies_true, forall_const, undef, InI, ↓reduceIte, simprocAttr, TmF, TmH, netD, Tro.row]) (by simp) (by simp (config := { maxSteps := 500000 }) only [↓vp, vv, implies_true, forall_const, undef, InI, ↓reduceIte, simprocAttr, TmF, TmH, netD, Tro.row]; try rfl)), g, x, by omega, Nat.le_refl _, rfl⟩, ?_⟩
    rintro m st ⟨g, y, hm, hy, rfl⟩
    obtain ⟨m0, m1, _⟩ := modI_in by' 3
    have m1 := m1 (by omega)
    generalize hmd : modI by' 3 = md at m0 m1
    have w1 : IntKind.i64.wrap (31 + md) = 31 + md := wrap_i (by omega)
    have hy0 : 0 < y.length := by omega
    have hy1 : (0 : Int) < y.length := by omega
    have hg0 := getD_map Tro.row y 0 hy0
    generalize y[0] = z0 at hg0
    have y1 : (y.length + 1) * 40 ≤ 140737488355328 := by omega
    have y2 : y.length + 1 ≤ 4611686018427387904 := by omega
    have e2 : y.map Tro.row ++ [[di z0.kind, di z0.index, di z0.value, di z0.fr, di z0.to]] = (y ++ [z0]).map Tro.row := by rw [List.map_append]; rfl
    by_cases hle : (y.length : Int) ≤ 31 + md
    · simp (config := { maxSteps := 500000 }) only [↓vp, vv, implies_true, forall_const, undef, InI, ↓reduceIte, simprocAttr, c3_2, c3_1, TM5, selMod, TmF, TmH, netD, hmd, w1, hle, hy0, hy1, hg0, Tro.row, y1, y2, e2]
      have e3 : y.length + 1 = (y ++ [z0]).length := by simp
      exact ⟨m - 1, _, by omega, (weak_eq [] [(0, 12), (0, 26)] (TmF by' ix tk (g + 1) (y ++ [z0]).length) (by simp (config := { maxSteps := 500000 }) only [↓vp, vv, implies_true, forall_const, undef, InI, ↓reduceIte, simprocAttr, coverS, TmF, TmH, netD, Tro.row, e2, List.length_append, List.length_cons, List.length_nil]) (by simp (config := { maxSteps := 500000 }) only [↓vp, vv, implies_true, forall_const, undef, InI, ↓reduceIte, simprocAttr, refsF, TmF, TmH, netD, Tro.row, e2, List.length_append, List.length_cons, List.length_nil]) (by simp (config := { maxSteps := 500000 }) only [↓vp, vv, implies_true, forall_const, undef, InI, ↓reduceIte, simprocAttr, TmF, TmH, netD, Tro.row, e2, List.length_append, List.length_cons, List.length_nil]) (by simp) (by simp (config := { maxSteps := 500000 }) only [↓vp, vv, implies_true, forall_const, undef, InI, ↓reduceIte, simprocAttr, TmF, TmH, netD, Tro.row, e2, List.length_append, List.length_cons, List.length_nil]; try rfl)), g + 1, y ++ [z0], by simp; omega, by simp; omega, rfl⟩
    · simp (config := { maxSteps := 500000 }) only [↓vp, vv, implies_true, forall_const, undef, InI, ↓reduceIte, simprocAttr, c3_2, c3_1, TM5, selMod, TmF, TmH, netD, hmd, w1, hle, hy0, hy1]
      refine vc_wk (weak_eq [] [(0, 12), (0, 26)] (TmF by' ix tk g y.length) (by simp (config := { maxSteps := 500000 }) only [↓vp, vv, implies_true, forall_const, undef, InI, ↓reduceIte, simprocAttr, coverS, TmF, TmH, netD, Tro.row]) (by simp (config := { maxSteps := 500000 }) only [↓vp, vv, implies_true, forall_const, undef, InI, ↓reduceIte, simprocAttr, refsF, TmF, TmH, netD, Tro.row]) (by simp (config := { maxSteps := 500000 }) only [↓vp, vv, implies_true, forall_const, undef, InI, ↓reduceIte, simprocAttr, TmF, TmH, netD, Tro.row]) (by simp) (by simp (config := { maxSteps := 500000 }) only [↓vp, vv, implies_true, forall_const, undef, InI, ↓reduceIte, simprocAttr, TmF, TmH, netD, Tro.row]; try rfl)) ?_
      exact tm_end n hz y (by omega) g by' ix tk
  · have q0 : (c == 0) = false := by simp; omega
    have q1 : (c == 1) = false := by simp; omega
    have q2 : (c == 2) = false := by simp; omega
    have q3 : (c == 3) = false := by simp; omega
    have q4 : (c == 4) = false := by simp; omega
    have q5 : (c == 5) = false := by simp; omega
    have q6 : (c == 6) = false := by simp; omega
    have q7 : (c == 7) = false := by simp; omega
    simp (config := { maxSteps := 500000 }) only [↓vp, vv, implies_true, forall_const, undef, InI, ↓reduceIte, simprocAttr, c3_3, TmS, TmHs, q0, q1, q2, q3, q4, q5, q6, q7]
    exact fin x g (by omega) _ (weak_eq [] [(0, 12), (0, 26)] (TmF by' ix tk g x.length) (by simp (config := { maxSteps := 500000 }) only [↓vp, vv, implies_true, forall_const, undef, InI, ↓reduceIte, simprocAttr, coverS, TmF, TmH, netD, Tro.row]) (by simp (config := { maxSteps := 500000 }) only [↓vp, vv, implies_true, forall_const, undef, InI, ↓reduceIte, simprocAttr, refsF, TmF, TmH, netD, Tro.row]) (by simp (config := { maxSteps := 500000 }) only [↓vp, vv, implies_true, forall_const, undef, InI, ↓reduceIte, simprocAttr, TmF, TmH, netD, Tro.row]) (by simp) (by simp (config := { maxSteps := 500000 }) only [↓vp, vv, implies_true, forall_const, undef, InI, ↓reduceIte, simprocAttr, TmF, TmH, netD, Tro.row]; try rfl))
set_option maxHeartbeats 16000000 in
theorem TM_c (ns : List Int) (hns : ∀ n ∈ ns, InI n) (odd by' ix tk : Int) (nn : Nm) : CallsA Try.prog 3 [.sl (ns.map fun n => [di n]), di odd, di by', di ix, di tk] Hp.none nn (Pu (db true) Hp.none) := by
  obtain ⟨code, h1, h2⟩ := c3_ok
  refine callsA_of TM5_ok mixed (N := fun t => (0, t)) Try.func3 h1 h2 r3_ok [] false js_nil js_nil' (by simp [Try.f3]) ?_
  have ho : SrcOk ((ns.map fun n => [di n]).take 2000) 0 := src_new ns hns
  cases hf : decide ((ns.length : Int) ≤ 400) with
  | false => simp (config := { maxSteps := 500000 }) only [↓vp, vv, implies_true, forall_const, undef, InI, ↓reduceIte, simprocAttr, c3, r3, TM5, selFew, selAw, hf, Pu]
  | true =>
    simp (config := { maxSteps := 500000 }) only [↓vp, vv, implies_true, forall_const, undef, InI, ↓reduceIte, simprocAttr, c3, c3_9, TM5, selFew, rowNew, sel0, hf, ho, Net.enc]
    intro a1 n hn
    have hsl := hn.slen
    have hnl := hn.nlen
    have hql := hn.ports.len
    have hpp : 1 ≤ n.ports.length := by
      have := hn.ports.hd (by omega)
      cases hq : n.ports with
      | nil => rw [hq] at this; cases this
      | cons => simp
    simp (config := { maxSteps := 500000 }) only [↓vp, vv, implies_true, forall_const, undef, InI, ↓reduceIte, simprocAttr, TM5, rowTrs, a1.2, List.length_map, SrcO_all]
    refine ⟨by omega, fun a2 g x hx => ?_⟩
    have hxl : x.length ≤ 12 := by have := hx.1; omega
    have hz := wr_sz hn (wr_self hn)
    by_cases hp : (0 : Int) < x.length
    · rw [if_pos hp]
      obtain ⟨b0, b1, _⟩ := modI_in by' x.length
      have b1 := b1 (by omega)
      obtain ⟨c0, c1, _⟩ := modI_in odd 14
      have c1 := c1 (by omega)
      obtain ⟨kn, hkn⟩ : ∃ kn : Nat, modI by' x.length = kn := ⟨(modI by' x.length).toNat, by omega⟩
      rw [hkn] at b0 b1
      have hI : InI (x.length : Int) := by omega
      generalize hc : modI odd 14 = c at c0 c1
      simp (config := { maxSteps := 500000 }) only [↓vp, vv, implies_true, forall_const, undef, InI, ↓reduceIte, simprocAttr, TM5, selMod, hI, hkn, hc, b1]
      refine ⟨by omega, ?_⟩
      refine vc_wk (weak_eq [] [(0, 21), (0, 12), (0, 26)] (TmS odd by' ix tk g x.length [(14, .ptr (0, 26) g kn 0), (37, di c)]) (by simp (config := { maxSteps := 500000 }) only [↓vp, vv, implies_true, forall_const, undef, InI, ↓reduceIte, simprocAttr, coverS, TmS, TmHs, sE, netD, Tro.row, Int.toNat_natCast]) (by simp (config := { maxSteps := 500000 }) only [↓vp, vv, implies_true, forall_const, undef, InI, ↓reduceIte, simprocAttr, refsF, TmS, TmHs, sE, netD, Tro.row, Int.toNat_natCast]) (by simp (config := { maxSteps := 500000 }) only [↓vp, vv, implies_true, forall_const, undef, InI, ↓reduceIte, simprocAttr, TmS, TmHs, sE, netD, Tro.row, Int.toNat_natCast]) (by simp) (by simp (config := { maxSteps := 500000 }) only [↓vp, vv, implies_true, forall_const, undef, InI, ↓reduceIte, simprocAttr, TmS, TmHs, sE, netD, Tro.row, Int.toNat_natCast]; try rfl)) ?_
      exact tm_sw n hn x hxl g odd by' ix tk _ a2.1 a2.2 kn (by omega) c (by omega)
    · rw [if_neg hp]
      refine vc_wk (weak_eq [] [(0, 12), (0, 26)] (TmF by' ix tk g x.length) (by simp (config := { maxSteps := 500000 }) only [↓vp, vv, implies_true, forall_const, undef, InI, ↓reduceIte, simprocAttr, coverS, TmF, TmH, netD, Tro.row]) (by simp (config := { maxSteps := 500000 }) only [↓vp, vv, implies_true, forall_const, undef, InI, ↓reduceIte, simprocAttr, refsF, TmF, TmH, netD, Tro.row]) (by simp (config := { maxSteps := 500000 }) only [↓vp, vv, implies_true, forall_const, undef, InI, ↓reduceIte, simprocAttr, TmF, TmH, netD, Tro.row]) (by simp) (by simp (config := { maxSteps := 500000 }) only [↓vp, vv, implies_true, forall_const, undef, InI, ↓reduceIte, simprocAttr, TmF, TmH, netD, Tro.row]; try rfl)) ?_
      exact tm_end n hz x (by omega) g by' ix tk
theorem TroubleMade_law (a : Option Addr) (len cap : Nat) (odd by' ix tk : Int) (w : World) (h : ArgInts w a len cap) :
    Calls Try.prog 3 #[.slice a len cap, .int .i64 odd, .int .i64 by', .int .i64 ix, .int .i64 tk] w (Ret (.bool true) w) :=
  law_ints (us := [.int .i64 odd, .int .i64 by', .int .i64 ix, .int .i64 tk]) h fun ns hns => TM_c ns hns odd by' ix tk (0, 0)
end Go.Proofs.Ytfkhjkkhdfcnjaa
