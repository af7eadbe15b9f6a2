
/- Operations over abstract data: memory. -/
import Derived.Test.YtiaenojpbiahgaaVe
namespace Go.Proofs.Ytiaenojpbiahgaa
open Go
set_option linter.unusedVariables false
set_option linter.unusedSimpArgs false

theorem heap_alloc (w : World) (o : Obj) : (w.alloc o).heap = w.heap.push o := rfl
theorem push_lt {h : Array Obj} {b : Nat} (x : Obj) (hb : b < h.size) : (h.push x)[b]? = h[b]? := by
  rw [Array.getElem?_push, if_neg (by omega)]
theorem push_at (h : Array Obj) (x : Obj) : (h.push x)[h.size]? = some x := by simp
/-- A new block of rows. -/
theorem Turn.fresh {Im : Nat → Prop} {p : Pl} {H : Hp} {h : Array Obj} {nm : Nm} {e : En} {us : Array Value} {t : TypeId} (hn : H nm = Option.none) (R : RowsAt Im p H h us 0 e.sz e.rows) : Turn Im p H h nm ⟨0, 0, []⟩ e (h.size, 0) (h.push (.cells us t)) :=
  ⟨.inr ⟨hn, rfl⟩, .inl hn, fun b hb _ => push_lt _ hb, by simp, fun _ => .inr (Nat.le_refl _), fun _ => ⟨us, t, push_at _ _, R⟩⟩
section
variable {P : Program}
theorem rel_ptr {Im : Nat → Prop} {p : Pl} {H : Hp} {h : Array Obj} {i : Nm} {g r c : Nat} {u : Value} (k : Rel Im p H h (.ptr i g r c) u) {e : En} (hi : H i = some e) (hg : e.g = g) : u = .pointer (some ⟨(p i).1, (p i).2 + r * e.sz + c, Option.none⟩) := by
  cases k with
  | p k => cases k
  | ptr _ _ _ _ _ h1 e' hH hg' hx =>
    rw [hi] at hH
    cases hH
    exact hx hg.symm
theorem rel_own {Im : Nat → Prop} {p : Pl} {H : Hp} {h : Array Obj} {i : Nm} {g off n : Nat} {u : Value} (k : Rel Im p H h (.own i g off n) u) {e : En} (hi : H i = some e) (hg : e.g = g) :
    ∃ a cap, u = .slice a n cap ∧ n ≤ cap ∧ (0 < cap → a = some ⟨(p i).1, (p i).2 + off * e.sz, Option.none⟩ ∧ e.rows ≠ [] ∧ ∃ c t, h[(p i).1]? = some (.cells c t (0, 0)) ∧ (p i).2 + (off + cap) * e.sz ≤ c.size) := by
  cases k with
  | p k => cases k
  | own _ _ _ _ a cap e' hH hg' hn hl =>
    rw [hi] at hH
    cases hH
    exact ⟨a, cap, rfl, hn, hl hg.symm⟩
/-- The cells at a place of a name. -/
theorem cells_at {Im : Nat → Prop} {p : Pl} {H : Hp} {w : World} (R : RelH Im p H w.heap) {i : Nm} {e : En} (hi : H i = some e) {r c sz : Nat} (hr : r < e.rows.length) (hcc : c + sz ≤ (e.rows.getD r []).length) :
    ∃ blk t us, w.heap[(p i).1]? = some (.cells blk t (0, 0)) ∧ ¬ Im (p i).1 ∧ RowsAt Im p H w.heap blk (p i).2 e.sz e.rows ∧ us = (blk.toList.drop ((p i).2 + r * e.sz)).take e.sz ∧ RelL Im p H w.heap (e.rows.getD r []) us ∧ (e.rows.getD r []).length = e.sz ∧ (p i).2 + r * e.sz + e.sz ≤ blk.size ∧ w.rangeAt (p i).1 ((p i).2 + r * e.sz + c) ((us.drop c).take sz) ∧ ((us.drop c).take sz).length = sz := by
  obtain ⟨blk, t, k1, k2, k3⟩ := R.cell i e hi (by intro h; rw [h] at hr; exact absurd hr (Nat.not_lt_zero _))
  obtain ⟨q1, q2, q3⟩ := k3.row hr
  have hlen : ((blk.toList.drop ((p i).2 + r * e.sz)).take e.sz).length = e.sz := by rw [← q1.len, q2]
  refine ⟨blk, t, _, k1, k2, k3, rfl, q1, q2, q3, fun j v hv => ?_, by rw [List.length_take, List.length_drop, hlen]; omega⟩
  rw [hc_cell]
  have hj : j < sz := by
    have := (List.getElem?_eq_some_iff.1 hv).1
    rw [List.length_take] at this
    omega
  rw [List.getElem?_take, if_pos hj, List.getElem?_drop, List.getElem?_take, if_pos (by omega), List.getElem?_drop] at hv
  unfold hc
  rw [k1]
  dsimp only
  rw [← hv]
  simp [Nat.add_assoc]
theorem snd_new {e : TypeId} {i : TypeInfo} {z : Value} {z' : List D} (hi : P.info? e = some i) (hz : i.zero = some z) (hz' : z' = z.cells.toList.map ofC) (h1 : z.cells.toList.all one = true) : SoundK P (.alloc e) (.new z') := fun E Im p s a w nm o d ho hR he hcd => by
  simp only [eff] at he
  split at he
  · rename_i hn
    cases he
    dsimp only
    have RL : RelL Im p s.H w.heap z' z.cells.toList := by
      subst hz'
      refine ⟨by simp, fun j d u hd hu => ?_⟩
      rw [List.getElem?_map, hu] at hd
      cases hd
      exact ⟨.p (relP_ofC _ _ _), List.all_eq_true.1 h1 u (List.mem_of_getElem? hu)⟩
    have T : Turn Im p s.H w.heap nm ⟨0, 0, []⟩ ⟨0, z'.length, [z']⟩ (w.heap.size, 0) (w.heap.push (.cells z.cells e)) := by
      refine Turn.fresh hn (RowsAt.of (fun r hr => ?_) ?_ fun r hr => ?_)
      · cases hr with
        | head => rfl
        | tail _ hr => cases hr
      · rw [RL.len]; simp
      · cases r with
        | zero =>
          have e1 : (z.cells.toList.drop (0 + 0 * z'.length)).take z'.length = z.cells.toList := by rw [Nat.zero_mul, Nat.add_zero, List.drop_zero, RL.len, List.take_length]
          dsimp only
          rw [e1]
          exact RL
        | succ r => simp at hr
    refine ⟨.value (.pointer (some ⟨w.heap.size, 0, Option.none⟩)), _, w.alloc (.cells z.cells e), p.put nm (w.heap.size, 0), ?_, .inl rfl, T.grows hR.hp, T.relH hR.hp, T.relE hR.hp hR.en rfl rfl rfl, ?_⟩
    · unfold execOp
      simp [ho, Instr.alloc, zeroValue, typeInfo, hi, hz, newVar, newRow]
    · exact .ptr nm 0 0 0 _ rfl _ (Hp.put_same _ _ _) (Nat.le_refl _) (fun _ => by rw [Pl.put_same]; simp)
  · cases he
theorem snd_box {e : TypeId} {x : Operand} {x' : Opd} {sz : Nat} (hx : OpdOk x x') : SoundK P (.box e x) (.box sz x') := fun E Im p s a w nm o d ho hR he hcd => by
  have r := hx _ _ _ _ _ _ hR
  simp only [eff] at he
  split at he
  · rename_i ds hn hs
    cases he
    dsimp only at hcd ⊢
    have RL := RelL.cells r hs
    have T : Turn Im p s.H w.heap nm ⟨0, 0, []⟩ ⟨0, sz, [ds]⟩ (w.heap.size, 0) (w.heap.push (.cells (a.eval x).cells e)) := by
      refine Turn.fresh hn (RowsAt.of (fun r hr => ?_) ?_ fun r hr => ?_)
      · cases hr with
        | head => exact hcd
        | tail _ hr => cases hr
      · have := RL.len; simp at this ⊢; omega
      · cases r with
        | zero =>
          have e1 : ((a.eval x).cells.toList.drop (0 + 0 * sz)).take sz = (a.eval x).cells.toList := by rw [Nat.zero_mul, Nat.add_zero, List.drop_zero, ← hcd, RL.len, List.take_length]
          dsimp only
          rw [e1]
          exact RL
        | succ r => simp at hr
    refine ⟨.value (.pointer (some ⟨w.heap.size, 0, Option.none⟩)), _, w.alloc (.cells (a.eval x).cells e), p.put nm (w.heap.size, 0), ?_, .inl rfl, T.grows hR.hp, T.relH hR.hp, T.relE hR.hp hR.en rfl rfl rfl, ?_⟩
    · unfold execOp
      simp [ho, Instr.box, newVar, newRow]
    · exact .ptr nm 0 0 0 _ rfl _ (Hp.put_same _ _ _) (Nat.le_refl _) (fun _ => by rw [Pl.put_same]; simp)
  · cases he
theorem ld_direct {t : TypeId} {x : Operand} {x' : Opd} {sz : Nat} {ag : Bool} {dsc : TypeDesc} (hx : OpdOk x x') (hs : (P.info? t).map (·.size) = some sz) (hu : P.underlying t = some dsc) (ha : dsc.isRow = ag) (h1 : ag = false → sz = 1) {E : Ent} {Im : Nat → Prop} {p : Pl} {s : St} {a : Act} {w : World} {nm : Nm} {o : Out} (hR : RelS E Im p s a w) (he : eff nm s.F s.H (.ld sz ag x') = some o) (hcd : o.cond) :
    ∃ u ad, a.eval x = .pointer (some ad) ∧ (Instr.loadAt t (a.eval x)).run P w = .ok u w ∧ Rel Im p s.H w.heap o.v u ∧ o.ws = Option.none := by
  have r := hx _ _ _ _ _ _ hR
  simp only [eff] at he
  have fin : ∀ (b off : Nat) (us : List Value) (ds : List D) (v : D), v = cellsAt ds 0 sz ag → RelL Im p s.H w.heap ds us → ds.length = sz → a.eval x = .pointer (some ⟨b, off, Option.none⟩) → w.rangeAt b off us → ∃ u ad, a.eval x = .pointer (some ad) ∧ (Instr.loadAt t (a.eval x)).run P w = .ok u w ∧ Rel Im p s.H w.heap v u := fun b off us ds v hv RL hl ex hra => by
    subst hv
    obtain ⟨u, e1, e2⟩ := RL.at (c := 0) (sz := sz) (by omega) ag h1
    refine ⟨u, _, ex, ?_, e2⟩
    subst e1
    have hul : us.length = sz := by rw [← RL.len, hl]
    cases ag with
    | true =>
      have := run_loadAt_mid (P := P) w b off t us dsc hra hu ha (by rw [hs, hul])
      have e3 : us.take sz = us := by rw [← hul, List.take_length]
      simp [ex, this, e3]
    | false =>
      obtain ⟨y, rfl⟩ : ∃ y, us = [y] := by
        have := h1 rfl
        match us, hul with
        | [y], _ => exact ⟨y, rfl⟩
        | [], h => simp at h; omega
        | _ :: _ :: _, h => simp at h; omega
      have hcell := hra 0 y rfl
      have hag : (isAgg t).run P w = .ok false w := by
        unfold isAgg
        rw [Sem.run_bind, run_underlying hu w]
        cases dsc <;> simp_all
      simp only [Nat.add_zero] at hcell
      simp [ex, Instr.loadAt, Instr.sureAddr, loadVar, Sem.run_bind, hag, hcell]
  split at he
  · rename_i i g r' c hs'
    rw [hs'] at r
    split at he
    · rename_i e hi
      split at he
      · rename_i hg
        cases he
        dsimp only at hcd
        obtain ⟨blk, t', us, k1, k2, k3, k4, k5, k6, k7, k8, k9⟩ := cells_at hR.hp hi hcd.1 hcd.2
        have RL := (k5.drop c).take sz
        obtain ⟨u, ad, q0, q1, q2⟩ := fin _ _ _ _ (cellsAt (e.rows.getD r' []) c sz ag) (by
          unfold cellsAt
          cases ag with
          | true => simp [List.take_take]
          | false => simp [List.getD_eq_getElem?_getD, List.getElem?_take, h1 rfl]) RL (by rw [RL.len, k9]) (rel_ptr r hi hg) k8
        exact ⟨u, ad, q0, q1, q2, rfl⟩
      · cases he
    · cases he
  · rename_i f hs'
    rw [hs'] at r
    cases he
    dsimp only at hcd
    generalize hux : a.eval x = ux at r
    cases r with
    | p r => cases r
    | ip _ b off u him hcell hr =>
      have RL : RelL Im p s.H w.heap f ((List.range f.length).map u) := by
        refine ⟨by simp, fun j d u' hd hu' => ?_⟩
        have hj : j < f.length := (List.getElem?_eq_some_iff.1 hd).1
        rw [List.getElem?_map, List.getElem?_range hj] at hu'
        cases hu'
        exact ⟨.p (hr j d hd), (hcell j hj).2⟩
      obtain ⟨u', ad, q0, q1, q2⟩ := fin b off (((List.range f.length).map u).take sz) (f.take sz) (cellsAt f 0 sz ag) (by
          unfold cellsAt
          cases ag with
          | true => simp [List.take_take]
          | false => simp [List.getD_eq_getElem?_getD, List.getElem?_take, h1 rfl]) (RL.take sz) (by rw [List.length_take]; omega) hux (fun j v hv => by
            have hj : j < sz := by have := (List.getElem?_eq_some_iff.1 hv).1; rw [List.length_take] at this; omega
            rw [List.getElem?_take, if_pos hj, List.getElem?_map, List.getElem?_range (by omega)] at hv
            cases hv
            rw [hc_cell]
            exact (hcell j (by omega)).1)
      exact ⟨u', ad, hux.symm ▸ q0, by first | exact q1 | (rw [hux] at q1; exact q1), q2, rfl⟩
  · cases he
theorem snd_ld {t : TypeId} {x : Operand} {x' : Opd} {sz : Nat} {ag : Bool} {dsc : TypeDesc} (hx : OpdOk x x') (hs : (P.info? t).map (·.size) = some sz) (hu : P.underlying t = some dsc) (ha : dsc.isRow = ag) (h1 : ag = false → sz = 1) : SoundK P (.load t x) (.ld sz ag x') := fun E Im p s a w nm o d ho hR he hcd => by
  obtain ⟨u, ad, q0, q1, q2, q3⟩ := ld_direct hx hs hu ha h1 hR he hcd
  refine sound_pure hR ?_ q3 q2
  unfold execOp
  simp only [ho, Sem.run_bind, q1, Result.andThen_ok]
  rfl
theorem snd_st {t : TypeId} {x y : Operand} {x' y' : Opd} {sz : Nat} (hx : OpdOk x x') (hy : OpdOk y y') (hs : (P.info? t).map (·.size) = some sz) : SoundK P (.store t x y) (.st sz x' y') := fun E Im p s a w nm o d ho hR he hcd => by
  have r := hx _ _ _ _ _ _ hR
  have r' := hy _ _ _ _ _ _ hR
  simp only [eff] at he
  split at he
  · rename_i i g r0 c ds hs' hds
    rw [hs'] at r
    split at he
    · rename_i e hi
      split at he
      · rename_i hg
        cases he
        dsimp only at hcd ⊢
        obtain ⟨hl, hr0, hc⟩ := hcd
        obtain ⟨blk, t', us, k1, k2, k3, k4, k5, k6, k7, k8, k9⟩ := cells_at hR.hp hi hr0 hc
        have ex := rel_ptr r hi hg
        have RL := RelL.cells r' hds
        have hvl : (a.eval y).cells.toList.length = sz := by rw [← RL.len, hl]
        have hst := run_storeCells_at P (p i).1 ((p i).2 + r0 * e.sz + c) t' (a.eval y).cells.toList 0 blk w k1 (by rw [hvl]; omega) RL.one
        simp only [Nat.add_zero] at hst
        have hne : e.rows ≠ [] := by intro h; rw [h] at hr0; exact absurd hr0 (Nat.not_lt_zero _)
        generalize hvs : (a.eval y).cells.toList = vs at RL hst hvl
        generalize hO : (p i).2 + r0 * e.sz + c = O at hst
        have hOle : O + vs.length ≤ blk.size := by omega
        have hsz' : (blk.toList.take O ++ vs ++ blk.toList.drop (O + vs.length)).length = blk.size := by simp only [List.length_append, List.length_take, List.length_drop, Array.length_toList]; omega
        have hblk' : (w.setRow (p i).1 (blk.toList.take O ++ vs ++ blk.toList.drop (O + vs.length)).toArray).heap[(p i).1]? = some (.cells (blk.toList.take O ++ vs ++ blk.toList.drop (O + vs.length)).toArray t' (0, 0)) := setRow_heap w _ blk _ t' _ k1
        have T : Turn Im p s.H w.heap i e ⟨e.g, e.sz, e.rows.set r0 (put1 (e.rows.getD r0 []) c ds)⟩ (p i) (w.setRow (p i).1 (blk.toList.take O ++ vs ++ blk.toList.drop (O + vs.length)).toArray).heap := by
          refine ⟨.inl hi, .inr (.inr ⟨rfl, rfl, rfl, fun _ => ⟨?_, blk, t', _, k1, hblk', by simpa using hsz'⟩⟩), fun b hb hbo => ?_, by simp, fun _ => .inl ⟨hne, rfl⟩, fun _ => ⟨_, t', hblk', RowsAt.of (fun row hrow => ?_) ?_ fun k hk => ?_⟩⟩
          · intro h
            have := congrArg List.length h
            simp at this
            exact hne this
          · rcases hbo with h | h
            · exact absurd h hne
            · exact setRow_other w _ _ _ h
          · dsimp only at hrow ⊢
            rcases List.mem_or_eq_of_mem_set hrow with h | h
            · exact k3.len _ h
            · rw [h, length_put1 (by omega)]; exact k6
          · dsimp only
            rw [List.length_set]
            have := k3.le
            simp only [List.size_toArray]
            omega
          · dsimp only at hk ⊢
            rw [List.length_set] at hk
            obtain ⟨q1, q2, q3⟩ := k3.row hk
            have hsegA : ∀ m, ((blk.toList.take O ++ vs ++ blk.toList.drop (O + vs.length))[m]?) = if m < O then blk.toList[m]? else if m < O + vs.length then vs[m - O]? else blk.toList[m]? := fun m => by
              have hlt : (blk.toList.take O).length = O := by rw [List.length_take, Array.length_toList]; omega
              split
              · rename_i hm
                rw [List.append_assoc, List.getElem?_append_left (by omega), List.getElem?_take, if_pos hm]
              · split
                · rename_i hm hm'
                  rw [List.append_assoc, List.getElem?_append_right (by omega), hlt, List.getElem?_append_left (by omega)]
                · rename_i hm hm'
                  rw [List.append_assoc, List.getElem?_append_right (by omega), hlt, List.getElem?_append_right (by omega), List.getElem?_drop]
                  congr 1
                  omega
            by_cases hkr : k = r0
            · subst hkr
              rw [List.getD_eq_getElem?_getD, List.getElem?_set_self hr0, Option.getD_some]
              have hput := k5.put1 RL (c := c) (by omega)
              rw [k4] at hput
              have hseg : (((blk.toList.take O ++ vs ++ blk.toList.drop (O + vs.length)).drop ((p i).2 + k * e.sz)).take e.sz) = ((blk.toList.drop ((p i).2 + k * e.sz)).take e.sz).take c ++ vs ++ ((blk.toList.drop ((p i).2 + k * e.sz)).take e.sz).drop (c + vs.length) := by
                refine List.ext_getElem? fun m => ?_
                have hl1 : (((blk.toList.drop ((p i).2 + k * e.sz)).take e.sz).take c).length = c := by rw [List.length_take, List.length_take, List.length_drop, Array.length_toList]; omega
                by_cases hm : m < e.sz
                · rw [List.getElem?_take, if_pos hm, List.getElem?_drop, hsegA]
                  by_cases h1 : m < c
                  · rw [if_pos (by omega), List.append_assoc, List.getElem?_append_left (by omega), List.getElem?_take, if_pos h1, List.getElem?_take, if_pos hm, List.getElem?_drop]
                  · by_cases h2 : m < c + vs.length
                    · rw [if_neg (by omega), if_pos (by omega), List.append_assoc, List.getElem?_append_right (by omega), hl1, List.getElem?_append_left (by omega)]
                      congr 1
                      omega
                    · rw [if_neg (by omega), if_neg (by omega), List.append_assoc, List.getElem?_append_right (by omega), hl1, List.getElem?_append_right (by omega), List.getElem?_drop, List.getElem?_take, if_pos (by omega), List.getElem?_drop]
                      congr 1
                      omega
                · rw [List.getElem?_eq_none (by rw [List.length_take]; omega), List.getElem?_eq_none (by simp only [List.length_append, hl1, List.length_drop, List.length_take, Array.length_toList]; omega)]
              rw [hseg]
              exact hput
            · rw [List.getD_eq_getElem?_getD, List.getElem?_set_ne (Ne.symm hkr), ← List.getD_eq_getElem?_getD]
              have hseg : (((blk.toList.take O ++ vs ++ blk.toList.drop (O + vs.length)).drop ((p i).2 + k * e.sz)).take e.sz) = (blk.toList.drop ((p i).2 + k * e.sz)).take e.sz := by
                refine List.ext_getElem? fun m => ?_
                by_cases hm : m < e.sz
                · rw [List.getElem?_take, if_pos hm, List.getElem?_drop, hsegA, List.getElem?_take, if_pos hm, List.getElem?_drop]
                  rcases Nat.lt_or_gt_of_ne hkr with h | h
                  · have : (k + 1) * e.sz ≤ r0 * e.sz := Nat.mul_le_mul_right _ h
                    rw [Nat.add_mul, Nat.one_mul] at this
                    rw [if_pos (by omega)]
                  · have : (r0 + 1) * e.sz ≤ k * e.sz := Nat.mul_le_mul_right _ h
                    rw [Nat.add_mul, Nat.one_mul] at this
                    rw [if_neg (by omega), if_neg (by omega)]
                · rw [List.getElem?_take, if_neg hm, List.getElem?_take, if_neg hm]
              rw [hseg]
              exact q1
        refine ⟨.skip, undef, w.setRow (p i).1 (blk.toList.take O ++ vs ++ blk.toList.drop (O + vs.length)).toArray, p, ?_, .inr ⟨rfl, rfl⟩, ?_, ?_, ?_, .p (.any _)⟩
        · unfold execOp
          cases hq : P.info? t with
          | none => rw [hq] at hs; cases hs
          | some ti =>
            have hts : ti.size = sz := by rw [hq] at hs; simpa using hs
            have hcs : (a.eval y).cells.size = sz := by rw [← hvl, ← hvs]; simp
            have hst' : (storeVar t ⟨(p i).1, O, Option.none⟩ (a.eval y)).run P w = .ok () (w.setRow (p i).1 (blk.toList.take O ++ vs ++ blk.toList.drop (O + vs.length)).toArray) := by
              rw [← hst]
              simp [storeVar, sizeOf, typeInfo, hq, hcs, hts, hvs]
            simp only [ho, ex, hO, Instr.storeAt, Instr.sureAddr, Sem.run_bind, Sem.run_pure, Result.andThen_ok, hst']
        · have := T.grows hR.hp
          have ep : p.put i (p i) = p := by funext j; unfold Pl.put; split <;> simp_all
          rwa [ep] at this
        · have := T.relH hR.hp
          have ep : p.put i (p i) = p := by funext j; unfold Pl.put; split <;> simp_all
          rwa [ep] at this
        · have := T.relE hR.hp hR.en (w' := w.setRow (p i).1 (blk.toList.take O ++ vs ++ blk.toList.drop (O + vs.length)).toArray) rfl rfl rfl
          have ep : p.put i (p i) = p := by funext j; unfold Pl.put; split <;> simp_all
          rwa [ep] at this
      · cases he
    · cases he
  · cases he
end
end Go.Proofs.Ytiaenojpbiahgaa
