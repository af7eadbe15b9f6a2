
/- Operations over abstract data: lengths, slices, literals, make, append. -/
import Derived.Test.YtiaenojpbiahgaaVg
namespace Go.Proofs.Ytiaenojpbiahgaa
open Go
set_option linter.unusedVariables false
set_option linter.unusedSimpArgs false
section
variable {P : Program}
theorem rel_mt {Im : Nat → Prop} {p : Pl} {H : Hp} {h : Array Obj} {x : Value} (r : Rel Im p H h .mt x) : ∃ a, x = .slice a 0 0 := by
  cases r with
  | p r => cases r; exact ⟨_, rfl⟩
theorem rel_len {Im : Nat → Prop} {p : Pl} {H : Hp} {h : Array Obj} {d : D} {x : Value} (r : Rel Im p H h d x) {n : Nat} (hn : lenOf d = some n) : ∃ a cap, x = .slice a n cap := by
  unfold lenOf at hn
  split at hn <;> cases hn
  · obtain ⟨a, cap, e, _⟩ := relP_sl (rel_sl r)
    exact ⟨a, cap, e⟩
  · obtain ⟨a, e⟩ := rel_mt r
    exact ⟨a, 0, e⟩
  · cases r with
    | p r => cases r
    | own => exact ⟨_, _, rfl⟩
theorem snd_len {t e ty : TypeId} {x : Operand} {x' : Opd} (hx : OpdOk x x') (hu : P.underlying t = some (.slice e)) : SoundK P (.call { callee := .builtin .len, args := #[x], argTypes := #[t] }) (.len x') := fun E Im p s a w nm o d ho hR he hcd => by
  have r := hx _ _ _ _ _ _ hR
  simp only [eff] at he
  split at he
  · rename_i n hn
    cases he
    obtain ⟨b, cap, ex⟩ := rel_len r hn
    refine sound_pure hR (u := .int .i64 n) ?_ rfl (.p (.v _))
    unfold execOp
    simp [ho, resolve, invoke, builtin, ex, Builtin.len_, run_underlying hu, goInt]
  · cases he
theorem snd_lenS {t ty : TypeId} {x : Operand} {x' : Opd} (hx : OpdOk x x') (hu : P.underlying t = some .string) : SoundK P (.call { callee := .builtin .len, args := #[x], argTypes := #[t] }) (.lenS x') := fun E Im p s a w nm o d ho hR he hcd => by
  have r := hx _ _ _ _ _ _ hR
  simp only [eff] at he
  split at he
  · rename_i n hn
    rw [hn] at r
    cases he
    refine sound_pure hR (u := .int .i64 n.size) ?_ rfl (.p (.v _))
    unfold execOp
    simp [ho, resolve, invoke, builtin, rel_v r, Builtin.len_, run_underlying hu, goInt]
  · cases he

/-- A row in which some cells are others, in a block. -/
theorem RowsAt.splice {Im : Nat → Prop} {p : Pl} {H : Hp} {h : Array Obj} {blk : Array Value} {s sz : Nat} {rows : List (List D)} (R : RowsAt Im p H h blk s sz rows) {r0 c0 : Nat} {ds : List D} {vs : List Value} (hr0 : r0 < rows.length) (hc : c0 + ds.length ≤ sz) (RL : RelL Im p H h ds vs) :
    RowsAt Im p H h (blk.toList.take (s + r0 * sz + c0) ++ vs ++ blk.toList.drop (s + r0 * sz + c0 + vs.length)).toArray s sz (rows.set r0 (put1 (rows.getD r0 []) c0 ds)) := by
  obtain ⟨q1, q2, q3⟩ := R.row hr0
  have hvl : vs.length = ds.length := RL.len.symm
  generalize hO : s + r0 * sz + c0 = O
  have hsegA : ∀ m, ((blk.toList.take O ++ vs ++ blk.toList.drop (O + vs.length))[m]?) = if m < O then blk.toList[m]? else if m < O + vs.length then vs[m - O]? else blk.toList[m]? := fun m => by
    have hlt : (blk.toList.take O).length = O := by rw [List.length_take, Array.length_toList]; omega
    split
    · rename_i hm
      rw [List.append_assoc, List.getElem?_append_left (by omega), List.getElem?_take, if_pos hm]
    · split
      · rename_i hm hm'
        rw [List.append_assoc, List.getElem?_append_right (by omega), hlt, List.getElem?_append_left (by omega)]
      · rename_i hm hm'
        rw [List.append_assoc, List.getElem?_append_right (by omega), hlt, List.getElem?_append_right (by omega), List.getElem?_drop]
        congr 1
        omega
  refine RowsAt.of (fun row hrow => ?_) ?_ fun k hk => ?_
  · rcases List.mem_or_eq_of_mem_set hrow with h | h
    · exact R.len _ h
    · rw [h, length_put1 (by omega)]; exact q2
  · rw [List.length_set]
    have := R.le
    simp only [List.size_toArray, List.length_append, List.length_take, List.length_drop, Array.length_toList]
    omega
  · rw [List.length_set] at hk
    obtain ⟨k1, k2, k3⟩ := R.row hk
    by_cases hkr : k = r0
    · subst hkr
      rw [List.getD_eq_getElem?_getD, List.getElem?_set_self hr0, Option.getD_some]
      have hput := k1.put1 RL (c := c0) (by omega)
      have hseg : (((blk.toList.take O ++ vs ++ blk.toList.drop (O + vs.length)).drop (s + k * sz)).take sz) = ((blk.toList.drop (s + k * sz)).take sz).take c0 ++ vs ++ ((blk.toList.drop (s + k * sz)).take sz).drop (c0 + vs.length) := by
        refine List.ext_getElem? fun m => ?_
        have hl1 : (((blk.toList.drop (s + k * sz)).take sz).take c0).length = c0 := by rw [List.length_take, List.length_take, List.length_drop, Array.length_toList]; omega
        by_cases hm : m < sz
        · rw [List.getElem?_take, if_pos hm, List.getElem?_drop, hsegA]
          by_cases h1 : m < c0
          · rw [if_pos (by omega), List.append_assoc, List.getElem?_append_left (by omega), List.getElem?_take, if_pos h1, List.getElem?_take, if_pos hm, List.getElem?_drop]
          · by_cases h2 : m < c0 + vs.length
            · rw [if_neg (by omega), if_pos (by omega), List.append_assoc, List.getElem?_append_right (by omega), hl1, List.getElem?_append_left (by omega)]
              congr 1
              omega
            · rw [if_neg (by omega), if_neg (by omega), List.append_assoc, List.getElem?_append_right (by omega), hl1, List.getElem?_append_right (by omega), List.getElem?_drop, List.getElem?_take, if_pos (by omega), List.getElem?_drop]
              congr 1
              omega
        · rw [List.getElem?_eq_none (by rw [List.length_take]; omega), List.getElem?_eq_none (by simp only [List.length_append, hl1, List.length_drop, List.length_take, Array.length_toList]; omega)]
      rw [hseg]
      exact hput
    · rw [List.getD_eq_getElem?_getD, List.getElem?_set_ne (Ne.symm hkr), ← List.getD_eq_getElem?_getD]
      have hseg : (((blk.toList.take O ++ vs ++ blk.toList.drop (O + vs.length)).drop (s + k * sz)).take sz) = (blk.toList.drop (s + k * sz)).take sz := by
        refine List.ext_getElem? fun m => ?_
        by_cases hm : m < sz
        · rw [List.getElem?_take, if_pos hm, List.getElem?_drop, hsegA, List.getElem?_take, if_pos hm, List.getElem?_drop]
          rcases Nat.lt_or_gt_of_ne hkr with h | h
          · have : (k + 1) * sz ≤ r0 * sz := Nat.mul_le_mul_right _ h
            rw [Nat.add_mul, Nat.one_mul] at this
            rw [if_pos (by omega)]
          · have : (r0 + 1) * sz ≤ k * sz := Nat.mul_le_mul_right _ h
            rw [Nat.add_mul, Nat.one_mul] at this
            rw [if_neg (by omega), if_neg (by omega)]
        · rw [List.getElem?_take, if_neg hm, List.getElem?_take, if_neg hm]
      rw [hseg]
      exact k1
theorem put1_whole {row ds : List D} (h : ds.length = row.length) : put1 row 0 ds = ds := by
  rw [put1_eq row 0 ds (by omega), List.take_zero, List.nil_append, Nat.zero_add, h, List.drop_length, List.append_nil]
/-- A block of zeros. -/
theorem RowsAt.made {Im : Nat → Prop} {p : Pl} {H : Hp} {h : Array Obj} {z : List D} {zs : Array Value} (RL : RelL Im p H h z zs.toList) (n : Nat) : RowsAt Im p H h (madeCells zs (n * z.length)) 0 z.length (List.replicate n z) := by
  have hz : zs.size = z.length := by rw [RL.len]; simp
  refine RowsAt.of (fun r hr => by rw [List.eq_of_mem_replicate hr]) (by rw [size_madeCells, List.length_replicate, Nat.zero_add]; exact Nat.le_refl _) fun r hr => ?_
  rw [List.length_replicate] at hr
  have e : (List.replicate n z).getD r [] = z := by rw [List.getD_eq_getElem?_getD, List.getElem?_replicate, if_pos hr]; rfl
  rw [e]
  have hle : (r + 1) * z.length ≤ n * z.length := Nat.mul_le_mul_right _ hr
  rw [Nat.add_mul, Nat.one_mul] at hle
  have : (((madeCells zs (n * z.length)).toList.drop (0 + r * z.length)).take z.length) = zs.toList := by
    refine List.ext_getElem? fun m => ?_
    by_cases hm : m < z.length
    · rw [List.getElem?_take, if_pos hm, List.getElem?_drop]
      have h1 : r * z.length + m < n * z.length := by omega
      have h2 : (r * z.length + m) % zs.size = m := by rw [hz, Nat.mul_comm, Nat.mul_add_mod, Nat.mod_eq_of_lt hm]
      have hm' : m < zs.size := by omega
      simp [madeCells, h1, h2, hm']
    · rw [List.getElem?_take, if_neg hm, List.getElem?_eq_none (by rw [← RL.len]; omega)]
  rw [this]
  exact RL
theorem foldl_set (off : Nat) : ∀ (vs : List Value) (n : Nat) (cells : Array Value), off + n + vs.length ≤ cells.size → ((vs.zipIdx n).foldl (fun (cs : Array Value) (x : Value × Nat) => cs.setIfInBounds (off + x.2) x.1) cells).toList = cells.toList.take (off + n) ++ vs ++ cells.toList.drop (off + n + vs.length)
  | [], n, cells, h => by simp
  | v :: rest, n, cells, h => by
    rw [List.length_cons] at h
    rw [List.zipIdx_cons, List.foldl_cons, foldl_set off rest (n + 1) _ (by rw [Array.size_setIfInBounds]; omega)]
    have e := list_seg_step cells.toList (off + n) v rest (by rw [Array.length_toList]; omega)
    simpa [Nat.add_assoc] using e
theorem fill_step (vs cells : Array Value) (off : Nat) (h : off + vs.size ≤ cells.size) : (vs.zipIdx.foldl (fun (cs : Array Value) (x : Value × Nat) => cs.setIfInBounds (off + x.2) x.1) cells).toList = cells.toList.take off ++ vs.toList ++ cells.toList.drop (off + vs.toList.length) := by
  have := foldl_set off vs.toList 0 cells (by simpa using h)
  rw [← Array.foldl_toList, Array.toList_zipIdx]
  simpa using this
/-- The parts of a literal. -/
def PartsOk (place : Nat → Option (Nat × Nat)) : List (Nat × Operand) → List (Nat × Nat × Opd) → Prop
  | [], [] => True
  | (i, x) :: xs, (off, sz, y) :: ys => place i = some (off, sz) ∧ OpdOk x y ∧ PartsOk place xs ys
  | _, _ => False
theorem fill_rel {E : Ent} {Im : Nat → Prop} {p : Pl} {s : St} {a : Act} {w : World} (hR : RelS E Im p s a w) (place : Nat → Option (Nat × Nat)) : ∀ (xs : List (Nat × Operand)) (ys : List (Nat × Nat × Opd)) (z : List D) (cells : Array Value) (cs : List D), PartsOk place xs ys → RelL Im p s.H w.heap z cells.toList → fillD s.F ys z = some cs →
    ∃ cells', Instr.fill place cells (xs.map fun q => (q.1, a.eval q.2)) = some cells' ∧ RelL Im p s.H w.heap cs cells'.toList
  | [], [], z, cells, cs, _, RL, h => by cases h; exact ⟨cells, rfl, RL⟩
  | [], _ :: _, z, cells, cs, hp, RL, h => hp.elim
  | _ :: _, [], z, cells, cs, hp, RL, h => hp.elim
  | (i, x) :: xs, (off, sz, y) :: ys, z, cells, cs, hp, RL, h => by
    obtain ⟨h1, h2, h3⟩ := hp
    simp only [fillD] at h
    split at h
    · rename_i ds hds
      split at h
      · rename_i hc
        obtain ⟨c1, c2⟩ := hc
        have RV := RelL.cells (h2 _ _ _ _ _ _ hR) hds
        have hsz : (a.eval x).cells.size = sz := by have := RV.len; simp at this; omega
        have hcl : off + sz ≤ cells.size := by rw [RL.len] at c2; simpa using c2
        have hl := fill_step (a.eval x).cells cells off (by omega)
        have hput := RL.put1 RV (c := off) (by omega)
        rw [← hl] at hput
        obtain ⟨cells', k1, k2⟩ := fill_rel hR place xs ys _ _ cs h3 hput h
        refine ⟨cells', ?_, k2⟩
        simp only [List.map_cons, Instr.fill, h1]
        rw [if_neg (by simp [hsz]; omega)]
        exact k1
      · cases h
    · cases h
theorem snd_bldS {t : TypeId} {parts : Array (Nat × Operand)} {z' : List D} {ps : List (Nat × Nat × Opd)} {ti : TypeInfo} {zv : Value} {fs : Array Field} {places : List (Nat × Nat)} (hi : P.info? t = some ti) (hz : ti.zero = some zv) (hz' : z' = zv.cells.toList.map ofC) (h1 : zv.cells.toList.all one = true) (hu : P.underlying t = some (.struct fs))
    (hpl : fs.toList.mapM (fun f => (P.info? f.type).map fun i => (f.offset, i.size)) = some places) (hps : PartsOk (places.toArray[·]?) parts.toList ps) : SoundK P (.build t parts) (.bld z' ps) := fun E Im p s a w nm o d ho hR he hcd => by
  simp only [eff] at he
  split at he
  · rename_i cs hcs
    cases he
    have RL : RelL Im p s.H w.heap z' zv.cells.toList := by
      subst hz'
      refine ⟨by simp, fun j d u hd hu => ?_⟩
      rw [List.getElem?_map, hu] at hd
      cases hd
      exact ⟨.p (relP_ofC _ _ _), List.all_eq_true.1 h1 u (List.mem_of_getElem? hu)⟩
    obtain ⟨cells', k1, k2⟩ := fill_rel hR _ _ _ _ _ _ hps RL hcs
    refine sound_pure hR (u := .agg cells') ?_ rfl (by simpa using k2.rel)
    have hb : P.built t (parts.map fun q => (q.1, a.eval q.2)).toList = some cells' := by
      unfold Program.built
      simp only [hi, hu, hz, hpl, Array.toList_map]
      exact k1
    unfold execOp
    simp only [ho, Sem.run_bind, run_build w t _ cells' hb, Result.andThen_ok]
    rfl
  · cases he
theorem snd_bldA {t e : TypeId} {n : Nat} {parts : Array (Nat × Operand)} {z' : List D} {ps : List (Nat × Nat × Opd)} {ti ei : TypeInfo} {zv : Value} (hi : P.info? t = some ti) (hz : ti.zero = some zv) (hz' : z' = zv.cells.toList.map ofC) (h1 : zv.cells.toList.all one = true) (hu : P.underlying t = some (.array n e))
    (hei : P.info? e = some ei) (hps : PartsOk (fun i => some (i * ei.size, ei.size)) parts.toList ps) : SoundK P (.build t parts) (.bld z' ps) := fun E Im p s a w nm o d ho hR he hcd => by
  simp only [eff] at he
  split at he
  · rename_i cs hcs
    cases he
    have RL : RelL Im p s.H w.heap z' zv.cells.toList := by
      subst hz'
      refine ⟨by simp, fun j d u hd hu => ?_⟩
      rw [List.getElem?_map, hu] at hd
      cases hd
      exact ⟨.p (relP_ofC _ _ _), List.all_eq_true.1 h1 u (List.mem_of_getElem? hu)⟩
    obtain ⟨cells', k1, k2⟩ := fill_rel hR _ _ _ _ _ _ hps RL hcs
    refine sound_pure hR (u := .agg cells') ?_ rfl (by simpa using k2.rel)
    have hb : P.built t (parts.map fun q => (q.1, a.eval q.2)).toList = some cells' := by
      unfold Program.built
      simp only [hi, hu, hz, hei, Array.toList_map]
      exact k1
    unfold execOp
    simp only [ho, Sem.run_bind, run_build w t _ cells' hb, Result.andThen_ok]
    rfl
  · cases he
/-- The parts of a literal slice. -/
def RowsOk : List (Nat × Operand) → List (Nat × Opd) → Prop
  | [], [] => True
  | (i, x) :: xs, (j, y) :: ys => i = j ∧ OpdOk x y ∧ RowsOk xs ys
  | _, _ => False
theorem fillR_rel {E : Ent} {Im : Nat → Prop} {p : Pl} {s : St} {a : Act} {w : World} (hR : RelS E Im p s a w) (sz : Nat) : ∀ (xs : List (Nat × Operand)) (ys : List (Nat × Opd)) (rows : List (List D)) (cells : Array Value) (rows' : List (List D)), RowsOk xs ys → RowsAt Im p s.H w.heap cells 0 sz rows → fillR s.F sz ys rows = some rows' → cells.size = rows.length * sz →
    ∃ cells', Instr.fill (fun i => some (i * sz, sz)) cells (xs.map fun q => (q.1, a.eval q.2)) = some cells' ∧ RowsAt Im p s.H w.heap cells' 0 sz rows' ∧ rows'.length = rows.length
  | [], [], z, cells, cs, _, RL, h, _ => by cases h; exact ⟨cells, rfl, RL, rfl⟩
  | [], _ :: _, z, cells, cs, hp, RL, h, _ => hp.elim
  | _ :: _, [], z, cells, cs, hp, RL, h, _ => hp.elim
  | (i, x) :: xs, (j, y) :: ys, rows, cells, rows', hp, RL, h, hcs => by
    obtain ⟨rfl, h2, h3⟩ := hp
    simp only [fillR] at h
    split at h
    · rename_i ds hds
      split at h
      · rename_i hc
        obtain ⟨c1, c2⟩ := hc
        have RV := RelL.cells (h2 _ _ _ _ _ _ hR) hds
        have hsz : (a.eval x).cells.size = sz := by have := RV.len; simp at this; omega
        have hle : (i + 1) * sz ≤ rows.length * sz := Nat.mul_le_mul_right _ c2
        rw [Nat.add_mul, Nat.one_mul] at hle
        have hl := fill_step (a.eval x).cells cells (i * sz) (by omega)
        have hsp := RL.splice (r0 := i) (c0 := 0) c2 (by omega) RV
        have hrow := (RL.row c2).2.1
        rw [put1_whole (by omega)] at hsp
        simp only [Nat.zero_add, Nat.add_zero] at hsp
        rw [← hl] at hsp
        have hsz' : ((a.eval x).cells.zipIdx.foldl (fun (cs : Array Value) (x : Value × Nat) => cs.setIfInBounds (i * sz + x.2) x.1) cells).size = (rows.set i ds).length * sz := by
          rw [← Array.length_toList, hl, List.length_set]
          simp only [List.length_append, List.length_take, List.length_drop, Array.length_toList]
          omega
        obtain ⟨cells', k1, k2, k3⟩ := fillR_rel hR sz xs ys _ _ rows' h3 (by simpa using hsp) h hsz'
        refine ⟨cells', ?_, k2, by rw [k3, List.length_set]⟩
        simp only [List.map_cons, Instr.fill]
        rw [if_neg (by simp [hsz]; omega)]
        exact k1
      · cases h
    · cases h
theorem snd_bsl {t e : TypeId} {n : Nat} {parts : Array (Nat × Operand)} {z' : List D} {ps : List (Nat × Opd)} {ei : TypeInfo} {zv : Value} {sz : Nat} (hu : P.underlying t = some (.slice e)) (hei : P.info? e = some ei) (hz : ei.zero = some zv) (hz' : z' = zv.cells.toList.map ofC) (h1 : zv.cells.toList.all one = true) (hsz : ei.size = sz) (hzs : zv.cells.size = sz) (hn : n * sz ≤ 16777216)
    (hps : RowsOk parts.toList ps) : SoundK P (.buildSlice t n parts) (.bsl sz n z' ps) := fun E Im p s a w nm o d ho hR he hcd => by
  simp only [eff] at he
  split at he
  · rename_i rows hnm hrows
    cases he
    have RL : RelL Im p s.H w.heap z' zv.cells.toList := by
      subst hz'
      refine ⟨by simp, fun j d u hd hu => ?_⟩
      rw [List.getElem?_map, hu] at hd
      cases hd
      exact ⟨.p (relP_ofC _ _ _), List.all_eq_true.1 h1 u (List.mem_of_getElem? hu)⟩
    have hzl : z'.length = sz := by rw [RL.len]; simpa using hzs
    have R0 := RowsAt.made RL n
    rw [hzl] at R0
    obtain ⟨cells', k1, k2, k3⟩ := fillR_rel hR sz _ _ _ _ _ hps R0 hrows (by rw [size_madeCells, List.length_replicate])
    rw [List.length_replicate] at k3
    have T : Turn Im p s.H w.heap nm ⟨0, 0, []⟩ ⟨0, sz, rows⟩ (w.heap.size, 0) (w.heap.push (.cells cells' e)) := Turn.fresh hnm k2
    refine ⟨.value (.slice (some ⟨w.heap.size, 0, Option.none⟩) n n), _, w.alloc (.cells cells' e), p.put nm (w.heap.size, 0), ?_, .inl rfl, T.grows hR.hp, T.relH hR.hp, T.relE hR.hp hR.en rfl rfl rfl, ?_⟩
    · have hnn : ¬ (16777216 < n * sz) := by omega
      have k1' : Instr.fill (fun i => some (i * sz, sz)) (madeCells zv.cells (n * sz)) (parts.map fun q => (q.1, a.eval q.2)).toList = some cells' := by simpa using k1
      unfold execOp
      by_cases h0 : n * sz = 0
      · have e0 : madeCells zv.cells (n * sz) = #[] := by rw [h0]; simp [madeCells]
        rw [e0] at k1
        simp [ho, Instr.buildSlice, run_underlying hu, sizeOf, typeInfo, hei, hsz, hnn, h0, newRow]
        simp [Array.range_zero', k1]
      · simp [ho, Instr.buildSlice, run_underlying hu, sizeOf, typeInfo, zeroValue, hz, hei, hsz, hnn, h0, newRow]
        simp [madeCells] at k1'
        simp [k1']
    · refine .own nm 0 0 n _ n _ (Hp.put_same _ _ _) (Nat.le_refl _) (Nat.le_refl _) fun _ hpos => ?_
      rw [Pl.put_same]
      refine ⟨by simp, fun h => ?_, cells', e, push_at _ _, ?_⟩
      · dsimp only at h
        rw [h] at k3
        simp at k3
        omega
      · dsimp only
        have := k2.le
        rw [k3] at this
        simpa using this
  · cases he
theorem snd_mks {t e : TypeId} {x : Operand} {x' : Opd} {z' : List D} {ei : TypeInfo} {zv : Value} {sz bytes : Nat} (hx : OpdOk x x') (hu : P.underlying t = some (.slice e)) (hei : P.info? e = some ei) (hz : ei.zero = some zv) (hz' : z' = zv.cells.toList.map ofC) (h1 : zv.cells.toList.all one = true) (hsz : ei.size = sz) (hzs : zv.cells.size = sz) (hby : ei.bytes = bytes) : SoundK P (.makeSlice t x x) (.mks sz bytes z' x') := fun E Im p s a w nm o d ho hR he hcd => by
  have r := hx _ _ _ _ _ _ hR
  simp only [eff] at he
  split at he
  · rename_i k hnm hk
    cases he
    dsimp only at hcd
    obtain ⟨c0, c1, c2⟩ := hcd
    obtain ⟨kd, hkd⟩ := nat_of hk
    rw [hkd] at r
    subst hsz hby
    have RL : RelL Im p s.H w.heap z' zv.cells.toList := by
      subst hz'
      refine ⟨by simp, fun j d u hd hu => ?_⟩
      rw [List.getElem?_map, hu] at hd
      cases hd
      exact ⟨.p (relP_ofC _ _ _), List.all_eq_true.1 h1 u (List.mem_of_getElem? hu)⟩
    have hzl : z'.length = ei.size := by rw [RL.len]; simpa using hzs
    have R0 := RowsAt.made RL k.toNat
    rw [hzl] at R0
    have T : Turn Im p s.H w.heap nm ⟨0, 0, []⟩ ⟨0, ei.size, List.replicate k.toNat z'⟩ (w.heap.size, 0) (w.heap.push (.cells (madeCells zv.cells (k.toNat * ei.size)) e)) := Turn.fresh hnm R0
    refine ⟨.value (.slice (some ⟨w.heap.size, 0, Option.none⟩) k.toNat k.toNat), _, w.alloc (.cells (madeCells zv.cells (k.toNat * ei.size)) e), p.put nm (w.heap.size, 0), ?_, .inl rfl, T.grows hR.hp, T.relH hR.hp, T.relE hR.hp hR.en rfl rfl rfl, ?_⟩
    · unfold execOp
      simp only [ho, rel_v r, Sem.run_bind, run_make w t e ei zv hu hei hz kd kd k k c0 (Int.le_refl _) c1 (by omega), Result.andThen_ok]
      rfl
    · refine .own nm 0 0 _ _ k.toNat _ (Hp.put_same _ _ _) (Nat.le_refl _) (Nat.le_refl _) fun _ hpos => ?_
      rw [Pl.put_same]
      refine ⟨by simp, fun h => ?_, _, e, push_at _ _, ?_⟩
      · dsimp only at h
        have := congrArg List.length h
        simp at this
        omega
      · dsimp only
        rw [size_madeCells]
        simp
  · cases he
end
end Go.Proofs.Ytiaenojpbiahgaa
