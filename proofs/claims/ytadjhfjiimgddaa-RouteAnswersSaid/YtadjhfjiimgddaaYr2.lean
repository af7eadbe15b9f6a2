/- RouteAnswers: V2. -/
import Derived.ChangeKeysEq
import Derived.Laws.BytesString
import Derived.Laws.StructEq
import Derived.Deep.Upon
import Derived.Test.YtadjhfjiimgddaaYr1
set_option linter.unusedSimpArgs false
set_option linter.unusedVariables false

/- Operations over abstract data: addresses, elements, slices. -/
namespace Go.Proofs.Ytadjhfjiimgddaa
open Go
section
variable {P : Program}
theorem snd_nck {x : Operand} {x' : Opd} (hx : OpdOk x x') : SoundK P (.nilCheck x) (.nck x') := fun E Im p s a w nm o d ho hR he hcd => by
 have r := hx _ _ _ _ _ _ hR
 simp only [eff] at he
 split at he
 ·rename_i i g r0 c hs
  rw [hs] at r
  split at he
  ·rename_i e hi
   split at he
   ·rename_i hg
    cases he
    have ex := rel_ptr r hi hg
    exact sound_pure hR (u := a.eval x) (by unfold execOp; simp [ho, ex]) rfl r
   ·cases he
  ·cases he
 ·rename_i f hs
  rw [hs] at r
  cases he
  refine sound_pure hR (u := a.eval x) ?_ rfl r
  generalize hu : a.eval x = u at r
  cases r with
  | p r => cases r
  | ip _ b off u him hcell hr => unfold execOp; simp [ho, hu]
 ·rename_i f fs cs hs
  rw [hs] at r
  cases he
  refine sound_pure hR (u := a.eval x) ?_ rfl r
  generalize hu : a.eval x = u at r
  cases r with
  | p r => cases r
  | clo => unfold execOp; simp [ho, hu]
 ·cases he
theorem run_fieldAt {t : TypeId} {w : World} {b o k : Nat} {fs : Array Field} {f : Field} {fi : TypeInfo} (hu : P.underlying t = some (.struct fs)) (hf : fs[k]? = some f) (hi : P.info? f.type = some fi) (hz : fi.size ≠ 0) :
  (Instr.fieldAt t (.pointer (some ⟨b, o, Option.none⟩)) k).run P w = .ok (.pointer (some ⟨b, o + f.offset, Option.none⟩)) w := by
 unfold Instr.fieldAt
 simp [run_underlying hu, hf, Instr.sureAddr, fieldPlace, sizeOf, typeInfo, hi, hz, Addr.add_mid]
theorem snd_fa {t : TypeId} {x : Operand} {x' : Opd} {k off : Nat} {fs : Array Field} {f : Field} {fi : TypeInfo} (hx : OpdOk x x') (hu : P.underlying t = some (.struct fs)) (hf : fs[k]? = some f) (hi : P.info? f.type = some fi) (hz : fi.size ≠ 0) (hoff : f.offset = off) : SoundK P (.fieldAddr t x k) (.fa off x') := fun E Im p s a w nm o d ho hR he hcd => by
 have r := hx _ _ _ _ _ _ hR
 subst hoff
 simp only [eff] at he
 split at he
 ·rename_i i g r0 c hs
  rw [hs] at r
  split at he
  ·rename_i e hie
   split at he
   ·rename_i hg
    cases he
    have ex := rel_ptr r hie hg
    refine sound_pure hR (u := .pointer (some ⟨(p i).1, (p i).2 + r0 * e.sz + (c + f.offset), Option.none⟩)) ?_ rfl (.ptr i g r0 (c + f.offset) _ rfl e hie (by omega) fun _ => rfl)
    unfold execOp
    simp only [ho, ex, Sem.run_bind, run_fieldAt hu hf hi hz, Result.andThen_ok, Nat.add_assoc]
    rfl
   ·cases he
  ·cases he
 ·rename_i f' hs
  rw [hs] at r
  cases he
  generalize hxu : a.eval x = ux at r
  cases r with
  | p r => cases r
  | ip _ b off u him hcell hr =>
   refine sound_pure hR (u := .pointer (some ⟨b, off + f.offset, Option.none⟩)) ?_ rfl (.ip (f'.drop f.offset) b (off + f.offset) (fun j => u (f.offset + j)) him (fun j hj => ?_) (fun j d hj => ?_))
   ·unfold execOp
    simp only [ho, hxu, Sem.run_bind, run_fieldAt hu hf hi hz, Result.andThen_ok]
    rfl
   ·rw [List.length_drop] at hj
    rw [Nat.add_assoc]
    exact hcell _ (by omega)
   ·rw [List.getElem?_drop] at hj
    exact hr _ d hj
 ·cases he
theorem nat_of {d : D} {k : Int} (h : d.nat = some k) : ∃ kd, d = .v (.int kd k) := by
 unfold D.nat at h
 split at h
 ·cases h; exact ⟨_, rfl⟩
 ·cases h
theorem snd_iaA {t e : TypeId} {x y : Operand} {x' y' : Opd} {n sz : Nat} {ei : TypeInfo} (hx : OpdOk x x') (hy : OpdOk y y') (hu : P.underlying t = some (.array n e)) (hi : P.info? e = some ei) (hz : ei.size = sz) : SoundK P (.indexAddr t x y) (.iaA n sz x' y') := fun E Im p s a w nm o d ho hR he hcd => by
 have r := hx _ _ _ _ _ _ hR
 have r' := hy _ _ _ _ _ _ hR
 subst hz
 have run : ∀ (b off : Nat) (kd : IntKind) (k : Int), 0 ≤ k → k < n → (Instr.indexAt t (.pointer (some ⟨b, off, Option.none⟩)) (.int kd k)).run P w = .ok (.pointer (some ⟨b, off + k.toNat * ei.size, Option.none⟩)) w := fun b off kd k h0 h1 => by
  unfold Instr.indexAt
  simp [run_underlying hu, asIntOf, Instr.sureAddr, sizeOf, typeInfo, hi, h0, h1, Addr.add_mid]
 simp only [eff] at he
 split at he
 ·rename_i i g r0 c k hs hk
  rw [hs] at r
  obtain ⟨kd, hkd⟩ := nat_of hk
  rw [hkd] at r'
  split at he
  ·rename_i en hie
   split at he
   ·rename_i hg
    cases he
    dsimp only at hcd
    have ex := rel_ptr r hie hg
    refine sound_pure hR (u := .pointer (some ⟨(p i).1, (p i).2 + r0 * en.sz + (c + k.toNat * ei.size), Option.none⟩)) ?_ rfl (.ptr i g r0 _ _ rfl en hie (by omega) fun _ => rfl)
    unfold execOp
    simp only [ho, ex, rel_v r', Sem.run_bind, run _ _ kd k hcd.1 hcd.2, Result.andThen_ok, Nat.add_assoc]
    rfl
   ·cases he
  ·cases he
 ·rename_i f' k hs hk
  rw [hs] at r
  obtain ⟨kd, hkd⟩ := nat_of hk
  rw [hkd] at r'
  cases he
  dsimp only at hcd
  generalize hxu : a.eval x = ux at r
  cases r with
  | p r => cases r
  | ip _ b off u him hcell hr =>
   refine sound_pure hR (u := .pointer (some ⟨b, off + k.toNat * ei.size, Option.none⟩)) ?_ rfl (.ip (f'.drop (k.toNat * ei.size)) b _ (fun j => u (k.toNat * ei.size + j)) him (fun j hj => ?_) (fun j d hj => ?_))
   ·unfold execOp
    simp only [ho, hxu, rel_v r', Sem.run_bind, run _ _ kd k hcd.1 hcd.2, Result.andThen_ok]
    rfl
   ·rw [List.length_drop] at hj
    rw [Nat.add_assoc]
    exact hcell _ (by omega)
   ·rw [List.getElem?_drop] at hj
    exact hr _ d hj
 ·cases he
theorem relP_sl {Im : Nat → Prop} {h : Array Obj} {l : List (List D)} {x : Value} (r : RelP Im h (.sl l) x) : ∃ a cap, x = .slice a l.length cap ∧ l.length ≤ cap ∧ (l ≠ [] → ∃ (b o sz : Nat) (u : Nat → Nat → Value), a = some ⟨b, o, Option.none⟩ ∧ Im b ∧ (∀ r ∈ l, r.length = sz) ∧ (∀ i j, i < l.length → j < sz → hc h b (o + i * sz + j) = some (u i j) ∧ one (u i j) = true) ∧ ∀ i j (hi : i < l.length) (hj : j < l[i].length), RelP Im h l[i][j] (u i j)) := by
 cases r with
 | sl0 a cap => exact ⟨a, cap, rfl, Nat.zero_le _, fun h => absurd rfl h⟩
 | sl1 _ b o n cap sz u hl hn hsz him hcell hrel =>
  subst hl
  exact ⟨_, cap, rfl, hn, fun _ => ⟨b, o, sz, u, rfl, him, hsz, hcell, hrel⟩⟩
theorem rel_sl {Im : Nat → Prop} {p : Pl} {H : Hp} {h : Array Obj} {l : List (List D)} {x : Value} (r : Rel Im p H h (.sl l) x) : RelP Im h (.sl l) x := by
 cases r with
 | p r => exact r
theorem snd_iaS {t e : TypeId} {x y : Operand} {x' y' : Opd} {ei : TypeInfo} (hx : OpdOk x x') (hy : OpdOk y y') (hu : P.underlying t = some (.slice e)) (hi : P.info? e = some ei) : SoundK P (.indexAddr t x y) (.iaS ei.size x' y') := fun E Im p s a w nm o d ho hR he hcd => by
 have r := hx _ _ _ _ _ _ hR
 have r' := hy _ _ _ _ _ _ hR
 have run : ∀ (b off : Nat) (kd : IntKind) (k : Int) (len cap : Nat), 0 ≤ k → k < len → (Instr.indexAt t (.slice (some ⟨b, off, Option.none⟩) len cap) (.int kd k)).run P w = .ok (.pointer (some ⟨b, off + k.toNat * ei.size, Option.none⟩)) w := fun b off kd k len cap h0 h1 => by
  unfold Instr.indexAt
  simp [run_underlying hu, asIntOf, sizeOf, typeInfo, hi, h0, h1, Addr.add_mid]
 simp only [eff] at he
 split at he
 ·rename_i l k hs hk
  rw [hs] at r
  obtain ⟨kd, hkd⟩ := nat_of hk
  rw [hkd] at r'
  cases he
  dsimp only at hcd
  obtain ⟨h0, h1, h2⟩ := hcd
  have hkl : k.toNat < l.length := by omega
  obtain ⟨ao, cap, ex, hcap, hl⟩ := relP_sl (rel_sl r)
  obtain ⟨b, off, sz, u, rfl, him, hsz, hcell, hrel⟩ := hl (by intro h; rw [h] at hkl; exact absurd hkl (Nat.not_lt_zero _))
  have hg : l.getD k.toNat [] = l[k.toNat] := by rw [List.getD_eq_getElem?_getD, List.getElem?_eq_getElem hkl]; rfl
  have hsz' : l[k.toNat].length = sz := hsz _ (List.getElem_mem hkl)
  rw [hg] at h2
  have he : sz = ei.size := by omega
  subst he
  refine sound_pure hR (u := .pointer (some ⟨b, off + k.toNat * ei.size, Option.none⟩)) ?_ rfl ?_
  ·unfold execOp
   simp only [ho, ex, rel_v r', Sem.run_bind, run _ _ kd k _ _ h0 h1, Result.andThen_ok]
   rfl
  ·dsimp only
   rw [hg]
   exact .ip _ b _ (fun j => u k.toNat j) him (fun j hj => hcell k.toNat j hkl (by omega)) (fun j d hj => by
    have hj' := (List.getElem?_eq_some_iff.1 hj)
    obtain ⟨hj1, hj2⟩ := hj'
    rw [← hj2]
    exact hrel k.toNat j hkl hj1)
 ·rename_i i g off n k hs hk
  rw [hs] at r
  obtain ⟨kd, hkd⟩ := nat_of hk
  rw [hkd] at r'
  split at he
  ·rename_i en hie
   split at he
   ·rename_i hg
    cases he
    dsimp only at hcd
    obtain ⟨h0, h1, h2⟩ := hcd
    obtain ⟨ao, cap, ex, hcap, hl⟩ := rel_own r hie hg
    obtain ⟨rfl, -⟩ := hl (by omega)
    rw [← h2] at run
    refine sound_pure hR (u := .pointer (some ⟨(p i).1, (p i).2 + (off + k.toNat) * en.sz + 0, Option.none⟩)) ?_ rfl (.ptr i g (off + k.toNat) 0 _ rfl en hie (by omega) fun _ => rfl)
    unfold execOp
    simp only [ho, ex, rel_v r', Sem.run_bind, run _ _ kd k _ _ h0 h1, Result.andThen_ok, Nat.add_assoc, Nat.add_mul, Nat.add_zero]
    rfl
   ·cases he
  ·cases he
 ·cases he
theorem run_part {t : TypeId} {w : World} {cs : Array Value} {off sz : Nat} {dsc : TypeDesc} {ti : TypeInfo} (hi : P.info? t = some ti) (hs : ti.size = sz) (hu : P.underlying t = some dsc) (hle : off + sz ≤ cs.size) (h1 : dsc.isRow = false → sz = 1) :
  (part t cs off).run P w = .ok (if dsc.isRow = true then .agg ((cs.toList.drop off).take sz).toArray else cs.toList.getD off undef) w := by
 have hag : (isAgg t).run P w = .ok dsc.isRow w := by
  unfold isAgg
  rw [Sem.run_bind, run_underlying hu w]
  cases dsc <;> simp_all
 unfold part
 cases hd : dsc.isRow with
 | true =>
  rw [hd] at hag
  simp [hag, sizeOf, typeInfo, hi, hs]
  apply Array.ext'
  simp [List.drop_take]
 | false =>
  rw [hd] at hag
  have := h1 hd
  have hlt : off < cs.size := by omega
  simp [hag, Array.getElem?_eq_getElem hlt, List.getD_eq_getElem?_getD, List.getElem?_eq_getElem]
theorem snd_fld {t : TypeId} {x : Operand} {x' : Opd} {k off sz : Nat} {ag : Bool} {fs : Array Field} {f : Field} {fi : TypeInfo} {dsc : TypeDesc} (hx : OpdOk x x') (hu : P.underlying t = some (.struct fs)) (hf : fs[k]? = some f) (hi : P.info? f.type = some fi) (hz : fi.size = sz) (hoff : f.offset = off) (hd : P.underlying f.type = some dsc) (ha : dsc.isRow = ag) (h1 : ag = false → sz = 1) : SoundK P (.field t x k) (.fld off sz ag x') := fun E Im p s a w nm o d ho hR he hcd => by
 have r := hx _ _ _ _ _ _ hR
 simp only [eff] at he
 split at he
 ·rename_i cs hs
  rw [hs] at r
  cases he
  dsimp only at hcd
  obtain ⟨us, ex, RL⟩ := RelL.of_agg r
  obtain ⟨u, e1, e2⟩ := RL.at hcd ag h1
  refine sound_pure hR (u := u) ?_ rfl e2
  have hle : off + sz ≤ us.size := by rw [RL.len] at hcd; simpa using hcd
  have := run_part (w := w) hi hz hd hle (by rw [ha]; exact h1)
  rw [ha, e1, ← hoff] at this
  unfold execOp
  simp [ho, ex, Instr.field, run_underlying hu, hf, asAgg, this]
 ·cases he
theorem snd_ixA {t e : TypeId} {x y : Operand} {x' y' : Opd} {n sz : Nat} {ag : Bool} {ei : TypeInfo} {dsc : TypeDesc} (hx : OpdOk x x') (hy : OpdOk y y') (hu : P.underlying t = some (.array n e)) (hi : P.info? e = some ei) (hz : ei.size = sz) (hd : P.underlying e = some dsc) (ha : dsc.isRow = ag) (h1 : ag = false → sz = 1) : SoundK P (.index t x y) (.ixA n sz ag x' y') := fun E Im p s a w nm o d ho hR he hcd => by
 have r := hx _ _ _ _ _ _ hR
 have r' := hy _ _ _ _ _ _ hR
 simp only [eff] at he
 split at he
 ·rename_i cs k hs hk
  rw [hs] at r
  obtain ⟨kd, hkd⟩ := nat_of hk
  rw [hkd] at r'
  cases he
  dsimp only at hcd
  obtain ⟨c0, c1, c2⟩ := hcd
  obtain ⟨us, ex, RL⟩ := RelL.of_agg r
  obtain ⟨u, e1, e2⟩ := RL.at c2 ag h1
  refine sound_pure hR (u := u) ?_ rfl e2
  have hle : k.toNat * sz + sz ≤ us.size := by rw [RL.len] at c2; simpa using c2
  have := run_part (w := w) hi hz hd hle (by rw [ha]; exact h1)
  rw [ha, e1] at this
  unfold execOp
  simp [ho, ex, rel_v r', Instr.index, asIntOf, run_underlying hu, c0, c1, sizeOf, typeInfo, hi, hz, this]
 ·cases he
theorem snd_ixS {t : TypeId} {x y : Operand} {x' y' : Opd} (hx : OpdOk x x') (hy : OpdOk y y') (hu : P.underlying t = some .string) : SoundK P (.index t x y) (.ixS x' y') := fun E Im p s a w nm o d ho hR he hcd => by
 have r := hx _ _ _ _ _ _ hR
 have r' := hy _ _ _ _ _ _ hR
 simp only [eff] at he
 split at he
 ·rename_i b k hs hk
  rw [hs] at r
  obtain ⟨kd, hkd⟩ := nat_of hk
  rw [hkd] at r'
  cases he
  dsimp only at hcd
  obtain ⟨c0, c1⟩ := hcd
  have hlt : k.toNat < b.size := by omega
  refine sound_pure hR (u := .int .u8 (b.data.getD k.toNat 0).toNat) ?_ rfl (.p (.v _))
  have hb : b[k.toNat]? = some (b.data.getD k.toNat 0) := by
   have hlt' : k.toNat < b.data.size := hlt
   rw [getElem?_pos b k.toNat hlt]
   unfold Array.getD
   rw [dif_pos hlt']
   rfl
  unfold execOp
  simp [ho, rel_v r, rel_v r', Instr.index, asIntOf, run_underlying hu, c0, hb]
 ·cases he
end
section
variable {P : Program}
theorem rel_mt {Im : Nat → Prop} {p : Pl} {H : Hp} {h : Array Obj} {x : Value} (r : Rel Im p H h .mt x) : ∃ a, x = .slice a 0 0 := by
 cases r with
 | p r => cases r; exact ⟨_, rfl⟩
theorem rel_len {Im : Nat → Prop} {p : Pl} {H : Hp} {h : Array Obj} {d : D} {x : Value} (r : Rel Im p H h d x) {n : Nat} (hn : lenOf d = some n) : ∃ a cap, x = .slice a n cap := by
 unfold lenOf at hn
 split at hn <;> cases hn
 ·obtain ⟨a, cap, e, _⟩ := relP_sl (rel_sl r)
  exact ⟨a, cap, e⟩
 ·obtain ⟨a, e⟩ := rel_mt r
  exact ⟨a, 0, e⟩
 ·cases r with
  | p r => cases r
  | own => exact ⟨_, _, rfl⟩
theorem snd_len {t e ty : TypeId} {x : Operand} {x' : Opd} (hx : OpdOk x x') (hu : P.underlying t = some (.slice e)) : SoundK P (.call { callee := .builtin .len, args := #[x], argTypes := #[t] }) (.len x') := fun E Im p s a w nm o d ho hR he hcd => by
 have r := hx _ _ _ _ _ _ hR
 simp only [eff] at he
 split at he
 ·rename_i n hn
  cases he
  obtain ⟨b, cap, ex⟩ := rel_len r hn
  refine sound_pure hR (u := .int .i64 n) ?_ rfl (.p (.v _))
  unfold execOp
  simp [ho, resolve, invoke, builtin, ex, Builtin.len_, run_underlying hu, goInt]
 ·cases he
theorem snd_lenS {t ty : TypeId} {x : Operand} {x' : Opd} (hx : OpdOk x x') (hu : P.underlying t = some .string) : SoundK P (.call { callee := .builtin .len, args := #[x], argTypes := #[t] }) (.lenS x') := fun E Im p s a w nm o d ho hR he hcd => by
 have r := hx _ _ _ _ _ _ hR
 simp only [eff] at he
 split at he
 ·rename_i n hn
  rw [hn] at r
  cases he
  refine sound_pure hR (u := .int .i64 n.size) ?_ rfl (.p (.v _))
  unfold execOp
  simp [ho, resolve, invoke, builtin, rel_v r, Builtin.len_, run_underlying hu, goInt]
 ·cases he
theorem RowsAt.splice {Im : Nat → Prop} {p : Pl} {H : Hp} {h : Array Obj} {blk : Array Value} {s sz : Nat} {rows : List (List D)} (R : RowsAt Im p H h blk s sz rows) {r0 c0 : Nat} {ds : List D} {vs : List Value} (hr0 : r0 < rows.length) (hc : c0 + ds.length ≤ sz) (RL : RelL Im p H h ds vs) :
  RowsAt Im p H h (blk.toList.take (s + r0 * sz + c0) ++ vs ++ blk.toList.drop (s + r0 * sz + c0 + vs.length)).toArray s sz (rows.set r0 (put1 (rows.getD r0 []) c0 ds)) := by
 obtain ⟨q1, q2, q3⟩ := R.row hr0
 have hvl : vs.length = ds.length := RL.len.symm
 generalize hO : s + r0 * sz + c0 = O
 have hsegA : ∀ m, ((blk.toList.take O ++ vs ++ blk.toList.drop (O + vs.length))[m]?) = if m < O then blk.toList[m]? else if m < O + vs.length then vs[m - O]? else blk.toList[m]? := fun m => by
  have hlt : (blk.toList.take O).length = O := by rw [List.length_take, Array.length_toList]; omega
  split
  ·rename_i hm
   rw [List.append_assoc, List.getElem?_append_left (by omega), List.getElem?_take, if_pos hm]
  ·split
   ·rename_i hm hm'
    rw [List.append_assoc, List.getElem?_append_right (by omega), hlt, List.getElem?_append_left (by omega)]
   ·rename_i hm hm'
    rw [List.append_assoc, List.getElem?_append_right (by omega), hlt, List.getElem?_append_right (by omega), List.getElem?_drop]
    congr 1
    omega
 refine RowsAt.of (fun row hrow => ?_) ?_ fun k hk => ?_
 ·rcases List.mem_or_eq_of_mem_set hrow with h | h
  ·exact R.len _ h
  ·rw [h, length_put1 (by omega)]; exact q2
 ·rw [List.length_set]
  have := R.le
  simp only [List.size_toArray, List.length_append, List.length_take, List.length_drop, Array.length_toList]
  omega
 ·rw [List.length_set] at hk
  obtain ⟨k1, k2, k3⟩ := R.row hk
  by_cases hkr : k = r0
  ·subst hkr
   rw [List.getD_eq_getElem?_getD, List.getElem?_set_self hr0, Option.getD_some]
   have hput := k1.put1 RL (c := c0) (by omega)
   have hseg : (((blk.toList.take O ++ vs ++ blk.toList.drop (O + vs.length)).drop (s + k * sz)).take sz) = ((blk.toList.drop (s + k * sz)).take sz).take c0 ++ vs ++ ((blk.toList.drop (s + k * sz)).take sz).drop (c0 + vs.length) := by
    refine List.ext_getElem? fun m => ?_
    have hl1 : (((blk.toList.drop (s + k * sz)).take sz).take c0).length = c0 := by rw [List.length_take, List.length_take, List.length_drop, Array.length_toList]; omega
    by_cases hm : m < sz
    ·rw [List.getElem?_take, if_pos hm, List.getElem?_drop, hsegA]
     by_cases h1 : m < c0
     ·rw [if_pos (by omega), List.append_assoc, List.getElem?_append_left (by omega), List.getElem?_take, if_pos h1, List.getElem?_take, if_pos hm, List.getElem?_drop]
     ·by_cases h2 : m < c0 + vs.length
      ·rw [if_neg (by omega), if_pos (by omega), List.append_assoc, List.getElem?_append_right (by omega), hl1, List.getElem?_append_left (by omega)]
       congr 1
       omega
      ·rw [if_neg (by omega), if_neg (by omega), List.append_assoc, List.getElem?_append_right (by omega), hl1, List.getElem?_append_right (by omega), List.getElem?_drop, List.getElem?_take, if_pos (by omega), List.getElem?_drop]
       congr 1
       omega
    ·rw [List.getElem?_eq_none (by rw [List.length_take]; omega), List.getElem?_eq_none (by simp only [List.length_append, hl1, List.length_drop, List.length_take, Array.length_toList]; omega)]
   rw [hseg]
   exact hput
  ·rw [List.getD_eq_getElem?_getD, List.getElem?_set_ne (Ne.symm hkr), ← List.getD_eq_getElem?_getD]
   have hseg : (((blk.toList.take O ++ vs ++ blk.toList.drop (O + vs.length)).drop (s + k * sz)).take sz) = (blk.toList.drop (s + k * sz)).take sz := by
    refine List.ext_getElem? fun m => ?_
    by_cases hm : m < sz
    ·rw [List.getElem?_take, if_pos hm, List.getElem?_drop, hsegA, List.getElem?_take, if_pos hm, List.getElem?_drop]
     rcases Nat.lt_or_gt_of_ne hkr with h | h
     ·have : (k + 1) * sz ≤ r0 * sz := Nat.mul_le_mul_right _ h
      rw [Nat.add_mul, Nat.one_mul] at this
      rw [if_pos (by omega)]
     ·have : (r0 + 1) * sz ≤ k * sz := Nat.mul_le_mul_right _ h
      rw [Nat.add_mul, Nat.one_mul] at this
      rw [if_neg (by omega), if_neg (by omega)]
    ·rw [List.getElem?_take, if_neg hm, List.getElem?_take, if_neg hm]
   rw [hseg]
   exact k1
theorem put1_whole {row ds : List D} (h : ds.length = row.length) : put1 row 0 ds = ds := by
 rw [put1_eq row 0 ds (by omega), List.take_zero, List.nil_append, Nat.zero_add, h, List.drop_length, List.append_nil]
theorem RowsAt.made {Im : Nat → Prop} {p : Pl} {H : Hp} {h : Array Obj} {z : List D} {zs : Array Value} (RL : RelL Im p H h z zs.toList) (n : Nat) : RowsAt Im p H h (madeCells zs (n * z.length)) 0 z.length (List.replicate n z) := by
 have hz : zs.size = z.length := by rw [RL.len]; simp
 refine RowsAt.of (fun r hr => by rw [List.eq_of_mem_replicate hr]) (by rw [size_madeCells, List.length_replicate, Nat.zero_add]; exact Nat.le_refl _) fun r hr => ?_
 rw [List.length_replicate] at hr
 have e : (List.replicate n z).getD r [] = z := by rw [List.getD_eq_getElem?_getD, List.getElem?_replicate, if_pos hr]; rfl
 rw [e]
 have hle : (r + 1) * z.length ≤ n * z.length := Nat.mul_le_mul_right _ hr
 rw [Nat.add_mul, Nat.one_mul] at hle
 have : (((madeCells zs (n * z.length)).toList.drop (0 + r * z.length)).take z.length) = zs.toList := by
  refine List.ext_getElem? fun m => ?_
  by_cases hm : m < z.length
  ·rw [List.getElem?_take, if_pos hm, List.getElem?_drop]
   have h1 : r * z.length + m < n * z.length := by omega
   have h2 : (r * z.length + m) % zs.size = m := by rw [hz, Nat.mul_comm, Nat.mul_add_mod, Nat.mod_eq_of_lt hm]
   have hm' : m < zs.size := by omega
   simp [madeCells, h1, h2, hm']
  ·rw [List.getElem?_take, if_neg hm, List.getElem?_eq_none (by rw [← RL.len]; omega)]
 rw [this]
 exact RL
theorem foldl_set (off : Nat) : ∀ (vs : List Value) (n : Nat) (cells : Array Value), off + n + vs.length ≤ cells.size → ((vs.zipIdx n).foldl (fun (cs : Array Value) (x : Value × Nat) => cs.setIfInBounds (off + x.2) x.1) cells).toList = cells.toList.take (off + n) ++ vs ++ cells.toList.drop (off + n + vs.length)
 | [], n, cells, h => by simp
 | v :: rest, n, cells, h => by
  rw [List.length_cons] at h
  rw [List.zipIdx_cons, List.foldl_cons, foldl_set off rest (n + 1) _ (by rw [Array.size_setIfInBounds]; omega)]
  have e := list_seg_step cells.toList (off + n) v rest (by rw [Array.length_toList]; omega)
  simpa [Nat.add_assoc] using e
theorem fill_step (vs cells : Array Value) (off : Nat) (h : off + vs.size ≤ cells.size) : (vs.zipIdx.foldl (fun (cs : Array Value) (x : Value × Nat) => cs.setIfInBounds (off + x.2) x.1) cells).toList = cells.toList.take off ++ vs.toList ++ cells.toList.drop (off + vs.toList.length) := by
 have := foldl_set off vs.toList 0 cells (by simpa using h)
 rw [← Array.foldl_toList, Array.toList_zipIdx]
 simpa using this
def PartsOk (place : Nat → Option (Nat × Nat)) : List (Nat × Operand) → List (Nat × Nat × Opd) → Prop
 | [], [] => True
 | (i, x) :: xs, (off, sz, y) :: ys => place i = some (off, sz) ∧ OpdOk x y ∧ PartsOk place xs ys
 | _, _ => False
theorem fill_rel {E : Ent} {Im : Nat → Prop} {p : Pl} {s : St} {a : Act} {w : World} (hR : RelS E Im p s a w) (place : Nat → Option (Nat × Nat)) : ∀ (xs : List (Nat × Operand)) (ys : List (Nat × Nat × Opd)) (z : List D) (cells : Array Value) (cs : List D), PartsOk place xs ys → RelL Im p s.H w.heap z cells.toList → fillD s.F ys z = some cs →
  ∃ cells', Instr.fill place cells (xs.map fun q => (q.1, a.eval q.2)) = some cells' ∧ RelL Im p s.H w.heap cs cells'.toList
 | [], [], z, cells, cs, _, RL, h => by cases h; exact ⟨cells, rfl, RL⟩
 | [], _ :: _, z, cells, cs, hp, RL, h => hp.elim
 | _ :: _, [], z, cells, cs, hp, RL, h => hp.elim
 | (i, x) :: xs, (off, sz, y) :: ys, z, cells, cs, hp, RL, h => by
  obtain ⟨h1, h2, h3⟩ := hp
  simp only [fillD] at h
  split at h
  ·rename_i ds hds
   split at h
   ·rename_i hc
    obtain ⟨c1, c2⟩ := hc
    have RV := RelL.cells (h2 _ _ _ _ _ _ hR) hds
    have hsz : (a.eval x).cells.size = sz := by have := RV.len; simp at this; omega
    have hcl : off + sz ≤ cells.size := by rw [RL.len] at c2; simpa using c2
    have hl := fill_step (a.eval x).cells cells off (by omega)
    have hput := RL.put1 RV (c := off) (by omega)
    rw [← hl] at hput
    obtain ⟨cells', k1, k2⟩ := fill_rel hR place xs ys _ _ cs h3 hput h
    refine ⟨cells', ?_, k2⟩
    simp only [List.map_cons, Instr.fill, h1]
    rw [if_neg (by simp [hsz]; omega)]
    exact k1
   ·cases h
  ·cases h
theorem snd_bldS {t : TypeId} {parts : Array (Nat × Operand)} {z' : List D} {ps : List (Nat × Nat × Opd)} {ti : TypeInfo} {zv : Value} {fs : Array Field} {places : List (Nat × Nat)} (hi : P.info? t = some ti) (hz : ti.zero = some zv) (hz' : z' = zv.cells.toList.map ofC) (h1 : zv.cells.toList.all one = true) (hu : P.underlying t = some (.struct fs))
  (hpl : fs.toList.mapM (fun f => (P.info? f.type).map fun i => (f.offset, i.size)) = some places) (hps : PartsOk (places.toArray[·]?) parts.toList ps) : SoundK P (.build t parts) (.bld z' ps) := fun E Im p s a w nm o d ho hR he hcd => by
 simp only [eff] at he
 split at he
 ·rename_i cs hcs
  cases he
  have RL : RelL Im p s.H w.heap z' zv.cells.toList := by
   subst hz'
   refine ⟨by simp, fun j d u hd hu => ?_⟩
   rw [List.getElem?_map, hu] at hd
   cases hd
   exact ⟨.p (relP_ofC _ _ _), List.all_eq_true.1 h1 u (List.mem_of_getElem? hu)⟩
  obtain ⟨cells', k1, k2⟩ := fill_rel hR _ _ _ _ _ _ hps RL hcs
  refine sound_pure hR (u := .agg cells') ?_ rfl (by simpa using k2.rel)
  have hb : P.built t (parts.map fun q => (q.1, a.eval q.2)).toList = some cells' := by
   unfold Program.built
   simp only [hi, hu, hz, hpl, Array.toList_map]
   exact k1
  unfold execOp
  simp only [ho, Sem.run_bind, run_build w t _ cells' hb, Result.andThen_ok]
  rfl
 ·cases he
theorem snd_bldA {t e : TypeId} {n : Nat} {parts : Array (Nat × Operand)} {z' : List D} {ps : List (Nat × Nat × Opd)} {ti ei : TypeInfo} {zv : Value} (hi : P.info? t = some ti) (hz : ti.zero = some zv) (hz' : z' = zv.cells.toList.map ofC) (h1 : zv.cells.toList.all one = true) (hu : P.underlying t = some (.array n e))
  (hei : P.info? e = some ei) (hps : PartsOk (fun i => some (i * ei.size, ei.size)) parts.toList ps) : SoundK P (.build t parts) (.bld z' ps) := fun E Im p s a w nm o d ho hR he hcd => by
 simp only [eff] at he
 split at he
 ·rename_i cs hcs
  cases he
  have RL : RelL Im p s.H w.heap z' zv.cells.toList := by
   subst hz'
   refine ⟨by simp, fun j d u hd hu => ?_⟩
   rw [List.getElem?_map, hu] at hd
   cases hd
   exact ⟨.p (relP_ofC _ _ _), List.all_eq_true.1 h1 u (List.mem_of_getElem? hu)⟩
  obtain ⟨cells', k1, k2⟩ := fill_rel hR _ _ _ _ _ _ hps RL hcs
  refine sound_pure hR (u := .agg cells') ?_ rfl (by simpa using k2.rel)
  have hb : P.built t (parts.map fun q => (q.1, a.eval q.2)).toList = some cells' := by
   unfold Program.built
   simp only [hi, hu, hz, hei, Array.toList_map]
   exact k1
  unfold execOp
  simp only [ho, Sem.run_bind, run_build w t _ cells' hb, Result.andThen_ok]
  rfl
 ·cases he
def RowsOk : List (Nat × Operand) → List (Nat × Opd) → Prop
 | [], [] => True
 | (i, x) :: xs, (j, y) :: ys => i = j ∧ OpdOk x y ∧ RowsOk xs ys
 | _, _ => False
theorem fillR_rel {E : Ent} {Im : Nat → Prop} {p : Pl} {s : St} {a : Act} {w : World} (hR : RelS E Im p s a w) (sz : Nat) : ∀ (xs : List (Nat × Operand)) (ys : List (Nat × Opd)) (rows : List (List D)) (cells : Array Value) (rows' : List (List D)), RowsOk xs ys → RowsAt Im p s.H w.heap cells 0 sz rows → fillR s.F sz ys rows = some rows' → cells.size = rows.length * sz →
  ∃ cells', Instr.fill (fun i => some (i * sz, sz)) cells (xs.map fun q => (q.1, a.eval q.2)) = some cells' ∧ RowsAt Im p s.H w.heap cells' 0 sz rows' ∧ rows'.length = rows.length
 | [], [], z, cells, cs, _, RL, h, _ => by cases h; exact ⟨cells, rfl, RL, rfl⟩
 | [], _ :: _, z, cells, cs, hp, RL, h, _ => hp.elim
 | _ :: _, [], z, cells, cs, hp, RL, h, _ => hp.elim
 | (i, x) :: xs, (j, y) :: ys, rows, cells, rows', hp, RL, h, hcs => by
  obtain ⟨rfl, h2, h3⟩ := hp
  simp only [fillR] at h
  split at h
  ·rename_i ds hds
   split at h
   ·rename_i hc
    obtain ⟨c1, c2⟩ := hc
    have RV := RelL.cells (h2 _ _ _ _ _ _ hR) hds
    have hsz : (a.eval x).cells.size = sz := by have := RV.len; simp at this; omega
    have hle : (i + 1) * sz ≤ rows.length * sz := Nat.mul_le_mul_right _ c2
    rw [Nat.add_mul, Nat.one_mul] at hle
    have hl := fill_step (a.eval x).cells cells (i * sz) (by omega)
    have hsp := RL.splice (r0 := i) (c0 := 0) c2 (by omega) RV
    have hrow := (RL.row c2).2.1
    rw [put1_whole (by omega)] at hsp
    simp only [Nat.zero_add, Nat.add_zero] at hsp
    rw [← hl] at hsp
    have hsz' : ((a.eval x).cells.zipIdx.foldl (fun (cs : Array Value) (x : Value × Nat) => cs.setIfInBounds (i * sz + x.2) x.1) cells).size = (rows.set i ds).length * sz := by
     rw [← Array.length_toList, hl, List.length_set]
     simp only [List.length_append, List.length_take, List.length_drop, Array.length_toList]
     omega
    obtain ⟨cells', k1, k2, k3⟩ := fillR_rel hR sz xs ys _ _ rows' h3 (by simpa using hsp) h hsz'
    refine ⟨cells', ?_, k2, by rw [k3, List.length_set]⟩
    simp only [List.map_cons, Instr.fill]
    rw [if_neg (by simp [hsz]; omega)]
    exact k1
   ·cases h
  ·cases h
theorem snd_bsl {t e : TypeId} {n : Nat} {parts : Array (Nat × Operand)} {z' : List D} {ps : List (Nat × Opd)} {ei : TypeInfo} {zv : Value} {sz : Nat} (hu : P.underlying t = some (.slice e)) (hei : P.info? e = some ei) (hz : ei.zero = some zv) (hz' : z' = zv.cells.toList.map ofC) (h1 : zv.cells.toList.all one = true) (hsz : ei.size = sz) (hzs : zv.cells.size = sz) (hn : n * sz ≤ 16777216)
  (hps : RowsOk parts.toList ps) : SoundK P (.buildSlice t n parts) (.bsl sz n z' ps) := fun E Im p s a w nm o d ho hR he hcd => by
 simp only [eff] at he
 split at he
 ·rename_i rows hnm hrows
  cases he
  have RL : RelL Im p s.H w.heap z' zv.cells.toList := by
   subst hz'
   refine ⟨by simp, fun j d u hd hu => ?_⟩
   rw [List.getElem?_map, hu] at hd
   cases hd
   exact ⟨.p (relP_ofC _ _ _), List.all_eq_true.1 h1 u (List.mem_of_getElem? hu)⟩
  have hzl : z'.length = sz := by rw [RL.len]; simpa using hzs
  have R0 := RowsAt.made RL n
  rw [hzl] at R0
  obtain ⟨cells', k1, k2, k3⟩ := fillR_rel hR sz _ _ _ _ _ hps R0 hrows (by rw [size_madeCells, List.length_replicate])
  rw [List.length_replicate] at k3
  have T : Turn Im p s.H w.heap nm ⟨0, 0, []⟩ ⟨0, sz, rows⟩ (w.heap.size, 0) (w.heap.push (.cells cells' e)) := Turn.fresh hnm k2
  refine ⟨.value (.slice (some ⟨w.heap.size, 0, Option.none⟩) n n), _, w.alloc (.cells cells' e), p.put nm (w.heap.size, 0), ?_, .inl rfl, T.grows hR.hp, T.relH hR.hp, T.relE hR.hp hR.en rfl rfl rfl, ?_⟩
  ·have hnn : ¬ (16777216 < n * sz) := by omega
   have k1' : Instr.fill (fun i => some (i * sz, sz)) (madeCells zv.cells (n * sz)) (parts.map fun q => (q.1, a.eval q.2)).toList = some cells' := by simpa using k1
   unfold execOp
   by_cases h0 : n * sz = 0
   ·have e0 : madeCells zv.cells (n * sz) = #[] := by rw [h0]; simp [madeCells]
    rw [e0] at k1
    simp [ho, Instr.buildSlice, run_underlying hu, sizeOf, typeInfo, hei, hsz, hnn, h0, newRow]
    simp [Array.range_zero', k1]
   ·simp [ho, Instr.buildSlice, run_underlying hu, sizeOf, typeInfo, zeroValue, hz, hei, hsz, hnn, h0, newRow]
    simp [madeCells] at k1'
    simp [k1']
  ·refine .own nm 0 0 n _ n _ (Hp.put_same _ _ _) (Nat.le_refl _) (Nat.le_refl _) fun _ hpos => ?_
   rw [Pl.put_same]
   refine ⟨by simp, fun h => ?_, cells', e, push_at _ _, ?_⟩
   ·dsimp only at h
    rw [h] at k3
    simp at k3
    omega
   ·dsimp only
    have := k2.le
    rw [k3] at this
    simpa using this
 ·cases he
theorem snd_mks {t e : TypeId} {x : Operand} {x' : Opd} {z' : List D} {ei : TypeInfo} {zv : Value} {sz bytes : Nat} (hx : OpdOk x x') (hu : P.underlying t = some (.slice e)) (hei : P.info? e = some ei) (hz : ei.zero = some zv) (hz' : z' = zv.cells.toList.map ofC) (h1 : zv.cells.toList.all one = true) (hsz : ei.size = sz) (hzs : zv.cells.size = sz) (hby : ei.bytes = bytes) : SoundK P (.makeSlice t x x) (.mks sz bytes z' x') := fun E Im p s a w nm o d ho hR he hcd => by
 have r := hx _ _ _ _ _ _ hR
 simp only [eff] at he
 split at he
 ·rename_i k hnm hk
  cases he
  dsimp only at hcd
  obtain ⟨c0, c1, c2⟩ := hcd
  obtain ⟨kd, hkd⟩ := nat_of hk
  rw [hkd] at r
  subst hsz hby
  have RL : RelL Im p s.H w.heap z' zv.cells.toList := by
   subst hz'
   refine ⟨by simp, fun j d u hd hu => ?_⟩
   rw [List.getElem?_map, hu] at hd
   cases hd
   exact ⟨.p (relP_ofC _ _ _), List.all_eq_true.1 h1 u (List.mem_of_getElem? hu)⟩
  have hzl : z'.length = ei.size := by rw [RL.len]; simpa using hzs
  have R0 := RowsAt.made RL k.toNat
  rw [hzl] at R0
  have T : Turn Im p s.H w.heap nm ⟨0, 0, []⟩ ⟨0, ei.size, List.replicate k.toNat z'⟩ (w.heap.size, 0) (w.heap.push (.cells (madeCells zv.cells (k.toNat * ei.size)) e)) := Turn.fresh hnm R0
  refine ⟨.value (.slice (some ⟨w.heap.size, 0, Option.none⟩) k.toNat k.toNat), _, w.alloc (.cells (madeCells zv.cells (k.toNat * ei.size)) e), p.put nm (w.heap.size, 0), ?_, .inl rfl, T.grows hR.hp, T.relH hR.hp, T.relE hR.hp hR.en rfl rfl rfl, ?_⟩
  ·unfold execOp
   simp only [ho, rel_v r, Sem.run_bind, run_make w t e ei zv hu hei hz kd kd k k c0 (Int.le_refl _) c1 (by omega), Result.andThen_ok]
   rfl
  ·refine .own nm 0 0 _ _ k.toNat _ (Hp.put_same _ _ _) (Nat.le_refl _) (Nat.le_refl _) fun _ hpos => ?_
   rw [Pl.put_same]
   refine ⟨by simp, fun h => ?_, _, e, push_at _ _, ?_⟩
   ·dsimp only at h
    have := congrArg List.length h
    simp at this
    omega
   ·dsimp only
    rw [size_madeCells]
    simp
 ·cases he
end
section
variable {P : Program}
def OptOk : Option Operand → Option Opd → Prop
 | some x, some y => OpdOk x y
 | Option.none, Option.none => True
 | _, _ => False
theorem run_slc {t e : TypeId} {ei : TypeInfo} {w : World} (hu : P.underlying t = some (.slice e)) (hi : P.info? e = some ei) (a : Option Addr) (len cap : Nat) (lo hi' : Option Value) (l h : Int)
  (hlo : (lo = Option.none ∧ l = 0) ∨ ∃ k, lo = some (.int k l)) (hhi : (hi' = Option.none ∧ h = len) ∨ ∃ k, hi' = some (.int k h)) (h0 : 0 ≤ l) (h1 : l ≤ h) (h2 : h ≤ cap) :
  (Instr.sliceAt t (.slice a len cap) lo hi' Option.none).run P w = .ok (.slice (if cap = l.toNat then a else a.map (·.add (l.toNat * ei.size))) (h.toNat - l.toNat) (cap - l.toNat)) w := by
 have eh : (h.toNat : Int) = h := Int.toNat_of_nonneg (by omega)
 have hh0 : 0 ≤ h := by omega
 rcases hlo with ⟨rfl, rfl⟩ | ⟨k, rfl⟩ <;> rcases hhi with ⟨rfl, rfl⟩ | ⟨k', rfl⟩ <;>
  simp [Instr.sliceAt, Instr.slice, run_underlying hu, Instr.sliceBounds, Instr.sliceBound, asIntOf, sizeOf, typeInfo, hi, eh, h0, h1, h2, hh0]
theorem optOk_val {E : Ent} {Im : Nat → Prop} {p : Pl} {s : St} {a : Act} {w : World} (hR : RelS E Im p s a w) {lo : Option Operand} {lo' : Option Opd} (hlo : OptOk lo lo') {n l : Int} (h : bnd s.F lo' n = some l) :
  (lo.map a.eval = Option.none ∧ l = n) ∨ ∃ k, lo.map a.eval = some (.int k l) := by
 cases lo <;> cases lo' <;> simp only [OptOk] at hlo
 ·cases h; exact .inl ⟨rfl, rfl⟩
 ·rename_i x y
  obtain ⟨k, hk⟩ := nat_of h
  have r := hlo _ _ _ _ _ _ hR
  rw [hk] at r
  exact .inr ⟨k, by rw [Option.map_some, rel_v r]⟩
theorem snd_slc {t e : TypeId} {x : Operand} {x' : Opd} {lo hi : Option Operand} {lo' hi' : Option Opd} {ei : TypeInfo} (hx : OpdOk x x') (hlo : OptOk lo lo') (hhi : OptOk hi hi') (hu : P.underlying t = some (.slice e)) (hei : P.info? e = some ei) : SoundK P (.slice t x lo hi Option.none) (.slc ei.size x' lo' hi') := fun E Im p s a w nm o d ho hR he hcd => by
 have r := hx _ _ _ _ _ _ hR
 simp only [eff] at he
 split at he
 ·rename_i l av hs hav
  rw [hs] at r
  split at he
  ·rename_i bv hbv
   cases he
   dsimp only at hcd
   obtain ⟨c0, c1, c2, c3⟩ := hcd
   obtain ⟨ao, cap, ex, hcap, hl⟩ := relP_sl (rel_sl r)
   have hrun := run_slc (w := w) hu hei ao l.length cap _ _ av bv (optOk_val hR hlo hav) (optOk_val hR hhi hbv) c0 c1 (by omega)
   refine sound_pure hR (u := .slice (if cap = av.toNat then ao else ao.map (·.add (av.toNat * ei.size))) (bv.toNat - av.toNat) (cap - av.toNat)) ?_ rfl ?_
   ·unfold execOp
    simp only [ho, ex, Sem.run_bind, Option.map_none, hrun, Result.andThen_ok]
    rfl
   ·dsimp only
    have hlen : ((l.drop av.toNat).take (bv.toNat - av.toNat)).length = bv.toNat - av.toNat := by rw [List.length_take, List.length_drop]; omega
    rcases Nat.eq_zero_or_pos (bv.toNat - av.toNat) with h0 | hpos
    ·rw [h0, List.take_zero]
     exact .p (.sl0 _ _)
    ·have hne : l ≠ [] := by intro h; subst h; simp at hlen; omega
     obtain ⟨b, off, sz, u, rfl, him, hsz, hcell, hrel⟩ := hl hne
     rw [if_neg (by omega), Option.map_some, Addr.add_mid]
     have hoff : av.toNat * ei.size = av.toNat * sz := by
      rcases c3 with h | h
      ·rw [h]; simp
      ·obtain ⟨r0, rest, rfl⟩ : ∃ r0 rest, l = r0 :: rest := by cases l with | nil => exact absurd rfl hne | cons a b => exact ⟨a, b, rfl⟩
       have h1 := hsz r0 (List.mem_cons_self ..)
       have h2 : r0.length = ei.size := h
       rw [← h1, h2]
     rw [hoff]
     have hget : ∀ i, i < bv.toNat - av.toNat → ∀ (hi : i < ((l.drop av.toNat).take (bv.toNat - av.toNat)).length) (hi' : av.toNat + i < l.length), ((l.drop av.toNat).take (bv.toNat - av.toNat))[i] = l[av.toNat + i] := fun i h1 hi hi' => by
      rw [List.getElem_take, List.getElem_drop]
     refine .p (.sl1 _ b _ _ _ sz (fun i j => u (av.toNat + i) j) hlen (by omega) (fun r hr => hsz r (List.mem_of_mem_drop (List.mem_of_mem_take hr))) him (fun i j hi hj => ?_) (fun i j hi hj => ?_))
     ·have := hcell (av.toNat + i) j (by omega) hj
      rw [Nat.add_mul] at this
      rw [Nat.add_assoc off]
      exact this
     ·have h1 : i < bv.toNat - av.toNat := by omega
      have h2 : av.toNat + i < l.length := by omega
      have e := hget i h1 hi h2
      have hj' : j < l[av.toNat + i].length := by rw [← e]; exact hj
      have k := hrel (av.toNat + i) j h2 hj'
      have : ((l.drop av.toNat).take (bv.toNat - av.toNat))[i][j] = l[av.toNat + i][j] := by congr 1
      rw [this]
      exact k
  ·cases he
 ·rename_i i g off n av hs hav
  rw [hs] at r
  split at he
  ·rename_i bv hbv
   split at he
   ·rename_i en hie
    split at he
    ·rename_i hg
     cases he
     dsimp only at hcd
     obtain ⟨c0, c1, c2, c3⟩ := hcd
     obtain ⟨ao, cap, ex, hcap, hl⟩ := rel_own r hie hg
     have hrun := run_slc (w := w) hu hei ao n cap _ _ av bv (optOk_val hR hlo hav) (optOk_val hR hhi hbv) c0 c1 (by omega)
     refine sound_pure hR (u := .slice (if cap = av.toNat then ao else ao.map (·.add (av.toNat * ei.size))) (bv.toNat - av.toNat) (cap - av.toNat)) ?_ rfl ?_
     ·unfold execOp
      simp only [ho, ex, Sem.run_bind, Option.map_none, hrun, Result.andThen_ok]
      rfl
     ·have hcp : 0 < cap - av.toNat → 0 < cap := fun h => by clear hl; omega
      refine .own i g _ _ _ _ en hie (by clear hl; omega) (by clear hl; omega) fun _ hpos => ?_
      obtain ⟨rfl, q2, c, t', q3, q4⟩ := hl (hcp hpos)
      clear hl
      rw [if_neg (by omega), Option.map_some, Addr.add_mid]
      have hoff : av.toNat * ei.size = av.toNat * en.sz := by
       rcases c3 with h | h
       ·rw [h]; simp
       ·rw [h]
      refine ⟨by rw [hoff, Nat.add_mul, Nat.add_assoc], q2, c, t', q3, ?_⟩
      have : off + av.toNat + (cap - av.toNat) = off + cap := by omega
      rw [this]
      exact q4
    ·cases he
   ·cases he
  ·cases he
 ·rename_i av hs hav
  rw [hs] at r
  split at he
  ·rename_i bv hbv
   cases he
   dsimp only at hcd
   obtain ⟨rfl, rfl⟩ := hcd
   obtain ⟨ao, ex⟩ := rel_mt r
   have hrun := run_slc (w := w) hu hei ao 0 0 _ _ 0 0 (optOk_val hR hlo hav) (optOk_val hR hhi hbv) (Int.le_refl _) (Int.le_refl _) (by simp)
   refine sound_pure hR (u := .slice ao 0 0) ?_ rfl (.p (.mt _))
   unfold execOp
   simp only [ho, ex, Sem.run_bind, Option.map_none, hrun, Result.andThen_ok]
   rfl
  ·cases he
 ·cases he
theorem run_slc3 {t e : TypeId} {ei : TypeInfo} {w : World} (hu : P.underlying t = some (.slice e)) (hi : P.info? e = some ei) (a : Option Addr) (len cap : Nat) (lo : Option Value) (k k' : IntKind) (l h m : Int)
  (hlo : (lo = Option.none ∧ l = 0) ∨ ∃ k, lo = some (.int k l)) (h0 : 0 ≤ l) (h1 : l ≤ h) (h2 : h ≤ m) (h3 : m ≤ cap) :
  (Instr.sliceAt t (.slice a len cap) lo (some (.int k h)) (some (.int k' m))).run P w = .ok (.slice (if m.toNat = l.toNat then a else a.map (·.add (l.toNat * ei.size))) (h.toNat - l.toNat) (m.toNat - l.toNat)) w := by
 have eh : (h.toNat : Int) = h := Int.toNat_of_nonneg (by omega)
 have em : (m.toNat : Int) = m := Int.toNat_of_nonneg (by omega)
 have hh0 : 0 ≤ h := by omega
 have hm0 : 0 ≤ m := by omega
 rcases hlo with ⟨rfl, rfl⟩ | ⟨k, rfl⟩ <;>
  simp [Instr.sliceAt, Instr.slice, run_underlying hu, Instr.sliceBounds, Instr.sliceBound, asIntOf, sizeOf, typeInfo, hi, eh, em, h0, h1, h2, h3, hh0, hm0]
theorem nat_val {E : Ent} {Im : Nat → Prop} {p : Pl} {s : St} {a : Act} {w : World} (hR : RelS E Im p s a w) {x : Operand} {y : Opd} (hx : OpdOk x y) {l : Int} (h : (y.ev s.F).nat = some l) : ∃ k, a.eval x = .int k l := by
 obtain ⟨k, hk⟩ := nat_of h
 have r := hx _ _ _ _ _ _ hR
 rw [hk] at r
 exact ⟨k, rel_v r⟩
theorem snd_slc3 {t e : TypeId} {x : Operand} {x' : Opd} {lo : Option Operand} {hi mx : Operand} {lo' : Option Opd} {hi' mx' : Opd} {ei : TypeInfo} (hx : OpdOk x x') (hlo : OptOk lo lo') (hhi : OpdOk hi hi') (hmx : OpdOk mx mx') (hu : P.underlying t = some (.slice e)) (hei : P.info? e = some ei) : SoundK P (.slice t x lo (some hi) (some mx)) (.slc3 ei.size x' lo' hi' mx') := fun E Im p s a w nm o d ho hR he hcd => by
 have r := hx _ _ _ _ _ _ hR
 simp only [eff] at he
 split at he
 ·rename_i l av hs hav
  rw [hs] at r
  split at he
  ·rename_i bv mv hbv hmv
   cases he
   dsimp only at hcd
   obtain ⟨c0, c1, c2m, c2n, c3⟩ := hcd
   obtain ⟨kh, ekh⟩ := nat_val hR hhi hbv
   obtain ⟨km, ekm⟩ := nat_val hR hmx hmv
   obtain ⟨ao, cap, ex, hcap, hl⟩ := relP_sl (rel_sl r)
   have hrun := run_slc3 (w := w) hu hei ao l.length cap _ kh km av bv mv (optOk_val hR hlo hav) c0 c1 c2m (by omega)
   refine sound_pure hR (u := .slice (if mv.toNat = av.toNat then ao else ao.map (·.add (av.toNat * ei.size))) (bv.toNat - av.toNat) (mv.toNat - av.toNat)) ?_ rfl ?_
   ·unfold execOp
    simp only [ho, ex, Sem.run_bind, Option.map_some, ekh, ekm, hrun, Result.andThen_ok]
    rfl
   ·dsimp only
    have hlen : ((l.drop av.toNat).take (bv.toNat - av.toNat)).length = bv.toNat - av.toNat := by rw [List.length_take, List.length_drop]; omega
    rcases Nat.eq_zero_or_pos (bv.toNat - av.toNat) with h0 | hpos
    ·rw [h0, List.take_zero]
     exact .p (.sl0 _ _)
    ·have hne : l ≠ [] := by intro h; subst h; simp at hlen; omega
     obtain ⟨b, off, sz, u, rfl, him, hsz, hcell, hrel⟩ := hl hne
     rw [if_neg (by omega), Option.map_some, Addr.add_mid]
     have hoff : av.toNat * ei.size = av.toNat * sz := by
      rcases c3 with h | h
      ·rw [h]; simp
      ·obtain ⟨r0, rest, rfl⟩ : ∃ r0 rest, l = r0 :: rest := by cases l with | nil => exact absurd rfl hne | cons a b => exact ⟨a, b, rfl⟩
       have h1 := hsz r0 (List.mem_cons_self ..)
       have h2 : r0.length = ei.size := h
       rw [← h1, h2]
     rw [hoff]
     have hget : ∀ i, i < bv.toNat - av.toNat → ∀ (hi : i < ((l.drop av.toNat).take (bv.toNat - av.toNat)).length) (hi' : av.toNat + i < l.length), ((l.drop av.toNat).take (bv.toNat - av.toNat))[i] = l[av.toNat + i] := fun i h1 hi hi' => by
      rw [List.getElem_take, List.getElem_drop]
     refine .p (.sl1 _ b _ _ _ sz (fun i j => u (av.toNat + i) j) hlen (by omega) (fun r hr => hsz r (List.mem_of_mem_drop (List.mem_of_mem_take hr))) him (fun i j hi hj => ?_) (fun i j hi hj => ?_))
     ·have := hcell (av.toNat + i) j (by omega) hj
      rw [Nat.add_mul] at this
      rw [Nat.add_assoc off]
      exact this
     ·have h1 : i < bv.toNat - av.toNat := by omega
      have h2 : av.toNat + i < l.length := by omega
      have e := hget i h1 hi h2
      have hj' : j < l[av.toNat + i].length := by rw [← e]; exact hj
      have k := hrel (av.toNat + i) j h2 hj'
      have : ((l.drop av.toNat).take (bv.toNat - av.toNat))[i][j] = l[av.toNat + i][j] := by congr 1
      rw [this]
      exact k
  ·cases he
 ·rename_i i g off n av hs hav
  rw [hs] at r
  split at he
  ·rename_i bv mv hbv hmv
   split at he
   ·rename_i en hie
    split at he
    ·rename_i hg
     cases he
     dsimp only at hcd
     obtain ⟨c0, c1, c2m, c2n, c3⟩ := hcd
     obtain ⟨kh, ekh⟩ := nat_val hR hhi hbv
     obtain ⟨km, ekm⟩ := nat_val hR hmx hmv
     obtain ⟨ao, cap, ex, hcap, hl⟩ := rel_own r hie hg
     have hrun := run_slc3 (w := w) hu hei ao n cap _ kh km av bv mv (optOk_val hR hlo hav) c0 c1 c2m (by omega)
     refine sound_pure hR (u := .slice (if mv.toNat = av.toNat then ao else ao.map (·.add (av.toNat * ei.size))) (bv.toNat - av.toNat) (mv.toNat - av.toNat)) ?_ rfl ?_
     ·unfold execOp
      simp only [ho, ex, Sem.run_bind, Option.map_some, ekh, ekm, hrun, Result.andThen_ok]
      rfl
     ·have hcp : 0 < mv.toNat - av.toNat → 0 < cap := fun h => by clear hl; omega
      refine .own i g _ _ _ _ en hie (by clear hl; omega) (by clear hl; omega) fun _ hpos => ?_
      obtain ⟨rfl, q2, c, t', q3, q4⟩ := hl (hcp hpos)
      clear hl
      rw [if_neg (by omega), Option.map_some, Addr.add_mid]
      have hoff : av.toNat * ei.size = av.toNat * en.sz := by
       rcases c3 with h | h
       ·rw [h]; simp
       ·rw [h]
      refine ⟨by rw [hoff, Nat.add_mul, Nat.add_assoc], q2, c, t', q3, ?_⟩
      have h5 : off + av.toNat + (mv.toNat - av.toNat) ≤ off + cap := by omega
      have h6 := Nat.mul_le_mul_right en.sz h5
      omega
    ·cases he
   ·cases he
  ·cases he
 ·cases he
theorem setCells_row (P : Program) (w : World) (g o : Nat) (t : TypeId) (vs : List Value) (cur : Array Value) (hg : w.heap[g]? = some (.cells cur t (0, 0))) (hl : o + vs.length ≤ cur.size) (h1 : ∀ v ∈ vs, v.oneCell' = true) :
  w.setCells g o vs = w.setRow g (cur.toList.take o ++ vs ++ cur.toList.drop (o + vs.length)).toArray := by
 have a := run_storeCells_cells (P := P) g o vs 0 w (fun j hj => by
   have h2 : o + 0 + j < cur.size := by omega
   have e : hc w.heap g (o + 0 + j) = some cur[o + 0 + j] := by unfold hc; rw [hg]; exact Array.getElem?_eq_getElem h2
   rw [hc_cell, e]
   rfl) (fun j hj => by simp [World.frozen?, hg]) h1
 have b := run_storeCells_at P g o t vs 0 cur w hg (by simpa using hl) h1
 simp only [Nat.add_zero] at a b
 rw [a] at b
 injection b
theorem src_of {Im : Nat → Prop} {p : Pl} {H : Hp} {w : World} (R : RelH Im p H w.heap) {d : D} {u : Value} (r : Rel Im p H w.heap d u) {ys : List Nm} {l : List (List D)} (hl : rowsOf H d = some (ys, l)) {tx e' : TypeId} {sz : Nat} (hk : P.underlying tx = some (.slice e')) (hsz : ∀ r ∈ l, r.length = sz) :
  ∃ news, Src P sz tx u l.length news w ∧ ∀ k, k < l.length → RelL Im p H w.heap (l.getD k []) ((news.drop (k * sz)).take sz) := by
 have nil : ∀ a cap, u = .slice a 0 cap → Src P sz tx u 0 [] w := fun a cap e => by
  subst e
  cases a with
  | none => exact Src.ofNil w hk cap
  | some a => exact Src.ofSlice w hk a 0 cap [] (by simp) (fun j u hu => by cases hu) (fun u hu => by cases hu)
 unfold rowsOf at hl
 split at hl
 ·cases hl
  obtain ⟨ao, cap, ex, hcap, hne⟩ := relP_sl (rel_sl r)
  cases l with
  | nil => exact ⟨[], nil _ _ ex, fun k hk => absurd hk (Nat.not_lt_zero _)⟩
  | cons r0 rest =>
   obtain ⟨b, off, sz', v, rfl, him, hsz', hcell, hrel⟩ := hne (by simp)
   obtain rfl : sz' = sz := by rw [← hsz' r0 (List.mem_cons_self ..), hsz r0 (List.mem_cons_self ..)]
   generalize hL : r0 :: rest = l at *
   have key : ∀ i j, i < l.length → j < sz' → (i * sz' + j) / sz' = i ∧ (i * sz' + j) % sz' = j := fun i j hi hj => by
    have : 0 < sz' := by omega
    rw [Nat.mul_comm]
    exact ⟨by rw [Nat.mul_add_div this, Nat.div_eq_of_lt hj, Nat.add_zero], by rw [Nat.mul_add_mod, Nat.mod_eq_of_lt hj]⟩
   have hlen : ((List.range (l.length * sz')).map fun m => v (m / sz') (m % sz')).length = l.length * sz' := by simp
   have hget : ∀ m, m < l.length * sz' → ((List.range (l.length * sz')).map fun m => v (m / sz') (m % sz'))[m]? = some (v (m / sz') (m % sz')) := fun m hm => by
    rw [List.getElem?_map, List.getElem?_range hm]; rfl
   have hdiv : ∀ m, m < l.length * sz' → m / sz' < l.length ∧ m % sz' < sz' ∧ m = m / sz' * sz' + m % sz' := fun m hm => by
    have : 0 < sz' := by
     rcases Nat.eq_zero_or_pos sz' with h | h
     ·rw [h] at hm; simp at hm
     ·exact h
    exact ⟨Nat.div_lt_of_lt_mul (by rw [Nat.mul_comm]; exact hm), Nat.mod_lt _ this, by rw [Nat.mul_comm]; exact (Nat.div_add_mod m sz').symm⟩
   have hsrc : Src P sz' tx (.slice (some ⟨b, off, Option.none⟩) l.length cap) l.length ((List.range (l.length * sz')).map fun m => v (m / sz') (m % sz')) w := by
    refine Src.ofSlice w hk ⟨b, off, Option.none⟩ l.length cap _ hlen (fun j u hu => ?_) (fun u hu => ?_)
    ·have hj : j < l.length * sz' := by rw [← hlen]; exact (List.getElem?_eq_some_iff.1 hu).1
     rw [hget j hj] at hu
     cases hu
     obtain ⟨h1, h2, h3⟩ := hdiv j hj
     rw [Addr.add_mid, hc_cell]
     have := (hcell _ _ h1 h2).1
     rw [Nat.add_assoc, ← h3] at this
     exact this
    ·obtain ⟨m, hm, rfl⟩ := List.mem_map.1 hu
     obtain ⟨h1, h2, h3⟩ := hdiv m (List.mem_range.1 hm)
     rw [one_eq]
     exact (hcell _ _ h1 h2).2
   refine ⟨_, by rw [ex]; exact hsrc, fun k hk => ⟨?_, fun j d u hd hu => ?_⟩⟩
   ·have hg : l.getD k [] = l[k] := by rw [List.getD_eq_getElem?_getD, List.getElem?_eq_getElem hk]; rfl
    have hle : (k + 1) * sz' ≤ l.length * sz' := Nat.mul_le_mul_right _ hk
    rw [Nat.add_mul, Nat.one_mul] at hle
    rw [hg, hsz' _ (List.getElem_mem hk), List.length_take, List.length_drop, hlen]
    omega
   ·have hg : l.getD k [] = l[k] := by rw [List.getD_eq_getElem?_getD, List.getElem?_eq_getElem hk]; rfl
    rw [hg] at hd
    obtain ⟨hj, hd⟩ := List.getElem?_eq_some_iff.1 hd
    have hj' : j < sz' := by rw [← hsz' _ (List.getElem_mem hk)]; exact hj
    have hle : (k + 1) * sz' ≤ l.length * sz' := Nat.mul_le_mul_right _ hk
    rw [Nat.add_mul, Nat.one_mul] at hle
    rw [List.getElem?_take, if_pos hj', List.getElem?_drop, hget _ (by omega), (key k j hk hj').1, (key k j hk hj').2] at hu
    cases hu
    rw [← hd]
    exact ⟨.p (hrel k j hk hj), (hcell k j hk hj').2⟩
 ·cases hl
  obtain ⟨a, ex⟩ := rel_mt r
  exact ⟨[], nil _ _ ex, fun k hk => absurd hk (Nat.not_lt_zero _)⟩
 ·rename_i i g off n
  split at hl
  ·rename_i en hie
   split at hl
   ·rename_i hg
    cases hl
    obtain ⟨hg, hle⟩ := hg
    obtain ⟨ao, cap, ex, hcap, hl⟩ := rel_own r hie hg
    have hlen : ((en.rows.drop off).take n).length = n := by rw [List.length_take, List.length_drop]; omega
    rw [hlen]
    rcases Nat.eq_zero_or_pos n with rfl | hpos
    ·exact ⟨[], nil _ _ ex, fun k hk => absurd hk (Nat.not_lt_zero _)⟩
    ·obtain ⟨rfl, hne, blk, t', k1, k2⟩ := hl (by omega)
     obtain ⟨blk', t2, q1, q2, q3⟩ := R.cell i en hie hne
     rw [k1] at q1
     injection q1 with q1
     injection q1 with e1 e2 _
     subst e1 e2
     have hget : ∀ k, k < n → ((en.rows.drop off).take n).getD k [] = en.rows.getD (off + k) [] := fun k hk => by
      rw [List.getD_eq_getElem?_getD, List.getD_eq_getElem?_getD, List.getElem?_take, if_pos hk, List.getElem?_drop]
     have hesz : en.sz = sz := by
      have h1 : off < en.rows.length := by omega
      have h2 := (q3.row h1).2.1
      have h3 := hget 0 hpos
      rw [Nat.add_zero] at h3
      rw [← h2, ← h3]
      refine hsz _ ?_
      have : 0 < ((en.rows.drop off).take n).length := by omega
      rw [List.getD_eq_getElem?_getD, List.getElem?_eq_getElem this]
      exact List.getElem_mem this
     subst hesz
     have hrl := q3.le
     have hmul : (off + n) * en.sz ≤ en.rows.length * en.sz := Nat.mul_le_mul_right _ hle
     rw [Nat.add_mul] at hmul
     have hnl : ((blk.toList.drop ((p i).2 + off * en.sz)).take (n * en.sz)).length = n * en.sz := by rw [List.length_take, List.length_drop, Array.length_toList]; omega
     have hrow : ∀ k, k < n → (((blk.toList.drop ((p i).2 + off * en.sz)).take (n * en.sz)).drop (k * en.sz)).take en.sz = (blk.toList.drop ((p i).2 + (off + k) * en.sz)).take en.sz := fun k hk => by
      have hle : (k + 1) * en.sz ≤ n * en.sz := Nat.mul_le_mul_right _ hk
      rw [Nat.add_mul, Nat.one_mul] at hle
      refine List.ext_getElem? fun m => ?_
      by_cases hm : m < en.sz
      ·rw [List.getElem?_take, if_pos hm, List.getElem?_drop, List.getElem?_take, if_pos (by omega), List.getElem?_drop, List.getElem?_take, if_pos hm, List.getElem?_drop, Nat.add_mul]
       congr 1
       omega
      ·rw [List.getElem?_take, if_neg hm, List.getElem?_take, if_neg hm]
     have hrl2 : ∀ k, k < n → RelL Im p H w.heap (en.rows.getD (off + k) []) ((blk.toList.drop ((p i).2 + (off + k) * en.sz)).take en.sz) := fun k hk => (q3.row (show off + k < en.rows.length by omega)).1
     have hsrc : Src P en.sz tx (.slice (some ⟨(p i).1, (p i).2 + off * en.sz, Option.none⟩) n cap) n ((blk.toList.drop ((p i).2 + off * en.sz)).take (n * en.sz)) w := by
      refine Src.ofSlice w hk _ n cap _ hnl (fun j u hu => ?_) (fun u hu => ?_)
      ·have hj : j < n * en.sz := by rw [← hnl]; exact (List.getElem?_eq_some_iff.1 hu).1
       rw [List.getElem?_take, if_pos hj, List.getElem?_drop] at hu
       rw [Addr.add_mid, hc_cell]
       unfold hc
       rw [k1]
       simpa using hu
      ·obtain ⟨m, hm⟩ := List.mem_iff_getElem?.1 hu
       have hml : m < n * en.sz := by rw [← hnl]; exact (List.getElem?_eq_some_iff.1 hm).1
       have hpz : 0 < en.sz := by
        rcases Nat.eq_zero_or_pos en.sz with h | h
        ·rw [h] at hml; simp at hml
        ·exact h
       have h1 : m / en.sz < n := Nat.div_lt_of_lt_mul (by rw [Nat.mul_comm]; exact hml)
       have h2 : m % en.sz < en.sz := Nat.mod_lt _ hpz
       have h3 : m / en.sz * en.sz + m % en.sz = m := by rw [Nat.mul_comm]; exact Nat.div_add_mod m en.sz
       refine (hrl2 _ h1).one u ?_
       rw [← hrow _ h1]
       refine List.mem_iff_getElem?.2 ⟨m % en.sz, ?_⟩
       rw [List.getElem?_take, if_pos h2, List.getElem?_drop, h3]
       exact hm
     exact ⟨_, by rw [ex]; exact hsrc, fun k hk => by rw [hget k hk, hrow k hk]; exact hrl2 k hk⟩
   ·cases hl
  ·cases hl
 ·cases hl
end
section
variable {P : Program}
def kindOf (P : Program) (t : TypeId) : Option Nat :=
 match P.underlying t with
 | some (.int _) => some 0
 | some .bool => some 1
 | some .string => some 2
 | _ => Option.none
theorem run_eqOne {t : TypeId} {k : Nat} (hk : kindOf P t = some k) {d e : D} {b : Bool} (h : eqOne k d e = some b) {Im : Nat → Prop} {p : Pl} {H : Hp} {hp : Array Obj} {u v : Value} (r : Rel Im p H hp d u) (r' : Rel Im p H hp e v) (m : Nat) (w : World) : (Op.equalIn (m + 1) t u v).run P w = .ok b w := by
 unfold kindOf at hk
 unfold eqOne at h
 split at h
 ·rw [rel_v r, rel_v r']
  split at h
  ·rename_i hkk
   cases h
   subst hkk
   split at hk
   ·rename_i hu; exact run_equalIn_int w m t _ _ _ _ hu
   ·cases hk
   ·cases hk
   ·cases hk
  ·cases h
 ·rw [rel_v r, rel_v r']
  cases h
  split at hk
  ·cases hk
  ·rename_i hu; exact run_equalIn_bool' w m t _ _ hu
  ·cases hk
  ·cases hk
 ·rw [rel_v r, rel_v r']
  cases h
  split at hk
  ·cases hk
  ·cases hk
  ·rename_i hu; exact run_equalIn_string w m t _ _ hu
  ·cases hk
 ·cases h
theorem run_part1 {t : TypeId} {k : Nat} (hk : kindOf P t = some k) {w : World} {cs : Array Value} {off : Nat} (hlt : off < cs.size) : (part t cs off).run P w = .ok cs[off] w := by
 have hag : (isAgg t).run P w = .ok false w := by
  unfold kindOf at hk
  unfold isAgg
  split at hk <;> first
   | (rename_i hu; rw [Sem.run_bind, run_underlying hu w]; rfl)
   | (cases hk)
 unfold part
 simp [hag, Array.getElem?_eq_getElem hlt]
theorem eqL_get : ∀ {ks : List Nat} {as bs : List D} {b : Bool}, eqL ks as bs = some b → as.length = ks.length ∧ bs.length = ks.length
 | [], [], [], _, _ => ⟨rfl, rfl⟩
 | k :: ks, a :: as, c :: bs, b, h => by
  rw [eqL] at h
  split at h
  ·rename_i h1 h2
   obtain ⟨q1, q2⟩ := eqL_get h2
   exact ⟨by rw [List.length_cons, List.length_cons, q1], by rw [List.length_cons, List.length_cons, q2]⟩
  ·cases h
 | [], [], _ :: _, _, h => by cases h
 | [], _ :: _, _, _, h => by cases h
 | _ :: _, [], _, _, h => by cases h
 | _ :: _, _ :: _, [], _, h => by cases h
theorem run_eqItems {Im : Nat → Prop} {p : Pl} {H : Hp} {hp : Array Obj} {e : TypeId} {kd : Nat} (hk : kindOf P e = some kd) (m : Nat) (w : World) (xs ys : Array Value) : ∀ (n k : Nat) (as bs : List D) (b : Bool), eqL (List.replicate n kd) as bs = some b → xs.size = k + n → ys.size = k + n →
  (∀ (j : Nat) (d : D) (u : Value), as[j]? = some d → xs[k + j]? = some u → Rel Im p H hp d u) → (∀ (j : Nat) (d : D) (u : Value), bs[j]? = some d → ys[k + j]? = some u → Rel Im p H hp d u) →
  (Op.eqItems (m + 1) e 1 xs ys (List.range' k n)).run P w = .ok b w
 | 0, k, as, bs, b, h, _, _, _, _ => by
  obtain ⟨h1, h2⟩ := eqL_get h
  simp only [List.replicate_zero, List.length_nil] at h1 h2
  rw [List.length_eq_zero_iff.1 h1, List.length_eq_zero_iff.1 h2] at h
  cases h
  rfl
 | n + 1, k, as, bs, b, h, hx, hy, ra, rb => by
  rw [List.replicate_succ] at h
  cases as with
  | nil => cases h
  | cons a as =>
   cases bs with
   | nil => cases h
   | cons c bs =>
    rw [eqL] at h
    split at h
    ·rename_i x y h1 h2
     cases h
     have hkx : k < xs.size := by omega
     have hky : k < ys.size := by omega
     have e1 := run_eqOne hk h1 (ra 0 a _ rfl (by rw [Nat.add_zero]; exact Array.getElem?_eq_getElem hkx)) (rb 0 c _ rfl (by rw [Nat.add_zero]; exact Array.getElem?_eq_getElem hky)) m w
     have e2 := run_eqItems hk m w xs ys n (k + 1) as bs y h2 (by omega) (by omega) (fun j d u hd hu => ra (j + 1) d u (by simpa using hd) (by rw [show k + (j + 1) = k + 1 + j by omega]; exact hu)) (fun j d u hd hu => rb (j + 1) d u (by simpa using hd) (by rw [show k + (j + 1) = k + 1 + j by omega]; exact hu))
     rw [List.range'_succ, Op.eqItems]
     simp only [Nat.mul_one, Sem.run_bind, run_part1 hk hkx, run_part1 hk hky, e1, Result.andThen_ok]
     cases x
     ·simp
     ·simpa using e2
    ·cases h
theorem snd_eqaA {ng : Bool} {t t' e : TypeId} {n kd : Nat} {ei : TypeInfo} {x y : Operand} {x' y' : Opd} (hx : OpdOk x x') (hy : OpdOk y y') (hu : P.underlying t = some (.array n e)) (hi : P.info? e = some ei) (h1 : ei.size = 1) (hk : kindOf P e = some kd) (hg : P.eqGuardType P.depth t = false) : SoundK P (.binOp (if ng = true then .neq else .eql) t x y t') (.eqa ng (List.replicate n kd) x' y') := fun E Im p s a w nm o d ho hR he hcd => by
 have r := hx _ _ _ _ _ _ hR
 have r' := hy _ _ _ _ _ _ hR
 simp only [eff] at he
 split at he
 ·rename_i as bs hs hs'
  rw [hs] at r
  rw [hs'] at r'
  split at he
  ·rename_i b hb
   cases he
   obtain ⟨us, ex, RA⟩ := RelL.of_agg r
   obtain ⟨vs, ey, RB⟩ := RelL.of_agg r'
   obtain ⟨l1, l2⟩ := eqL_get hb
   rw [List.length_replicate] at l1 l2
   have s1 : us.size = n := by rw [← l1, RA.len]; simp
   have s2 : vs.size = n := by rw [← l2, RB.len]; simp
   have k : (Op.equalIn (9999 + 1) t (.agg us) (.agg vs)).run P w = .ok b w := by
    rw [run_equalIn_array w 9999 us vs hu hi, List.range_eq_range']
    have hc : P.cellsOf e = 1 := by unfold Program.cellsOf; rw [hi]; exact h1
    have := run_eqItems (Im := Im) (p := p) (H := s.H) (hp := w.heap) hk 9998 w us vs n 0 as bs b hb (by omega) (by omega) (fun j d u hd hu => (RA.cell j d u hd (by simpa using hu)).1) (fun j d u hd hu => (RB.cell j d u hd (by simpa using hu)).1)
    first | exact this | (rw [hc]; exact this) | (rw [h1]; exact this)
   refine sound_pure hR (u := .bool (if ng = true then !b else b)) ?_ rfl (.p (.v _))
   unfold execOp
   simp only [ho, ex, ey, Sem.run_bind, run_eqGuard_agg w _ t x y us vs hg, Result.andThen_ok]
   cases ng
   ·simp only [Bool.false_eq_true, if_false, run_eql_struct, k, Result.andThen_ok]; rfl
   ·simp only [if_true, run_neq_struct, k, Result.andThen_ok]; rfl
  ·cases he
 ·cases he
def kindsOf (P : Program) : Nat → List Field → Option (List Nat)
 | _, [] => some []
 | off, f :: fs =>
  if f.name ≠ "_" ∧ f.offset = off then
   match kindOf P f.type, kindsOf P (off + 1) fs with
   | some k, some ks => some (k :: ks)
   | _, _ => Option.none
  else Option.none
theorem run_eqFields {Im : Nat → Prop} {p : Pl} {H : Hp} {hp : Array Obj} (m : Nat) (w : World) (xs ys : Array Value) : ∀ (fs : List Field) (k : Nat) (ks : List Nat) (as bs : List D) (b : Bool), kindsOf P k fs = some ks → eqL ks as bs = some b → xs.size = k + ks.length → ys.size = k + ks.length →
  (∀ (j : Nat) (d : D) (u : Value), as[j]? = some d → xs[k + j]? = some u → Rel Im p H hp d u) → (∀ (j : Nat) (d : D) (u : Value), bs[j]? = some d → ys[k + j]? = some u → Rel Im p H hp d u) →
  (Op.eqFields (m + 1) xs ys fs).run P w = .ok b w
 | [], k, ks, as, bs, b, hks, h, _, _, _, _ => by
  cases hks
  obtain ⟨h1, h2⟩ := eqL_get h
  simp only [List.length_nil] at h1 h2
  rw [List.length_eq_zero_iff.1 h1, List.length_eq_zero_iff.1 h2] at h
  cases h
  rfl
 | f :: fs, k, ks, as, bs, b, hks, h, hx, hy, ra, rb => by
  rw [kindsOf] at hks
  split at hks
  ·rename_i hf
   split at hks
   ·rename_i k0 ks' hk hks'
    cases hks
    cases as with
    | nil => cases h
    | cons a as =>
     cases bs with
     | nil => cases h
     | cons c bs =>
      rw [eqL] at h
      split at h
      ·rename_i x y h1 h2
       cases h
       rw [List.length_cons] at hx hy
       have hkx : k < xs.size := by omega
       have hky : k < ys.size := by omega
       have e1 := run_eqOne hk h1 (ra 0 a _ rfl (by rw [Nat.add_zero]; exact Array.getElem?_eq_getElem hkx)) (rb 0 c _ rfl (by rw [Nat.add_zero]; exact Array.getElem?_eq_getElem hky)) m w
       have e2 := run_eqFields m w xs ys fs (k + 1) ks' as bs y hks' h2 (by omega) (by omega) (fun j d u hd hu => ra (j + 1) d u (by simpa using hd) (by rw [show k + (j + 1) = k + 1 + j by omega]; exact hu)) (fun j d u hd hu => rb (j + 1) d u (by simpa using hd) (by rw [show k + (j + 1) = k + 1 + j by omega]; exact hu))
       rw [Op.eqFields, if_pos hf.1]
       simp only [hf.2, Sem.run_bind, run_part1 hk hkx, run_part1 hk hky, e1, Result.andThen_ok]
       cases x
       ·simp
       ·simpa using e2
      ·cases h
   ·cases hks
  ·cases hks
theorem eqL_app : ∀ {k1 k2 : List Nat} {as bs : List D} {b : Bool}, eqL (k1 ++ k2) as bs = some b → ∃ x y, eqL k1 (as.take k1.length) (bs.take k1.length) = some x ∧ eqL k2 (as.drop k1.length) (bs.drop k1.length) = some y ∧ b = (x && y)
 | [], k2, as, bs, b, h => ⟨true, b, rfl, h, rfl⟩
 | k :: k1, k2, [], bs, b, h => by cases h
 | k :: k1, k2, a :: as, [], b, h => by cases h
 | k :: k1, k2, a :: as, c :: bs, b, h => by
  rw [List.cons_append, eqL] at h
  split at h
  ·rename_i x y h1 h2
   cases h
   obtain ⟨u, v, e1, e2, rfl⟩ := eqL_app h2
   refine ⟨x && u, v, ?_, by simpa using e2, by rw [Bool.and_assoc]⟩
   simp only [List.length_cons, List.take_succ_cons, eqL, h1, e1]
  ·cases h
def kinds2 (P : Program) : Nat → List Field → Option (List Nat)
 | _, [] => some []
 | off, f :: fs =>
  if f.name ≠ "_" ∧ f.offset = off then
   match kindOf P f.type with
   | some k => match kinds2 P (off + 1) fs with
    | some ks => some (k :: ks)
    | Option.none => Option.none
   | Option.none => match P.underlying f.type, P.info? f.type with
    | some (.struct gs), some ti => match kindsOf P 0 gs.toList with
     | some ks1 => if P.stoodInHeld f.type = false ∧ ti.size = ks1.length then (match kinds2 P (off + ks1.length) fs with
       | some ks => some (ks1 ++ ks)
       | Option.none => Option.none) else Option.none
     | Option.none => Option.none
    | _, _ => Option.none
  else Option.none
theorem run_part2 {t : TypeId} {gs : Array Field} {ti : TypeInfo} (hu : P.underlying t = some (.struct gs)) (hi : P.info? t = some ti) (w : World) (cs : Array Value) (off : Nat) : (part t cs off).run P w = .ok (.agg (cs.extract off (off + ti.size))) w := by
 have hag : (isAgg t).run P w = .ok true w := by
  unfold isAgg
  rw [Sem.run_bind, run_underlying hu w]; rfl
 have hsz : (sizeOf t).run P w = .ok ti.size w := by simp [sizeOf, run_typeInfo w hi]
 unfold part
 simp only [Sem.run_bind, hag, Result.andThen_ok, if_true, hsz]
 rfl
theorem extract_get {xs : Array Value} {off n j : Nat} {u : Value} (h : (xs.extract off (off + n))[j]? = some u) : xs[off + j]? = some u ∧ j < n := by
 rw [Array.getElem?_extract] at h
 split at h
 ·rename_i hlt
  exact ⟨h, by omega⟩
 ·cases h
theorem run_eqFields2 {Im : Nat → Prop} {p : Pl} {H : Hp} {hp : Array Obj} (m : Nat) (w : World) (xs ys : Array Value) : ∀ (fs : List Field) (k : Nat) (ks : List Nat) (as bs : List D) (b : Bool), kinds2 P k fs = some ks → eqL ks as bs = some b → xs.size = k + ks.length → ys.size = k + ks.length →
  (∀ (j : Nat) (d : D) (u : Value), as[j]? = some d → xs[k + j]? = some u → Rel Im p H hp d u) → (∀ (j : Nat) (d : D) (u : Value), bs[j]? = some d → ys[k + j]? = some u → Rel Im p H hp d u) →
  (Op.eqFields (m + 2) xs ys fs).run P w = .ok b w
 | [], k, ks, as, bs, b, hks, h, _, _, _, _ => by
  cases hks
  obtain ⟨h1, h2⟩ := eqL_get h
  simp only [List.length_nil] at h1 h2
  rw [List.length_eq_zero_iff.1 h1, List.length_eq_zero_iff.1 h2] at h
  cases h
  rfl
 | f :: fs, k, ks, as, bs, b, hks, h, hx, hy, ra, rb => by
  rw [kinds2] at hks
  split at hks
  ·rename_i hf
   split at hks
   ·rename_i k0 hk
    split at hks
    ·rename_i ks' hks'
     cases hks
     cases as with
     | nil => cases h
     | cons a as =>
      cases bs with
      | nil => cases h
      | cons c bs =>
       rw [eqL] at h
       split at h
       ·rename_i x y h1 h2
        cases h
        rw [List.length_cons] at hx hy
        have hkx : k < xs.size := by omega
        have hky : k < ys.size := by omega
        have e1 := run_eqOne hk h1 (ra 0 a _ rfl (by rw [Nat.add_zero]; exact Array.getElem?_eq_getElem hkx)) (rb 0 c _ rfl (by rw [Nat.add_zero]; exact Array.getElem?_eq_getElem hky)) (m + 1) w
        have e2 := run_eqFields2 m w xs ys fs (k + 1) ks' as bs y hks' h2 (by omega) (by omega) (fun j d u hd hu => ra (j + 1) d u (by simpa using hd) (by rw [show k + (j + 1) = k + 1 + j by omega]; exact hu)) (fun j d u hd hu => rb (j + 1) d u (by simpa using hd) (by rw [show k + (j + 1) = k + 1 + j by omega]; exact hu))
        rw [Op.eqFields, if_pos hf.1]
        simp only [hf.2, Sem.run_bind, run_part1 hk hkx, run_part1 hk hky, e1, Result.andThen_ok]
        cases x
        ·simp
        ·simpa using e2
       ·cases h
    ·cases hks
   ·split at hks
    ·rename_i gs ti hu hi
     split at hks
     ·rename_i ks1 hg
      split at hks
      ·rename_i hc
       split at hks
       ·rename_i ks2 hks2
        cases hks
        obtain ⟨x, y, h1, h2, rfl⟩ := eqL_app h
        obtain ⟨l1, l2⟩ := eqL_get h1
        obtain ⟨l3, l4⟩ := eqL_get h
        rw [List.length_append] at hx hy l3 l4
        have hfs : P.fieldsOf f.type = gs := by unfold Program.fieldsOf; rw [hu]
        have e1 : (Op.equalIn (m + 1 + 1) f.type (.agg (xs.extract k (k + ti.size))) (.agg (ys.extract k (k + ti.size)))).run P w = .ok x w := by
         rw [run_equalIn_struct w (m + 1) f.type _ _ (by rw [hfs]; exact hu) hc.1, hfs]
         refine run_eqFields (Im := Im) (p := p) (H := H) (hp := hp) m w _ _ gs.toList 0 ks1 _ _ x hg h1 (by rw [Array.size_extract]; omega) (by rw [Array.size_extract]; omega) (fun j d u hd hu' => ?_) (fun j d u hd hu' => ?_)
         ·rw [Nat.zero_add] at hu'
          obtain ⟨q1, q2⟩ := extract_get hu'
          rw [List.getElem?_take, if_pos (by omega)] at hd
          exact ra j d u hd q1
         ·rw [Nat.zero_add] at hu'
          obtain ⟨q1, q2⟩ := extract_get hu'
          rw [List.getElem?_take, if_pos (by omega)] at hd
          exact rb j d u hd q1
        have e2 := run_eqFields2 m w xs ys fs (k + ks1.length) ks2 _ _ y hks2 h2 (by omega) (by omega) (fun j d u hd hu => ra (ks1.length + j) d u (by rw [List.getElem?_drop] at hd; exact hd) (by rw [← Nat.add_assoc]; exact hu)) (fun j d u hd hu => rb (ks1.length + j) d u (by rw [List.getElem?_drop] at hd; exact hd) (by rw [← Nat.add_assoc]; exact hu))
        rw [Op.eqFields, if_pos hf.1]
        simp only [hf.2, Sem.run_bind, run_part2 hu hi, e1, Result.andThen_ok]
        cases x
        ·simp
        ·simpa using e2
       ·cases hks
      ·cases hks
     ·cases hks
    ·cases hks
  ·cases hks
theorem snd_eqaS {ng : Bool} {t t' : TypeId} {fs : Array Field} {ks : List Nat} {x y : Operand} {x' y' : Opd} (hx : OpdOk x x') (hy : OpdOk y y') (hu : P.underlying t = some (.struct fs)) (hks : kinds2 P 0 fs.toList = some ks) (hst : P.stoodInHeld t = false) (hg : P.eqGuardType P.depth t = false) : SoundK P (.binOp (if ng = true then .neq else .eql) t x y t') (.eqa ng ks x' y') := fun E Im p s a w nm o d ho hR he hcd => by
 have r := hx _ _ _ _ _ _ hR
 have r' := hy _ _ _ _ _ _ hR
 simp only [eff] at he
 split at he
 ·rename_i as bs hs hs'
  rw [hs] at r
  rw [hs'] at r'
  split at he
  ·rename_i b hb
   cases he
   obtain ⟨us, ex, RA⟩ := RelL.of_agg r
   obtain ⟨vs, ey, RB⟩ := RelL.of_agg r'
   obtain ⟨l1, l2⟩ := eqL_get hb
   have s1 : us.size = ks.length := by rw [← l1, RA.len]; simp
   have s2 : vs.size = ks.length := by rw [← l2, RB.len]; simp
   have hfs : P.fieldsOf t = fs := by unfold Program.fieldsOf; rw [hu]
   have k : (Op.equalIn (9999 + 1) t (.agg us) (.agg vs)).run P w = .ok b w := by
    rw [run_equalIn_struct w 9999 t us vs (by rw [hfs]; exact hu) hst, hfs]
    exact run_eqFields2 (Im := Im) (p := p) (H := s.H) (hp := w.heap) 9997 w us vs fs.toList 0 ks as bs b hks hb (by omega) (by omega) (fun j d u hd hu => (RA.cell j d u hd (by simpa using hu)).1) (fun j d u hd hu => (RB.cell j d u hd (by simpa using hu)).1)
   refine sound_pure hR (u := .bool (if ng = true then !b else b)) ?_ rfl (.p (.v _))
   unfold execOp
   simp only [ho, ex, ey, Sem.run_bind, run_eqGuard_agg w _ t x y us vs hg, Result.andThen_ok]
   cases ng
   ·simp only [Bool.false_eq_true, if_false, run_eql_struct, k, Result.andThen_ok]; rfl
   ·simp only [if_true, run_neq_struct, k, Result.andThen_ok]; rfl
  ·cases he
 ·cases he
theorem bytes_rel {Im : Nat → Prop} {p : Pl} {H : Hp} {hp : Array Obj} : ∀ {l : List (List D)} {ns : List Int} {news : List Value}, bytesD l = some ns → news.length = l.length * 1 → (∀ k, k < l.length → RelL Im p H hp (l.getD k []) ((news.drop (k * 1)).take 1)) → news = ns.map (Value.int .u8) := by
 intro l
 induction l with
 | nil =>
  intro ns news h hl _
  cases h
  exact List.length_eq_zero_iff.1 (by simpa using hl)
 | cons r l ih =>
  intro ns news h hl hr
  unfold bytesD at h
  split at h
  ·cases ‹_ :: _ = []›
  ·rename_i n l' heq
   cases heq
   split at h
   ·rename_i ns' hns
    cases h
    cases news with
    | nil => simp at hl
    | cons u news =>
     have h0 := hr 0 (by simp)
     simp only [List.getD_cons_zero, Nat.zero_mul, List.drop_zero, List.take_succ_cons, List.take_zero] at h0
     have hu := rel_v (h0.cell 0 _ u rfl rfl).1
     rw [hu, List.map_cons]
     congr 1
     refine ih hns (by simpa using hl) fun k hk => ?_
     have := hr (k + 1) (by simpa using hk)
     simpa using this
   ·cases h
  ·cases h
theorem rowsOf_slice {Im : Nat → Prop} {p : Pl} {H : Hp} {hp : Array Obj} {d : D} {u : Value} (r : Rel Im p H hp d u) {ys : List Nm} {l : List (List D)} (h : rowsOf H d = some (ys, l)) : ∃ a n cap, u = .slice a n cap := by
 unfold rowsOf at h
 split at h
 ·obtain ⟨a, cap, e, _⟩ := relP_sl (rel_sl r)
  exact ⟨a, _, cap, e⟩
 ·obtain ⟨a, e⟩ := rel_mt r
  exact ⟨a, 0, 0, e⟩
 ·cases r with
  | p r => cases r
  | own => exact ⟨_, _, _, rfl⟩
 ·cases h
theorem snd_bts {src dst e : TypeId} {x : Operand} {x' : Opd} (hx : OpdOk x x') (hs : P.underlying src = some (.slice e)) (he' : P.underlying e = some (.int .u8)) (hd : P.underlying dst = some .string) : SoundK P (.convert src dst x) (.bts x') := fun E Im p s a w nm o d ho hR he hcd => by
 have r := hx _ _ _ _ _ _ hR
 simp only [eff] at he
 split at he
 ·rename_i ys l hl
  split at he
  ·rename_i ns hns
   cases he
   dsimp only at hcd
   obtain ⟨news, S, RN⟩ := src_of (P := P) (tx := src) (e' := e) hR.hp r hl hs hcd
   have hnews := bytes_rel hns S.newsLen RN
   have hlen := S.len w
   have hcells := S.cells
   refine sound_pure hR (u := .string (strOf ns)) ?_ rfl (.p (.v _))
   obtain ⟨u, hux⟩ : ∃ u, u = a.eval x := ⟨_, rfl⟩
   rw [← hux] at hlen hcells
   rw [← hux] at r
   obtain ⟨ao, n, cap, rfl⟩ := rowsOf_slice r hl
   have hn : n = l.length := by
    simp only [Builtin.lenOf] at hlen
    injection hlen
   have hconv : (convert src dst (.slice ao n cap)).run P w = .ok (.string (strOf ns)) w := by
    rw [run_convert_bytes_string w src dst e ao n cap hs he' hd]
    cases ao with
    | none =>
     simp only [Builtin.firstCells] at hcells
     injection hcells with h1
     have h2 : news = [] := by
      have := congrArg Array.toList h1
      simpa using this.symm
     rw [hnews] at h2
     have h3 : ns = [] := by simpa using h2
     subst h3
     simp [Conv.bytesToString, strOf]
    | some b =>
     simp only [Builtin.firstCells, Nat.mul_one] at hcells
     rw [← hn, hnews] at hcells
     exact run_bytesToString w b n cap ns hcells
   unfold execOp
   simp only [ho, ← hux, Sem.run_bind, hconv, Result.andThen_ok]
   rfl
  ·cases he
 ·cases he
end
section
variable {P : Program}
theorem grownCap_ge (w : World) (need old : Nat) (e : TypeId) : need ≤ grownCap w need old e := by
 unfold grownCap Question.cut
 exact Nat.le_add_right _ _
theorem RowsAt.two {Im : Nat → Prop} {p : Pl} {H : Hp} {h : Array Obj} {rows l : List (List D)} {sz s : Nat} {c : Array Value} {olds news : List Value} (h1 : ∀ r ∈ rows, r.length = sz) (h2 : ∀ r ∈ l, r.length = sz) (ho : olds.length = rows.length * sz) (hn : news.length = l.length * sz)
  (ro : ∀ k, k < rows.length → RelL Im p H h (rows.getD k []) ((olds.drop (k * sz)).take sz)) (rn : ∀ k, k < l.length → RelL Im p H h (l.getD k []) ((news.drop (k * sz)).take sz)) (hsize : s + (rows.length + l.length) * sz ≤ c.size) (hc : ∀ m, m < (rows.length + l.length) * sz → c.toList[s + m]? = (olds ++ news)[m]?) :
  RowsAt Im p H h c s sz (rows ++ l) := by
 refine RowsAt.of (fun r hr => (List.mem_append.1 hr).elim (h1 r) (h2 r)) (by rw [List.length_append]; exact hsize) fun k hk => ?_
 rw [List.length_append] at hk
 have hle : (k + 1) * sz ≤ (rows.length + l.length) * sz := Nat.mul_le_mul_right _ hk
 rw [Nat.add_mul, Nat.one_mul] at hle
 by_cases hkr : k < rows.length
 ·have hle' : (k + 1) * sz ≤ rows.length * sz := Nat.mul_le_mul_right _ hkr
  rw [Nat.add_mul, Nat.one_mul] at hle'
  have e1 : (rows ++ l).getD k [] = rows.getD k [] := by rw [List.getD_eq_getElem?_getD, List.getD_eq_getElem?_getD, List.getElem?_append_left hkr]
  have e2 : (c.toList.drop (s + k * sz)).take sz = (olds.drop (k * sz)).take sz := by
   refine List.ext_getElem? fun m => ?_
   by_cases hm : m < sz
   ·rw [List.getElem?_take, if_pos hm, List.getElem?_drop, List.getElem?_take, if_pos hm, List.getElem?_drop, Nat.add_assoc, hc _ (by omega), List.getElem?_append_left (by omega)]
   ·rw [List.getElem?_take, if_neg hm, List.getElem?_take, if_neg hm]
  rw [e1, e2]
  exact ro k hkr
 ·have hkl : k - rows.length < l.length := by omega
  have e1 : (rows ++ l).getD k [] = l.getD (k - rows.length) [] := by rw [List.getD_eq_getElem?_getD, List.getD_eq_getElem?_getD, List.getElem?_append_right (by omega)]
  have hmul : (k - rows.length) * sz = k * sz - rows.length * sz := Nat.sub_mul _ _ _
  have hge : rows.length * sz ≤ k * sz := Nat.mul_le_mul_right _ (by omega)
  have e2 : (c.toList.drop (s + k * sz)).take sz = (news.drop ((k - rows.length) * sz)).take sz := by
   refine List.ext_getElem? fun m => ?_
   by_cases hm : m < sz
   ·rw [List.getElem?_take, if_pos hm, List.getElem?_drop, List.getElem?_take, if_pos hm, List.getElem?_drop, Nat.add_assoc, hc _ (by omega), List.getElem?_append_right (by omega)]
    congr 1
    omega
   ·rw [List.getElem?_take, if_neg hm, List.getElem?_take, if_neg hm]
  rw [e1, e2]
  exact rn _ hkl
theorem snd_app {t tx e e' : TypeId} {x y : Operand} {x' y' : Opd} {ei : TypeInfo} {zv : Value} {sz bytes : Nat} (hx : OpdOk x x') (hy : OpdOk y y') (hu : P.underlying t = some (.slice e)) (hk : P.underlying tx = some (.slice e')) (hei : P.info? e = some ei) (hz : ei.zero = some zv) (hsz : ei.size = sz) (hzs : zv.cells.size = sz) (hby : ei.bytes = bytes) (hpos : 0 < sz) :
  SoundK P (.call { callee := .builtin .append, args := #[x, y], argTypes := #[t, tx] }) (.app sz bytes x' y') := fun E Im p s a w nm o d ho hR he hcd => by
 have r := hx _ _ _ _ _ _ hR
 have r' := hy _ _ _ _ _ _ hR
 subst hsz hby
 have exe : ∀ {v : Value} {w' : World}, (Builtin.append_ #[t, tx] d.type #[a.eval x, a.eval y]).run P w = .ok v w' → (execOp a.eval d).run P w = .ok (.value v) w' := fun h => by
  unfold execOp
  simp [ho, resolve, invoke, builtin, h]
 have nilc : ∀ (ao : Option Addr) (cap : Nat), (Builtin.firstCells ei.size 0 (.slice ao 0 cap)).run P w.drew = .ok ([] : List Value).toArray w.drew := fun ao cap => by
  cases ao with
  | none => exact run_firstCells_none _ _ _ _ _
  | some b => exact run_firstCells_some _ _ _ b 0 cap [] (by simp) (fun j v hv => by cases hv)
 simp only [eff] at he
 split at he
 ·rename_i ys l hl hs
  rw [hs] at r
  split at he
  ·rename_i hnm
   cases he
   dsimp only at hcd
   obtain ⟨c1, c2, c3⟩ := hcd
   obtain ⟨ao, ex⟩ := rel_mt r
   obtain ⟨news, S, RN⟩ := src_of (tx := tx) (e' := e') hR.hp r' hl hk c1
   rcases Nat.eq_zero_or_pos l.length with h0 | hpos'
   ·obtain rfl : l = [] := List.length_eq_zero_iff.1 h0
    have hnews : news = [] := by have := S.newsLen; simp at this; exact this
    subst hnews
    have hrun := run_append_nothing (P := P) w t tx d.type e ei hu hei ao 0 0 (Nat.le_refl _) (a.eval y) S
    rw [← ex] at hrun
    have T : Turn Im p s.H w.heap nm ⟨0, 0, []⟩ ⟨0, ei.size, []⟩ (0, 0) w.heap := ⟨.inr ⟨hnm, rfl⟩, .inl hnm, fun _ _ _ => rfl, Nat.le_refl _, fun h => absurd rfl h, fun h => absurd rfl h⟩
    refine ⟨_, _, w, p.put nm (0, 0), exe hrun, .inl rfl, T.grows hR.hp, T.relH hR.hp, T.relE hR.hp hR.en rfl rfl rfl, ?_⟩
    rw [ex]
    exact .own nm 0 0 0 _ 0 ⟨0, ei.size, []⟩ (Hp.put_same _ _ _) (Nat.le_refl _) (Nat.le_refl _) fun _ h => absurd h (Nat.lt_irrefl _)
   ·have hrun := run_append_grow_src (P := P) w t tx d.type e ei zv hu hei hz ao 0 0 [] (nilc ao 0) (a.eval y) l.length news S (by omega) (by omega) (growslice_fits (by omega) (by simpa using c2))
    rw [← ex] at hrun
    simp only [Nat.zero_add, List.nil_append] at hrun
    have hcap := grownCap_ge w l.length 0 e
    generalize grownCap w l.length 0 e = cap at hrun hcap
    have hzsz : (news.toArray ++ Builtin.zeroCells zv.cells (cap - l.length)).size = cap * ei.size := by
     rw [Array.size_append, size_zeroCells, hzs, List.size_toArray, S.newsLen, ← Nat.add_mul]
     congr 1
     omega
    have hmul : l.length * ei.size ≤ cap * ei.size := Nat.mul_le_mul_right _ hcap
    have R0 : RowsAt Im p s.H w.heap (news.toArray ++ Builtin.zeroCells zv.cells (cap - l.length)) 0 ei.size l := by
     have := RowsAt.two (Im := Im) (p := p) (H := s.H) (h := w.heap) (rows := []) (l := l) (sz := ei.size) (s := 0) (c := news.toArray ++ Builtin.zeroCells zv.cells (cap - l.length)) (olds := []) (news := news) (fun r hr => by cases hr) c1 (by simp) S.newsLen (fun k hk => absurd hk (Nat.not_lt_zero _)) RN (by rw [hzsz]; simpa using hmul) (fun m hm => by
      rw [List.length_nil, Nat.zero_add] at hm
      rw [Array.toList_append, Nat.zero_add, List.getElem?_append_left (by rw [List.toList_toArray, S.newsLen]; exact hm)]
      rfl)
     simpa using this
    have T : Turn Im p s.H w.heap nm ⟨0, 0, []⟩ ⟨0, ei.size, l⟩ (w.heap.size, 0) (w.heap.push (.cells (news.toArray ++ Builtin.zeroCells zv.cells (cap - l.length)) e)) := Turn.fresh hnm R0
    refine ⟨_, _, _, p.put nm (w.heap.size, 0), exe hrun, .inl rfl, T.grows hR.hp, T.relH hR.hp, T.relE hR.hp hR.en (w' := w.drew.alloc _) rfl rfl rfl, ?_⟩
    refine .own nm 0 0 _ _ cap _ (Hp.put_same _ _ _) (Nat.le_refl _) hcap fun _ h => ?_
    rw [Pl.put_same]
    refine ⟨by simp, fun h => ?_, _, e, push_at _ _, ?_⟩
    ·dsimp only at h
     rw [h] at hpos'
     exact absurd hpos' (Nat.lt_irrefl _)
    ·dsimp only
     rw [hzsz]
     simp
  ·cases he
 ·rename_i ys l i g off n hl hs
  rw [hs] at r
  split at he
  ·rename_i en hie
   split at he
   ·rename_i hg
    cases he
    dsimp only at hcd
    obtain ⟨hg, hesz, htop⟩ := hg
    obtain ⟨c1, c2, c3, c4⟩ := hcd
    obtain ⟨ao, cap, ex, hcap, hl0⟩ := rel_own r hie hg
    obtain ⟨news, S, RN⟩ := src_of (tx := tx) (e' := e') hR.hp r' hl hk c1
    have hnl := S.newsLen
    have hdl : (en.rows.drop off).length = n := by rw [List.length_drop]; omega
    have hgen : en.g < g + 1 := by omega
    rw [hesz] at hl0
    by_cases hroom : n + l.length ≤ cap
    ·rcases Nat.eq_zero_or_pos cap with rfl | hcp
     ·obtain rfl : l = [] := List.length_eq_zero_iff.1 (by omega)
      obtain rfl : n = 0 := by omega
      have hrows : en.rows.drop off ++ ([] : List (List D)) = [] := by rw [List.append_nil]; exact List.length_eq_zero_iff.1 hdl
      have hnews : news = [] := by simpa using hnl
      subst hnews
      have hrun := run_append_nothing (P := P) w t tx d.type e ei hu hei ao 0 0 (Nat.le_refl _) (a.eval y) S
      rw [← ex] at hrun
      have T : Turn Im p s.H w.heap i en ⟨g + 1, ei.size, en.rows.drop off ++ []⟩ (0, 0) w.heap := ⟨.inl hie, .inr (.inl hgen), fun _ _ _ => rfl, Nat.le_refl _, fun h => absurd hrows h, fun h => absurd hrows h⟩
      refine ⟨_, _, w, p.put i (0, 0), exe hrun, .inl rfl, T.grows hR.hp, T.relH hR.hp, T.relE hR.hp hR.en rfl rfl rfl, ?_⟩
      rw [ex]
      exact .own i (g + 1) 0 _ _ 0 ⟨g + 1, ei.size, en.rows.drop off ++ []⟩ (Hp.put_same _ _ _) (Nat.le_refl _) (Nat.le_refl _) fun _ h => absurd h (Nat.lt_irrefl _)
     ·obtain ⟨rfl, hne, blk, t', k1, k2⟩ := hl0 hcp
      clear hl0
      obtain ⟨blk', t2, q1, q2, q3⟩ := hR.hp.cell i en hie hne
      rw [k1] at q1
      injection q1 with q1
      injection q1 with e1 e2 _
      subst e1 e2
      rw [hesz] at q3
      rw [Nat.add_mul] at k2
      have hmul : (n + l.length) * ei.size ≤ cap * ei.size := Nat.mul_le_mul_right _ hroom
      rw [Nat.add_mul] at hmul
      have hfit : (p i).2 + off * ei.size + n * ei.size + news.length ≤ blk.size := by rw [hnl]; omega
      have hrun := run_append_room_src (P := P) w t tx d.type e ei hu hei (p i).1 ((p i).2 + off * ei.size) n cap (a.eval y) l.length news S hroom (fun j hj => by
        have h2 : (p i).2 + off * ei.size + n * ei.size + j < blk.size := by omega
        have e3 : hc w.heap (p i).1 ((p i).2 + off * ei.size + n * ei.size + j) = some blk[(p i).2 + off * ei.size + n * ei.size + j] := by unfold hc; rw [k1]; exact Array.getElem?_eq_getElem h2
        rw [hc_cell, e3]
        rfl) (fun j hj => by simp [World.frozen?, k1])
      rw [← ex, setCells_row P w (p i).1 _ t' news blk k1 hfit S.one] at hrun
      generalize hO : (p i).2 + off * ei.size + n * ei.size = O at hrun hfit
      have hblk' : (w.setRow (p i).1 (blk.toList.take O ++ news ++ blk.toList.drop (O + news.length)).toArray).heap[(p i).1]? = some (.cells (blk.toList.take O ++ news ++ blk.toList.drop (O + news.length)).toArray t' (0, 0)) := setRow_heap w _ blk _ t' _ k1
      have hsz' : (blk.toList.take O ++ news ++ blk.toList.drop (O + news.length)).toArray.size = blk.size := by simp only [List.size_toArray, List.length_append, List.length_take, List.length_drop, Array.length_toList]; omega
      have hlO : (blk.toList.take O).length = O := by rw [List.length_take, Array.length_toList]; omega
      have R1 : RowsAt Im p s.H w.heap (blk.toList.take O ++ news ++ blk.toList.drop (O + news.length)).toArray ((p i).2 + off * ei.size) ei.size (en.rows.drop off ++ l) := by
       refine RowsAt.two (olds := (blk.toList.drop ((p i).2 + off * ei.size)).take (n * ei.size)) (news := news) (fun r hr => q3.len r (List.mem_of_mem_drop hr)) c1 ?_ hnl (fun k hk => ?_) RN ?_ (fun m hm => ?_)
       ·rw [List.length_take, List.length_drop, Array.length_toList, hdl]; omega
       ·rw [hdl] at hk
        have hle : (k + 1) * ei.size ≤ n * ei.size := Nat.mul_le_mul_right _ hk
        rw [Nat.add_mul, Nat.one_mul] at hle
        have e1 : (en.rows.drop off).getD k [] = en.rows.getD (off + k) [] := by rw [List.getD_eq_getElem?_getD, List.getD_eq_getElem?_getD, List.getElem?_drop]
        have e2 : (((blk.toList.drop ((p i).2 + off * ei.size)).take (n * ei.size)).drop (k * ei.size)).take ei.size = (blk.toList.drop ((p i).2 + (off + k) * ei.size)).take ei.size := by
         refine List.ext_getElem? fun m => ?_
         by_cases hm : m < ei.size
         ·rw [List.getElem?_take, if_pos hm, List.getElem?_drop, List.getElem?_take, if_pos (by omega), List.getElem?_drop, List.getElem?_take, if_pos hm, List.getElem?_drop, Nat.add_mul]
          congr 1
          omega
         ·rw [List.getElem?_take, if_neg hm, List.getElem?_take, if_neg hm]
        rw [e1, e2]
        exact (q3.row (show off + k < en.rows.length by omega)).1
       ·rw [hdl, hsz', Nat.add_mul]; omega
       ·rw [hdl, Nat.add_mul] at hm
        rw [List.toList_toArray]
        have hol : ((blk.toList.drop ((p i).2 + off * ei.size)).take (n * ei.size)).length = n * ei.size := by rw [List.length_take, List.length_drop, Array.length_toList]; omega
        by_cases h1 : m < n * ei.size
        ·rw [List.append_assoc, List.getElem?_append_left (by omega), List.getElem?_take, if_pos (by omega), List.getElem?_append_left (by omega), List.getElem?_take, if_pos h1, List.getElem?_drop]
        ·rw [List.append_assoc, List.getElem?_append_right (by omega), hlO, List.getElem?_append_left (by omega), List.getElem?_append_right (by omega), hol]
         congr 1
         omega
      have T : Turn Im p s.H w.heap i en ⟨g + 1, ei.size, en.rows.drop off ++ l⟩ ((p i).1, (p i).2 + off * ei.size) (w.setRow (p i).1 (blk.toList.take O ++ news ++ blk.toList.drop (O + news.length)).toArray).heap :=
       ⟨.inl hie, .inr (.inl hgen), fun b hb hbo => hbo.elim (fun h => absurd h hne) fun h => setRow_other w _ _ _ h, by simp, fun _ => .inl ⟨hne, rfl⟩, fun _ => ⟨_, t', hblk', R1⟩⟩
      refine ⟨_, _, w.setRow (p i).1 (blk.toList.take O ++ news ++ blk.toList.drop (O + news.length)).toArray, p.put i ((p i).1, (p i).2 + off * ei.size), exe hrun, .inl rfl, T.grows hR.hp, T.relH hR.hp, T.relE hR.hp hR.en rfl rfl rfl, ?_⟩
      refine .own i (g + 1) 0 _ _ cap _ (Hp.put_same _ _ _) (Nat.le_refl _) hroom fun _ h => ?_
      rw [Pl.put_same]
      refine ⟨by simp, fun h => ?_, _, t', hblk', ?_⟩
      ·dsimp only at h
       have h5 := congrArg List.length h
       rw [List.length_append, hdl] at h5
       simp at h5
       rcases c4 with h6 | h6
       ·subst h6
        rw [List.drop_zero, h5.2, List.append_nil] at h
        exact hne h
       ·rw [h5.2] at h6; simp at h6; omega
      ·dsimp only
       rw [hsz', Nat.zero_add]
       omega
    ·have hcl : cap < n + l.length := by omega
     have holds : ∃ olds : List Value, (Builtin.firstCells ei.size n (.slice ao n cap)).run P w.drew = .ok olds.toArray w.drew ∧ olds.length = n * ei.size ∧ ∀ k, k < n → RelL Im p s.H w.heap ((en.rows.drop off).getD k []) ((olds.drop (k * ei.size)).take ei.size) := by
      rcases Nat.eq_zero_or_pos n with h | hnp
      ·rw [h]
       exact ⟨[], nilc ao cap, by simp, fun k hk => absurd hk (Nat.not_lt_zero _)⟩
      ·obtain ⟨rfl, hne, blk, t', k1, k2⟩ := hl0 (by clear hl0; omega)
       clear hl0
       obtain ⟨blk', t2, q1, q2, q3⟩ := hR.hp.cell i en hie hne
       rw [k1] at q1
       injection q1 with q1
       injection q1 with e1 e2 _
       subst e1 e2
       rw [hesz] at q3
       rw [Nat.add_mul] at k2
       have hmul : n * ei.size ≤ cap * ei.size := Nat.mul_le_mul_right _ hcap
       have hol : ((blk.toList.drop ((p i).2 + off * ei.size)).take (n * ei.size)).length = n * ei.size := by rw [List.length_take, List.length_drop, Array.length_toList]; omega
       refine ⟨_, run_firstCells_some (P := P) w.drew ei.size n _ n cap ((blk.toList.drop ((p i).2 + off * ei.size)).take (n * ei.size)) hol (fun j v hv => ?_), hol, fun k hk => ?_⟩
       ·have hj : j < n * ei.size := by rw [← hol]; exact (List.getElem?_eq_some_iff.1 hv).1
        rw [List.getElem?_take, if_pos hj, List.getElem?_drop] at hv
        rw [World.cell?_drew, Addr.add_mid, hc_cell]
        unfold hc
        rw [k1]
        simpa using hv
       ·have hle : (k + 1) * ei.size ≤ n * ei.size := Nat.mul_le_mul_right _ hk
        rw [Nat.add_mul, Nat.one_mul] at hle
        have e1 : (en.rows.drop off).getD k [] = en.rows.getD (off + k) [] := by rw [List.getD_eq_getElem?_getD, List.getD_eq_getElem?_getD, List.getElem?_drop]
        have e2 : (((blk.toList.drop ((p i).2 + off * ei.size)).take (n * ei.size)).drop (k * ei.size)).take ei.size = (blk.toList.drop ((p i).2 + (off + k) * ei.size)).take ei.size := by
         refine List.ext_getElem? fun m => ?_
         by_cases hm : m < ei.size
         ·rw [List.getElem?_take, if_pos hm, List.getElem?_drop, List.getElem?_take, if_pos (by omega), List.getElem?_drop, List.getElem?_take, if_pos hm, List.getElem?_drop, Nat.add_mul]
          congr 1
          omega
         ·rw [List.getElem?_take, if_neg hm, List.getElem?_take, if_neg hm]
        rw [e1, e2]
        exact (q3.row (show off + k < en.rows.length by omega)).1
     clear hl0
     obtain ⟨olds, f1, f2, f3⟩ := holds
     have hrlen : ∀ r ∈ en.rows.drop off, r.length = ei.size := fun r hr => by
      have hm := List.mem_of_mem_drop hr
      have hne : en.rows ≠ [] := fun h => by rw [h] at hm; cases hm
      obtain ⟨_, _, _, _, q3⟩ := hR.hp.cell i en hie hne
      rw [q3.len r hm, hesz]
     have hrun := run_append_grow_src (P := P) w t tx d.type e ei zv hu hei hz ao n cap olds f1 (a.eval y) l.length news S hcl (by omega) (growslice_fits hcl (by simpa using c2))
     rw [← ex] at hrun
     have hge := grownCap_ge w (n + l.length) cap e
     generalize grownCap w (n + l.length) cap e = cap' at hrun hge
     have hzsz : ((olds ++ news).toArray ++ Builtin.zeroCells zv.cells (cap' - (n + l.length))).size = cap' * ei.size := by
      rw [Array.size_append, size_zeroCells, hzs, List.size_toArray, List.length_append, f2, hnl, ← Nat.add_mul, ← Nat.add_mul]
      congr 1
      omega
     have hmul : (n + l.length) * ei.size ≤ cap' * ei.size := Nat.mul_le_mul_right _ hge
     have R1 : RowsAt Im p s.H w.heap ((olds ++ news).toArray ++ Builtin.zeroCells zv.cells (cap' - (n + l.length))) 0 ei.size (en.rows.drop off ++ l) := by
      refine RowsAt.two (olds := olds) (news := news) hrlen c1 (by rw [hdl, f2]) hnl (fun k hk => f3 k (by rw [hdl] at hk; exact hk)) RN (by rw [hdl, hzsz, Nat.zero_add]; exact hmul) (fun m hm => ?_)
      rw [hdl] at hm
      rw [Array.toList_append, Nat.zero_add, List.getElem?_append_left (by rw [List.toList_toArray, List.length_append, f2, hnl, ← Nat.add_mul]; exact hm)]
     have T : Turn Im p s.H w.heap i en ⟨g + 1, ei.size, en.rows.drop off ++ l⟩ (w.heap.size, 0) (w.heap.push (.cells ((olds ++ news).toArray ++ Builtin.zeroCells zv.cells (cap' - (n + l.length))) e)) :=
      ⟨.inl hie, .inr (.inl hgen), fun b hb _ => push_lt _ hb, by simp, fun _ => .inr (Nat.le_refl _), fun _ => ⟨_, e, push_at _ _, R1⟩⟩
     refine ⟨_, _, _, p.put i (w.heap.size, 0), exe hrun, .inl rfl, T.grows hR.hp, T.relH hR.hp, T.relE hR.hp hR.en (w' := w.drew.alloc _) rfl rfl rfl, ?_⟩
     refine .own i (g + 1) 0 _ _ cap' _ (Hp.put_same _ _ _) (Nat.le_refl _) hge fun _ h => ?_
     rw [Pl.put_same]
     refine ⟨by simp, fun h => ?_, _, e, push_at _ _, ?_⟩
     ·dsimp only at h
      have h5 := congrArg List.length h
      rw [List.length_append, hdl] at h5
      simp at h5
      rw [h5.1, h5.2] at hcl
      simp at hcl
     ·dsimp only
      rw [hzsz]
      simp
   ·cases he
  ·cases he
 ·cases he
def SoundApk (P : Program) (op : Op) : K → Prop
 | .app sz bytes x y => ∀ (E : Ent) (Im : Nat → Prop) (p : Pl) (s : St) (a : Act) (w : World) (nm : Nm) (d : Oper) (ys : List Nm) (l : List (List D)) (i : Nm) (g n : Nat) (en : En), d.op = op → RelS E Im p s a w → rowsOf s.H (y.ev s.F) = some (ys, l) → x.ev s.F = .own i g 0 n → s.H i = some en → en.g = g → en.sz = sz → n = en.rows.length → s.H nm = Option.none →
   (∀ r ∈ l, r.length = sz) → (n + l.length) * bytes ≤ 140737488355328 → n + l.length ≤ 4611686018427387904 →
   ∃ u w' p' H' v, (execOp a.eval d).run P w = .ok (.value u) w' ∧ Grows Im p s.H w.heap Im p' H' w'.heap ∧ RelH Im p' H' w'.heap ∧ RelE E Im p' H' w' ∧ Rel Im p' H' w'.heap v u ∧ ((v = .own i g 0 (n + l.length) ∧ H' = s.H.put i ⟨g, sz, en.rows ++ l⟩ ∧ (en.rows = [] → l = [])) ∨ (v = .own nm 0 0 (n + l.length) ∧ H' = s.H.put nm ⟨0, sz, en.rows ++ l⟩))
 | _ => True
theorem snd_apk {t tx e e' : TypeId} {x y : Operand} {x' y' : Opd} {ei : TypeInfo} {zv : Value} {sz bytes : Nat} (hx : OpdOk x x') (hy : OpdOk y y') (hu : P.underlying t = some (.slice e)) (hk : P.underlying tx = some (.slice e')) (hei : P.info? e = some ei) (hz : ei.zero = some zv) (hsz : ei.size = sz) (hzs : zv.cells.size = sz) (hby : ei.bytes = bytes) (hpos : 0 < sz) :
  SoundApk P (.call { callee := .builtin .append, args := #[x, y], argTypes := #[t, tx] }) (.app sz bytes x' y') := fun E Im p s a w nm d ys l i g n en ho hR hl hs hie hg hesz htop hnm c1 c2 c3 => by
 have r := hx _ _ _ _ _ _ hR
 have r' := hy _ _ _ _ _ _ hR
 subst hsz hby
 have exe : ∀ {v : Value} {w' : World}, (Builtin.append_ #[t, tx] d.type #[a.eval x, a.eval y]).run P w = .ok v w' → (execOp a.eval d).run P w = .ok (.value v) w' := fun h => by
  unfold execOp
  simp [ho, resolve, invoke, builtin, h]
 have nilc : ∀ (ao : Option Addr) (cap : Nat), (Builtin.firstCells ei.size 0 (.slice ao 0 cap)).run P w.drew = .ok ([] : List Value).toArray w.drew := fun ao cap => by
  cases ao with
  | none => exact run_firstCells_none _ _ _ _ _
  | some b => exact run_firstCells_some _ _ _ b 0 cap [] (by simp) (fun j v hv => by cases hv)
 rw [hs] at r
 obtain ⟨ao, cap, ex, hcap, hl0⟩ := rel_own r hie hg
 obtain ⟨news, S, RN⟩ := src_of (tx := tx) (e' := e') hR.hp r' hl hk c1
 have hnl := S.newsLen
 have hdl : en.rows.length = n := htop.symm
 rw [hesz] at hl0
 by_cases hroom : n + l.length ≤ cap
 ·rcases Nat.eq_zero_or_pos cap with rfl | hcp
  ·obtain rfl : l = [] := List.length_eq_zero_iff.1 (by omega)
   obtain rfl : n = 0 := by omega
   have hrows : en.rows ++ ([] : List (List D)) = [] := by rw [List.append_nil]; exact List.length_eq_zero_iff.1 hdl
   have hnews : news = [] := by simpa using hnl
   subst hnews
   have hrun := run_append_nothing (P := P) w t tx d.type e ei hu hei ao 0 0 (Nat.le_refl _) (a.eval y) S
   rw [← ex] at hrun
   have hr0 : en.rows = [] := List.length_eq_zero_iff.1 hdl
   have T : Turn Im p s.H w.heap i en ⟨g, ei.size, en.rows ++ []⟩ (p i) w.heap := ⟨.inl hie, .inr (.inr ⟨hg, rfl, hesz.symm, fun h => absurd hr0 h⟩), fun _ _ _ => rfl, Nat.le_refl _, fun h => absurd hrows h, fun h => absurd hrows h⟩
   refine ⟨_, w, p.put i (p i), _, _, exe hrun, T.grows hR.hp, T.relH hR.hp, T.relE hR.hp hR.en rfl rfl rfl, ?_, .inl ⟨rfl, rfl, fun _ => rfl⟩⟩
   rw [ex]
   exact .own i g 0 _ _ 0 ⟨g, ei.size, en.rows ++ []⟩ (Hp.put_same _ _ _) (Nat.le_refl _) (Nat.le_refl _) fun _ h => absurd h (Nat.lt_irrefl _)
  ·obtain ⟨rfl, hne, blk, t', k1, k2⟩ := hl0 hcp
   clear hl0
   obtain ⟨blk', t2, q1, q2, q3⟩ := hR.hp.cell i en hie hne
   rw [k1] at q1
   injection q1 with q1
   injection q1 with e1 e2 _
   subst e1 e2
   rw [hesz] at q3
   rw [Nat.add_mul] at k2
   have hmul : (n + l.length) * ei.size ≤ cap * ei.size := Nat.mul_le_mul_right _ hroom
   rw [Nat.add_mul] at hmul
   have hfit : (p i).2 + 0 * ei.size + n * ei.size + news.length ≤ blk.size := by rw [hnl]; omega
   have hrun := run_append_room_src (P := P) w t tx d.type e ei hu hei (p i).1 ((p i).2 + 0 * ei.size) n cap (a.eval y) l.length news S hroom (fun j hj => by
     have h2 : (p i).2 + 0 * ei.size + n * ei.size + j < blk.size := by omega
     have e3 : hc w.heap (p i).1 ((p i).2 + 0 * ei.size + n * ei.size + j) = some blk[(p i).2 + 0 * ei.size + n * ei.size + j] := by unfold hc; rw [k1]; exact Array.getElem?_eq_getElem h2
     rw [hc_cell, e3]
     rfl) (fun j hj => by simp [World.frozen?, k1])
   rw [← ex, setCells_row P w (p i).1 _ t' news blk k1 hfit S.one] at hrun
   generalize hO : (p i).2 + 0 * ei.size + n * ei.size = O at hrun hfit
   have hblk' : (w.setRow (p i).1 (blk.toList.take O ++ news ++ blk.toList.drop (O + news.length)).toArray).heap[(p i).1]? = some (.cells (blk.toList.take O ++ news ++ blk.toList.drop (O + news.length)).toArray t' (0, 0)) := setRow_heap w _ blk _ t' _ k1
   have hsz' : (blk.toList.take O ++ news ++ blk.toList.drop (O + news.length)).toArray.size = blk.size := by simp only [List.size_toArray, List.length_append, List.length_take, List.length_drop, Array.length_toList]; omega
   have hlO : (blk.toList.take O).length = O := by rw [List.length_take, Array.length_toList]; omega
   have R1 : RowsAt Im p s.H w.heap (blk.toList.take O ++ news ++ blk.toList.drop (O + news.length)).toArray ((p i).2 + 0 * ei.size) ei.size (en.rows ++ l) := by
    refine RowsAt.two (olds := (blk.toList.drop ((p i).2 + 0 * ei.size)).take (n * ei.size)) (news := news) (fun r hr => q3.len r hr) c1 ?_ hnl (fun k hk => ?_) RN ?_ (fun m hm => ?_)
    ·rw [List.length_take, List.length_drop, Array.length_toList, hdl]; omega
    ·rw [hdl] at hk
     have hle : (k + 1) * ei.size ≤ n * ei.size := Nat.mul_le_mul_right _ hk
     rw [Nat.add_mul, Nat.one_mul] at hle
     have e1 : en.rows.getD k [] = en.rows.getD k [] := rfl
     have e2 : (((blk.toList.drop ((p i).2 + 0 * ei.size)).take (n * ei.size)).drop (k * ei.size)).take ei.size = (blk.toList.drop ((p i).2 + k * ei.size)).take ei.size := by
      refine List.ext_getElem? fun m => ?_
      by_cases hm : m < ei.size
      ·rw [List.getElem?_take, if_pos hm, List.getElem?_drop, List.getElem?_take, if_pos (by omega), List.getElem?_drop, List.getElem?_take, if_pos hm, List.getElem?_drop]
       congr 1
       omega
      ·rw [List.getElem?_take, if_neg hm, List.getElem?_take, if_neg hm]
     rw [e1, e2]
     exact (q3.row (show k < en.rows.length by omega)).1
    ·rw [hdl, hsz', Nat.add_mul]; omega
    ·rw [hdl, Nat.add_mul] at hm
     rw [List.toList_toArray]
     have hol : ((blk.toList.drop ((p i).2 + 0 * ei.size)).take (n * ei.size)).length = n * ei.size := by rw [List.length_take, List.length_drop, Array.length_toList]; omega
     by_cases h1 : m < n * ei.size
     ·rw [List.append_assoc, List.getElem?_append_left (by omega), List.getElem?_take, if_pos (by omega), List.getElem?_append_left (by omega), List.getElem?_take, if_pos h1, List.getElem?_drop]
     ·rw [List.append_assoc, List.getElem?_append_right (by omega), hlO, List.getElem?_append_left (by omega), List.getElem?_append_right (by omega), hol]
      congr 1
      omega
   have R2 := R1
   rw [Nat.zero_mul, Nat.add_zero] at R2
   have hne2 : en.rows ++ l ≠ [] := fun h => hne (List.append_eq_nil_iff.1 h).1
   have T : Turn Im p s.H w.heap i en ⟨g, ei.size, en.rows ++ l⟩ (p i) (w.setRow (p i).1 (blk.toList.take O ++ news ++ blk.toList.drop (O + news.length)).toArray).heap :=
    ⟨.inl hie, .inr (.inr ⟨hg, rfl, hesz.symm, fun _ => ⟨hne2, blk, t', _, k1, hblk', hsz'⟩⟩), fun b hb hbo => hbo.elim (fun h => absurd h hne) fun h => setRow_other w _ _ _ h, by simp, fun _ => .inl ⟨hne, rfl⟩, fun _ => ⟨_, t', hblk', R2⟩⟩
   refine ⟨_, w.setRow (p i).1 (blk.toList.take O ++ news ++ blk.toList.drop (O + news.length)).toArray, p.put i (p i), _, _, exe hrun, T.grows hR.hp, T.relH hR.hp, T.relE hR.hp hR.en rfl rfl rfl, ?_, .inl ⟨rfl, rfl, fun h => absurd h hne⟩⟩
   refine .own i g 0 _ _ cap _ (Hp.put_same _ _ _) (Nat.le_refl _) hroom fun _ h => ?_
   rw [Pl.put_same]
   refine ⟨by simp, hne2, _, t', hblk', ?_⟩
   dsimp only
   rw [hsz', Nat.zero_add]
   omega
 ·have hcl : cap < n + l.length := by omega
  have holds : ∃ olds : List Value, (Builtin.firstCells ei.size n (.slice ao n cap)).run P w.drew = .ok olds.toArray w.drew ∧ olds.length = n * ei.size ∧ ∀ k, k < n → RelL Im p s.H w.heap (en.rows.getD k []) ((olds.drop (k * ei.size)).take ei.size) := by
   rcases Nat.eq_zero_or_pos n with h | hnp
   ·rw [h]
    exact ⟨[], nilc ao cap, by simp, fun k hk => absurd hk (Nat.not_lt_zero _)⟩
   ·obtain ⟨rfl, hne, blk, t', k1, k2⟩ := hl0 (by clear hl0; omega)
    clear hl0
    obtain ⟨blk', t2, q1, q2, q3⟩ := hR.hp.cell i en hie hne
    rw [k1] at q1
    injection q1 with q1
    injection q1 with e1 e2 _
    subst e1 e2
    rw [hesz] at q3
    rw [Nat.add_mul] at k2
    have hmul : n * ei.size ≤ cap * ei.size := Nat.mul_le_mul_right _ hcap
    have hol : ((blk.toList.drop ((p i).2 + 0 * ei.size)).take (n * ei.size)).length = n * ei.size := by rw [List.length_take, List.length_drop, Array.length_toList]; omega
    refine ⟨_, run_firstCells_some (P := P) w.drew ei.size n _ n cap ((blk.toList.drop ((p i).2 + 0 * ei.size)).take (n * ei.size)) hol (fun j v hv => ?_), hol, fun k hk => ?_⟩
    ·have hj : j < n * ei.size := by rw [← hol]; exact (List.getElem?_eq_some_iff.1 hv).1
     rw [List.getElem?_take, if_pos hj, List.getElem?_drop] at hv
     rw [World.cell?_drew, Addr.add_mid, hc_cell]
     unfold hc
     rw [k1]
     simpa using hv
    ·have hle : (k + 1) * ei.size ≤ n * ei.size := Nat.mul_le_mul_right _ hk
     rw [Nat.add_mul, Nat.one_mul] at hle
     have e1 : en.rows.getD k [] = en.rows.getD k [] := rfl
     have e2 : (((blk.toList.drop ((p i).2 + 0 * ei.size)).take (n * ei.size)).drop (k * ei.size)).take ei.size = (blk.toList.drop ((p i).2 + k * ei.size)).take ei.size := by
      refine List.ext_getElem? fun m => ?_
      by_cases hm : m < ei.size
      ·rw [List.getElem?_take, if_pos hm, List.getElem?_drop, List.getElem?_take, if_pos (by omega), List.getElem?_drop, List.getElem?_take, if_pos hm, List.getElem?_drop]
       congr 1
       omega
      ·rw [List.getElem?_take, if_neg hm, List.getElem?_take, if_neg hm]
     rw [e1, e2]
     exact (q3.row (show k < en.rows.length by omega)).1
  clear hl0
  obtain ⟨olds, f1, f2, f3⟩ := holds
  have hrlen : ∀ r ∈ en.rows, r.length = ei.size := fun r hr => by
   have hne : en.rows ≠ [] := fun h => by rw [h] at hr; cases hr
   obtain ⟨_, _, _, _, q3⟩ := hR.hp.cell i en hie hne
   rw [q3.len r hr, hesz]
  have hrun := run_append_grow_src (P := P) w t tx d.type e ei zv hu hei hz ao n cap olds f1 (a.eval y) l.length news S hcl (by omega) (growslice_fits hcl (by simpa using c2))
  rw [← ex] at hrun
  have hge := grownCap_ge w (n + l.length) cap e
  generalize grownCap w (n + l.length) cap e = cap' at hrun hge
  have hzsz : ((olds ++ news).toArray ++ Builtin.zeroCells zv.cells (cap' - (n + l.length))).size = cap' * ei.size := by
   rw [Array.size_append, size_zeroCells, hzs, List.size_toArray, List.length_append, f2, hnl, ← Nat.add_mul, ← Nat.add_mul]
   congr 1
   omega
  have hmul : (n + l.length) * ei.size ≤ cap' * ei.size := Nat.mul_le_mul_right _ hge
  have R1 : RowsAt Im p s.H w.heap ((olds ++ news).toArray ++ Builtin.zeroCells zv.cells (cap' - (n + l.length))) 0 ei.size (en.rows ++ l) := by
   refine RowsAt.two (olds := olds) (news := news) hrlen c1 (by rw [hdl, f2]) hnl (fun k hk => f3 k (by rw [hdl] at hk; exact hk)) RN (by rw [hdl, hzsz, Nat.zero_add]; exact hmul) (fun m hm => ?_)
   rw [hdl] at hm
   rw [Array.toList_append, Nat.zero_add, List.getElem?_append_left (by rw [List.toList_toArray, List.length_append, f2, hnl, ← Nat.add_mul]; exact hm)]
  have T : Turn Im p s.H w.heap nm ⟨0, 0, []⟩ ⟨0, ei.size, en.rows ++ l⟩ (w.heap.size, 0) (w.heap.push (.cells ((olds ++ news).toArray ++ Builtin.zeroCells zv.cells (cap' - (n + l.length))) e)) := Turn.fresh hnm R1
  refine ⟨_, _, p.put nm (w.heap.size, 0), _, _, exe hrun, T.grows hR.hp, T.relH hR.hp, T.relE hR.hp hR.en (w' := w.drew.alloc _) rfl rfl rfl, ?_, .inr ⟨rfl, rfl⟩⟩
  refine .own nm 0 0 _ _ cap' _ (Hp.put_same _ _ _) (Nat.le_refl _) hge fun _ h => ?_
  rw [Pl.put_same]
  refine ⟨by simp, fun h => ?_, _, e, push_at _ _, ?_⟩
  ·have h5 := congrArg List.length h
   rw [List.length_append, hdl] at h5
   simp at h5
   rw [h5.1, h5.2] at hcl
   simp at hcl
  ·dsimp only
   rw [hzsz]
   simp
theorem pre_of {Im : Nat → Prop} {p : Pl} {H : Hp} {h : Array Obj} {d : D} {u : Value} (r : Rel Im p H h d u) {ys : List Nm} {l : List (List D)} (hl : rowsOf H d = some (ys, l)) : ∃ a cap, u = .slice a l.length cap ∧ ∀ m, m ≤ l.length → 0 < m → ∃ d', Rel Im p H h d' (.slice a m cap) ∧ rowsOf H d' = some (ys, l.take m) := by
 unfold rowsOf at hl
 split at hl
 ·rename_i l'
  cases hl
  obtain ⟨ao, cap, ex, hcap, hne⟩ := relP_sl (rel_sl r)
  refine ⟨ao, cap, ex, fun m hm hm0 => ⟨.sl (l.take m), ?_, rfl⟩⟩
  have hnl : l ≠ [] := by intro h; subst h; simp at hm; omega
  obtain ⟨b, off, sz, v, rfl, him, hsz, hcell, hrel⟩ := hne hnl
  refine .p (.sl1 _ b off m cap sz v (by rw [List.length_take]; omega) (by omega) (fun r hr => hsz r (List.mem_of_mem_take hr)) him (fun i j hi hj => hcell i j (by omega) hj) (fun i j hi hj => ?_))
  have h1 : i < l.length := by rw [List.length_take] at hi; omega
  have e : (l.take m)[i] = l[i] := List.getElem_take
  have hj' : j < l[i].length := by rw [← e]; exact hj
  have k := hrel i j h1 hj'
  have : (l.take m)[i][j] = l[i][j] := by congr 1
  rw [this]
  exact k
 ·cases hl
  obtain ⟨a, e⟩ := rel_mt r
  exact ⟨a, 0, e, fun m hm hm0 => absurd hm0 (by simp at hm; omega)⟩
 ·rename_i i g off n
  split at hl
  ·rename_i e he
   split at hl
   ·rename_i hg
    cases hl
    cases r with
    | p r => cases r
    | own _ _ _ _ a cap e' hH hg' hn hl' =>
     have hlen : ((e.rows.drop off).take n).length = n := by rw [List.length_take, List.length_drop]; omega
     refine ⟨a, cap, by rw [hlen], fun m hm hm0 => ⟨.own i g off m, .own i g off m a cap e' hH hg' (by omega) hl', ?_⟩⟩
     rw [hlen] at hm
     unfold rowsOf
     simp only [he]
     rw [if_pos ⟨hg.1, by omega⟩, List.take_take, Nat.min_eq_left hm]
   ·cases hl
  ·cases hl
 ·cases hl
theorem snd_isn {ng : Bool} {t t' e : TypeId} {x : Operand} {x' : Opd} (hx : OpdOk x x') (hu : P.underlying t = some (.slice e)) : SoundK P (.binOp (if ng = true then .neq else .eql) t x (.const (.slice Option.none 0 0)) t') (.isn ng x') := fun E Im p s a w nm o d ho hR he hcd => by
 have r := hx _ _ _ _ _ _ hR
 have fin : ∀ (b : Addr) (n c : Nat), a.eval x = .slice (some b) n c → (execOp a.eval d).run P w = .ok (.value (.bool ng)) w := fun b n c ex => by
  have h : ∀ d : Nat, (Op.equalIn (d + 1) t (.slice (some b) n c) (.slice Option.none 0 0)).run P w = .ok false w := fun d => by
   simp [Op.equalIn, run_underlying hu]
  have e0 : a.eval (.const (.slice Option.none 0 0)) = .slice Option.none 0 0 := rfl
  unfold execOp
  cases ng
  ·simp [ho, ex, e0, eqGuard, binOp, Op.equal, Op.maxDepth, h 9999]
  ·simp [ho, ex, e0, eqGuard, binOp, Op.equal, Op.maxDepth, h 9999]
 simp only [eff] at he
 split at he
 ·rename_i l hs
  rw [hs] at r
  cases he
  dsimp only at hcd
  obtain ⟨ao, cap, ex, hcap, hne⟩ := relP_sl (rel_sl r)
  obtain ⟨b, off, sz, v, rfl, _⟩ := hne (by intro h; subst h; simp at hcd)
  exact sound_pure hR (fin _ _ _ ex) rfl (.p (.v _))
 ·rename_i i g off n hs
  rw [hs] at r
  split at he
  ·rename_i en hie
   split at he
   ·rename_i hg
    cases he
    dsimp only at hcd
    obtain ⟨ao, cap, ex, hcap, hl0⟩ := rel_own r hie hg
    obtain ⟨rfl, _⟩ := hl0 (by omega)
    exact sound_pure hR (fin _ _ _ ex) rfl (.p (.v _))
   ·cases he
  ·cases he
 ·cases he
theorem snd_cpy {t tx e e' : TypeId} {x y : Operand} {x' y' : Opd} (hx : OpdOk x x') (hy : OpdOk y y') (hu : P.underlying t = some (.slice e)) (hk : P.underlying tx = some (.slice e')) {sz : Nat} (h1 : (P.info? e).map (·.size) = some sz) :
  SoundK P (.call { callee := .builtin .copy, args := #[x, y], argTypes := #[t, tx] }) (.cpy sz x' y') := fun E Im p s a w nm o d ho hR he hcd => by
 have r := hx _ _ _ _ _ _ hR
 have r' := hy _ _ _ _ _ _ hR
 have exe : ∀ {v : Value} {w' : World}, (Builtin.copy_ #[t, tx] d.type #[a.eval x, a.eval y]).run P w = .ok v w' → (execOp a.eval d).run P w = .ok (.value v) w' := fun h => by
  unfold execOp
  simp [ho, resolve, invoke, builtin, h]
 simp only [eff] at he
 split at he
 ·rename_i i g off n ys l hs hl
  rw [hs] at r
  split at he
  ·rename_i en hie
   split at he
   ·rename_i hg
    cases he
    dsimp only at hcd ⊢
    obtain ⟨hg, hesz⟩ := hg
    obtain ⟨c1, c2⟩ := hcd
    by_cases hm0 : min l.length n = 0
    ·obtain ⟨ao, cap, ex, _, _⟩ := rel_own r hie hg
     obtain ⟨sa, scap, ey, _⟩ := pre_of r' hl
     have e2 : s.H.puto (some (i, (⟨en.g, en.sz, en.rows.take off ++ l.take (min l.length n) ++ en.rows.drop (off + min l.length n)⟩ : En))) = s.H := by
      rw [hm0, List.take_zero, List.append_nil, Nat.add_zero, List.take_append_drop]
      funext j
      show Hp.put s.H i en j = s.H j
      unfold Hp.put
      split
      ·rename_i hj; rw [hj, hie]
      ·rfl
     rw [e2]
     refine ⟨_, .int .i64 ((min l.length n : Nat) : Int), w, p, exe ?_, .inl rfl, Grows.refl _ _ _ _, hR.hp, hR.en, .p (.v _)⟩
     rw [ex, ey]
     cases hq : P.info? e with
     | none => simp [hq] at h1
     | some ti =>
      have hmin : Nat.min l.length n = 0 := hm0
      simp [Builtin.copy_, run_underlying hu, Builtin.lenOf, sizeOf, typeInfo, hq, hmin, hm0, goInt]
      cases sa <;> cases ao <;> simp [Builtin.firstCells, loadCells, loadCellsFrom, storeCells]
    have c3 : 0 < min l.length n := by omega
    obtain ⟨ao, cap, ex, hcap, hl0⟩ := rel_own r hie hg
    obtain ⟨sa, scap, ey, hpre⟩ := pre_of r' hl
    generalize hm : min l.length n = m at *
    have hml : m ≤ l.length := by omega
    have hmn : m ≤ n := by omega
    obtain ⟨d', rd, hd'⟩ := hpre m hml c3
    obtain ⟨news, S, RN⟩ := src_of (sz := sz) (tx := tx) (e' := e') hR.hp rd hd' hk (fun r hr => c1 r (List.mem_of_mem_take hr))
    have hlt : (l.take m).length = m := by rw [List.length_take]; omega
    rw [hlt] at S RN
    have hnl : news.length = m * sz := S.newsLen
    obtain ⟨rfl, hne, blk, t', k1, k2⟩ := hl0 (by omega)
    obtain ⟨blk', t2, q1, q2, q3⟩ := hR.hp.cell i en hie hne
    rw [k1] at q1
    injection q1 with q1
    injection q1 with e1 e2 _
    subst e1 e2
    rw [hesz] at q3 k2
    have hq3 := q3.le
    have hmul : (off + m) * sz ≤ en.rows.length * sz := Nat.mul_le_mul_right _ (by omega)
    rw [Nat.add_mul] at hmul
    have hst := run_storeCells_at P (p i).1 ((p i).2 + off * sz) t' news 0 blk w k1 (by rw [hnl]; omega) S.one
    simp only [Nat.add_zero] at hst
    generalize hO : (p i).2 + off * sz = O at hst
    have hOle : O + news.length ≤ blk.size := by omega
    have hsz' : (blk.toList.take O ++ news ++ blk.toList.drop (O + news.length)).length = blk.size := by simp only [List.length_append, List.length_take, List.length_drop, Array.length_toList]; omega
    have hblk' : (w.setRow (p i).1 (blk.toList.take O ++ news ++ blk.toList.drop (O + news.length)).toArray).heap[(p i).1]? = some (.cells (blk.toList.take O ++ news ++ blk.toList.drop (O + news.length)).toArray t' (0, 0)) := setRow_heap w _ blk _ t' _ k1
    have hrl : (en.rows.take off ++ l.take m ++ en.rows.drop (off + m)).length = en.rows.length := by simp only [List.length_append, List.length_take, List.length_drop]; omega
    have T : Turn Im p s.H w.heap i en ⟨en.g, en.sz, en.rows.take off ++ l.take m ++ en.rows.drop (off + m)⟩ (p i) (w.setRow (p i).1 (blk.toList.take O ++ news ++ blk.toList.drop (O + news.length)).toArray).heap := by
     refine ⟨.inl hie, .inr (.inr ⟨rfl, rfl, rfl, fun _ => ⟨?_, blk, t', _, k1, hblk', by simpa using hsz'⟩⟩), fun b hb hbo => ?_, by simp, fun _ => .inl ⟨hne, rfl⟩, fun _ => ⟨_, t', hblk', RowsAt.of (fun row hrow => ?_) ?_ fun k hk => ?_⟩⟩
     ·intro h
      dsimp only at h
      rw [h] at hrl
      exact hne (List.length_eq_zero_iff.1 hrl.symm)
     ·rcases hbo with h | h
      ·exact absurd h hne
      ·exact setRow_other w _ _ _ h
     ·dsimp only at hrow ⊢
      rw [hesz]
      rcases List.mem_append.1 hrow with h | h
      ·rcases List.mem_append.1 h with h | h
       ·exact q3.len _ (List.mem_of_mem_take h)
       ·exact c1 _ (List.mem_of_mem_take h)
      ·exact q3.len _ (List.mem_of_mem_drop h)
     ·dsimp only
      rw [hrl, hesz]
      simp only [List.size_toArray, hsz']
      omega
     ·dsimp only at hk ⊢
      rw [hrl] at hk
      rw [hesz]
      have hkm : (k + 1) * sz ≤ en.rows.length * sz := Nat.mul_le_mul_right _ hk
      rw [Nat.add_mul, Nat.one_mul] at hkm
      have hl1 : (blk.toList.take O).length = O := by rw [List.length_take, Array.length_toList]; omega
      have hl2 : (en.rows.take off).length = off := by rw [List.length_take]; omega
      obtain ⟨q1, q2', q3'⟩ := q3.row hk
      by_cases h1 : k < off
      ·have hko : (k + 1) * sz ≤ off * sz := Nat.mul_le_mul_right _ h1
       rw [Nat.add_mul, Nat.one_mul] at hko
       have e1 : (en.rows.take off ++ l.take m ++ en.rows.drop (off + m)).getD k [] = en.rows.getD k [] := by
        rw [List.getD_eq_getElem?_getD, List.append_assoc, List.getElem?_append_left (by omega), List.getElem?_take, if_pos h1, ← List.getD_eq_getElem?_getD]
       have e2 : ((blk.toList.take O ++ news ++ blk.toList.drop (O + news.length)).drop ((p i).2 + k * sz)).take sz = (blk.toList.drop ((p i).2 + k * sz)).take sz := by
        refine List.ext_getElem? fun j => ?_
        by_cases hj : j < sz
        ·rw [List.getElem?_take, if_pos hj, List.getElem?_drop, List.append_assoc, List.getElem?_append_left (by omega), List.getElem?_take, if_pos (by omega), List.getElem?_take, if_pos hj, List.getElem?_drop]
        ·rw [List.getElem?_take, if_neg hj, List.getElem?_take, if_neg hj]
       rw [e1, e2]
       exact q1
      ·by_cases h2 : k < off + m
       ·have hkd : k * sz = off * sz + (k - off) * sz := by rw [← Nat.add_mul]; congr 1; omega
        have hdm : (k - off + 1) * sz ≤ m * sz := Nat.mul_le_mul_right _ (by omega)
        rw [Nat.add_mul, Nat.one_mul] at hdm
        have e1 : (en.rows.take off ++ l.take m ++ en.rows.drop (off + m)).getD k [] = (l.take m).getD (k - off) [] := by
         rw [List.getD_eq_getElem?_getD, List.append_assoc, List.getElem?_append_right (by omega), hl2, List.getElem?_append_left (by omega), ← List.getD_eq_getElem?_getD]
        have e2 : ((blk.toList.take O ++ news ++ blk.toList.drop (O + news.length)).drop ((p i).2 + k * sz)).take sz = (news.drop ((k - off) * sz)).take sz := by
         refine List.ext_getElem? fun j => ?_
         by_cases hj : j < sz
         ·rw [List.getElem?_take, if_pos hj, List.getElem?_drop, List.append_assoc, List.getElem?_append_right (by omega), hl1, List.getElem?_append_left (by omega), List.getElem?_take, if_pos hj, List.getElem?_drop]
          congr 1
          omega
         ·rw [List.getElem?_take, if_neg hj, List.getElem?_take, if_neg hj]
        rw [e1, e2]
        exact RN (k - off) (by omega)
       ·have hkg : (off + m) * sz ≤ k * sz := Nat.mul_le_mul_right _ (by omega)
        rw [Nat.add_mul] at hkg
        have e1 : (en.rows.take off ++ l.take m ++ en.rows.drop (off + m)).getD k [] = en.rows.getD k [] := by
         rw [List.getD_eq_getElem?_getD, List.append_assoc, List.getElem?_append_right (by omega), hl2, List.getElem?_append_right (by omega), hlt, List.getElem?_drop, List.getD_eq_getElem?_getD]
         congr 2
         omega
        have e2 : ((blk.toList.take O ++ news ++ blk.toList.drop (O + news.length)).drop ((p i).2 + k * sz)).take sz = (blk.toList.drop ((p i).2 + k * sz)).take sz := by
         refine List.ext_getElem? fun j => ?_
         by_cases hj : j < sz
         ·rw [List.getElem?_take, if_pos hj, List.getElem?_drop, List.append_assoc, List.getElem?_append_right (by omega), hl1, List.getElem?_append_right (by omega), List.getElem?_drop, List.getElem?_take, if_pos hj, List.getElem?_drop]
          congr 1
          omega
         ·rw [List.getElem?_take, if_neg hj, List.getElem?_take, if_neg hj]
        rw [e1, e2]
        exact q1
    have ep : p.put i (p i) = p := by funext j; unfold Pl.put; split <;> simp_all
    refine ⟨_, _, w.setRow (p i).1 (blk.toList.take O ++ news ++ blk.toList.drop (O + news.length)).toArray, p, exe (v := .int .i64 (m : Int)) ?_, .inl rfl, ?_, ?_, ?_, .p (.v _)⟩
    ·have hc := S.cells
     rw [ex, ey, hesz, hO]
     cases hq : P.info? e with
     | none => simp [hq] at h1
     | some ti =>
      have hi : ti.size = sz := by simpa [hq] using h1
      have hmin : Nat.min l.length n = m := hm
      have hfc : Builtin.firstCells sz m (.slice sa l.length scap) = Builtin.firstCells sz m (.slice sa m scap) := by cases sa <;> rfl
      simp only [List.append_assoc] at hst ⊢
      simp [Builtin.copy_, run_underlying hu, Builtin.lenOf, sizeOf, typeInfo, hq, hi, hmin, goInt]
      rw [hfc, hc]
      simp [hst]
    ·have := T.grows hR.hp
     rwa [ep] at this
    ·have := T.relH hR.hp
     rwa [ep] at this
    ·have := T.relE hR.hp hR.en (w' := w.setRow (p i).1 (blk.toList.take O ++ news ++ blk.toList.drop (O + news.length)).toArray) rfl rfl rfl
     rwa [ep] at this
   ·cases he
  ·cases he
 ·cases he
end
theorem Grows.trans {Im Im' Im2 : Nat → Prop} {p p' p2 : Pl} {H H' H2 : Hp} {h h' h2 : Array Obj} (A : Grows Im p H h Im' p' H' h') (B : Grows Im' p' H' h' Im2 p2 H2 h2) : Grows Im p H h Im2 p2 H2 h2 := by
 refine ⟨fun b hb => B.im b (A.im b hb), fun b hb => (B.blk b (A.im b hb)).trans (A.blk b hb), fun i e hi => ?_⟩
 obtain ⟨e1, k1, k2, k3⟩ := A.ids i e hi
 obtain ⟨e2, q1, q2, q3⟩ := B.ids i e1 k1
 refine ⟨e2, q1, by omega, fun hg => ?_⟩
 obtain ⟨a1, a2, a3⟩ := k3 (by omega)
 obtain ⟨b1, b2, b3⟩ := q3 (by omega)
 refine ⟨b1.trans a1, b2.trans a2, fun hn => ?_⟩
 obtain ⟨a4, a5⟩ := a3 hn
 obtain ⟨b4, b5⟩ := b3 a4
 refine ⟨b4, fun c t hc => ?_⟩
 obtain ⟨c1, a6, a7⟩ := a5 c t hc
 rw [← a1] at a6
 obtain ⟨c2, b6, b7⟩ := b5 c1 t a6
 rw [a1] at b6
 exact ⟨c2, b6, by omega⟩
def Hp.kill (H : Hp) (i : Nm) : Hp :=
 match H i with
 | some e => H.put i ⟨e.g + 1, e.sz, []⟩
 | Option.none => H
def Hp.kills (H : Hp) : List Nm → Hp
 | [] => H
 | i :: is => (H.kill i).kills is
theorem kills_spec {E : Ent} {p : Pl} {w : World} : ∀ (ks : List Nm) (Im : Nat → Prop) (H : Hp), RelH Im p H w.heap → RelE E Im p H w →
  ∃ Im', Grows Im p H w.heap Im' p (H.kills ks) w.heap ∧ RelH Im' p (H.kills ks) w.heap ∧ RelE E Im' p (H.kills ks) w ∧ ∀ i ∈ ks, ∀ e, H i = some e → e.rows ≠ [] → Im' (p i).1
 | [], Im, H, R, X => ⟨Im, Grows.refl _ _ _ _, R, X, fun i hi => by cases hi⟩
 | i :: is, Im, H, R, X => by
  cases hi : H i with
  | none =>
   obtain ⟨Im', k1, k2, k3, k4⟩ := kills_spec is Im H R X
   have e : H.kills (i :: is) = H.kills is := by simp only [Hp.kills, Hp.kill, hi]
   rw [e]
   refine ⟨Im', k1, k2, k3, fun j hj ej hej hn => ?_⟩
   cases hj with
   | head => rw [hi] at hej; cases hej
   | tail _ hj => exact k4 j hj ej hej hn
  | some e =>
   obtain ⟨Im1, g1, r1, b1⟩ := R.kill hi
   have x1 := X.kill hi b1
   have he : H.kills (i :: is) = (H.put i ⟨e.g + 1, e.sz, []⟩).kills is := by simp only [Hp.kills, Hp.kill, hi]
   rw [he]
   obtain ⟨Im', k1, k2, k3, k4⟩ := kills_spec is Im1 _ r1 x1
   refine ⟨Im', g1.trans k1, k2, k3, fun j hj ej hej hn => ?_⟩
   by_cases hji : j = i
   ·subst hji
    rw [hi] at hej
    cases hej
    exact k1.im _ ((b1 _).2 (.inr ⟨hn, rfl⟩))
   ·cases hj with
    | head => exact absurd rfl hji
    | tail _ hj => exact k4 j hj ej (by rw [Hp.put_other _ hji]; exact hej) hn
theorem rows_plain' {Im Im' : Nat → Prop} {p : Pl} {H : Hp} {h : Array Obj} (R : RelH Im p H h) {i : Nm} {e : En} (hi : H i = some e) (h1 : ∀ b, Im b → Im' b) (h2 : e.rows ≠ [] → Im' (p i).1)
  {g off n : Nat} (hp : ∀ r ∈ e.rows, ∀ d ∈ r, d.plain = true) (hg : e.g = g) (hn : off + n ≤ e.rows.length) {x : Value} (r : Rel Im p H h (.own i g off n) x) : RelP Im' h (.sl ((e.rows.drop off).take n)) x := by
 have k := rows_plain (Im' := fun b => Im b ∨ (e.rows ≠ [] ∧ b = (p i).1)) R hi (fun b => Iff.rfl) hp hg.symm hn r
 exact k.mono (fun b hb => hb.elim (h1 b) fun ⟨q1, q2⟩ => q2 ▸ h2 q1) (fun _ _ => rfl)
def lend1 (H : Hp) : D → D
 | .own i g off n =>
  match H i with
  | some e => if e.g = g then .sl ((e.rows.drop off).take n) else .any
  | Option.none => .any
 | .mt => .sl []
 | d => d
def lend (H : Hp) : D → D
 | .agg cs => .agg (cs.map (lend1 H))
 | d => lend1 H d
def lendNm1 (H : Hp) : D → List Nm
 | .own i g off n =>
  match H i with
  | some e => if e.g = g then [i] else []
  | Option.none => []
 | _ => []
def lendNm (H : Hp) : D → List Nm
 | .agg cs => cs.flatMap (lendNm1 H)
 | d => lendNm1 H d
def lendOk1 (H : Hp) : D → Prop
 | .own i g off n =>
  match H i with
  | some e => (∀ r ∈ e.rows, ∀ d ∈ r, d.plain = true) ∧ off + n ≤ e.rows.length
  | Option.none => True
 | _ => True
def lendOkL (H : Hp) : List D → Prop
 | [] => True
 | d :: ds => lendOk1 H d ∧ lendOkL H ds
def lendOk (H : Hp) : D → Prop
 | .agg cs => lendOkL H cs
 | d => lendOk1 H d
def lendOkL' (H : Hp) : List D → Prop
 | [] => True
 | d :: ds => lendOk H d ∧ lendOkL' H ds
theorem lendOkL'_mem {H : Hp} : ∀ {ds : List D}, lendOkL' H ds → ∀ d ∈ ds, lendOk H d
 | _ :: _, h, _, .head _ => h.1
 | _ :: _, h, d, .tail _ hd => lendOkL'_mem h.2 d hd
theorem lendOkL_mem {H : Hp} : ∀ {ds : List D}, lendOkL H ds → ∀ d ∈ ds, lendOk1 H d
 | _ :: _, h, _, .head _ => h.1
 | _ :: _, h, d, .tail _ hd => lendOkL_mem h.2 d hd
theorem lend1_rel {Im Im' : Nat → Prop} {p : Pl} {H H' : Hp} {h : Array Obj} (R : RelH Im p H h) (G : Grows Im p H h Im' p H' h) {d : D} {u : Value} (r : Rel Im p H h d u) (ok : lendOk1 H d) (hk : ∀ i ∈ lendNm1 H d, ∀ e, H i = some e → e.rows ≠ [] → Im' (p i).1) : Rel Im' p H' h (lend1 H d) u := by
 cases d with
 | own i g off n =>
  simp only [lend1, lendNm1, lendOk1] at *
  cases hi : H i with
  | none =>
   cases r with
   | p r => cases r
   | own _ _ _ _ a cap e hH => rw [hi] at hH; cases hH
  | some e =>
   rw [hi] at ok hk
   dsimp only at ok hk ⊢
   split
   ·rename_i hg
    rw [if_pos hg] at hk
    exact .p (rows_plain' R hi G.im (fun hn => hk i (List.mem_cons_self ..) e hi hn) ok.1 hg ok.2 r)
   ·exact .p (.any _)
 | mt =>
  obtain ⟨a, rfl⟩ := rel_mt r
  exact .p (.sl0 a 0)
 | _ => exact r.mono G
theorem lend_rel {Im Im' : Nat → Prop} {p : Pl} {H H' : Hp} {h : Array Obj} (R : RelH Im p H h) (G : Grows Im p H h Im' p H' h) {d : D} {u : Value} (r : Rel Im p H h d u) (ok : lendOk H d) (hk : ∀ i ∈ lendNm H d, ∀ e, H i = some e → e.rows ≠ [] → Im' (p i).1) : Rel Im' p H' h (lend H d) u := by
 cases d with
 | agg cs =>
  obtain ⟨us, rfl, RL⟩ := RelL.of_agg r
  have : RelL Im' p H' h (cs.map (lend1 H)) us.toList := by
   refine ⟨by rw [List.length_map, RL.len], fun j d u hd hu => ?_⟩
   rw [List.getElem?_map] at hd
   cases hc : cs[j]? with
   | none => rw [hc] at hd; cases hd
   | some c =>
    rw [hc] at hd
    cases hd
    obtain ⟨k1, k2⟩ := RL.cell j c u hc hu
    have hm := List.mem_of_getElem? hc
    exact ⟨lend1_rel R G k1 (lendOkL_mem ok c hm) (fun i hi => hk i (List.mem_flatMap.2 ⟨c, hm, hi⟩)), k2⟩
  have k := this.rel
  simp only [Array.toArray_toList] at k
  exact k
 | own => exact lend1_rel R G r ok hk
 | mt => exact lend1_rel R G r ok hk
 | v => exact lend1_rel R G r ok hk
 | any => exact lend1_rel R G r ok hk
 | tup => exact lend1_rel R G r ok hk
 | sl => exact lend1_rel R G r ok hk
 | ip => exact lend1_rel R G r ok hk
 | ptr => exact lend1_rel R G r ok hk
 | clo => exact lend1_rel R G r ok hk
def nmIn (i : Nm) : List Nm → Bool
 | [] => false
 | j :: js => if i = j then true else nmIn i js
theorem nmIn_iff {i : Nm} : ∀ {js : List Nm}, nmIn i js = true ↔ i ∈ js
 | [] => by simp [nmIn]
 | j :: js => by
  unfold nmIn
  split
  ·rename_i h; simp [h]
  ·rename_i h; rw [nmIn_iff]; simp [h]
mutual
def D.refsIn (js : List Nm) : D → Bool
 | .own i _ _ _ => nmIn i js
 | .ptr i _ _ _ => nmIn i js
 | .agg cs => refsInL js cs
 | .tup cs => refsInL js cs
 | .clo _ fs cs => refsInL js fs && refsInL js cs
 | .v _ => true
 | .any => true
 | .sl _ => true
 | .mt => true
 | .ip _ => true
def refsInL (js : List Nm) : List D → Bool
 | [] => true
 | d :: ds => d.refsIn js && refsInL js ds
end
theorem refsInL_get {js : List Nm} : ∀ {ds : List D}, refsInL js ds = true → ∀ (j : Nat) (d : D), ds[j]? = some d → d.refsIn js = true
 | [], _, j, d, hd => by cases hd
 | d0 :: ds, h, 0, d, hd => by cases hd; rw [refsInL, Bool.and_eq_true] at h; exact h.1
 | d0 :: ds, h, j + 1, d, hd => by rw [refsInL, Bool.and_eq_true] at h; exact refsInL_get h.2 j d (by simpa using hd)
def Hp.restr (H : Hp) : List Nm → Hp
 | [] => Hp.none
 | i :: is =>
  match H i with
  | some e => (H.restr is).put i e
  | Option.none => H.restr is
theorem restr_in {H : Hp} : ∀ {js : List Nm} {i : Nm}, i ∈ js → H.restr js i = H i
 | j :: js, i, h => by
  unfold Hp.restr
  by_cases hij : i = j
  ·subst hij
   cases hi : H i with
   | some e => exact Hp.put_same _ _ _
   | none =>
    dsimp only
    by_cases hm : i ∈ js
    ·rw [restr_in hm, hi]
    ·have : ∀ {ks : List Nm}, i ∉ ks → H.restr ks i = Option.none := fun {ks} hk => by
      induction ks with
      | nil => rfl
      | cons k ks ih =>
       unfold Hp.restr
       have h1 : i ≠ k := fun h => hk (by simp [h])
       have h2 : i ∉ ks := fun h => hk (by simp [h])
       cases H k with
       | some e => dsimp only; rw [Hp.put_other _ h1]; exact ih h2
       | none => exact ih h2
     exact this hm
  ·have hm : i ∈ js := by cases h with
    | head => exact absurd rfl hij
    | tail _ h => exact h
   cases H j with
   | some e => dsimp only; rw [Hp.put_other _ hij]; exact restr_in hm
   | none => exact restr_in hm
theorem restr_out {H : Hp} {i : Nm} : ∀ {js : List Nm}, i ∉ js → H.restr js i = Option.none
 | [], _ => rfl
 | k :: ks, hk => by
  unfold Hp.restr
  have h1 : i ≠ k := fun h => hk (by simp [h])
  have h2 : i ∉ ks := fun h => hk (by simp [h])
  cases H k with
  | some e => dsimp only; rw [Hp.put_other _ h1]; exact restr_out h2
  | none => exact restr_out h2
theorem restr_some {H : Hp} {js : List Nm} {i : Nm} {e : En} (h : H.restr js i = some e) : i ∈ js ∧ H i = some e := by
 by_cases hm : i ∈ js
 ·exact ⟨hm, by rw [← restr_in (H := H) hm]; exact h⟩
 ·rw [restr_out hm] at h; cases h
theorem Rel.restr {Im : Nat → Prop} {p : Pl} {H : Hp} {h : Array Obj} {js : List Nm} {d : D} {u : Value} (r : Rel Im p H h d u) : d.refsIn js = true → Rel Im p (H.restr js) h d u := by
 induction r with
 | p r => exact fun _ => .p r
 | agg cs us hl h1 hr ih => exact fun hd => .agg cs us hl h1 fun j d u h1 h2 => ih j d u h1 h2 (refsInL_get (by rw [← hd, D.refsIn]) j d h1)
 | tup cs us hl hr ih => exact fun hd => .tup cs us hl fun j d u h1 h2 => ih j d u h1 h2 (refsInL_get (by rw [← hd, D.refsIn]) j d h1)
 | ip f b o u him hcell hr => exact fun _ => .ip f b o u him hcell hr
 | own i g off n a cap e hH hg hn hl => exact fun hd => .own i g off n a cap e (by rw [restr_in (nmIn_iff.1 (by rw [← hd, D.refsIn]))]; exact hH) hg hn hl
 | ptr i g r c x h1 e hH hg hx => exact fun hd => .ptr i g r c x h1 e (by rw [restr_in (nmIn_iff.1 (by rw [← hd, D.refsIn]))]; exact hH) hg hx
 | clo f fs cs us vs hl hl' hr hr' ih ih' =>
  intro hd
  rw [D.refsIn, Bool.and_eq_true] at hd
  exact .clo f fs cs us vs hl hl' (fun j d u h1 h2 => ih j d u h1 h2 (refsInL_get hd.1 j d h1)) (fun j d u h1 h2 => ih' j d u h1 h2 (refsInL_get hd.2 j d h1))
def ClosedH (H : Hp) (js : List Nm) : List Nm → Prop
 | [] => True
 | i :: is => (match H i with
  | some e => ∀ r ∈ e.rows, refsInL js r = true
  | Option.none => True) ∧ ClosedH H js is
theorem closedH_mem {H : Hp} {js : List Nm} : ∀ {is : List Nm}, ClosedH H js is → ∀ i ∈ is, ∀ e, H i = some e → ∀ r ∈ e.rows, refsInL js r = true
 | i :: is, h, _, .head _, e, he => by
  have := h.1
  rw [he] at this
  exact this
 | _ :: _, h, i, .tail _ hi, e, he => closedH_mem h.2 i hi e he
theorem RelH.restr {Im : Nat → Prop} {p : Pl} {H : Hp} {h : Array Obj} (R : RelH Im p H h) {js : List Nm} (hc : ClosedH H js js) : RelH Im p (H.restr js) h := by
 refine ⟨fun i e hi hn => ?_, fun i j e e' hi hj hn hn' hij => ?_, R.im⟩
 ·obtain ⟨h1, h2⟩ := restr_some hi
  obtain ⟨c, t, k1, k2, k3⟩ := R.cell i e h2 hn
  refine ⟨c, t, k1, k2, k3.len, k3.le, fun r j row d hr hd => ?_⟩
  obtain ⟨u, q1, q2, q3⟩ := k3.cell r j row d hr hd
  exact ⟨u, q1, q2.restr (refsInL_get (closedH_mem hc i h1 e h2 row (List.mem_of_getElem? hr)) j d hd), q3⟩
 ·exact R.inj i j e e' (restr_some hi).2 (restr_some hj).2 hn hn' hij
def BlkOf (p : Pl) (H : Hp) (b : Nat) : Prop := ∃ i e, H i = some e ∧ e.rows ≠ [] ∧ b = (p i).1
def nms (nn : Nm) : List Nm := [nn, (nn.1, nn.2 + 5000), (nn.1, nn.2 + 6000)]
structure Left (P : Program) (Hs : Hp) (nn : Nm) (R : D → Hp → Prop) (Im : Nat → Prop) (p : Pl) (w : World) (e : Ending) (w' : World) (Im' : Nat → Prop) (p' : Pl) (v : D) (H' : Hp) (u : Value) : Prop where
 end_ : e = .returned u
 post : R v H'
 rel : Rel Im' p' H' w'.heap v u
 relH : RelH Im' p' H' w'.heap
 grows : Grows Im p Hs w.heap Im' p' H' w'.heap
 relE : ∀ n, RelE ⟨w, Im, BlkOf p Hs, n, p, Hs⟩ Im' p' H' w'
 dom : ∀ i e, H' i = some e → (Hs i).isSome = true ∨ i ∈ nms nn
def CallsA (P : Program) (f : FuncId) (args : List D) (Hs : Hp) (nn : Nm) (R : D → Hp → Prop) : Prop :=
 ∀ (w : World) (Im : Nat → Prop) (p : Pl) (us : Array Value), args.length = us.size → (∀ (j : Nat) (d : D) (u : Value), args[j]? = some d → us[j]? = some u → Rel Im p Hs w.heap d u) → RelH Im p Hs w.heap → (∀ k ∈ nms nn, Hs k = Option.none) → GlOk Im w.heap →
  Calls P f us w fun e w' => ∃ Im' p' v H' u, Left P Hs nn R Im p w e w' Im' p' v H' u
theorem CallsA.mono {P : Program} {f : FuncId} {args : List D} {Hs : Hp} {nn : Nm} {R R' : D → Hp → Prop} (h : CallsA P f args Hs nn R) (hr : ∀ v H', R v H' → R' v H') : CallsA P f args Hs nn R' := fun w Im p us h1 h2 h3 h4 h5 =>
 (h w Im p us h1 h2 h3 h4 h5).mono fun e w' ⟨Im', p', v, H', u, k⟩ => ⟨Im', p', v, H', u, ⟨k.end_, hr _ _ k.post, k.rel, k.relH, k.grows, k.relE, k.dom⟩⟩
def Hp.over (H : Hp) (H' : Hp) : List Nm → Hp
 | [] => H
 | i :: is =>
  match H' i with
  | some e => (H.over H' is).put i e
  | Option.none => H.over H' is
theorem over_some {H H' : Hp} : ∀ {js : List Nm} {i : Nm} {e : En}, i ∈ js → H' i = some e → H.over H' js i = some e
 | j :: js, i, e, hm, he => by
  unfold Hp.over
  by_cases hij : i = j
  ·subst hij
   rw [he]
   exact Hp.put_same _ _ _
  ·have hm' : i ∈ js := by cases hm with
    | head => exact absurd rfl hij
    | tail _ h => exact h
   cases H' j with
   | some e' => dsimp only; rw [Hp.put_other _ hij]; exact over_some hm' he
   | none => exact over_some hm' he
theorem over_other {H H' : Hp} : ∀ {js : List Nm} {i : Nm}, (i ∉ js ∨ H' i = Option.none) → H.over H' js i = H i
 | [], i, _ => rfl
 | j :: js, i, h => by
  unfold Hp.over
  by_cases hij : i = j
  ·subst hij
   have hn : H' i = Option.none := h.resolve_left (by simp)
   rw [hn]
   exact over_other (.inr hn)
  ·have h' : i ∉ js ∨ H' i = Option.none := h.imp (fun k hk => k (by simp [hk])) id
   cases H' j with
   | some e' => dsimp only; rw [Hp.put_other _ hij]; exact over_other h'
   | none => exact over_other h'
theorem call_sound {P : Program} {E : Ent} {Im : Nat → Prop} {p : Pl} {s : St} {a : Act} {w : World} (hR : RelS E Im p s a w) {f : FuncId} {ds : List D} {us : Array Value} (hl : ds.length = us.size) (hr : ∀ (j : Nat) (d : D) (u : Value), ds[j]? = some d → us[j]? = some u → Rel Im p s.H w.heap d u)
  (hok : ∀ d ∈ ds, lendOk s.H d) {ks js : List Nm} (hks : ks = ds.flatMap (lendNm s.H)) {nn : Nm} (hnn : ∀ k ∈ nms nn, s.H.kills ks k = Option.none) (hjs : refsInL js (ds.map (lend s.H)) = true) (hcl : ClosedH (s.H.kills ks) js js) {R : D → Hp → Prop} (hC : CallsA P f (ds.map (lend s.H)) ((s.H.kills ks).restr js) nn R) :
  Calls P f us w fun e w' => ∃ v H' u Im' p', e = .returned u ∧ R v H' ∧ Rel Im' p' ((s.H.kills ks).over H' (nms nn ++ js)) w'.heap v u ∧ Grows Im p s.H w.heap Im' p' ((s.H.kills ks).over H' (nms nn ++ js)) w'.heap ∧ RelH Im' p' ((s.H.kills ks).over H' (nms nn ++ js)) w'.heap ∧ RelE E Im' p' ((s.H.kills ks).over H' (nms nn ++ js)) w' := by
 obtain ⟨Im1, g1, r1, x1, b1⟩ := kills_spec (E := E) (w := w) ks Im s.H hR.hp hR.en
 generalize hH1 : s.H.kills ks = H1 at *
 have hr1 : ∀ (j : Nat) (d : D) (u : Value), (ds.map (lend s.H))[j]? = some d → us[j]? = some u → Rel Im1 p (H1.restr js) w.heap d u := fun j d u hd hu => by
  have hd' := hd
  rw [List.getElem?_map] at hd
  cases hc : ds[j]? with
  | none => rw [hc] at hd; cases hd
  | some c =>
   rw [hc] at hd
   cases hd
   have hm := List.mem_of_getElem? hc
   exact (lend_rel hR.hp g1 (hr j c u hc hu) (hok c hm) (fun i hi e he hn => b1 i (by rw [hks]; exact List.mem_flatMap.2 ⟨c, hm, hi⟩) e he hn)).restr (refsInL_get hjs j _ hd')
 refine (hC w Im1 p us (by rw [List.length_map]; exact hl) hr1 (r1.restr hcl) (fun k hk => by
  by_cases hm : k ∈ js
  ·rw [restr_in hm]; exact hnn k hk
  ·exact restr_out hm) (hR.gl.mono g1.im g1.blk)).mono fun e w' ⟨Im', p', v, H', u, L⟩ => ?_
 have X := L.relE 0
 have hdom : ∀ i ei, H' i = some ei → i ∈ nms nn ++ js := fun i ei hi => by
  rcases L.dom i ei hi with h | h
  ·obtain ⟨e0, he0⟩ := Option.isSome_iff_exists.1 h
   exact List.mem_append_right _ (restr_some he0).1
  ·exact List.mem_append_left _ h
 have hnew : ∀ i ei, H' i = some ei → H1.over H' (nms nn ++ js) i = some ei := fun i ei hi => over_some (hdom i ei hi) hi
 have hold : ∀ i, H' i = Option.none → H1.over H' (nms nn ++ js) i = H1 i := fun i hi => over_other (.inr hi)
 have apart : ∀ i ei, H1 i = some ei → ei.rows ≠ [] → H' i = Option.none → ¬ BlkOf p (H1.restr js) (p i).1 := fun i ei hi hn hi' ⟨j, ej, hj, hnj, hb⟩ => by
  obtain ⟨hjm, hj1⟩ := restr_some hj
  have hij : i ≠ j := fun h => by
   subst h
   obtain ⟨e', k1, _⟩ := L.grows.ids i ej hj
   rw [hi'] at k1
   cases k1
  exact r1.inj i j ei ej hi hj1 hn hnj hij hb
 have hlt : ∀ i ei, H1 i = some ei → ei.rows ≠ [] → (p i).1 < w.heap.size := fun i ei hi hn => by
  obtain ⟨c, t, k1, _⟩ := r1.cell i ei hi hn
  exact lt_of_some k1
 have same : ∀ i ei, H1 i = some ei → ei.rows ≠ [] → H' i = Option.none → w'.heap[(p i).1]? = w.heap[(p i).1]? := fun i ei hi hn hi' => X.block _ (hlt i ei hi hn) (apart i ei hi hn hi')
 have hP : ∃ p2 : Pl, (∀ i ei, H' i = some ei → p2 i = p' i) ∧ ∀ i, H' i = Option.none → p2 i = p i := ⟨fun i => match H' i with | some _ => p' i | Option.none => p i, fun i ei hi => by dsimp only; rw [hi], fun i hi => by dsimp only; rw [hi]⟩
 obtain ⟨p2, hp1, hp2⟩ := hP
 have G' : Grows Im' p' H' w'.heap Im' p2 (H1.over H' (nms nn ++ js)) w'.heap := ⟨fun _ h => h, fun _ _ => rfl, fun i ei hi => ⟨ei, hnew i ei hi, Nat.le_refl _, fun _ => ⟨hp1 i ei hi, rfl, fun hn => ⟨hn, fun c t hc => ⟨c, hc, rfl⟩⟩⟩⟩⟩
 have G1 : Grows Im1 p H1 w.heap Im' p2 (H1.over H' (nms nn ++ js)) w'.heap := by
  refine ⟨L.grows.im, L.grows.blk, fun i ei hi => ?_⟩
  cases hi' : H' i with
  | some e' =>
   have hm : i ∈ js := by
    rcases List.mem_append.1 (hdom i e' hi') with h | h
    ·rw [hnn i h] at hi; cases hi
    ·exact h
   obtain ⟨e2, k1, k2, k3⟩ := L.grows.ids i ei (by rw [restr_in hm]; exact hi)
   rw [hi'] at k1
   cases k1
   refine ⟨e', hnew i e' hi', k2, ?_⟩
   rw [hp1 i e' hi']
   exact k3
  | none =>
   refine ⟨ei, by rw [hold i hi']; exact hi, Nat.le_refl _, fun _ => ⟨hp2 i hi', rfl, fun hn => ⟨hn, fun c t hc => ⟨c, ?_, rfl⟩⟩⟩⟩
   rw [same i ei hi hn hi']
   exact hc
 refine ⟨v, H', u, Im', p2, L.end_, L.post, L.rel.mono G', g1.trans G1, ⟨fun i ei hi hn => ?_, fun i j ei ej hi hj hn hnj hij => ?_, L.relH.im⟩, ?_⟩
 ·cases hi' : H' i with
  | some e' =>
   rw [hnew i e' hi'] at hi
   cases hi
   obtain ⟨c, t, k1, k2, k3⟩ := L.relH.cell i _ hi' hn
   rw [hp1 i _ hi']
   exact ⟨c, t, k1, k2, k3.mono G'⟩
  | none =>
   rw [hold i hi'] at hi
   obtain ⟨c, t, k1, k2, k3⟩ := r1.cell i ei hi hn
   rw [hp2 i hi']
   refine ⟨c, t, by rw [same i ei hi hn hi']; exact k1, fun hb => ?_, k3.mono G1⟩
   rcases X.im' _ hb with h | h | h
   ·exact k2 h
   ·exact apart i ei hi hn hi' h
   ·have := hlt i ei hi hn
    dsimp only at h
    omega
 ·have mixed : ∀ i j ei ej, H' i = some ei → ei.rows ≠ [] → H1 j = some ej → ej.rows ≠ [] → H' j = Option.none → (p' i).1 ≠ (p j).1 := fun i j ei ej hi hn hj hnj hj' hb => by
   rcases X.ids i ei hi hn with h | h
   ·exact apart j ej hj hnj hj' (hb ▸ h)
   ·have := hlt j ej hj hnj
    dsimp only at h
    omega
  cases hi' : H' i with
  | some e' =>
   rw [hnew i e' hi'] at hi
   cases hi
   rw [hp1 i _ hi']
   cases hj' : H' j with
   | some e2 =>
    rw [hnew j e2 hj'] at hj
    cases hj
    rw [hp1 j _ hj']
    exact L.relH.inj i j _ _ hi' hj' hn hnj hij
   | none =>
    rw [hold j hj'] at hj
    rw [hp2 j hj']
    exact mixed i j _ _ hi' hn hj hnj hj'
  | none =>
   rw [hold i hi'] at hi
   rw [hp2 i hi']
   cases hj' : H' j with
   | some e2 =>
    rw [hnew j e2 hj'] at hj
    cases hj
    rw [hp1 j _ hj']
    exact (mixed j i _ _ hj' hnj hi hn hi').symm
   | none =>
    rw [hold j hj'] at hj
    rw [hp2 j hj']
    exact r1.inj i j ei ej hi hj hn hnj hij
 ·have hblk : ∀ b, BlkOf p (H1.restr js) b → E.B b ∨ E.w.heap.size ≤ b := fun b ⟨j, ej, hj, hnj, hb⟩ => by
   rw [hb]
   exact x1.ids j ej (restr_some hj).2 hnj
  refine ⟨X.os.trans x1.os, X.tape.trans x1.tape, X.output.trans x1.output, Nat.le_trans x1.size X.size, fun b hb hB => ?_, fun b hb => L.grows.im b (x1.im b hb), fun b hb => ?_, fun i ei hi hn => ?_⟩
  ·rw [X.block b (Nat.lt_of_lt_of_le hb x1.size) (fun h => (hblk b h).elim hB (fun k => by omega))]
   exact x1.block b hb hB
  ·rcases X.im' b hb with h | h | h
   ·exact x1.im' b h
   ·exact .inr (hblk b h)
   ·exact .inr (.inr (Nat.le_trans x1.size h))
  ·cases hi' : H' i with
   | some e' =>
    rw [hnew i e' hi'] at hi
    cases hi
    rw [hp1 i _ hi']
    rcases X.ids i _ hi' hn with h | h
    ·exact hblk _ h
    ·exact .inr (Nat.le_trans x1.size h)
   | none =>
    rw [hold i hi'] at hi
    rw [hp2 i hi']
    exact x1.ids i ei hi hn
mutual
def D.flat : D → Bool
 | .v _ => true
 | .agg cs => flatL cs
 | .tup cs => flatL cs
 | .any => true
 | _ => false
def flatL : List D → Bool
 | [] => true
 | d :: ds => d.flat && flatL ds
end
theorem flatL_mem : ∀ {ds : List D}, flatL ds = true → ∀ d ∈ ds, d.flat = true
 | d :: ds, h, x, hx => by
  rw [flatL, Bool.and_eq_true] at h
  cases hx with
  | head => exact h.1
  | tail _ hx => exact flatL_mem h.2 x hx
theorem flat_rel {Im Im' : Nat → Prop} {p p' : Pl} {H H' : Hp} {h h' : Array Obj} {d : D} {u : Value} (r : Rel Im p H h d u) (hf : d.flat = true) : Rel Im' p' H' h' d u := by
 induction r with
 | p r =>
  cases r with
  | v => exact .p (.v _)
  | any => exact .p (.any _)
  | mt => cases hf
  | sl0 => cases hf
  | sl1 => cases hf
 | agg cs us hl h1 hr ih => exact .agg cs us hl h1 fun j d u hd hu => ih j d u hd hu (flatL_mem hf d (List.mem_of_getElem? hd))
 | tup cs us hl hr ih => exact .tup cs us hl fun j d u hd hu => ih j d u hd hu (flatL_mem hf d (List.mem_of_getElem? hd))
 | ip => cases hf
 | own => cases hf
 | ptr => cases hf
 | clo => cases hf
theorem call_flat {P : Program} {E : Ent} {Im : Nat → Prop} {p : Pl} {s : St} {a : Act} {w : World} (hR : RelS E Im p s a w) {f : FuncId} {ds : List D} {us : Array Value} (hl : ds.length = us.size) (hr : ∀ (j : Nat) (d : D) (u : Value), ds[j]? = some d → us[j]? = some u → Rel Im p s.H w.heap d u)
  (hok : ∀ d ∈ ds, lendOk s.H d) {ks : List Nm} (hks : ks = ds.flatMap (lendNm s.H)) {nn : Nm} (hnn : ∀ k ∈ nms nn, s.H.kills ks k = Option.none) (hjs : refsInL [] (ds.map (lend s.H)) = true) (hcl : ClosedH (s.H.kills ks) [] []) {R : D → Hp → Prop} (hC : CallsA P f (ds.map (lend s.H)) ((s.H.kills ks).restr []) nn R) :
  Calls P f us w fun e w' => ∃ v H' u, e = .returned u ∧ R v H' ∧ (v.flat = true → Rel Im p s.H w'.heap v u ∧ Grows Im p s.H w.heap Im p s.H w'.heap ∧ RelH Im p s.H w'.heap ∧ RelE E Im p s.H w') := by
 obtain ⟨Im1, g1, r1, x1, b1⟩ := kills_spec (E := E) (w := w) ks Im s.H hR.hp hR.en
 generalize hH1 : s.H.kills ks = H1 at *
 have hr1 : ∀ (j : Nat) (d : D) (u : Value), (ds.map (lend s.H))[j]? = some d → us[j]? = some u → Rel Im1 p (H1.restr []) w.heap d u := fun j d u hd hu => by
  have hd' := hd
  rw [List.getElem?_map] at hd
  cases hc : ds[j]? with
  | none => rw [hc] at hd; cases hd
  | some c =>
   rw [hc] at hd
   cases hd
   have hm := List.mem_of_getElem? hc
   exact (lend_rel hR.hp g1 (hr j c u hc hu) (hok c hm) (fun i hi e he hn => b1 i (by rw [hks]; exact List.mem_flatMap.2 ⟨c, hm, hi⟩) e he hn)).restr (refsInL_get hjs j _ hd')
 refine (hC w Im1 p us (by rw [List.length_map]; exact hl) hr1 (r1.restr hcl) (fun k hk => restr_out (by simp)) (hR.gl.mono g1.im g1.blk)).mono fun e w' ⟨Im', p', v, H', u, L⟩ => ?_
 have X := L.relE 0
 have same : ∀ b, b < w.heap.size → w'.heap[b]? = w.heap[b]? := fun b hb => X.block b hb fun ⟨j, ej, hj, _, _⟩ => by cases (restr_some hj).1
 have G : Grows Im p s.H w.heap Im p s.H w'.heap := ⟨fun _ h => h, fun b hb => same b (hR.hp.im b hb), fun i e he => ⟨e, he, Nat.le_refl _, fun _ => ⟨rfl, rfl, fun hn => ⟨hn, fun c t hc => ⟨c, by rw [same _ (lt_of_some hc)]; exact hc, rfl⟩⟩⟩⟩⟩
 refine ⟨v, H', u, L.end_, L.post, fun hf => ⟨flat_rel L.rel hf, G, ⟨fun i e hi hn => ?_, hR.hp.inj, fun b hb => Nat.lt_of_lt_of_le (hR.hp.im b hb) X.size⟩,
  ⟨X.os.trans hR.en.os, X.tape.trans hR.en.tape, X.output.trans hR.en.output, Nat.le_trans hR.en.size X.size, fun b hb hB => (same b (Nat.lt_of_lt_of_le hb hR.en.size)).trans (hR.en.block b hb hB), hR.en.im, hR.en.im', hR.en.ids⟩⟩⟩
 obtain ⟨c, t, k1, k2, k3⟩ := hR.hp.cell i e hi hn
 exact ⟨c, t, by rw [same _ (lt_of_some k1)]; exact k1, k2, k3.mono G⟩
mutual
def D.oflat : D → Bool
 | .v _ => true
 | .agg cs => oflatL cs
 | .tup cs => oflatL cs
 | .any => true
 | .own _ _ _ _ => true
 | .mt => true
 | _ => false
def oflatL : List D → Bool
 | [] => true
 | d :: ds => d.oflat && oflatL ds
end
theorem oflatL_mem : ∀ {ds : List D}, oflatL ds = true → ∀ d ∈ ds, d.oflat = true
 | d :: ds, h, x, hx => by
  rw [oflatL, Bool.and_eq_true] at h
  cases hx with
  | head => exact h.1
  | tail _ hx => exact oflatL_mem h.2 x hx
def flatRs : List (List D) → Bool
 | [] => true
 | r :: rs => flatL r && flatRs rs
theorem flatRs_mem : ∀ {rs : List (List D)}, flatRs rs = true → ∀ r ∈ rs, flatL r = true
 | r :: rs, h, x, hx => by
  rw [flatRs, Bool.and_eq_true] at h
  cases hx with
  | head => exact h.1
  | tail _ hx => exact flatRs_mem h.2 x hx
def flatAt (H : Hp) (k : Nm) : Prop := match H k with
 | some e => flatRs e.rows = true
 | Option.none => True
theorem oflat_rel {Im Im' : Nat → Prop} {p p' : Pl} {H H' : Hp} {h : Array Obj} (hg : ∀ i e, H i = some e → H' i = some e ∧ p' i = p i) {d : D} {u : Value} (r : Rel Im p H h d u) (hf : d.oflat = true) : Rel Im' p' H' h d u := by
 induction r with
 | p r =>
  cases r with
  | v => exact .p (.v _)
  | any => exact .p (.any _)
  | mt a => exact .p (.mt a)
  | sl0 => cases hf
  | sl1 => cases hf
 | agg cs us hl h1 hr ih => exact .agg cs us hl h1 fun j d u hd hu => ih j d u hd hu (oflatL_mem hf d (List.mem_of_getElem? hd))
 | tup cs us hl hr ih => exact .tup cs us hl fun j d u hd hu => ih j d u hd hu (oflatL_mem hf d (List.mem_of_getElem? hd))
 | ip => cases hf
 | own i g off n a cap e hH hgg hn hl =>
  obtain ⟨h1, h2⟩ := hg i e hH
  exact .own i g off n a cap e h1 hgg hn (by rw [h2]; exact hl)
 | ptr => cases hf
 | clo => cases hf
theorem call_new {P : Program} {E : Ent} {Im : Nat → Prop} {p : Pl} {s : St} {a : Act} {w : World} (hR : RelS E Im p s a w) {f : FuncId} {ds : List D} {us : Array Value} (hl : ds.length = us.size) (hr : ∀ (j : Nat) (d : D) (u : Value), ds[j]? = some d → us[j]? = some u → Rel Im p s.H w.heap d u)
  (hok : ∀ d ∈ ds, lendOk s.H d) {nn : Nm} (hnn : ∀ k ∈ nms nn, s.H k = Option.none) (hjs : refsInL [] (ds.map (lend s.H)) = true) {R : D → Hp → Prop} (hC : CallsA P f (ds.map (lend s.H)) Hp.none nn R) :
  Calls P f us w fun e w' => ∃ v H' u, e = .returned u ∧ R v H' ∧ (v.oflat = true ∧ (∀ k ∈ nms nn, flatAt H' k) → ∃ p2, Rel Im p2 (s.H.over H' (nms nn)) w'.heap v u ∧ Grows Im p s.H w.heap Im p2 (s.H.over H' (nms nn)) w'.heap ∧ RelH Im p2 (s.H.over H' (nms nn)) w'.heap ∧ RelE E Im p2 (s.H.over H' (nms nn)) w') := by
 obtain ⟨Im1, g1, r1, x1, b1⟩ := kills_spec (E := E) (w := w) (ds.flatMap (lendNm s.H)) Im s.H hR.hp hR.en
 have hr1 : ∀ (j : Nat) (d : D) (u : Value), (ds.map (lend s.H))[j]? = some d → us[j]? = some u → Rel Im1 p Hp.none w.heap d u := fun j d u hd hu => by
  have hd' := hd
  rw [List.getElem?_map] at hd
  cases hc : ds[j]? with
  | none => rw [hc] at hd; cases hd
  | some c =>
   rw [hc] at hd
   cases hd
   have hm := List.mem_of_getElem? hc
   exact (lend_rel hR.hp g1 (hr j c u hc hu) (hok c hm) (fun i hi e he hn => b1 i (List.mem_flatMap.2 ⟨c, hm, hi⟩) e he hn)).restr (js := []) (refsInL_get hjs j _ hd')
 have r0 : RelH Im1 p Hp.none w.heap := ⟨fun i e h => (by cases h), fun i j e e' h => (by cases h), r1.im⟩
 refine (hC w Im1 p us (by rw [List.length_map]; exact hl) hr1 r0 (fun k hk => rfl) (hR.gl.mono g1.im g1.blk)).mono fun e w' ⟨Im', p', v, H', u, L⟩ => ?_
 have X := L.relE 0
 have same : ∀ b, b < w.heap.size → w'.heap[b]? = w.heap[b]? := fun b hb => X.block b hb fun ⟨j, ej, hj, _, _⟩ => by cases hj
 refine ⟨v, H', u, L.end_, L.post, fun ⟨hf, hfl⟩ => ?_⟩
 have hdom : ∀ i ei, H' i = some ei → i ∈ nms nn := fun i ei hi => (L.dom i ei hi).resolve_left (fun h => by cases h)
 have hnew : ∀ i ei, H' i = some ei → s.H.over H' (nms nn) i = some ei := fun i ei hi => over_some (hdom i ei hi) hi
 have hold : ∀ i, H' i = Option.none → s.H.over H' (nms nn) i = s.H i := fun i hi => over_other (.inr hi)
 have hsn : ∀ i ei, s.H i = some ei → H' i = Option.none := fun i ei hi => by
  cases h : H' i with
  | none => rfl
  | some e' => rw [hnn i (hdom i e' h)] at hi; cases hi
 have hbig : ∀ i ei, H' i = some ei → ei.rows ≠ [] → w.heap.size ≤ (p' i).1 := fun i ei hi hn => by
  rcases X.ids i ei hi hn with ⟨j, ej, hj, _, _⟩ | h
  ·cases hj
  ·exact h
 have hP : ∃ p2 : Pl, (∀ i ei, H' i = some ei → p2 i = p' i) ∧ ∀ i, H' i = Option.none → p2 i = p i := ⟨fun i => match H' i with | some _ => p' i | Option.none => p i, fun i ei hi => by dsimp only; rw [hi], fun i hi => by dsimp only; rw [hi]⟩
 obtain ⟨p2, hp1, hp2⟩ := hP
 have hlt : ∀ i ei, s.H i = some ei → ei.rows ≠ [] → (p i).1 < w.heap.size := fun i ei hi hn => by
  obtain ⟨c, t, k1, _⟩ := hR.hp.cell i ei hi hn
  exact lt_of_some k1
 have G : Grows Im p s.H w.heap Im p2 (s.H.over H' (nms nn)) w'.heap := ⟨fun _ h => h, fun b hb => same b (hR.hp.im b hb), fun i e he => ⟨e, by rw [hold i (hsn i e he)]; exact he, Nat.le_refl _, fun _ => ⟨hp2 i (hsn i e he), rfl, fun hn => ⟨hn, fun c t hc => ⟨c, by rw [same _ (lt_of_some hc)]; exact hc, rfl⟩⟩⟩⟩⟩
 refine ⟨p2, oflat_rel (fun i e hi => ⟨hnew i e hi, hp1 i e hi⟩) L.rel hf, G, ⟨fun i ei hi hn => ?_, fun i j ei ej hi hj hn hnj hij => ?_, fun b hb => Nat.lt_of_lt_of_le (hR.hp.im b hb) X.size⟩,
  ⟨X.os.trans hR.en.os, X.tape.trans hR.en.tape, X.output.trans hR.en.output, Nat.le_trans hR.en.size X.size, fun b hb hB => (same b (Nat.lt_of_lt_of_le hb hR.en.size)).trans (hR.en.block b hb hB), hR.en.im, hR.en.im', fun i ei hi hn => ?_⟩⟩
 ·cases hi' : H' i with
  | some e' =>
   rw [hnew i e' hi'] at hi
   cases hi
   obtain ⟨c, t, k1, k2, k3⟩ := L.relH.cell i _ hi' hn
   have hb := hbig i _ hi' hn
   rw [hp1 i _ hi']
   have hfk := hfl i (hdom i _ hi')
   unfold flatAt at hfk
   rw [hi'] at hfk
   refine ⟨c, t, k1, fun h => by have := hR.hp.im _ h; omega, k3.len, k3.le, fun r j row d h1 h2 => ?_⟩
   obtain ⟨u', q1, q2, q3⟩ := k3.cell r j row d h1 h2
   exact ⟨u', q1, flat_rel q2 (flatL_mem (flatRs_mem hfk row (List.mem_of_getElem? h1)) d (List.mem_of_getElem? h2)), q3⟩
  | none =>
   rw [hold i hi'] at hi
   obtain ⟨c, t, k1, k2, k3⟩ := hR.hp.cell i ei hi hn
   rw [hp2 i hi']
   exact ⟨c, t, by rw [same _ (lt_of_some k1)]; exact k1, k2, k3.mono G⟩
 ·cases hi' : H' i with
  | some e' =>
   rw [hnew i e' hi'] at hi
   cases hi
   rw [hp1 i _ hi']
   cases hj' : H' j with
   | some e2 =>
    rw [hnew j e2 hj'] at hj
    cases hj
    rw [hp1 j _ hj']
    exact L.relH.inj i j _ _ hi' hj' hn hnj hij
   | none =>
    rw [hold j hj'] at hj
    rw [hp2 j hj']
    have := hbig i _ hi' hn
    have := hlt j ej hj hnj
    omega
  | none =>
   rw [hold i hi'] at hi
   rw [hp2 i hi']
   cases hj' : H' j with
   | some e2 =>
    rw [hnew j e2 hj'] at hj
    cases hj
    rw [hp1 j _ hj']
    have := hbig j _ hj' hnj
    have := hlt i ei hi hn
    omega
   | none =>
    rw [hold j hj'] at hj
    rw [hp2 j hj']
    exact hR.hp.inj i j ei ej hi hj hn hnj hij
 ·cases hi' : H' i with
  | some e' =>
   rw [hnew i e' hi'] at hi
   cases hi
   rw [hp1 i _ hi']
   exact .inr (Nat.le_trans hR.en.size (hbig i _ hi' hn))
  | none =>
   rw [hold i hi'] at hi
   rw [hp2 i hi']
   exact hR.en.ids i ei hi hn
end Go.Proofs.Ytadjhfjiimgddaa
