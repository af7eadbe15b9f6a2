
/- Operations over abstract data: addresses, elements, slices. -/
import Derived.Test.YtiaenojpbiahgaaVf
namespace Go.Proofs.Ytiaenojpbiahgaa
open Go
set_option linter.unusedVariables false
set_option linter.unusedSimpArgs false
section
variable {P : Program}
theorem snd_nck {x : Operand} {x' : Opd} (hx : OpdOk x x') : SoundK P (.nilCheck x) (.nck x') := fun E Im p s a w nm o d ho hR he hcd => by
  have r := hx _ _ _ _ _ _ hR
  simp only [eff] at he
  split at he
  · rename_i i g r0 c hs
    rw [hs] at r
    split at he
    · rename_i e hi
      split at he
      · rename_i hg
        cases he
        have ex := rel_ptr r hi hg
        exact sound_pure hR (u := a.eval x) (by unfold execOp; simp [ho, ex]) rfl r
      · cases he
    · cases he
  · rename_i f hs
    rw [hs] at r
    cases he
    refine sound_pure hR (u := a.eval x) ?_ rfl r
    generalize hu : a.eval x = u at r
    cases r with
    | p r => cases r
    | ip _ b off u him hcell hr => unfold execOp; simp [ho, hu]
  · rename_i f fs cs hs
    rw [hs] at r
    cases he
    refine sound_pure hR (u := a.eval x) ?_ rfl r
    generalize hu : a.eval x = u at r
    cases r with
    | p r => cases r
    | clo => unfold execOp; simp [ho, hu]
  · cases he
theorem run_fieldAt {t : TypeId} {w : World} {b o k : Nat} {fs : Array Field} {f : Field} {fi : TypeInfo} (hu : P.underlying t = some (.struct fs)) (hf : fs[k]? = some f) (hi : P.info? f.type = some fi) (hz : fi.size ≠ 0) :
    (Instr.fieldAt t (.pointer (some ⟨b, o, Option.none⟩)) k).run P w = .ok (.pointer (some ⟨b, o + f.offset, Option.none⟩)) w := by
  unfold Instr.fieldAt
  simp [run_underlying hu, hf, Instr.sureAddr, fieldPlace, sizeOf, typeInfo, hi, hz, Addr.add_mid]
theorem snd_fa {t : TypeId} {x : Operand} {x' : Opd} {k off : Nat} {fs : Array Field} {f : Field} {fi : TypeInfo} (hx : OpdOk x x') (hu : P.underlying t = some (.struct fs)) (hf : fs[k]? = some f) (hi : P.info? f.type = some fi) (hz : fi.size ≠ 0) (hoff : f.offset = off) : SoundK P (.fieldAddr t x k) (.fa off x') := fun E Im p s a w nm o d ho hR he hcd => by
  have r := hx _ _ _ _ _ _ hR
  subst hoff
  simp only [eff] at he
  split at he
  · rename_i i g r0 c hs
    rw [hs] at r
    split at he
    · rename_i e hie
      split at he
      · rename_i hg
        cases he
        have ex := rel_ptr r hie hg
        refine sound_pure hR (u := .pointer (some ⟨(p i).1, (p i).2 + r0 * e.sz + (c + f.offset), Option.none⟩)) ?_ rfl (.ptr i g r0 (c + f.offset) _ rfl e hie (by omega) fun _ => rfl)
        unfold execOp
        simp only [ho, ex, Sem.run_bind, run_fieldAt hu hf hi hz, Result.andThen_ok, Nat.add_assoc]
        rfl
      · cases he
    · cases he
  · rename_i f' hs
    rw [hs] at r
    cases he
    generalize hxu : a.eval x = ux at r
    cases r with
    | p r => cases r
    | ip _ b off u him hcell hr =>
      refine sound_pure hR (u := .pointer (some ⟨b, off + f.offset, Option.none⟩)) ?_ rfl (.ip (f'.drop f.offset) b (off + f.offset) (fun j => u (f.offset + j)) him (fun j hj => ?_) (fun j d hj => ?_))
      · unfold execOp
        simp only [ho, hxu, Sem.run_bind, run_fieldAt hu hf hi hz, Result.andThen_ok]
        rfl
      · rw [List.length_drop] at hj
        rw [Nat.add_assoc]
        exact hcell _ (by omega)
      · rw [List.getElem?_drop] at hj
        exact hr _ d hj
  · cases he
theorem nat_of {d : D} {k : Int} (h : d.nat = some k) : ∃ kd, d = .v (.int kd k) := by
  unfold D.nat at h
  split at h
  · cases h; exact ⟨_, rfl⟩
  · cases h
theorem snd_iaA {t e : TypeId} {x y : Operand} {x' y' : Opd} {n sz : Nat} {ei : TypeInfo} (hx : OpdOk x x') (hy : OpdOk y y') (hu : P.underlying t = some (.array n e)) (hi : P.info? e = some ei) (hz : ei.size = sz) : SoundK P (.indexAddr t x y) (.iaA n sz x' y') := fun E Im p s a w nm o d ho hR he hcd => by
  have r := hx _ _ _ _ _ _ hR
  have r' := hy _ _ _ _ _ _ hR
  subst hz
  have run : ∀ (b off : Nat) (kd : IntKind) (k : Int), 0 ≤ k → k < n → (Instr.indexAt t (.pointer (some ⟨b, off, Option.none⟩)) (.int kd k)).run P w = .ok (.pointer (some ⟨b, off + k.toNat * ei.size, Option.none⟩)) w := fun b off kd k h0 h1 => by
    unfold Instr.indexAt
    simp [run_underlying hu, asIntOf, Instr.sureAddr, sizeOf, typeInfo, hi, h0, h1, Addr.add_mid]
  simp only [eff] at he
  split at he
  · rename_i i g r0 c k hs hk
    rw [hs] at r
    obtain ⟨kd, hkd⟩ := nat_of hk
    rw [hkd] at r'
    split at he
    · rename_i en hie
      split at he
      · rename_i hg
        cases he
        dsimp only at hcd
        have ex := rel_ptr r hie hg
        refine sound_pure hR (u := .pointer (some ⟨(p i).1, (p i).2 + r0 * en.sz + (c + k.toNat * ei.size), Option.none⟩)) ?_ rfl (.ptr i g r0 _ _ rfl en hie (by omega) fun _ => rfl)
        unfold execOp
        simp only [ho, ex, rel_v r', Sem.run_bind, run _ _ kd k hcd.1 hcd.2, Result.andThen_ok, Nat.add_assoc]
        rfl
      · cases he
    · cases he
  · rename_i f' k hs hk
    rw [hs] at r
    obtain ⟨kd, hkd⟩ := nat_of hk
    rw [hkd] at r'
    cases he
    dsimp only at hcd
    generalize hxu : a.eval x = ux at r
    cases r with
    | p r => cases r
    | ip _ b off u him hcell hr =>
      refine sound_pure hR (u := .pointer (some ⟨b, off + k.toNat * ei.size, Option.none⟩)) ?_ rfl (.ip (f'.drop (k.toNat * ei.size)) b _ (fun j => u (k.toNat * ei.size + j)) him (fun j hj => ?_) (fun j d hj => ?_))
      · unfold execOp
        simp only [ho, hxu, rel_v r', Sem.run_bind, run _ _ kd k hcd.1 hcd.2, Result.andThen_ok]
        rfl
      · rw [List.length_drop] at hj
        rw [Nat.add_assoc]
        exact hcell _ (by omega)
      · rw [List.getElem?_drop] at hj
        exact hr _ d hj
  · cases he
theorem relP_sl {Im : Nat → Prop} {h : Array Obj} {l : List (List D)} {x : Value} (r : RelP Im h (.sl l) x) : ∃ a cap, x = .slice a l.length cap ∧ l.length ≤ cap ∧ (l ≠ [] → ∃ (b o sz : Nat) (u : Nat → Nat → Value), a = some ⟨b, o, Option.none⟩ ∧ Im b ∧ (∀ r ∈ l, r.length = sz) ∧ (∀ i j, i < l.length → j < sz → hc h b (o + i * sz + j) = some (u i j) ∧ one (u i j) = true) ∧ ∀ i j (hi : i < l.length) (hj : j < l[i].length), RelP Im h l[i][j] (u i j)) := by
  cases r with
  | sl0 a cap => exact ⟨a, cap, rfl, Nat.zero_le _, fun h => absurd rfl h⟩
  | sl1 _ b o n cap sz u hl hn hsz him hcell hrel =>
    subst hl
    exact ⟨_, cap, rfl, hn, fun _ => ⟨b, o, sz, u, rfl, him, hsz, hcell, hrel⟩⟩
theorem rel_sl {Im : Nat → Prop} {p : Pl} {H : Hp} {h : Array Obj} {l : List (List D)} {x : Value} (r : Rel Im p H h (.sl l) x) : RelP Im h (.sl l) x := by
  cases r with
  | p r => exact r
/-- The rows of a slice have the size of its type's elements. -/
theorem snd_iaS {t e : TypeId} {x y : Operand} {x' y' : Opd} {ei : TypeInfo} (hx : OpdOk x x') (hy : OpdOk y y') (hu : P.underlying t = some (.slice e)) (hi : P.info? e = some ei) : SoundK P (.indexAddr t x y) (.iaS ei.size x' y') := fun E Im p s a w nm o d ho hR he hcd => by
  have r := hx _ _ _ _ _ _ hR
  have r' := hy _ _ _ _ _ _ hR
  have run : ∀ (b off : Nat) (kd : IntKind) (k : Int) (len cap : Nat), 0 ≤ k → k < len → (Instr.indexAt t (.slice (some ⟨b, off, Option.none⟩) len cap) (.int kd k)).run P w = .ok (.pointer (some ⟨b, off + k.toNat * ei.size, Option.none⟩)) w := fun b off kd k len cap h0 h1 => by
    unfold Instr.indexAt
    simp [run_underlying hu, asIntOf, sizeOf, typeInfo, hi, h0, h1, Addr.add_mid]
  simp only [eff] at he
  split at he
  · rename_i l k hs hk
    rw [hs] at r
    obtain ⟨kd, hkd⟩ := nat_of hk
    rw [hkd] at r'
    cases he
    dsimp only at hcd
    obtain ⟨h0, h1, h2⟩ := hcd
    have hkl : k.toNat < l.length := by omega
    obtain ⟨ao, cap, ex, hcap, hl⟩ := relP_sl (rel_sl r)
    obtain ⟨b, off, sz, u, rfl, him, hsz, hcell, hrel⟩ := hl (by intro h; rw [h] at hkl; exact absurd hkl (Nat.not_lt_zero _))
    have hg : l.getD k.toNat [] = l[k.toNat] := by rw [List.getD_eq_getElem?_getD, List.getElem?_eq_getElem hkl]; rfl
    have hsz' : l[k.toNat].length = sz := hsz _ (List.getElem_mem hkl)
    rw [hg] at h2
    have he : sz = ei.size := by omega
    subst he
    refine sound_pure hR (u := .pointer (some ⟨b, off + k.toNat * ei.size, Option.none⟩)) ?_ rfl ?_
    · unfold execOp
      simp only [ho, ex, rel_v r', Sem.run_bind, run _ _ kd k _ _ h0 h1, Result.andThen_ok]
      rfl
    · dsimp only
      rw [hg]
      exact .ip _ b _ (fun j => u k.toNat j) him (fun j hj => hcell k.toNat j hkl (by omega)) (fun j d hj => by
        have hj' := (List.getElem?_eq_some_iff.1 hj)
        obtain ⟨hj1, hj2⟩ := hj'
        rw [← hj2]
        exact hrel k.toNat j hkl hj1)
  · rename_i i g off n k hs hk
    rw [hs] at r
    obtain ⟨kd, hkd⟩ := nat_of hk
    rw [hkd] at r'
    split at he
    · rename_i en hie
      split at he
      · rename_i hg
        cases he
        dsimp only at hcd
        obtain ⟨h0, h1, h2⟩ := hcd
        obtain ⟨ao, cap, ex, hcap, hl⟩ := rel_own r hie hg
        obtain ⟨rfl, -⟩ := hl (by omega)
        rw [← h2] at run
        refine sound_pure hR (u := .pointer (some ⟨(p i).1, (p i).2 + (off + k.toNat) * en.sz + 0, Option.none⟩)) ?_ rfl (.ptr i g (off + k.toNat) 0 _ rfl en hie (by omega) fun _ => rfl)
        unfold execOp
        simp only [ho, ex, rel_v r', Sem.run_bind, run _ _ kd k _ _ h0 h1, Result.andThen_ok, Nat.add_assoc, Nat.add_mul, Nat.add_zero]
        rfl
      · cases he
    · cases he
  · cases he
theorem run_part {t : TypeId} {w : World} {cs : Array Value} {off sz : Nat} {dsc : TypeDesc} {ti : TypeInfo} (hi : P.info? t = some ti) (hs : ti.size = sz) (hu : P.underlying t = some dsc) (hle : off + sz ≤ cs.size) (h1 : dsc.isRow = false → sz = 1) :
    (part t cs off).run P w = .ok (if dsc.isRow = true then .agg ((cs.toList.drop off).take sz).toArray else cs.toList.getD off undef) w := by
  have hag : (isAgg t).run P w = .ok dsc.isRow w := by
    unfold isAgg
    rw [Sem.run_bind, run_underlying hu w]
    cases dsc <;> simp_all
  unfold part
  cases hd : dsc.isRow with
  | true =>
    rw [hd] at hag
    simp [hag, sizeOf, typeInfo, hi, hs]
    apply Array.ext'
    simp [List.drop_take]
  | false =>
    rw [hd] at hag
    have := h1 hd
    have hlt : off < cs.size := by omega
    simp [hag, Array.getElem?_eq_getElem hlt, List.getD_eq_getElem?_getD, List.getElem?_eq_getElem]
theorem snd_fld {t : TypeId} {x : Operand} {x' : Opd} {k off sz : Nat} {ag : Bool} {fs : Array Field} {f : Field} {fi : TypeInfo} {dsc : TypeDesc} (hx : OpdOk x x') (hu : P.underlying t = some (.struct fs)) (hf : fs[k]? = some f) (hi : P.info? f.type = some fi) (hz : fi.size = sz) (hoff : f.offset = off) (hd : P.underlying f.type = some dsc) (ha : dsc.isRow = ag) (h1 : ag = false → sz = 1) : SoundK P (.field t x k) (.fld off sz ag x') := fun E Im p s a w nm o d ho hR he hcd => by
  have r := hx _ _ _ _ _ _ hR
  simp only [eff] at he
  split at he
  · rename_i cs hs
    rw [hs] at r
    cases he
    dsimp only at hcd
    obtain ⟨us, ex, RL⟩ := RelL.of_agg r
    obtain ⟨u, e1, e2⟩ := RL.at hcd ag h1
    refine sound_pure hR (u := u) ?_ rfl e2
    have hle : off + sz ≤ us.size := by rw [RL.len] at hcd; simpa using hcd
    have := run_part (w := w) hi hz hd hle (by rw [ha]; exact h1)
    rw [ha, e1, ← hoff] at this
    unfold execOp
    simp [ho, ex, Instr.field, run_underlying hu, hf, asAgg, this]
  · cases he
theorem snd_ixA {t e : TypeId} {x y : Operand} {x' y' : Opd} {n sz : Nat} {ag : Bool} {ei : TypeInfo} {dsc : TypeDesc} (hx : OpdOk x x') (hy : OpdOk y y') (hu : P.underlying t = some (.array n e)) (hi : P.info? e = some ei) (hz : ei.size = sz) (hd : P.underlying e = some dsc) (ha : dsc.isRow = ag) (h1 : ag = false → sz = 1) : SoundK P (.index t x y) (.ixA n sz ag x' y') := fun E Im p s a w nm o d ho hR he hcd => by
  have r := hx _ _ _ _ _ _ hR
  have r' := hy _ _ _ _ _ _ hR
  simp only [eff] at he
  split at he
  · rename_i cs k hs hk
    rw [hs] at r
    obtain ⟨kd, hkd⟩ := nat_of hk
    rw [hkd] at r'
    cases he
    dsimp only at hcd
    obtain ⟨c0, c1, c2⟩ := hcd
    obtain ⟨us, ex, RL⟩ := RelL.of_agg r
    obtain ⟨u, e1, e2⟩ := RL.at c2 ag h1
    refine sound_pure hR (u := u) ?_ rfl e2
    have hle : k.toNat * sz + sz ≤ us.size := by rw [RL.len] at c2; simpa using c2
    have := run_part (w := w) hi hz hd hle (by rw [ha]; exact h1)
    rw [ha, e1] at this
    unfold execOp
    simp [ho, ex, rel_v r', Instr.index, asIntOf, run_underlying hu, c0, c1, sizeOf, typeInfo, hi, hz, this]
  · cases he
theorem snd_ixS {t : TypeId} {x y : Operand} {x' y' : Opd} (hx : OpdOk x x') (hy : OpdOk y y') (hu : P.underlying t = some .string) : SoundK P (.index t x y) (.ixS x' y') := fun E Im p s a w nm o d ho hR he hcd => by
  have r := hx _ _ _ _ _ _ hR
  have r' := hy _ _ _ _ _ _ hR
  simp only [eff] at he
  split at he
  · rename_i b k hs hk
    rw [hs] at r
    obtain ⟨kd, hkd⟩ := nat_of hk
    rw [hkd] at r'
    cases he
    dsimp only at hcd
    obtain ⟨c0, c1⟩ := hcd
    have hlt : k.toNat < b.size := by omega
    refine sound_pure hR (u := .int .u8 (b.data.getD k.toNat 0).toNat) ?_ rfl (.p (.v _))
    have hb : b[k.toNat]? = some (b.data.getD k.toNat 0) := by
      have hlt' : k.toNat < b.data.size := hlt
      rw [getElem?_pos b k.toNat hlt]
      unfold Array.getD
      rw [dif_pos hlt']
      rfl
    unfold execOp
    simp [ho, rel_v r, rel_v r', Instr.index, asIntOf, run_underlying hu, c0, hb]
  · cases he
end
end Go.Proofs.Ytiaenojpbiahgaa
