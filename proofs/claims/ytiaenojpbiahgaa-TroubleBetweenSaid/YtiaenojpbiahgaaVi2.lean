
/- Operations over abstract data: equality of structs and arrays, strings out of bytes. -/
import Derived.Test.YtiaenojpbiahgaaVi
import Derived.ChangeKeysEq
import Derived.Laws.BytesString
import Derived.Laws.StructEq
namespace Go.Proofs.Ytiaenojpbiahgaa
open Go
set_option linter.unusedVariables false
set_option linter.unusedSimpArgs false
section
variable {P : Program}
/-- The kind of a type of one cell. -/
def kindOf (P : Program) (t : TypeId) : Option Nat :=
  match P.underlying t with
  | some (.int _) => some 0
  | some .bool => some 1
  | some .string => some 2
  | _ => Option.none
theorem run_eqOne {t : TypeId} {k : Nat} (hk : kindOf P t = some k) {d e : D} {b : Bool} (h : eqOne k d e = some b) {Im : Nat → Prop} {p : Pl} {H : Hp} {hp : Array Obj} {u v : Value} (r : Rel Im p H hp d u) (r' : Rel Im p H hp e v) (m : Nat) (w : World) : (Op.equalIn (m + 1) t u v).run P w = .ok b w := by
  unfold kindOf at hk
  unfold eqOne at h
  split at h
  · rw [rel_v r, rel_v r']
    split at h
    · rename_i hkk
      cases h
      subst hkk
      split at hk
      · rename_i hu; exact run_equalIn_int w m t _ _ _ _ hu
      · cases hk
      · cases hk
      · cases hk
    · cases h
  · rw [rel_v r, rel_v r']
    cases h
    split at hk
    · cases hk
    · rename_i hu; exact run_equalIn_bool' w m t _ _ hu
    · cases hk
    · cases hk
  · rw [rel_v r, rel_v r']
    cases h
    split at hk
    · cases hk
    · cases hk
    · rename_i hu; exact run_equalIn_string w m t _ _ hu
    · cases hk
  · cases h
theorem run_part1 {t : TypeId} {k : Nat} (hk : kindOf P t = some k) {w : World} {cs : Array Value} {off : Nat} (hlt : off < cs.size) : (part t cs off).run P w = .ok cs[off] w := by
  have hag : (isAgg t).run P w = .ok false w := by
    unfold kindOf at hk
    unfold isAgg
    split at hk <;> first
      | (rename_i hu; rw [Sem.run_bind, run_underlying hu w]; rfl)
      | (cases hk)
  unfold part
  simp [hag, Array.getElem?_eq_getElem hlt]
theorem eqL_get : ∀ {ks : List Nat} {as bs : List D} {b : Bool}, eqL ks as bs = some b → as.length = ks.length ∧ bs.length = ks.length
  | [], [], [], _, _ => ⟨rfl, rfl⟩
  | k :: ks, a :: as, c :: bs, b, h => by
    rw [eqL] at h
    split at h
    · rename_i h1 h2
      obtain ⟨q1, q2⟩ := eqL_get h2
      exact ⟨by rw [List.length_cons, List.length_cons, q1], by rw [List.length_cons, List.length_cons, q2]⟩
    · cases h
  | [], [], _ :: _, _, h => by cases h
  | [], _ :: _, _, _, h => by cases h
  | _ :: _, [], _, _, h => by cases h
  | _ :: _, _ :: _, [], _, h => by cases h
theorem run_eqItems {Im : Nat → Prop} {p : Pl} {H : Hp} {hp : Array Obj} {e : TypeId} {kd : Nat} (hk : kindOf P e = some kd) (m : Nat) (w : World) (xs ys : Array Value) : ∀ (n k : Nat) (as bs : List D) (b : Bool), eqL (List.replicate n kd) as bs = some b → xs.size = k + n → ys.size = k + n →
    (∀ (j : Nat) (d : D) (u : Value), as[j]? = some d → xs[k + j]? = some u → Rel Im p H hp d u) → (∀ (j : Nat) (d : D) (u : Value), bs[j]? = some d → ys[k + j]? = some u → Rel Im p H hp d u) →
    (Op.eqItems (m + 1) e 1 xs ys (List.range' k n)).run P w = .ok b w
  | 0, k, as, bs, b, h, _, _, _, _ => by
    obtain ⟨h1, h2⟩ := eqL_get h
    simp only [List.replicate_zero, List.length_nil] at h1 h2
    rw [List.length_eq_zero_iff.1 h1, List.length_eq_zero_iff.1 h2] at h
    cases h
    rfl
  | n + 1, k, as, bs, b, h, hx, hy, ra, rb => by
    rw [List.replicate_succ] at h
    cases as with
    | nil => cases h
    | cons a as =>
      cases bs with
      | nil => cases h
      | cons c bs =>
        rw [eqL] at h
        split at h
        · rename_i x y h1 h2
          cases h
          have hkx : k < xs.size := by omega
          have hky : k < ys.size := by omega
          have e1 := run_eqOne hk h1 (ra 0 a _ rfl (by rw [Nat.add_zero]; exact Array.getElem?_eq_getElem hkx)) (rb 0 c _ rfl (by rw [Nat.add_zero]; exact Array.getElem?_eq_getElem hky)) m w
          have e2 := run_eqItems hk m w xs ys n (k + 1) as bs y h2 (by omega) (by omega) (fun j d u hd hu => ra (j + 1) d u (by simpa using hd) (by rw [show k + (j + 1) = k + 1 + j by omega]; exact hu)) (fun j d u hd hu => rb (j + 1) d u (by simpa using hd) (by rw [show k + (j + 1) = k + 1 + j by omega]; exact hu))
          rw [List.range'_succ, Op.eqItems]
          simp only [Nat.mul_one, Sem.run_bind, run_part1 hk hkx, run_part1 hk hky, e1, Result.andThen_ok]
          cases x
          · simp
          · simpa using e2
        · cases h
theorem snd_eqaA {ng : Bool} {t t' e : TypeId} {n kd : Nat} {ei : TypeInfo} {x y : Operand} {x' y' : Opd} (hx : OpdOk x x') (hy : OpdOk y y') (hu : P.underlying t = some (.array n e)) (hi : P.info? e = some ei) (h1 : ei.size = 1) (hk : kindOf P e = some kd) (hg : P.eqGuardType P.depth t = false) : SoundK P (.binOp (if ng = true then .neq else .eql) t x y t') (.eqa ng (List.replicate n kd) x' y') := fun E Im p s a w nm o d ho hR he hcd => by
  have r := hx _ _ _ _ _ _ hR
  have r' := hy _ _ _ _ _ _ hR
  simp only [eff] at he
  split at he
  · rename_i as bs hs hs'
    rw [hs] at r
    rw [hs'] at r'
    split at he
    · rename_i b hb
      cases he
      obtain ⟨us, ex, RA⟩ := RelL.of_agg r
      obtain ⟨vs, ey, RB⟩ := RelL.of_agg r'
      obtain ⟨l1, l2⟩ := eqL_get hb
      rw [List.length_replicate] at l1 l2
      have s1 : us.size = n := by rw [← l1, RA.len]; simp
      have s2 : vs.size = n := by rw [← l2, RB.len]; simp
      have k : (Op.equalIn (9999 + 1) t (.agg us) (.agg vs)).run P w = .ok b w := by
        rw [run_equalIn_array w 9999 us vs hu hi, List.range_eq_range']
        have hc : P.cellsOf e = 1 := by unfold Program.cellsOf; rw [hi]; exact h1
        have := run_eqItems (Im := Im) (p := p) (H := s.H) (hp := w.heap) hk 9998 w us vs n 0 as bs b hb (by omega) (by omega) (fun j d u hd hu => (RA.cell j d u hd (by simpa using hu)).1) (fun j d u hd hu => (RB.cell j d u hd (by simpa using hu)).1)
        first | exact this | (rw [hc]; exact this) | (rw [h1]; exact this)
      refine sound_pure hR (u := .bool (if ng = true then !b else b)) ?_ rfl (.p (.v _))
      unfold execOp
      simp only [ho, ex, ey, Sem.run_bind, run_eqGuard_agg w _ t x y us vs hg, Result.andThen_ok]
      cases ng
      · simp only [Bool.false_eq_true, if_false, run_eql_struct, k, Result.andThen_ok]; rfl
      · simp only [if_true, run_neq_struct, k, Result.andThen_ok]; rfl
    · cases he
  · cases he
/-- The kinds of a struct's fields, where each is of one cell. -/
def kindsOf (P : Program) : Nat → List Field → Option (List Nat)
  | _, [] => some []
  | off, f :: fs =>
    if f.name ≠ "_" ∧ f.offset = off then
      match kindOf P f.type, kindsOf P (off + 1) fs with
      | some k, some ks => some (k :: ks)
      | _, _ => Option.none
    else Option.none
theorem run_eqFields {Im : Nat → Prop} {p : Pl} {H : Hp} {hp : Array Obj} (m : Nat) (w : World) (xs ys : Array Value) : ∀ (fs : List Field) (k : Nat) (ks : List Nat) (as bs : List D) (b : Bool), kindsOf P k fs = some ks → eqL ks as bs = some b → xs.size = k + ks.length → ys.size = k + ks.length →
    (∀ (j : Nat) (d : D) (u : Value), as[j]? = some d → xs[k + j]? = some u → Rel Im p H hp d u) → (∀ (j : Nat) (d : D) (u : Value), bs[j]? = some d → ys[k + j]? = some u → Rel Im p H hp d u) →
    (Op.eqFields (m + 1) xs ys fs).run P w = .ok b w
  | [], k, ks, as, bs, b, hks, h, _, _, _, _ => by
    cases hks
    obtain ⟨h1, h2⟩ := eqL_get h
    simp only [List.length_nil] at h1 h2
    rw [List.length_eq_zero_iff.1 h1, List.length_eq_zero_iff.1 h2] at h
    cases h
    rfl
  | f :: fs, k, ks, as, bs, b, hks, h, hx, hy, ra, rb => by
    rw [kindsOf] at hks
    split at hks
    · rename_i hf
      split at hks
      · rename_i k0 ks' hk hks'
        cases hks
        cases as with
        | nil => cases h
        | cons a as =>
          cases bs with
          | nil => cases h
          | cons c bs =>
            rw [eqL] at h
            split at h
            · rename_i x y h1 h2
              cases h
              rw [List.length_cons] at hx hy
              have hkx : k < xs.size := by omega
              have hky : k < ys.size := by omega
              have e1 := run_eqOne hk h1 (ra 0 a _ rfl (by rw [Nat.add_zero]; exact Array.getElem?_eq_getElem hkx)) (rb 0 c _ rfl (by rw [Nat.add_zero]; exact Array.getElem?_eq_getElem hky)) m w
              have e2 := run_eqFields m w xs ys fs (k + 1) ks' as bs y hks' h2 (by omega) (by omega) (fun j d u hd hu => ra (j + 1) d u (by simpa using hd) (by rw [show k + (j + 1) = k + 1 + j by omega]; exact hu)) (fun j d u hd hu => rb (j + 1) d u (by simpa using hd) (by rw [show k + (j + 1) = k + 1 + j by omega]; exact hu))
              rw [Op.eqFields, if_pos hf.1]
              simp only [hf.2, Sem.run_bind, run_part1 hk hkx, run_part1 hk hky, e1, Result.andThen_ok]
              cases x
              · simp
              · simpa using e2
            · cases h
      · cases hks
    · cases hks
theorem snd_eqaS {ng : Bool} {t t' : TypeId} {fs : Array Field} {ks : List Nat} {x y : Operand} {x' y' : Opd} (hx : OpdOk x x') (hy : OpdOk y y') (hu : P.underlying t = some (.struct fs)) (hks : kindsOf P 0 fs.toList = some ks) (hst : P.stoodInHeld t = false) (hg : P.eqGuardType P.depth t = false) : SoundK P (.binOp (if ng = true then .neq else .eql) t x y t') (.eqa ng ks x' y') := fun E Im p s a w nm o d ho hR he hcd => by
  have r := hx _ _ _ _ _ _ hR
  have r' := hy _ _ _ _ _ _ hR
  simp only [eff] at he
  split at he
  · rename_i as bs hs hs'
    rw [hs] at r
    rw [hs'] at r'
    split at he
    · rename_i b hb
      cases he
      obtain ⟨us, ex, RA⟩ := RelL.of_agg r
      obtain ⟨vs, ey, RB⟩ := RelL.of_agg r'
      obtain ⟨l1, l2⟩ := eqL_get hb
      have s1 : us.size = ks.length := by rw [← l1, RA.len]; simp
      have s2 : vs.size = ks.length := by rw [← l2, RB.len]; simp
      have hfs : P.fieldsOf t = fs := by unfold Program.fieldsOf; rw [hu]
      have k : (Op.equalIn (9999 + 1) t (.agg us) (.agg vs)).run P w = .ok b w := by
        rw [run_equalIn_struct w 9999 t us vs (by rw [hfs]; exact hu) hst, hfs]
        exact run_eqFields (Im := Im) (p := p) (H := s.H) (hp := w.heap) 9998 w us vs fs.toList 0 ks as bs b hks hb (by omega) (by omega) (fun j d u hd hu => (RA.cell j d u hd (by simpa using hu)).1) (fun j d u hd hu => (RB.cell j d u hd (by simpa using hu)).1)
      refine sound_pure hR (u := .bool (if ng = true then !b else b)) ?_ rfl (.p (.v _))
      unfold execOp
      simp only [ho, ex, ey, Sem.run_bind, run_eqGuard_agg w _ t x y us vs hg, Result.andThen_ok]
      cases ng
      · simp only [Bool.false_eq_true, if_false, run_eql_struct, k, Result.andThen_ok]; rfl
      · simp only [if_true, run_neq_struct, k, Result.andThen_ok]; rfl
    · cases he
  · cases he
theorem bytes_rel {Im : Nat → Prop} {p : Pl} {H : Hp} {hp : Array Obj} : ∀ {l : List (List D)} {ns : List Int} {news : List Value}, bytesD l = some ns → news.length = l.length * 1 → (∀ k, k < l.length → RelL Im p H hp (l.getD k []) ((news.drop (k * 1)).take 1)) → news = ns.map (Value.int .u8) := by
  intro l
  induction l with
  | nil =>
    intro ns news h hl _
    cases h
    exact List.length_eq_zero_iff.1 (by simpa using hl)
  | cons r l ih =>
    intro ns news h hl hr
    unfold bytesD at h
    split at h
    · cases ‹_ :: _ = []›
    · rename_i n l' heq
      cases heq
      split at h
      · rename_i ns' hns
        cases h
        cases news with
        | nil => simp at hl
        | cons u news =>
          have h0 := hr 0 (by simp)
          simp only [List.getD_cons_zero, Nat.zero_mul, List.drop_zero, List.take_succ_cons, List.take_zero] at h0
          have hu := rel_v (h0.cell 0 _ u rfl rfl).1
          rw [hu, List.map_cons]
          congr 1
          refine ih hns (by simpa using hl) fun k hk => ?_
          have := hr (k + 1) (by simpa using hk)
          simpa using this
      · cases h
    · cases h
theorem rowsOf_slice {Im : Nat → Prop} {p : Pl} {H : Hp} {hp : Array Obj} {d : D} {u : Value} (r : Rel Im p H hp d u) {ys : List Nm} {l : List (List D)} (h : rowsOf H d = some (ys, l)) : ∃ a n cap, u = .slice a n cap := by
  unfold rowsOf at h
  split at h
  · obtain ⟨a, cap, e, _⟩ := relP_sl (rel_sl r)
    exact ⟨a, _, cap, e⟩
  · obtain ⟨a, e⟩ := rel_mt r
    exact ⟨a, 0, 0, e⟩
  · cases r with
    | p r => cases r
    | own => exact ⟨_, _, _, rfl⟩
  · cases h
theorem snd_bts {src dst e : TypeId} {x : Operand} {x' : Opd} (hx : OpdOk x x') (hs : P.underlying src = some (.slice e)) (he' : P.underlying e = some (.int .u8)) (hd : P.underlying dst = some .string) : SoundK P (.convert src dst x) (.bts x') := fun E Im p s a w nm o d ho hR he hcd => by
  have r := hx _ _ _ _ _ _ hR
  simp only [eff] at he
  split at he
  · rename_i ys l hl
    split at he
    · rename_i ns hns
      cases he
      dsimp only at hcd
      obtain ⟨news, S, RN⟩ := src_of (P := P) (tx := src) (e' := e) hR.hp r hl hs hcd
      have hnews := bytes_rel hns S.newsLen RN
      have hlen := S.len w
      have hcells := S.cells
      refine sound_pure hR (u := .string (strOf ns)) ?_ rfl (.p (.v _))
      obtain ⟨u, hux⟩ : ∃ u, u = a.eval x := ⟨_, rfl⟩
      rw [← hux] at hlen hcells
      rw [← hux] at r
      obtain ⟨ao, n, cap, rfl⟩ := rowsOf_slice r hl
      have hn : n = l.length := by
        simp only [Builtin.lenOf] at hlen
        injection hlen
      have hconv : (convert src dst (.slice ao n cap)).run P w = .ok (.string (strOf ns)) w := by
        rw [run_convert_bytes_string w src dst e ao n cap hs he' hd]
        cases ao with
        | none =>
          simp only [Builtin.firstCells] at hcells
          injection hcells with h1
          have h2 : news = [] := by
            have := congrArg Array.toList h1
            simpa using this.symm
          rw [hnews] at h2
          have h3 : ns = [] := by simpa using h2
          subst h3
          simp [Conv.bytesToString, strOf]
        | some b =>
          simp only [Builtin.firstCells, Nat.mul_one] at hcells
          rw [← hn, hnews] at hcells
          exact run_bytesToString w b n cap ns hcells
      unfold execOp
      simp only [ho, ← hux, Sem.run_bind, hconv, Result.andThen_ok]
      rfl
    · cases he
  · cases he
end
end Go.Proofs.Ytiaenojpbiahgaa
