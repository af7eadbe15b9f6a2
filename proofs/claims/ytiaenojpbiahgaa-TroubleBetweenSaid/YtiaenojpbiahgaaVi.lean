
/- Operations over abstract data: slice expressions, append. -/
import Derived.Test.YtiaenojpbiahgaaVh
namespace Go.Proofs.Ytiaenojpbiahgaa
open Go
set_option linter.unusedVariables false
set_option linter.unusedSimpArgs false
section
variable {P : Program}
def OptOk : Option Operand → Option Opd → Prop
  | some x, some y => OpdOk x y
  | Option.none, Option.none => True
  | _, _ => False
theorem run_slc {t e : TypeId} {ei : TypeInfo} {w : World} (hu : P.underlying t = some (.slice e)) (hi : P.info? e = some ei) (a : Option Addr) (len cap : Nat) (lo hi' : Option Value) (l h : Int)
    (hlo : (lo = Option.none ∧ l = 0) ∨ ∃ k, lo = some (.int k l)) (hhi : (hi' = Option.none ∧ h = len) ∨ ∃ k, hi' = some (.int k h)) (h0 : 0 ≤ l) (h1 : l ≤ h) (h2 : h ≤ cap) :
    (Instr.sliceAt t (.slice a len cap) lo hi' Option.none).run P w = .ok (.slice (if cap = l.toNat then a else a.map (·.add (l.toNat * ei.size))) (h.toNat - l.toNat) (cap - l.toNat)) w := by
  have eh : (h.toNat : Int) = h := Int.toNat_of_nonneg (by omega)
  have hh0 : 0 ≤ h := by omega
  rcases hlo with ⟨rfl, rfl⟩ | ⟨k, rfl⟩ <;> rcases hhi with ⟨rfl, rfl⟩ | ⟨k', rfl⟩ <;>
    simp [Instr.sliceAt, Instr.slice, run_underlying hu, Instr.sliceBounds, Instr.sliceBound, asIntOf, sizeOf, typeInfo, hi, eh, h0, h1, h2, hh0]
theorem optOk_val {E : Ent} {Im : Nat → Prop} {p : Pl} {s : St} {a : Act} {w : World} (hR : RelS E Im p s a w) {lo : Option Operand} {lo' : Option Opd} (hlo : OptOk lo lo') {n l : Int} (h : bnd s.F lo' n = some l) :
    (lo.map a.eval = Option.none ∧ l = n) ∨ ∃ k, lo.map a.eval = some (.int k l) := by
  cases lo <;> cases lo' <;> simp only [OptOk] at hlo
  · cases h; exact .inl ⟨rfl, rfl⟩
  · rename_i x y
    obtain ⟨k, hk⟩ := nat_of h
    have r := hlo _ _ _ _ _ _ hR
    rw [hk] at r
    exact .inr ⟨k, by rw [Option.map_some, rel_v r]⟩
theorem snd_slc {t e : TypeId} {x : Operand} {x' : Opd} {lo hi : Option Operand} {lo' hi' : Option Opd} {ei : TypeInfo} (hx : OpdOk x x') (hlo : OptOk lo lo') (hhi : OptOk hi hi') (hu : P.underlying t = some (.slice e)) (hei : P.info? e = some ei) : SoundK P (.slice t x lo hi Option.none) (.slc ei.size x' lo' hi') := fun E Im p s a w nm o d ho hR he hcd => by
  have r := hx _ _ _ _ _ _ hR
  simp only [eff] at he
  split at he
  · rename_i l av hs hav
    rw [hs] at r
    split at he
    · rename_i bv hbv
      cases he
      dsimp only at hcd
      obtain ⟨c0, c1, c2, c3⟩ := hcd
      obtain ⟨ao, cap, ex, hcap, hl⟩ := relP_sl (rel_sl r)
      have hrun := run_slc (w := w) hu hei ao l.length cap _ _ av bv (optOk_val hR hlo hav) (optOk_val hR hhi hbv) c0 c1 (by omega)
      refine sound_pure hR (u := .slice (if cap = av.toNat then ao else ao.map (·.add (av.toNat * ei.size))) (bv.toNat - av.toNat) (cap - av.toNat)) ?_ rfl ?_
      · unfold execOp
        simp only [ho, ex, Sem.run_bind, Option.map_none, hrun, Result.andThen_ok]
        rfl
      · dsimp only
        have hlen : ((l.drop av.toNat).take (bv.toNat - av.toNat)).length = bv.toNat - av.toNat := by rw [List.length_take, List.length_drop]; omega
        rcases Nat.eq_zero_or_pos (bv.toNat - av.toNat) with h0 | hpos
        · rw [h0, List.take_zero]
          exact .p (.sl0 _ _)
        · have hne : l ≠ [] := by intro h; subst h; simp at hlen; omega
          obtain ⟨b, off, sz, u, rfl, him, hsz, hcell, hrel⟩ := hl hne
          rw [if_neg (by omega), Option.map_some, Addr.add_mid]
          have hoff : av.toNat * ei.size = av.toNat * sz := by
            rcases c3 with h | h
            · rw [h]; simp
            · obtain ⟨r0, rest, rfl⟩ : ∃ r0 rest, l = r0 :: rest := by cases l with | nil => exact absurd rfl hne | cons a b => exact ⟨a, b, rfl⟩
              have h1 := hsz r0 (List.mem_cons_self ..)
              have h2 : r0.length = ei.size := h
              rw [← h1, h2]
          rw [hoff]
          have hget : ∀ i, i < bv.toNat - av.toNat → ∀ (hi : i < ((l.drop av.toNat).take (bv.toNat - av.toNat)).length) (hi' : av.toNat + i < l.length), ((l.drop av.toNat).take (bv.toNat - av.toNat))[i] = l[av.toNat + i] := fun i h1 hi hi' => by
            rw [List.getElem_take, List.getElem_drop]
          refine .p (.sl1 _ b _ _ _ sz (fun i j => u (av.toNat + i) j) hlen (by omega) (fun r hr => hsz r (List.mem_of_mem_drop (List.mem_of_mem_take hr))) him (fun i j hi hj => ?_) (fun i j hi hj => ?_))
          · have := hcell (av.toNat + i) j (by omega) hj
            rw [Nat.add_mul] at this
            rw [Nat.add_assoc off]
            exact this
          · have h1 : i < bv.toNat - av.toNat := by omega
            have h2 : av.toNat + i < l.length := by omega
            have e := hget i h1 hi h2
            have hj' : j < l[av.toNat + i].length := by rw [← e]; exact hj
            have k := hrel (av.toNat + i) j h2 hj'
            have : ((l.drop av.toNat).take (bv.toNat - av.toNat))[i][j] = l[av.toNat + i][j] := by congr 1
            rw [this]
            exact k
    · cases he
  · rename_i i g off n av hs hav
    rw [hs] at r
    split at he
    · rename_i bv hbv
      split at he
      · rename_i en hie
        split at he
        · rename_i hg
          cases he
          dsimp only at hcd
          obtain ⟨c0, c1, c2, c3⟩ := hcd
          obtain ⟨ao, cap, ex, hcap, hl⟩ := rel_own r hie hg
          have hrun := run_slc (w := w) hu hei ao n cap _ _ av bv (optOk_val hR hlo hav) (optOk_val hR hhi hbv) c0 c1 (by omega)
          refine sound_pure hR (u := .slice (if cap = av.toNat then ao else ao.map (·.add (av.toNat * ei.size))) (bv.toNat - av.toNat) (cap - av.toNat)) ?_ rfl ?_
          · unfold execOp
            simp only [ho, ex, Sem.run_bind, Option.map_none, hrun, Result.andThen_ok]
            rfl
          · have hcp : 0 < cap - av.toNat → 0 < cap := fun h => by clear hl; omega
            refine .own i g _ _ _ _ en hie (by clear hl; omega) (by clear hl; omega) fun _ hpos => ?_
            obtain ⟨rfl, q2, c, t', q3, q4⟩ := hl (hcp hpos)
            clear hl
            rw [if_neg (by omega), Option.map_some, Addr.add_mid]
            have hoff : av.toNat * ei.size = av.toNat * en.sz := by
              rcases c3 with h | h
              · rw [h]; simp
              · rw [h]
            refine ⟨by rw [hoff, Nat.add_mul, Nat.add_assoc], q2, c, t', q3, ?_⟩
            have : off + av.toNat + (cap - av.toNat) = off + cap := by omega
            rw [this]
            exact q4
        · cases he
      · cases he
    · cases he
  · rename_i av hs hav
    rw [hs] at r
    split at he
    · rename_i bv hbv
      cases he
      dsimp only at hcd
      obtain ⟨rfl, rfl⟩ := hcd
      obtain ⟨ao, ex⟩ := rel_mt r
      have hrun := run_slc (w := w) hu hei ao 0 0 _ _ 0 0 (optOk_val hR hlo hav) (optOk_val hR hhi hbv) (Int.le_refl _) (Int.le_refl _) (by simp)
      refine sound_pure hR (u := .slice ao 0 0) ?_ rfl (.p (.mt _))
      unfold execOp
      simp only [ho, ex, Sem.run_bind, Option.map_none, hrun, Result.andThen_ok]
      rfl
    · cases he
  · cases he
theorem setCells_row (P : Program) (w : World) (g o : Nat) (t : TypeId) (vs : List Value) (cur : Array Value) (hg : w.heap[g]? = some (.cells cur t (0, 0))) (hl : o + vs.length ≤ cur.size) (h1 : ∀ v ∈ vs, v.oneCell' = true) :
    w.setCells g o vs = w.setRow g (cur.toList.take o ++ vs ++ cur.toList.drop (o + vs.length)).toArray := by
  have a := run_storeCells_cells (P := P) g o vs 0 w (fun j hj => by
      have h2 : o + 0 + j < cur.size := by omega
      have e : hc w.heap g (o + 0 + j) = some cur[o + 0 + j] := by unfold hc; rw [hg]; exact Array.getElem?_eq_getElem h2
      rw [hc_cell, e]
      rfl) (fun j hj => by simp [World.frozen?, hg]) h1
  have b := run_storeCells_at P g o t vs 0 cur w hg (by simpa using hl) h1
  simp only [Nat.add_zero] at a b
  rw [a] at b
  injection b
/-- What an append appends. -/
theorem src_of {Im : Nat → Prop} {p : Pl} {H : Hp} {w : World} (R : RelH Im p H w.heap) {d : D} {u : Value} (r : Rel Im p H w.heap d u) {ys : List Nm} {l : List (List D)} (hl : rowsOf H d = some (ys, l)) {tx e' : TypeId} {sz : Nat} (hk : P.underlying tx = some (.slice e')) (hsz : ∀ r ∈ l, r.length = sz) :
    ∃ news, Src P sz tx u l.length news w ∧ ∀ k, k < l.length → RelL Im p H w.heap (l.getD k []) ((news.drop (k * sz)).take sz) := by
  have nil : ∀ a cap, u = .slice a 0 cap → Src P sz tx u 0 [] w := fun a cap e => by
    subst e
    cases a with
    | none => exact Src.ofNil w hk cap
    | some a => exact Src.ofSlice w hk a 0 cap [] (by simp) (fun j u hu => by cases hu) (fun u hu => by cases hu)
  unfold rowsOf at hl
  split at hl
  · cases hl
    obtain ⟨ao, cap, ex, hcap, hne⟩ := relP_sl (rel_sl r)
    cases l with
    | nil => exact ⟨[], nil _ _ ex, fun k hk => absurd hk (Nat.not_lt_zero _)⟩
    | cons r0 rest =>
      obtain ⟨b, off, sz', v, rfl, him, hsz', hcell, hrel⟩ := hne (by simp)
      obtain rfl : sz' = sz := by rw [← hsz' r0 (List.mem_cons_self ..), hsz r0 (List.mem_cons_self ..)]
      generalize hL : r0 :: rest = l at *
      have key : ∀ i j, i < l.length → j < sz' → (i * sz' + j) / sz' = i ∧ (i * sz' + j) % sz' = j := fun i j hi hj => by
        have : 0 < sz' := by omega
        rw [Nat.mul_comm]
        exact ⟨by rw [Nat.mul_add_div this, Nat.div_eq_of_lt hj, Nat.add_zero], by rw [Nat.mul_add_mod, Nat.mod_eq_of_lt hj]⟩
      have hlen : ((List.range (l.length * sz')).map fun m => v (m / sz') (m % sz')).length = l.length * sz' := by simp
      have hget : ∀ m, m < l.length * sz' → ((List.range (l.length * sz')).map fun m => v (m / sz') (m % sz'))[m]? = some (v (m / sz') (m % sz')) := fun m hm => by
        rw [List.getElem?_map, List.getElem?_range hm]; rfl
      have hdiv : ∀ m, m < l.length * sz' → m / sz' < l.length ∧ m % sz' < sz' ∧ m = m / sz' * sz' + m % sz' := fun m hm => by
        have : 0 < sz' := by
          rcases Nat.eq_zero_or_pos sz' with h | h
          · rw [h] at hm; simp at hm
          · exact h
        exact ⟨Nat.div_lt_of_lt_mul (by rw [Nat.mul_comm]; exact hm), Nat.mod_lt _ this, by rw [Nat.mul_comm]; exact (Nat.div_add_mod m sz').symm⟩
      have hsrc : Src P sz' tx (.slice (some ⟨b, off, Option.none⟩) l.length cap) l.length ((List.range (l.length * sz')).map fun m => v (m / sz') (m % sz')) w := by
        refine Src.ofSlice w hk ⟨b, off, Option.none⟩ l.length cap _ hlen (fun j u hu => ?_) (fun u hu => ?_)
        · have hj : j < l.length * sz' := by rw [← hlen]; exact (List.getElem?_eq_some_iff.1 hu).1
          rw [hget j hj] at hu
          cases hu
          obtain ⟨h1, h2, h3⟩ := hdiv j hj
          rw [Addr.add_mid, hc_cell]
          have := (hcell _ _ h1 h2).1
          rw [Nat.add_assoc, ← h3] at this
          exact this
        · obtain ⟨m, hm, rfl⟩ := List.mem_map.1 hu
          obtain ⟨h1, h2, h3⟩ := hdiv m (List.mem_range.1 hm)
          rw [one_eq]
          exact (hcell _ _ h1 h2).2
      refine ⟨_, by rw [ex]; exact hsrc, fun k hk => ⟨?_, fun j d u hd hu => ?_⟩⟩
      · have hg : l.getD k [] = l[k] := by rw [List.getD_eq_getElem?_getD, List.getElem?_eq_getElem hk]; rfl
        have hle : (k + 1) * sz' ≤ l.length * sz' := Nat.mul_le_mul_right _ hk
        rw [Nat.add_mul, Nat.one_mul] at hle
        rw [hg, hsz' _ (List.getElem_mem hk), List.length_take, List.length_drop, hlen]
        omega
      · have hg : l.getD k [] = l[k] := by rw [List.getD_eq_getElem?_getD, List.getElem?_eq_getElem hk]; rfl
        rw [hg] at hd
        obtain ⟨hj, hd⟩ := List.getElem?_eq_some_iff.1 hd
        have hj' : j < sz' := by rw [← hsz' _ (List.getElem_mem hk)]; exact hj
        have hle : (k + 1) * sz' ≤ l.length * sz' := Nat.mul_le_mul_right _ hk
        rw [Nat.add_mul, Nat.one_mul] at hle
        rw [List.getElem?_take, if_pos hj', List.getElem?_drop, hget _ (by omega), (key k j hk hj').1, (key k j hk hj').2] at hu
        cases hu
        rw [← hd]
        exact ⟨.p (hrel k j hk hj), (hcell k j hk hj').2⟩
  · cases hl
    obtain ⟨a, ex⟩ := rel_mt r
    exact ⟨[], nil _ _ ex, fun k hk => absurd hk (Nat.not_lt_zero _)⟩
  · rename_i i g off n
    split at hl
    · rename_i en hie
      split at hl
      · rename_i hg
        cases hl
        obtain ⟨hg, hle⟩ := hg
        obtain ⟨ao, cap, ex, hcap, hl⟩ := rel_own r hie hg
        have hlen : ((en.rows.drop off).take n).length = n := by rw [List.length_take, List.length_drop]; omega
        rw [hlen]
        rcases Nat.eq_zero_or_pos n with rfl | hpos
        · exact ⟨[], nil _ _ ex, fun k hk => absurd hk (Nat.not_lt_zero _)⟩
        · obtain ⟨rfl, hne, blk, t', k1, k2⟩ := hl (by omega)
          obtain ⟨blk', t2, q1, q2, q3⟩ := R.cell i en hie hne
          rw [k1] at q1
          injection q1 with q1
          injection q1 with e1 e2 _
          subst e1 e2
          have hget : ∀ k, k < n → ((en.rows.drop off).take n).getD k [] = en.rows.getD (off + k) [] := fun k hk => by
            rw [List.getD_eq_getElem?_getD, List.getD_eq_getElem?_getD, List.getElem?_take, if_pos hk, List.getElem?_drop]
          have hesz : en.sz = sz := by
            have h1 : off < en.rows.length := by omega
            have h2 := (q3.row h1).2.1
            have h3 := hget 0 hpos
            rw [Nat.add_zero] at h3
            rw [← h2, ← h3]
            refine hsz _ ?_
            have : 0 < ((en.rows.drop off).take n).length := by omega
            rw [List.getD_eq_getElem?_getD, List.getElem?_eq_getElem this]
            exact List.getElem_mem this
          subst hesz
          have hrl := q3.le
          have hmul : (off + n) * en.sz ≤ en.rows.length * en.sz := Nat.mul_le_mul_right _ hle
          rw [Nat.add_mul] at hmul
          have hnl : ((blk.toList.drop ((p i).2 + off * en.sz)).take (n * en.sz)).length = n * en.sz := by rw [List.length_take, List.length_drop, Array.length_toList]; omega
          have hrow : ∀ k, k < n → (((blk.toList.drop ((p i).2 + off * en.sz)).take (n * en.sz)).drop (k * en.sz)).take en.sz = (blk.toList.drop ((p i).2 + (off + k) * en.sz)).take en.sz := fun k hk => by
            have hle : (k + 1) * en.sz ≤ n * en.sz := Nat.mul_le_mul_right _ hk
            rw [Nat.add_mul, Nat.one_mul] at hle
            refine List.ext_getElem? fun m => ?_
            by_cases hm : m < en.sz
            · rw [List.getElem?_take, if_pos hm, List.getElem?_drop, List.getElem?_take, if_pos (by omega), List.getElem?_drop, List.getElem?_take, if_pos hm, List.getElem?_drop, Nat.add_mul]
              congr 1
              omega
            · rw [List.getElem?_take, if_neg hm, List.getElem?_take, if_neg hm]
          have hrl2 : ∀ k, k < n → RelL Im p H w.heap (en.rows.getD (off + k) []) ((blk.toList.drop ((p i).2 + (off + k) * en.sz)).take en.sz) := fun k hk => (q3.row (show off + k < en.rows.length by omega)).1
          have hsrc : Src P en.sz tx (.slice (some ⟨(p i).1, (p i).2 + off * en.sz, Option.none⟩) n cap) n ((blk.toList.drop ((p i).2 + off * en.sz)).take (n * en.sz)) w := by
            refine Src.ofSlice w hk _ n cap _ hnl (fun j u hu => ?_) (fun u hu => ?_)
            · have hj : j < n * en.sz := by rw [← hnl]; exact (List.getElem?_eq_some_iff.1 hu).1
              rw [List.getElem?_take, if_pos hj, List.getElem?_drop] at hu
              rw [Addr.add_mid, hc_cell]
              unfold hc
              rw [k1]
              simpa using hu
            · obtain ⟨m, hm⟩ := List.mem_iff_getElem?.1 hu
              have hml : m < n * en.sz := by rw [← hnl]; exact (List.getElem?_eq_some_iff.1 hm).1
              have hpz : 0 < en.sz := by
                rcases Nat.eq_zero_or_pos en.sz with h | h
                · rw [h] at hml; simp at hml
                · exact h
              have h1 : m / en.sz < n := Nat.div_lt_of_lt_mul (by rw [Nat.mul_comm]; exact hml)
              have h2 : m % en.sz < en.sz := Nat.mod_lt _ hpz
              have h3 : m / en.sz * en.sz + m % en.sz = m := by rw [Nat.mul_comm]; exact Nat.div_add_mod m en.sz
              refine (hrl2 _ h1).one u ?_
              rw [← hrow _ h1]
              refine List.mem_iff_getElem?.2 ⟨m % en.sz, ?_⟩
              rw [List.getElem?_take, if_pos h2, List.getElem?_drop, h3]
              exact hm
          exact ⟨_, by rw [ex]; exact hsrc, fun k hk => by rw [hget k hk, hrow k hk]; exact hrl2 k hk⟩
      · cases hl
    · cases hl
  · cases hl
end
end Go.Proofs.Ytiaenojpbiahgaa
