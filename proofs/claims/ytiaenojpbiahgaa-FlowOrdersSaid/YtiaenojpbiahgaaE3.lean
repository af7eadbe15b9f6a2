
/- Functions over abstract data, run by the kernel: code and functions. No program in sight. -/
import Derived.Test.YtiaenojpbiahgaaE2
namespace Go.Proofs.Ytiaenojpbiahgaa
open Go
set_option linter.unusedVariables false
set_option linter.unusedSimpArgs false

/-- One operation: names read, names written, state. -/
def ev1 (t : TE) (N : Nat → Nm) (o : COp) (s : SL) : Option (List Nm × List Nm × SL) :=
  match guardD (frB s.b s.F) o.g with
  | Option.none => Option.none
  | some false => some ([], [], ⟨s.b, putL s.F o.dst (.v undef), s.H⟩)
  | some true =>
    match callee (frB s.b s.F) o.k with
    | some (f, args) => callE t (N o.nm) o.dst s o.b f args
    | Option.none =>
      match effB (N o.nm) (frB s.b s.F) (hp s.H) o.k with
      | some (rs, v, ws) => some (rs, wid ws, ⟨s.b, putL s.F o.dst v, putoL s.H ws⟩)
      | Option.none => Option.none
theorem ev1_ok {t : TE} {N : Nat → Nm} {o : COp} {s s' : SL} {rs ws : List Nm} (h : ev1 t N o s = some (rs, ws, s')) (Q : List Nm → List Nm → St → Prop) (hQ : Q rs ws s'.st) : run1 t.tbl N o s.st Q := by
  unfold ev1 at h
  unfold run1
  have e1 : s.st.H = hp s.H := rfl
  have e2 : s.st.F = frB s.b s.F := rfl
  rw [e1, e2]
  cases hg : guardD (frB s.b s.F) o.g with
  | none => rw [hg] at h; cases h
  | some w =>
    rw [hg] at h
    cases w with
    | false =>
      cases h
      dsimp only
      rw [if_neg Bool.false_ne_true]
      have := hQ
      simp only [SL.st, putL_eq] at this
      exact this
    | true =>
      dsimp only at h ⊢
      rw [if_pos rfl]
      cases hc : callee (frB s.b s.F) o.k with
      | some q =>
        rw [hc] at h
        exact callE_ok h Q hQ
      | none =>
        rw [hc] at h
        dsimp only at h ⊢
        split at h
        · rename_i rs' v ws' he
          obtain ⟨c, k1, k2⟩ := effB_ok he
          rw [k1]
          cases h
          refine ⟨k2, ?_⟩
          have := hQ
          simp only [SL.st, putL_eq, putoL_eq] at this
          exact this
        · cases h
def evL (t : TE) (N : Nat → Nm) : List COp → SL → Option SL
  | [], s => some s
  | o :: os, s =>
    match ev1 t N o s with
    | some (_, _, s') => evL t N os s'
    | Option.none => Option.none
def evD (t : TE) (N : Nat → Nm) : List COp → Nat → Past → SL → Option SL
  | [], _, _, s => some s
  | o :: os, k, l, s =>
    match ev1 t N o s with
    | some (rs, ws, s') => bif chk o.after rs ws l then evD t N os (k + 1) (past k rs ws l) s' else Option.none
    | Option.none => Option.none
theorem evL_ok {t : TE} {N : Nat → Nm} : ∀ {os : List COp} {s s' : SL}, evL t N os s = some s' → ∀ Q : St → Prop, Q s'.st → runL t.tbl N Q os s.st
  | [], s, s', h, Q, hQ => by cases h; exact hQ
  | o :: os, s, s', h, Q, hQ => by
    rw [evL] at h
    split at h
    · rename_i rs ws s1 h1
      rw [runL_c]
      exact ev1_ok h1 _ (evL_ok h Q hQ)
    · cases h
theorem evD_ok {t : TE} {N : Nat → Nm} : ∀ {os : List COp} {k : Nat} {l : Past} {s s' : SL}, evD t N os k l s = some s' → ∀ Q : St → Prop, Q s'.st → runD t.tbl N Q os k l s.st
  | [], k, l, s, s', h, Q, hQ => by cases h; exact hQ
  | o :: os, k, l, s, s', h, Q, hQ => by
    rw [evD] at h
    split at h
    · rename_i rs ws s1 h1
      cases hc : chk o.after rs ws l with
      | false => rw [hc] at h; cases h
      | true =>
        rw [hc] at h
        rw [runD_c]
        exact ev1_ok h1 _ ⟨hc, evD_ok h Q hQ⟩
    · cases h
/-- Code with, at each loop, the temporaries that live on and those whose slices become plain data. -/
inductive CE where
  | skip
  | ops (d : Bool) (l : List COp)
  | seq (a b : CE)
  | cond (x : Opd) (a b : CE)
  | block (id : Nat) (a : CE)
  | loop (live frz : List Nat) (a : CE)
  | exit (id : Nat)
  | ret
def CE.toC : CE → C
  | .skip => .skip
  | .ops d l => .ops d l
  | .seq a b => .seq a.toC b.toC
  | .cond x a b => .cond x a.toC b.toC
  | .block id a => .block id a.toC
  | .loop _ _ a => .loop a.toC
  | .exit id => .exit id
  | .ret => .ret
theorem CE.strip_toC : ∀ c : CE, c.toC.strip = c.toC
  | .skip => rfl
  | .ops _ _ => rfl
  | .seq a b => by simp only [CE.toC, C.strip, CE.strip_toC a, CE.strip_toC b]
  | .cond _ a b => by simp only [CE.toC, C.strip, CE.strip_toC a, CE.strip_toC b]
  | .block _ a => by simp only [CE.toC, C.strip, CE.strip_toC a]
  | .loop _ _ a => by simp only [CE.toC, C.strip, CE.strip_toC a]
  | .exit _ => rfl
  | .ret => rfl
/-- All names in the cells of names. -/
def rowsNms (H : Hp) : List Nm → List Nm
  | [] => []
  | i :: is => (match H i with
    | some e => e.rows.flatMap nmsL
    | Option.none => []) ++ rowsNms H is
def gcF (s : SL) (H : Hp) (frz : List Nat) : List Nat → List (Nat × D)
  | [] => []
  | t :: ts => (t, bif natIn t frz then lend H (lookF s.b t s.F) else lookF s.b t s.F) :: gcF s H frz ts
def frzNms (s : SL) (H : Hp) : List Nat → List Nm
  | [] => []
  | t :: ts => lendNm H (lookF s.b t s.F) ++ frzNms s H ts
def frzOk (s : SL) (H : Hp) : List Nat → Bool
  | [] => true
  | t :: ts => lendOkB H (lookF s.b t s.F) && frzOk s H ts
/-- What lives on at a loop's head. -/
def gc (J : List Nm) (live frz : List Nat) (s : SL) : SL :=
  (fun (F : List (Nat × D)) (ks : List Nm) (H1 : List (Nm × En)) =>
    (fun (n1 : List Nm) =>
      (fun (n2 : List Nm) =>
        (fun (js : List Nm) =>
          bif frzOk s (hp s.H) frz && (refsF js F && (closedB (hp H1) js js && subNm js J)) then ⟨false, F, restrL (hp H1) js⟩ else s)
          (addNm n2 (rowsNms (hp H1) n2)))
        (addNm n1 (rowsNms (hp H1) n1)))
      (addNm J (nmsL (F.map Prod.snd))))
    (gcF s (hp s.H) frz live) (frzNms s (hp s.H) frz) (killsL s.H (frzNms s (hp s.H) frz))
theorem frB_fr (l : List (Nat × D)) : frB false l = fr l := by
  funext t
  induction l with
  | nil => rfl
  | cons q l ih =>
    obtain ⟨k, d⟩ := q
    rw [frB_cons]
    simp only [putF, fr]
    split
    · rfl
    · exact ih
theorem frz_mem {s : SL} {H : Hp} : ∀ {frz : List Nat} {t : Nat}, natIn t frz = true → frzOk s H frz = true → lendOk H (lookF s.b t s.F) ∧ ∀ i ∈ lendNm H (lookF s.b t s.F), i ∈ frzNms s H frz
  | k :: ks, t, h, ho => by
    rw [frzOk, Bool.and_eq_true] at ho
    unfold natIn at h
    split at h
    · rename_i e
      subst e
      exact ⟨lendOkB_ok ho.1, fun i hi => List.mem_append_left _ hi⟩
    · obtain ⟨a, b⟩ := frz_mem h ho.2
      exact ⟨a, fun i hi => List.mem_append_right _ (b i hi)⟩
theorem gcF_cover {s : SL} {frz : List Nat} (ho : frzOk s (hp s.H) frz = true) : ∀ live, coverS s.st.F s.st.H (frzNms s (hp s.H) frz) (gcF s (hp s.H) frz live)
  | [] => trivial
  | t :: ts => by
    refine ⟨?_, gcF_cover ho ts⟩
    cases h : natIn t frz with
    | false => exact .inl rfl
    | true =>
      obtain ⟨a, b⟩ := frz_mem h ho
      exact .inr ⟨rfl, a, b⟩
theorem gc_weak (J : List Nm) (live frz : List Nat) (s : SL) : Weak J s.st (gc J live frz s).st := by
  unfold gc
  dsimp only
  generalize hjs : addNm (addNm (addNm J (nmsL ((gcF s (hp s.H) frz live).map Prod.snd))) (rowsNms (hp (killsL s.H (frzNms s (hp s.H) frz))) (addNm J (nmsL ((gcF s (hp s.H) frz live).map Prod.snd))))) (rowsNms (hp (killsL s.H (frzNms s (hp s.H) frz))) (addNm (addNm J (nmsL ((gcF s (hp s.H) frz live).map Prod.snd))) (rowsNms (hp (killsL s.H (frzNms s (hp s.H) frz))) (addNm J (nmsL ((gcF s (hp s.H) frz live).map Prod.snd)))))) = js
  cases hc : frzOk s (hp s.H) frz && (refsF js (gcF s (hp s.H) frz live) && (closedB (hp (killsL s.H (frzNms s (hp s.H) frz))) js js && subNm js J)) with
  | false => exact Weak.refl _ _
  | true =>
    rw [Bool.and_eq_true, Bool.and_eq_true, Bool.and_eq_true] at hc
    obtain ⟨h1, h2, h3, h4⟩ := hc
    have k3 := closedB_ok h3
    rw [killsL_eq] at k3
    have := weak_to (J := J) (frzNms s (hp s.H) frz) js (gcF s (hp s.H) frz live) (gcF_cover h1 live) h2 k3 (subNm_ok h4)
    have e : (bif true then (⟨false, gcF s (hp s.H) frz live, restrL (hp (killsL s.H (frzNms s (hp s.H) frz))) js⟩ : SL) else s).st = ⟨fr (gcF s (hp s.H) frz live), ((hp s.H).kills (frzNms s (hp s.H) frz)).restr js⟩ := by
      simp only [cond_true, SL.st, frB_fr, restrL_eq, killsL_eq]
    rw [e]
    exact this
def lendK (ks : List Nm) (H : Hp) : D → D
  | .own i g o n => bif nmIn i ks then lend1 H (.own i g o n) else .own i g o n
  | d => d
def lendKd (ks : List Nm) (H : Hp) : D → D
  | .agg cs => .agg (cs.map (lendK ks H))
  | d => lendK ks H d
def okK (ks : List Nm) (H : Hp) : D → Bool
  | .own i g o n => bif nmIn i ks then lendOk1B H (.own i g o n) else true
  | _ => true
def okKd (ks : List Nm) (H : Hp) : D → Bool
  | .agg cs => listB (okK ks H) cs
  | d => okK ks H d
def frzRows (ks : List Nm) (H : Hp) (e : En) : En := ⟨e.g, e.sz, e.rows.map fun r => r.map (lendK ks H)⟩
def frzF (ks : List Nm) (H : Hp) : List (Nat × D) → List (Nat × D)
  | [] => []
  | (t, d) :: l => (t, lendKd ks H d) :: frzF ks H l
def frzH (ks : List Nm) (H : Hp) : List (Nm × En) → List (Nm × En)
  | [] => []
  | (i, e) :: l => (i, frzRows ks H e) :: frzH ks H l
/-- Slices in the cells of slices become plain data. -/
def freeze (ks : List Nm) (s : SL) : SL :=
  bif listB (fun q => okKd ks (hp s.H) q.2) s.F && listB (fun q => listB (fun r => listB (okK ks (hp s.H)) r) q.2.rows) s.H then
    ⟨s.b, frzF ks (hp s.H) s.F, frzH ks (hp s.H) (killsL s.H ks)⟩
  else s
theorem frzF_at (b : Bool) (ks : List Nm) (H : Hp) (t : Nat) : ∀ l : List (Nat × D), lookF b t (frzF ks H l) = lendKd ks H (lookF b t l)
  | [] => by cases b <;> rfl
  | (k, d) :: l => by
    simp only [frzF, lookF]
    cases Nat.beq t k with
    | true => rfl
    | false => exact frzF_at b ks H t l
theorem frzH_at (ks : List Nm) (H : Hp) (i : Nm) : ∀ l : List (Nm × En), lookH i (frzH ks H l) = (lookH i l).map (frzRows ks H)
  | [] => rfl
  | (k, d) :: l => by
    simp only [frzH, lookH]
    cases nmEq i k with
    | true => rfl
    | false => exact frzH_at ks H i l
theorem lookF_mem {b : Bool} {t : Nat} : ∀ {l : List (Nat × D)}, (∃ q ∈ l, q.2 = lookF b t l) ∨ lookF b t l = .v undef ∨ lookF b t l = .any
  | [] => by cases b <;> simp [lookF]
  | (k, d) :: l => by
    simp only [lookF]
    cases Nat.beq t k with
    | true => exact .inl ⟨_, List.mem_cons_self .., rfl⟩
    | false =>
      rcases @lookF_mem b t l with ⟨q, h1, h2⟩ | h
      · exact .inl ⟨q, List.mem_cons_of_mem _ h1, h2⟩
      · exact .inr h
theorem lookH_mem {i : Nm} {e : En} : ∀ {l : List (Nm × En)}, lookH i l = some e → ∃ q ∈ l, q.2 = e
  | (k, d) :: l, h => by
    simp only [lookH] at h
    cases hk : nmEq i k with
    | true => rw [hk] at h; cases h; exact ⟨_, List.mem_cons_self .., rfl⟩
    | false =>
      rw [hk] at h
      obtain ⟨q, h1, h2⟩ := lookH_mem h
      exact ⟨q, List.mem_cons_of_mem _ h1, h2⟩
theorem kill_other {H : Hp} {i j : Nm} (h : j ≠ i) : H.kill i j = H j := by
  unfold Hp.kill
  cases H i with
  | some e => exact Hp.put_other _ h _
  | none => rfl
theorem kill_rows {H : Hp} {i j : Nm} {e : En} (h : H.kill i j = some e) (hn : e.rows ≠ []) : H j = some e ∧ j ≠ i := by
  by_cases hj : j = i
  · subst hj
    cases hi : H j with
    | some e0 =>
      simp only [Hp.kill, hi, Hp.put_same, Option.some.injEq] at h
      rw [← h] at hn
      exact absurd rfl hn
    | none =>
      simp only [Hp.kill, hi] at h
      cases h
  · rw [kill_other hj] at h
    exact ⟨h, hj⟩
theorem kills_rows {j : Nm} {e : En} : ∀ {ks : List Nm} {H : Hp}, H.kills ks j = some e → e.rows ≠ [] → H j = some e ∧ j ∉ ks
  | [], H, h, hn => ⟨h, by simp⟩
  | k :: ks, H, h, hn => by
    rw [Hp.kills] at h
    obtain ⟨h1, h2⟩ := kills_rows (ks := ks) h hn
    obtain ⟨h3, h4⟩ := kill_rows h1 hn
    exact ⟨h3, by simp [h4, h2]⟩
theorem lendK_rel {Im Im' : Nat → Prop} {p : Pl} {H H' : Hp} {h : Array Obj} (R : RelH Im p H h) (G : Grows Im p H h Im' p H' h) {d : D} {u : Value} (r : Rel Im p H h d u) {ks : List Nm} (ok : okK ks H d = true) (hk : ∀ i ∈ ks, ∀ e, H i = some e → e.rows ≠ [] → Im' (p i).1) : Rel Im' p H' h (lendK ks H d) u := by
  cases d with
  | own i g o n =>
    unfold lendK
    unfold okK at ok
    dsimp only at ok ⊢
    cases hi : nmIn i ks with
    | false => exact r.mono G
    | true =>
      rw [hi] at ok
      refine lend1_rel R G r (lendOk1B_ok ok) fun j hj => ?_
      unfold lendNm1 at hj
      dsimp only at hj
      split at hj
      · split at hj
        · rw [List.mem_singleton.1 hj]; exact hk i (nmIn_iff.1 hi)
        · cases hj
      · cases hj
  | _ => exact r.mono G
theorem lendKd_rel {Im Im' : Nat → Prop} {p : Pl} {H H' : Hp} {h : Array Obj} (R : RelH Im p H h) (G : Grows Im p H h Im' p H' h) {d : D} {u : Value} (r : Rel Im p H h d u) {ks : List Nm} (ok : okKd ks H d = true) (hk : ∀ i ∈ ks, ∀ e, H i = some e → e.rows ≠ [] → Im' (p i).1) : Rel Im' p H' h (lendKd ks H d) u := by
  cases d with
  | agg cs =>
    obtain ⟨us, rfl, RL⟩ := RelL.of_agg r
    have : RelL Im' p H' h (cs.map (lendK ks H)) us.toList := by
      refine ⟨by rw [List.length_map, RL.len], fun j d u hd hu => ?_⟩
      rw [List.getElem?_map] at hd
      cases hc : cs[j]? with
      | none => rw [hc] at hd; cases hd
      | some c =>
        rw [hc] at hd
        cases hd
        obtain ⟨k1, k2⟩ := RL.cell j c u hc hu
        exact ⟨lendK_rel R G k1 (listB_iff ok c (List.mem_of_getElem? hc)) hk, k2⟩
    have k := this.rel
    simp only [Array.toArray_toList] at k
    exact k
  | v => exact lendK_rel R G r ok hk
  | any => exact lendK_rel R G r ok hk
  | tup => exact lendK_rel R G r ok hk
  | sl => exact lendK_rel R G r ok hk
  | ip => exact lendK_rel R G r ok hk
  | mt => exact lendK_rel R G r ok hk
  | own => exact lendK_rel R G r ok hk
  | ptr => exact lendK_rel R G r ok hk
  | clo => exact lendK_rel R G r ok hk
theorem freeze_weak (J ks : List Nm) (s : SL) : Weak J s.st (freeze ks s).st := by
  unfold freeze
  cases hc : listB (fun q => okKd ks (hp s.H) q.2) s.F && listB (fun q => listB (fun r => listB (okK ks (hp s.H)) r) q.2.rows) s.H with
  | false => exact Weak.refl _ _
  | true =>
    rw [Bool.and_eq_true] at hc
    obtain ⟨c1, c2⟩ := hc
    intro E hE Im p a w hR
    have hRp : RelH Im p (hp s.H) w.heap := hR.hp
    obtain ⟨Im', g1, r1, x1, b1⟩ := kills_spec (E := E) (w := w) ks Im (hp s.H) hRp hR.en
    have e2 : ∀ i, hp (frzH ks (hp s.H) (killsL s.H ks)) i = (((hp s.H).kills ks) i).map (frzRows ks (hp s.H)) := fun i => by
      rw [← killsL_eq]
      exact frzH_at ks (hp s.H) i _
    have g2 : Grows Im' p ((hp s.H).kills ks) w.heap Im' p (hp (frzH ks (hp s.H) (killsL s.H ks))) w.heap := by
      refine ⟨fun _ h => h, fun _ _ => rfl, fun i e hi => ⟨frzRows ks (hp s.H) e, by rw [e2, hi]; rfl, Nat.le_refl _, fun _ => ⟨rfl, rfl, fun hn => ⟨?_, fun c t hct => ⟨c, hct, rfl⟩⟩⟩⟩⟩
      intro k
      unfold frzRows at k
      exact hn (List.map_eq_nil_iff.1 k)
    have back : ∀ i e, hp (frzH ks (hp s.H) (killsL s.H ks)) i = some e → e.rows ≠ [] → ∃ e0, hp s.H i = some e0 ∧ e0.rows ≠ [] ∧ e = frzRows ks (hp s.H) e0 ∧ i ∉ ks ∧ ((hp s.H).kills ks) i = some e0 := fun i e hi hn => by
      rw [e2] at hi
      cases hk : ((hp s.H).kills ks) i with
      | none => rw [hk] at hi; cases hi
      | some e0 =>
        rw [hk] at hi
        cases hi
        have hn0 : e0.rows ≠ [] := fun k => hn (by unfold frzRows; rw [k]; rfl)
        obtain ⟨q1, q2⟩ := kills_rows hk hn0
        exact ⟨e0, q1, hn0, rfl, q2, rfl⟩
    refine ⟨Im', p, hR.sz, fun t => ?_, ⟨fun i e hi hn => ?_, fun i j e e' hi hj hn hn' hij => ?_, r1.im⟩, ⟨x1.os, x1.tape, x1.output, x1.size, x1.block, x1.im, x1.im', fun i e hi hn => ?_⟩, (hR.gr.trans g1).trans g2, hR.df⟩
    · have hf : okKd ks (hp s.H) (lookF s.b t s.F) = true := by
        rcases @lookF_mem s.b t s.F with ⟨q, h1, h2⟩ | h | h
        · rw [← h2]; exact listB_iff c1 q h1
        · rw [h]; rfl
        · rw [h]; rfl
      have := lendKd_rel hRp (g1.trans g2) (hR.fr t) hf b1
      show Rel Im' p _ w.heap (lookF s.b t (frzF ks (hp s.H) s.F)) _
      rw [frzF_at]
      exact this
    · obtain ⟨e0, q1, q2, rfl, q4, _⟩ := back i e hi hn
      obtain ⟨c, t, k1, k2, k3⟩ := hRp.cell i e0 q1 q2
      have hk1 := r1.cell i e0 (by assumption) q2
      obtain ⟨c', t', k1', k2', k3'⟩ := hk1
      refine ⟨c, t, k1, k2', fun r hr => ?_, ?_, fun r j row d hr hd => ?_⟩
      · obtain ⟨r0, hr0, rfl⟩ := List.mem_map.1 hr
        rw [List.length_map]
        exact k3.len r0 hr0
      · have := k3.le
        show (p i).2 + (e0.rows.map _).length * e0.sz ≤ c.size
        rw [List.length_map]
        exact this
      · have hr' : (e0.rows.map fun r => r.map (lendK ks (hp s.H)))[r]? = some row := hr
        rw [List.getElem?_map] at hr'
        cases h0 : e0.rows[r]? with
        | none => rw [h0] at hr'; cases hr'
        | some r0 =>
          rw [h0] at hr'
          cases hr'
          rw [List.getElem?_map] at hd
          cases h1 : r0[j]? with
          | none => rw [h1] at hd; cases hd
          | some d0 =>
            rw [h1] at hd
            cases hd
            obtain ⟨u, u1, u2, u3⟩ := k3.cell r j r0 d0 h0 h1
            obtain ⟨q, m1, m2⟩ := lookH_mem q1
            have ok0 := listB_iff (listB_iff (listB_iff c2 q m1) r0 (by rw [m2]; exact List.mem_of_getElem? h0)) d0 (List.mem_of_getElem? h1)
            exact ⟨u, u1, lendK_rel hRp (g1.trans g2) u2 ok0 b1, u3⟩
    · obtain ⟨e0, q1, q2, _, _, _⟩ := back i e hi hn
      obtain ⟨e0', q1', q2', _, _, _⟩ := back j e' hj hn'
      exact hRp.inj i j e0 e0' q1 q1' q2 q2' hij
    · obtain ⟨e0, q1, q2, _, _, q5⟩ := back i e hi hn
      exact x1.ids i e0 q5 q2
mutual
def D.owns : D → List Nm
  | .own i _ _ _ => [i]
  | .agg cs => ownsL cs
  | .tup cs => ownsL cs
  | .clo _ fs cs => ownsL fs ++ ownsL cs
  | _ => []
def ownsL : List D → List Nm
  | [] => []
  | d :: ds => d.owns ++ ownsL ds
end
mutual
def D.ptrs : D → List Nm
  | .ptr i _ _ _ => [i]
  | .agg cs => ptrsL cs
  | .tup cs => ptrsL cs
  | .clo _ fs cs => ptrsL fs ++ ptrsL cs
  | _ => []
def ptrsL : List D → List Nm
  | [] => []
  | d :: ds => d.ptrs ++ ptrsL ds
end
def inRows (f : List D → List Nm) (H : Hp) : List Nm → List Nm
  | [] => []
  | i :: is => (match H i with
    | some e => e.rows.flatMap f
    | Option.none => []) ++ inRows f H is
/-- Slices in the cells of slices. -/
def deep (s : SL) : List Nm :=
  (fun (ds : List D) =>
    (fun (p1 : List Nm) =>
      (fun (p2 : List Nm) => addNm [] (inRows ownsL (hp s.H) (addNm [] (ownsL ds ++ inRows ownsL (hp s.H) p2))))
        (addNm p1 (inRows ptrsL (hp s.H) p1)))
      (addNm [] (ptrsL ds)))
    (s.F.map Prod.snd)
/-- What lives on at a loop's head; slices in the cells of slices become plain data. -/
def gcc (J : List Nm) (live frz : List Nat) (s : SL) : SL :=
  bif natIn 1000000 frz then gc J live [] s
  else
    (fun (s1 : SL) =>
      match deep s1 with
      | [] => s1
      | k :: ks => gc J live [] (freeze (k :: ks) s1)) (gc J live frz s)
theorem gcc_weak (J : List Nm) (live frz : List Nat) (s : SL) : Weak J s.st (gcc J live frz s).st := by
  unfold gcc
  cases natIn 1000000 frz with
  | true => exact gc_weak J live [] s
  | false =>
    dsimp only [cond_false]
    split
    · exact gc_weak J live frz s
    · exact (gc_weak J live frz s).trans ((freeze_weak J _ _).trans (gc_weak J live [] _))
def loopE (body : SL → Option (Ex × SL)) (g : SL → SL) : Nat → SL → Option (Ex × SL)
  | 0, _ => Option.none
  | n + 1, s =>
    match body s with
    | some (.nrm, s') => loopE body g n (g s')
    | some (e, s') => some (e, s')
    | Option.none => Option.none
def evC (t : TE) (N : Nat → Nm) (J : List Nm) (n : Nat) : CE → SL → Option (Ex × SL)
  | .skip, s => some (.nrm, s)
  | .ops d l, s =>
    match (bif d then evD t N l 0 [] s else evL t N l s) with
    | some s' => some (.nrm, s')
    | Option.none => Option.none
  | .seq a b, s =>
    match evC t N J n a s with
    | some (.nrm, s') => evC t N J n b s'
    | some (e, s') => some (e, s')
    | Option.none => Option.none
  | .cond x a b, s =>
    match x.ev (frB s.b s.F) with
    | .v (.bool true) => evC t N J n a s
    | .v (.bool false) => evC t N J n b s
    | _ => Option.none
  | .block id a, s =>
    match evC t N J n a s with
    | some (.exit k, s') => bif Nat.beq k id then some (.nrm, s') else some (.exit k, s')
    | some (e, s') => some (e, s')
    | Option.none => Option.none
  | .loop live frz a, s => loopE (evC t N J n a) (gcc J live frz) n (gcc J live frz s)
  | .exit id, s => some (.exit id, s)
  | .ret, s => some (.ret, s)
theorem evC_ok {t : TE} {N : Nat → Nm} {J : List Nm} {n : Nat} : ∀ {c : CE} {s s' : SL} {e : Ex}, evC t N J n c s = some (e, s') → ∀ Q : Ex → St → Prop, Q e s'.st → vc t.tbl N J c.toC Q s.st
  | .skip, s, s', e, h, Q, hQ => by cases h; exact hQ
  | .ops d l, s, s', e, h, Q, hQ => by
    unfold evC at h
    cases d with
    | true =>
      dsimp only [cond_true] at h
      split at h
      · rename_i s1 h1
        cases h
        unfold CE.toC
        rw [vc_opsD]
        exact evD_ok h1 _ hQ
      · cases h
    | false =>
      dsimp only [cond_false] at h
      split at h
      · rename_i s1 h1
        cases h
        unfold CE.toC
        rw [vc_opsL]
        exact evL_ok h1 _ hQ
      · cases h
  | .seq a b, s, s', e, h, Q, hQ => by
    unfold evC at h
    unfold CE.toC
    rw [vc_seq]
    split at h
    · rename_i s1 h1
      exact evC_ok h1 _ (evC_ok h Q hQ)
    · rename_i e1 s1 hne h1
      cases h
      refine evC_ok h1 _ ?_
      cases e with
      | nrm => simp at hne
      | exit k => exact hQ
      | ret => exact hQ
    · cases h
  | .cond x a b, s, s', e, h, Q, hQ => by
    unfold evC at h
    unfold CE.toC
    rw [vc_cond]
    have e2 : s.st.F = frB s.b s.F := rfl
    rw [e2]
    split at h
    · rename_i hx
      rw [hx]
      exact evC_ok h Q hQ
    · rename_i hx
      rw [hx]
      exact evC_ok h Q hQ
    · cases h
  | .block id a, s, s', e, h, Q, hQ => by
    unfold evC at h
    unfold CE.toC
    rw [vc_block]
    split at h
    · rename_i k s1 h1
      refine evC_ok h1 _ ?_
      rw [blockQ_e]
      by_cases hk : k = id
      · subst hk
        rw [Nat.beq_refl] at h
        cases h
        rw [if_pos rfl]
        exact hQ
      · rw [if_neg hk]
        rw [Bool.eq_false_iff.2 (fun q => hk (Nat.eq_of_beq_eq_true q))] at h
        cases h
        exact hQ
    · rename_i e1 s1 hne h1
      cases h
      refine evC_ok h1 _ ?_
      cases e with
      | nrm => exact hQ
      | exit k => simp at hne
      | ret => exact hQ
    · cases h
  | .loop live frz a, s, s', e, h, Q, hQ => by
    unfold evC at h
    unfold CE.toC
    rw [vc_loop]
    refine ⟨fun k st => ∃ s1 : SL, st = s1.st ∧ loopE (evC t N J n a) (gcc J live frz) k s1 = some (e, s'), ⟨n, _, gcc_weak J live frz s, _, rfl, h⟩, ?_⟩
    rintro k st ⟨s1, rfl, h1⟩
    cases k with
    | zero => cases h1
    | succ k =>
      rw [loopE] at h1
      split at h1
      · rename_i s2 h2
        exact evC_ok h2 _ ⟨k, _, Nat.lt_succ_self k, gcc_weak J live frz s2, _, rfl, h1⟩
      · rename_i e1 s2 hne h2
        cases h1
        refine evC_ok h2 _ ?_
        cases e with
        | nrm => simp at hne
        | exit k => exact hQ
        | ret => exact hQ
      · cases h1
  | .exit id, s, s', e, h, Q, hQ => by cases h; exact hQ
  | .ret, s, s', e, h, Q, hQ => by cases h; exact hQ
/-- What is known of a function. -/
structure FI where
  c : CE
  rvs : List RV
  nt : Nat
  kp : Bool
  new : List Nat
def resB (s : SL) : RV → Option D
  | .tmp t => some (lookF s.b t s.F)
  | .cell t sz ag =>
    match lookF s.b t s.F with
    | .ptr i g r c =>
      match lookH i s.H with
      | some e => if e.g = g then (bif decide (r < e.rows.length ∧ c + sz ≤ (e.rows.getD r []).length) then some (cellsAt (e.rows.getD r []) c sz ag) else Option.none) else Option.none
      | Option.none => Option.none
    | _ => Option.none
def resLB (s : SL) : List RV → Option (List D)
  | [] => some []
  | v :: vs =>
    match resB s v, resLB s vs with
    | some d, some ds => some (d :: ds)
    | _, _ => Option.none
theorem resB_ok {s : SL} {v : RV} {d : D} (h : resB s v = some d) : ∃ c, resD s.st v = some (c, d) ∧ c := by
  unfold resB at h
  unfold resD
  cases v with
  | tmp t => cases h; exact ⟨_, rfl, trivial⟩
  | cell t sz ag =>
    dsimp only at h ⊢
    have e2 : s.st.F t = lookF s.b t s.F := rfl
    rw [e2]
    split at h
    · rename_i i g r c hF
      rw [hF]
      dsimp only
      have e1 : s.st.H i = lookH i s.H := rfl
      rw [e1]
      split at h
      · rename_i e he
        rw [he]
        dsimp only
        split at h
        · rename_i hg
          rw [if_pos hg]
          obtain ⟨hc, e⟩ := ifB h
          cases e
          exact ⟨_, rfl, hc⟩
        · cases h
      · cases h
    · cases h
theorem resLB_ok {s : SL} : ∀ {vs : List RV} {ds : List D}, resLB s vs = some ds → ∃ c, resL s.st vs = some (c, ds) ∧ c
  | [], ds, h => by cases h; exact ⟨_, rfl, trivial⟩
  | v :: vs, ds, h => by
    rw [resLB] at h
    split at h
    · rename_i d ds' h1 h2
      cases h
      obtain ⟨c, k1, k2⟩ := resB_ok h1
      obtain ⟨c', q1, q2⟩ := resLB_ok h2
      exact ⟨c ∧ c', by rw [resL, k1, q1], k2, q2⟩
    · cases h
def retE (js : List Nm) (v : D) (H : List (Nm × En)) : Option (D × Hp) :=
  bif v.refsIn js && closedB (hp H) js js then some (v, hp (restrL (hp H) js)) else Option.none
def finE (fi : FI) (js : List Nm) (s : SL) : Option (D × Hp) :=
  match resLB s fi.rvs with
  | some vs =>
    bif fi.kp then retE js (packD vs) s.H
    else bif lendOkTB (hp s.H) (packD vs) then retE js (lendT (hp s.H) (packD vs)) (killsL s.H (lendNmT (hp s.H) (packD vs))) else Option.none
  | Option.none => Option.none
theorem retE_ok {js : List Nm} {v v' : D} {H : List (Nm × En)} {H' : Hp} (h : retE js v H = some (v', H')) : retB js (fun d h => d = v' ∧ h = H') v (hp H) := by
  unfold retE at h
  cases hc : v.refsIn js && closedB (hp H) js js with
  | false => rw [hc] at h; cases h
  | true =>
    rw [hc] at h
    rw [Bool.and_eq_true] at hc
    cases h
    exact ⟨hc.1, closedB_ok hc.2, rfl, (restrL_eq _ _).symm⟩
theorem finE_ok {fi : FI} {js : List Nm} {s : SL} {v : D} {H' : Hp} (h : finE fi js s = some (v, H')) (e : Ex) (he : ∀ k, e ≠ .exit k) : finQ fi.rvs js fi.kp (fun d h => d = v ∧ h = H') e s.st := by
  have key : ∃ c vs, resL s.st fi.rvs = some (c, vs) ∧ c ∧ retA js fi.kp (fun d h => d = v ∧ h = H') (packD vs) s.st.H := by
    unfold finE at h
    split at h
    · rename_i vs hvs
      obtain ⟨c, k1, k2⟩ := resLB_ok hvs
      refine ⟨c, vs, k1, k2, ?_⟩
      unfold retA
      have e1 : s.st.H = hp s.H := rfl
      rw [e1]
      cases hk : fi.kp with
      | true =>
        rw [hk] at h
        rw [if_pos rfl]
        exact retE_ok h
      | false =>
        rw [hk] at h
        rw [if_neg Bool.false_ne_true]
        dsimp only [cond_false] at h
        cases hl : lendOkTB (hp s.H) (packD vs) with
        | false => rw [hl] at h; cases h
        | true =>
          rw [hl] at h
          refine ⟨lendOkTB_ok hl, ?_⟩
          rw [← killsL_eq]
          exact retE_ok h
    · cases h
  obtain ⟨c, vs, k1, k2, k3⟩ := key
  cases e with
  | nrm => rw [finQ_n, k1]; exact ⟨k2, k3⟩
  | ret => rw [finQ_r, k1]; exact ⟨k2, k3⟩
  | exit k => exact absurd rfl (he k)
def argL (k : Nat) : List D → List (Nat × D)
  | [] => []
  | d :: ds => (k, d) :: argL (k + 1) ds
theorem argL_eq : ∀ (ds : List D) (k : Nat), frB true (argL k ds) = argFrom k ds
  | [], k => rfl
  | d :: ds, k => by
    rw [argL, frB_cons, argL_eq ds (k + 1)]
    rfl
def layer : List Nm → Nat
  | [] => 0
  | i :: is => bif Nat.ble (layer is) i.1 then i.1 + 1 else layer is
def haveB (H : Hp) (nn : Nm) : List Nm → Bool
  | [] => true
  | i :: is => ((H i).isSome || nmEq i nn) && haveB H nn is
theorem haveB_ok {H : Hp} {nn : Nm} : ∀ {js : List Nm}, haveB H nn js = true → ∀ i ∈ js, (H i).isSome = true ∨ i = nn
  | j :: js, h, i, hi => by
    rw [haveB, Bool.and_eq_true, Bool.or_eq_true] at h
    cases hi with
    | head => exact h.1.imp id (nmEq_iff _ _).1
    | tail _ hi => exact haveB_ok h.2 i hi
def callB (codes : FuncId → Option FI) (lf : Nat) (t : TE) (f : FuncId) (args : List D) (Hs : Hp) (nn : Nm) : Option (D × Hp) :=
  match codes f with
  | Option.none => Option.none
  | some fi =>
    (fun (js : List Nm) =>
      bif haveB Hs nn js && Nat.ble args.length fi.nt then
        match evC t (fun k => bif natIn k fi.new then nn else (layer js, k)) js lf fi.c ⟨true, argL 0 args, restrL Hs js⟩ with
        | some (.exit _, _) => Option.none
        | some (_, s) => finE fi js s
        | Option.none => Option.none
      else Option.none) (bif fi.kp then nn :: reach Hs args else reach Hs args)
/-- Runs of functions with at most so many calls within one another. -/
def evF (codes : FuncId → Option FI) (lf : Nat) : Nat → TE
  | 0 => fun _ _ _ _ => Option.none
  | n + 1 => callB codes lf (evF codes lf n)
/-- What is known of functions is so. -/
def CodesOk (P : Program) (codes : FuncId → Option FI) : Prop := ∀ f fi, codes f = some fi → fnOk P f = true ∧ ∃ fn code, P.funcs[f]? = some fn ∧ fn.body = some code ∧ compC P fn.ntmps code = some fi.c.toC ∧ compRes P fn.results.toList = some fi.rvs ∧ fi.nt ≤ fn.ntmps
theorem restr_dom {Hs : Hp} {js : List Nm} (h : ∀ i e, Hs i = some e → i ∈ js) : Hs.restr js = Hs := by
  funext i
  by_cases hm : i ∈ js
  · exact restr_in hm
  · rw [restr_out hm]
    cases hi : Hs i with
    | none => rfl
    | some e => exact absurd (h i e hi) hm
theorem callB_ok {P : Program} {codes : FuncId → Option FI} (hm : P.follows .mixedOrders = true) (hC : CodesOk P codes) {lf : Nat} {t : TE} (ht : TblOk P t.tbl) {f : FuncId} {args : List D} {Hs : Hp} {nn : Nm} {v : D} {H' : Hp} (h : callB codes lf t f args Hs nn = some (v, H')) :
    fnOk P f = true ∧ (Dom Hs (reach Hs args) → CallsA P f args Hs nn fun d h => d = v ∧ h = H') := by
  unfold callB at h
  split at h
  · cases h
  · rename_i fi hf
    obtain ⟨h1, fn, code, h2, h3, h4, h5, h6⟩ := hC f fi hf
    refine ⟨h1, fun hd => ?_⟩
    dsimp only at h
    generalize hjs : (bif fi.kp then nn :: reach Hs args else reach Hs args) = js at h
    have hd' : ∀ i e, Hs i = some e → i ∈ js := fun i e hi => by
      have := hd i e hi
      rw [← hjs]
      cases fi.kp with
      | true => exact List.mem_cons_of_mem _ this
      | false => exact this
    cases hb : haveB Hs nn js && Nat.ble args.length fi.nt with
    | false => rw [hb] at h; cases h
    | true =>
      rw [hb] at h
      rw [Bool.and_eq_true] at hb
      dsimp only [cond_true] at h
      have ha : args.length ≤ fn.ntmps := Nat.le_trans (Nat.le_of_ble_eq_true hb.2) h6
      refine callsA_of ht hm (N := fun k => bif natIn k fi.new then nn else (layer js, k)) h2 h3 (c := fi.c.toC) (by rw [CE.strip_toC]; exact h4) h5 js fi.kp hd' (haveB_ok hb.1) ha ?_
      have e0 : (⟨argFrom 0 args, Hs⟩ : St) = (⟨true, argL 0 args, restrL Hs js⟩ : SL).st := by
        simp only [SL.st, argL_eq, restrL_eq, restr_dom hd']
      rw [e0]
      split at h
      · cases h
      · rename_i e s he hs
        refine evC_ok hs _ (finE_ok h e fun k hk => ?_)
        subst hk
        exact he _ rfl
      · cases h
theorem evF_tbl {P : Program} {codes : FuncId → Option FI} (hm : P.follows .mixedOrders = true) (hC : CodesOk P codes) (lf : Nat) : ∀ n, TblOk P (evF codes lf n).tbl
  | 0 => fun f args Hs nn pre R h => by cases h
  | n + 1 => fun f args Hs nn pre R h => by
    unfold TE.tbl at h
    split at h
    · rename_i v H' hv
      cases h
      obtain ⟨h1, h2⟩ := callB_ok hm hC (evF_tbl hm hC lf n) hv
      exact ⟨h1, fun hd => ⟨⟨v, H', rfl, rfl⟩, h2 hd⟩⟩
    · cases h
/-- A run is a contract. -/
theorem evF_ok {P : Program} {codes : FuncId → Option FI} (hm : P.follows .mixedOrders = true) (hC : CodesOk P codes) {lf n : Nat} {f : FuncId} {args : List D} {nn : Nm} {v : D} {H' : Hp} (h : evF codes lf n f args Hp.none nn = some (v, H')) : CallsA P f args Hp.none nn fun d h => d = v ∧ h = H' := by
  cases n with
  | zero => cases h
  | succ n => exact (callB_ok hm hC (evF_tbl hm hC lf n) h).2 fun i e hi => by cases hi
/-- A list of codes. -/
def findC (f : FuncId) : List (FuncId × FI) → Option FI
  | [] => Option.none
  | (g, fi) :: l => bif Nat.beq f g then some fi else findC f l
def OneOk (P : Program) (f : FuncId) (fi : FI) : Prop := fnOk P f = true ∧ ∃ fn code, P.funcs[f]? = some fn ∧ fn.body = some code ∧ compC P fn.ntmps code = some fi.c.toC ∧ compRes P fn.results.toList = some fi.rvs ∧ fi.nt ≤ fn.ntmps
def AllOk (P : Program) : List (FuncId × FI) → Prop
  | [] => True
  | (f, fi) :: l => OneOk P f fi ∧ AllOk P l
theorem codesOk_of {P : Program} : ∀ {l : List (FuncId × FI)}, AllOk P l → CodesOk P (fun f => findC f l)
  | [], _ => fun f fi h => by cases h
  | (g, gi) :: l, h => fun f fi hf => by
    dsimp only [findC] at hf
    cases hb : Nat.beq f g with
    | true =>
      rw [hb] at hf
      cases hf
      rw [Nat.eq_of_beq_eq_true hb]
      exact h.1
    | false =>
      rw [hb] at hf
      exact codesOk_of h.2 f fi hf
end Go.Proofs.Ytiaenojpbiahgaa
