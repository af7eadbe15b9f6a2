
/- Operations over abstract data: append. -/
import Derived.Test.YtiaenojpbiahgaaVi
import Derived.Deep.Upon
namespace Go.Proofs.Ytiaenojpbiahgaa
open Go
set_option linter.unusedVariables false
set_option linter.unusedSimpArgs false
section
variable {P : Program}
theorem grownCap_ge (w : World) (need old : Nat) (e : TypeId) : need ≤ grownCap w need old e := by
  unfold grownCap Question.cut
  exact Nat.le_add_right _ _
/-- Rows behind rows, in one list of cells. -/
theorem RowsAt.two {Im : Nat → Prop} {p : Pl} {H : Hp} {h : Array Obj} {rows l : List (List D)} {sz s : Nat} {c : Array Value} {olds news : List Value} (h1 : ∀ r ∈ rows, r.length = sz) (h2 : ∀ r ∈ l, r.length = sz) (ho : olds.length = rows.length * sz) (hn : news.length = l.length * sz)
    (ro : ∀ k, k < rows.length → RelL Im p H h (rows.getD k []) ((olds.drop (k * sz)).take sz)) (rn : ∀ k, k < l.length → RelL Im p H h (l.getD k []) ((news.drop (k * sz)).take sz)) (hsize : s + (rows.length + l.length) * sz ≤ c.size) (hc : ∀ m, m < (rows.length + l.length) * sz → c.toList[s + m]? = (olds ++ news)[m]?) :
    RowsAt Im p H h c s sz (rows ++ l) := by
  refine RowsAt.of (fun r hr => (List.mem_append.1 hr).elim (h1 r) (h2 r)) (by rw [List.length_append]; exact hsize) fun k hk => ?_
  rw [List.length_append] at hk
  have hle : (k + 1) * sz ≤ (rows.length + l.length) * sz := Nat.mul_le_mul_right _ hk
  rw [Nat.add_mul, Nat.one_mul] at hle
  by_cases hkr : k < rows.length
  · have hle' : (k + 1) * sz ≤ rows.length * sz := Nat.mul_le_mul_right _ hkr
    rw [Nat.add_mul, Nat.one_mul] at hle'
    have e1 : (rows ++ l).getD k [] = rows.getD k [] := by rw [List.getD_eq_getElem?_getD, List.getD_eq_getElem?_getD, List.getElem?_append_left hkr]
    have e2 : (c.toList.drop (s + k * sz)).take sz = (olds.drop (k * sz)).take sz := by
      refine List.ext_getElem? fun m => ?_
      by_cases hm : m < sz
      · rw [List.getElem?_take, if_pos hm, List.getElem?_drop, List.getElem?_take, if_pos hm, List.getElem?_drop, Nat.add_assoc, hc _ (by omega), List.getElem?_append_left (by omega)]
      · rw [List.getElem?_take, if_neg hm, List.getElem?_take, if_neg hm]
    rw [e1, e2]
    exact ro k hkr
  · have hkl : k - rows.length < l.length := by omega
    have e1 : (rows ++ l).getD k [] = l.getD (k - rows.length) [] := by rw [List.getD_eq_getElem?_getD, List.getD_eq_getElem?_getD, List.getElem?_append_right (by omega)]
    have hmul : (k - rows.length) * sz = k * sz - rows.length * sz := Nat.sub_mul _ _ _
    have hge : rows.length * sz ≤ k * sz := Nat.mul_le_mul_right _ (by omega)
    have e2 : (c.toList.drop (s + k * sz)).take sz = (news.drop ((k - rows.length) * sz)).take sz := by
      refine List.ext_getElem? fun m => ?_
      by_cases hm : m < sz
      · rw [List.getElem?_take, if_pos hm, List.getElem?_drop, List.getElem?_take, if_pos hm, List.getElem?_drop, Nat.add_assoc, hc _ (by omega), List.getElem?_append_right (by omega)]
        congr 1
        omega
      · rw [List.getElem?_take, if_neg hm, List.getElem?_take, if_neg hm]
    rw [e1, e2]
    exact rn _ hkl
theorem snd_app {t tx e e' : TypeId} {x y : Operand} {x' y' : Opd} {ei : TypeInfo} {zv : Value} {sz bytes : Nat} (hx : OpdOk x x') (hy : OpdOk y y') (hu : P.underlying t = some (.slice e)) (hk : P.underlying tx = some (.slice e')) (hei : P.info? e = some ei) (hz : ei.zero = some zv) (hsz : ei.size = sz) (hzs : zv.cells.size = sz) (hby : ei.bytes = bytes) (hpos : 0 < sz) :
    SoundK P (.call { callee := .builtin .append, args := #[x, y], argTypes := #[t, tx] }) (.app sz bytes x' y') := fun E Im p s a w nm o d ho hR he hcd => by
  have r := hx _ _ _ _ _ _ hR
  have r' := hy _ _ _ _ _ _ hR
  subst hsz hby
  have exe : ∀ {v : Value} {w' : World}, (Builtin.append_ #[t, tx] d.type #[a.eval x, a.eval y]).run P w = .ok v w' → (execOp a.eval d).run P w = .ok (.value v) w' := fun h => by
    unfold execOp
    simp [ho, resolve, invoke, builtin, h]
  have nilc : ∀ (ao : Option Addr) (cap : Nat), (Builtin.firstCells ei.size 0 (.slice ao 0 cap)).run P w.drew = .ok ([] : List Value).toArray w.drew := fun ao cap => by
    cases ao with
    | none => exact run_firstCells_none _ _ _ _ _
    | some b => exact run_firstCells_some _ _ _ b 0 cap [] (by simp) (fun j v hv => by cases hv)
  simp only [eff] at he
  split at he
  · rename_i ys l hl hs
    rw [hs] at r
    split at he
    · rename_i hnm
      cases he
      dsimp only at hcd
      obtain ⟨c1, c2, c3⟩ := hcd
      obtain ⟨ao, ex⟩ := rel_mt r
      obtain ⟨news, S, RN⟩ := src_of (tx := tx) (e' := e') hR.hp r' hl hk c1
      rcases Nat.eq_zero_or_pos l.length with h0 | hpos'
      · obtain rfl : l = [] := List.length_eq_zero_iff.1 h0
        have hnews : news = [] := by have := S.newsLen; simp at this; exact this
        subst hnews
        have hrun := run_append_nothing (P := P) w t tx d.type e ei hu hei ao 0 0 (Nat.le_refl _) (a.eval y) S
        rw [← ex] at hrun
        have T : Turn Im p s.H w.heap nm ⟨0, 0, []⟩ ⟨0, ei.size, []⟩ (0, 0) w.heap := ⟨.inr ⟨hnm, rfl⟩, .inl hnm, fun _ _ _ => rfl, Nat.le_refl _, fun h => absurd rfl h, fun h => absurd rfl h⟩
        refine ⟨_, _, w, p.put nm (0, 0), exe hrun, .inl rfl, T.grows hR.hp, T.relH hR.hp, T.relE hR.hp hR.en rfl rfl rfl, ?_⟩
        rw [ex]
        exact .own nm 0 0 0 _ 0 ⟨0, ei.size, []⟩ (Hp.put_same _ _ _) (Nat.le_refl _) (Nat.le_refl _) fun _ h => absurd h (Nat.lt_irrefl _)
      · have hrun := run_append_grow_src (P := P) w t tx d.type e ei zv hu hei hz ao 0 0 [] (nilc ao 0) (a.eval y) l.length news S (by omega) (by omega) (growslice_fits (by omega) (by simpa using c2))
        rw [← ex] at hrun
        simp only [Nat.zero_add, List.nil_append] at hrun
        have hcap := grownCap_ge w l.length 0 e
        generalize grownCap w l.length 0 e = cap at hrun hcap
        have hzsz : (news.toArray ++ Builtin.zeroCells zv.cells (cap - l.length)).size = cap * ei.size := by
          rw [Array.size_append, size_zeroCells, hzs, List.size_toArray, S.newsLen, ← Nat.add_mul]
          congr 1
          omega
        have hmul : l.length * ei.size ≤ cap * ei.size := Nat.mul_le_mul_right _ hcap
        have R0 : RowsAt Im p s.H w.heap (news.toArray ++ Builtin.zeroCells zv.cells (cap - l.length)) 0 ei.size l := by
          have := RowsAt.two (Im := Im) (p := p) (H := s.H) (h := w.heap) (rows := []) (l := l) (sz := ei.size) (s := 0) (c := news.toArray ++ Builtin.zeroCells zv.cells (cap - l.length)) (olds := []) (news := news) (fun r hr => by cases hr) c1 (by simp) S.newsLen (fun k hk => absurd hk (Nat.not_lt_zero _)) RN (by rw [hzsz]; simpa using hmul) (fun m hm => by
            rw [List.length_nil, Nat.zero_add] at hm
            rw [Array.toList_append, Nat.zero_add, List.getElem?_append_left (by rw [List.toList_toArray, S.newsLen]; exact hm)]
            rfl)
          simpa using this
        have T : Turn Im p s.H w.heap nm ⟨0, 0, []⟩ ⟨0, ei.size, l⟩ (w.heap.size, 0) (w.heap.push (.cells (news.toArray ++ Builtin.zeroCells zv.cells (cap - l.length)) e)) := Turn.fresh hnm R0
        refine ⟨_, _, _, p.put nm (w.heap.size, 0), exe hrun, .inl rfl, T.grows hR.hp, T.relH hR.hp, T.relE hR.hp hR.en (w' := w.drew.alloc _) rfl rfl rfl, ?_⟩
        refine .own nm 0 0 _ _ cap _ (Hp.put_same _ _ _) (Nat.le_refl _) hcap fun _ h => ?_
        rw [Pl.put_same]
        refine ⟨by simp, fun h => ?_, _, e, push_at _ _, ?_⟩
        · dsimp only at h
          rw [h] at hpos'
          exact absurd hpos' (Nat.lt_irrefl _)
        · dsimp only
          rw [hzsz]
          simp
    · cases he
  · rename_i ys l i g off n hl hs
    rw [hs] at r
    split at he
    · rename_i en hie
      split at he
      · rename_i hg
        cases he
        dsimp only at hcd
        obtain ⟨hg, hesz, htop⟩ := hg
        obtain ⟨c1, c2, c3, c4⟩ := hcd
        obtain ⟨ao, cap, ex, hcap, hl0⟩ := rel_own r hie hg
        obtain ⟨news, S, RN⟩ := src_of (tx := tx) (e' := e') hR.hp r' hl hk c1
        have hnl := S.newsLen
        have hdl : (en.rows.drop off).length = n := by rw [List.length_drop]; omega
        have hgen : en.g < g + 1 := by omega
        rw [hesz] at hl0
        by_cases hroom : n + l.length ≤ cap
        · rcases Nat.eq_zero_or_pos cap with rfl | hcp
          · obtain rfl : l = [] := List.length_eq_zero_iff.1 (by omega)
            obtain rfl : n = 0 := by omega
            have hrows : en.rows.drop off ++ ([] : List (List D)) = [] := by rw [List.append_nil]; exact List.length_eq_zero_iff.1 hdl
            have hnews : news = [] := by simpa using hnl
            subst hnews
            have hrun := run_append_nothing (P := P) w t tx d.type e ei hu hei ao 0 0 (Nat.le_refl _) (a.eval y) S
            rw [← ex] at hrun
            have T : Turn Im p s.H w.heap i en ⟨g + 1, ei.size, en.rows.drop off ++ []⟩ (0, 0) w.heap := ⟨.inl hie, .inr (.inl hgen), fun _ _ _ => rfl, Nat.le_refl _, fun h => absurd hrows h, fun h => absurd hrows h⟩
            refine ⟨_, _, w, p.put i (0, 0), exe hrun, .inl rfl, T.grows hR.hp, T.relH hR.hp, T.relE hR.hp hR.en rfl rfl rfl, ?_⟩
            rw [ex]
            exact .own i (g + 1) 0 _ _ 0 ⟨g + 1, ei.size, en.rows.drop off ++ []⟩ (Hp.put_same _ _ _) (Nat.le_refl _) (Nat.le_refl _) fun _ h => absurd h (Nat.lt_irrefl _)
          · obtain ⟨rfl, hne, blk, t', k1, k2⟩ := hl0 hcp
            clear hl0
            obtain ⟨blk', t2, q1, q2, q3⟩ := hR.hp.cell i en hie hne
            rw [k1] at q1
            injection q1 with q1
            injection q1 with e1 e2 _
            subst e1 e2
            rw [hesz] at q3
            rw [Nat.add_mul] at k2
            have hmul : (n + l.length) * ei.size ≤ cap * ei.size := Nat.mul_le_mul_right _ hroom
            rw [Nat.add_mul] at hmul
            have hfit : (p i).2 + off * ei.size + n * ei.size + news.length ≤ blk.size := by rw [hnl]; omega
            have hrun := run_append_room_src (P := P) w t tx d.type e ei hu hei (p i).1 ((p i).2 + off * ei.size) n cap (a.eval y) l.length news S hroom (fun j hj => by
                have h2 : (p i).2 + off * ei.size + n * ei.size + j < blk.size := by omega
                have e3 : hc w.heap (p i).1 ((p i).2 + off * ei.size + n * ei.size + j) = some blk[(p i).2 + off * ei.size + n * ei.size + j] := by unfold hc; rw [k1]; exact Array.getElem?_eq_getElem h2
                rw [hc_cell, e3]
                rfl) (fun j hj => by simp [World.frozen?, k1])
            rw [← ex, setCells_row P w (p i).1 _ t' news blk k1 hfit S.one] at hrun
            generalize hO : (p i).2 + off * ei.size + n * ei.size = O at hrun hfit
            have hblk' : (w.setRow (p i).1 (blk.toList.take O ++ news ++ blk.toList.drop (O + news.length)).toArray).heap[(p i).1]? = some (.cells (blk.toList.take O ++ news ++ blk.toList.drop (O + news.length)).toArray t' (0, 0)) := setRow_heap w _ blk _ t' _ k1
            have hsz' : (blk.toList.take O ++ news ++ blk.toList.drop (O + news.length)).toArray.size = blk.size := by simp only [List.size_toArray, List.length_append, List.length_take, List.length_drop, Array.length_toList]; omega
            have hlO : (blk.toList.take O).length = O := by rw [List.length_take, Array.length_toList]; omega
            have R1 : RowsAt Im p s.H w.heap (blk.toList.take O ++ news ++ blk.toList.drop (O + news.length)).toArray ((p i).2 + off * ei.size) ei.size (en.rows.drop off ++ l) := by
              refine RowsAt.two (olds := (blk.toList.drop ((p i).2 + off * ei.size)).take (n * ei.size)) (news := news) (fun r hr => q3.len r (List.mem_of_mem_drop hr)) c1 ?_ hnl (fun k hk => ?_) RN ?_ (fun m hm => ?_)
              · rw [List.length_take, List.length_drop, Array.length_toList, hdl]; omega
              · rw [hdl] at hk
                have hle : (k + 1) * ei.size ≤ n * ei.size := Nat.mul_le_mul_right _ hk
                rw [Nat.add_mul, Nat.one_mul] at hle
                have e1 : (en.rows.drop off).getD k [] = en.rows.getD (off + k) [] := by rw [List.getD_eq_getElem?_getD, List.getD_eq_getElem?_getD, List.getElem?_drop]
                have e2 : (((blk.toList.drop ((p i).2 + off * ei.size)).take (n * ei.size)).drop (k * ei.size)).take ei.size = (blk.toList.drop ((p i).2 + (off + k) * ei.size)).take ei.size := by
                  refine List.ext_getElem? fun m => ?_
                  by_cases hm : m < ei.size
                  · rw [List.getElem?_take, if_pos hm, List.getElem?_drop, List.getElem?_take, if_pos (by omega), List.getElem?_drop, List.getElem?_take, if_pos hm, List.getElem?_drop, Nat.add_mul]
                    congr 1
                    omega
                  · rw [List.getElem?_take, if_neg hm, List.getElem?_take, if_neg hm]
                rw [e1, e2]
                exact (q3.row (show off + k < en.rows.length by omega)).1
              · rw [hdl, hsz', Nat.add_mul]; omega
              · rw [hdl, Nat.add_mul] at hm
                rw [List.toList_toArray]
                have hol : ((blk.toList.drop ((p i).2 + off * ei.size)).take (n * ei.size)).length = n * ei.size := by rw [List.length_take, List.length_drop, Array.length_toList]; omega
                by_cases h1 : m < n * ei.size
                · rw [List.append_assoc, List.getElem?_append_left (by omega), List.getElem?_take, if_pos (by omega), List.getElem?_append_left (by omega), List.getElem?_take, if_pos h1, List.getElem?_drop]
                · rw [List.append_assoc, List.getElem?_append_right (by omega), hlO, List.getElem?_append_left (by omega), List.getElem?_append_right (by omega), hol]
                  congr 1
                  omega
            have T : Turn Im p s.H w.heap i en ⟨g + 1, ei.size, en.rows.drop off ++ l⟩ ((p i).1, (p i).2 + off * ei.size) (w.setRow (p i).1 (blk.toList.take O ++ news ++ blk.toList.drop (O + news.length)).toArray).heap :=
              ⟨.inl hie, .inr (.inl hgen), fun b hb hbo => hbo.elim (fun h => absurd h hne) fun h => setRow_other w _ _ _ h, by simp, fun _ => .inl ⟨hne, rfl⟩, fun _ => ⟨_, t', hblk', R1⟩⟩
            refine ⟨_, _, w.setRow (p i).1 (blk.toList.take O ++ news ++ blk.toList.drop (O + news.length)).toArray, p.put i ((p i).1, (p i).2 + off * ei.size), exe hrun, .inl rfl, T.grows hR.hp, T.relH hR.hp, T.relE hR.hp hR.en rfl rfl rfl, ?_⟩
            refine .own i (g + 1) 0 _ _ cap _ (Hp.put_same _ _ _) (Nat.le_refl _) hroom fun _ h => ?_
            rw [Pl.put_same]
            refine ⟨by simp, fun h => ?_, _, t', hblk', ?_⟩
            · dsimp only at h
              have h5 := congrArg List.length h
              rw [List.length_append, hdl] at h5
              simp at h5
              rcases c4 with h6 | h6
              · subst h6
                rw [List.drop_zero, h5.2, List.append_nil] at h
                exact hne h
              · rw [h5.2] at h6; simp at h6; omega
            · dsimp only
              rw [hsz', Nat.zero_add]
              omega
        · have hcl : cap < n + l.length := by omega
          have holds : ∃ olds : List Value, (Builtin.firstCells ei.size n (.slice ao n cap)).run P w.drew = .ok olds.toArray w.drew ∧ olds.length = n * ei.size ∧ ∀ k, k < n → RelL Im p s.H w.heap ((en.rows.drop off).getD k []) ((olds.drop (k * ei.size)).take ei.size) := by
            rcases Nat.eq_zero_or_pos n with h | hnp
            · rw [h]
              exact ⟨[], nilc ao cap, by simp, fun k hk => absurd hk (Nat.not_lt_zero _)⟩
            · obtain ⟨rfl, hne, blk, t', k1, k2⟩ := hl0 (by clear hl0; omega)
              clear hl0
              obtain ⟨blk', t2, q1, q2, q3⟩ := hR.hp.cell i en hie hne
              rw [k1] at q1
              injection q1 with q1
              injection q1 with e1 e2 _
              subst e1 e2
              rw [hesz] at q3
              rw [Nat.add_mul] at k2
              have hmul : n * ei.size ≤ cap * ei.size := Nat.mul_le_mul_right _ hcap
              have hol : ((blk.toList.drop ((p i).2 + off * ei.size)).take (n * ei.size)).length = n * ei.size := by rw [List.length_take, List.length_drop, Array.length_toList]; omega
              refine ⟨_, run_firstCells_some (P := P) w.drew ei.size n _ n cap ((blk.toList.drop ((p i).2 + off * ei.size)).take (n * ei.size)) hol (fun j v hv => ?_), hol, fun k hk => ?_⟩
              · have hj : j < n * ei.size := by rw [← hol]; exact (List.getElem?_eq_some_iff.1 hv).1
                rw [List.getElem?_take, if_pos hj, List.getElem?_drop] at hv
                rw [World.cell?_drew, Addr.add_mid, hc_cell]
                unfold hc
                rw [k1]
                simpa using hv
              · have hle : (k + 1) * ei.size ≤ n * ei.size := Nat.mul_le_mul_right _ hk
                rw [Nat.add_mul, Nat.one_mul] at hle
                have e1 : (en.rows.drop off).getD k [] = en.rows.getD (off + k) [] := by rw [List.getD_eq_getElem?_getD, List.getD_eq_getElem?_getD, List.getElem?_drop]
                have e2 : (((blk.toList.drop ((p i).2 + off * ei.size)).take (n * ei.size)).drop (k * ei.size)).take ei.size = (blk.toList.drop ((p i).2 + (off + k) * ei.size)).take ei.size := by
                  refine List.ext_getElem? fun m => ?_
                  by_cases hm : m < ei.size
                  · rw [List.getElem?_take, if_pos hm, List.getElem?_drop, List.getElem?_take, if_pos (by omega), List.getElem?_drop, List.getElem?_take, if_pos hm, List.getElem?_drop, Nat.add_mul]
                    congr 1
                    omega
                  · rw [List.getElem?_take, if_neg hm, List.getElem?_take, if_neg hm]
                rw [e1, e2]
                exact (q3.row (show off + k < en.rows.length by omega)).1
          clear hl0
          obtain ⟨olds, f1, f2, f3⟩ := holds
          have hrlen : ∀ r ∈ en.rows.drop off, r.length = ei.size := fun r hr => by
            have hm := List.mem_of_mem_drop hr
            have hne : en.rows ≠ [] := fun h => by rw [h] at hm; cases hm
            obtain ⟨_, _, _, _, q3⟩ := hR.hp.cell i en hie hne
            rw [q3.len r hm, hesz]
          have hrun := run_append_grow_src (P := P) w t tx d.type e ei zv hu hei hz ao n cap olds f1 (a.eval y) l.length news S hcl (by omega) (growslice_fits hcl (by simpa using c2))
          rw [← ex] at hrun
          have hge := grownCap_ge w (n + l.length) cap e
          generalize grownCap w (n + l.length) cap e = cap' at hrun hge
          have hzsz : ((olds ++ news).toArray ++ Builtin.zeroCells zv.cells (cap' - (n + l.length))).size = cap' * ei.size := by
            rw [Array.size_append, size_zeroCells, hzs, List.size_toArray, List.length_append, f2, hnl, ← Nat.add_mul, ← Nat.add_mul]
            congr 1
            omega
          have hmul : (n + l.length) * ei.size ≤ cap' * ei.size := Nat.mul_le_mul_right _ hge
          have R1 : RowsAt Im p s.H w.heap ((olds ++ news).toArray ++ Builtin.zeroCells zv.cells (cap' - (n + l.length))) 0 ei.size (en.rows.drop off ++ l) := by
            refine RowsAt.two (olds := olds) (news := news) hrlen c1 (by rw [hdl, f2]) hnl (fun k hk => f3 k (by rw [hdl] at hk; exact hk)) RN (by rw [hdl, hzsz, Nat.zero_add]; exact hmul) (fun m hm => ?_)
            rw [hdl] at hm
            rw [Array.toList_append, Nat.zero_add, List.getElem?_append_left (by rw [List.toList_toArray, List.length_append, f2, hnl, ← Nat.add_mul]; exact hm)]
          have T : Turn Im p s.H w.heap i en ⟨g + 1, ei.size, en.rows.drop off ++ l⟩ (w.heap.size, 0) (w.heap.push (.cells ((olds ++ news).toArray ++ Builtin.zeroCells zv.cells (cap' - (n + l.length))) e)) :=
            ⟨.inl hie, .inr (.inl hgen), fun b hb _ => push_lt _ hb, by simp, fun _ => .inr (Nat.le_refl _), fun _ => ⟨_, e, push_at _ _, R1⟩⟩
          refine ⟨_, _, _, p.put i (w.heap.size, 0), exe hrun, .inl rfl, T.grows hR.hp, T.relH hR.hp, T.relE hR.hp hR.en (w' := w.drew.alloc _) rfl rfl rfl, ?_⟩
          refine .own i (g + 1) 0 _ _ cap' _ (Hp.put_same _ _ _) (Nat.le_refl _) hge fun _ h => ?_
          rw [Pl.put_same]
          refine ⟨by simp, fun h => ?_, _, e, push_at _ _, ?_⟩
          · dsimp only at h
            have h5 := congrArg List.length h
            rw [List.length_append, hdl] at h5
            simp at h5
            rw [h5.1, h5.2] at hcl
            simp at hcl
          · dsimp only
            rw [hzsz]
            simp
      · cases he
    · cases he
  · cases he
end
end Go.Proofs.Ytiaenojpbiahgaa
