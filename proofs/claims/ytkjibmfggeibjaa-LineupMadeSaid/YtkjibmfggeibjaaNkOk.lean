
/- Networks out of a source are valid. -/
import Derived.Test.YtkjibmfggeibjaaNk7
namespace Go.Proofs.Ytkjibmfggeibjaa
open Go
set_option linter.unusedVariables false
set_option linter.unusedSimpArgs false
set_option maxRecDepth 100000

theorem net_sz {n : Net} (h : NetOk n) : NetSz n := by
  have h1 := h.nlen
  have h2 := h.slen
  have h3 := h.ports.len
  have h4 := h.sts.len
  refine ⟨by omega, by omega, by omega, by omega, fun s hs => ?_⟩
  obtain ⟨j, a, b, _, _, _, hk, _⟩ := h.segs.mem hs
  have := hk.len
  omega
theorem nm_two (c : UInt8) (j : Nat) (h : j < 26) : nm1B ⟨#[c]⟩ (j : Int) = ⟨#[c, UInt8.ofNat (97 + j)]⟩ := by
  have e : (j : Int).tmod 26 = j := by rw [Int.tmod_eq_emod_of_nonneg (by omega)]; omega
  have e2 : IntKind.i64.wrap (97 + (j : Int)) = 97 + j := wrap_i (by omega)
  have e3 : IntKind.u8.wrap (97 + (j : Int)) = 97 + j := by
    simp [IntKind.wrap, IntKind.signed, IntKind.bits]
    omega
  unfold nm1B
  rw [e, e2, e3]
  have e4 : (97 + (j : Int)).toNat = 97 + j := by omega
  simp only [strOf, List.foldl_cons, List.foldl_nil, e4]
  rfl
theorem toList_two (a b : UInt8) : (ByteArray.mk #[a, b]).toList = [a, b] := by rw [ba_toList]
theorem nm_ne (c : UInt8) (i j : Nat) (hi : i < 26) (hj : j < 26) (h : i ≠ j) : eqS (nm1B ⟨#[c]⟩ (i : Int)) (nm1B ⟨#[c]⟩ (j : Int)) = false := by
  rw [nm_two c i hi, nm_two c j hj]
  unfold eqS
  rw [toList_two, toList_two]
  refine beq_false_of_ne fun e => h ?_
  simp at e
  have := congrArg UInt8.toNat e
  simp at this
  omega
theorem nm_good : ∀ c ∈ [(110 : UInt8), 103, 113, 115], ∀ j, j < 26 → nameB ⟨#[c, UInt8.ofNat (97 + j)]⟩ = true := by decide
theorem dup_nm (c : UInt8) {l : List ByteArray} (h : AllI (fun j s => s = nm1B ⟨#[c]⟩ (j : Int)) l) (hl : l.length ≤ 26) : dupB eqS l = false := by
  unfold dupB
  rw [List.any_eq_false]
  intro i hi
  have hi : i < l.length := List.mem_range.1 hi
  rw [dup_at hi]
  refine fun hc => ?_
  rw [List.any_eq_true] at hc
  obtain ⟨y, hy, he⟩ := hc
  obtain ⟨k, hk⟩ := List.getElem?_of_mem hy
  have hkl : k < (l.take i).length := by
    rcases Nat.lt_or_ge k (l.take i).length with h | h
    · exact h
    · rw [List.getElem?_eq_none h] at hk; cases hk
  rw [List.length_take] at hkl
  rw [List.getElem?_take_of_lt (by omega)] at hk
  rw [h k y hk, h i l[i] (List.getElem?_eq_getElem hi), nm_ne c i k (by omega) (by omega) (by omega)] at he
  cases he
theorem form_nm (c : UInt8) (hc : c ∈ [(110 : UInt8), 103, 113, 115]) {l : List ByteArray} (h : AllI (fun j s => s = nm1B ⟨#[c]⟩ (j : Int)) l) (hl : l.length ≤ 26) : l.any nmBad = false := by
  rw [List.any_eq_false]
  intro s hs hb
  obtain ⟨j, hj⟩ := List.getElem?_of_mem hs
  have hjl : j < l.length := by
    rcases Nat.lt_or_ge j l.length with h | h
    · exact h
    · rw [List.getElem?_eq_none h] at hj; cases hj
  rw [h j s hj, nm_two c j (by omega)] at hb
  unfold nmBad at hb
  rw [nm_good c hc j (by omega)] at hb
  cases hb
theorem AllI.map {α β : Type} {P : Nat → β → Prop} {Q : Nat → α → Prop} {l : List α} (f : α → β) (h : AllI Q l) (hq : ∀ j x, Q j x → P j (f x)) : AllI P (l.map f) := fun j y hj => by
  rw [List.getElem?_map] at hj
  cases hx : l[j]? with
  | none => rw [hx] at hj; cases hj
  | some x => rw [hx] at hj; cases hj; exact hq j x (h j x hx)
theorem inB_t {a b c : Int} (h1 : b ≤ a) (h2 : a ≤ c) : inB a b c = true := by unfold inB; rw [if_pos (decide_eq_true h1)]; exact decide_eq_true h2
theorem pair_lt {α : Type} {R : α → α → Prop} {l : List α} (h : l.Pairwise R) {i j : Nat} (hij : i < j) (hj : j < l.length) : R (l[i]'(by omega)) l[j] := List.pairwise_iff_getElem.1 h i j (by omega) hj hij
theorem head_at {α : Type} {l : List α} (h : 0 < l.length) (d : α) : l.head? = some (l.getD 0 d) := by
  cases l with
  | nil => cases h
  | cons => rfl
theorem last_at {α : Type} {l : List α} (h : 0 < l.length) (d : α) : l.getLast? = some (l.getD (l.length - 1) d) := by
  rw [List.getLast?_eq_getElem?, List.getD_eq_getElem?_getD, List.getElem?_eq_getElem (show l.length - 1 < l.length by omega)]
  rfl
theorem pipe_ok {k a b : Int} {s : Seg} (h : SegOk k a b s) (hab : a < b) : pipeB s = true := by
  have hc := h.cap
  have hr := h.res
  have hw := h.wav
  have hl := h.len
  have e0 : (s.fr == s.to) = false := beq_false_of_ne (by rcases h.ends with ⟨h1, h2⟩ | ⟨h1, h2⟩ <;> omega)
  have e1 : (List.range s.points.length).any (ptBad s.points) = false := by
    rw [List.any_eq_false]
    intro i hi
    have hi : i < s.points.length := List.mem_range.1 hi
    obtain ⟨a1, a2, a3, a4⟩ := h.pts.le _ (List.getElem_mem hi)
    rw [pt_at hi, if_pos (inB_t a1 a2), if_pos (inB_t a3 a4)]
    by_cases h0 : 0 < i
    · rw [if_pos h0]
      have := pair_lt h.pts.asc (show i - 1 < i by omega) hi
      rw [getD_lt (show i - 1 < s.points.length by omega)]
      simp
      omega
    · rw [if_neg h0]; simp
  have e2 : (s.points.getD 0 ⟨0, 0, 0⟩).at' = 0 := by
    have := h.pts.hd
    rw [head_at (show 0 < s.points.length by omega) ⟨0, 0, 0⟩] at this
    simpa using this
  have e3 : (s.points.getD (s.points.length - 1) ⟨0, 0, 0⟩).at' = s.cap := by
    have := h.pts.last
    rw [last_at (show 0 < s.points.length by omega) ⟨0, 0, 0⟩] at this
    simpa using this
  unfold pipeB
  rw [e0, inB_t hc.1 (by omega), inB_t hr.1 hr.2, inB_t hw.1 hw.2, e1, e2, e3]
  simp
theorem check_ok {n : Net} (h : NetOk n) : checkI n = 0 := by
  have h1 := h.nlen
  have h2 := h.slen
  have h3 := h.ports.len
  have h4 := h.sts.len
  have l1 : limB n = true := by
    have : n.segs.any ptsBad = false := by
      rw [List.any_eq_false]
      intro s hs
      obtain ⟨j, a, b, _, _, _, hk, _⟩ := h.segs.mem hs
      have := hk.len
      unfold ptsBad
      rw [if_neg (by simp; omega)]
      simp
      omega
    unfold limB
    rw [if_neg (by omega), if_neg (by omega), if_neg (by omega), if_neg (by omega), if_neg (by omega), this]
    rfl
  have n1 : AllI (fun j s => s = nm1B ⟨#[110]⟩ (j : Int)) n.nodes := h.nodes
  have n2 : AllI (fun j s => s = nm1B ⟨#[103]⟩ (j : Int)) (n.segs.map (·.name)) := h.segs.map _ fun j x hx => by
    obtain ⟨a, b, _, _, _, hk, _⟩ := hx
    exact hk.name
  have n3 : AllI (fun j s => s = nm1B ⟨#[113]⟩ (j : Int)) (n.ports.map (·.name)) := h.ports.all.map _ fun j x hx => hx.1
  have n4 : AllI (fun j s => s = nm1B ⟨#[115]⟩ (j : Int)) (n.sts.map (·.name)) := h.sts.all.map _ fun j x hx => hx.1
  have f1 : formBad n = false := by
    unfold formBad nms4
    simp only [List.any_cons, List.any_nil]
    rw [form_nm 110 (by decide) n1 (by omega), form_nm 103 (by decide) n2 (by rw [List.length_map]; omega), form_nm 113 (by decide) n3 (by rw [List.length_map]; omega), form_nm 115 (by decide) n4 (by rw [List.length_map]; omega)]
    rfl
  have t1 : twB n = false := by
    have hd : [n.nodes, n.segs.map (·.name), n.ports.map (·.name), n.sts.map (·.name)].any (dupB eqS) = false := by
      simp only [List.any_cons, List.any_nil]
      rw [dup_nm 110 n1 (by omega), dup_nm 103 n2 (by rw [List.length_map]; omega), dup_nm 113 n3 (by rw [List.length_map]; omega), dup_nm 115 n4 (by rw [List.length_map]; omega)]
      rfl
    unfold twB nms4
    rw [if_neg (by rw [hd]; simp)]
    unfold dupB
    rw [List.any_eq_false]
    intro i hi
    have hi : i < n.sts.length := List.mem_range.1 hi
    rw [dup_at hi]
    refine fun hc => ?_
    rw [List.any_eq_true] at hc
    obtain ⟨y, hy, he⟩ := hc
    obtain ⟨k, hk⟩ := List.getElem?_of_mem hy
    have hkl : k < (n.sts.take i).length := by
      rcases Nat.lt_or_ge k (n.sts.take i).length with h | h
      · exact h
      · rw [List.getElem?_eq_none h] at hk; cases hk
    rw [List.length_take] at hkl
    rw [List.getElem?_take_of_lt (by omega), List.getElem?_eq_getElem (by omega)] at hk
    cases hk
    have := pair_lt h.sts.asc (show k < i by omega) hi
    have := beq_iff_eq.1 he
    omega
  have k1 : knB n = true := by
    have : (allIx n).any (unk n) = false := by
      rw [List.any_eq_false]
      intro k hk
      have key : 0 ≤ k ∧ k < n.nodes.length := by
        unfold allIx at hk
        rcases List.mem_append.1 hk with hk | hk
        · rcases List.mem_append.1 hk with hk | hk
          · obtain ⟨s, hs, hk⟩ := List.mem_flatMap.1 hk
            obtain ⟨j, a, b, x1, x2, x3, hx, _⟩ := h.segs.mem hs
            have hk : k = s.fr ∨ k = s.to := by simpa [endsOf] using hk
            rcases hx.ends with ⟨e1, e2⟩ | ⟨e1, e2⟩ <;> omega
          · obtain ⟨s, hs, hk⟩ := List.mem_map.1 hk
            obtain ⟨j, a, b, c, _⟩ := h.ports.all.mem hs
            omega
        · obtain ⟨s, hs, hk⟩ := List.mem_map.1 hk
          obtain ⟨j, a, b, c, _⟩ := h.sts.all.mem hs
          omega
      unfold unk
      rw [if_neg (by simp; omega)]
      simp
      omega
    unfold knB
    rw [this]
    rfl
  have p1 : prB n = true := by
    have a1 : n.segs.any segBad = false := by
      rw [List.any_eq_false]
      intro s hs
      obtain ⟨j, a, b, _, hab, _, hk, _⟩ := h.segs.mem hs
      unfold segBad
      rw [pipe_ok hk hab]
      simp
    have a2 : n.ports.any portBad = false := by
      rw [List.any_eq_false]
      intro s hs
      obtain ⟨j, _, _, _, h1, h2⟩ := h.ports.all.mem hs
      unfold portBad
      rw [inB_t h1 h2]
      simp
    have a3 : n.sts.any stnBad = false := by
      rw [List.any_eq_false]
      intro s hs
      obtain ⟨j, _, _, _, h1, h2, h3, h4, h5, h6⟩ := h.sts.all.mem hs
      unfold stnBad
      rw [inB_t h1 h2, inB_t h3 h4, inB_t h5 h6]
      simp
    have hv := h.vap
    have hs := h.set
    unfold prB
    rw [a1, a2, a3, inB_t hv.1 (by omega), inB_t hs.1 hs.2]
    simp
  unfold checkI
  rw [l1, f1, t1, k1, p1]
  rfl
end Go.Proofs.Ytkjibmfggeibjaa
