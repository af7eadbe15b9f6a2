/- A tank whose volumes are raised; a tank with one strap more. -/
import Derived.Test.YtmhncojjpalmeaaTankLaws4
namespace Go.Proofs.Ytmhncojjpalmeaa
open Go.RowKit
set_option linter.unusedVariables false
set_option linter.unusedSimpArgs false

def up (l : List Strap) (d : Int) : List Strap := l.map (fun s => ⟨s.lv, s.vl + d⟩)
theorem up_len (l : List Strap) (d : Int) : (up l d).length = l.length := by unfold up; rw [List.length_map]
theorem up_st {l : List Strap} {d : Int} {i : Nat} (h : i < l.length) : st (up l d) i = ⟨(st l i).lv, (st l i).vl + d⟩ := by
  have h' : i < (up l d).length := by rw [up_len]; exact h
  rw [← st_get h', ← st_get h]
  show (l.map (fun s => (⟨s.lv, s.vl + d⟩ : Strap)))[i]'(by rw [List.length_map]; exact h) = _
  rw [List.getElem_map]
theorem last_most {l : List Strap} (h : Straps l) {i : Nat} (hi : i < l.length) : (st l i).lv ≤ (lst l).lv ∧ (st l i).vl ≤ (lst l).vl := by
  unfold lst
  by_cases hc : i = l.length - 1
  · rw [hc]; exact ⟨Int.le_refl _, Int.le_refl _⟩
  · have := asc_of h.ok i (l.length - 1) (by omega) (by have := h.two; omega)
    exact ⟨by have := this.1; omega, by have := this.2; omega⟩
theorem up_ok {nm : ByteArray} {l : List Strap} {lo hi d : Int} (h : tOk nm l lo hi) (h7 : (lst l).vl ≤ 7000000) (d0 : 0 ≤ d) (d1 : d ≤ 65535) : tOk nm (up l d) lo hi := by
  have ht := straps_of h
  have h2 := ht.two
  obtain ⟨hn, hl, hs, h3, h4, h5⟩ := h
  refine ⟨hn, by rw [up_len]; exact hl, fun i hi => ?_, ?_, ?_, h5⟩
  · rw [up_len] at hi
    obtain ⟨⟨⟨q1, q2⟩, q3, q4⟩, hu⟩ := hs i hi
    have hm := last_most ht hi
    unfold stOk
    rw [up_st hi]
    refine ⟨⟨⟨q1, q2⟩, by show 0 ≤ (st l i).vl + d; omega, by show (st l i).vl + d ≤ 1099511627776; omega⟩, fun hp => ?_⟩
    rw [up_st (by omega)]
    have hu := hu hp
    exact ⟨hu.1, by show (st l (i - 1)).vl + d < (st l i).vl + d; have := hu.2; omega⟩
  · rw [up_st (by omega)]; exact h3
  · rw [up_len, up_st (by omega)]; exact h4
theorem up_vol {nm : ByteArray} {l : List Strap} {lo hi d x : Int} (h : tOk nm l lo hi) (h' : tOk nm (up l d) lo hi) (hx : InL l x) : InL (up l d) x ∧ vol (up l d) x = vol l x + d := by
  have ht := straps_of h
  have h2 := ht.two
  have hin : InL (up l d) x := by
    unfold InL fst lst
    rw [up_len, up_st (by omega), up_st (by omega)]
    exact hx
  refine ⟨hin, ?_⟩
  have ar := ix_around ht hx
  have a1 := ar.1
  have har : Around (up l d) x (ix l x) := by
    refine ⟨by rw [up_len]; exact ar.1, ?_, ?_, fun hp => ?_⟩
    · rw [up_st (by omega)]; exact ar.2.1
    · rw [up_st (by omega)]; exact ar.2.2.1
    · rw [up_st (by omega)]; exact ar.2.2.2 hp
  rw [vol_at (straps_of h') har hin, vol_at ht ar hx, up_st (by omega), up_st (by omega)]
  unfold segV
  show (st l (ix l x)).vl + d + ((st l (ix l x + 1)).vl + d - ((st l (ix l x)).vl + d)) * (x - (st l (ix l x)).lv) / ((st l (ix l x + 1)).lv - (st l (ix l x)).lv) = _
  rw [show (st l (ix l x + 1)).vl + d - ((st l (ix l x)).vl + d) = (st l (ix l x + 1)).vl - (st l (ix l x)).vl by omega]
  omega
def one (l : List Strap) (p q : Int) : List Strap := l ++ [⟨(lst l).lv + p, (lst l).vl + q⟩]
theorem one_len (l : List Strap) (p q : Int) : (one l p q).length = l.length + 1 := by unfold one; simp
theorem one_st {l : List Strap} {p q : Int} {i : Nat} (h : i < l.length) : st (one l p q) i = st l i := st_append h
theorem one_last {l : List Strap} {p q : Int} : st (one l p q) l.length = ⟨(lst l).lv + p, (lst l).vl + q⟩ := st_last
theorem one_ok {nm : ByteArray} {l : List Strap} {lo hi p q : Int} (h : tOk nm l lo hi) (h6 : l.length ≤ 6) (h8 : (lst l).lv ≤ 7000) (h7 : (lst l).vl ≤ 7000000) (p0 : 0 < p) (p1 : p ≤ 100) (q0 : 0 < q) (q1 : q ≤ 100) : tOk nm (one l p q) lo hi := by
  have ht := straps_of h
  have h2 := ht.two
  obtain ⟨hn, hl, hs, h3, h4, h5⟩ := h
  refine ⟨hn, by rw [one_len]; omega, fun i hi => ?_, ?_, ?_, h5⟩
  · rw [one_len] at hi
    unfold stOk
    by_cases hc : i < l.length
    · rw [one_st hc]
      refine ⟨(hs i hc).1, fun hp => ?_⟩
      rw [one_st (by omega)]
      exact (hs i hc).2 hp
    · obtain rfl : i = l.length := by omega
      have hlast := (hs (l.length - 1) (by omega)).1
      obtain ⟨⟨z1, _⟩, z2, _⟩ := hlast
      have z1 : 0 ≤ (lst l).lv := z1
      have z2 : 0 ≤ (lst l).vl := z2
      rw [one_last]
      refine ⟨⟨⟨by show 0 ≤ (lst l).lv + p; omega, by show (lst l).lv + p ≤ 1048576; omega⟩, by show 0 ≤ (lst l).vl + q; omega, by show (lst l).vl + q ≤ 1099511627776; omega⟩, fun hp => ?_⟩
      rw [one_st (by omega)]
      exact ⟨by show (lst l).lv < (lst l).lv + p; omega, by show (lst l).vl < (lst l).vl + q; omega⟩
  · rw [one_st (by omega)]; exact h3
  · rw [one_len, Nat.add_sub_cancel, one_last]
    have h4 : hi ≤ (lst l).lv := h4
    show hi ≤ (lst l).lv + p
    omega
theorem one_vol {nm : ByteArray} {l : List Strap} {lo hi p q x : Int} (h : tOk nm l lo hi) (h' : tOk nm (one l p q) lo hi) (p0 : 0 < p) (hx : InL l x) : InL (one l p q) x ∧ vol (one l p q) x = vol l x := by
  have ht := straps_of h
  have h2 := ht.two
  have hin : InL (one l p q) x := by
    unfold InL fst
    rw [one_st (by omega)]
    refine ⟨hx.1, ?_⟩
    have := hx.2
    unfold lst at this ⊢
    rw [one_len, Nat.add_sub_cancel, one_last]
    show x ≤ (lst l).lv + p
    unfold lst; omega
  refine ⟨hin, ?_⟩
  have ar := ix_around ht hx
  have a1 := ar.1
  have har : Around (one l p q) x (ix l x) := by
    refine ⟨by rw [one_len]; omega, ?_, ?_, fun hp => ?_⟩
    · rw [one_st (by omega)]; exact ar.2.1
    · rw [one_st (by omega)]; exact ar.2.2.1
    · rw [one_st (by omega)]; exact ar.2.2.2 hp
  rw [vol_at (straps_of h') har hin, vol_at ht ar hx, one_st (by omega), one_st (by omega)]
end Go.Proofs.Ytmhncojjpalmeaa
