
/- The plain law of TicketAdds. -/
import Derived.Test.YtbclfphnhbmhoaaDoorTicket5
namespace Go.Proofs.YtbclfphnhbmhoaaDoor
open Go.RowKit
set_option linter.unusedVariables false
set_option linter.unusedSimpArgs false

theorem Few_anyC (a : Option Addr) (len cap : Nat) (w : World) (hl : len ≤ 9223372036854775807) : Calls Tryd.prog 7 #[.slice a len cap] w fun e w' => e = .returned (.bool (decide (len ≤ 400))) ∧ w = w' := by
  by_cases h : len ≤ 400
  · go_enter Tryd.func7, Tryd.ntmps7
    go_wp2
    go_ret
    exact ⟨ret_b (decide_eq_decide.2 (by omega)), rfl⟩
  · go_enter Tryd.func7, Tryd.ntmps7
    go_wp2
    go_ret
    exact ⟨ret_b (decide_eq_decide.2 (by omega)), rfl⟩
theorem cond_info : (Tryd.prog.info? 34).map (fun i => (i.zero, i.size, i.bytes)) = some (some (.agg #[.int .i64 0, .int .i64 0]), 2, 16) := by kernel_rfl
abbrev rep (n : Nat) (c : Cd) : List Cd := List.replicate n c
theorem cd_rep {n : Nat} {c : Cd} {i : Nat} (h : i < n) : cd (rep n c) i = c := by
  rw [← cd_get (l := rep n c) (by simpa using h)]; simp
theorem rep_succ (n : Nat) (c : Cd) : (rep (n + 1) c).flatMap cdF = (rep n c).flatMap cdF ++ cdF c := by
  rw [rep, List.replicate_succ', List.flatMap_append, List.flatMap_singleton]
theorem wS_rep {p f ex co : Int} {l : List Int} {n : Nat} {c : Cd} : ∀ k, k ≤ n → wS p f ex co l (rep n c) k = grV p f (gi l 0) (gi l k) * fac ex co c.t c.q
  | 0, _ => by unfold grV; show (0 : Int) = _; rw [Int.sub_self, Int.zero_mul]
  | k + 1, h => by
    show wS p f ex co l (rep n c) k + grV p f (gi l k) (gi l (k + 1)) * fac ex co (cd (rep n c) k).t (cd (rep n c) k).q = _
    rw [wS_rep k (by omega), cd_rep (by omega), ← Int.add_mul]
    congr 1
    unfold grV
    omega
theorem ChOk.tot {p b f : Int} {s : ByteArray} {de ex co fr B S : Int} {l : List Int} {c : List Cd} {P : Int} (h : ChOk p b f s de ex co fr B l c P) : ∀ k, k ≤ c.length → tot B (tks p f ex co S B l c k) = wS p f ex co l c k / 1000000
  | 0, _ => by show (0 : Int) = 0 / 1000000; decide
  | k + 1, hk => by
    have b1 := h.bd k (by omega)
    have b2 := h.bd (k + 1) hk
    have a := h.at (k := k) (by omega)
    have hn := h.hn
    have h6 := h.h6
    have e : wS p f ex co l c (k + 1) = wS p f ex co l c k + grV p f (gi l k) (gi l (k + 1)) * fac ex co (cd c k).t (cd c k).q := rfl
    have hm : 0 ≤ grV p f (gi l k) (gi l (k + 1)) * fac ex co (cd c k).t (cd c k).q := Int.mul_nonneg a.2.1.1 (by omega)
    rw [tks_succ, tot_append, h.tot k (by omega)]
    show _ + (tkV B (mkT p f ex co S B l c k) + 0) = _
    unfold tkV mkT
    rw [if_pos ⟨rfl, by show 0 ≤ _ - _; omega, by show _ - _ ≤ _; omega⟩]
    show _ + (wS p f ex co l c (k + 1) / 1000000 - wS p f ex co l c k / 1000000 + 0) = _
    omega
theorem tks_get {p f ex co S B : Int} {l : List Int} {c : List Cd} {n k : Nat} (h : k < n) : tk (tks p f ex co S B l c n) k = mkT p f ex co S B l c k := by
  rw [← tk_get (l := tks p f ex co S B l c n) (by rw [tks_len]; exact h)]
  unfold tks
  simp
theorem refBetween_gr (p b f l n l' n' : Int) (w : World) (h : mOk p b f) (hc : cOk b l n) (hc' : cOk b l' n') (hn : n ≤ n') : Calls Tryd.prog 28 #[mtr p b f, cnt l n, cnt l' n'] w (RetIE (grV p f n n') 0 w) :=
  refBetween_in p b f l n l' n' w h hc hc' hn
theorem refFactor_ok (s : ByteArray) (de ex co fr t p : Int) (w : World) (hs : s.size ≤ 140737488351232) (h : pOk s de ex co fr) (hc : cOk' t p) : Calls Tryd.prog 29 #[prd s de ex co fr, cnd t p] w (RetIE (fac ex co t p) 0 w) := by
  have := refFactor_any s de ex co fr t p w hs
  unfold cFactor at this
  rw [if_pos h, if_pos hc] at this
  exact this
end Go.Proofs.YtbclfphnhbmhoaaDoor
