
/- Plans out of a source are valid. -/
import Derived.Test.YtkjibmfggeibjaaFw4
import Derived.Test.YtkjibmfggeibjaaPl5
import Derived.Test.YtkjibmfggeibjaaNkOk
import Derived.Test.YtkjibmfggeibjaaNw
namespace Go.Proofs.Ytkjibmfggeibjaa
open Go
set_option linter.unusedVariables false
set_option linter.unusedSimpArgs false
set_option maxRecDepth 100000

theorem with_t {r m : Int} (h1 : -m ≤ r) (h2 : r ≤ m) : withB r m = true := by unfold withB; rw [if_pos h1]; exact decide_eq_true h2
theorem len_f {n : Net} {p : Pln} (h1 : p.rates.length = n.segs.length) (h2 : p.ports.length = n.ports.length) (h3 : p.pumps.length = n.sts.length) : lenBad n p = false := by
  unfold lenBad
  rw [h1, h2, h3]
  simp
theorem any_ff {α : Type} {p : α → Bool} {l : List α} (h : ∀ x ∈ l, p x = false) : l.any p = false := List.any_eq_false.2 fun x hx e => by rw [h x hx] at e; cases e
theorem plan0 {n : Net} {p : Pln} (hck : checkI n = 0) (h : PlanOk n p) : fckI n p = 0 := by
  have hv := check0 hck
  unfold fckI
  rw [if_pos hck, len_f h.rl h.ql h.ul, any_ff fun x hx => ?_, any_ff fun r hr => ?_, if_pos ((bal_iff _).2 fun v _ => h.bal v)]
  · have := ord_full (edge_ok p hv) h.mono
    unfold ordB
    rw [this]
    simp
  · have := h.qb r hr
    unfold portBadR
    rw [with_t (by omega) (by omega)]
    rfl
  · have := h.rb x hx
    unfold RateIn at this
    unfold rateBad
    rw [most_min, with_t this.1 this.2]
    rfl
theorem plan_sz {n : Net} {p : Pln} (hn : NetOk n) (h : PlanOk n p) : FckPre n p := by
  have hv := check0 (check_ok hn)
  have := hv.sl
  have := hv.ql
  have := hv.tl
  have := h.rl
  have := h.ql
  have := h.ul
  exact ⟨net_sz hn, ⟨by omega, by omega, by omega⟩⟩
def selPlan : List D → Option (Prop × (Pln → Prop))
  | [.agg r] => match netOf1 r with
    | some n => some (NetV n ∧ 1 ≤ n.ports.length, PlanOk n)
    | Option.none => Option.none
  | _ => Option.none
theorem tc_plan {T : Tbl} (hT : TblOk Try.prog T) : TblOk Try.prog (tc 20 (rowSrc selPlan Pln.enc) T) :=
  tc_src f20_ok (fun args pre post h hp => by
    unfold selPlan at h
    split at h
    · split at h
      · rename_i n hn
        cases h
        rw [netOf1_eq hn]
        exact ⟨⟨⟨_, _, List.replicate n.sts.length false⟩, (pg_zero hp.1).ok List.length_replicate⟩, Plan_c n hp.1 hp.2⟩
      · cases h
    · cases h) hT
theorem ports1 {n : Net} (hn : NetOk n) : 1 ≤ n.ports.length := by
  have hp := hn.ports
  have hl := hn.nlen
  have := hp.hd (by omega)
  cases hq : n.ports with
  | nil => rw [hq] at this; cases this
  | cons => simp
end Go.Proofs.Ytkjibmfggeibjaa
