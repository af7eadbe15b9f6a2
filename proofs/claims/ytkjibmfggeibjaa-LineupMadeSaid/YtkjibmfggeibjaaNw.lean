
/- Sources: a new one, networks out of it. -/
import Derived.Test.YtkjibmfggeibjaaGen5
namespace Go.Proofs.Ytkjibmfggeibjaa
open Go
set_option linter.unusedVariables false
set_option linter.unusedSimpArgs false
set_option maxRecDepth 100000

/-- The row of keep.New. -/
def rowNew : List D → Hp → Nm → Option (Prop × (D → Hp → Prop)) := fun args Hs nn =>
  match args with
  | [.sl L] => some (Hs = Hp.none, Pu (.ptr nn 0 0 0) (Hp.none.put nn (sE (L.take 2000) 0)))
  | _ => Option.none
theorem tc_new {T : Tbl} (hT : TblOk Try.prog T) : TblOk Try.prog (tc 18 rowNew T) :=
  tc_row f18_ok (fun args Hs nn pre R hr hp => by
    unfold rowNew at hr
    split at hr
    · cases hr
      subst hp
      exact ⟨⟨_, _, rfl, rfl⟩, New_c _ nn⟩
    · cases hr) hT
theorem AllI.one {α : Type} {P : Nat → α → Prop} {x : α} (h : P 0 x) : AllI P [x] := (AllI.nil P).snoc h
theorem AllI.two {α : Type} {P : Nat → α → Prop} {x y : α} (h : P 0 x) (k : P 1 y) : AllI P [x, y] := (AllI.one h).snoc k
theorem netOk_ex : NetOk ⟨[nm1B ⟨#[110]⟩ 0, nm1B ⟨#[110]⟩ 1], [⟨nm1B ⟨#[103]⟩ 0, 0, 1, 1, 0, 0, [⟨0, 0, 0⟩, ⟨1, 0, 0⟩]⟩], [⟨nm1B ⟨#[113]⟩ 0, 0, 0⟩, ⟨nm1B ⟨#[113]⟩ 1, 1, 0⟩], [], 0, 0⟩ := by
  refine ⟨AllI.two rfl rfl, by simp, AllI.one ⟨0, 1, by simp, by simp, by simp, segOk_ex _ _ _, fun _ => ⟨rfl, rfl⟩⟩, by simp, ⟨AllI.two ⟨rfl, by simp, by simp, by simp, by simp⟩ ⟨rfl, by simp, by simp, by simp, by simp⟩, by simp, fun _ => rfl, fun _ => rfl, by simp⟩, ⟨AllI.nil _, List.Pairwise.nil, by simp⟩, by simp, by simp⟩
theorem tc_net {T : Tbl} (hT : TblOk Try.prog T) : TblOk Try.prog (tc 19 (rowSrc (sel0 NetOk) Net.enc) T) :=
  tc_src f19_ok (fun args pre post h hp => by
    unfold sel0 at h
    split at h <;> cases h
    exact ⟨⟨_, netOk_ex⟩, Network_c⟩) hT
def selAw : List D → Option (Prop × D)
  | [] => some (True, db true)
  | _ => Option.none
theorem src_new (ns : List Int) (h : ∀ n ∈ ns, InI n) : SrcOk ((ns.map fun n => [di n]).take 2000) 0 :=
  ⟨Int.le_refl _, Int.natCast_nonneg _, by rw [List.length_take]; omega, ns.take 2000, by rw [List.map_take], fun n hn => h n (List.mem_of_mem_take hn)⟩
end Go.Proofs.Ytkjibmfggeibjaa
