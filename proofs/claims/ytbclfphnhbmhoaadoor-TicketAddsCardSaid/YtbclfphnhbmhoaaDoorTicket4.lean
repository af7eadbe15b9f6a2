
/- The walk of the statements' counts: counts that ascend. -/
import Derived.Test.YtbclfphnhbmhoaaDoorTicket2
import Derived.Test.YtbclfphnhbmhoaaDoorArgs
namespace Go.Proofs.YtbclfphnhbmhoaaDoor
open Go.RowKit
set_option linter.unusedVariables false
set_option linter.unusedSimpArgs false

theorem count_info : (Tryd.prog.info? 37).map (fun i => (i.zero, i.size, i.bytes)) = some (some (.agg #[.int .i64 0, .int .i64 0]), 2, 16) := by kernel_rfl
def cntF (S P : Int) : List Value := [.int .i64 (P % S), .int .i64 P]
def CntR (S : Int) : RowT Int := fun _ _ r P => r = cntF S P
theorem CntR.stays (S : Int) : Stays (CntR S) := ⟨fun _ _ _ _ _ _ h => h⟩
def gi (l : List Int) (i : Nat) : Int := l.getD i 0
theorem gi_get {l : List Int} {i : Nat} (h : i < l.length) : l[i] = gi l i := by
  unfold gi; rw [List.getD_eq_getElem?_getD, List.getElem?_eq_getElem h, Option.getD_some]
theorem gi_append {l : List Int} {s : Int} {i : Nat} (h : i < l.length) : gi (l ++ [s]) i = gi l i := by
  unfold gi
  rw [List.getD_eq_getElem?_getD, List.getD_eq_getElem?_getD, List.getElem?_append_left h]
theorem gi_last {l : List Int} {s : Int} : gi (l ++ [s]) l.length = s := by
  unfold gi
  rw [List.getD_eq_getElem?_getD, List.getElem?_append_right (Nat.le_refl _), Nat.sub_self]
  rfl
/-- The counts so far; the last one is P. -/
structure CGo (l : List Int) (P : Int) : Prop where
  ne : 1 ≤ l.length
  hd : gi l 0 = 0
  up : ∀ i, i + 1 < l.length → gi l i ≤ gi l (i + 1)
  bd : ∀ i, i < l.length → 0 ≤ gi l i ∧ gi l i ≤ P
  la : gi l (l.length - 1) = P
  p1 : P ≤ 60000 * l.length
theorem cgo_one : CGo [0] 0 := ⟨by simp, rfl, fun i h => absurd h (by simp), fun i h => by simp at h; subst h; exact ⟨by decide, by decide⟩, rfl, by simp⟩
theorem cgo_step {l : List Int} {P r : Int} (h : CGo l P) (r0 : 0 ≤ r) (r1 : r ≤ 60000) : CGo (l ++ [P + r]) (P + r) := by
  obtain ⟨ne, hd, up, bd, la, p1⟩ := h
  have hlen : (l ++ [P + r]).length = l.length + 1 := by simp
  have b0 := bd (l.length - 1) (by omega)
  refine ⟨by omega, by rw [gi_append (by omega)]; exact hd, fun i hi => ?_, fun i hi => ?_, by rw [hlen, Nat.add_sub_cancel, gi_last], by rw [hlen]; omega⟩
  · rw [hlen] at hi
    rcases Nat.lt_or_eq_of_le (Nat.lt_succ_iff.1 hi) with h | h
    · rw [gi_append (by omega), gi_append h]; exact up i h
    · rw [gi_append (by omega), h, gi_last]
      have := bd i (by omega)
      omega
  · rw [hlen] at hi
    rcases Nat.lt_or_eq_of_le (Nat.lt_succ_iff.1 hi) with h | rfl
    · rw [gi_append h]; have := bd i h; omega
    · rw [gi_last]; omega
/-- The call has made counts that ascend from 0, in memory of its own. -/
def MadeCts (S : Int) (base bs : Nat) (w : World) (e : Ending) (w' : World) : Prop :=
  ∃ (a : Option Addr) (cap : Nat) (l : List Int) (P : Int), CGo l P ∧ l.length ≤ 6 ∧ e = .returned (.slice a l.length cap) ∧ SliceOf (CntR S) 2 bs w' a l.length cap l ∧ IsSrc base w' bs ∧ Only bs w w'
theorem pair_new {w : World} {x y : Value} {t : TypeId} {j H : Nat} {u : Value} (hH : w.heap.size = H) (h : [x, y][j]? = some u) : (w.alloc (Obj.cells #[x, y] t)).cell? ((⟨H, 0, none⟩ : Addr).add j) = some u := by
  subst hH
  rw [Addr.add_lit, cell_alloc_ite, if_neg (by omega), if_pos rfl, Nat.zero_add, ← h]
  simp
theorem own_pair {w : World} {base H : Nat} {e : TypeId} {x y : Value} (hH : w.heap.size = H) (hb : base ≤ H) : (w.alloc (.cells #[x, y] e)).ownsRow base e 2 (.slice (some ⟨H, 0, none⟩) 1 1) 1 [x, y] := by
  subst hH
  exact ⟨by simp, .inr ⟨_, 1, #[x, y], rfl, hb, heap_new w _, Nat.le_refl _, by unfold maxLen; omega, by simp, by simp⟩⟩

set_option maxRecDepth 100000 in
set_option maxHeartbeats 4000000 in
theorem counts_any (base : Nat) (w : World) (bs : Nat) (p b f : Int) (hs : IsSrc base w bs) (hb : b = 16 ∨ b = 32) :
    Calls Tryd.prog 18 #[.pointer (some ⟨bs, 0, none⟩), mtr p b f] w (MadeCts (mSpan b) base bs w) := by
  have hlt := hs.lt
  obtain ⟨i0, hi, hz0, hz1, hz2⟩ := info_parts count_info
  have HI := Lib.hid (And.intro hi (And.intro hz0 (And.intro hz1 hz2)))
  clear hi hz0 hz1 hz2
  rcases hb with rfl | rfl
  · have ws : wrap64 65536 = 65536 := by unfold wrap64; omega
    go_enter Tryd.func18, Tryd.ntmps18
    go_wp2_with fail
    refine (N_any base _ bs 6 (by repeat (first | (with_reducible assumption) | (with_reducible refine IsSrc.alloc ?_ _) | (with_reducible refine IsSrc.drew ?_) | (with_reducible refine IsSrc.drewN ?_ _) | (with_reducible refine IsSrc.setCell ?_ ?_ ?_ _) | (with_reducible refine IsSrc.kept ?_ (by with_reducible assumption)) | omega | (dsimp only; omega))) (by omega) (by omega)).mono ?_
    rintro e v1 ⟨n, ⟨n0, n1⟩, rfl, s1, o1⟩
    have o1_c := (ocell o1).1; have o1_f := (ocell o1).2; have o1_z := o1.size; try simp only [World.size_alloc, World.size_setCell, World.size_drew, size_drewN] at o1_c o1_f o1_z
    go_wp2_with fail
    have bM : Box v1 w.heap.size #[.int .i64 p, .int .i64 16, .int .i64 f] := (by repeat (first | (with_reducible assumption) | (with_reducible apply Box.new; first | (with_reducible rfl) | omega | (simp only [World.size_alloc, World.size_setCell, World.size_drew, size_drewN] <;> omega)) | (with_reducible apply Box.old) | (with_reducible apply Box.drew) | (with_reducible apply Box.drewN) | (with_reducible apply Box.set) | (with_reducible apply Box.other) | (with_reducible apply Box.only_ (by with_reducible assumption)) | (with_reducible apply Box.kept_ (by with_reducible assumption)) | (simp only [World.size_alloc, World.size_setCell, World.size_drew, size_drewN]; omega) | omega | (dsimp only; omega) | rfl | (simp; done)))
    have bC : Box v1 (w.heap.size + 1) #[.int .i64 0, .int .i64 0] := (by repeat (first | (with_reducible assumption) | (with_reducible apply Box.new; first | (with_reducible rfl) | omega | (simp only [World.size_alloc, World.size_setCell, World.size_drew, size_drewN] <;> omega)) | (with_reducible apply Box.old) | (with_reducible apply Box.drew) | (with_reducible apply Box.drewN) | (with_reducible apply Box.set) | (with_reducible apply Box.other) | (with_reducible apply Box.only_ (by with_reducible assumption)) | (with_reducible apply Box.kept_ (by with_reducible assumption)) | (simp only [World.size_alloc, World.size_setCell, World.size_drew, size_drewN]; omega) | omega | (dsimp only; omega) | rfl | (simp; done)))
    have hown : v1.ownsRow (w.heap.size + 1 + 1) 37 2 (.slice (some ⟨w.heap.size + 1 + 1, 0, none⟩) 1 1) 1 [.int .i64 0, .int .i64 0] := own_only (own_pair (by simp only [World.size_alloc]) (Nat.le_refl _)) o1 (by omega)
    have q1 : Only bs w v1 := (by repeat (first | (with_reducible exact Only.refl _ _) | (with_reducible assumption) | (with_reducible refine Only.alloc ?_ _) | (with_reducible refine Only.drew ?_) | (with_reducible refine Only.drewN ?_ _) | (with_reducible refine Only.setCell ?_ ?_ _) | (with_reducible refine Only.trans ?_ (by with_reducible assumption)) | (with_reducible refine Only.trans ?_ (Only.of_kept (by with_reducible assumption))) | (simp only [World.size_alloc, World.size_setCell, World.size_drew, size_drewN]; omega) | omega | (dsimp only; omega)))
    have z1 := o1_z
    clear o1 o1_c o1_f o1_z
    go_loopw [6, 7] (fun o i wr => ∃ (I : Int) (a : Option Addr) (cap : Nat) (l : List Int) (P : Int), i = .int .i64 I ∧ 0 ≤ I ∧ I + l.length ≤ 6 ∧ o = .slice a l.length cap ∧ wr.ownsRow (w.heap.size + 1 + 1) 37 2 (.slice a l.length cap) l.length (l.flatMap (cntF 65536)) ∧ Box wr w.heap.size #[.int .i64 p, .int .i64 16, .int .i64 f] ∧ Box wr (w.heap.size + 1) #[.int .i64 (P % 65536), .int .i64 P] ∧ IsSrc base wr bs ∧ Only bs w wr ∧ w.heap.size + 1 + 1 ≤ wr.heap.size ∧ CGo l P) (fun _ i _ => (intOf i).toNat)
    case atStart => exact ⟨n, some ⟨w.heap.size + 1 + 1, 0, none⟩, 1, [0], 0, rfl, by omega, by simp; omega, rfl, hown, bM, bC, s1, q1, by omega, cgo_one⟩
    case round =>
      clear bM bC hown q1 z1 s1
      obtain ⟨I, a, cap, l, P, rfl, hI0, hI1, rfl, hown, bM, bC, s1, q1, z1, hgo⟩ := hrel
      have hl6 : l.length ≤ 6 := by omega
      have HGO := Lib.hid hgo
      have hP1 := hgo.p1
      have hP0 : 0 ≤ P := by have := hgo.bd (l.length - 1) (by have := hgo.ne; omega); omega
      have hown := Lib.hid hown
      clear hgo
      by_cases hi : 0 < I
      · have lM := bM.lt
        have lC := bC.lt
        have cM := bM.cell
        go_wp2_with fail
        refine (Pick_any base _ bs _ _ _ _ (fun n => 0 ≤ n ∧ n ≤ 60000) (by repeat (first | (with_reducible assumption) | (with_reducible refine IsSrc.alloc ?_ _) | (with_reducible refine IsSrc.drew ?_) | (with_reducible refine IsSrc.drewN ?_ _) | (with_reducible refine IsSrc.setCell ?_ ?_ ?_ _) | (with_reducible refine IsSrc.kept ?_ (by with_reducible assumption)) | omega | (dsimp only; omega))) (by omega) (by omega) (by simp) (by simp; omega) (RowOf.new (by simp) (by simp) (by simp [IntIs]))).mono ?_
        rintro e v2 ⟨r, ⟨r0, r1⟩, rfl, s2, o2⟩
        have o2_c := (ocell o2).1; have o2_f := (ocell o2).2; have o2_z := o2.size; try simp only [World.size_alloc, World.size_setCell, World.size_drew, size_drewN] at o2_c o2_f o2_z
        have z2 := o2_z
        have dM : Box v2 w.heap.size #[.int .i64 p, .int .i64 16, .int .i64 f] := (by repeat (first | (with_reducible assumption) | (with_reducible apply Box.new; first | (with_reducible rfl) | omega | (simp only [World.size_alloc, World.size_setCell, World.size_drew, size_drewN] <;> omega)) | (with_reducible apply Box.old) | (with_reducible apply Box.drew) | (with_reducible apply Box.drewN) | (with_reducible apply Box.set) | (with_reducible apply Box.other) | (with_reducible apply Box.only_ (by with_reducible assumption)) | (with_reducible apply Box.kept_ (by with_reducible assumption)) | (simp only [World.size_alloc, World.size_setCell, World.size_drew, size_drewN]; omega) | omega | (dsimp only; omega) | rfl | (simp; done)))
        have dC : Box v2 (w.heap.size + 1) #[.int .i64 (P % 65536), .int .i64 P] := (by repeat (first | (with_reducible assumption) | (with_reducible apply Box.new; first | (with_reducible rfl) | omega | (simp only [World.size_alloc, World.size_setCell, World.size_drew, size_drewN] <;> omega)) | (with_reducible apply Box.old) | (with_reducible apply Box.drew) | (with_reducible apply Box.drewN) | (with_reducible apply Box.set) | (with_reducible apply Box.other) | (with_reducible apply Box.only_ (by with_reducible assumption)) | (with_reducible apply Box.kept_ (by with_reducible assumption)) | (simp only [World.size_alloc, World.size_setCell, World.size_drew, size_drewN]; omega) | omega | (dsimp only; omega) | rfl | (simp; done)))
        have hown2 : v2.ownsRow (w.heap.size + 1 + 1) 37 2 (.slice a l.length cap) l.length (l.flatMap (cntF 65536)) := own_only (hown.out.alloc _) o2 (by omega)
        have q2 : Only bs w v2 := (by repeat (first | (with_reducible exact Only.refl _ _) | (with_reducible assumption) | (with_reducible refine Only.alloc ?_ _) | (with_reducible refine Only.drew ?_) | (with_reducible refine Only.drewN ?_ _) | (with_reducible refine Only.setCell ?_ ?_ _) | (with_reducible refine Only.trans ?_ (by with_reducible assumption)) | (with_reducible refine Only.trans ?_ (Only.of_kept (by with_reducible assumption))) | (simp only [World.size_alloc, World.size_setCell, World.size_drew, size_drewN]; omega) | omega | (dsimp only; omega)))
        clear o2 o2_c o2_f o2_z bM bC cM hown s1 q1
        have cM := dM.cell
        have cC := dC.cell
        have cCf := dC.free
        have lM := dM.lt
        have lC := dC.lt
        have tm : (P + r).tmod 65536 = (P + r) % 65536 := Int.tmod_eq_emod_of_nonneg (by omega)
        have um0 : 0 ≤ (P + r) % 65536 := Int.emod_nonneg _ (by omega)
        have um1 : (P + r) % 65536 < 65536 := Int.emod_lt_of_pos _ (by omega)
        have wm : IntKind.i64.wrap ((P + r) % 65536) = (P + r) % 65536 := IntWalk.i64_in _ (by omega)
        have hown2 := Lib.hid hown2
        go_wp2_with (at_builtin; refine wpList_append_own _ rfl _ _ 49 rfl (w.heap.size + 1 + 1) 37 i0 (.agg #[.int .i64 0, .int .i64 0]) 2 16 ?d2 HI.out.1 HI.out.2.1 HI.out.2.2.1 HI.out.2.2.2 rfl (by decide) (.slice a l.length cap) l.length (l.flatMap (cntF 65536)) ?d3 ?own _ 1 1 (cntF 65536 (P + r)) rfl rfl ?c1 ?c2 ?c3 ?c4 ?c5 ?c6)
        case d2 => exact Tryd.underlying49
        case d3 => rfl
        case own => exact (by repeat (first | (with_reducible exact hown2.out) | (with_reducible refine own_set ?_ ?_) | (with_reducible refine own_only ?_ (by with_reducible assumption) ?_) | (with_reducible refine World.ownsRow.alloc ?_ _) | (with_reducible refine own_drew ?_) | (with_reducible refine own_drewN ?_) | (with_reducible refine own_kept ?_ (by with_reducible assumption)) | omega | (dsimp only; omega)))
        case c1 => intro j u hj; exact pair_new (by first | rfl | simp only [World.size_setCell]) hj
        case c2 => intro u hu; simp [cntF] at hu; rcases hu with rfl | rfl <;> rfl
        case c3 => unfold maxLen; omega
        case c4 => omega
        case c5 => simp only [World.size_alloc, World.size_setCell]; omega
        case c6 =>
          intro v' w3 hown3 hgrow _
          have GR := grown_below (base := w.heap.size + 1 + 1) (e := 37) (size := 2) (n := l.length) (xs := l.flatMap (cntF 65536)) (by exact (by repeat (first | (with_reducible exact hown2.out) | (with_reducible refine own_set ?_ ?_) | (with_reducible refine own_only ?_ (by with_reducible assumption) ?_) | (with_reducible refine World.ownsRow.alloc ?_ _) | (with_reducible refine own_drew ?_) | (with_reducible refine own_drewN ?_) | (with_reducible refine own_kept ?_ (by with_reducible assumption)) | omega | (dsimp only; omega)))) hgrow
          have eM : Box w3 w.heap.size #[.int .i64 p, .int .i64 16, .int .i64 f] := GR.box (by repeat (first | (with_reducible assumption) | (with_reducible apply Box.new; first | (with_reducible rfl) | omega | (simp only [World.size_alloc, World.size_setCell, World.size_drew, size_drewN] <;> omega)) | (with_reducible apply Box.old) | (with_reducible apply Box.drew) | (with_reducible apply Box.drewN) | (with_reducible apply Box.set) | (with_reducible apply Box.other) | (with_reducible apply Box.only_ (by with_reducible assumption)) | (with_reducible apply Box.kept_ (by with_reducible assumption)) | (simp only [World.size_alloc, World.size_setCell, World.size_drew, size_drewN]; omega) | omega | (dsimp only; omega) | rfl | (simp; done))) (by omega)
          have eC : Box w3 (w.heap.size + 1) #[.int .i64 ((P + r) % 65536), .int .i64 (P + r)] := GR.box (by repeat (first | (with_reducible assumption) | (with_reducible apply Box.new; first | (with_reducible rfl) | omega | (simp only [World.size_alloc, World.size_setCell, World.size_drew, size_drewN] <;> omega)) | (with_reducible apply Box.old) | (with_reducible apply Box.drew) | (with_reducible apply Box.drewN) | (with_reducible apply Box.set) | (with_reducible apply Box.other) | (with_reducible apply Box.only_ (by with_reducible assumption)) | (with_reducible apply Box.kept_ (by with_reducible assumption)) | (simp only [World.size_alloc, World.size_setCell, World.size_drew, size_drewN]; omega) | omega | (dsimp only; omega) | rfl | (simp; done))) (by omega)
          have es : IsSrc base w3 bs := GR.src (by repeat (first | (with_reducible assumption) | (with_reducible refine IsSrc.alloc ?_ _) | (with_reducible refine IsSrc.drew ?_) | (with_reducible refine IsSrc.drewN ?_ _) | (with_reducible refine IsSrc.setCell ?_ ?_ ?_ _) | (with_reducible refine IsSrc.kept ?_ (by with_reducible assumption)) | omega | (dsimp only; omega))) (by omega)
          have eq : Only bs w w3 := GR.only (by repeat (first | (with_reducible exact Only.refl _ _) | (with_reducible assumption) | (with_reducible refine Only.alloc ?_ _) | (with_reducible refine Only.drew ?_) | (with_reducible refine Only.drewN ?_ _) | (with_reducible refine Only.setCell ?_ ?_ _) | (with_reducible refine Only.trans ?_ (by with_reducible assumption)) | (with_reducible refine Only.trans ?_ (Only.of_kept (by with_reducible assumption))) | (simp only [World.size_alloc, World.size_setCell, World.size_drew, size_drewN]; omega) | omega | (dsimp only; omega))) (by omega)
          have ez : w.heap.size + 1 + 1 ≤ w3.heap.size := by have := GR.size; simp only [World.size_alloc, World.size_setCell] at this; omega
          obtain ⟨g, cap', rfl, hg1, hg2, hg3⟩ := own_form hown3 (by omega)
          have hown3 := Lib.hid hown3
          clear hgrow GR dM dC cM cC cCf lM lC hown2 q2 s2 z2
          go_wp2_with fail
          go_roundw
          case rel => exact ⟨I - 1, some ⟨g, 0, none⟩, cap', l ++ [P + r], P + r, rfl, by omega, by rw [List.length_append, List.length_singleton]; omega, by rw [List.length_append, List.length_singleton], by rw [List.length_append, List.length_singleton, List.flatMap_append, List.flatMap_singleton]; exact hown3.out, eM, eC, es, eq, ez, cgo_step HGO.out r0 r1⟩
          case measure => simp [intOf] <;> omega
      · obtain rfl : I = 0 := by omega
        have hS : SliceOf (CntR 65536) 2 bs wr a l.length cap l := SliceOf.of_owns hown.out (rows2_map (cntF 65536) l (fun e _ => rfl) (fun e _ => rfl)) rfl (.inr (fun k hk => by have := (hown.out.lt k hk).1; omega))
        have HS := Lib.hid hS
        clear hS
        go_wp2
        go_ret
        exact ⟨a, cap, l, P, HGO.out, hl6, rfl, HS.out, s1, q1⟩
  · have ws : wrap64 4294967296 = 4294967296 := by unfold wrap64; omega
    go_enter Tryd.func18, Tryd.ntmps18
    go_wp2_with fail
    refine (N_any base _ bs 6 (by repeat (first | (with_reducible assumption) | (with_reducible refine IsSrc.alloc ?_ _) | (with_reducible refine IsSrc.drew ?_) | (with_reducible refine IsSrc.drewN ?_ _) | (with_reducible refine IsSrc.setCell ?_ ?_ ?_ _) | (with_reducible refine IsSrc.kept ?_ (by with_reducible assumption)) | omega | (dsimp only; omega))) (by omega) (by omega)).mono ?_
    rintro e v1 ⟨n, ⟨n0, n1⟩, rfl, s1, o1⟩
    have o1_c := (ocell o1).1; have o1_f := (ocell o1).2; have o1_z := o1.size; try simp only [World.size_alloc, World.size_setCell, World.size_drew, size_drewN] at o1_c o1_f o1_z
    go_wp2_with fail
    have bM : Box v1 w.heap.size #[.int .i64 p, .int .i64 32, .int .i64 f] := (by repeat (first | (with_reducible assumption) | (with_reducible apply Box.new; first | (with_reducible rfl) | omega | (simp only [World.size_alloc, World.size_setCell, World.size_drew, size_drewN] <;> omega)) | (with_reducible apply Box.old) | (with_reducible apply Box.drew) | (with_reducible apply Box.drewN) | (with_reducible apply Box.set) | (with_reducible apply Box.other) | (with_reducible apply Box.only_ (by with_reducible assumption)) | (with_reducible apply Box.kept_ (by with_reducible assumption)) | (simp only [World.size_alloc, World.size_setCell, World.size_drew, size_drewN]; omega) | omega | (dsimp only; omega) | rfl | (simp; done)))
    have bC : Box v1 (w.heap.size + 1) #[.int .i64 0, .int .i64 0] := (by repeat (first | (with_reducible assumption) | (with_reducible apply Box.new; first | (with_reducible rfl) | omega | (simp only [World.size_alloc, World.size_setCell, World.size_drew, size_drewN] <;> omega)) | (with_reducible apply Box.old) | (with_reducible apply Box.drew) | (with_reducible apply Box.drewN) | (with_reducible apply Box.set) | (with_reducible apply Box.other) | (with_reducible apply Box.only_ (by with_reducible assumption)) | (with_reducible apply Box.kept_ (by with_reducible assumption)) | (simp only [World.size_alloc, World.size_setCell, World.size_drew, size_drewN]; omega) | omega | (dsimp only; omega) | rfl | (simp; done)))
    have hown : v1.ownsRow (w.heap.size + 1 + 1) 37 2 (.slice (some ⟨w.heap.size + 1 + 1, 0, none⟩) 1 1) 1 [.int .i64 0, .int .i64 0] := own_only (own_pair (by simp only [World.size_alloc]) (Nat.le_refl _)) o1 (by omega)
    have q1 : Only bs w v1 := (by repeat (first | (with_reducible exact Only.refl _ _) | (with_reducible assumption) | (with_reducible refine Only.alloc ?_ _) | (with_reducible refine Only.drew ?_) | (with_reducible refine Only.drewN ?_ _) | (with_reducible refine Only.setCell ?_ ?_ _) | (with_reducible refine Only.trans ?_ (by with_reducible assumption)) | (with_reducible refine Only.trans ?_ (Only.of_kept (by with_reducible assumption))) | (simp only [World.size_alloc, World.size_setCell, World.size_drew, size_drewN]; omega) | omega | (dsimp only; omega)))
    have z1 := o1_z
    clear o1 o1_c o1_f o1_z
    go_loopw [6, 7] (fun o i wr => ∃ (I : Int) (a : Option Addr) (cap : Nat) (l : List Int) (P : Int), i = .int .i64 I ∧ 0 ≤ I ∧ I + l.length ≤ 6 ∧ o = .slice a l.length cap ∧ wr.ownsRow (w.heap.size + 1 + 1) 37 2 (.slice a l.length cap) l.length (l.flatMap (cntF 4294967296)) ∧ Box wr w.heap.size #[.int .i64 p, .int .i64 32, .int .i64 f] ∧ Box wr (w.heap.size + 1) #[.int .i64 (P % 4294967296), .int .i64 P] ∧ IsSrc base wr bs ∧ Only bs w wr ∧ w.heap.size + 1 + 1 ≤ wr.heap.size ∧ CGo l P) (fun _ i _ => (intOf i).toNat)
    case atStart => exact ⟨n, some ⟨w.heap.size + 1 + 1, 0, none⟩, 1, [0], 0, rfl, by omega, by simp; omega, rfl, hown, bM, bC, s1, q1, by omega, cgo_one⟩
    case round =>
      clear bM bC hown q1 z1 s1
      obtain ⟨I, a, cap, l, P, rfl, hI0, hI1, rfl, hown, bM, bC, s1, q1, z1, hgo⟩ := hrel
      have hl6 : l.length ≤ 6 := by omega
      have HGO := Lib.hid hgo
      have hP1 := hgo.p1
      have hP0 : 0 ≤ P := by have := hgo.bd (l.length - 1) (by have := hgo.ne; omega); omega
      have hown := Lib.hid hown
      clear hgo
      by_cases hi : 0 < I
      · have lM := bM.lt
        have lC := bC.lt
        have cM := bM.cell
        go_wp2_with fail
        refine (Pick_any base _ bs _ _ _ _ (fun n => 0 ≤ n ∧ n ≤ 60000) (by repeat (first | (with_reducible assumption) | (with_reducible refine IsSrc.alloc ?_ _) | (with_reducible refine IsSrc.drew ?_) | (with_reducible refine IsSrc.drewN ?_ _) | (with_reducible refine IsSrc.setCell ?_ ?_ ?_ _) | (with_reducible refine IsSrc.kept ?_ (by with_reducible assumption)) | omega | (dsimp only; omega))) (by omega) (by omega) (by simp) (by simp; omega) (RowOf.new (by simp) (by simp) (by simp [IntIs]))).mono ?_
        rintro e v2 ⟨r, ⟨r0, r1⟩, rfl, s2, o2⟩
        have o2_c := (ocell o2).1; have o2_f := (ocell o2).2; have o2_z := o2.size; try simp only [World.size_alloc, World.size_setCell, World.size_drew, size_drewN] at o2_c o2_f o2_z
        have z2 := o2_z
        have dM : Box v2 w.heap.size #[.int .i64 p, .int .i64 32, .int .i64 f] := (by repeat (first | (with_reducible assumption) | (with_reducible apply Box.new; first | (with_reducible rfl) | omega | (simp only [World.size_alloc, World.size_setCell, World.size_drew, size_drewN] <;> omega)) | (with_reducible apply Box.old) | (with_reducible apply Box.drew) | (with_reducible apply Box.drewN) | (with_reducible apply Box.set) | (with_reducible apply Box.other) | (with_reducible apply Box.only_ (by with_reducible assumption)) | (with_reducible apply Box.kept_ (by with_reducible assumption)) | (simp only [World.size_alloc, World.size_setCell, World.size_drew, size_drewN]; omega) | omega | (dsimp only; omega) | rfl | (simp; done)))
        have dC : Box v2 (w.heap.size + 1) #[.int .i64 (P % 4294967296), .int .i64 P] := (by repeat (first | (with_reducible assumption) | (with_reducible apply Box.new; first | (with_reducible rfl) | omega | (simp only [World.size_alloc, World.size_setCell, World.size_drew, size_drewN] <;> omega)) | (with_reducible apply Box.old) | (with_reducible apply Box.drew) | (with_reducible apply Box.drewN) | (with_reducible apply Box.set) | (with_reducible apply Box.other) | (with_reducible apply Box.only_ (by with_reducible assumption)) | (with_reducible apply Box.kept_ (by with_reducible assumption)) | (simp only [World.size_alloc, World.size_setCell, World.size_drew, size_drewN]; omega) | omega | (dsimp only; omega) | rfl | (simp; done)))
        have hown2 : v2.ownsRow (w.heap.size + 1 + 1) 37 2 (.slice a l.length cap) l.length (l.flatMap (cntF 4294967296)) := own_only (hown.out.alloc _) o2 (by omega)
        have q2 : Only bs w v2 := (by repeat (first | (with_reducible exact Only.refl _ _) | (with_reducible assumption) | (with_reducible refine Only.alloc ?_ _) | (with_reducible refine Only.drew ?_) | (with_reducible refine Only.drewN ?_ _) | (with_reducible refine Only.setCell ?_ ?_ _) | (with_reducible refine Only.trans ?_ (by with_reducible assumption)) | (with_reducible refine Only.trans ?_ (Only.of_kept (by with_reducible assumption))) | (simp only [World.size_alloc, World.size_setCell, World.size_drew, size_drewN]; omega) | omega | (dsimp only; omega)))
        clear o2 o2_c o2_f o2_z bM bC cM hown s1 q1
        have cM := dM.cell
        have cC := dC.cell
        have cCf := dC.free
        have lM := dM.lt
        have lC := dC.lt
        have tm : (P + r).tmod 4294967296 = (P + r) % 4294967296 := Int.tmod_eq_emod_of_nonneg (by omega)
        have um0 : 0 ≤ (P + r) % 4294967296 := Int.emod_nonneg _ (by omega)
        have um1 : (P + r) % 4294967296 < 4294967296 := Int.emod_lt_of_pos _ (by omega)
        have wm : IntKind.i64.wrap ((P + r) % 4294967296) = (P + r) % 4294967296 := IntWalk.i64_in _ (by omega)
        have hown2 := Lib.hid hown2
        go_wp2_with (at_builtin; refine wpList_append_own _ rfl _ _ 49 rfl (w.heap.size + 1 + 1) 37 i0 (.agg #[.int .i64 0, .int .i64 0]) 2 16 ?d2 HI.out.1 HI.out.2.1 HI.out.2.2.1 HI.out.2.2.2 rfl (by decide) (.slice a l.length cap) l.length (l.flatMap (cntF 4294967296)) ?d3 ?own _ 1 1 (cntF 4294967296 (P + r)) rfl rfl ?c1 ?c2 ?c3 ?c4 ?c5 ?c6)
        case d2 => exact Tryd.underlying49
        case d3 => rfl
        case own => exact (by repeat (first | (with_reducible exact hown2.out) | (with_reducible refine own_set ?_ ?_) | (with_reducible refine own_only ?_ (by with_reducible assumption) ?_) | (with_reducible refine World.ownsRow.alloc ?_ _) | (with_reducible refine own_drew ?_) | (with_reducible refine own_drewN ?_) | (with_reducible refine own_kept ?_ (by with_reducible assumption)) | omega | (dsimp only; omega)))
        case c1 => intro j u hj; exact pair_new (by first | rfl | simp only [World.size_setCell]) hj
        case c2 => intro u hu; simp [cntF] at hu; rcases hu with rfl | rfl <;> rfl
        case c3 => unfold maxLen; omega
        case c4 => omega
        case c5 => simp only [World.size_alloc, World.size_setCell]; omega
        case c6 =>
          intro v' w3 hown3 hgrow _
          have GR := grown_below (base := w.heap.size + 1 + 1) (e := 37) (size := 2) (n := l.length) (xs := l.flatMap (cntF 4294967296)) (by exact (by repeat (first | (with_reducible exact hown2.out) | (with_reducible refine own_set ?_ ?_) | (with_reducible refine own_only ?_ (by with_reducible assumption) ?_) | (with_reducible refine World.ownsRow.alloc ?_ _) | (with_reducible refine own_drew ?_) | (with_reducible refine own_drewN ?_) | (with_reducible refine own_kept ?_ (by with_reducible assumption)) | omega | (dsimp only; omega)))) hgrow
          have eM : Box w3 w.heap.size #[.int .i64 p, .int .i64 32, .int .i64 f] := GR.box (by repeat (first | (with_reducible assumption) | (with_reducible apply Box.new; first | (with_reducible rfl) | omega | (simp only [World.size_alloc, World.size_setCell, World.size_drew, size_drewN] <;> omega)) | (with_reducible apply Box.old) | (with_reducible apply Box.drew) | (with_reducible apply Box.drewN) | (with_reducible apply Box.set) | (with_reducible apply Box.other) | (with_reducible apply Box.only_ (by with_reducible assumption)) | (with_reducible apply Box.kept_ (by with_reducible assumption)) | (simp only [World.size_alloc, World.size_setCell, World.size_drew, size_drewN]; omega) | omega | (dsimp only; omega) | rfl | (simp; done))) (by omega)
          have eC : Box w3 (w.heap.size + 1) #[.int .i64 ((P + r) % 4294967296), .int .i64 (P + r)] := GR.box (by repeat (first | (with_reducible assumption) | (with_reducible apply Box.new; first | (with_reducible rfl) | omega | (simp only [World.size_alloc, World.size_setCell, World.size_drew, size_drewN] <;> omega)) | (with_reducible apply Box.old) | (with_reducible apply Box.drew) | (with_reducible apply Box.drewN) | (with_reducible apply Box.set) | (with_reducible apply Box.other) | (with_reducible apply Box.only_ (by with_reducible assumption)) | (with_reducible apply Box.kept_ (by with_reducible assumption)) | (simp only [World.size_alloc, World.size_setCell, World.size_drew, size_drewN]; omega) | omega | (dsimp only; omega) | rfl | (simp; done))) (by omega)
          have es : IsSrc base w3 bs := GR.src (by repeat (first | (with_reducible assumption) | (with_reducible refine IsSrc.alloc ?_ _) | (with_reducible refine IsSrc.drew ?_) | (with_reducible refine IsSrc.drewN ?_ _) | (with_reducible refine IsSrc.setCell ?_ ?_ ?_ _) | (with_reducible refine IsSrc.kept ?_ (by with_reducible assumption)) | omega | (dsimp only; omega))) (by omega)
          have eq : Only bs w w3 := GR.only (by repeat (first | (with_reducible exact Only.refl _ _) | (with_reducible assumption) | (with_reducible refine Only.alloc ?_ _) | (with_reducible refine Only.drew ?_) | (with_reducible refine Only.drewN ?_ _) | (with_reducible refine Only.setCell ?_ ?_ _) | (with_reducible refine Only.trans ?_ (by with_reducible assumption)) | (with_reducible refine Only.trans ?_ (Only.of_kept (by with_reducible assumption))) | (simp only [World.size_alloc, World.size_setCell, World.size_drew, size_drewN]; omega) | omega | (dsimp only; omega))) (by omega)
          have ez : w.heap.size + 1 + 1 ≤ w3.heap.size := by have := GR.size; simp only [World.size_alloc, World.size_setCell] at this; omega
          obtain ⟨g, cap', rfl, hg1, hg2, hg3⟩ := own_form hown3 (by omega)
          have hown3 := Lib.hid hown3
          clear hgrow GR dM dC cM cC cCf lM lC hown2 q2 s2 z2
          go_wp2_with fail
          go_roundw
          case rel => exact ⟨I - 1, some ⟨g, 0, none⟩, cap', l ++ [P + r], P + r, rfl, by omega, by rw [List.length_append, List.length_singleton]; omega, by rw [List.length_append, List.length_singleton], by rw [List.length_append, List.length_singleton, List.flatMap_append, List.flatMap_singleton]; exact hown3.out, eM, eC, es, eq, ez, cgo_step HGO.out r0 r1⟩
          case measure => simp [intOf] <;> omega
      · obtain rfl : I = 0 := by omega
        have hS : SliceOf (CntR 4294967296) 2 bs wr a l.length cap l := SliceOf.of_owns hown.out (rows2_map (cntF 4294967296) l (fun e _ => rfl) (fun e _ => rfl)) rfl (.inr (fun k hk => by have := (hown.out.lt k hk).1; omega))
        have HS := Lib.hid hS
        clear hS
        go_wp2
        go_ret
        exact ⟨a, cap, l, P, HGO.out, hl6, rfl, HS.out, s1, q1⟩
end Go.Proofs.YtbclfphnhbmhoaaDoor
