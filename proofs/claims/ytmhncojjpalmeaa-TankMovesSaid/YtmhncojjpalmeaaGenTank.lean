/- The walk of the maker of tanks (batchlinekeep's Tank). -/
import Derived.Test.YtmhncojjpalmeaaTank4
import Derived.Test.YtmhncojjpalmeaaGenName
import Derived.Test.YtmhncojjpalmeaaOwn
import Derived.Test.YtmhncojjpalmeaaArgs
import Derived.Deep.RegionWith
import Derived.Deep.CutBlock
namespace Go.Proofs.Ytmhncojjpalmeaa
open Go.RowKit
set_option linter.unusedVariables false
set_option linter.unusedSimpArgs false

theorem strap_info : (Try.prog.info? 31).map (fun i => (i.zero, i.size, i.bytes)) = some (some (.agg #[.int .i64 0, .int .i64 0]), 2, 16) := by kernel_rfl
def strapF (s : Strap) : List Value := [.int .i64 s.lv, .int .i64 s.vl]
/-- The call has made a valid tank, in memory of its own. -/
def MadeTank (base bs : Nat) (w : World) (e : Ending) (w' : World) : Prop :=
  ∃ (nm : ByteArray) (a : Option Addr) (len cap : Nat) (lo hi : Int) (l : List Strap), tOk nm l lo hi ∧ nm.size ≤ 60 ∧ (l.length ≤ 6 ∧ (lst l).lv ≤ 7000 ∧ (lst l).vl ≤ 7000000) ∧ e = .returned (tnk nm a len cap lo hi) ∧ SliceOf StrapR 2 bs w' a len cap l ∧ IsSrc base w' bs ∧ Only bs w w'
/-- The straps so far, and the next one. -/
structure Going (l : List Strap) (x v : Int) : Prop where
  ok : ∀ i, i < l.length → stOk l i
  x0 : 0 ≤ x
  v0 : 0 ≤ v
  x1 : x ≤ 4 + 1000 * l.length
  v1 : v ≤ 49 + 1048576 * l.length
  up : 0 < l.length → (st l (l.length - 1)).lv < x ∧ (st l (l.length - 1)).vl < v

theorem st_append {l : List Strap} {s : Strap} {i : Nat} (h : i < l.length) : st (l ++ [s]) i = st l i := by
  unfold st
  rw [List.getD_eq_getElem?_getD, List.getD_eq_getElem?_getD, List.getElem?_append_left h]
theorem st_last {l : List Strap} {s : Strap} : st (l ++ [s]) l.length = s := by
  unfold st
  rw [List.getD_eq_getElem?_getD, List.getElem?_append_right (Nat.le_refl _), Nat.sub_self]
  rfl
theorem going_step {l : List Strap} {X V X2 V2 : Int} (h : Going l X V) (hl : l.length ≤ 6) (h1 : X + 1 ≤ X2) (h2 : X2 ≤ X + 1000) (h3 : V + 1 ≤ V2) (h4 : V2 ≤ V + 1048576) : Going (l ++ [⟨X, V⟩]) X2 V2 := by
  obtain ⟨ok, x0, v0, x1, v1, up⟩ := h
  have hlen : (l ++ [(⟨X, V⟩ : Strap)]).length = l.length + 1 := by simp
  refine ⟨fun i hi => ?_, by omega, by omega, by rw [hlen]; omega, by rw [hlen]; omega, fun _ => ?_⟩
  · rw [hlen] at hi
    rcases Nat.lt_or_eq_of_le (Nat.lt_succ_iff.1 hi) with h | rfl
    · unfold stOk
      rw [st_append h]
      refine ⟨(ok i h).1, fun hp => ?_⟩
      rw [st_append (by omega)]
      exact (ok i h).2 hp
    · unfold stOk
      rw [st_last]
      refine ⟨⟨⟨x0, by show X ≤ 1048576; omega⟩, v0, by show V ≤ 1099511627776; omega⟩, fun hp => ?_⟩
      rw [st_append (by omega)]
      exact up hp
  · rw [hlen, Nat.add_sub_cancel, st_last]
    exact ⟨by show X < X2; omega, by show V < V2; omega⟩
theorem strap_new {w : World} {X V : Int} {t : TypeId} {j : Nat} {u : Value} (h : (strapF ⟨X, V⟩)[j]? = some u) : (w.alloc (Obj.cells #[.int .i64 X, .int .i64 V] t)).cell? ((⟨w.heap.size, 0, none⟩ : Addr).add j) = some u := by
  rw [Addr.add_lit, cell_alloc_ite, if_neg (by omega), if_pos rfl, Nat.zero_add]
  rw [← h]
  unfold strapF
  simp
set_option maxRecDepth 100000 in
set_option maxHeartbeats 4000000 in
theorem Tank_any (base : Nat) (w : World) (bs : Nat) (hs : IsSrc base w bs) :
    Calls Try.prog 6 #[.pointer (some ⟨bs, 0, none⟩)] w (MadeTank base bs w) := by
  have hlt := hs.lt
  obtain ⟨i0, hi, hz0, hz1, hz2⟩ := info_parts strap_info
  have HI := Lib.hid (And.intro hi (And.intro hz0 (And.intro hz1 hz2)))
  clear hi hz0 hz1 hz2
  go_enter Try.func6, Try.ntmps6
  go_wp2_with fail
  refine (N_any base _ bs 26 (by repeat (first | (with_reducible assumption) | (with_reducible refine IsSrc.alloc ?_ _) | (with_reducible refine IsSrc.drew ?_) | (with_reducible refine IsSrc.drewN ?_ _) | (with_reducible refine IsSrc.setCell ?_ ?_ ?_ _) | (with_reducible refine IsSrc.kept ?_ (by with_reducible assumption)) | omega | (dsimp only; omega))) (by omega) (by omega)).mono ?_
  rintro e v1 ⟨n1, ⟨hn1, hn1'⟩, rfl, s1, o1⟩
  have o1_c := (ocell o1).1; have o1_f := (ocell o1).2; have o1_z := o1.size; try simp only [World.size_alloc, World.size_setCell, World.size_drew, size_drewN] at o1_c o1_f o1_z
  go_wp2_with fail
  refine (name_any _ _ _ (by omega) (by omega) (by decide)).mono ?_
  rintro e v2 ⟨rfl, c2⟩
  have c2_c := (kcell c2).1; have c2_f := (kcell c2).2; have c2_z := c2.size; try simp only [World.size_alloc, World.size_setCell, World.size_drew, size_drewN] at c2_c c2_f c2_z
  have s2 : IsSrc base v2 bs := (by repeat (first | (with_reducible assumption) | (with_reducible refine IsSrc.alloc ?_ _) | (with_reducible refine IsSrc.drew ?_) | (with_reducible refine IsSrc.drewN ?_ _) | (with_reducible refine IsSrc.setCell ?_ ?_ ?_ _) | (with_reducible refine IsSrc.kept ?_ (by with_reducible assumption)) | omega | (dsimp only; omega)))
  have nz : (nmOf ⟨#[116]⟩ n1).size ≤ 60 := by rw [nm_size]; decide
  have nok : nameOk (nmOf ⟨#[116]⟩ n1) = true := nameOk_nm 116 n1 (by decide)
  generalize nmOf ⟨#[116]⟩ n1 = nm at *
  go_wp2_with fail
  refine (N_any base _ bs 5 (by repeat (first | (with_reducible assumption) | (with_reducible refine IsSrc.alloc ?_ _) | (with_reducible refine IsSrc.drew ?_) | (with_reducible refine IsSrc.drewN ?_ _) | (with_reducible refine IsSrc.setCell ?_ ?_ ?_ _) | (with_reducible refine IsSrc.kept ?_ (by with_reducible assumption)) | omega | (dsimp only; omega))) (by omega) (by omega)).mono ?_
  rintro e v3 ⟨x0, ⟨hx0, hx1⟩, rfl, s3, o3⟩
  have o3_c := (ocell o3).1; have o3_f := (ocell o3).2; have o3_z := o3.size; try simp only [World.size_alloc, World.size_setCell, World.size_drew, size_drewN] at o3_c o3_f o3_z
  go_wp2_with fail
  refine (N_any base _ bs 50 (by repeat (first | (with_reducible assumption) | (with_reducible refine IsSrc.alloc ?_ _) | (with_reducible refine IsSrc.drew ?_) | (with_reducible refine IsSrc.drewN ?_ _) | (with_reducible refine IsSrc.setCell ?_ ?_ ?_ _) | (with_reducible refine IsSrc.kept ?_ (by with_reducible assumption)) | omega | (dsimp only; omega))) (by omega) (by omega)).mono ?_
  rintro e v4 ⟨y0, ⟨hy0, hy1⟩, rfl, s4, o4⟩
  have o4_c := (ocell o4).1; have o4_f := (ocell o4).2; have o4_z := o4.size; try simp only [World.size_alloc, World.size_setCell, World.size_drew, size_drewN] at o4_c o4_f o4_z
  go_wp2_with fail
  refine (Range_any base _ bs 2 6 (by repeat (first | (with_reducible assumption) | (with_reducible refine IsSrc.alloc ?_ _) | (with_reducible refine IsSrc.drew ?_) | (with_reducible refine IsSrc.drewN ?_ _) | (with_reducible refine IsSrc.setCell ?_ ?_ ?_ _) | (with_reducible refine IsSrc.kept ?_ (by with_reducible assumption)) | omega | (dsimp only; omega))) (by omega) (by omega) (by omega) (by omega)).mono ?_
  rintro e v5 ⟨m, ⟨hm0, hm1⟩, rfl, s5, o5⟩
  have o5_c := (ocell o5).1; have o5_f := (ocell o5).2; have o5_z := o5.size; try simp only [World.size_alloc, World.size_setCell, World.size_drew, size_drewN] at o5_c o5_f o5_z
  have z2 := c2.size
  have q2 : Only bs w v2 := (by repeat (first | (with_reducible exact Only.refl _ _) | (with_reducible assumption) | (with_reducible refine Only.alloc ?_ _) | (with_reducible refine Only.drew ?_) | (with_reducible refine Only.drewN ?_ _) | (with_reducible refine Only.setCell ?_ ?_ _) | (with_reducible refine Only.trans ?_ (by with_reducible assumption)) | (with_reducible refine Only.trans ?_ (Only.of_kept (by with_reducible assumption))) | (simp only [World.size_alloc, World.size_setCell, World.size_drew, size_drewN]; omega) | omega | (dsimp only; omega)))
  have q3 : Only bs w v3 := (by repeat (first | (with_reducible exact Only.refl _ _) | (with_reducible assumption) | (with_reducible refine Only.alloc ?_ _) | (with_reducible refine Only.drew ?_) | (with_reducible refine Only.drewN ?_ _) | (with_reducible refine Only.setCell ?_ ?_ _) | (with_reducible refine Only.trans ?_ (by with_reducible assumption)) | (with_reducible refine Only.trans ?_ (Only.of_kept (by with_reducible assumption))) | (simp only [World.size_alloc, World.size_setCell, World.size_drew, size_drewN]; omega) | omega | (dsimp only; omega)))
  have q5 : Only bs w v5 := (by repeat (first | (with_reducible exact Only.refl _ _) | (with_reducible assumption) | (with_reducible refine Only.alloc ?_ _) | (with_reducible refine Only.drew ?_) | (with_reducible refine Only.drewN ?_ _) | (with_reducible refine Only.setCell ?_ ?_ _) | (with_reducible refine Only.trans ?_ (by with_reducible assumption)) | (with_reducible refine Only.trans ?_ (Only.of_kept (by with_reducible assumption))) | (simp only [World.size_alloc, World.size_setCell, World.size_drew, size_drewN]; omega) | omega | (dsimp only; omega)))
  have b3 : Box v5 v2.heap.size #[.string nm, .slice none 0 0, .int .i64 0, .int .i64 0] := Box.only (Box.old (Box.only (Box.only (Box.new rfl) o3 (by omega)) o4 (by omega)) _) o5 (by omega)
  have b2 : Box v5 w.heap.size #[.string ⟨#[]⟩, .slice none 0 0, .int .i64 0, .int .i64 0] := Box.only (Box.old (Box.only (Box.only (Box.old (Box.kept (Box.only (Box.new rfl) o1 (by omega)) c2) _) o3 (by omega)) o4 (by omega)) _) o5 (by omega)
  have b4 : Box v5 v4.heap.size #[.int .i64 x0, .int .i64 y0] := Box.only (Box.new rfl) o5 (by omega)
  go_wp2_with fail
  have l5 := s5.lt
  have z5 := b4.lt
  have z3 := b3.lt
  have zw : w.heap.size ≤ v5.heap.size := q5.size
  have e0 : w.heap.size ≤ v2.heap.size := q2.size
  have e00 : w.heap.size < v2.heap.size := by have := o1.size; have := c2.size; simp only [World.size_alloc] at *; omega
  have e3 : bs ≠ v2.heap.size := by omega
  have e4 : bs ≠ v4.heap.size := by omega
  have e34 : v2.heap.size < v4.heap.size := by have := o3.size; have := o4.size; simp only [World.size_alloc] at *; omega
  clear o1_c o1_f o1_z c2_c c2_f c2_z o3_c o3_f o3_z o4_c o4_f o4_z o5_c o5_f o5_z o1 c2 o3 o4 o5 q2 q3 s1 s2 s3 s4 z2
  generalize hB3 : v2.heap.size = B3 at *
  generalize hB4 : v4.heap.size = B4 at *
  generalize hBA : v5.heap.size = BA at *
  go_loopw [5] (fun i wr => ∃ (I : Int) (a : Option Addr) (cap : Nat) (l : List Strap) (X V : Int), i = .int .i64 I ∧ 0 ≤ I ∧ I + l.length = m ∧ wr.ownsRow BA 31 2 (.slice a l.length cap) l.length (l.flatMap strapF) ∧ Box wr B3 #[.string nm, .slice a l.length cap, .int .i64 0, .int .i64 0] ∧ Box wr B4 #[.int .i64 X, .int .i64 V] ∧ Box wr w.heap.size #[.string ⟨#[]⟩, .slice none 0 0, .int .i64 0, .int .i64 0] ∧ IsSrc base wr bs ∧ Only bs w wr ∧ BA ≤ wr.heap.size ∧ Going l X V) (fun i _ => (intOf i).toNat)
  case atStart => exact ⟨m, none, 0, [], x0, y0, rfl, by omega, by simp, World.ownsRow_nil _ _ _ _, b3, b4, b2, s5, q5, by omega, ⟨fun i h => absurd h (by simp), by omega, by omega, by simp; omega, by simp; omega, fun h => absurd h (by simp)⟩⟩
  case round =>
    clear b3 b4 b2 s5 q5 hB3 hB4 hBA
    obtain ⟨I, a, cap, l, X, V, rfl, hI0, hIm, hown, b3, b4, b2, s5, q5, hBA, hgo⟩ := hrel
    have f3 := b3.cell
    have f3f := b3.free
    have f4 := b4.cell
    have f4f := b4.free
    have lb3 := b3.lt
    have lb4 := b4.lt
    have ls5 := s5.lt
    have hl6 : l.length ≤ 6 := by omega
    have hown := Lib.hid hown
    have HGO := Lib.hid hgo
    obtain ⟨_, gx0, gv0, gx1, gv1, _⟩ := hgo
    by_cases hi : 0 < I
    · go_wp2_with (at_builtin; refine wpList_append_own _ rfl _ _ 24 rfl BA 31 i0 (.agg #[.int .i64 0, .int .i64 0]) 2 16 Try.underlying24 HI.out.1 HI.out.2.1 HI.out.2.2.1 HI.out.2.2.2 rfl (by decide) _ _ _ rfl (hown.out.alloc _) ⟨wr.heap.size, 0, none⟩ 1 1 (strapF ⟨X, V⟩) rfl rfl ?c1 ?c2 ?c3 ?c4 ?c5 ?c6)
      case c1 => intro j u hj; exact strap_new hj
      case c2 => intro u hu; simp [strapF] at hu; rcases hu with rfl | rfl <;> rfl
      case c3 => unfold maxLen; omega
      case c4 => omega
      case c5 => simp; omega
      case c6 =>
        intro v' w1 hown1 hgrow _
        have GR := grown_below (hown.out.alloc _) hgrow
        have d3 : Box w1 B3 #[.string nm, .slice a l.length cap, .int .i64 0, .int .i64 0] := GR.box (Box.old b3 _) (by omega)
        have d4 : Box w1 B4 #[.int .i64 X, .int .i64 V] := GR.box (Box.old b4 _) (by omega)
        have d2 : Box w1 w.heap.size #[.string ⟨#[]⟩, .slice none 0 0, .int .i64 0, .int .i64 0] := GR.box (Box.old b2 _) (by omega)
        have ds : IsSrc base w1 bs := GR.src (s5.alloc _) (by omega)
        have dq : Only bs w w1 := GR.only (q5.alloc _) (by omega)
        have dz : BA ≤ w1.heap.size := by have := GR.size; simp only [World.size_alloc] at this; omega
        obtain ⟨g, cap', rfl, hg1, hg2, hg3⟩ := own_form hown1 (by omega)
        have hown1 := Lib.hid hown1
        clear hgrow GR b3 b4 b2 f3 f3f f4 f4f lb3 lb4 s5 q5 hown
        have f3 := d3.cell
        have f3f := d3.free
        have f4 := d4.cell
        have f4f := d4.free
        have lb3 := d3.lt
        have lb4 := d4.lt
        have ls := ds.lt
        go_upto_region 7 with fail
        go_cut [] (fun wx => ∃ Y : Int, X + 1 ≤ Y ∧ Y ≤ X + 1000 ∧ Box wx B3 #[.string nm, .slice (some ⟨g, 0, none⟩) (l.length + 1) cap', .int .i64 0, .int .i64 0] ∧ Box wx B4 #[.int .i64 Y, .int .i64 V] ∧ Box wx w.heap.size #[.string ⟨#[]⟩, .slice none 0 0, .int .i64 0, .int .i64 0] ∧ wx.ownsRow BA 31 2 (.slice (some ⟨g, 0, none⟩) (l.length + 1) cap') (l.length + 1) (l.flatMap strapF ++ strapF ⟨X, V⟩) ∧ IsSrc base wx bs ∧ Only bs w wx ∧ BA ≤ wx.heap.size)
        case first =>
          go_region_with (first
            | (go_at_call 22; refine (Pick_any base _ bs _ _ _ _ (fun n => 1 ≤ n ∧ n ≤ 1000) (by repeat (first | (with_reducible assumption) | (with_reducible refine IsSrc.alloc ?_ _) | (with_reducible refine IsSrc.drew ?_) | (with_reducible refine IsSrc.drewN ?_ _) | (with_reducible refine IsSrc.setCell ?_ ?_ ?_ _) | (with_reducible refine IsSrc.kept ?_ (by with_reducible assumption)) | omega | (dsimp only; omega))) (by omega) (by omega) (by first | omega | (simp only [World.size_alloc, World.size_setCell, World.size_drew, size_drewN]; omega) | (simp only [World.size_alloc, World.size_setCell, World.size_drew, size_drewN])) (by omega) (by first | (refine RowOf.drew (RowOf.new ?_ ?_ ?_) <;> simp [IntIs]; done) | (refine RowOf.new ?_ ?_ ?_ <;> simp [IntIs]; done))).mono ?_; rintro e v6 ⟨n6, ⟨p0, p1⟩, rfl, s6, o6⟩; have o6_c := (ocell o6).1; have o6_f := (ocell o6).2; have o6_z := o6.size; try simp only [World.size_alloc, World.size_setCell, World.size_drew, size_drewN] at o6_c o6_f o6_z)
            | (go_at_call 21; refine (Range_any base _ bs 1 _ (by repeat (first | (with_reducible assumption) | (with_reducible refine IsSrc.alloc ?_ _) | (with_reducible refine IsSrc.drew ?_) | (with_reducible refine IsSrc.drewN ?_ _) | (with_reducible refine IsSrc.setCell ?_ ?_ ?_ _) | (with_reducible refine IsSrc.kept ?_ (by with_reducible assumption)) | omega | (dsimp only; omega))) (by omega) (by omega) (by omega) (by omega)).mono ?_; rintro e v7 ⟨d, ⟨d0, d1⟩, rfl, s7, o7⟩; have o7_c := (ocell o7).1; have o7_f := (ocell o7).2; have o7_z := o7.size; try simp only [World.size_alloc, World.size_setCell, World.size_drew, size_drewN] at o7_c o7_f o7_z))
          all_goals
            have ew : IntKind.i64.wrap (X + d) = X + d := IntWalk.i64_in _ (by omega)
            have EW := Lib.hid ew
            clear ew
            go_wp2_with fail
            go_meet
            try rw [EW.out]
            exact ⟨X + d, by omega, by omega, (by repeat (first | (with_reducible assumption) | (with_reducible apply Box.new; first | (with_reducible rfl) | omega | (simp only [World.size_alloc, World.size_setCell, World.size_drew, size_drewN] <;> omega)) | (with_reducible apply Box.old) | (with_reducible apply Box.drew) | (with_reducible apply Box.drewN) | (with_reducible apply Box.set) | (with_reducible apply Box.other) | (with_reducible apply Box.only_ (by with_reducible assumption)) | (with_reducible apply Box.kept_ (by with_reducible assumption)) | (simp only [World.size_alloc, World.size_setCell, World.size_drew, size_drewN]; omega) | omega | (dsimp only; omega) | rfl | (simp; done))), (by repeat (first | (with_reducible assumption) | (with_reducible apply Box.new; first | (with_reducible rfl) | omega | (simp only [World.size_alloc, World.size_setCell, World.size_drew, size_drewN] <;> omega)) | (with_reducible apply Box.old) | (with_reducible apply Box.drew) | (with_reducible apply Box.drewN) | (with_reducible apply Box.set) | (with_reducible apply Box.other) | (with_reducible apply Box.only_ (by with_reducible assumption)) | (with_reducible apply Box.kept_ (by with_reducible assumption)) | (simp only [World.size_alloc, World.size_setCell, World.size_drew, size_drewN]; omega) | omega | (dsimp only; omega) | rfl | (simp; done))), (by repeat (first | (with_reducible assumption) | (with_reducible apply Box.new; first | (with_reducible rfl) | omega | (simp only [World.size_alloc, World.size_setCell, World.size_drew, size_drewN] <;> omega)) | (with_reducible apply Box.old) | (with_reducible apply Box.drew) | (with_reducible apply Box.drewN) | (with_reducible apply Box.set) | (with_reducible apply Box.other) | (with_reducible apply Box.only_ (by with_reducible assumption)) | (with_reducible apply Box.kept_ (by with_reducible assumption)) | (simp only [World.size_alloc, World.size_setCell, World.size_drew, size_drewN]; omega) | omega | (dsimp only; omega) | rfl | (simp; done))), (by repeat (first | (with_reducible exact hown1.out) | (with_reducible refine own_set ?_ ?_) | (with_reducible refine own_only ?_ (by with_reducible assumption) ?_) | (with_reducible refine World.ownsRow.alloc ?_ _) | (with_reducible refine own_drew ?_) | (with_reducible refine own_drewN ?_) | (with_reducible refine own_kept ?_ (by with_reducible assumption)) | omega | (dsimp only; omega))), (by repeat (first | (with_reducible assumption) | (with_reducible refine IsSrc.alloc ?_ _) | (with_reducible refine IsSrc.drew ?_) | (with_reducible refine IsSrc.drewN ?_ _) | (with_reducible refine IsSrc.setCell ?_ ?_ ?_ _) | (with_reducible refine IsSrc.kept ?_ (by with_reducible assumption)) | omega | (dsimp only; omega))), (by repeat (first | (with_reducible exact Only.refl _ _) | (with_reducible assumption) | (with_reducible refine Only.alloc ?_ _) | (with_reducible refine Only.drew ?_) | (with_reducible refine Only.drewN ?_ _) | (with_reducible refine Only.setCell ?_ ?_ _) | (with_reducible refine Only.trans ?_ (by with_reducible assumption)) | (with_reducible refine Only.trans ?_ (Only.of_kept (by with_reducible assumption))) | (simp only [World.size_alloc, World.size_setCell, World.size_drew, size_drewN]; omega) | omega | (dsimp only; omega))), (by first | omega | (simp only [World.size_alloc, World.size_setCell, World.size_drew, size_drewN]; omega) | (simp only [World.size_alloc, World.size_setCell, World.size_drew, size_drewN]))⟩
        case rest =>
          clear d3 d4 d2 ds dq dz f3 f3f f4 f4f lb3 lb4 ls hown1
          obtain ⟨X2, hX1, hX2, d3, d4, d2, hown2, ds, dq, dz⟩ := hcut
          have hown2 := Lib.hid hown2
          have f4 := d4.cell
          have f4f := d4.free
          have lb3 := d3.lt
          have lb4 := d4.lt
          have ls := ds.lt
          go_upto_region 8 with fail
          go_region_with (first
            | (go_at_call 22; refine (Pick_any base _ bs _ _ _ _ (fun n => 1 ≤ n ∧ n ≤ 1048576) (by repeat (first | (with_reducible assumption) | (with_reducible refine IsSrc.alloc ?_ _) | (with_reducible refine IsSrc.drew ?_) | (with_reducible refine IsSrc.drewN ?_ _) | (with_reducible refine IsSrc.setCell ?_ ?_ ?_ _) | (with_reducible refine IsSrc.kept ?_ (by with_reducible assumption)) | omega | (dsimp only; omega))) (by omega) (by omega) (by first | omega | (simp only [World.size_alloc, World.size_setCell, World.size_drew, size_drewN]; omega) | (simp only [World.size_alloc, World.size_setCell, World.size_drew, size_drewN])) (by omega) (by first | (refine RowOf.drew (RowOf.new ?_ ?_ ?_) <;> simp [IntIs]; done) | (refine RowOf.new ?_ ?_ ?_ <;> simp [IntIs]; done))).mono ?_; rintro e v6 ⟨n6, ⟨p0, p1⟩, rfl, s6, o6⟩; have o6_c := (ocell o6).1; have o6_f := (ocell o6).2; have o6_z := o6.size; try simp only [World.size_alloc, World.size_setCell, World.size_drew, size_drewN] at o6_c o6_f o6_z)
            | (go_at_call 21; refine (Range_any base _ bs 1 _ (by repeat (first | (with_reducible assumption) | (with_reducible refine IsSrc.alloc ?_ _) | (with_reducible refine IsSrc.drew ?_) | (with_reducible refine IsSrc.drewN ?_ _) | (with_reducible refine IsSrc.setCell ?_ ?_ ?_ _) | (with_reducible refine IsSrc.kept ?_ (by with_reducible assumption)) | omega | (dsimp only; omega))) (by omega) (by omega) (by omega) (by omega)).mono ?_; rintro e v7 ⟨d, ⟨d0, d1⟩, rfl, s7, o7⟩; have o7_c := (ocell o7).1; have o7_f := (ocell o7).2; have o7_z := o7.size; try simp only [World.size_alloc, World.size_setCell, World.size_drew, size_drewN] at o7_c o7_f o7_z))
          all_goals
            have ew : IntKind.i64.wrap (V + d) = V + d := IntWalk.i64_in _ (by omega)
            have EW := Lib.hid ew
            clear ew
            go_wp2_with fail
            try rw [EW.out]
            go_roundw
            case rel => exact ⟨I - 1, some ⟨g, 0, none⟩, cap', l ++ [⟨X, V⟩], X2, V + d, rfl, by omega, by rw [List.length_append]; simp; omega, by rw [List.length_append, List.length_singleton, List.flatMap_append, List.flatMap_singleton]; exact (by repeat (first | (with_reducible exact hown2.out) | (with_reducible refine own_set ?_ ?_) | (with_reducible refine own_only ?_ (by with_reducible assumption) ?_) | (with_reducible refine World.ownsRow.alloc ?_ _) | (with_reducible refine own_drew ?_) | (with_reducible refine own_drewN ?_) | (with_reducible refine own_kept ?_ (by with_reducible assumption)) | omega | (dsimp only; omega))), by rw [List.length_append, List.length_singleton]; exact (by repeat (first | (with_reducible assumption) | (with_reducible apply Box.new; first | (with_reducible rfl) | omega | (simp only [World.size_alloc, World.size_setCell, World.size_drew, size_drewN] <;> omega)) | (with_reducible apply Box.old) | (with_reducible apply Box.drew) | (with_reducible apply Box.drewN) | (with_reducible apply Box.set) | (with_reducible apply Box.other) | (with_reducible apply Box.only_ (by with_reducible assumption)) | (with_reducible apply Box.kept_ (by with_reducible assumption)) | (simp only [World.size_alloc, World.size_setCell, World.size_drew, size_drewN]; omega) | omega | (dsimp only; omega) | rfl | (simp; done))), (by repeat (first | (with_reducible assumption) | (with_reducible apply Box.new; first | (with_reducible rfl) | omega | (simp only [World.size_alloc, World.size_setCell, World.size_drew, size_drewN] <;> omega)) | (with_reducible apply Box.old) | (with_reducible apply Box.drew) | (with_reducible apply Box.drewN) | (with_reducible apply Box.set) | (with_reducible apply Box.other) | (with_reducible apply Box.only_ (by with_reducible assumption)) | (with_reducible apply Box.kept_ (by with_reducible assumption)) | (simp only [World.size_alloc, World.size_setCell, World.size_drew, size_drewN]; omega) | omega | (dsimp only; omega) | rfl | (simp; done))), (by repeat (first | (with_reducible assumption) | (with_reducible apply Box.new; first | (with_reducible rfl) | omega | (simp only [World.size_alloc, World.size_setCell, World.size_drew, size_drewN] <;> omega)) | (with_reducible apply Box.old) | (with_reducible apply Box.drew) | (with_reducible apply Box.drewN) | (with_reducible apply Box.set) | (with_reducible apply Box.other) | (with_reducible apply Box.only_ (by with_reducible assumption)) | (with_reducible apply Box.kept_ (by with_reducible assumption)) | (simp only [World.size_alloc, World.size_setCell, World.size_drew, size_drewN]; omega) | omega | (dsimp only; omega) | rfl | (simp; done))), (by repeat (first | (with_reducible assumption) | (with_reducible refine IsSrc.alloc ?_ _) | (with_reducible refine IsSrc.drew ?_) | (with_reducible refine IsSrc.drewN ?_ _) | (with_reducible refine IsSrc.setCell ?_ ?_ ?_ _) | (with_reducible refine IsSrc.kept ?_ (by with_reducible assumption)) | omega | (dsimp only; omega))), (by repeat (first | (with_reducible exact Only.refl _ _) | (with_reducible assumption) | (with_reducible refine Only.alloc ?_ _) | (with_reducible refine Only.drew ?_) | (with_reducible refine Only.drewN ?_ _) | (with_reducible refine Only.setCell ?_ ?_ _) | (with_reducible refine Only.trans ?_ (by with_reducible assumption)) | (with_reducible refine Only.trans ?_ (Only.of_kept (by with_reducible assumption))) | (simp only [World.size_alloc, World.size_setCell, World.size_drew, size_drewN]; omega) | omega | (dsimp only; omega))), (by first | omega | (simp only [World.size_alloc, World.size_setCell, World.size_drew, size_drewN]; omega) | (simp only [World.size_alloc, World.size_setCell, World.size_drew, size_drewN])), going_step HGO.out (by omega) hX1 hX2 (by omega) (by omega)⟩
            case measure => simp [intOf]; omega
    · obtain rfl : I = 0 := by omega
      have hS : SliceOf StrapR 2 bs wr a l.length cap l := SliceOf.of_owns hown.out (rows2_map strapF l (fun e _ => rfl) (fun e _ => rfl)) rfl (.inr (fun k hk => by have := (hown.out.lt k hk).1; omega))
      obtain ⟨n, hn⟩ : ∃ n, l.length = n + 1 := ⟨l.length - 1, by omega⟩
      have hn1 : 1 ≤ n := by omega
      rw [hn] at hS b3
      have f3 := b3.cell
      have f2 := b2.cell
      have f2f := b2.free
      have lb2 := b2.lt
      obtain ⟨b, o, rfl, hbw, d0, d1, d2, d3⟩ := ends_at hS (Kept.refl wr)
      have HS := Lib.hid hS
      have HN := Lib.hid hn
      have g1 : IntKind.i64.wrap ((n : Int) + 1 - 1) = n := by rw [show (n : Int) + 1 - 1 = n by omega]; exact IntWalk.i64_in _ (by omega)
      have g2 : (n : Int) < (n : Int) + 1 := by omega
      have g3 : (0 : Int) < (n : Int) + 1 := by omega
      clear hS
      have ht : Straps l := ⟨by omega, by omega, HGO.out.ok⟩
      obtain ⟨q1, q2, ⟨⟨p1, p2⟩, _⟩, ⟨⟨p3, p4⟩, _⟩⟩ := ends_lt ht
      have hsm : l.length ≤ 6 ∧ (lst l).lv ≤ 7000 ∧ (lst l).vl ≤ 7000000 := by
        have hu := HGO.out.up (by omega)
        have hx := HGO.out.x1
        have hv := HGO.out.v1
        unfold lst
        exact ⟨by omega, by omega, by omega⟩
      have SM := Lib.hid hsm
      clear hsm
      have HT := Lib.hid ht
      have hlst : (lst l).lv = (st l (l.length - 1)).lv := rfl
      have HL := Lib.hid hlst
      clear hlst ht
      go_wp2_with fail
      go_quiet (fail)
      go_wp2_with fail
      refine (N_any base _ bs _ (by repeat (first | (with_reducible assumption) | (with_reducible refine IsSrc.alloc ?_ _) | (with_reducible refine IsSrc.drew ?_) | (with_reducible refine IsSrc.drewN ?_ _) | (with_reducible refine IsSrc.setCell ?_ ?_ ?_ _) | (with_reducible refine IsSrc.kept ?_ (by with_reducible assumption)) | omega | (dsimp only; omega))) (by omega) (by omega)).mono ?_
      rintro e v6 ⟨r, ⟨r0, r1⟩, rfl, s6, o6⟩
      have o6_c := (ocell o6).1; have o6_f := (ocell o6).2; have o6_z := o6.size; try simp only [World.size_alloc, World.size_setCell, World.size_drew, size_drewN] at o6_c o6_f o6_z
      go_wp2_with fail
      refine (Range_any base _ bs _ _ (by repeat (first | (with_reducible assumption) | (with_reducible refine IsSrc.alloc ?_ _) | (with_reducible refine IsSrc.drew ?_) | (with_reducible refine IsSrc.drewN ?_ _) | (with_reducible refine IsSrc.setCell ?_ ?_ ?_ _) | (with_reducible refine IsSrc.kept ?_ (by with_reducible assumption)) | omega | (dsimp only; omega))) (by omega) (by omega) (by omega) (by omega)).mono ?_
      rintro e v7 ⟨hh, ⟨h0, h1⟩, rfl, s7, o7⟩
      have o7_c := (ocell o7).1; have o7_f := (ocell o7).2; have o7_z := o7.size; try simp only [World.size_alloc, World.size_setCell, World.size_drew, size_drewN] at o7_c o7_f o7_z
      go_wp2
      have h2c := Box.cell (show Box v7 w.heap.size #[.string ⟨#[]⟩, .slice none 0 0, .int .i64 0, .int .i64 0] from (by repeat (first | (with_reducible assumption) | (with_reducible apply Box.new; first | (with_reducible rfl) | omega | (simp only [World.size_alloc, World.size_setCell, World.size_drew, size_drewN] <;> omega)) | (with_reducible apply Box.old) | (with_reducible apply Box.drew) | (with_reducible apply Box.drewN) | (with_reducible apply Box.set) | (with_reducible apply Box.other) | (with_reducible apply Box.only_ (by with_reducible assumption)) | (with_reducible apply Box.kept_ (by with_reducible assumption)) | (simp only [World.size_alloc, World.size_setCell, World.size_drew, size_drewN]; omega) | omega | (dsimp only; omega) | rfl | (simp; done))))
      refine bodyPost_ret (v := tnk nm (some ⟨b, o, none⟩) (n + 1) cap ((fst l).lv + r) hh) (by simp [results, Try.results6, go_sem, ↓IntWalk.iteOmega, h2c]) rfl ⟨nm, _, _, _, _, _, l, ⟨nok, ⟨by omega, by omega⟩, HT.out.ok, ?_, ?_, by omega⟩, nz, SM.out, rfl, ?_, (by repeat (first | (with_reducible assumption) | (with_reducible refine IsSrc.alloc ?_ _) | (with_reducible refine IsSrc.drew ?_) | (with_reducible refine IsSrc.drewN ?_ _) | (with_reducible refine IsSrc.setCell ?_ ?_ ?_ _) | (with_reducible refine IsSrc.kept ?_ (by with_reducible assumption)) | omega | (dsimp only; omega))), (by repeat (first | (with_reducible exact Only.refl _ _) | (with_reducible assumption) | (with_reducible refine Only.alloc ?_ _) | (with_reducible refine Only.drew ?_) | (with_reducible refine Only.drewN ?_ _) | (with_reducible refine Only.setCell ?_ ?_ _) | (with_reducible refine Only.trans ?_ (by with_reducible assumption)) | (with_reducible refine Only.trans ?_ (Only.of_kept (by with_reducible assumption))) | (simp only [World.size_alloc, World.size_setCell, World.size_drew, size_drewN]; omega) | omega | (dsimp only; omega)))⟩
      · show (fst l).lv ≤ _; omega
      · rw [← HL.out]; omega
      · rw [← HN.out]
        exact SliceOf.of_owns (base := BA) (E := 31) (n := l.length) (xs := l.flatMap strapF) (by repeat (first | (with_reducible exact hown.out) | (with_reducible refine own_set ?_ ?_) | (with_reducible refine own_only ?_ (by with_reducible assumption) ?_) | (with_reducible refine World.ownsRow.alloc ?_ _) | (with_reducible refine own_drew ?_) | (with_reducible refine own_drewN ?_) | (with_reducible refine own_kept ?_ (by with_reducible assumption)) | omega | (dsimp only; omega))) (rows2_map strapF l (fun e _ => rfl) (fun e _ => rfl)) rfl (.inr (fun k hk => by have := (hown.out.lt k hk).1; omega))
end Go.Proofs.Ytmhncojjpalmeaa
