/- The walk of MeterAnswers. -/
import Derived.Test.YtbodabbgcbjkcaaMeter3
import Derived.Test.YtbodabbgcbjkcaaMeter8
import Derived.Test.YtbodabbgcbjkcaaArgs
import Derived.Deep.DeepCutAuto
import Derived.Deep.CutBlock
namespace Go.Proofs.Ytbodabbgcbjkcaa
open Go.RowKit
set_option linter.unusedVariables false
set_option linter.unusedSimpArgs false

/-- Block b holds n ints. -/
def IntsBlk (w : World) (b n : Nat) : Prop := b < w.heap.size ∧ ∀ i, i < n → ∃ x : Int, w.cell? ⟨b, i, none⟩ = some (.int .i64 x)
theorem IntsBlk.only {w w' : World} {b n bs : Nat} (h : IntsBlk w b n) (k : Only bs w w') (hn : b ≠ bs) : IntsBlk w' b n :=
  ⟨Nat.lt_of_lt_of_le h.1 k.size, fun i hi => by obtain ⟨x, hx⟩ := h.2 i hi; exact ⟨x, by rw [ocell1 k h.1 hn]; exact hx⟩⟩
theorem IntsBlk.of_box {w : World} {b n : Nat} {c : Array Value} (h : Box w b c) (hc : ∀ i, i < n → ∃ x : Int, c[i]? = some (.int .i64 x)) : IntsBlk w b n :=
  ⟨h.lt, fun i hi => by obtain ⟨x, hx⟩ := hc i hi; exact ⟨x, by rw [h.cell]; exact hx⟩⟩
theorem ints_of {xs : List Int} {c : Array Value} (e : c = (xs.map (Value.int .i64)).toArray) : ∀ i, i < xs.length → ∃ x : Int, c[i]? = some (.int .i64 x) := fun i hi => by
  subst e
  refine ⟨xs[i], ?_⟩
  rw [List.getElem?_toArray, List.getElem?_map, List.getElem?_eq_getElem hi]
  rfl
theorem ints9 {a b c d e f g h k : Int} : ∀ i, i < 9 → ∃ x : Int, (#[Value.int .i64 a, .int .i64 b, .int .i64 c, .int .i64 d, .int .i64 e, .int .i64 f, .int .i64 g, .int .i64 h, .int .i64 k] : Array Value)[i]? = some (.int .i64 x) := ints_of (xs := [a, b, c, d, e, f, g, h, k]) rfl
theorem ints8 {a b c d e f g h : Int} : ∀ i, i < 8 → ∃ x : Int, (#[Value.int .i64 a, .int .i64 b, .int .i64 c, .int .i64 d, .int .i64 e, .int .i64 f, .int .i64 g, .int .i64 h] : Array Value)[i]? = some (.int .i64 x) := ints_of (xs := [a, b, c, d, e, f, g, h]) rfl
theorem ints6 {a b c d e f : Int} : ∀ i, i < 6 → ∃ x : Int, (#[Value.int .i64 a, .int .i64 b, .int .i64 c, .int .i64 d, .int .i64 e, .int .i64 f] : Array Value)[i]? = some (.int .i64 x) := ints_of (xs := [a, b, c, d, e, f]) rfl
theorem ints3 {a b c : Int} : ∀ i, i < 3 → ∃ x : Int, (#[Value.int .i64 a, .int .i64 b, .int .i64 c] : Array Value)[i]? = some (.int .i64 x) := ints_of (xs := [a, b, c]) rfl
theorem ints2 {a b : Int} : ∀ i, i < 2 → ∃ x : Int, (#[Value.int .i64 a, .int .i64 b] : Array Value)[i]? = some (.int .i64 x) := ints_of (xs := [a, b]) rfl
theorem step3 {bs a b n : Nat} {c : Array Value} {w2 w3 W : World} (h : Only bs w3 W) (q : Only bs w2 w3) (hb : Box w3 a c) (hi : IntsBlk w3 b n) (ha : a ≠ bs) (hb' : b ≠ bs) : Only bs w2 W ∧ Box W a c ∧ IntsBlk W b n :=
  ⟨q.trans h, hb.only h ha, hi.only h hb'⟩
/-- What a loop of the statement keeps: the reader, and all blocks but the reader's. -/
structure Going (base bs : Nat) (w0 wr : World) : Prop where
  src : IsSrc base wr bs
  only : Only bs w0 wr

set_option maxRecDepth 100000 in
set_option maxHeartbeats 8000000 in
theorem MeterAnswers_law (rp rb rf al an bl bn rd pu : Int) (a : Option Addr) (len cap : Nat) (w : World) (h : ArgInts w a len cap) :
    Calls Try.prog 12 #[mtr rp rb rf, cnt al an, cnt bl bn, .int .i64 rd, .int .i64 pu, .slice a len cap] w (Ret (.bool true) w) := by
  go_enter Try.func12, Try.ntmps12
  go_wp2_with fail
  refine (New_any _ _ _ _ (h.kept (by repeat (first | (with_reducible exact Kept.refl _) | (with_reducible assumption) | (with_reducible refine Kept.alloc ?_ _) | (with_reducible refine Kept.drew ?_) | (with_reducible refine Kept.drewN ?_ _) | (with_reducible refine Kept.setCell ?_ ?_ _) | (with_reducible refine Kept.trans ?_ (by with_reducible assumption)) | (simp only [World.size_alloc, World.size_setCell, World.size_drew, size_drewN]; omega) | omega | (dsimp only; omega))))).mono ?_
  rintro e w1 ⟨bs, rfl, hs1, k1⟩
  have k1_c := (kcell k1).1; have k1_f := (kcell k1).2; have k1_z := k1.size; try simp only [World.size_alloc, World.size_setCell, World.size_drew, size_drewN] at k1_c k1_f k1_z
  have hlt := hs1.lt
  simp only [World.size_alloc] at hlt hs1
  go_wp2_with fail
  refine (SrcMeter_any _ _ bs (by repeat (first | (with_reducible assumption) | (with_reducible refine IsSrc.alloc ?_ _) | (with_reducible refine IsSrc.drew ?_) | (with_reducible refine IsSrc.drewN ?_ _) | (with_reducible refine IsSrc.setCell ?_ ?_ ?_ _) | (with_reducible refine IsSrc.kept ?_ (by with_reducible assumption)) | omega | (dsimp only; omega)))).mono ?_
  rintro e v2 ⟨p, b, f, hm, rfl, s2, o2⟩
  have o2_c := (ocell o2).1; have o2_f := (ocell o2).2; have o2_z := o2.size; try simp only [World.size_alloc, World.size_setCell, World.size_drew, size_drewN] at o2_c o2_f o2_z
  go_wp2_with fail
  refine (N_any (w.heap.size + 1 + 1 + 1) _ bs 3 (by repeat (first | (with_reducible assumption) | (with_reducible refine IsSrc.alloc ?_ _) | (with_reducible refine IsSrc.drew ?_) | (with_reducible refine IsSrc.drewN ?_ _) | (with_reducible refine IsSrc.setCell ?_ ?_ ?_ _) | (with_reducible refine IsSrc.kept ?_ (by with_reducible assumption)) | omega | (dsimp only; omega))) (by omega) (by omega)).mono ?_
  rintro e v3 ⟨n, ⟨n0, n1⟩, rfl, s3, o3⟩
  have o3_c := (ocell o3).1; have o3_f := (ocell o3).2; have o3_z := o3.size; try simp only [World.size_alloc, World.size_setCell, World.size_drew, size_drewN] at o3_c o3_f o3_z
  have bA : Box v3 w.heap.size #[.int .i64 rp, .int .i64 rb, .int .i64 rf] := (by repeat (first | (with_reducible assumption) | (with_reducible apply Box.new; first | (with_reducible rfl) | omega | (simp only [World.size_alloc, World.size_setCell, World.size_drew, size_drewN] <;> omega)) | (with_reducible apply Box.old) | (with_reducible apply Box.drew) | (with_reducible apply Box.drewN) | (with_reducible apply Box.set) | (with_reducible apply Box.other) | (with_reducible apply Box.only_ (by with_reducible assumption)) | (with_reducible apply Box.kept_ (by with_reducible assumption)) | (simp only [World.size_alloc, World.size_setCell, World.size_drew, size_drewN]; omega) | omega | (dsimp only; omega) | rfl | (simp; done)))
  have bB : Box v3 (w.heap.size + 1) #[.int .i64 al, .int .i64 an] := (by repeat (first | (with_reducible assumption) | (with_reducible apply Box.new; first | (with_reducible rfl) | omega | (simp only [World.size_alloc, World.size_setCell, World.size_drew, size_drewN] <;> omega)) | (with_reducible apply Box.old) | (with_reducible apply Box.drew) | (with_reducible apply Box.drewN) | (with_reducible apply Box.set) | (with_reducible apply Box.other) | (with_reducible apply Box.only_ (by with_reducible assumption)) | (with_reducible apply Box.kept_ (by with_reducible assumption)) | (simp only [World.size_alloc, World.size_setCell, World.size_drew, size_drewN]; omega) | omega | (dsimp only; omega) | rfl | (simp; done)))
  have bC : Box v3 (w.heap.size + 1 + 1) #[.int .i64 bl, .int .i64 bn] := (by repeat (first | (with_reducible assumption) | (with_reducible apply Box.new; first | (with_reducible rfl) | omega | (simp only [World.size_alloc, World.size_setCell, World.size_drew, size_drewN] <;> omega)) | (with_reducible apply Box.old) | (with_reducible apply Box.drew) | (with_reducible apply Box.drewN) | (with_reducible apply Box.set) | (with_reducible apply Box.other) | (with_reducible apply Box.only_ (by with_reducible assumption)) | (with_reducible apply Box.kept_ (by with_reducible assumption)) | (simp only [World.size_alloc, World.size_setCell, World.size_drew, size_drewN]; omega) | omega | (dsimp only; omega) | rfl | (simp; done)))
  have bM : Box v3 v2.heap.size #[.int .i64 p, .int .i64 b, .int .i64 f] := (by repeat (first | (with_reducible assumption) | (with_reducible apply Box.new; first | (with_reducible rfl) | omega | (simp only [World.size_alloc, World.size_setCell, World.size_drew, size_drewN] <;> omega)) | (with_reducible apply Box.old) | (with_reducible apply Box.drew) | (with_reducible apply Box.drewN) | (with_reducible apply Box.set) | (with_reducible apply Box.other) | (with_reducible apply Box.only_ (by with_reducible assumption)) | (with_reducible apply Box.kept_ (by with_reducible assumption)) | (simp only [World.size_alloc, World.size_setCell, World.size_drew, size_drewN]; omega) | omega | (dsimp only; omega) | rfl | (simp; done)))
  have bO : Box v3 (v2.heap.size + 1) #[.int .i64 p, .int .i64 b, .int .i64 f] := (by repeat (first | (with_reducible assumption) | (with_reducible apply Box.new; first | (with_reducible rfl) | omega | (simp only [World.size_alloc, World.size_setCell, World.size_drew, size_drewN] <;> omega)) | (with_reducible apply Box.old) | (with_reducible apply Box.drew) | (with_reducible apply Box.drewN) | (with_reducible apply Box.set) | (with_reducible apply Box.other) | (with_reducible apply Box.only_ (by with_reducible assumption)) | (with_reducible apply Box.kept_ (by with_reducible assumption)) | (simp only [World.size_alloc, World.size_setCell, World.size_drew, size_drewN]; omega) | omega | (dsimp only; omega) | rfl | (simp; done)))
  have kw1 : Kept w w1 := (by repeat (first | (with_reducible exact Kept.refl _) | (with_reducible assumption) | (with_reducible refine Kept.alloc ?_ _) | (with_reducible refine Kept.drew ?_) | (with_reducible refine Kept.drewN ?_ _) | (with_reducible refine Kept.setCell ?_ ?_ _) | (with_reducible refine Kept.trans ?_ (by with_reducible assumption)) | (simp only [World.size_alloc, World.size_setCell, World.size_drew, size_drewN]; omega) | omega | (dsimp only; omega)))
  have kw2 : Kept w v2 := Only.kept kw1 o2 (by omega)
  have kw3 : Kept w v3 := Only.kept (by repeat (first | (with_reducible exact Kept.refl _) | (with_reducible assumption) | (with_reducible refine Kept.alloc ?_ _) | (with_reducible refine Kept.drew ?_) | (with_reducible refine Kept.drewN ?_ _) | (with_reducible refine Kept.setCell ?_ ?_ _) | (with_reducible refine Kept.trans ?_ (by with_reducible assumption)) | (simp only [World.size_alloc, World.size_setCell, World.size_drew, size_drewN]; omega) | omega | (dsimp only; omega))) o3 (by omega)
  have hMl := bM.lt
  have hOl := bO.lt
  have q1 : w.heap.size + 1 + 1 + 1 ≤ v2.heap.size := by omega
  have q2 : bs < v2.heap.size := by omega
  clear k1 k1_c k1_f k1_z o2_c o2_f o2_z o3_c o3_f o3_z o2 o3 kw1 kw2 hs1 s2 h hm
  generalize v2.heap.size = M at *
  replace hlt := hlt.1
  clear v2 w1
  go_upto_block 0 with fail
  go_cut [] (fun wx => ∃ p' b' f' : Int, Box wx w.heap.size #[.int .i64 rp, .int .i64 rb, .int .i64 rf] ∧ Box wx (w.heap.size + 1) #[.int .i64 al, .int .i64 an] ∧ Box wx (w.heap.size + 1 + 1) #[.int .i64 bl, .int .i64 bn] ∧ Box wx M #[.int .i64 p, .int .i64 b, .int .i64 f] ∧ Box wx (M + 1) #[.int .i64 p', .int .i64 b', .int .i64 f'] ∧ IsSrc (w.heap.size + 1 + 1 + 1) wx bs ∧ Kept w wx)
  case first =>
    have fO := bO.free
    have cO := bO.cell
    have hn : n = 0 ∨ n = 1 ∨ n = 2 := by omega
    clear n0 n1
    rcases hn with rfl | rfl | rfl
    all_goals
      go_wp2_with fail
      refine (Pick_any (w.heap.size + 1 + 1 + 1) _ bs _ _ _ _ (fun _ => True) (by repeat (first | (with_reducible assumption) | (with_reducible refine IsSrc.alloc ?_ _) | (with_reducible refine IsSrc.drew ?_) | (with_reducible refine IsSrc.drewN ?_ _) | (with_reducible refine IsSrc.setCell ?_ ?_ ?_ _) | (with_reducible refine IsSrc.kept ?_ (by with_reducible assumption)) | omega | (dsimp only; omega))) (by omega) (by omega) (by simp) (by simp; omega) (RowOf.new (by simp) (by simp) (by simp [IntIs]))).mono ?_
      rintro e v4 ⟨y, hy, rfl, s4, o4⟩
      have o4_c := (ocell o4).1; have o4_f := (ocell o4).2; have o4_z := o4.size; try simp only [World.size_alloc, World.size_setCell, World.size_drew, size_drewN] at o4_c o4_f o4_z
      go_wp2
      go_meet
      have kk4 : Kept w v4 := Only.kept (by repeat (first | (with_reducible exact Kept.refl _) | (with_reducible assumption) | (with_reducible refine Kept.alloc ?_ _) | (with_reducible refine Kept.drew ?_) | (with_reducible refine Kept.drewN ?_ _) | (with_reducible refine Kept.setCell ?_ ?_ _) | (with_reducible refine Kept.trans ?_ (by with_reducible assumption)) | (simp only [World.size_alloc, World.size_setCell, World.size_drew, size_drewN]; omega) | omega | (dsimp only; omega))) o4 (by omega)
      exact ⟨_, _, _, (by repeat (first | (with_reducible assumption) | (with_reducible apply Box.new; first | (with_reducible rfl) | omega | (simp only [World.size_alloc, World.size_setCell, World.size_drew, size_drewN] <;> omega)) | (with_reducible apply Box.old) | (with_reducible apply Box.drew) | (with_reducible apply Box.drewN) | (with_reducible apply Box.set) | (with_reducible apply Box.other) | (with_reducible apply Box.only_ (by with_reducible assumption)) | (with_reducible apply Box.kept_ (by with_reducible assumption)) | (simp only [World.size_alloc, World.size_setCell, World.size_drew, size_drewN]; omega) | omega | (dsimp only; omega) | rfl | (simp; done))), (by repeat (first | (with_reducible assumption) | (with_reducible apply Box.new; first | (with_reducible rfl) | omega | (simp only [World.size_alloc, World.size_setCell, World.size_drew, size_drewN] <;> omega)) | (with_reducible apply Box.old) | (with_reducible apply Box.drew) | (with_reducible apply Box.drewN) | (with_reducible apply Box.set) | (with_reducible apply Box.other) | (with_reducible apply Box.only_ (by with_reducible assumption)) | (with_reducible apply Box.kept_ (by with_reducible assumption)) | (simp only [World.size_alloc, World.size_setCell, World.size_drew, size_drewN]; omega) | omega | (dsimp only; omega) | rfl | (simp; done))), (by repeat (first | (with_reducible assumption) | (with_reducible apply Box.new; first | (with_reducible rfl) | omega | (simp only [World.size_alloc, World.size_setCell, World.size_drew, size_drewN] <;> omega)) | (with_reducible apply Box.old) | (with_reducible apply Box.drew) | (with_reducible apply Box.drewN) | (with_reducible apply Box.set) | (with_reducible apply Box.other) | (with_reducible apply Box.only_ (by with_reducible assumption)) | (with_reducible apply Box.kept_ (by with_reducible assumption)) | (simp only [World.size_alloc, World.size_setCell, World.size_drew, size_drewN]; omega) | omega | (dsimp only; omega) | rfl | (simp; done))), (by repeat (first | (with_reducible assumption) | (with_reducible apply Box.new; first | (with_reducible rfl) | omega | (simp only [World.size_alloc, World.size_setCell, World.size_drew, size_drewN] <;> omega)) | (with_reducible apply Box.old) | (with_reducible apply Box.drew) | (with_reducible apply Box.drewN) | (with_reducible apply Box.set) | (with_reducible apply Box.other) | (with_reducible apply Box.only_ (by with_reducible assumption)) | (with_reducible apply Box.kept_ (by with_reducible assumption)) | (simp only [World.size_alloc, World.size_setCell, World.size_drew, size_drewN]; omega) | omega | (dsimp only; omega) | rfl | (simp; done))), (by repeat (first | (with_reducible assumption) | (with_reducible apply Box.new; first | (with_reducible rfl) | omega | (simp only [World.size_alloc, World.size_setCell, World.size_drew, size_drewN] <;> omega)) | (with_reducible apply Box.old) | (with_reducible apply Box.drew) | (with_reducible apply Box.drewN) | (with_reducible apply Box.set) | (with_reducible apply Box.other) | (with_reducible apply Box.only_ (by with_reducible assumption)) | (with_reducible apply Box.kept_ (by with_reducible assumption)) | (simp only [World.size_alloc, World.size_setCell, World.size_drew, size_drewN]; omega) | omega | (dsimp only; omega) | rfl | (simp; done))), (by repeat (first | (with_reducible assumption) | (with_reducible refine IsSrc.alloc ?_ _) | (with_reducible refine IsSrc.drew ?_) | (with_reducible refine IsSrc.drewN ?_ _) | (with_reducible refine IsSrc.setCell ?_ ?_ ?_ _) | (with_reducible refine IsSrc.kept ?_ (by with_reducible assumption)) | omega | (dsimp only; omega))), (by repeat (first | (with_reducible exact Kept.refl _) | (with_reducible assumption) | (with_reducible refine Kept.alloc ?_ _) | (with_reducible refine Kept.drew ?_) | (with_reducible refine Kept.drewN ?_ _) | (with_reducible refine Kept.setCell ?_ ?_ _) | (with_reducible refine Kept.trans ?_ (by with_reducible assumption)) | (simp only [World.size_alloc, World.size_setCell, World.size_drew, size_drewN]; omega) | omega | (dsimp only; omega)))⟩
  case rest =>
    clear bA bB bC bM bO kw3 hMl hOl s3 n0 n1 v3
    obtain ⟨p', b', f', bA, bB, bC, bM, bO, s3, kw3⟩ := hcut
    have hMl := bM.lt
    have hOl := bO.lt
    have cA := bA.cell
    have cB := bB.cell
    have cC := bC.cell
    have cM := bM.cell
    have cO := bO.cell
    go_wp2_with fail
    refine (Pick_any (w.heap.size + 1 + 1 + 1) _ bs _ _ _ _ (fun _ => True) (by repeat (first | (with_reducible assumption) | (with_reducible refine IsSrc.alloc ?_ _) | (with_reducible refine IsSrc.drew ?_) | (with_reducible refine IsSrc.drewN ?_ _) | (with_reducible refine IsSrc.setCell ?_ ?_ ?_ _) | (with_reducible refine IsSrc.kept ?_ (by with_reducible assumption)) | omega | (dsimp only; omega))) (by omega) (by omega) (by simp) (by simp; omega) (RowOf.new (by simp) (by simp) (by simp [IntIs]))).mono ?_
    rintro e v5 ⟨x0, hx0, rfl, s5, o5⟩
    have o5_c := (ocell o5).1; have o5_f := (ocell o5).2; have o5_z := o5.size; try simp only [World.size_alloc, World.size_setCell, World.size_drew, size_drewN] at o5_c o5_f o5_z
    go_wp2_with fail
    refine (Pick_any (w.heap.size + 1 + 1 + 1) _ bs _ _ _ _ (fun _ => True) (by repeat (first | (with_reducible assumption) | (with_reducible refine IsSrc.alloc ?_ _) | (with_reducible refine IsSrc.drew ?_) | (with_reducible refine IsSrc.drewN ?_ _) | (with_reducible refine IsSrc.setCell ?_ ?_ ?_ _) | (with_reducible refine IsSrc.kept ?_ (by with_reducible assumption)) | omega | (dsimp only; omega))) (by omega) (by omega) (by simp) (by simp; omega) (RowOf.new (by simp) (by simp) (by simp [IntIs]))).mono ?_
    rintro e v6 ⟨x1, hx1, rfl, s6, o6⟩
    have o6_c := (ocell o6).1; have o6_f := (ocell o6).2; have o6_z := o6.size; try simp only [World.size_alloc, World.size_setCell, World.size_drew, size_drewN] at o6_c o6_f o6_z
    go_wp2_with fail
    have kw6 : Kept w v6 := Only.kept (Only.kept (Kept.trans kw3 (by repeat (first | (with_reducible exact Kept.refl _) | (with_reducible assumption) | (with_reducible refine Kept.alloc ?_ _) | (with_reducible refine Kept.drew ?_) | (with_reducible refine Kept.drewN ?_ _) | (with_reducible refine Kept.setCell ?_ ?_ _) | (with_reducible refine Kept.trans ?_ (by with_reducible assumption)) | (simp only [World.size_alloc, World.size_setCell, World.size_drew, size_drewN]; omega) | omega | (dsimp only; omega)))) o5 (by omega) |>.trans (by repeat (first | (with_reducible exact Kept.refl _) | (with_reducible assumption) | (with_reducible refine Kept.alloc ?_ _) | (with_reducible refine Kept.drew ?_) | (with_reducible refine Kept.drewN ?_ _) | (with_reducible refine Kept.setCell ?_ ?_ _) | (with_reducible refine Kept.trans ?_ (by with_reducible assumption)) | (simp only [World.size_alloc, World.size_setCell, World.size_drew, size_drewN]; omega) | omega | (dsimp only; omega)))) o6 (by omega)
    have dB : Box v6 (w.heap.size + 1) #[.int .i64 al, .int .i64 an] := (by repeat (first | (with_reducible assumption) | (with_reducible apply Box.new; first | (with_reducible rfl) | omega | (simp only [World.size_alloc, World.size_setCell, World.size_drew, size_drewN] <;> omega)) | (with_reducible apply Box.old) | (with_reducible apply Box.drew) | (with_reducible apply Box.drewN) | (with_reducible apply Box.set) | (with_reducible apply Box.other) | (with_reducible apply Box.only_ (by with_reducible assumption)) | (with_reducible apply Box.kept_ (by with_reducible assumption)) | (simp only [World.size_alloc, World.size_setCell, World.size_drew, size_drewN]; omega) | omega | (dsimp only; omega) | rfl | (simp; done)))
    have dC : Box v6 (w.heap.size + 1 + 1) #[.int .i64 bl, .int .i64 bn] := (by repeat (first | (with_reducible assumption) | (with_reducible apply Box.new; first | (with_reducible rfl) | omega | (simp only [World.size_alloc, World.size_setCell, World.size_drew, size_drewN] <;> omega)) | (with_reducible apply Box.old) | (with_reducible apply Box.drew) | (with_reducible apply Box.drewN) | (with_reducible apply Box.set) | (with_reducible apply Box.other) | (with_reducible apply Box.only_ (by with_reducible assumption)) | (with_reducible apply Box.kept_ (by with_reducible assumption)) | (simp only [World.size_alloc, World.size_setCell, World.size_drew, size_drewN]; omega) | omega | (dsimp only; omega) | rfl | (simp; done)))
    clear o5_c o5_f o5_z o6_c o6_f o6_z o5 o6 s3 s5 bA bB bC bM bO cA cB cC cM cO hMl hOl q1 q2 kw3
    have hz6 := kw6.size
    have hl6 := s6.lt
    have hbX := hl6.2
    generalize hX : v6.heap.size = X at *
    go_loopw [74] (fun i wr => ∃ k : Nat, k ≤ 3 ∧ i = .int .i64 k ∧ IsSrc (w.heap.size + 1 + 1 + 1) wr bs ∧ Kept w wr ∧ Box wr (w.heap.size + 1) #[.int .i64 al, .int .i64 an] ∧ Box wr (w.heap.size + 1 + 1) #[.int .i64 bl, .int .i64 bn] ∧ Box wr X #[.int .i64 x0, .int .i64 x1] ∧ IntsBlk wr (X + 1) 9) (fun i _ => 3 - (intOf i).toNat)
    case atStart =>
      have bI : Box ((v6.alloc (Obj.cells #[Value.int IntKind.i64 x0, Value.int IntKind.i64 x1] 50)).alloc (Obj.cells #[Value.int IntKind.i64 rp, Value.int IntKind.i64 rb, Value.int IntKind.i64 rf, Value.int IntKind.i64 p, Value.int IntKind.i64 b, Value.int IntKind.i64 f, Value.int IntKind.i64 p', Value.int IntKind.i64 b', Value.int IntKind.i64 f'] 47)) (X + 1) #[Value.int IntKind.i64 rp, Value.int IntKind.i64 rb, Value.int IntKind.i64 rf, Value.int IntKind.i64 p, Value.int IntKind.i64 b, Value.int IntKind.i64 f, Value.int IntKind.i64 p', Value.int IntKind.i64 b', Value.int IntKind.i64 f'] := (by repeat (first | (with_reducible assumption) | (with_reducible apply Box.new; first | (with_reducible rfl) | omega | (simp only [World.size_alloc, World.size_setCell, World.size_drew, size_drewN] <;> omega)) | (with_reducible apply Box.old) | (with_reducible apply Box.drew) | (with_reducible apply Box.drewN) | (with_reducible apply Box.set) | (with_reducible apply Box.other) | (with_reducible apply Box.only_ (by with_reducible assumption)) | (with_reducible apply Box.kept_ (by with_reducible assumption)) | (simp only [World.size_alloc, World.size_setCell, World.size_drew, size_drewN]; omega) | omega | (dsimp only; omega) | rfl | (simp; done)))
      exact ⟨0, by omega, rfl, (by repeat (first | (with_reducible assumption) | (with_reducible refine IsSrc.alloc ?_ _) | (with_reducible refine IsSrc.drew ?_) | (with_reducible refine IsSrc.drewN ?_ _) | (with_reducible refine IsSrc.setCell ?_ ?_ ?_ _) | (with_reducible refine IsSrc.kept ?_ (by with_reducible assumption)) | omega | (dsimp only; omega))), (by repeat (first | (with_reducible exact Kept.refl _) | (with_reducible assumption) | (with_reducible refine Kept.alloc ?_ _) | (with_reducible refine Kept.drew ?_) | (with_reducible refine Kept.drewN ?_ _) | (with_reducible refine Kept.setCell ?_ ?_ _) | (with_reducible refine Kept.trans ?_ (by with_reducible assumption)) | (simp only [World.size_alloc, World.size_setCell, World.size_drew, size_drewN]; omega) | omega | (dsimp only; omega))), (by repeat (first | (with_reducible assumption) | (with_reducible apply Box.new; first | (with_reducible rfl) | omega | (simp only [World.size_alloc, World.size_setCell, World.size_drew, size_drewN] <;> omega)) | (with_reducible apply Box.old) | (with_reducible apply Box.drew) | (with_reducible apply Box.drewN) | (with_reducible apply Box.set) | (with_reducible apply Box.other) | (with_reducible apply Box.only_ (by with_reducible assumption)) | (with_reducible apply Box.kept_ (by with_reducible assumption)) | (simp only [World.size_alloc, World.size_setCell, World.size_drew, size_drewN]; omega) | omega | (dsimp only; omega) | rfl | (simp; done))), (by repeat (first | (with_reducible assumption) | (with_reducible apply Box.new; first | (with_reducible rfl) | omega | (simp only [World.size_alloc, World.size_setCell, World.size_drew, size_drewN] <;> omega)) | (with_reducible apply Box.old) | (with_reducible apply Box.drew) | (with_reducible apply Box.drewN) | (with_reducible apply Box.set) | (with_reducible apply Box.other) | (with_reducible apply Box.only_ (by with_reducible assumption)) | (with_reducible apply Box.kept_ (by with_reducible assumption)) | (simp only [World.size_alloc, World.size_setCell, World.size_drew, size_drewN]; omega) | omega | (dsimp only; omega) | rfl | (simp; done))), (by repeat (first | (with_reducible assumption) | (with_reducible apply Box.new; first | (with_reducible rfl) | omega | (simp only [World.size_alloc, World.size_setCell, World.size_drew, size_drewN] <;> omega)) | (with_reducible apply Box.old) | (with_reducible apply Box.drew) | (with_reducible apply Box.drewN) | (with_reducible apply Box.set) | (with_reducible apply Box.other) | (with_reducible apply Box.only_ (by with_reducible assumption)) | (with_reducible apply Box.kept_ (by with_reducible assumption)) | (simp only [World.size_alloc, World.size_setCell, World.size_drew, size_drewN]; omega) | omega | (dsimp only; omega) | rfl | (simp; done))), .of_box bI ints9⟩
    case round =>
      clear dB dC hX kw6 s6 hz6 hl6 hx0 hx1
      obtain ⟨k, hk, rfl, s6, kw6, dB, dC, dX, dI⟩ := hrel
      have eB := dB.cell
      have eC := dC.cell
      have eX := dX.cell
      have lX := dI.1
      have lS := s6.lt
      by_cases hlt3 : k < 3
      · have hkd : decide ((k : Int) < 3) = true := by simp; omega
        obtain ⟨P, hP⟩ := dI.2 (k * 3) (by omega)
        obtain ⟨B, hB⟩ := dI.2 (k * 3 + 1) (by omega)
        obtain ⟨F, hF⟩ := dI.2 (k * 3 + 2) (by omega)
        obtain ⟨wo, rfl⟩ : ∃ wo : World, wo = wr := ⟨_, rfl⟩
        go_wp2_with fail
        refine wp_region_kw (by kernel_rfl) (by kernel_rfl) ?_
        repeat (go_big_quiet_step ((first | (go_at_call 39; exact kw_call (meterValid_any _ _ _ _)) | (go_at_call 40; exact kw_call (refValid_any _ _ _ _)))))
        refine wpQuiet_nil ?_
        intro _ hw'
        obtain ⟨kq, hw''⟩ := hw'
        subst hw''
        obtain ⟨wq, hwq⟩ := kq
        dsimp only
        have kq := Kept.trans (show Kept wo (wo.alloc _) from (by repeat (first | (with_reducible exact Kept.refl _) | (with_reducible assumption) | (with_reducible refine Kept.alloc ?_ _) | (with_reducible refine Kept.drew ?_) | (with_reducible refine Kept.drewN ?_ _) | (with_reducible refine Kept.setCell ?_ ?_ _) | (with_reducible refine Kept.trans ?_ (by with_reducible assumption)) | (simp only [World.size_alloc, World.size_setCell, World.size_drew, size_drewN]; omega) | omega | (dsimp only; omega)))) hwq
        have hwq_c := (kcell hwq).1; have hwq_f := (kcell hwq).2; have hwq_z := hwq.size; try simp only [World.size_alloc, World.size_setCell, World.size_drew, size_drewN] at hwq_c hwq_f hwq_z
        go_wp2_with fail
        have qO : Only bs wo wq := (by repeat (first | (with_reducible exact Only.refl _ _) | (with_reducible assumption) | (with_reducible refine Only.alloc ?_ _) | (with_reducible refine Only.drew ?_) | (with_reducible refine Only.drewN ?_ _) | (with_reducible refine Only.setCell ?_ ?_ _) | (with_reducible refine Only.trans ?_ (by with_reducible assumption)) | (with_reducible refine Only.trans ?_ (Only.of_kept (by with_reducible assumption))) | (simp only [World.size_alloc, World.size_setCell, World.size_drew, size_drewN]; omega) | omega | (dsimp only; omega)))
        have qP : Box wq wo.heap.size #[.int .i64 P, .int .i64 B, .int .i64 F] := Box.kept (Box.new rfl) hwq
        have qS : IsSrc (w.heap.size + 1 + 1 + 1) wq bs := (by repeat (first | (with_reducible assumption) | (with_reducible refine IsSrc.alloc ?_ _) | (with_reducible refine IsSrc.drew ?_) | (with_reducible refine IsSrc.drewN ?_ _) | (with_reducible refine IsSrc.setCell ?_ ?_ ?_ _) | (with_reducible refine IsSrc.kept ?_ (by with_reducible assumption)) | omega | (dsimp only; omega)))
        clear hwq_c hwq_f hwq_z hwq kq
        have lS1 := qS.lt
        generalize hT : wq.heap.size = T at *
        go_loopw [88] (fun i wr => ∃ j : Nat, j ≤ 3 ∧ i = .int .i64 j ∧ IsSrc (w.heap.size + 1 + 1 + 1) wr bs ∧ Only bs wo wr ∧ Box wr wo.heap.size #[.int .i64 P, .int .i64 B, .int .i64 F] ∧ IntsBlk wr T 6) (fun i _ => 3 - (intOf i).toNat)
        case atStart =>
          have bI : Box (wq.alloc (Obj.cells #[Value.int IntKind.i64 al, Value.int IntKind.i64 an, Value.int IntKind.i64 bl, Value.int IntKind.i64 bn, Value.int IntKind.i64 x0, Value.int IntKind.i64 x1] 50)) T #[Value.int IntKind.i64 al, Value.int IntKind.i64 an, Value.int IntKind.i64 bl, Value.int IntKind.i64 bn, Value.int IntKind.i64 x0, Value.int IntKind.i64 x1] := (by repeat (first | (with_reducible assumption) | (with_reducible apply Box.new; first | (with_reducible rfl) | omega | (simp only [World.size_alloc, World.size_setCell, World.size_drew, size_drewN] <;> omega)) | (with_reducible apply Box.old) | (with_reducible apply Box.drew) | (with_reducible apply Box.drewN) | (with_reducible apply Box.set) | (with_reducible apply Box.other) | (with_reducible apply Box.only_ (by with_reducible assumption)) | (with_reducible apply Box.kept_ (by with_reducible assumption)) | (simp only [World.size_alloc, World.size_setCell, World.size_drew, size_drewN]; omega) | omega | (dsimp only; omega) | rfl | (simp; done)))
          exact ⟨0, by omega, rfl, (by repeat (first | (with_reducible assumption) | (with_reducible refine IsSrc.alloc ?_ _) | (with_reducible refine IsSrc.drew ?_) | (with_reducible refine IsSrc.drewN ?_ _) | (with_reducible refine IsSrc.setCell ?_ ?_ ?_ _) | (with_reducible refine IsSrc.kept ?_ (by with_reducible assumption)) | omega | (dsimp only; omega))), (by repeat (first | (with_reducible exact Only.refl _ _) | (with_reducible assumption) | (with_reducible refine Only.alloc ?_ _) | (with_reducible refine Only.drew ?_) | (with_reducible refine Only.drewN ?_ _) | (with_reducible refine Only.setCell ?_ ?_ _) | (with_reducible refine Only.trans ?_ (by with_reducible assumption)) | (with_reducible refine Only.trans ?_ (Only.of_kept (by with_reducible assumption))) | (simp only [World.size_alloc, World.size_setCell, World.size_drew, size_drewN]; omega) | omega | (dsimp only; omega))), (by repeat (first | (with_reducible assumption) | (with_reducible apply Box.new; first | (with_reducible rfl) | omega | (simp only [World.size_alloc, World.size_setCell, World.size_drew, size_drewN] <;> omega)) | (with_reducible apply Box.old) | (with_reducible apply Box.drew) | (with_reducible apply Box.drewN) | (with_reducible apply Box.set) | (with_reducible apply Box.other) | (with_reducible apply Box.only_ (by with_reducible assumption)) | (with_reducible apply Box.kept_ (by with_reducible assumption)) | (simp only [World.size_alloc, World.size_setCell, World.size_drew, size_drewN]; omega) | omega | (dsimp only; omega) | rfl | (simp; done))), .of_box bI ints6⟩
        case round =>
          clear qO qP qS hT
          obtain ⟨j, hj, rfl, qS, qO, qP, qI⟩ := hrel
          have gB := (dB.only qO (by omega))
          have gC := (dC.only qO (by omega))
          have gX := (dX.only qO (by omega))
          have eB := gB.cell
          have eC := gC.cell
          have eX := gX.cell
          have eP := qP.cell
          have lT := qI.1
          have lO := qO.size
          have lS := qS.lt
          have lP := qP.lt
          by_cases hj3 : j < 3
          · have hjd : decide ((j : Int) < 3) = true := by simp; omega
            obtain ⟨L, hL⟩ := qI.2 (j * 2) (by omega)
            obtain ⟨N, hN⟩ := qI.2 (j * 2 + 1) (by omega)
            obtain ⟨w2, rfl⟩ : ∃ w2 : World, w2 = wr := ⟨_, rfl⟩
            go_wp2_with fail
            refine (Pick_any (w.heap.size + 1 + 1 + 1) _ bs _ _ _ _ (fun _ => True) (by repeat (first | (with_reducible assumption) | (with_reducible refine IsSrc.alloc ?_ _) | (with_reducible refine IsSrc.drew ?_) | (with_reducible refine IsSrc.drewN ?_ _) | (with_reducible refine IsSrc.setCell ?_ ?_ ?_ _) | (with_reducible refine IsSrc.kept ?_ (by with_reducible assumption)) | omega | (dsimp only; omega))) (by omega) (by omega) (by simp) (by simp; omega) (RowOf.new (by simp) (by simp) (by simp [IntIs]))).mono ?_
            rintro e v7 ⟨y0, hy0, rfl, s7, o7⟩
            have o7_c := (ocell o7).1; have o7_f := (ocell o7).2; have o7_z := o7.size; try simp only [World.size_alloc, World.size_setCell, World.size_drew, size_drewN] at o7_c o7_f o7_z
            go_wp2_with fail
            have q7 : Only bs w2 v7 := (by repeat (first | (with_reducible exact Only.refl _ _) | (with_reducible assumption) | (with_reducible refine Only.alloc ?_ _) | (with_reducible refine Only.drew ?_) | (with_reducible refine Only.drewN ?_ _) | (with_reducible refine Only.setCell ?_ ?_ _) | (with_reducible refine Only.trans ?_ (by with_reducible assumption)) | (with_reducible refine Only.trans ?_ (Only.of_kept (by with_reducible assumption))) | (simp only [World.size_alloc, World.size_setCell, World.size_drew, size_drewN]; omega) | omega | (dsimp only; omega)))
            have qL : Box v7 w2.heap.size #[.int .i64 L, .int .i64 N] := Box.only (Box.old (Box.new rfl) _) o7 (by omega)
            clear o7_c o7_f o7_z o7
            have lS0 := s7.lt
            generalize hT3 : v7.heap.size = T3 at *
            go_loopw [98] (fun i wr => ∃ m : Nat, m ≤ 2 ∧ i = .int .i64 m ∧ IsSrc (w.heap.size + 1 + 1 + 1) wr bs ∧ Only bs w2 wr ∧ Box wr w2.heap.size #[.int .i64 L, .int .i64 N] ∧ IntsBlk wr T3 2) (fun i _ => 2 - (intOf i).toNat)
            case atStart =>
              have bI : Box (v7.alloc (Obj.cells #[Value.int IntKind.i64 rd, Value.int IntKind.i64 y0] 3)) T3 #[Value.int IntKind.i64 rd, Value.int IntKind.i64 y0] := (by repeat (first | (with_reducible assumption) | (with_reducible apply Box.new; first | (with_reducible rfl) | omega | (simp only [World.size_alloc, World.size_setCell, World.size_drew, size_drewN] <;> omega)) | (with_reducible apply Box.old) | (with_reducible apply Box.drew) | (with_reducible apply Box.drewN) | (with_reducible apply Box.set) | (with_reducible apply Box.other) | (with_reducible apply Box.only_ (by with_reducible assumption)) | (with_reducible apply Box.kept_ (by with_reducible assumption)) | (simp only [World.size_alloc, World.size_setCell, World.size_drew, size_drewN]; omega) | omega | (dsimp only; omega) | rfl | (simp; done)))
              exact ⟨0, by omega, rfl, (by repeat (first | (with_reducible assumption) | (with_reducible refine IsSrc.alloc ?_ _) | (with_reducible refine IsSrc.drew ?_) | (with_reducible refine IsSrc.drewN ?_ _) | (with_reducible refine IsSrc.setCell ?_ ?_ ?_ _) | (with_reducible refine IsSrc.kept ?_ (by with_reducible assumption)) | omega | (dsimp only; omega))), (by repeat (first | (with_reducible exact Only.refl _ _) | (with_reducible assumption) | (with_reducible refine Only.alloc ?_ _) | (with_reducible refine Only.drew ?_) | (with_reducible refine Only.drewN ?_ _) | (with_reducible refine Only.setCell ?_ ?_ _) | (with_reducible refine Only.trans ?_ (by with_reducible assumption)) | (with_reducible refine Only.trans ?_ (Only.of_kept (by with_reducible assumption))) | (simp only [World.size_alloc, World.size_setCell, World.size_drew, size_drewN]; omega) | omega | (dsimp only; omega))), (by repeat (first | (with_reducible assumption) | (with_reducible apply Box.new; first | (with_reducible rfl) | omega | (simp only [World.size_alloc, World.size_setCell, World.size_drew, size_drewN] <;> omega)) | (with_reducible apply Box.old) | (with_reducible apply Box.drew) | (with_reducible apply Box.drewN) | (with_reducible apply Box.set) | (with_reducible apply Box.other) | (with_reducible apply Box.only_ (by with_reducible assumption)) | (with_reducible apply Box.kept_ (by with_reducible assumption)) | (simp only [World.size_alloc, World.size_setCell, World.size_drew, size_drewN]; omega) | omega | (dsimp only; omega) | rfl | (simp; done))), .of_box bI ints2⟩
            case round =>
              clear q7 qL hT3 s7
              obtain ⟨m, hm, rfl, s7, q7, qL, q2⟩ := hrel
              have fP := (qP.only q7 (by omega))
              have fB := (gB.only q7 (by omega))
              have fC := (gC.only q7 (by omega))
              have fX := (gX.only q7 (by omega))
              have eP := fP.cell
              have eB := fB.cell
              have eC := fC.cell
              have eX := fX.cell
              have eL := qL.cell
              have lT3 := q2.1
              have l2 := q7.size
              have lS7 := s7.lt
              have lP7 := fP.lt
              have lL7 := qL.lt
              obtain ⟨w3, rfl⟩ : ∃ w3 : World, w3 = wr := ⟨_, rfl⟩
              by_cases hm2 : m < 2
              · obtain ⟨Y, hY⟩ := q2.2 m (by omega)
                go_wp2_with fail
                refine (Read_any _ _ _ _ _ _ _).mono ?_
                rintro e v8 ⟨rfl, c8⟩
                have c8_c := (kcell c8).1; have c8_f := (kcell c8).2; have c8_z := c8.size; try simp only [World.size_alloc, World.size_setCell, World.size_drew, size_drewN] at c8_c c8_f c8_z
                go_wp2_with fail
                refine (refRead_any _ _ _ _ _ _ _).mono ?_
                rintro e v9 ⟨rfl, c9⟩
                have c9_c := (kcell c9).1; have c9_f := (kcell c9).2; have c9_z := c9.size; try simp only [World.size_alloc, World.size_setCell, World.size_drew, size_drewN] at c9_c c9_f c9_z
                go_wp2
                go_roundw
                case rel => exact ⟨m + 1, by omega, by go_num, (by repeat (first | (with_reducible assumption) | (with_reducible refine IsSrc.alloc ?_ _) | (with_reducible refine IsSrc.drew ?_) | (with_reducible refine IsSrc.drewN ?_ _) | (with_reducible refine IsSrc.setCell ?_ ?_ ?_ _) | (with_reducible refine IsSrc.kept ?_ (by with_reducible assumption)) | omega | (dsimp only; omega))), step3 (by repeat (first | (with_reducible exact Only.refl _ _) | (with_reducible assumption) | (with_reducible refine Only.alloc ?_ _) | (with_reducible refine Only.drew ?_) | (with_reducible refine Only.drewN ?_ _) | (with_reducible refine Only.setCell ?_ ?_ _) | (with_reducible refine Only.trans ?_ (by with_reducible assumption)) | (with_reducible refine Only.trans ?_ (Only.of_kept (by with_reducible assumption))) | (simp only [World.size_alloc, World.size_setCell, World.size_drew, size_drewN]; omega) | omega | (dsimp only; omega))) q7 qL q2 (by omega) (by omega)⟩
                case measure => simp [intOf]; omega
              · have hmd : decide ((m : Int) < 2) = false := by simp; omega
                go_wp2_with fail
                generalize hT4 : w3.heap.size = T4 at *
                go_loopw [131] (fun i wr => ∃ m : Nat, m ≤ 4 ∧ i = .int .i64 m ∧ IsSrc (w.heap.size + 1 + 1 + 1) wr bs ∧ Only bs w3 wr ∧ Box wr w2.heap.size #[.int .i64 L, .int .i64 N] ∧ IntsBlk wr T4 8) (fun i _ => 4 - (intOf i).toNat)
                case atStart =>
                  have bI : Box (w3.alloc (Obj.cells #[Value.int IntKind.i64 al, Value.int IntKind.i64 an, Value.int IntKind.i64 bl, Value.int IntKind.i64 bn, Value.int IntKind.i64 x0, Value.int IntKind.i64 x1, Value.int IntKind.i64 0, Value.int IntKind.i64 0] 50)) T4 #[Value.int IntKind.i64 al, Value.int IntKind.i64 an, Value.int IntKind.i64 bl, Value.int IntKind.i64 bn, Value.int IntKind.i64 x0, Value.int IntKind.i64 x1, Value.int IntKind.i64 0, Value.int IntKind.i64 0] := (by repeat (first | (with_reducible assumption) | (with_reducible apply Box.new; first | (with_reducible rfl) | omega | (simp only [World.size_alloc, World.size_setCell, World.size_drew, size_drewN] <;> omega)) | (with_reducible apply Box.old) | (with_reducible apply Box.drew) | (with_reducible apply Box.drewN) | (with_reducible apply Box.set) | (with_reducible apply Box.other) | (with_reducible apply Box.only_ (by with_reducible assumption)) | (with_reducible apply Box.kept_ (by with_reducible assumption)) | (simp only [World.size_alloc, World.size_setCell, World.size_drew, size_drewN]; omega) | omega | (dsimp only; omega) | rfl | (simp; done)))
                  exact ⟨0, by omega, rfl, (by repeat (first | (with_reducible assumption) | (with_reducible refine IsSrc.alloc ?_ _) | (with_reducible refine IsSrc.drew ?_) | (with_reducible refine IsSrc.drewN ?_ _) | (with_reducible refine IsSrc.setCell ?_ ?_ ?_ _) | (with_reducible refine IsSrc.kept ?_ (by with_reducible assumption)) | omega | (dsimp only; omega))), (by repeat (first | (with_reducible exact Only.refl _ _) | (with_reducible assumption) | (with_reducible refine Only.alloc ?_ _) | (with_reducible refine Only.drew ?_) | (with_reducible refine Only.drewN ?_ _) | (with_reducible refine Only.setCell ?_ ?_ _) | (with_reducible refine Only.trans ?_ (by with_reducible assumption)) | (with_reducible refine Only.trans ?_ (Only.of_kept (by with_reducible assumption))) | (simp only [World.size_alloc, World.size_setCell, World.size_drew, size_drewN]; omega) | omega | (dsimp only; omega))), Box.old qL _, .of_box bI ints8⟩
                case round =>
                  clear hT4 eP eB eC eX eL lL7 hm2 hm
                  obtain ⟨r, hr, rfl, s8, q8, r8, i8⟩ := hrel
                  have eP := (fP.only q8 (by omega)).cell
                  have eL := r8.cell
                  have lT4 := i8.1
                  have l3 := q8.size
                  have lS8 := s8.lt
                  have lL8 := r8.lt
                  have lP8 := (fP.only q8 (by omega)).lt
                  obtain ⟨w4, rfl⟩ : ∃ w4 : World, w4 = wr := ⟨_, rfl⟩
                  by_cases hr4 : r < 4
                  · obtain ⟨U, hU⟩ := i8.2 (r * 2) (by omega)
                    obtain ⟨V, hV⟩ := i8.2 (r * 2 + 1) (by omega)
                    go_wp2_with fail
                    refine (Between_any _ _ _ _ _ _ _ _).mono ?_
                    rintro e v8 ⟨rfl, c8⟩
                    have c8_c := (kcell c8).1; have c8_f := (kcell c8).2; have c8_z := c8.size; try simp only [World.size_alloc, World.size_setCell, World.size_drew, size_drewN] at c8_c c8_f c8_z
                    go_wp2_with fail
                    refine (refBetween_any _ _ _ _ _ _ _ _).mono ?_
                    rintro e v9 ⟨rfl, c9⟩
                    have c9_c := (kcell c9).1; have c9_f := (kcell c9).2; have c9_z := c9.size; try simp only [World.size_alloc, World.size_setCell, World.size_drew, size_drewN] at c9_c c9_f c9_z
                    go_wp2
                    go_roundw
                    case rel => exact ⟨r + 1, by omega, by go_num, (by repeat (first | (with_reducible assumption) | (with_reducible refine IsSrc.alloc ?_ _) | (with_reducible refine IsSrc.drew ?_) | (with_reducible refine IsSrc.drewN ?_ _) | (with_reducible refine IsSrc.setCell ?_ ?_ ?_ _) | (with_reducible refine IsSrc.kept ?_ (by with_reducible assumption)) | omega | (dsimp only; omega))), step3 (by repeat (first | (with_reducible exact Only.refl _ _) | (with_reducible assumption) | (with_reducible refine Only.alloc ?_ _) | (with_reducible refine Only.drew ?_) | (with_reducible refine Only.drewN ?_ _) | (with_reducible refine Only.setCell ?_ ?_ _) | (with_reducible refine Only.trans ?_ (by with_reducible assumption)) | (with_reducible refine Only.trans ?_ (Only.of_kept (by with_reducible assumption))) | (simp only [World.size_alloc, World.size_setCell, World.size_drew, size_drewN]; omega) | omega | (dsimp only; omega))) q8 r8 i8 (by omega) (by omega)⟩
                    case measure => simp [intOf]; omega
                  · go_wp2_with fail
                    go_roundw
                    case rel => exact ⟨j + 1, by omega, by go_num, (by repeat (first | (with_reducible assumption) | (with_reducible refine IsSrc.alloc ?_ _) | (with_reducible refine IsSrc.drew ?_) | (with_reducible refine IsSrc.drewN ?_ _) | (with_reducible refine IsSrc.setCell ?_ ?_ ?_ _) | (with_reducible refine IsSrc.kept ?_ (by with_reducible assumption)) | omega | (dsimp only; omega))), step3 (q7.trans (by repeat (first | (with_reducible exact Only.refl _ _) | (with_reducible assumption) | (with_reducible refine Only.alloc ?_ _) | (with_reducible refine Only.drew ?_) | (with_reducible refine Only.drewN ?_ _) | (with_reducible refine Only.setCell ?_ ?_ _) | (with_reducible refine Only.trans ?_ (by with_reducible assumption)) | (with_reducible refine Only.trans ?_ (Only.of_kept (by with_reducible assumption))) | (simp only [World.size_alloc, World.size_setCell, World.size_drew, size_drewN]; omega) | omega | (dsimp only; omega)))) qO qP qI (by omega) (by omega)⟩
                    case measure => simp [intOf]; omega
          · have hjd : decide ((j : Int) < 3) = false := by simp; omega
            go_wp2_with fail
            refine (N_any (w.heap.size + 1 + 1 + 1) _ bs 100000 (by repeat (first | (with_reducible assumption) | (with_reducible refine IsSrc.alloc ?_ _) | (with_reducible refine IsSrc.drew ?_) | (with_reducible refine IsSrc.drewN ?_ _) | (with_reducible refine IsSrc.setCell ?_ ?_ ?_ _) | (with_reducible refine IsSrc.kept ?_ (by with_reducible assumption)) | omega | (dsimp only; omega))) (by omega) (by omega)).mono ?_
            rintro e v7 ⟨y0, ⟨hy0, hy1⟩, rfl, s7, o7⟩
            have o7_c := (ocell o7).1; have o7_f := (ocell o7).2; have o7_z := o7.size; try simp only [World.size_alloc, World.size_setCell, World.size_drew, size_drewN] at o7_c o7_f o7_z
            go_wp2_with fail
            have q7 : Only bs wo v7 := (by repeat (first | (with_reducible exact Only.refl _ _) | (with_reducible assumption) | (with_reducible refine Only.alloc ?_ _) | (with_reducible refine Only.drew ?_) | (with_reducible refine Only.drewN ?_ _) | (with_reducible refine Only.setCell ?_ ?_ _) | (with_reducible refine Only.trans ?_ (by with_reducible assumption)) | (with_reducible refine Only.trans ?_ (Only.of_kept (by with_reducible assumption))) | (simp only [World.size_alloc, World.size_setCell, World.size_drew, size_drewN]; omega) | omega | (dsimp only; omega)))
            have qL : Box v7 wo.heap.size #[.int .i64 P, .int .i64 B, .int .i64 F] := Box.only qP o7 (by omega)
            clear o7_c o7_f o7_z o7 qO qP qI gB gC gX eB eC eX eP lT lO lS lP
            have lS0 := s7.lt
            generalize hT3 : v7.heap.size = T3 at *
            go_loopw [164] (fun i wr => ∃ m : Nat, m ≤ 3 ∧ i = .int .i64 m ∧ IsSrc (w.heap.size + 1 + 1 + 1) wr bs ∧ Only bs wo wr ∧ Box wr wo.heap.size #[.int .i64 P, .int .i64 B, .int .i64 F] ∧ IntsBlk wr T3 3) (fun i _ => 3 - (intOf i).toNat)
            case atStart =>
              have bI : Box (v7.alloc (Obj.cells #[Value.int IntKind.i64 pu, Value.int IntKind.i64 y0, Value.int IntKind.i64 1099511627776] 3)) T3 #[Value.int IntKind.i64 pu, Value.int IntKind.i64 y0, Value.int IntKind.i64 1099511627776] := (by repeat (first | (with_reducible assumption) | (with_reducible apply Box.new; first | (with_reducible rfl) | omega | (simp only [World.size_alloc, World.size_setCell, World.size_drew, size_drewN] <;> omega)) | (with_reducible apply Box.old) | (with_reducible apply Box.drew) | (with_reducible apply Box.drewN) | (with_reducible apply Box.set) | (with_reducible apply Box.other) | (with_reducible apply Box.only_ (by with_reducible assumption)) | (with_reducible apply Box.kept_ (by with_reducible assumption)) | (simp only [World.size_alloc, World.size_setCell, World.size_drew, size_drewN]; omega) | omega | (dsimp only; omega) | rfl | (simp; done)))
              exact ⟨0, by omega, rfl, (by repeat (first | (with_reducible assumption) | (with_reducible refine IsSrc.alloc ?_ _) | (with_reducible refine IsSrc.drew ?_) | (with_reducible refine IsSrc.drewN ?_ _) | (with_reducible refine IsSrc.setCell ?_ ?_ ?_ _) | (with_reducible refine IsSrc.kept ?_ (by with_reducible assumption)) | omega | (dsimp only; omega))), (by repeat (first | (with_reducible exact Only.refl _ _) | (with_reducible assumption) | (with_reducible refine Only.alloc ?_ _) | (with_reducible refine Only.drew ?_) | (with_reducible refine Only.drewN ?_ _) | (with_reducible refine Only.setCell ?_ ?_ _) | (with_reducible refine Only.trans ?_ (by with_reducible assumption)) | (with_reducible refine Only.trans ?_ (Only.of_kept (by with_reducible assumption))) | (simp only [World.size_alloc, World.size_setCell, World.size_drew, size_drewN]; omega) | omega | (dsimp only; omega))), (by repeat (first | (with_reducible assumption) | (with_reducible apply Box.new; first | (with_reducible rfl) | omega | (simp only [World.size_alloc, World.size_setCell, World.size_drew, size_drewN] <;> omega)) | (with_reducible apply Box.old) | (with_reducible apply Box.drew) | (with_reducible apply Box.drewN) | (with_reducible apply Box.set) | (with_reducible apply Box.other) | (with_reducible apply Box.only_ (by with_reducible assumption)) | (with_reducible apply Box.kept_ (by with_reducible assumption)) | (simp only [World.size_alloc, World.size_setCell, World.size_drew, size_drewN]; omega) | omega | (dsimp only; omega) | rfl | (simp; done))), .of_box bI ints3⟩
            case round =>
              clear q7 qL hT3 s7
              obtain ⟨m, hm, rfl, s7, q7, qL, q2⟩ := hrel
              have eL := qL.cell
              have lT3 := q2.1
              have l2 := q7.size
              have lS7 := s7.lt
              have lL7 := qL.lt
              obtain ⟨w3, rfl⟩ : ∃ w3 : World, w3 = wr := ⟨_, rfl⟩
              by_cases hm3 : m < 3
              · obtain ⟨Y, hY⟩ := q2.2 m (by omega)
                go_wp2_with fail
                refine (Litres_any _ _ _ _ _).mono ?_
                rintro e v8 ⟨rfl, c8⟩
                have c8_c := (kcell c8).1; have c8_f := (kcell c8).2; have c8_z := c8.size; try simp only [World.size_alloc, World.size_setCell, World.size_drew, size_drewN] at c8_c c8_f c8_z
                go_wp2_with fail
                refine (refLitres_any _ _ _ _ _).mono ?_
                rintro e v9 ⟨rfl, c9⟩
                have c9_c := (kcell c9).1; have c9_f := (kcell c9).2; have c9_z := c9.size; try simp only [World.size_alloc, World.size_setCell, World.size_drew, size_drewN] at c9_c c9_f c9_z
                go_wp2
                go_roundw
                case rel => exact ⟨m + 1, by omega, by go_num, (by repeat (first | (with_reducible assumption) | (with_reducible refine IsSrc.alloc ?_ _) | (with_reducible refine IsSrc.drew ?_) | (with_reducible refine IsSrc.drewN ?_ _) | (with_reducible refine IsSrc.setCell ?_ ?_ ?_ _) | (with_reducible refine IsSrc.kept ?_ (by with_reducible assumption)) | omega | (dsimp only; omega))), step3 (by repeat (first | (with_reducible exact Only.refl _ _) | (with_reducible assumption) | (with_reducible refine Only.alloc ?_ _) | (with_reducible refine Only.drew ?_) | (with_reducible refine Only.drewN ?_ _) | (with_reducible refine Only.setCell ?_ ?_ _) | (with_reducible refine Only.trans ?_ (by with_reducible assumption)) | (with_reducible refine Only.trans ?_ (Only.of_kept (by with_reducible assumption))) | (simp only [World.size_alloc, World.size_setCell, World.size_drew, size_drewN]; omega) | omega | (dsimp only; omega))) q7 qL q2 (by omega) (by omega)⟩
                case measure => simp [intOf]; omega
              · go_wp2_with fail
                go_roundw
                case rel => exact ⟨k + 1, by omega, by go_num, s7, Only.kept kw6 q7 (by omega), dB.only q7 (by omega), dC.only q7 (by omega), dX.only q7 (by omega), dI.only q7 (by omega)⟩
                case measure => simp [intOf]; omega
      · go_wp2_with fail
        refine (meterAwake _).mono ?_
        rintro e v9 ⟨rfl, c9⟩
        go_wp2
        go_ret
        exact ⟨rfl, kw6.trans c9⟩
end Go.Proofs.Ytbodabbgcbjkcaa
