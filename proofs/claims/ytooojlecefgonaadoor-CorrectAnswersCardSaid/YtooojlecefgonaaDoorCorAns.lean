/- The walk of CorrectAnswers. -/
import Derived.Test.YtooojlecefgonaaDoorOddProd
import Derived.Test.YtooojlecefgonaaDoorIntsBlk
import Derived.Test.YtooojlecefgonaaDoorArgs
import Derived.Deep.RegionHeld3
import Derived.Deep.DeepCutAuto
namespace Go.Proofs.YtooojlecefgonaaDoor
open Go.RowKit
set_option linter.unusedVariables false
set_option linter.unusedSimpArgs false

set_option maxRecDepth 100000 in
set_option maxHeartbeats 8000000 in
theorem CorrectAnswers_law (rn : ByteArray) (r1 r2 r3 r4 ct cp rv rr gross factor : Int) (a : Option Addr) (len cap : Nat) (w : World) (hrn : rn.size ≤ maxLen) (h : ArgInts w a len cap) (hsp : Spans w) :
    Calls Tryd.prog 7 #[prd rn r1 r2 r3 r4, cnd ct cp, rng rv rr, .int .i64 gross, .int .i64 factor, .slice a len cap] w (Ret (.bool true) w) := by
  unfold maxLen at hrn
  by_cases hl : 60 < rn.size
  · go_enter Tryd.func7, Tryd.ntmps7
    go_wp2_with fail
    refine (corAwake _ (Box.kept hsp (by repeat (first | (with_reducible exact Kept.refl _) | (with_reducible assumption) | (with_reducible refine Kept.alloc ?_ _) | (with_reducible refine Kept.drew ?_) | (with_reducible refine Kept.drewN ?_ _) | (with_reducible refine Kept.setCell ?_ ?_ _) | (with_reducible refine Kept.trans ?_ (by with_reducible assumption)) | (simp only [World.size_alloc, World.size_setCell, World.size_drew, size_drewN]; omega) | omega | (dsimp only; omega))))).mono ?_
    rintro e v1 ⟨rfl, c1⟩
    have c1_c := (kcell c1).1; have c1_f := (kcell c1).2; have c1_z := c1.size; try simp only [World.size_alloc, World.size_setCell, World.size_drew, size_drewN] at c1_c c1_f c1_z
    go_wp2
    go_ret
    exact ⟨rfl, (by repeat (first | (with_reducible exact Kept.refl _) | (with_reducible assumption) | (with_reducible refine Kept.alloc ?_ _) | (with_reducible refine Kept.drew ?_) | (with_reducible refine Kept.drewN ?_ _) | (with_reducible refine Kept.setCell ?_ ?_ _) | (with_reducible refine Kept.trans ?_ (by with_reducible assumption)) | (simp only [World.size_alloc, World.size_setCell, World.size_drew, size_drewN]; omega) | omega | (dsimp only; omega)))⟩
  have hrn60 : rn.size ≤ 60 := by omega
  clear hrn
  go_enter Tryd.func7, Tryd.ntmps7
  go_wp2_with fail
  refine (New_any _ _ _ _ (h.kept (by repeat (first | (with_reducible exact Kept.refl _) | (with_reducible assumption) | (with_reducible refine Kept.alloc ?_ _) | (with_reducible refine Kept.drew ?_) | (with_reducible refine Kept.drewN ?_ _) | (with_reducible refine Kept.setCell ?_ ?_ _) | (with_reducible refine Kept.trans ?_ (by with_reducible assumption)) | (simp only [World.size_alloc, World.size_setCell, World.size_drew, size_drewN]; omega) | omega | (dsimp only; omega))))).mono ?_
  rintro e w1 ⟨bs, rfl, hs1, k1⟩
  have k1_c := (kcell k1).1; have k1_f := (kcell k1).2; have k1_z := k1.size; try simp only [World.size_alloc, World.size_setCell, World.size_drew, size_drewN] at k1_c k1_f k1_z
  have hlt := hs1.lt
  simp only [World.size_alloc] at hlt
  have hs1' : IsSrc (w.heap.size + 1 + 1 + 1) w1 bs := by simpa using hs1
  clear hs1
  have bA : Box w1 w.heap.size #[.string rn, .int .i64 r1, .int .i64 r2, .int .i64 r3, .int .i64 r4] := Box.kept (Box.old (Box.old (Box.new rfl) _) _) k1
  have bB : Box w1 (w.heap.size + 1) #[.int .i64 ct, .int .i64 cp] := Box.kept (Box.old (Box.new (by simp)) _) k1
  have bC : Box w1 (w.heap.size + 1 + 1) #[.int .i64 rv, .int .i64 rr] := Box.kept (Box.new (by simp)) k1
  have kw1 : Kept w w1 := (by repeat (first | (with_reducible exact Kept.refl _) | (with_reducible assumption) | (with_reducible refine Kept.alloc ?_ _) | (with_reducible refine Kept.drew ?_) | (with_reducible refine Kept.drewN ?_ _) | (with_reducible refine Kept.setCell ?_ ?_ _) | (with_reducible refine Kept.trans ?_ (by with_reducible assumption)) | (simp only [World.size_alloc, World.size_setCell, World.size_drew, size_drewN]; omega) | omega | (dsimp only; omega)))
  clear k1_c k1_f k1
  go_wp2_with fail
  refine (Product_any (w.heap.size + 1 + 1 + 1) _ bs 1 (by repeat (first | (with_reducible assumption) | (with_reducible refine IsSrc.alloc ?_ _) | (with_reducible refine IsSrc.drew ?_) | (with_reducible refine IsSrc.drewN ?_ _) | (with_reducible refine IsSrc.setCell ?_ ?_ ?_ _) | (with_reducible refine IsSrc.kept ?_ (by with_reducible assumption)) | omega | (dsimp only; omega))) (by omega) (by omega)).mono ?_
  rintro e v2 ⟨de, ex, co, fr, hn, rfl, s2, o2⟩
  have kw2 : Kept w v2 := Only.kept kw1 o2 (by omega)
  have z2 := o2.size
  have cA := bA.only o2 (by omega)
  have cB := bB.only o2 (by omega)
  have cC := bC.only o2 (by omega)
  have hz : (nmOf ⟨#[112]⟩ 1).size ≤ 60 := by rw [nm_size]; decide
  clear hn o2 bA bB bC kw1 hs1'
  generalize nmOf ⟨#[112]⟩ 1 = nm at *
  go_wp2_with fail
  have hl2 := s2.lt
  have cP : Box (v2.alloc (Obj.cells #[.string nm, .int .i64 de, .int .i64 ex, .int .i64 co, .int .i64 fr] 25)) v2.heap.size #[.string nm, .int .i64 de, .int .i64 ex, .int .i64 co, .int .i64 fr] := Box.new rfl
  go_region_held3 (fun w' => (w'.cell? ⟨w.heap.size, 0, none⟩ = some (.string rn) ∧ w'.cell? ⟨w.heap.size, 1, none⟩ = some (.int .i64 r1) ∧ w'.cell? ⟨w.heap.size, 2, none⟩ = some (.int .i64 r2) ∧ w'.cell? ⟨w.heap.size, 3, none⟩ = some (.int .i64 r3) ∧ w'.cell? ⟨w.heap.size, 4, none⟩ = some (.int .i64 r4)) ∧ (w'.cell? ⟨v2.heap.size, 0, none⟩ = some (.string nm) ∧ w'.cell? ⟨v2.heap.size, 1, none⟩ = some (.int .i64 de) ∧ w'.cell? ⟨v2.heap.size, 2, none⟩ = some (.int .i64 ex) ∧ w'.cell? ⟨v2.heap.size, 3, none⟩ = some (.int .i64 co) ∧ w'.cell? ⟨v2.heap.size, 4, none⟩ = some (.int .i64 fr))) (exact ⟨boxS5 (by repeat (first | (with_reducible assumption) | (with_reducible apply Box.new; first | (with_reducible rfl) | omega | (simp only [World.size_alloc, World.size_setCell, World.size_drew, size_drewN] <;> omega)) | (with_reducible apply Box.old) | (with_reducible apply Box.drew) | (with_reducible apply Box.drewN) | (with_reducible apply Box.set) | (with_reducible apply Box.other) | (with_reducible apply Box.only_ (by with_reducible assumption)) | (with_reducible apply Box.kept_ (by with_reducible assumption)) | (simp only [World.size_alloc, World.size_setCell, World.size_drew, size_drewN]; omega) | omega | (dsimp only; omega) | rfl | (simp; done))), boxS5 (by repeat (first | (with_reducible assumption) | (with_reducible apply Box.new; first | (with_reducible rfl) | omega | (simp only [World.size_alloc, World.size_setCell, World.size_drew, size_drewN] <;> omega)) | (with_reducible apply Box.old) | (with_reducible apply Box.drew) | (with_reducible apply Box.drewN) | (with_reducible apply Box.set) | (with_reducible apply Box.other) | (with_reducible apply Box.only_ (by with_reducible assumption)) | (with_reducible apply Box.kept_ (by with_reducible assumption)) | (simp only [World.size_alloc, World.size_setCell, World.size_drew, size_drewN]; omega) | omega | (dsimp only; omega) | rfl | (simp; done)))⟩)
    ((go_at_call 19; refine (Odd_any (w.heap.size + 1 + 1 + 1) _ bs _ _ _ _ _ hz (by repeat (first | (with_reducible assumption) | (with_reducible refine IsSrc.alloc ?_ _) | (with_reducible refine IsSrc.drew ?_) | (with_reducible refine IsSrc.drewN ?_ _) | (with_reducible refine IsSrc.setCell ?_ ?_ ?_ _) | (with_reducible refine IsSrc.kept ?_ (by with_reducible assumption)) | omega | (dsimp only; omega)))).mono ?_; rintro e v3 ⟨n3, a3, b3, c3, d3, hn3, rfl, s3, o3⟩; have z3 := o3.size; simp only [World.size_drew, World.size_alloc] at z3; have kk3 : Kept w v3 := Only.kept (by repeat (first | (with_reducible exact Kept.refl _) | (with_reducible assumption) | (with_reducible refine Kept.alloc ?_ _) | (with_reducible refine Kept.drew ?_) | (with_reducible refine Kept.drewN ?_ _) | (with_reducible refine Kept.setCell ?_ ?_ _) | (with_reducible refine Kept.trans ?_ (by with_reducible assumption)) | (simp only [World.size_alloc, World.size_setCell, World.size_drew, size_drewN]; omega) | omega | (dsimp only; omega))) o3 (by omega); have bb3 : Box v3 (w.heap.size + 1) #[.int .i64 ct, .int .i64 cp] := Box.only (by repeat (first | (with_reducible assumption) | (with_reducible apply Box.new; first | (with_reducible rfl) | omega | (simp only [World.size_alloc, World.size_setCell, World.size_drew, size_drewN] <;> omega)) | (with_reducible apply Box.old) | (with_reducible apply Box.drew) | (with_reducible apply Box.drewN) | (with_reducible apply Box.set) | (with_reducible apply Box.other) | (with_reducible apply Box.only_ (by with_reducible assumption)) | (with_reducible apply Box.kept_ (by with_reducible assumption)) | (simp only [World.size_alloc, World.size_setCell, World.size_drew, size_drewN]; omega) | omega | (dsimp only; omega) | rfl | (simp; done))) o3 (by omega); have bc3 : Box v3 (w.heap.size + 1 + 1) #[.int .i64 rv, .int .i64 rr] := Box.only (by repeat (first | (with_reducible assumption) | (with_reducible apply Box.new; first | (with_reducible rfl) | omega | (simp only [World.size_alloc, World.size_setCell, World.size_drew, size_drewN] <;> omega)) | (with_reducible apply Box.old) | (with_reducible apply Box.drew) | (with_reducible apply Box.drewN) | (with_reducible apply Box.set) | (with_reducible apply Box.other) | (with_reducible apply Box.only_ (by with_reducible assumption)) | (with_reducible apply Box.kept_ (by with_reducible assumption)) | (simp only [World.size_alloc, World.size_setCell, World.size_drew, size_drewN]; omega) | omega | (dsimp only; omega) | rfl | (simp; done))) o3 (by omega)))
  go_wp2_with fail
  have hz3 := kk3.size
  have hbs := s3.lt
  clear cA cB cC cP z2 s2 kw2
  generalize hX : v3.heap.size = X at *
  go_loopw [56] (fun i wr => ∃ k : Nat, k ≤ 3 ∧ i = .int .i64 k ∧ IsSrc (w.heap.size + 1 + 1 + 1) wr bs ∧ Kept w wr ∧ Box wr (w.heap.size + 1) #[.int .i64 ct, .int .i64 cp] ∧ Box wr (w.heap.size + 1 + 1) #[.int .i64 rv, .int .i64 rr] ∧ StnBlk wr X 3) (fun i _ => 3 - (intOf i).toNat)
  case atStart => exact ⟨0, by omega, rfl, (by repeat (first | (with_reducible assumption) | (with_reducible refine IsSrc.alloc ?_ _) | (with_reducible refine IsSrc.drew ?_) | (with_reducible refine IsSrc.drewN ?_ _) | (with_reducible refine IsSrc.setCell ?_ ?_ ?_ _) | (with_reducible refine IsSrc.kept ?_ (by with_reducible assumption)) | omega | (dsimp only; omega))), (by repeat (first | (with_reducible exact Kept.refl _) | (with_reducible assumption) | (with_reducible refine Kept.alloc ?_ _) | (with_reducible refine Kept.drew ?_) | (with_reducible refine Kept.drewN ?_ _) | (with_reducible refine Kept.setCell ?_ ?_ _) | (with_reducible refine Kept.trans ?_ (by with_reducible assumption)) | (simp only [World.size_alloc, World.size_setCell, World.size_drew, size_drewN]; omega) | omega | (dsimp only; omega))), Box.old bb3 _, Box.old bc3 _, stnBlk3 (Box.new hX.symm) hrn60 hz hn3⟩
  case round =>
    clear kk3 bb3 bc3 s3 hX z3 o3 hz3
    obtain ⟨k, hk, rfl, s6, kw6, dB, dC, dI⟩ := hrel
    have lS := s6.lt
    have lX := dI.1
    by_cases hlt3 : k < 3
    · have hkd : decide ((k : Int) < 3) = true := by simp; omega
      obtain ⟨N, A, B, C, D, hN, c0, c1, c2, c3', c4⟩ := dI.2 k hlt3
      have hN' : N.size ≤ 140737488351232 := by omega
      obtain ⟨wo, rfl⟩ : ∃ wo : World, wo = wr := ⟨_, rfl⟩
      go_upto_region 8 with fail
      have eP0 : Box (wo.alloc (Obj.cells #[.string N, .int .i64 A, .int .i64 B, .int .i64 C, .int .i64 D] 25)) wo.heap.size #[.string N, .int .i64 A, .int .i64 B, .int .i64 C, .int .i64 D] := Box.new rfl
      clear c0 c1 c2 c3' c4
      go_cut [70, 71, 72] (fun sv nv iv wx => ∃ T : Nat, sv = .slice (some ⟨T, 0, none⟩) 3 3 ∧ nv = .int .i64 3 ∧ iv = .int .i64 0 ∧ T ≠ bs ∧ IsSrc (w.heap.size + 1 + 1 + 1) wx bs ∧ Only bs wo wx ∧ Box wx wo.heap.size #[.string N, .int .i64 A, .int .i64 B, .int .i64 C, .int .i64 D] ∧ IntsBlk wx T 6)
      case first =>
        clear kw6
        go_region_held3 (fun w' => w'.cell? ⟨w.heap.size + 1, 0, none⟩ = some (.int .i64 ct) ∧ w'.cell? ⟨w.heap.size + 1, 1, none⟩ = some (.int .i64 cp)) (exact boxS2 (by repeat (first | (with_reducible assumption) | (with_reducible apply Box.new; first | (with_reducible rfl) | omega | (simp only [World.size_alloc, World.size_setCell, World.size_drew, size_drewN] <;> omega)) | (with_reducible apply Box.old) | (with_reducible apply Box.drew) | (with_reducible apply Box.drewN) | (with_reducible apply Box.set) | (with_reducible apply Box.other) | (with_reducible apply Box.only_ (by with_reducible assumption)) | (with_reducible apply Box.kept_ (by with_reducible assumption)) | (simp only [World.size_alloc, World.size_setCell, World.size_drew, size_drewN]; omega) | omega | (dsimp only; omega) | rfl | (simp; done))))
          (first
            | (go_at_call 16; refine (Condition_any (w.heap.size + 1 + 1 + 1) _ bs (by repeat (first | (with_reducible assumption) | (with_reducible refine IsSrc.alloc ?_ _) | (with_reducible refine IsSrc.drew ?_) | (with_reducible refine IsSrc.drewN ?_ _) | (with_reducible refine IsSrc.setCell ?_ ?_ ?_ _) | (with_reducible refine IsSrc.kept ?_ (by with_reducible assumption)) | omega | (dsimp only; omega)))).mono ?_; rintro e v4 ⟨T1, P1, _, rfl, s4, o4⟩; have z4 := o4.size; simp only [World.size_drew, World.size_alloc] at z4)
            | (go_at_call 14; refine (Pick_any (w.heap.size + 1 + 1 + 1) _ bs _ _ _ _ (fun _ => True) (by repeat (first | (with_reducible assumption) | (with_reducible refine IsSrc.alloc ?_ _) | (with_reducible refine IsSrc.drew ?_) | (with_reducible refine IsSrc.drewN ?_ _) | (with_reducible refine IsSrc.setCell ?_ ?_ ?_ _) | (with_reducible refine IsSrc.kept ?_ (by with_reducible assumption)) | omega | (dsimp only; omega))) (by omega) (by omega) (by first | omega | (simp only [World.size_alloc, World.size_setCell, World.size_drew, size_drewN]; omega) | (simp only [World.size_alloc, World.size_setCell, World.size_drew, size_drewN])) (by omega) (by first | (refine rowTrue (c := #[.int .i64 (-401), .int .i64 1001, .int .i64 0]) ?_ rfl (by simp); (repeat (first | (with_reducible assumption) | (with_reducible apply Box.new; first | (with_reducible rfl) | omega | (simp only [World.size_alloc, World.size_setCell, World.size_drew, size_drewN] <;> omega)) | (with_reducible apply Box.old) | (with_reducible apply Box.drew) | (with_reducible apply Box.drewN) | (with_reducible apply Box.set) | (with_reducible apply Box.other) | (with_reducible apply Box.only_ (by with_reducible assumption)) | (with_reducible apply Box.kept_ (by with_reducible assumption)) | (simp only [World.size_alloc, World.size_setCell, World.size_drew, size_drewN]; omega) | omega | (dsimp only; omega) | rfl | (simp; done))); done) | (refine rowTrue (c := #[.int .i64 (-1), .int .i64 20001, .int .i64 0]) ?_ rfl (by simp); (repeat (first | (with_reducible assumption) | (with_reducible apply Box.new; first | (with_reducible rfl) | omega | (simp only [World.size_alloc, World.size_setCell, World.size_drew, size_drewN] <;> omega)) | (with_reducible apply Box.old) | (with_reducible apply Box.drew) | (with_reducible apply Box.drewN) | (with_reducible apply Box.set) | (with_reducible apply Box.other) | (with_reducible apply Box.only_ (by with_reducible assumption)) | (with_reducible apply Box.kept_ (by with_reducible assumption)) | (simp only [World.size_alloc, World.size_setCell, World.size_drew, size_drewN]; omega) | omega | (dsimp only; omega) | rfl | (simp; done))); done))).mono ?_; rintro e v4 ⟨n4, hn4, rfl, s4, o4⟩; have z4 := o4.size; (try simp only [World.size_drew, World.size_alloc] at z4)))
        all_goals
          go_wp2_with fail
          go_meet
          exact ⟨_, rfl, rfl, rfl, by omega, (by repeat (first | (with_reducible assumption) | (with_reducible refine IsSrc.alloc ?_ _) | (with_reducible refine IsSrc.drew ?_) | (with_reducible refine IsSrc.drewN ?_ _) | (with_reducible refine IsSrc.setCell ?_ ?_ ?_ _) | (with_reducible refine IsSrc.kept ?_ (by with_reducible assumption)) | omega | (dsimp only; omega))), (by repeat (first | (with_reducible exact Only.refl _ _) | (with_reducible assumption) | (with_reducible refine Only.alloc ?_ _) | (with_reducible refine Only.drew ?_) | (with_reducible refine Only.drewN ?_ _) | (with_reducible refine Only.setCell ?_ ?_ _) | (with_reducible refine Only.trans ?_ (by with_reducible assumption)) | (with_reducible refine Only.trans ?_ (Only.of_kept (by with_reducible assumption))) | (simp only [World.size_alloc, World.size_setCell, World.size_drew, size_drewN]; omega) | omega | (dsimp only; omega))), (by repeat (first | (with_reducible assumption) | (with_reducible apply Box.new; first | (with_reducible rfl) | omega | (simp only [World.size_alloc, World.size_setCell, World.size_drew, size_drewN] <;> omega)) | (with_reducible apply Box.old) | (with_reducible apply Box.drew) | (with_reducible apply Box.drewN) | (with_reducible apply Box.set) | (with_reducible apply Box.other) | (with_reducible apply Box.only_ (by with_reducible assumption)) | (with_reducible apply Box.kept_ (by with_reducible assumption)) | (simp only [World.size_alloc, World.size_setCell, World.size_drew, size_drewN]; omega) | omega | (dsimp only; omega) | rfl | (simp; done))), .of_box (Box.new rfl) ints6⟩
      case rest =>
        obtain ⟨T, rfl, rfl, rfl, hT, s7, q7, b7, i7⟩ := hcut
        go_wp2_with fail
        go_loopw [72] (fun i wr => ∃ j : Nat, j ≤ 3 ∧ i = .int .i64 j ∧ IsSrc (w.heap.size + 1 + 1 + 1) wr bs ∧ Only bs wo wr ∧ Box wr wo.heap.size #[.string N, .int .i64 A, .int .i64 B, .int .i64 C, .int .i64 D] ∧ IntsBlk wr T 6) (fun i _ => 3 - (intOf i).toNat)
        case atStart => exact ⟨0, by omega, rfl, s7, q7, b7, i7⟩
        case round =>
          clear s7 q7 b7 i7 eP0
          obtain ⟨j, hj, rfl, qS, qO, qP, qI⟩ := hrel
          have eP := qP.cell
          have lT := qI.1
          have lO := qO.size
          have lS7 := qS.lt
          have lP := qP.lt
          by_cases hj3 : j < 3
          · obtain ⟨P, hP⟩ := qI.2 (j * 2) (by omega)
            obtain ⟨Q, hQ⟩ := qI.2 (j * 2 + 1) (by omega)
            have kwr : Kept w wr := Only.kept kw6 qO (by omega)
            have hsr : Spans wr := Box.kept hsp kwr
            obtain ⟨w2, rfl⟩ : ∃ w2 : World, w2 = wr := ⟨_, rfl⟩
            go_wp2_with fail
            refine (Factor_any _ _ _ _ _ _ _ _ hN' (Box.kept hsr (by repeat (first | (with_reducible exact Kept.refl _) | (with_reducible assumption) | (with_reducible refine Kept.alloc ?_ _) | (with_reducible refine Kept.drew ?_) | (with_reducible refine Kept.drewN ?_ _) | (with_reducible refine Kept.setCell ?_ ?_ _) | (with_reducible refine Kept.trans ?_ (by with_reducible assumption)) | (simp only [World.size_alloc, World.size_setCell, World.size_drew, size_drewN]; omega) | omega | (dsimp only; omega))))).mono ?_
            rintro e v8 ⟨rfl, c8⟩
            have c8_c := (kcell c8).1; have c8_f := (kcell c8).2; have c8_z := c8.size; try simp only [World.size_alloc, World.size_setCell, World.size_drew, size_drewN] at c8_c c8_f c8_z
            go_wp2_with fail
            refine (refFactor_any _ _ _ _ _ _ _ _ hN').mono ?_
            rintro e v9 ⟨rfl, c9⟩
            have c9_c := (kcell c9).1; have c9_f := (kcell c9).2; have c9_z := c9.size; try simp only [World.size_alloc, World.size_setCell, World.size_drew, size_drewN] at c9_c c9_f c9_z
            go_wp2
            go_roundw
            case rel => exact ⟨j + 1, by omega, by go_num, (by repeat (first | (with_reducible assumption) | (with_reducible refine IsSrc.alloc ?_ _) | (with_reducible refine IsSrc.drew ?_) | (with_reducible refine IsSrc.drewN ?_ _) | (with_reducible refine IsSrc.setCell ?_ ?_ ?_ _) | (with_reducible refine IsSrc.kept ?_ (by with_reducible assumption)) | omega | (dsimp only; omega))), step3 (by repeat (first | (with_reducible exact Only.refl _ _) | (with_reducible assumption) | (with_reducible refine Only.alloc ?_ _) | (with_reducible refine Only.drew ?_) | (with_reducible refine Only.drewN ?_ _) | (with_reducible refine Only.setCell ?_ ?_ _) | (with_reducible refine Only.trans ?_ (by with_reducible assumption)) | (with_reducible refine Only.trans ?_ (Only.of_kept (by with_reducible assumption))) | (simp only [World.size_alloc, World.size_setCell, World.size_drew, size_drewN]; omega) | omega | (dsimp only; omega))) qO qP qI (by omega) (by omega)⟩
            case measure => simp [intOf]; omega
          · go_wp2_with fail
            go_roundw
            case rel => exact ⟨k + 1, by omega, by go_num, qS, Only.kept kw6 qO (by omega), dB.only qO (by omega), dC.only qO (by omega), dI.only qO (by omega)⟩
            case measure => simp [intOf]; omega
    · have hkd : decide ((k : Int) < 3) = false := by simp; omega
      have eC := dC.cell
      go_wp2_with fail
      refine (Pick_any (w.heap.size + 1 + 1 + 1) _ bs _ _ _ _ (fun _ => True) (by repeat (first | (with_reducible assumption) | (with_reducible refine IsSrc.alloc ?_ _) | (with_reducible refine IsSrc.drew ?_) | (with_reducible refine IsSrc.drewN ?_ _) | (with_reducible refine IsSrc.setCell ?_ ?_ ?_ _) | (with_reducible refine IsSrc.kept ?_ (by with_reducible assumption)) | omega | (dsimp only; omega))) (by omega) (by omega) (by simp) (by simp; omega) (RowOf.new (by simp) (by simp) (by simp [IntIs]))).mono ?_
      rintro e v3 ⟨x0, hx0, rfl, s3, o3⟩
      have o3_c := (ocell o3).1; have o3_f := (ocell o3).2; have o3_z := o3.size; try simp only [World.size_alloc, World.size_setCell, World.size_drew, size_drewN] at o3_c o3_f o3_z
      go_wp2_with fail
      refine (Pick_any (w.heap.size + 1 + 1 + 1) _ bs _ _ _ _ (fun _ => True) (by repeat (first | (with_reducible assumption) | (with_reducible refine IsSrc.alloc ?_ _) | (with_reducible refine IsSrc.drew ?_) | (with_reducible refine IsSrc.drewN ?_ _) | (with_reducible refine IsSrc.setCell ?_ ?_ ?_ _) | (with_reducible refine IsSrc.kept ?_ (by with_reducible assumption)) | omega | (dsimp only; omega))) (by omega) (by omega) (by simp) (by simp; omega) (RowOf.new (by simp) (by simp) (by simp [IntIs]))).mono ?_
      rintro e v4 ⟨x1, hx1, rfl, s4, o4⟩
      have o4_c := (ocell o4).1; have o4_f := (ocell o4).2; have o4_z := o4.size; try simp only [World.size_alloc, World.size_setCell, World.size_drew, size_drewN] at o4_c o4_f o4_z
      go_wp2_with fail
      refine (N_any (w.heap.size + 1 + 1 + 1) _ bs 100000 (by repeat (first | (with_reducible assumption) | (with_reducible refine IsSrc.alloc ?_ _) | (with_reducible refine IsSrc.drew ?_) | (with_reducible refine IsSrc.drewN ?_ _) | (with_reducible refine IsSrc.setCell ?_ ?_ ?_ _) | (with_reducible refine IsSrc.kept ?_ (by with_reducible assumption)) | omega | (dsimp only; omega))) (by omega) (by omega)).mono ?_
      rintro e v5 ⟨x2, ⟨hx2, hx3⟩, rfl, s5, o5⟩
      have o5_c := (ocell o5).1; have o5_f := (ocell o5).2; have o5_z := o5.size; try simp only [World.size_alloc, World.size_setCell, World.size_drew, size_drewN] at o5_c o5_f o5_z
      go_wp2_with fail
      refine (Pick_any (w.heap.size + 1 + 1 + 1) _ bs _ _ _ _ (fun _ => True) (by repeat (first | (with_reducible assumption) | (with_reducible refine IsSrc.alloc ?_ _) | (with_reducible refine IsSrc.drew ?_) | (with_reducible refine IsSrc.drewN ?_ _) | (with_reducible refine IsSrc.setCell ?_ ?_ ?_ _) | (with_reducible refine IsSrc.kept ?_ (by with_reducible assumption)) | omega | (dsimp only; omega))) (by omega) (by omega) (by simp) (by simp; omega) (RowOf.new (by simp) (by simp) (by simp [IntIs]))).mono ?_
      rintro e v6 ⟨x4, hx4, rfl, s6, o6⟩
      have o6_c := (ocell o6).1; have o6_f := (ocell o6).2; have o6_z := o6.size; try simp only [World.size_alloc, World.size_setCell, World.size_drew, size_drewN] at o6_c o6_f o6_z
      go_wp2_with fail
      have k3 : Kept w v3 := Only.kept (by repeat (first | (with_reducible exact Kept.refl _) | (with_reducible assumption) | (with_reducible refine Kept.alloc ?_ _) | (with_reducible refine Kept.drew ?_) | (with_reducible refine Kept.drewN ?_ _) | (with_reducible refine Kept.setCell ?_ ?_ _) | (with_reducible refine Kept.trans ?_ (by with_reducible assumption)) | (simp only [World.size_alloc, World.size_setCell, World.size_drew, size_drewN]; omega) | omega | (dsimp only; omega))) o3 (by omega)
      have k4 : Kept w v4 := Only.kept (Kept.trans k3 (by repeat (first | (with_reducible exact Kept.refl _) | (with_reducible assumption) | (with_reducible refine Kept.alloc ?_ _) | (with_reducible refine Kept.drew ?_) | (with_reducible refine Kept.drewN ?_ _) | (with_reducible refine Kept.setCell ?_ ?_ _) | (with_reducible refine Kept.trans ?_ (by with_reducible assumption)) | (simp only [World.size_alloc, World.size_setCell, World.size_drew, size_drewN]; omega) | omega | (dsimp only; omega)))) o4 (by omega)
      have k5 : Kept w v5 := Only.kept (Kept.trans k4 (by repeat (first | (with_reducible exact Kept.refl _) | (with_reducible assumption) | (with_reducible refine Kept.alloc ?_ _) | (with_reducible refine Kept.drew ?_) | (with_reducible refine Kept.drewN ?_ _) | (with_reducible refine Kept.setCell ?_ ?_ _) | (with_reducible refine Kept.trans ?_ (by with_reducible assumption)) | (simp only [World.size_alloc, World.size_setCell, World.size_drew, size_drewN]; omega) | omega | (dsimp only; omega)))) o5 (by omega)
      have k6 : Kept w v6 := Only.kept (Kept.trans k5 (by repeat (first | (with_reducible exact Kept.refl _) | (with_reducible assumption) | (with_reducible refine Kept.alloc ?_ _) | (with_reducible refine Kept.drew ?_) | (with_reducible refine Kept.drewN ?_ _) | (with_reducible refine Kept.setCell ?_ ?_ _) | (with_reducible refine Kept.trans ?_ (by with_reducible assumption)) | (simp only [World.size_alloc, World.size_setCell, World.size_drew, size_drewN]; omega) | omega | (dsimp only; omega)))) o6 (by omega)
      have l4 := s4.lt
      have l5 := o5.size
      have l6 := o6.size
      have m3 := o3.size
      have m4 := o4.size
      simp only [World.size_alloc] at l5 l6 m3 m4
      have f8 : Box v6 (w.heap.size + 1 + 1) #[.int .i64 rv, .int .i64 rr] := Box.only (Box.old (Box.only (Box.old (Box.only (Box.old (Box.only (Box.old dC _) o3 (by omega)) _) o4 (by omega)) _) o5 (by omega)) _) o6 (by omega)
      have f23 : Box v6 v4.heap.size #[.int .i64 x0, .int .i64 x1] := Box.only (Box.old (Box.only (Box.new rfl) o5 (by omega)) _) o6 (by omega)
      have lS6 := s6.lt
      clear o3 o3_c o3_f o3_z o4 o4_c o4_f o4_z o5 o5_c o5_f o5_z o6 o6_c o6_f o6_z k3 k4 k5 dB dC dI eC kw6 s3 s4 s5 lS lX
      generalize hT5 : v6.heap.size = T5 at *
      generalize v4.heap.size = G at *
      go_loopw [117] (fun i wr => ∃ m : Nat, m ≤ 3 ∧ i = .int .i64 m ∧ IsSrc (w.heap.size + 1 + 1 + 1) wr bs ∧ Kept w wr ∧ Box wr (w.heap.size + 1 + 1) #[.int .i64 rv, .int .i64 rr] ∧ Box wr G #[.int .i64 x0, .int .i64 x1] ∧ IntsBlk wr T5 6) (fun i _ => 3 - (intOf i).toNat)
      case atStart => exact ⟨0, by omega, rfl, (by repeat (first | (with_reducible assumption) | (with_reducible refine IsSrc.alloc ?_ _) | (with_reducible refine IsSrc.drew ?_) | (with_reducible refine IsSrc.drewN ?_ _) | (with_reducible refine IsSrc.setCell ?_ ?_ ?_ _) | (with_reducible refine IsSrc.kept ?_ (by with_reducible assumption)) | omega | (dsimp only; omega))), (by repeat (first | (with_reducible exact Kept.refl _) | (with_reducible assumption) | (with_reducible refine Kept.alloc ?_ _) | (with_reducible refine Kept.drew ?_) | (with_reducible refine Kept.drewN ?_ _) | (with_reducible refine Kept.setCell ?_ ?_ _) | (with_reducible refine Kept.trans ?_ (by with_reducible assumption)) | (simp only [World.size_alloc, World.size_setCell, World.size_drew, size_drewN]; omega) | omega | (dsimp only; omega))), Box.old f8 _, Box.old f23 _, .of_box (Box.new hT5.symm) ints6⟩
      case round =>
        clear f8 f23 hT5 k6 s6
        obtain ⟨m, hm, rfl, s6, k6, f8, f23, i6⟩ := hrel
        have lT5 := i6.1
        have lG := f23.lt
        have lS7 := s6.lt
        have e8 := f8.cell
        have e23 := f23.cell
        have hsr : Spans wr := Box.kept hsp k6
        by_cases hm3 : m < 3
        · have hmd : decide ((m : Int) < 3) = true := by simp; omega
          obtain ⟨U, hU⟩ := i6.2 (m * 2) (by omega)
          obtain ⟨V, hV⟩ := i6.2 (m * 2 + 1) (by omega)
          obtain ⟨w2, rfl⟩ : ∃ w2 : World, w2 = wr := ⟨_, rfl⟩
          go_wp2_with fail
          refine (Standard_any _ _ _).mono ?_
          rintro e v7 ⟨rfl, c7⟩
          have c7_c := (kcell c7).1; have c7_f := (kcell c7).2; have c7_z := c7.size; try simp only [World.size_alloc, World.size_setCell, World.size_drew, size_drewN] at c7_c c7_f c7_z
          go_wp2_with fail
          refine (refStandard_any _ _ _).mono ?_
          rintro e v8 ⟨rfl, c8⟩
          have c8_c := (kcell c8).1; have c8_f := (kcell c8).2; have c8_z := c8.size; try simp only [World.size_alloc, World.size_setCell, World.size_drew, size_drewN] at c8_c c8_f c8_z
          go_wp2_with fail
          refine (Gross_any _ _ _).mono ?_
          rintro e v9 ⟨rfl, c9⟩
          have c9_c := (kcell c9).1; have c9_f := (kcell c9).2; have c9_z := c9.size; try simp only [World.size_alloc, World.size_setCell, World.size_drew, size_drewN] at c9_c c9_f c9_z
          go_wp2_with fail
          refine (refGross_any _ _ _).mono ?_
          rintro e v10 ⟨rfl, c10⟩
          have c10_c := (kcell c10).1; have c10_f := (kcell c10).2; have c10_z := c10.size; try simp only [World.size_alloc, World.size_setCell, World.size_drew, size_drewN] at c10_c c10_f c10_z
          go_wp2_with fail
          have q10 : Kept w2 v10 := (by repeat (first | (with_reducible exact Kept.refl _) | (with_reducible assumption) | (with_reducible refine Kept.alloc ?_ _) | (with_reducible refine Kept.drew ?_) | (with_reducible refine Kept.drewN ?_ _) | (with_reducible refine Kept.setCell ?_ ?_ _) | (with_reducible refine Kept.trans ?_ (by with_reducible assumption)) | (simp only [World.size_alloc, World.size_setCell, World.size_drew, size_drewN]; omega) | omega | (dsimp only; omega)))
          have b25 : Box v10 w2.heap.size #[.int .i64 U, .int .i64 V] := Box.kept (Box.kept (Box.kept (Box.kept (Box.new rfl) c7) c8) c9) c10
          have s10 := s6.kept q10
          clear c7 c7_c c7_f c7_z c8 c8_c c8_f c8_z c9 c9_c c9_f c9_z c10 c10_c c10_f c10_z e8 e23 hU hV
          have g8 := f8.kept q10
          have g23 := f23.kept q10
          have l10 := q10.size
          generalize hT6 : v10.heap.size = T6 at *
          have hT6' : bs < T6 := by omega
          go_loopw [176] (fun i wr => ∃ r : Nat, r ≤ 3 ∧ i = .int .i64 r ∧ Kept w2 wr ∧ Box wr w2.heap.size #[.int .i64 U, .int .i64 V] ∧ IntsBlk wr T6 6) (fun i _ => 3 - (intOf i).toNat)
          case atStart => exact ⟨0, by omega, rfl, (by repeat (first | (with_reducible exact Kept.refl _) | (with_reducible assumption) | (with_reducible refine Kept.alloc ?_ _) | (with_reducible refine Kept.drew ?_) | (with_reducible refine Kept.drewN ?_ _) | (with_reducible refine Kept.setCell ?_ ?_ _) | (with_reducible refine Kept.trans ?_ (by with_reducible assumption)) | (simp only [World.size_alloc, World.size_setCell, World.size_drew, size_drewN]; omega) | omega | (dsimp only; omega))), Box.old b25 _, .of_box (Box.new hT6.symm) ints6⟩
          case round =>
            clear hT6 q10 b25 g8 g23 s10
            obtain ⟨r, hr, rfl, q7, b25, i7⟩ := hrel
            have e25 := b25.cell
            have lT6 := i7.1
            have l25 := b25.lt
            have l7 := q7.size
            by_cases hr3 : r < 3
            · obtain ⟨Y, hY⟩ := i7.2 (r * 2) (by omega)
              obtain ⟨Z, hZ⟩ := i7.2 (r * 2 + 1) (by omega)
              obtain ⟨w3, rfl⟩ : ∃ w3 : World, w3 = wr := ⟨_, rfl⟩
              go_wp2_with fail
              refine (Add_any _ _ _ _ _).mono ?_
              rintro e v11 ⟨rfl, c11⟩
              have c11_c := (kcell c11).1; have c11_f := (kcell c11).2; have c11_z := c11.size; try simp only [World.size_alloc, World.size_setCell, World.size_drew, size_drewN] at c11_c c11_f c11_z
              go_wp2_with fail
              refine (refAdd_any _ _ _ _ _).mono ?_
              rintro e v12 ⟨rfl, c12⟩
              have c12_c := (kcell c12).1; have c12_f := (kcell c12).2; have c12_z := c12.size; try simp only [World.size_alloc, World.size_setCell, World.size_drew, size_drewN] at c12_c c12_f c12_z
              go_wp2
              go_roundw
              case rel => exact ⟨r + 1, by omega, by go_num, keep2 (by repeat (first | (with_reducible exact Kept.refl _) | (with_reducible assumption) | (with_reducible refine Kept.alloc ?_ _) | (with_reducible refine Kept.drew ?_) | (with_reducible refine Kept.drewN ?_ _) | (with_reducible refine Kept.setCell ?_ ?_ _) | (with_reducible refine Kept.trans ?_ (by with_reducible assumption)) | (simp only [World.size_alloc, World.size_setCell, World.size_drew, size_drewN]; omega) | omega | (dsimp only; omega))) q7 b25 i7⟩
              case measure => simp [intOf]; omega
            · go_wp2_with fail
              go_roundw
              case rel => exact ⟨m + 1, by omega, by go_num, s6.kept q7, k6.trans q7, f8.kept q7, f23.kept q7, i6.kept q7⟩
              case measure => simp [intOf]; omega
        · go_wp2_with fail
          refine (corAwake _ hsr).mono ?_
          rintro e v9 ⟨rfl, c9⟩
          go_wp2
          go_ret
          exact ⟨rfl, k6.trans c9⟩
end Go.Proofs.YtooojlecefgonaaDoor
