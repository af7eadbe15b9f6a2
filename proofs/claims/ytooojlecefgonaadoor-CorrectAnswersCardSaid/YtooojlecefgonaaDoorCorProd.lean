/- The walk of CorrectProducts; the reference's Valid (batchlineref04). -/
import Derived.Test.YtooojlecefgonaaDoorGenProd
import Derived.Test.YtooojlecefgonaaDoorRefName
import Derived.Test.YtooojlecefgonaaDoorCorMono
namespace Go.Proofs.YtooojlecefgonaaDoor
open Go.RowKit
set_option linter.unusedVariables false
set_option linter.unusedSimpArgs false

set_option maxHeartbeats 1000000 in
theorem refPrdValid_any (s : ByteArray) (de ex co fr : Int) (w : World) (hs : s.size ≤ 140737488351232) :
    Calls Tryd.prog 17 #[prd s de ex co fr] w (Ret (.bool (pValid s de ex co fr)) w) := by
  have H := Lib.hid (show pValid s de ex co fr = (decide (pNums de ex co fr) && nameOk s) from rfl)
  go_enter Tryd.func17, Tryd.ntmps17
  go_wp2_with (go_at_call 35; refine (refName_any _ _ hs).mono ?_; rintro e w' ⟨rfl, rfl⟩)
  all_goals
    go_ret
    refine ⟨ret_b ?_, (by repeat (first | (with_reducible exact Kept.refl _) | (with_reducible assumption) | (with_reducible refine Kept.alloc ?_ _) | (with_reducible refine Kept.drew ?_) | (with_reducible refine Kept.drewN ?_ _) | (with_reducible refine Kept.setCell ?_ ?_ _) | (with_reducible refine Kept.trans ?_ (by with_reducible assumption)) | (simp only [World.size_alloc, World.size_setCell, World.size_drew, size_drewN]; omega) | omega | (dsimp only; omega)))⟩
    rw [H.out]
    simp only [*, Bool.and_true, Bool.and_false]
    first | done | exact (decide_eq_false (by unfold pNums; omega)).symm | exact decide_eq_decide.2 (by unfold pNums; omega)

theorem name_other : nameOk ⟨#[111, 116, 104, 101, 114]⟩ = true := by decide +kernel
theorem fac_still (t p : Int) : fac 0 0 t p = 1000000 := by
  have h : fHeat 0 t = 1000000 := by unfold fHeat hf; simp
  have h' : fPress 0 p = 1000000 := by unfold fPress hf; simp
  unfold fac
  rw [h, h']
  decide
set_option maxRecDepth 100000 in
set_option maxHeartbeats 4000000 in
theorem CorrectProducts_law (a : Option Addr) (len cap : Nat) (w : World) (h : ArgInts w a len cap) (hsp : Spans w) :
    Calls Tryd.prog 5 #[.slice a len cap] w (Ret (.bool true) w) := by
  have ho : (⟨#[111, 116, 104, 101, 114]⟩ : ByteArray).size ≤ 140737488351232 := by decide
  go_enter Tryd.func5, Tryd.ntmps5
  go_wp2_with fail
  refine (New_any _ _ _ _ h).mono ?_
  rintro e w1 ⟨bs, rfl, hs1, k1⟩
  have k1_c := (kcell k1).1; have k1_f := (kcell k1).2; have k1_z := k1.size; try simp only [World.size_alloc, World.size_setCell, World.size_drew, size_drewN] at k1_c k1_f k1_z
  have hlt := hs1.lt
  go_wp2_with fail
  refine (Product_any _ _ bs 3 hs1 (by omega) (by omega)).mono ?_
  rintro e v2 ⟨de, ex, co, fr, hn, rfl, s2, o2⟩
  have o2_c := (ocell o2).1; have o2_f := (ocell o2).2; have o2_z := o2.size; try simp only [World.size_alloc, World.size_setCell, World.size_drew, size_drewN] at o2_c o2_f o2_z
  go_wp2_with fail
  refine (Condition_any w.heap.size _ bs (by repeat (first | (with_reducible assumption) | (with_reducible refine IsSrc.alloc ?_ _) | (with_reducible refine IsSrc.drew ?_) | (with_reducible refine IsSrc.drewN ?_ _) | (with_reducible refine IsSrc.setCell ?_ ?_ ?_ _) | (with_reducible refine IsSrc.kept ?_ (by with_reducible assumption)) | omega | (dsimp only; omega)))).mono ?_
  rintro e v3 ⟨t, p, hc, rfl, s3, o3⟩
  have o3_c := (ocell o3).1; have o3_f := (ocell o3).2; have o3_z := o3.size; try simp only [World.size_alloc, World.size_setCell, World.size_drew, size_drewN] at o3_c o3_f o3_z
  have kw3 : Kept w v3 := Only.kept (Only.kept k1 o2 hlt.1) o3 hlt.1
  clear k1_c k1_f k1_z o2_c o2_f o2_z o3_c o3_f o3_z k1 o2 o3 s2 s3 hs1
  obtain ⟨_, he, hco, hfr⟩ := id hn
  have hp := pOk_made (n := 3) hn
  have hz := pName_size 3
  have hv := (pValid_iff _ _ _ _ _).2 hp
  have HP := Lib.hid hp
  have HV := Lib.hid hv
  have HQ := Lib.hid (show pOk ⟨#[111, 116, 104, 101, 114]⟩ 400 ex co 1 from ⟨⟨by omega, he, hco, by omega⟩, name_other⟩)
  have HR := Lib.hid (show pOk ⟨#[111, 116, 104, 101, 114]⟩ 400 0 0 1 from ⟨⟨by omega, by omega, by omega, by omega⟩, name_other⟩)
  clear hp hn hv
  generalize nmOf ⟨#[112]⟩ 3 = nm at *
  have hc := Lib.hid hc
  have FS := Lib.hid (fac_still t p)
  go_wp2_with fail
  refine (Factor_in _ _ _ _ _ _ _ _ hz (Box.kept hsp (by repeat (first | (with_reducible exact Kept.refl _) | (with_reducible assumption) | (with_reducible refine Kept.alloc ?_ _) | (with_reducible refine Kept.drew ?_) | (with_reducible refine Kept.drewN ?_ _) | (with_reducible refine Kept.setCell ?_ ?_ _) | (with_reducible refine Kept.trans ?_ (by with_reducible assumption)) | (simp only [World.size_alloc, World.size_setCell, World.size_drew, size_drewN]; omega) | omega | (dsimp only; omega)))) HP.out hc.out).mono ?_
  rintro e v4 ⟨rfl, c4⟩
  have c4_c := (kcell c4).1; have c4_f := (kcell c4).2; have c4_z := c4.size; try simp only [World.size_alloc, World.size_setCell, World.size_drew, size_drewN] at c4_c c4_f c4_z
  go_wp2_with fail
  refine (Factor_in _ _ _ _ _ _ _ _ ho (Box.kept hsp (by repeat (first | (with_reducible exact Kept.refl _) | (with_reducible assumption) | (with_reducible refine Kept.alloc ?_ _) | (with_reducible refine Kept.drew ?_) | (with_reducible refine Kept.drewN ?_ _) | (with_reducible refine Kept.setCell ?_ ?_ _) | (with_reducible refine Kept.trans ?_ (by with_reducible assumption)) | (simp only [World.size_alloc, World.size_setCell, World.size_drew, size_drewN]; omega) | omega | (dsimp only; omega)))) HQ.out hc.out).mono ?_
  rintro e v5 ⟨rfl, c5⟩
  have c5_c := (kcell c5).1; have c5_f := (kcell c5).2; have c5_z := c5.size; try simp only [World.size_alloc, World.size_setCell, World.size_drew, size_drewN] at c5_c c5_f c5_z
  go_wp2_with fail
  refine (Factor_in _ _ _ _ _ _ _ _ ho (Box.kept hsp (by repeat (first | (with_reducible exact Kept.refl _) | (with_reducible assumption) | (with_reducible refine Kept.alloc ?_ _) | (with_reducible refine Kept.drew ?_) | (with_reducible refine Kept.drewN ?_ _) | (with_reducible refine Kept.setCell ?_ ?_ _) | (with_reducible refine Kept.trans ?_ (by with_reducible assumption)) | (simp only [World.size_alloc, World.size_setCell, World.size_drew, size_drewN]; omega) | omega | (dsimp only; omega)))) HR.out hc.out).mono ?_
  rw [FS.out]
  rintro e v6 ⟨rfl, c6⟩
  have c6_c := (kcell c6).1; have c6_f := (kcell c6).2; have c6_z := c6.size; try simp only [World.size_alloc, World.size_setCell, World.size_drew, size_drewN] at c6_c c6_f c6_z
  go_wp2_with fail
  refine (refPrdValid_any _ _ _ _ _ _ hz).mono ?_
  rw [HV.out]
  rintro e v7 ⟨rfl, c7⟩
  have c7_c := (kcell c7).1; have c7_f := (kcell c7).2; have c7_z := c7.size; try simp only [World.size_alloc, World.size_setCell, World.size_drew, size_drewN] at c7_c c7_f c7_z
  go_wp2_with fail
  refine (corAwake _ (Box.kept hsp (by repeat (first | (with_reducible exact Kept.refl _) | (with_reducible assumption) | (with_reducible refine Kept.alloc ?_ _) | (with_reducible refine Kept.drew ?_) | (with_reducible refine Kept.drewN ?_ _) | (with_reducible refine Kept.setCell ?_ ?_ _) | (with_reducible refine Kept.trans ?_ (by with_reducible assumption)) | (simp only [World.size_alloc, World.size_setCell, World.size_drew, size_drewN]; omega) | omega | (dsimp only; omega))))).mono ?_
  rintro e v8 ⟨rfl, c8⟩
  have c8_c := (kcell c8).1; have c8_f := (kcell c8).2; have c8_z := c8.size; try simp only [World.size_alloc, World.size_setCell, World.size_drew, size_drewN] at c8_c c8_f c8_z
  go_wp2
  go_ret
  exact ⟨rfl, (by repeat (first | (with_reducible exact Kept.refl _) | (with_reducible assumption) | (with_reducible refine Kept.alloc ?_ _) | (with_reducible refine Kept.drew ?_) | (with_reducible refine Kept.drewN ?_ _) | (with_reducible refine Kept.setCell ?_ ?_ _) | (with_reducible refine Kept.trans ?_ (by with_reducible assumption)) | (simp only [World.size_alloc, World.size_setCell, World.size_drew, size_drewN]; omega) | omega | (dsimp only; omega)))⟩
end Go.Proofs.YtooojlecefgonaaDoor
