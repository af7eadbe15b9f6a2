
/- Walks of package ticket: check, Make, Check, for what is valid. -/
import Derived.Test.YtbclfphnhbmhoaaDoorMeter3
import Derived.Test.YtbclfphnhbmhoaaDoorMeter8
import Derived.Test.YtbclfphnhbmhoaaDoorRefCor
import Derived.Test.YtbclfphnhbmhoaaDoorGenProd
namespace Go.Proofs.YtbclfphnhbmhoaaDoor
open Go.RowKit
set_option linter.unusedVariables false
set_option linter.unusedSimpArgs false

abbrev tkt (B l n l' n' t q v : Int) : Value := .agg #[.int .i64 B, .int .i64 l, .int .i64 n, .int .i64 l', .int .i64 n', .int .i64 t, .int .i64 q, .int .i64 v]
theorem mLit_le {p f n n' : Int} (p1 : 1 ≤ p) (f1 : 0 ≤ f) (h : n ≤ n') : mLit p f n ≤ mLit p f n' :=
  Int.ediv_le_ediv (by omega) (Int.mul_le_mul_of_nonneg_right h f1)
def grV (p f n n' : Int) : Int := mLit p f n' - mLit p f n
def tV (p f n n' ex co t q : Int) : Int := stdV (grV p f n n') (fac ex co t q)

set_option maxHeartbeats 1000000 in
theorem check_ok (p b f : Int) (s : ByteArray) (de ex co fr B : Int) (w : World) (hs : s.size ≤ 140737488351232) (hsp : Spans w) (hm : mOk p b f) (hp : pOk s de ex co fr) (hB : 0 ≤ B ∧ B < 1000) :
    Calls Tryd.prog 37 #[mtr p b f, prd s de ex co fr, .int .i64 B] w (Ret (.int .i64 0) w) := by
  have hm' : mValid p b f = true := decide_eq_true hm
  have hv := (pValid_iff s de ex co fr).2 hp
  obtain ⟨B0, B1⟩ := hB
  clear hm hp
  go_enter Tryd.func37, Tryd.ntmps37
  go_wp2_with fail
  refine (meterValid_any _ _ _ _).mono ?_
  rintro e v1 ⟨rfl, c1⟩
  rw [hm']
  have c1_c := (kcell c1).1; have c1_f := (kcell c1).2; have c1_z := c1.size; try simp only [World.size_alloc, World.size_setCell, World.size_drew, size_drewN] at c1_c c1_f c1_z
  go_wp2_with fail
  refine (prodValid_any _ _ _ _ _ _ hs (Box.kept hsp (by repeat (first | (with_reducible exact Kept.refl _) | (with_reducible assumption) | (with_reducible refine Kept.alloc ?_ _) | (with_reducible refine Kept.drew ?_) | (with_reducible refine Kept.drewN ?_ _) | (with_reducible refine Kept.setCell ?_ ?_ _) | (with_reducible refine Kept.trans ?_ (by with_reducible assumption)) | (simp only [World.size_alloc, World.size_setCell, World.size_drew, size_drewN]; omega) | omega | (dsimp only; omega))))).mono ?_
  rintro e v2 ⟨rfl, c2⟩
  rw [hv]
  have c2_c := (kcell c2).1; have c2_f := (kcell c2).2; have c2_z := c2.size; try simp only [World.size_alloc, World.size_setCell, World.size_drew, size_drewN] at c2_c c2_f c2_z
  go_wp2
  go_ret
  exact ⟨rfl, (by repeat (first | (with_reducible exact Kept.refl _) | (with_reducible assumption) | (with_reducible refine Kept.alloc ?_ _) | (with_reducible refine Kept.drew ?_) | (with_reducible refine Kept.drewN ?_ _) | (with_reducible refine Kept.setCell ?_ ?_ _) | (with_reducible refine Kept.trans ?_ (by with_reducible assumption)) | (simp only [World.size_alloc, World.size_setCell, World.size_drew, size_drewN]; omega) | omega | (dsimp only; omega)))⟩

/-- What a ticket's parts must be, for it to be made. -/
structure TkOk (p b f : Int) (s : ByteArray) (de ex co fr B l n l' n' t q : Int) : Prop where
  hs : s.size ≤ 140737488351232
  hm : mOk p b f
  hp : pOk s de ex co fr
  hB : 0 ≤ B ∧ B < 1000
  hc : cOk b l n
  hc' : cOk b l' n'
  hn : n ≤ n'
  ht : cOk' t q
  hg : grV p f n n' ≤ 1099511627776
theorem TkOk.vf {p b f : Int} {s : ByteArray} {de ex co fr B l n l' n' t q : Int} (h : TkOk p b f s de ex co fr B l n l' n' t q) : vfOk (grV p f n n') (fac ex co t q) := by
  have h1 := mLit_le (p := p) h.hm.1 (show 0 ≤ f by have := h.hm.2.2.2.1; omega) h.hn
  have h2 := (fac_bd (ex := ex) (co := co) h.hp.1.2.1 h.hp.1.2.2.1 h.ht).2
  have h3 := h.hg
  unfold grV at h3 ⊢
  exact ⟨⟨by omega, h3⟩, by omega, by omega⟩

set_option maxRecDepth 100000 in
set_option maxHeartbeats 2000000 in
theorem Make_ok (p b f : Int) (s : ByteArray) (de ex co fr B l n l' n' t q : Int) (w : World) (hsp : Spans w) (h : TkOk p b f s de ex co fr B l n l' n' t q) :
    Calls Tryd.prog 16 #[mtr p b f, prd s de ex co fr, .int .i64 B, cnt l n, cnt l' n', cnd t q] w (Ret (.tuple #[tkt B l n l' n' t q (tV p f n n' ex co t q), .int .i64 0]) w) := by
  have HV := Lib.hid h.vf
  have H := Lib.hid h
  have HT := Lib.hid (show stdV (grV p f n n') (fac ex co t q) = tV p f n n' ex co t q from rfl)
  have HG := Lib.hid (show mLit p f n' - mLit p f n = grV p f n n' from rfl)
  clear h
  go_enter Tryd.func16, Tryd.ntmps16
  go_wp2_with fail
  refine (check_ok _ _ _ _ _ _ _ _ _ _ H.out.hs (Box.kept hsp (by repeat (first | (with_reducible exact Kept.refl _) | (with_reducible assumption) | (with_reducible refine Kept.alloc ?_ _) | (with_reducible refine Kept.drew ?_) | (with_reducible refine Kept.drewN ?_ _) | (with_reducible refine Kept.setCell ?_ ?_ _) | (with_reducible refine Kept.trans ?_ (by with_reducible assumption)) | (simp only [World.size_alloc, World.size_setCell, World.size_drew, size_drewN]; omega) | omega | (dsimp only; omega)))) H.out.hm H.out.hp H.out.hB).mono ?_
  rintro e v1 ⟨rfl, c1⟩
  have c1_c := (kcell c1).1; have c1_f := (kcell c1).2; have c1_z := c1.size; try simp only [World.size_alloc, World.size_setCell, World.size_drew, size_drewN] at c1_c c1_f c1_z
  go_wp2_with fail
  refine (Between_in p b f l n l' n' _ H.out.hm H.out.hc H.out.hc' H.out.hn).mono ?_
  rw [HG.out]
  rintro e v2 ⟨rfl, c2⟩
  have c2_c := (kcell c2).1; have c2_f := (kcell c2).2; have c2_z := c2.size; try simp only [World.size_alloc, World.size_setCell, World.size_drew, size_drewN] at c2_c c2_f c2_z
  go_wp2_with fail
  refine (Factor_in s de ex co fr t q _ H.out.hs (Box.kept hsp (by repeat (first | (with_reducible exact Kept.refl _) | (with_reducible assumption) | (with_reducible refine Kept.alloc ?_ _) | (with_reducible refine Kept.drew ?_) | (with_reducible refine Kept.drewN ?_ _) | (with_reducible refine Kept.setCell ?_ ?_ _) | (with_reducible refine Kept.trans ?_ (by with_reducible assumption)) | (simp only [World.size_alloc, World.size_setCell, World.size_drew, size_drewN]; omega) | omega | (dsimp only; omega)))) H.out.hp H.out.ht).mono ?_
  rintro e v3 ⟨rfl, c3⟩
  have c3_c := (kcell c3).1; have c3_f := (kcell c3).2; have c3_z := c3.size; try simp only [World.size_alloc, World.size_setCell, World.size_drew, size_drewN] at c3_c c3_f c3_z
  go_wp2_with fail
  refine (Standard_in _ _ _ HV.out).mono ?_
  rw [HT.out]
  rintro e v4 ⟨rfl, c4⟩
  have c4_c := (kcell c4).1; have c4_f := (kcell c4).2; have c4_z := c4.size; try simp only [World.size_alloc, World.size_setCell, World.size_drew, size_drewN] at c4_c c4_f c4_z
  go_wp2
  refine bodyPost_ret (v := .tuple #[tkt B l n l' n' t q (tV p f n n' ex co t q), .int .i64 0]) (by simp [results, Tryd.results16, go_sem, ↓IntWalk.iteOmega, c4_c, c3_c, c2_c, c1_c]) rfl ⟨rfl, (by repeat (first | (with_reducible exact Kept.refl _) | (with_reducible assumption) | (with_reducible refine Kept.alloc ?_ _) | (with_reducible refine Kept.drew ?_) | (with_reducible refine Kept.drewN ?_ _) | (with_reducible refine Kept.setCell ?_ ?_ _) | (with_reducible refine Kept.trans ?_ (by with_reducible assumption)) | (simp only [World.size_alloc, World.size_setCell, World.size_drew, size_drewN]; omega) | omega | (dsimp only; omega)))⟩

set_option maxRecDepth 100000 in
set_option maxHeartbeats 2000000 in
theorem Check_ok (p b f : Int) (s : ByteArray) (de ex co fr B l n l' n' t q : Int) (w : World) (hsp : Spans w) (h : TkOk p b f s de ex co fr B l n l' n' t q) :
    Calls Tryd.prog 17 #[mtr p b f, prd s de ex co fr, tkt B l n l' n' t q (tV p f n n' ex co t q)] w (Ret (.int .i64 0) w) := by
  have H := Lib.hid (fun W k => Make_ok p b f s de ex co fr B l n l' n' t q W k h)
  clear h
  generalize tV p f n n' ex co t q = V at *
  go_enter Tryd.func17, Tryd.ntmps17
  go_wp2_with fail
  refine (H.out _ (Box.kept hsp (by repeat (first | (with_reducible exact Kept.refl _) | (with_reducible assumption) | (with_reducible refine Kept.alloc ?_ _) | (with_reducible refine Kept.drew ?_) | (with_reducible refine Kept.drewN ?_ _) | (with_reducible refine Kept.setCell ?_ ?_ _) | (with_reducible refine Kept.trans ?_ (by with_reducible assumption)) | (simp only [World.size_alloc, World.size_setCell, World.size_drew, size_drewN]; omega) | omega | (dsimp only; omega))))).mono ?_
  rintro e v1 ⟨rfl, c1⟩
  have c1_c := (kcell c1).1; have c1_f := (kcell c1).2; have c1_z := c1.size; try simp only [World.size_alloc, World.size_setCell, World.size_drew, size_drewN] at c1_c c1_f c1_z
  go_wp2
  all_goals
    go_ret
    exact ⟨rfl, (by repeat (first | (with_reducible exact Kept.refl _) | (with_reducible assumption) | (with_reducible refine Kept.alloc ?_ _) | (with_reducible refine Kept.drew ?_) | (with_reducible refine Kept.drewN ?_ _) | (with_reducible refine Kept.setCell ?_ ?_ _) | (with_reducible refine Kept.trans ?_ (by with_reducible assumption)) | (simp only [World.size_alloc, World.size_setCell, World.size_drew, size_drewN]; omega) | omega | (dsimp only; omega)))⟩
end Go.Proofs.YtbclfphnhbmhoaaDoor
