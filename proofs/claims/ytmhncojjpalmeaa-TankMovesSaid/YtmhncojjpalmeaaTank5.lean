/- The walk of tank.Level. -/
import Derived.Test.YtmhncojjpalmeaaTank4
namespace Go.Proofs.Ytmhncojjpalmeaa
open Go.RowKit
set_option linter.unusedVariables false
set_option linter.unusedSimpArgs false

/-- What Level returns. -/
def tLevel (nm : ByteArray) (l : List Strap) (lo hi v : Int) : Int × Int := if tOk nm l lo hi then (if (fst l).vl ≤ v ∧ v ≤ (lst l).vl then (lvl l v, 0) else (0, 16)) else (0, 9)

theorem Search_lev_ret (c0 c1 c2 : Value) (n : Nat) (p : Nat → Bool) (w : World) (hn : n ≤ 1073741824) (mono : ∀ a b, a ≤ b → b < n → p a = true → p b = true)
    (hf : ∀ (i : Nat) (W : World), i < n → Kept w W → Calls Try.prog 32 #[.int .i64 i, c0, c1, c2] W (Ret (.bool (p i)) W)) :
    Calls Try.prog 31 #[.int .i64 n, .func (.func 32) #[] #[c0, c1, c2]] w (Ret (.int .i64 (leastN p n 0 : Nat)) w) :=
  (Search_lev c0 c1 c2 n p w hn hf).mono fun e w' ⟨r, h0, h1, h2, he, hk⟩ => ⟨by rw [he, found_least mono h0 h1 h2], hk⟩

set_option maxRecDepth 100000 in
set_option maxHeartbeats 4000000 in
theorem Level_any (nm : ByteArray) (a : Option Addr) (len cap : Nat) (lo hi v : Int) (l : List Strap) (z : Nat) (w : World) (hs : nm.size ≤ 140737488351232) (hS : SliceOf StrapR 2 z w a len cap l) :
    Calls Try.prog 18 #[tnk nm a len cap lo hi, .int .i64 v] w (RetIE (tLevel nm l lo hi v).1 (tLevel nm l lo hi v).2 w) := by
  have HS := Lib.hid hS
  by_cases h : tOk nm l lo hi
  · have HE := Lib.hid (show tLevel nm l lo hi v = if (fst l).vl ≤ v ∧ v ≤ (lst l).vl then (lvl l v, 0) else (0, 16) from if_pos h)
    have hll := hS.1
    have hmax := hS.2.2.1
    have hcap := hS.2.1
    unfold maxLen at hmax
    have ht := straps_of h
    have h2 := ht.two
    obtain ⟨n, rfl⟩ : ∃ n, len = n + 1 := ⟨len - 1, by omega⟩
    have hn1 : 1 ≤ n := by omega
    have hn2 : n ≤ 15 := by have := ht.most; omega
    obtain ⟨b, o, rfl, hbw, _⟩ := ends_at hS (Kept.refl w)
    have HT := Lib.hid ht
    have HV := Lib.hid (show tValid nm l lo hi = true from decide_eq_true h)
    obtain ⟨e1, e2, ⟨⟨n1, n2⟩, n3, n4⟩, ⟨⟨m1, m2⟩, m3, m4⟩⟩ := ends_lt ht
    clear hS h hll ht h2
    go_enter Try.func18, Try.ntmps18
    go_wp2_with fail
    refine (tankValid_any _ _ _ _ _ _ l z _ hs (HS.out.kept StrapR.stays (by repeat (first | (with_reducible exact Kept.refl _) | (with_reducible assumption) | (with_reducible refine Kept.alloc ?_ _) | (with_reducible refine Kept.drew ?_) | (with_reducible refine Kept.drewN ?_ _) | (with_reducible refine Kept.setCell ?_ ?_ _) | (with_reducible refine Kept.trans ?_ (by with_reducible assumption)) | (simp only [World.size_alloc, World.size_setCell, World.size_drew, size_drewN]; omega) | omega | (dsimp only; omega))))).mono ?_
    rintro e v1 ⟨rfl, c1⟩
    have c1_c := (kcell c1).1; have c1_f := (kcell c1).2; have c1_z := c1.size; try simp only [World.size_alloc, World.size_setCell, World.size_drew, size_drewN] at c1_c c1_f c1_z
    rw [HV.out]
    have bT : Box v1 w.heap.size #[.string nm, .slice (some ⟨b, o, none⟩) (n + 1) cap, .int .i64 lo, .int .i64 hi] := Box.kept (Box.old (Box.new rfl) _) c1
    have bX : Box v1 (w.heap.size + 1) #[.int .i64 v] := Box.kept (Box.new (by simp)) c1
    have kw1 : Kept w v1 := Kept.trans (by repeat (first | (with_reducible exact Kept.refl _) | (with_reducible assumption) | (with_reducible refine Kept.alloc ?_ _) | (with_reducible refine Kept.drew ?_) | (with_reducible refine Kept.drewN ?_ _) | (with_reducible refine Kept.setCell ?_ ?_ _) | (with_reducible refine Kept.trans ?_ (by with_reducible assumption)) | (simp only [World.size_alloc, World.size_setCell, World.size_drew, size_drewN]; omega) | omega | (dsimp only; omega))) c1
    clear c1 c1_c c1_f c1_z
    have zk := bX.lt
    have zb : b < v1.heap.size := Nat.lt_of_lt_of_le hbw kw1.size
    go_upto_region 3 with fail
    go_cut [6, 7] (fun p q wx => ∃ g h : Nat, p = .pointer (some ⟨g, 0, none⟩) ∧ q = .pointer (some ⟨h, 0, none⟩) ∧ Box wx g #[.int .i64 (fst l).lv, .int .i64 (fst l).vl] ∧ Box wx h #[.int .i64 (lst l).lv, .int .i64 (lst l).vl] ∧ Box wx (w.heap.size + 1) #[.int .i64 v] ∧ Box wx w.heap.size #[.string nm, .slice (some ⟨b, o, none⟩) (n + 1) cap, .int .i64 lo, .int .i64 hi] ∧ Kept w wx)
    case first =>
      obtain ⟨b', o', ea, _, d0, d1, d2, d3⟩ := ends_at HS.out kw1
      obtain ⟨rfl, rfl⟩ : b' = b ∧ o' = o := by injection ea with ea; injection ea with e1 e2 _; exact ⟨e1.symm, e2.symm⟩
      clear ea
      have eT := bT.cell
      have g1 : IntKind.i64.wrap ((n : Int) + 1 - 1) = n := by rw [show (n : Int) + 1 - 1 = n by omega]; exact IntWalk.i64_in _ (by omega)
      have g2 : (n : Int) < (n : Int) + 1 := by omega
      have g3 : (0 : Int) < (n : Int) + 1 := by omega
      generalize fst l = A at *
      generalize lst l = B at *
      obtain ⟨A1, V1⟩ := A
      obtain ⟨A2, V2⟩ := B
      dsimp only at d0 d1 d2 d3
      go_region
      all_goals
        go_wp2_with fail
        go_meet
        exact ⟨_, _, rfl, rfl, (by repeat (first | (with_reducible assumption) | (with_reducible apply Box.new; first | (with_reducible rfl) | omega | (simp only [World.size_alloc, World.size_setCell, World.size_drew, size_drewN] <;> omega)) | (with_reducible apply Box.old) | (with_reducible apply Box.drew) | (with_reducible apply Box.drewN) | (with_reducible apply Box.set) | (with_reducible apply Box.other) | (with_reducible apply Box.only_ (by with_reducible assumption)) | (with_reducible apply Box.kept_ (by with_reducible assumption)) | (simp only [World.size_alloc, World.size_setCell, World.size_drew, size_drewN]; omega) | omega | (dsimp only; omega) | rfl | (simp; done))), (by repeat (first | (with_reducible assumption) | (with_reducible apply Box.new; first | (with_reducible rfl) | omega | (simp only [World.size_alloc, World.size_setCell, World.size_drew, size_drewN] <;> omega)) | (with_reducible apply Box.old) | (with_reducible apply Box.drew) | (with_reducible apply Box.drewN) | (with_reducible apply Box.set) | (with_reducible apply Box.other) | (with_reducible apply Box.only_ (by with_reducible assumption)) | (with_reducible apply Box.kept_ (by with_reducible assumption)) | (simp only [World.size_alloc, World.size_setCell, World.size_drew, size_drewN]; omega) | omega | (dsimp only; omega) | rfl | (simp; done))), (by repeat (first | (with_reducible assumption) | (with_reducible apply Box.new; first | (with_reducible rfl) | omega | (simp only [World.size_alloc, World.size_setCell, World.size_drew, size_drewN] <;> omega)) | (with_reducible apply Box.old) | (with_reducible apply Box.drew) | (with_reducible apply Box.drewN) | (with_reducible apply Box.set) | (with_reducible apply Box.other) | (with_reducible apply Box.only_ (by with_reducible assumption)) | (with_reducible apply Box.kept_ (by with_reducible assumption)) | (simp only [World.size_alloc, World.size_setCell, World.size_drew, size_drewN]; omega) | omega | (dsimp only; omega) | rfl | (simp; done))), (by repeat (first | (with_reducible assumption) | (with_reducible apply Box.new; first | (with_reducible rfl) | omega | (simp only [World.size_alloc, World.size_setCell, World.size_drew, size_drewN] <;> omega)) | (with_reducible apply Box.old) | (with_reducible apply Box.drew) | (with_reducible apply Box.drewN) | (with_reducible apply Box.set) | (with_reducible apply Box.other) | (with_reducible apply Box.only_ (by with_reducible assumption)) | (with_reducible apply Box.kept_ (by with_reducible assumption)) | (simp only [World.size_alloc, World.size_setCell, World.size_drew, size_drewN]; omega) | omega | (dsimp only; omega) | rfl | (simp; done))), (by repeat (first | (with_reducible exact Kept.refl _) | (with_reducible assumption) | (with_reducible refine Kept.alloc ?_ _) | (with_reducible refine Kept.drew ?_) | (with_reducible refine Kept.drewN ?_ _) | (with_reducible refine Kept.setCell ?_ ?_ _) | (with_reducible refine Kept.trans ?_ (by with_reducible assumption)) | (simp only [World.size_alloc, World.size_setCell, World.size_drew, size_drewN]; omega) | omega | (dsimp only; omega)))⟩
    case rest =>
      clear bT bX zk zb kw1
      obtain ⟨g, h, rfl, rfl, b6, b7, bX, bT, kw2⟩ := hcut
      have f6 := b6.cell
      have f7 := b7.cell
      have fX := bX.cell
      have l6 := b6.lt
      have l7 := b7.lt
      have lX := bX.lt
      by_cases hv : (fst l).vl ≤ v ∧ v ≤ (lst l).vl
      · have HE2 := Lib.hid (show tLevel nm l lo hi v = (lvl l v, 0) by rw [HE.out, if_pos hv])
        obtain ⟨v1', v2'⟩ := hv
        clear HE
        generalize tLevel nm l lo hi v = Z at *
        have HL := Lib.hid (show lvl l v = (fst l).lv + (leastN (lvP l v) (lvN l) 0 : Nat) from rfl)
        have hN : (lvN l : Int) = (lst l).lv - (fst l).lv := by unfold lvN; omega
        have lb := (leastN_spec (lvP l v) (lvN l) 0).2.1
        have HF := Lib.hid (fun (k : KW wc) => Search_lev_ret (.pointer (some ⟨w.heap.size, 0, none⟩)) (.pointer (some ⟨g, 0, none⟩)) (.pointer (some ⟨w.heap.size + 1, 0, none⟩)) (lvN l) (lvP l v) k.it (by omega) (lvP_mono HT.out v)
          (fun i W hi' hk => levFn_any nm (some ⟨b, o, none⟩) (n + 1) cap lo hi v (fst l).vl l _ _ _ z i W (HS.out.kept StrapR.stays (Kept.trans kw2 (Kept.trans k.kept hk))) HT.out hi' (Box.kept (Box.kept bT k.kept) hk) (Box.kept (Box.kept b6 k.kept) hk) (Box.kept (Box.kept bX k.kept) hk)))
        generalize leastN (lvP l v) (lvN l) 0 = R at *
        generalize lvN l = N at *
        have ew : IntKind.i64.wrap ((lst l).lv - (fst l).lv) = (N : Int) := by rw [← hN]; exact IntWalk.i64_in _ (by omega)
        have ew2 : IntKind.i64.wrap ((fst l).lv + (R : Int)) = (fst l).lv + (R : Int) := IntWalk.i64_in _ (by omega)
        clear hN
        generalize hF0 : fst l = A at *
        generalize hF1 : lst l = B at *
        clear hF0 hF1
        obtain ⟨A1, V1⟩ := A
        obtain ⟨A2, V2⟩ := B
        dsimp only at *
        go_wp2_with fail
        refine wp_region_kw (by kernel_rfl) (by kernel_rfl) ?_
        repeat (go_big_quiet_step ((go_at_call 31; exact kw_call (HF.out _))))
        refine wpQuiet_nil ?_
        intro _ hw'
        obtain ⟨kq, hw''⟩ := hw'
        subst hw''
        obtain ⟨wq, hwq⟩ := kq
        dsimp only
        go_wp2
        go_ret2
        exact ⟨ret_ii (by rw [HE2.out]; exact HL.out.symm) (by rw [HE2.out]), (by repeat (first | (with_reducible exact Kept.refl _) | (with_reducible assumption) | (with_reducible refine Kept.alloc ?_ _) | (with_reducible refine Kept.drew ?_) | (with_reducible refine Kept.drewN ?_ _) | (with_reducible refine Kept.setCell ?_ ?_ _) | (with_reducible refine Kept.trans ?_ (by with_reducible assumption)) | (simp only [World.size_alloc, World.size_setCell, World.size_drew, size_drewN]; omega) | omega | (dsimp only; omega)))⟩
      · have HE2 := Lib.hid (show tLevel nm l lo hi v = (0, 16) by rw [HE.out, if_neg hv])
        clear HE
        generalize tLevel nm l lo hi v = Z at *
        have hv' : v < (fst l).vl ∨ ((fst l).vl ≤ v ∧ (lst l).vl < v) := by omega
        clear hv
        generalize fst l = A at *
        generalize lst l = B at *
        obtain ⟨A1, V1⟩ := A
        obtain ⟨A2, V2⟩ := B
        dsimp only at *
        rcases hv' with h1 | h1
        all_goals
          go_wp2
          go_ret2
          exact ⟨ret_ii (by rw [HE2.out]) (by rw [HE2.out]), (by repeat (first | (with_reducible exact Kept.refl _) | (with_reducible assumption) | (with_reducible refine Kept.alloc ?_ _) | (with_reducible refine Kept.drew ?_) | (with_reducible refine Kept.drewN ?_ _) | (with_reducible refine Kept.setCell ?_ ?_ _) | (with_reducible refine Kept.trans ?_ (by with_reducible assumption)) | (simp only [World.size_alloc, World.size_setCell, World.size_drew, size_drewN]; omega) | omega | (dsimp only; omega)))⟩
  · have HE2 := Lib.hid (show tLevel nm l lo hi v = (0, 9) from if_neg h)
    have HV := Lib.hid (show tValid nm l lo hi = false from decide_eq_false h)
    clear hS h
    go_enter Try.func18, Try.ntmps18
    go_wp2_with fail
    refine (tankValid_any _ _ _ _ _ _ l z _ hs (HS.out.kept StrapR.stays (by repeat (first | (with_reducible exact Kept.refl _) | (with_reducible assumption) | (with_reducible refine Kept.alloc ?_ _) | (with_reducible refine Kept.drew ?_) | (with_reducible refine Kept.drewN ?_ _) | (with_reducible refine Kept.setCell ?_ ?_ _) | (with_reducible refine Kept.trans ?_ (by with_reducible assumption)) | (simp only [World.size_alloc, World.size_setCell, World.size_drew, size_drewN]; omega) | omega | (dsimp only; omega))))).mono ?_
    rintro e v1 ⟨rfl, c1⟩
    have c1_c := (kcell c1).1; have c1_f := (kcell c1).2; have c1_z := c1.size; try simp only [World.size_alloc, World.size_setCell, World.size_drew, size_drewN] at c1_c c1_f c1_z
    rw [HV.out]
    go_wp2
    go_ret2
    exact ⟨ret_ii (by rw [HE2.out]) (by rw [HE2.out]), (by repeat (first | (with_reducible exact Kept.refl _) | (with_reducible assumption) | (with_reducible refine Kept.alloc ?_ _) | (with_reducible refine Kept.drew ?_) | (with_reducible refine Kept.drewN ?_ _) | (with_reducible refine Kept.setCell ?_ ?_ _) | (with_reducible refine Kept.trans ?_ (by with_reducible assumption)) | (simp only [World.size_alloc, World.size_setCell, World.size_drew, size_drewN]; omega) | omega | (dsimp only; omega)))⟩
end Go.Proofs.Ytmhncojjpalmeaa
