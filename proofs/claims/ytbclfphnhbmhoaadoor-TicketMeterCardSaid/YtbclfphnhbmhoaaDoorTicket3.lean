
/- The walk of TicketMeter. -/
import Derived.Test.YtbclfphnhbmhoaaDoorTicket2
import Derived.Test.YtbclfphnhbmhoaaDoorArgs
import Derived.Deep.RegionHeld3
namespace Go.Proofs.YtbclfphnhbmhoaaDoor
open Go.RowKit
set_option linter.unusedVariables false
set_option linter.unusedSimpArgs false

theorem Few_any (a : Option Addr) (len cap : Nat) (w : World) (hl : len ≤ 9223372036854775807) : Calls Tryd.prog 7 #[.slice a len cap] w fun e w' => e = .returned (.bool (decide (len ≤ 400))) ∧ w = w' := by
  by_cases h : len ≤ 400
  · go_enter Tryd.func7, Tryd.ntmps7
    go_wp2
    go_ret
    exact ⟨ret_b (decide_eq_decide.2 (by omega)), rfl⟩
  · go_enter Tryd.func7, Tryd.ntmps7
    go_wp2
    go_ret
    exact ⟨ret_b (decide_eq_decide.2 (by omega)), rfl⟩
theorem refRead_ok (p b f l n x m : Int) (w : World) (h : mOk p b f) (hc : cOk b l n) (hx : mReading b x) (hm : n + mStep b l x = m) (hl : m ≤ 1099511627776) :
    Calls Tryd.prog 15 #[mtr p b f, cnt l n, .int .i64 x] w (RetCE x m 0 w) := by
  have := refRead_any p b f l n x w
  unfold mRead at this
  rw [if_pos ⟨h, hc⟩, if_pos hx, hm, if_pos hl] at this
  exact this
theorem step_mod {b P T : Int} (hb : b = 16 ∨ b = 32) (h0 : 0 ≤ P) (h1 : P ≤ T) (h2 : T - P < 65536) : mStep b (P % mSpan b) (T % mSpan b) = T - P := by
  have sb := mSpan_bd b
  unfold mStep
  rw [Int.emod_eq_iff (by omega)]
  refine ⟨by omega, by omega, ?_⟩
  rw [show T - P - (T % mSpan b - P % mSpan b + mSpan b) = (T - T % mSpan b) - (P - P % mSpan b) - mSpan b by omega]
  have d1 : mSpan b ∣ T - T % mSpan b := ⟨T / mSpan b, by have := Int.emod_add_mul_ediv T (mSpan b); omega⟩
  have d2 : mSpan b ∣ P - P % mSpan b := ⟨P / mSpan b, by have := Int.emod_add_mul_ediv P (mSpan b); omega⟩
  exact Int.dvd_sub (Int.dvd_sub d1 d2) (Int.dvd_refl _)
theorem cOk_mod {b T : Int} (h0 : 0 ≤ T) (h1 : T ≤ 1099511627776) : cOk b (T % mSpan b) T := by
  have sb := mSpan_bd b
  exact ⟨⟨Int.emod_nonneg _ (by omega), Int.emod_lt_of_pos _ (by omega)⟩, h0, h1⟩
theorem mRd_mod {b T : Int} : mReading b (T % mSpan b) := by
  have sb := mSpan_bd b
  exact ⟨Int.emod_nonneg _ (by omega), Int.emod_lt_of_pos _ (by omega)⟩
theorem gr_small {p f T N : Int} (p1 : 1 ≤ p) (f0 : 0 ≤ f) (f1 : f ≤ 200000) (h0 : 0 ≤ N) (h1 : N ≤ T) (h2 : T ≤ 5000000) : grV p f N T ≤ 1099511627776 := by
  unfold grV mLit
  have a0 : 0 ≤ N * f / (100 * p) := Int.ediv_nonneg (Int.mul_nonneg h0 f0) (by omega)
  have a1 : T * f / (100 * p) ≤ T * f := Int.ediv_le_self _ (Int.mul_nonneg (by omega) f0)
  have a2 := (mul_bd (N := 5000000) (F := 200000) (show 0 ≤ T by omega) h2 f0 f1).2
  omega
theorem box23 {w : World} {b b' : Nat} {c0 c1 c2 d0 d1 : Value} (h : Box w b #[c0, c1, c2]) (h' : Box w b' #[d0, d1]) : (w.cell? ⟨b, 0, none⟩ = some c0 ∧ w.cell? ⟨b, 1, none⟩ = some c1 ∧ w.cell? ⟨b, 2, none⟩ = some c2) ∧ w.cell? ⟨b', 0, none⟩ = some d0 ∧ w.cell? ⟨b', 1, none⟩ = some d1 :=
  ⟨⟨h.cell 0, h.cell 1, h.cell 2⟩, h'.cell 0, h'.cell 1⟩

set_option maxRecDepth 100000 in
set_option maxHeartbeats 16000000 in
theorem TicketMeter_law (a : Option Addr) (len cap : Nat) (w : World) (h : ArgInts w a len cap) (hsp : Spans w) :
    Calls Tryd.prog 3 #[.slice a len cap] w (Ret (.bool true) w) := by
  by_cases hf : len ≤ 400
  · have F := Lib.hid (fun W => decide_eq_true hf ▸ Few_any a len cap W (by omega))
    go_enter Tryd.func3, Tryd.ntmps3
    go_wp2_with fail
    refine (F.out _).mono ?_
    rintro e v0 ⟨rfl, rfl⟩
    go_wp2_with fail
    refine (New_any _ _ _ _ h).mono ?_
    rintro e v1 ⟨bs, rfl, s1, k1⟩
    have hlt := s1.lt
    go_wp2_with fail
    refine (SrcMeter_any w.heap.size _ bs s1).mono ?_
    rintro e v2 ⟨p, b, f, hm, rfl, s2, o2⟩
    have o2_c := (ocell o2).1; have o2_f := (ocell o2).2; have o2_z := o2.size; try simp only [World.size_alloc, World.size_setCell, World.size_drew, size_drewN] at o2_c o2_f o2_z
    go_wp2_with fail
    refine (Product_any w.heap.size _ bs 0 (by repeat (first | (with_reducible assumption) | (with_reducible refine IsSrc.alloc ?_ _) | (with_reducible refine IsSrc.drew ?_) | (with_reducible refine IsSrc.drewN ?_ _) | (with_reducible refine IsSrc.setCell ?_ ?_ ?_ _) | (with_reducible refine IsSrc.kept ?_ (by with_reducible assumption)) | omega | (dsimp only; omega))) (by omega) (by omega)).mono ?_
    rintro e v3 ⟨de, ex, co, fr, hp, rfl, s3, o3⟩
    have o3_c := (ocell o3).1; have o3_f := (ocell o3).2; have o3_z := o3.size; try simp only [World.size_alloc, World.size_setCell, World.size_drew, size_drewN] at o3_c o3_f o3_z
    go_wp2_with fail
    refine (Condition_any w.heap.size _ bs (by repeat (first | (with_reducible assumption) | (with_reducible refine IsSrc.alloc ?_ _) | (with_reducible refine IsSrc.drew ?_) | (with_reducible refine IsSrc.drewN ?_ _) | (with_reducible refine IsSrc.setCell ?_ ?_ ?_ _) | (with_reducible refine IsSrc.kept ?_ (by with_reducible assumption)) | omega | (dsimp only; omega)))).mono ?_
    rintro e v4 ⟨t, q, ht, rfl, s4, o4⟩
    have o4_c := (ocell o4).1; have o4_f := (ocell o4).2; have o4_z := o4.size; try simp only [World.size_alloc, World.size_setCell, World.size_drew, size_drewN] at o4_c o4_f o4_z
    go_wp2_with fail
    refine (N_any w.heap.size _ bs 8 (by repeat (first | (with_reducible assumption) | (with_reducible refine IsSrc.alloc ?_ _) | (with_reducible refine IsSrc.drew ?_) | (with_reducible refine IsSrc.drewN ?_ _) | (with_reducible refine IsSrc.setCell ?_ ?_ ?_ _) | (with_reducible refine IsSrc.kept ?_ (by with_reducible assumption)) | omega | (dsimp only; omega))) (by omega) (by omega)).mono ?_
    rintro e v5 ⟨n, ⟨n0, n1⟩, rfl, s5, o5⟩
    have o5_c := (ocell o5).1; have o5_f := (ocell o5).2; have o5_z := o5.size; try simp only [World.size_alloc, World.size_setCell, World.size_drew, size_drewN] at o5_c o5_f o5_z
    go_wp2_with fail
    have bM : Box v5 v4.heap.size #[.int .i64 p, .int .i64 b, .int .i64 f] := (by repeat (first | (with_reducible assumption) | (with_reducible apply Box.new; first | (with_reducible rfl) | omega | (simp only [World.size_alloc, World.size_setCell, World.size_drew, size_drewN] <;> omega)) | (with_reducible apply Box.old) | (with_reducible apply Box.drew) | (with_reducible apply Box.drewN) | (with_reducible apply Box.set) | (with_reducible apply Box.other) | (with_reducible apply Box.only_ (by with_reducible assumption)) | (with_reducible apply Box.kept_ (by with_reducible assumption)) | (simp only [World.size_alloc, World.size_setCell, World.size_drew, size_drewN]; omega) | omega | (dsimp only; omega) | rfl | (simp; done)))
    have bP : Box v5 (v4.heap.size + 1) #[.string (nmOf ⟨#[112]⟩ 0), .int .i64 de, .int .i64 ex, .int .i64 co, .int .i64 fr] := (by repeat (first | (with_reducible assumption) | (with_reducible apply Box.new; first | (with_reducible rfl) | omega | (simp only [World.size_alloc, World.size_setCell, World.size_drew, size_drewN] <;> omega)) | (with_reducible apply Box.old) | (with_reducible apply Box.drew) | (with_reducible apply Box.drewN) | (with_reducible apply Box.set) | (with_reducible apply Box.other) | (with_reducible apply Box.only_ (by with_reducible assumption)) | (with_reducible apply Box.kept_ (by with_reducible assumption)) | (simp only [World.size_alloc, World.size_setCell, World.size_drew, size_drewN]; omega) | omega | (dsimp only; omega) | rfl | (simp; done)))
    have bC : Box v5 (v4.heap.size + 1 + 1) #[.int .i64 t, .int .i64 q] := (by repeat (first | (with_reducible assumption) | (with_reducible apply Box.new; first | (with_reducible rfl) | omega | (simp only [World.size_alloc, World.size_setCell, World.size_drew, size_drewN] <;> omega)) | (with_reducible apply Box.old) | (with_reducible apply Box.drew) | (with_reducible apply Box.drewN) | (with_reducible apply Box.set) | (with_reducible apply Box.other) | (with_reducible apply Box.only_ (by with_reducible assumption)) | (with_reducible apply Box.kept_ (by with_reducible assumption)) | (simp only [World.size_alloc, World.size_setCell, World.size_drew, size_drewN]; omega) | omega | (dsimp only; omega) | rfl | (simp; done)))
    have bA : Box v5 (v4.heap.size + 1 + 1 + 1) #[.int .i64 0, .int .i64 0] := (by repeat (first | (with_reducible assumption) | (with_reducible apply Box.new; first | (with_reducible rfl) | omega | (simp only [World.size_alloc, World.size_setCell, World.size_drew, size_drewN] <;> omega)) | (with_reducible apply Box.old) | (with_reducible apply Box.drew) | (with_reducible apply Box.drewN) | (with_reducible apply Box.set) | (with_reducible apply Box.other) | (with_reducible apply Box.only_ (by with_reducible assumption)) | (with_reducible apply Box.kept_ (by with_reducible assumption)) | (simp only [World.size_alloc, World.size_setCell, World.size_drew, size_drewN]; omega) | omega | (dsimp only; omega) | rfl | (simp; done)))
    have bB : Box v5 (v4.heap.size + 1 + 1 + 1 + 1) #[.int .i64 0, .int .i64 0] := (by repeat (first | (with_reducible assumption) | (with_reducible apply Box.new; first | (with_reducible rfl) | omega | (simp only [World.size_alloc, World.size_setCell, World.size_drew, size_drewN] <;> omega)) | (with_reducible apply Box.old) | (with_reducible apply Box.drew) | (with_reducible apply Box.drewN) | (with_reducible apply Box.set) | (with_reducible apply Box.other) | (with_reducible apply Box.only_ (by with_reducible assumption)) | (with_reducible apply Box.kept_ (by with_reducible assumption)) | (simp only [World.size_alloc, World.size_setCell, World.size_drew, size_drewN]; omega) | omega | (dsimp only; omega) | rfl | (simp; done)))
    have kw5 : Kept w v5 := Only.kept k1 (o2.trans (o3.trans (o4.trans (by repeat (first | (with_reducible exact Only.refl _ _) | (with_reducible assumption) | (with_reducible refine Only.alloc ?_ _) | (with_reducible refine Only.drew ?_) | (with_reducible refine Only.drewN ?_ _) | (with_reducible refine Only.setCell ?_ ?_ _) | (with_reducible refine Only.trans ?_ (by with_reducible assumption)) | (with_reducible refine Only.trans ?_ (Only.of_kept (by with_reducible assumption))) | (simp only [World.size_alloc, World.size_setCell, World.size_drew, size_drewN]; omega) | omega | (dsimp only; omega)))))) hlt.1
    have hb1 : bs < v4.heap.size := by omega
    have hb2 : w.heap.size ≤ v4.heap.size := by have := k1.size; omega
    have hpo : pOk (nmOf ⟨#[112]⟩ 0) de ex co fr := pOk_made hp
    have hz := pName_size 0
    have HP := Lib.hid hpo
    have HM := Lib.hid hm
    have HT := Lib.hid ht
    obtain ⟨p1, p2, hb, f1, f2⟩ := hm
    have hsl := hsp.lt
    clear F hpo ht hp k1 o2 o2_c o2_f o2_z o3 o3_c o3_f o3_z o4 o4_c o4_f o4_z o5 o5_c o5_f o5_z s1 s2 s3 s4 h
    generalize nmOf ⟨#[112]⟩ 0 = nm at *
    generalize v4.heap.size = M at *
    rcases hb with rfl | rfl
    · go_loopw [9, 10] (fun ts i wr => ∃ T I P : Int, ts = .int .i64 T ∧ i = .int .i64 I ∧ (0 ≤ I ∧ I ≤ 7) ∧ (0 ≤ P ∧ P ≤ T ∧ T - P ≤ 30000 ∧ T ≤ (7 - I) * 30000) ∧ (I = 0 → P = T) ∧ IsSrc w.heap.size wr bs ∧ Kept w wr ∧ Box wr M #[.int .i64 p, .int .i64 16, .int .i64 f] ∧ Box wr (M + 1) #[.string nm, .int .i64 de, .int .i64 ex, .int .i64 co, .int .i64 fr] ∧ Box wr (M + 1 + 1) #[.int .i64 t, .int .i64 q] ∧ Box wr (M + 1 + 1 + 1) #[.int .i64 (T % 65536), .int .i64 T] ∧ Box wr (M + 1 + 1 + 1 + 1) #[.int .i64 (P % 65536), .int .i64 P]) (fun _ i _ => (intOf i).toNat)
      case atStart => exact ⟨0, n, 0, rfl, rfl, ⟨by omega, by omega⟩, ⟨by omega, by omega, by omega, by omega⟩, fun _ => rfl, s5, kw5, bM, bP, bC, by rw [show (0 : Int) % 65536 = 0 from rfl]; exact bA, by rw [show (0 : Int) % 65536 = 0 from rfl]; exact bB⟩
      case round =>
        clear bM bP bC bA bB kw5 s5
        obtain ⟨T, I, P, rfl, rfl, ⟨i0, i1⟩, ⟨P0, P1, P2, T1⟩, hI, s5, kw5, bM, bP, bC, bA, bB⟩ := hrel
        by_cases hi : 0 < I
        · have lM := bM.lt
          have lB := bB.lt
          have cM := bM.cell
          have cA := bA.cell
          have cB := bB.cell
          have cAf := bA.free
          have cBf := bB.free
          clear hI
          go_wp2_with fail
          refine (Pick_any w.heap.size _ bs _ _ _ _ (fun n => 0 ≤ n ∧ n ≤ 30000) (by repeat (first | (with_reducible assumption) | (with_reducible refine IsSrc.alloc ?_ _) | (with_reducible refine IsSrc.drew ?_) | (with_reducible refine IsSrc.drewN ?_ _) | (with_reducible refine IsSrc.setCell ?_ ?_ ?_ _) | (with_reducible refine IsSrc.kept ?_ (by with_reducible assumption)) | omega | (dsimp only; omega))) (by omega) (by omega) (by simp) (by simp; omega) (RowOf.new (by simp) (by simp) (by simp [IntIs]))).mono ?_
          rintro e v6 ⟨r, ⟨r0, r1⟩, rfl, s6, o6⟩
          have o6_c := (ocell o6).1; have o6_f := (ocell o6).2; have o6_z := o6.size; try simp only [World.size_alloc, World.size_setCell, World.size_drew, size_drewN] at o6_c o6_f o6_z
          have kk6 : Kept w v6 := Only.kept (by repeat (first | (with_reducible exact Kept.refl _) | (with_reducible assumption) | (with_reducible refine Kept.alloc ?_ _) | (with_reducible refine Kept.drew ?_) | (with_reducible refine Kept.drewN ?_ _) | (with_reducible refine Kept.setCell ?_ ?_ _) | (with_reducible refine Kept.trans ?_ (by with_reducible assumption)) | (simp only [World.size_alloc, World.size_setCell, World.size_drew, size_drewN]; omega) | omega | (dsimp only; omega))) o6 hlt.1
          go_wp2_with fail
          have z6 := o6.size
          simp only [World.size_alloc] at z6
          have dM : Box v6 M #[.int .i64 p, .int .i64 16, .int .i64 f] := (by repeat (first | (with_reducible assumption) | (with_reducible apply Box.new; first | (with_reducible rfl) | omega | (simp only [World.size_alloc, World.size_setCell, World.size_drew, size_drewN] <;> omega)) | (with_reducible apply Box.old) | (with_reducible apply Box.drew) | (with_reducible apply Box.drewN) | (with_reducible apply Box.set) | (with_reducible apply Box.other) | (with_reducible apply Box.only_ (by with_reducible assumption)) | (with_reducible apply Box.kept_ (by with_reducible assumption)) | (simp only [World.size_alloc, World.size_setCell, World.size_drew, size_drewN]; omega) | omega | (dsimp only; omega) | rfl | (simp; done)))
          have dP : Box v6 (M + 1) #[.string nm, .int .i64 de, .int .i64 ex, .int .i64 co, .int .i64 fr] := (by repeat (first | (with_reducible assumption) | (with_reducible apply Box.new; first | (with_reducible rfl) | omega | (simp only [World.size_alloc, World.size_setCell, World.size_drew, size_drewN] <;> omega)) | (with_reducible apply Box.old) | (with_reducible apply Box.drew) | (with_reducible apply Box.drewN) | (with_reducible apply Box.set) | (with_reducible apply Box.other) | (with_reducible apply Box.only_ (by with_reducible assumption)) | (with_reducible apply Box.kept_ (by with_reducible assumption)) | (simp only [World.size_alloc, World.size_setCell, World.size_drew, size_drewN]; omega) | omega | (dsimp only; omega) | rfl | (simp; done)))
          have dC : Box v6 (M + 1 + 1) #[.int .i64 t, .int .i64 q] := (by repeat (first | (with_reducible assumption) | (with_reducible apply Box.new; first | (with_reducible rfl) | omega | (simp only [World.size_alloc, World.size_setCell, World.size_drew, size_drewN] <;> omega)) | (with_reducible apply Box.old) | (with_reducible apply Box.drew) | (with_reducible apply Box.drewN) | (with_reducible apply Box.set) | (with_reducible apply Box.other) | (with_reducible apply Box.only_ (by with_reducible assumption)) | (with_reducible apply Box.kept_ (by with_reducible assumption)) | (simp only [World.size_alloc, World.size_setCell, World.size_drew, size_drewN]; omega) | omega | (dsimp only; omega) | rfl | (simp; done)))
          have dA : Box v6 (M + 1 + 1 + 1) #[.int .i64 (T % 65536), .int .i64 T] := (by repeat (first | (with_reducible assumption) | (with_reducible apply Box.new; first | (with_reducible rfl) | omega | (simp only [World.size_alloc, World.size_setCell, World.size_drew, size_drewN] <;> omega)) | (with_reducible apply Box.old) | (with_reducible apply Box.drew) | (with_reducible apply Box.drewN) | (with_reducible apply Box.set) | (with_reducible apply Box.other) | (with_reducible apply Box.only_ (by with_reducible assumption)) | (with_reducible apply Box.kept_ (by with_reducible assumption)) | (simp only [World.size_alloc, World.size_setCell, World.size_drew, size_drewN]; omega) | omega | (dsimp only; omega) | rfl | (simp; done)))
          have dB : Box v6 (M + 1 + 1 + 1 + 1) #[.int .i64 (P % 65536), .int .i64 P] := (by repeat (first | (with_reducible assumption) | (with_reducible apply Box.new; first | (with_reducible rfl) | omega | (simp only [World.size_alloc, World.size_setCell, World.size_drew, size_drewN] <;> omega)) | (with_reducible apply Box.old) | (with_reducible apply Box.drew) | (with_reducible apply Box.drewN) | (with_reducible apply Box.set) | (with_reducible apply Box.other) | (with_reducible apply Box.only_ (by with_reducible assumption)) | (with_reducible apply Box.kept_ (by with_reducible assumption)) | (simp only [World.size_alloc, World.size_setCell, World.size_drew, size_drewN]; omega) | omega | (dsimp only; omega) | rfl | (simp; done)))
          have RD := Lib.hid (fun W => refRead_ok p 16 f (T % 65536) T ((T + r) % 65536) (T + r) W HM.out (cOk_mod (b := 16) (by omega) (by omega)) (mRd_mod (b := 16)) (by rw [show mStep 16 (T % 65536) ((T + r) % 65536) = T + r - T from step_mod (b := 16) (.inl rfl) (by omega) (by omega) (by omega)]; omega) (by omega))
          have RB := Lib.hid (fun W => refRead_ok p 16 f (P % 65536) P ((T + r) % 65536) (T + r) W HM.out (cOk_mod (b := 16) (by omega) (by omega)) (mRd_mod (b := 16)) (by rw [show mStep 16 (P % 65536) ((T + r) % 65536) = T + r - P from step_mod (b := 16) (.inl rfl) (by omega) (by omega) (by omega)]; omega) (by omega))
          clear bM bP bC bA bB cM cA cB cAf cBf kw5 s5 o6 o6_c o6_f o6_z
          have ws : wrap64 65536 = 65536 := by unfold wrap64; omega
          have tm : (T + r).tmod 65536 = (T + r) % 65536 := Int.tmod_eq_emod_of_nonneg (by omega)
          have um0 : 0 ≤ (T + r) % 65536 := Int.emod_nonneg _ (by omega)
          have um1 : (T + r) % 65536 < 65536 := Int.emod_lt_of_pos _ (by omega)
          have wm : IntKind.i64.wrap ((T + r) % 65536) = (T + r) % 65536 := IntWalk.i64_in _ (by omega)
          go_cut [11, 12] (fun s e wx => ∃ g : Nat, s = .pointer (some ⟨g, 0, none⟩) ∧ e = .int .i64 0 ∧ v6.heap.size ≤ g ∧ Box wx g #[.int .i64 ((T + r) % 65536), .int .i64 (T + r)] ∧ Kept v6 wx)
          case first =>
            have lM := dM.lt
            have lA := dA.lt
            go_region_held (fun w' => (w'.cell? ⟨M, 0, none⟩ = some (.int .i64 p) ∧ w'.cell? ⟨M, 1, none⟩ = some (.int .i64 16) ∧ w'.cell? ⟨M, 2, none⟩ = some (.int .i64 f)) ∧ w'.cell? ⟨M + 1 + 1 + 1, 0, none⟩ = some (.int .i64 (T % 65536)) ∧ w'.cell? ⟨M + 1 + 1 + 1, 1, none⟩ = some (.int .i64 T)) (exact box23 (by repeat (first | (with_reducible assumption) | (with_reducible apply Box.new; first | (with_reducible rfl) | omega | (simp only [World.size_alloc, World.size_setCell, World.size_drew, size_drewN] <;> omega)) | (with_reducible apply Box.old) | (with_reducible apply Box.drew) | (with_reducible apply Box.drewN) | (with_reducible apply Box.set) | (with_reducible apply Box.other) | (with_reducible apply Box.only_ (by with_reducible assumption)) | (with_reducible apply Box.kept_ (by with_reducible assumption)) | (simp only [World.size_alloc, World.size_setCell, World.size_drew, size_drewN]; omega) | omega | (dsimp only; omega) | rfl | (simp; done))) (by repeat (first | (with_reducible assumption) | (with_reducible apply Box.new; first | (with_reducible rfl) | omega | (simp only [World.size_alloc, World.size_setCell, World.size_drew, size_drewN] <;> omega)) | (with_reducible apply Box.old) | (with_reducible apply Box.drew) | (with_reducible apply Box.drewN) | (with_reducible apply Box.set) | (with_reducible apply Box.other) | (with_reducible apply Box.only_ (by with_reducible assumption)) | (with_reducible apply Box.kept_ (by with_reducible assumption)) | (simp only [World.size_alloc, World.size_setCell, World.size_drew, size_drewN]; omega) | omega | (dsimp only; omega) | rfl | (simp; done))))
              ((go_at_call 15; refine (RD.out _).mono ?_; rintro e v7 ⟨rfl, c7⟩; have z7 := c7.size; (try simp only [World.size_alloc, World.size_drew] at z7); have c7_c := (kcell c7).1; have c7_f := (kcell c7).2; have c7_z := c7.size; try simp only [World.size_alloc, World.size_setCell, World.size_drew, size_drewN] at c7_c c7_f c7_z))
            all_goals
              go_wp2_with fail
              go_meet
              exact ⟨_, rfl, rfl, by first | omega | (simp only [World.size_alloc, World.size_drew]; omega), (by repeat (first | (with_reducible assumption) | (with_reducible apply Box.new; first | (with_reducible rfl) | omega | (simp only [World.size_alloc, World.size_setCell, World.size_drew, size_drewN] <;> omega)) | (with_reducible apply Box.old) | (with_reducible apply Box.drew) | (with_reducible apply Box.drewN) | (with_reducible apply Box.set) | (with_reducible apply Box.other) | (with_reducible apply Box.only_ (by with_reducible assumption)) | (with_reducible apply Box.kept_ (by with_reducible assumption)) | (simp only [World.size_alloc, World.size_setCell, World.size_drew, size_drewN]; omega) | omega | (dsimp only; omega) | rfl | (simp; done))), (by repeat (first | (with_reducible exact Kept.refl _) | (with_reducible assumption) | (with_reducible refine Kept.alloc ?_ _) | (with_reducible refine Kept.drew ?_) | (with_reducible refine Kept.drewN ?_ _) | (with_reducible refine Kept.setCell ?_ ?_ _) | (with_reducible refine Kept.trans ?_ (by with_reducible assumption)) | (simp only [World.size_alloc, World.size_setCell, World.size_drew, size_drewN]; omega) | omega | (dsimp only; omega)))⟩
          case rest =>
            obtain ⟨g, rfl, rfl, hg, bG, kA⟩ := hcut
            obtain ⟨wo, rfl⟩ : ∃ wo, wo = wc := ⟨_, rfl⟩
            have hzo := kA.size
            have eM := dM.kept kA
            have eP := dP.kept kA
            have eC := dC.kept kA
            have eA := dA.kept kA
            have eB := dB.kept kA
            have kko := kk6.trans kA
            have so := s6.kept kA
            clear dM dP dC dA dB kk6 s6 RD kA
            have cG := bG.cell
            have lG := bG.lt
            have cA := eA.cell
            have cAf := eA.free
            have lA := eA.lt
            have lB := eB.lt
            go_wp2_with fail
            refine (N_any w.heap.size _ bs 2 (by repeat (first | (with_reducible assumption) | (with_reducible refine IsSrc.alloc ?_ _) | (with_reducible refine IsSrc.drew ?_) | (with_reducible refine IsSrc.drewN ?_ _) | (with_reducible refine IsSrc.setCell ?_ ?_ ?_ _) | (with_reducible refine IsSrc.kept ?_ (by with_reducible assumption)) | omega | (dsimp only; omega))) (by omega) (by omega)).mono ?_
            rintro e v8 ⟨y, ⟨y0, y1⟩, rfl, s8, o8⟩
            have o8_c := (ocell o8).1; have o8_f := (ocell o8).2; have o8_z := o8.size; try simp only [World.size_alloc, World.size_setCell, World.size_drew, size_drewN] at o8_c o8_f o8_z
            have kk8 : Kept w v8 := Only.kept (by repeat (first | (with_reducible exact Kept.refl _) | (with_reducible assumption) | (with_reducible refine Kept.alloc ?_ _) | (with_reducible refine Kept.drew ?_) | (with_reducible refine Kept.drewN ?_ _) | (with_reducible refine Kept.setCell ?_ ?_ _) | (with_reducible refine Kept.trans ?_ (by with_reducible assumption)) | (simp only [World.size_alloc, World.size_setCell, World.size_drew, size_drewN]; omega) | omega | (dsimp only; omega))) o8 hlt.1
            have z8 := o8.size
            simp only [World.size_setCell, World.size_alloc] at z8
            have fM : Box v8 M #[.int .i64 p, .int .i64 16, .int .i64 f] := (by repeat (first | (with_reducible assumption) | (with_reducible apply Box.new; first | (with_reducible rfl) | omega | (simp only [World.size_alloc, World.size_setCell, World.size_drew, size_drewN] <;> omega)) | (with_reducible apply Box.old) | (with_reducible apply Box.drew) | (with_reducible apply Box.drewN) | (with_reducible apply Box.set) | (with_reducible apply Box.other) | (with_reducible apply Box.only_ (by with_reducible assumption)) | (with_reducible apply Box.kept_ (by with_reducible assumption)) | (simp only [World.size_alloc, World.size_setCell, World.size_drew, size_drewN]; omega) | omega | (dsimp only; omega) | rfl | (simp; done)))
            have fP : Box v8 (M + 1) #[.string nm, .int .i64 de, .int .i64 ex, .int .i64 co, .int .i64 fr] := (by repeat (first | (with_reducible assumption) | (with_reducible apply Box.new; first | (with_reducible rfl) | omega | (simp only [World.size_alloc, World.size_setCell, World.size_drew, size_drewN] <;> omega)) | (with_reducible apply Box.old) | (with_reducible apply Box.drew) | (with_reducible apply Box.drewN) | (with_reducible apply Box.set) | (with_reducible apply Box.other) | (with_reducible apply Box.only_ (by with_reducible assumption)) | (with_reducible apply Box.kept_ (by with_reducible assumption)) | (simp only [World.size_alloc, World.size_setCell, World.size_drew, size_drewN]; omega) | omega | (dsimp only; omega) | rfl | (simp; done)))
            have fC : Box v8 (M + 1 + 1) #[.int .i64 t, .int .i64 q] := (by repeat (first | (with_reducible assumption) | (with_reducible apply Box.new; first | (with_reducible rfl) | omega | (simp only [World.size_alloc, World.size_setCell, World.size_drew, size_drewN] <;> omega)) | (with_reducible apply Box.old) | (with_reducible apply Box.drew) | (with_reducible apply Box.drewN) | (with_reducible apply Box.set) | (with_reducible apply Box.other) | (with_reducible apply Box.only_ (by with_reducible assumption)) | (with_reducible apply Box.kept_ (by with_reducible assumption)) | (simp only [World.size_alloc, World.size_setCell, World.size_drew, size_drewN]; omega) | omega | (dsimp only; omega) | rfl | (simp; done)))
            have fA : Box v8 (M + 1 + 1 + 1) #[.int .i64 ((T + r) % 65536), .int .i64 (T + r)] := (by repeat (first | (with_reducible assumption) | (with_reducible apply Box.new; first | (with_reducible rfl) | omega | (simp only [World.size_alloc, World.size_setCell, World.size_drew, size_drewN] <;> omega)) | (with_reducible apply Box.old) | (with_reducible apply Box.drew) | (with_reducible apply Box.drewN) | (with_reducible apply Box.set) | (with_reducible apply Box.other) | (with_reducible apply Box.only_ (by with_reducible assumption)) | (with_reducible apply Box.kept_ (by with_reducible assumption)) | (simp only [World.size_alloc, World.size_setCell, World.size_drew, size_drewN]; omega) | omega | (dsimp only; omega) | rfl | (simp; done)))
            have fB : Box v8 (M + 1 + 1 + 1 + 1) #[.int .i64 (P % 65536), .int .i64 P] := (by repeat (first | (with_reducible assumption) | (with_reducible apply Box.new; first | (with_reducible rfl) | omega | (simp only [World.size_alloc, World.size_setCell, World.size_drew, size_drewN] <;> omega)) | (with_reducible apply Box.old) | (with_reducible apply Box.drew) | (with_reducible apply Box.drewN) | (with_reducible apply Box.set) | (with_reducible apply Box.other) | (with_reducible apply Box.only_ (by with_reducible assumption)) | (with_reducible apply Box.kept_ (by with_reducible assumption)) | (simp only [World.size_alloc, World.size_setCell, World.size_drew, size_drewN]; omega) | omega | (dsimp only; omega) | rfl | (simp; done)))
            clear eM eP eC eA eB kko so cG cA cAf lA lB bG lG o8_c o8_f o8_z o8
            have cB := fB.cell
            have cBf := fB.free
            have lB := fB.lt
            have lM := fM.lt
            have hcase : ((y = 0) ∨ (y = 1 ∧ 30000 < (T + r) - P) ∨ (y = 1 ∧ (T + r) - P ≤ 30000 ∧ I = 1)) ∨ (y = 1 ∧ (T + r) - P ≤ 30000 ∧ 1 < I) := by omega
            rcases hcase with h3 | ⟨rfl, q1, q2⟩
            · rcases h3 with rfl | ⟨rfl, q1⟩ | ⟨rfl, q1, rfl⟩
              all_goals
                go_wp2_with fail
                go_cut [13, 14] (fun s e wx => ∃ g : Nat, s = .pointer (some ⟨g, 0, none⟩) ∧ e = .int .i64 0 ∧ v8.heap.size ≤ g ∧ Box wx g #[.int .i64 ((T + r) % 65536), .int .i64 (T + r)] ∧ Kept v8 wx)
                case first =>
                  go_region_held (fun w' => (w'.cell? ⟨M, 0, none⟩ = some (.int .i64 p) ∧ w'.cell? ⟨M, 1, none⟩ = some (.int .i64 16) ∧ w'.cell? ⟨M, 2, none⟩ = some (.int .i64 f)) ∧ w'.cell? ⟨M + 1 + 1 + 1 + 1, 0, none⟩ = some (.int .i64 (P % 65536)) ∧ w'.cell? ⟨M + 1 + 1 + 1 + 1, 1, none⟩ = some (.int .i64 P)) (exact box23 (by repeat (first | (with_reducible assumption) | (with_reducible apply Box.new; first | (with_reducible rfl) | omega | (simp only [World.size_alloc, World.size_setCell, World.size_drew, size_drewN] <;> omega)) | (with_reducible apply Box.old) | (with_reducible apply Box.drew) | (with_reducible apply Box.drewN) | (with_reducible apply Box.set) | (with_reducible apply Box.other) | (with_reducible apply Box.only_ (by with_reducible assumption)) | (with_reducible apply Box.kept_ (by with_reducible assumption)) | (simp only [World.size_alloc, World.size_setCell, World.size_drew, size_drewN]; omega) | omega | (dsimp only; omega) | rfl | (simp; done))) (by repeat (first | (with_reducible assumption) | (with_reducible apply Box.new; first | (with_reducible rfl) | omega | (simp only [World.size_alloc, World.size_setCell, World.size_drew, size_drewN] <;> omega)) | (with_reducible apply Box.old) | (with_reducible apply Box.drew) | (with_reducible apply Box.drewN) | (with_reducible apply Box.set) | (with_reducible apply Box.other) | (with_reducible apply Box.only_ (by with_reducible assumption)) | (with_reducible apply Box.kept_ (by with_reducible assumption)) | (simp only [World.size_alloc, World.size_setCell, World.size_drew, size_drewN]; omega) | omega | (dsimp only; omega) | rfl | (simp; done))))
                    ((go_at_call 15; refine (RB.out _).mono ?_; rintro e v7 ⟨rfl, c7⟩; have z7 := c7.size; (try simp only [World.size_alloc, World.size_drew] at z7); have c7_c := (kcell c7).1; have c7_f := (kcell c7).2; have c7_z := c7.size; try simp only [World.size_alloc, World.size_setCell, World.size_drew, size_drewN] at c7_c c7_f c7_z))
                  all_goals
                    go_wp2_with fail
                    go_meet
                    exact ⟨_, rfl, rfl, by first | omega | (simp only [World.size_alloc, World.size_drew]; omega), (by repeat (first | (with_reducible assumption) | (with_reducible apply Box.new; first | (with_reducible rfl) | omega | (simp only [World.size_alloc, World.size_setCell, World.size_drew, size_drewN] <;> omega)) | (with_reducible apply Box.old) | (with_reducible apply Box.drew) | (with_reducible apply Box.drewN) | (with_reducible apply Box.set) | (with_reducible apply Box.other) | (with_reducible apply Box.only_ (by with_reducible assumption)) | (with_reducible apply Box.kept_ (by with_reducible assumption)) | (simp only [World.size_alloc, World.size_setCell, World.size_drew, size_drewN]; omega) | omega | (dsimp only; omega) | rfl | (simp; done))), (by repeat (first | (with_reducible exact Kept.refl _) | (with_reducible assumption) | (with_reducible refine Kept.alloc ?_ _) | (with_reducible refine Kept.drew ?_) | (with_reducible refine Kept.drewN ?_ _) | (with_reducible refine Kept.setCell ?_ ?_ _) | (with_reducible refine Kept.trans ?_ (by with_reducible assumption)) | (simp only [World.size_alloc, World.size_setCell, World.size_drew, size_drewN]; omega) | omega | (dsimp only; omega)))⟩
                case rest =>
                  obtain ⟨g', rfl, rfl, hg', bG, kA⟩ := hcut
                  obtain ⟨wo, rfl⟩ : ∃ wo, wo = wc := ⟨_, rfl⟩
                  have hzo := kA.size
                  have eB := fB.kept kA
                  have cG := bG.cell
                  have lG := bG.lt
                  have dB := eB.cell
                  have dBf := eB.free
                  have lB' := eB.lt
                  go_wp2
                  go_roundw
                  case rel => exact ⟨T + r, _, T + r, rfl, rfl, ⟨by omega, by omega⟩, ⟨by omega, by omega, by omega, by omega⟩, fun _ => rfl, (by repeat (first | (with_reducible assumption) | (with_reducible refine IsSrc.alloc ?_ _) | (with_reducible refine IsSrc.drew ?_) | (with_reducible refine IsSrc.drewN ?_ _) | (with_reducible refine IsSrc.setCell ?_ ?_ ?_ _) | (with_reducible refine IsSrc.kept ?_ (by with_reducible assumption)) | omega | (dsimp only; omega))), (by repeat (first | (with_reducible exact Kept.refl _) | (with_reducible assumption) | (with_reducible refine Kept.alloc ?_ _) | (with_reducible refine Kept.drew ?_) | (with_reducible refine Kept.drewN ?_ _) | (with_reducible refine Kept.setCell ?_ ?_ _) | (with_reducible refine Kept.trans ?_ (by with_reducible assumption)) | (simp only [World.size_alloc, World.size_setCell, World.size_drew, size_drewN]; omega) | omega | (dsimp only; omega))), (by repeat (first | (with_reducible assumption) | (with_reducible apply Box.new; first | (with_reducible rfl) | omega | (simp only [World.size_alloc, World.size_setCell, World.size_drew, size_drewN] <;> omega)) | (with_reducible apply Box.old) | (with_reducible apply Box.drew) | (with_reducible apply Box.drewN) | (with_reducible apply Box.set) | (with_reducible apply Box.other) | (with_reducible apply Box.only_ (by with_reducible assumption)) | (with_reducible apply Box.kept_ (by with_reducible assumption)) | (simp only [World.size_alloc, World.size_setCell, World.size_drew, size_drewN]; omega) | omega | (dsimp only; omega) | rfl | (simp; done))), (by repeat (first | (with_reducible assumption) | (with_reducible apply Box.new; first | (with_reducible rfl) | omega | (simp only [World.size_alloc, World.size_setCell, World.size_drew, size_drewN] <;> omega)) | (with_reducible apply Box.old) | (with_reducible apply Box.drew) | (with_reducible apply Box.drewN) | (with_reducible apply Box.set) | (with_reducible apply Box.other) | (with_reducible apply Box.only_ (by with_reducible assumption)) | (with_reducible apply Box.kept_ (by with_reducible assumption)) | (simp only [World.size_alloc, World.size_setCell, World.size_drew, size_drewN]; omega) | omega | (dsimp only; omega) | rfl | (simp; done))), (by repeat (first | (with_reducible assumption) | (with_reducible apply Box.new; first | (with_reducible rfl) | omega | (simp only [World.size_alloc, World.size_setCell, World.size_drew, size_drewN] <;> omega)) | (with_reducible apply Box.old) | (with_reducible apply Box.drew) | (with_reducible apply Box.drewN) | (with_reducible apply Box.set) | (with_reducible apply Box.other) | (with_reducible apply Box.only_ (by with_reducible assumption)) | (with_reducible apply Box.kept_ (by with_reducible assumption)) | (simp only [World.size_alloc, World.size_setCell, World.size_drew, size_drewN]; omega) | omega | (dsimp only; omega) | rfl | (simp; done))), (by repeat (first | (with_reducible assumption) | (with_reducible apply Box.new; first | (with_reducible rfl) | omega | (simp only [World.size_alloc, World.size_setCell, World.size_drew, size_drewN] <;> omega)) | (with_reducible apply Box.old) | (with_reducible apply Box.drew) | (with_reducible apply Box.drewN) | (with_reducible apply Box.set) | (with_reducible apply Box.other) | (with_reducible apply Box.only_ (by with_reducible assumption)) | (with_reducible apply Box.kept_ (by with_reducible assumption)) | (simp only [World.size_alloc, World.size_setCell, World.size_drew, size_drewN]; omega) | omega | (dsimp only; omega) | rfl | (simp; done))), (by repeat (first | (with_reducible assumption) | (with_reducible apply Box.new; first | (with_reducible rfl) | omega | (simp only [World.size_alloc, World.size_setCell, World.size_drew, size_drewN] <;> omega)) | (with_reducible apply Box.old) | (with_reducible apply Box.drew) | (with_reducible apply Box.drewN) | (with_reducible apply Box.set) | (with_reducible apply Box.other) | (with_reducible apply Box.only_ (by with_reducible assumption)) | (with_reducible apply Box.kept_ (by with_reducible assumption)) | (simp only [World.size_alloc, World.size_setCell, World.size_drew, size_drewN]; omega) | omega | (dsimp only; omega) | rfl | (simp; done)))⟩
                  case measure => simp [intOf] <;> omega
            · have q3 : (I == 1) = false := by rw [beq_eq_false_iff_ne]; omega
              have q4 : decide (I = 1) = false := decide_eq_false (by omega)
              have q5 : decide (30000 < T + r - P) = false := decide_eq_false (by omega)
              go_wp2_with fail
              all_goals first
                | exact ⟨⟨T + r, _, P, rfl, rfl, ⟨by omega, by omega⟩, ⟨by omega, by omega, by omega, by omega⟩, fun h => absurd h (by omega), (by repeat (first | (with_reducible assumption) | (with_reducible refine IsSrc.alloc ?_ _) | (with_reducible refine IsSrc.drew ?_) | (with_reducible refine IsSrc.drewN ?_ _) | (with_reducible refine IsSrc.setCell ?_ ?_ ?_ _) | (with_reducible refine IsSrc.kept ?_ (by with_reducible assumption)) | omega | (dsimp only; omega))), (by repeat (first | (with_reducible exact Kept.refl _) | (with_reducible assumption) | (with_reducible refine Kept.alloc ?_ _) | (with_reducible refine Kept.drew ?_) | (with_reducible refine Kept.drewN ?_ _) | (with_reducible refine Kept.setCell ?_ ?_ _) | (with_reducible refine Kept.trans ?_ (by with_reducible assumption)) | (simp only [World.size_alloc, World.size_setCell, World.size_drew, size_drewN]; omega) | omega | (dsimp only; omega))), (by repeat (first | (with_reducible assumption) | (with_reducible apply Box.new; first | (with_reducible rfl) | omega | (simp only [World.size_alloc, World.size_setCell, World.size_drew, size_drewN] <;> omega)) | (with_reducible apply Box.old) | (with_reducible apply Box.drew) | (with_reducible apply Box.drewN) | (with_reducible apply Box.set) | (with_reducible apply Box.other) | (with_reducible apply Box.only_ (by with_reducible assumption)) | (with_reducible apply Box.kept_ (by with_reducible assumption)) | (simp only [World.size_alloc, World.size_setCell, World.size_drew, size_drewN]; omega) | omega | (dsimp only; omega) | rfl | (simp; done))), (by repeat (first | (with_reducible assumption) | (with_reducible apply Box.new; first | (with_reducible rfl) | omega | (simp only [World.size_alloc, World.size_setCell, World.size_drew, size_drewN] <;> omega)) | (with_reducible apply Box.old) | (with_reducible apply Box.drew) | (with_reducible apply Box.drewN) | (with_reducible apply Box.set) | (with_reducible apply Box.other) | (with_reducible apply Box.only_ (by with_reducible assumption)) | (with_reducible apply Box.kept_ (by with_reducible assumption)) | (simp only [World.size_alloc, World.size_setCell, World.size_drew, size_drewN]; omega) | omega | (dsimp only; omega) | rfl | (simp; done))), (by repeat (first | (with_reducible assumption) | (with_reducible apply Box.new; first | (with_reducible rfl) | omega | (simp only [World.size_alloc, World.size_setCell, World.size_drew, size_drewN] <;> omega)) | (with_reducible apply Box.old) | (with_reducible apply Box.drew) | (with_reducible apply Box.drewN) | (with_reducible apply Box.set) | (with_reducible apply Box.other) | (with_reducible apply Box.only_ (by with_reducible assumption)) | (with_reducible apply Box.kept_ (by with_reducible assumption)) | (simp only [World.size_alloc, World.size_setCell, World.size_drew, size_drewN]; omega) | omega | (dsimp only; omega) | rfl | (simp; done))), (by repeat (first | (with_reducible assumption) | (with_reducible apply Box.new; first | (with_reducible rfl) | omega | (simp only [World.size_alloc, World.size_setCell, World.size_drew, size_drewN] <;> omega)) | (with_reducible apply Box.old) | (with_reducible apply Box.drew) | (with_reducible apply Box.drewN) | (with_reducible apply Box.set) | (with_reducible apply Box.other) | (with_reducible apply Box.only_ (by with_reducible assumption)) | (with_reducible apply Box.kept_ (by with_reducible assumption)) | (simp only [World.size_alloc, World.size_setCell, World.size_drew, size_drewN]; omega) | omega | (dsimp only; omega) | rfl | (simp; done))), (by repeat (first | (with_reducible assumption) | (with_reducible apply Box.new; first | (with_reducible rfl) | omega | (simp only [World.size_alloc, World.size_setCell, World.size_drew, size_drewN] <;> omega)) | (with_reducible apply Box.old) | (with_reducible apply Box.drew) | (with_reducible apply Box.drewN) | (with_reducible apply Box.set) | (with_reducible apply Box.other) | (with_reducible apply Box.only_ (by with_reducible assumption)) | (with_reducible apply Box.kept_ (by with_reducible assumption)) | (simp only [World.size_alloc, World.size_setCell, World.size_drew, size_drewN]; omega) | omega | (dsimp only; omega) | rfl | (simp; done)))⟩, by simp [intOf] <;> omega⟩
                | (trace_state; exfalso; omega)
        · obtain rfl : I = 0 := by omega
          obtain rfl : P = T := hI rfl
          have TK : TkOk p 16 f nm de ex co fr 1 0 0 (P % 65536) P t q := ⟨hz, HM.out, HP.out, by omega, ⟨⟨by omega, by have := mSpan_bd 16; omega⟩, by omega, by omega⟩, cOk_mod (b := 16) (by omega) (by omega), by omega, HT.out, gr_small p1 (by omega) f2 (by omega) (by omega) (by omega)⟩
          have MK := Lib.hid (fun W k => Make_ok p 16 f nm de ex co fr 1 0 0 (P % 65536) P t q W k TK)
          have CK := Lib.hid (fun W k => Check_ok p 16 f nm de ex co fr 1 0 0 (P % 65536) P t q W k TK)
          clear TK
          generalize tV p f 0 P ex co t q = V at *
          have cM := bM.cell
          have cP := bP.cell
          have cC := bC.cell
          have cA := bA.cell
          have cB := bB.cell
          have lM := bM.lt
          have lB := bB.lt
          go_wp2_with fail
          refine (MK.out _ (Box.kept hsp (by repeat (first | (with_reducible exact Kept.refl _) | (with_reducible assumption) | (with_reducible refine Kept.alloc ?_ _) | (with_reducible refine Kept.drew ?_) | (with_reducible refine Kept.drewN ?_ _) | (with_reducible refine Kept.setCell ?_ ?_ _) | (with_reducible refine Kept.trans ?_ (by with_reducible assumption)) | (simp only [World.size_alloc, World.size_setCell, World.size_drew, size_drewN]; omega) | omega | (dsimp only; omega))))).mono ?_
          rintro e v6 ⟨rfl, c6⟩
          have c6_c := (kcell c6).1; have c6_f := (kcell c6).2; have c6_z := c6.size; try simp only [World.size_alloc, World.size_setCell, World.size_drew, size_drewN] at c6_c c6_f c6_z
          go_wp2_with fail
          refine (MK.out _ (Box.kept hsp (by repeat (first | (with_reducible exact Kept.refl _) | (with_reducible assumption) | (with_reducible refine Kept.alloc ?_ _) | (with_reducible refine Kept.drew ?_) | (with_reducible refine Kept.drewN ?_ _) | (with_reducible refine Kept.setCell ?_ ?_ _) | (with_reducible refine Kept.trans ?_ (by with_reducible assumption)) | (simp only [World.size_alloc, World.size_setCell, World.size_drew, size_drewN]; omega) | omega | (dsimp only; omega))))).mono ?_
          rintro e v7 ⟨rfl, c7⟩
          have c7_c := (kcell c7).1; have c7_f := (kcell c7).2; have c7_z := c7.size; try simp only [World.size_alloc, World.size_setCell, World.size_drew, size_drewN] at c7_c c7_f c7_z
          go_wp2_with fail
          refine (CK.out _ (Box.kept hsp (by repeat (first | (with_reducible exact Kept.refl _) | (with_reducible assumption) | (with_reducible refine Kept.alloc ?_ _) | (with_reducible refine Kept.drew ?_) | (with_reducible refine Kept.drewN ?_ _) | (with_reducible refine Kept.setCell ?_ ?_ _) | (with_reducible refine Kept.trans ?_ (by with_reducible assumption)) | (simp only [World.size_alloc, World.size_setCell, World.size_drew, size_drewN]; omega) | omega | (dsimp only; omega))))).mono ?_
          rintro e v8 ⟨rfl, c8⟩
          have c8_c := (kcell c8).1; have c8_f := (kcell c8).2; have c8_z := c8.size; try simp only [World.size_alloc, World.size_setCell, World.size_drew, size_drewN] at c8_c c8_f c8_z
          go_wp2_with fail
          refine (tkAwake _ (Box.kept hsp (by repeat (first | (with_reducible exact Kept.refl _) | (with_reducible assumption) | (with_reducible refine Kept.alloc ?_ _) | (with_reducible refine Kept.drew ?_) | (with_reducible refine Kept.drewN ?_ _) | (with_reducible refine Kept.setCell ?_ ?_ _) | (with_reducible refine Kept.trans ?_ (by with_reducible assumption)) | (simp only [World.size_alloc, World.size_setCell, World.size_drew, size_drewN]; omega) | omega | (dsimp only; omega))))).mono ?_
          rintro e v9 ⟨rfl, c9⟩
          have c9_c := (kcell c9).1; have c9_f := (kcell c9).2; have c9_z := c9.size; try simp only [World.size_alloc, World.size_setCell, World.size_drew, size_drewN] at c9_c c9_f c9_z
          go_wp2
          go_ret
          exact ⟨rfl, (by repeat (first | (with_reducible exact Kept.refl _) | (with_reducible assumption) | (with_reducible refine Kept.alloc ?_ _) | (with_reducible refine Kept.drew ?_) | (with_reducible refine Kept.drewN ?_ _) | (with_reducible refine Kept.setCell ?_ ?_ _) | (with_reducible refine Kept.trans ?_ (by with_reducible assumption)) | (simp only [World.size_alloc, World.size_setCell, World.size_drew, size_drewN]; omega) | omega | (dsimp only; omega)))⟩
    · go_loopw [9, 10] (fun ts i wr => ∃ T I P : Int, ts = .int .i64 T ∧ i = .int .i64 I ∧ (0 ≤ I ∧ I ≤ 7) ∧ (0 ≤ P ∧ P ≤ T ∧ T - P ≤ 30000 ∧ T ≤ (7 - I) * 30000) ∧ (I = 0 → P = T) ∧ IsSrc w.heap.size wr bs ∧ Kept w wr ∧ Box wr M #[.int .i64 p, .int .i64 32, .int .i64 f] ∧ Box wr (M + 1) #[.string nm, .int .i64 de, .int .i64 ex, .int .i64 co, .int .i64 fr] ∧ Box wr (M + 1 + 1) #[.int .i64 t, .int .i64 q] ∧ Box wr (M + 1 + 1 + 1) #[.int .i64 (T % 4294967296), .int .i64 T] ∧ Box wr (M + 1 + 1 + 1 + 1) #[.int .i64 (P % 4294967296), .int .i64 P]) (fun _ i _ => (intOf i).toNat)
      case atStart => exact ⟨0, n, 0, rfl, rfl, ⟨by omega, by omega⟩, ⟨by omega, by omega, by omega, by omega⟩, fun _ => rfl, s5, kw5, bM, bP, bC, by rw [show (0 : Int) % 4294967296 = 0 from rfl]; exact bA, by rw [show (0 : Int) % 4294967296 = 0 from rfl]; exact bB⟩
      case round =>
        clear bM bP bC bA bB kw5 s5
        obtain ⟨T, I, P, rfl, rfl, ⟨i0, i1⟩, ⟨P0, P1, P2, T1⟩, hI, s5, kw5, bM, bP, bC, bA, bB⟩ := hrel
        by_cases hi : 0 < I
        · have lM := bM.lt
          have lB := bB.lt
          have cM := bM.cell
          have cA := bA.cell
          have cB := bB.cell
          have cAf := bA.free
          have cBf := bB.free
          clear hI
          go_wp2_with fail
          refine (Pick_any w.heap.size _ bs _ _ _ _ (fun n => 0 ≤ n ∧ n ≤ 30000) (by repeat (first | (with_reducible assumption) | (with_reducible refine IsSrc.alloc ?_ _) | (with_reducible refine IsSrc.drew ?_) | (with_reducible refine IsSrc.drewN ?_ _) | (with_reducible refine IsSrc.setCell ?_ ?_ ?_ _) | (with_reducible refine IsSrc.kept ?_ (by with_reducible assumption)) | omega | (dsimp only; omega))) (by omega) (by omega) (by simp) (by simp; omega) (RowOf.new (by simp) (by simp) (by simp [IntIs]))).mono ?_
          rintro e v6 ⟨r, ⟨r0, r1⟩, rfl, s6, o6⟩
          have o6_c := (ocell o6).1; have o6_f := (ocell o6).2; have o6_z := o6.size; try simp only [World.size_alloc, World.size_setCell, World.size_drew, size_drewN] at o6_c o6_f o6_z
          have kk6 : Kept w v6 := Only.kept (by repeat (first | (with_reducible exact Kept.refl _) | (with_reducible assumption) | (with_reducible refine Kept.alloc ?_ _) | (with_reducible refine Kept.drew ?_) | (with_reducible refine Kept.drewN ?_ _) | (with_reducible refine Kept.setCell ?_ ?_ _) | (with_reducible refine Kept.trans ?_ (by with_reducible assumption)) | (simp only [World.size_alloc, World.size_setCell, World.size_drew, size_drewN]; omega) | omega | (dsimp only; omega))) o6 hlt.1
          go_wp2_with fail
          have z6 := o6.size
          simp only [World.size_alloc] at z6
          have dM : Box v6 M #[.int .i64 p, .int .i64 32, .int .i64 f] := (by repeat (first | (with_reducible assumption) | (with_reducible apply Box.new; first | (with_reducible rfl) | omega | (simp only [World.size_alloc, World.size_setCell, World.size_drew, size_drewN] <;> omega)) | (with_reducible apply Box.old) | (with_reducible apply Box.drew) | (with_reducible apply Box.drewN) | (with_reducible apply Box.set) | (with_reducible apply Box.other) | (with_reducible apply Box.only_ (by with_reducible assumption)) | (with_reducible apply Box.kept_ (by with_reducible assumption)) | (simp only [World.size_alloc, World.size_setCell, World.size_drew, size_drewN]; omega) | omega | (dsimp only; omega) | rfl | (simp; done)))
          have dP : Box v6 (M + 1) #[.string nm, .int .i64 de, .int .i64 ex, .int .i64 co, .int .i64 fr] := (by repeat (first | (with_reducible assumption) | (with_reducible apply Box.new; first | (with_reducible rfl) | omega | (simp only [World.size_alloc, World.size_setCell, World.size_drew, size_drewN] <;> omega)) | (with_reducible apply Box.old) | (with_reducible apply Box.drew) | (with_reducible apply Box.drewN) | (with_reducible apply Box.set) | (with_reducible apply Box.other) | (with_reducible apply Box.only_ (by with_reducible assumption)) | (with_reducible apply Box.kept_ (by with_reducible assumption)) | (simp only [World.size_alloc, World.size_setCell, World.size_drew, size_drewN]; omega) | omega | (dsimp only; omega) | rfl | (simp; done)))
          have dC : Box v6 (M + 1 + 1) #[.int .i64 t, .int .i64 q] := (by repeat (first | (with_reducible assumption) | (with_reducible apply Box.new; first | (with_reducible rfl) | omega | (simp only [World.size_alloc, World.size_setCell, World.size_drew, size_drewN] <;> omega)) | (with_reducible apply Box.old) | (with_reducible apply Box.drew) | (with_reducible apply Box.drewN) | (with_reducible apply Box.set) | (with_reducible apply Box.other) | (with_reducible apply Box.only_ (by with_reducible assumption)) | (with_reducible apply Box.kept_ (by with_reducible assumption)) | (simp only [World.size_alloc, World.size_setCell, World.size_drew, size_drewN]; omega) | omega | (dsimp only; omega) | rfl | (simp; done)))
          have dA : Box v6 (M + 1 + 1 + 1) #[.int .i64 (T % 4294967296), .int .i64 T] := (by repeat (first | (with_reducible assumption) | (with_reducible apply Box.new; first | (with_reducible rfl) | omega | (simp only [World.size_alloc, World.size_setCell, World.size_drew, size_drewN] <;> omega)) | (with_reducible apply Box.old) | (with_reducible apply Box.drew) | (with_reducible apply Box.drewN) | (with_reducible apply Box.set) | (with_reducible apply Box.other) | (with_reducible apply Box.only_ (by with_reducible assumption)) | (with_reducible apply Box.kept_ (by with_reducible assumption)) | (simp only [World.size_alloc, World.size_setCell, World.size_drew, size_drewN]; omega) | omega | (dsimp only; omega) | rfl | (simp; done)))
          have dB : Box v6 (M + 1 + 1 + 1 + 1) #[.int .i64 (P % 4294967296), .int .i64 P] := (by repeat (first | (with_reducible assumption) | (with_reducible apply Box.new; first | (with_reducible rfl) | omega | (simp only [World.size_alloc, World.size_setCell, World.size_drew, size_drewN] <;> omega)) | (with_reducible apply Box.old) | (with_reducible apply Box.drew) | (with_reducible apply Box.drewN) | (with_reducible apply Box.set) | (with_reducible apply Box.other) | (with_reducible apply Box.only_ (by with_reducible assumption)) | (with_reducible apply Box.kept_ (by with_reducible assumption)) | (simp only [World.size_alloc, World.size_setCell, World.size_drew, size_drewN]; omega) | omega | (dsimp only; omega) | rfl | (simp; done)))
          have RD := Lib.hid (fun W => refRead_ok p 32 f (T % 4294967296) T ((T + r) % 4294967296) (T + r) W HM.out (cOk_mod (b := 32) (by omega) (by omega)) (mRd_mod (b := 32)) (by rw [show mStep 32 (T % 4294967296) ((T + r) % 4294967296) = T + r - T from step_mod (b := 32) (.inr rfl) (by omega) (by omega) (by omega)]; omega) (by omega))
          have RB := Lib.hid (fun W => refRead_ok p 32 f (P % 4294967296) P ((T + r) % 4294967296) (T + r) W HM.out (cOk_mod (b := 32) (by omega) (by omega)) (mRd_mod (b := 32)) (by rw [show mStep 32 (P % 4294967296) ((T + r) % 4294967296) = T + r - P from step_mod (b := 32) (.inr rfl) (by omega) (by omega) (by omega)]; omega) (by omega))
          clear bM bP bC bA bB cM cA cB cAf cBf kw5 s5 o6 o6_c o6_f o6_z
          have ws : wrap64 4294967296 = 4294967296 := by unfold wrap64; omega
          have tm : (T + r).tmod 4294967296 = (T + r) % 4294967296 := Int.tmod_eq_emod_of_nonneg (by omega)
          have um0 : 0 ≤ (T + r) % 4294967296 := Int.emod_nonneg _ (by omega)
          have um1 : (T + r) % 4294967296 < 4294967296 := Int.emod_lt_of_pos _ (by omega)
          have wm : IntKind.i64.wrap ((T + r) % 4294967296) = (T + r) % 4294967296 := IntWalk.i64_in _ (by omega)
          go_cut [11, 12] (fun s e wx => ∃ g : Nat, s = .pointer (some ⟨g, 0, none⟩) ∧ e = .int .i64 0 ∧ v6.heap.size ≤ g ∧ Box wx g #[.int .i64 ((T + r) % 4294967296), .int .i64 (T + r)] ∧ Kept v6 wx)
          case first =>
            have lM := dM.lt
            have lA := dA.lt
            go_region_held (fun w' => (w'.cell? ⟨M, 0, none⟩ = some (.int .i64 p) ∧ w'.cell? ⟨M, 1, none⟩ = some (.int .i64 32) ∧ w'.cell? ⟨M, 2, none⟩ = some (.int .i64 f)) ∧ w'.cell? ⟨M + 1 + 1 + 1, 0, none⟩ = some (.int .i64 (T % 4294967296)) ∧ w'.cell? ⟨M + 1 + 1 + 1, 1, none⟩ = some (.int .i64 T)) (exact box23 (by repeat (first | (with_reducible assumption) | (with_reducible apply Box.new; first | (with_reducible rfl) | omega | (simp only [World.size_alloc, World.size_setCell, World.size_drew, size_drewN] <;> omega)) | (with_reducible apply Box.old) | (with_reducible apply Box.drew) | (with_reducible apply Box.drewN) | (with_reducible apply Box.set) | (with_reducible apply Box.other) | (with_reducible apply Box.only_ (by with_reducible assumption)) | (with_reducible apply Box.kept_ (by with_reducible assumption)) | (simp only [World.size_alloc, World.size_setCell, World.size_drew, size_drewN]; omega) | omega | (dsimp only; omega) | rfl | (simp; done))) (by repeat (first | (with_reducible assumption) | (with_reducible apply Box.new; first | (with_reducible rfl) | omega | (simp only [World.size_alloc, World.size_setCell, World.size_drew, size_drewN] <;> omega)) | (with_reducible apply Box.old) | (with_reducible apply Box.drew) | (with_reducible apply Box.drewN) | (with_reducible apply Box.set) | (with_reducible apply Box.other) | (with_reducible apply Box.only_ (by with_reducible assumption)) | (with_reducible apply Box.kept_ (by with_reducible assumption)) | (simp only [World.size_alloc, World.size_setCell, World.size_drew, size_drewN]; omega) | omega | (dsimp only; omega) | rfl | (simp; done))))
              ((go_at_call 15; refine (RD.out _).mono ?_; rintro e v7 ⟨rfl, c7⟩; have z7 := c7.size; (try simp only [World.size_alloc, World.size_drew] at z7); have c7_c := (kcell c7).1; have c7_f := (kcell c7).2; have c7_z := c7.size; try simp only [World.size_alloc, World.size_setCell, World.size_drew, size_drewN] at c7_c c7_f c7_z))
            all_goals
              go_wp2_with fail
              go_meet
              exact ⟨_, rfl, rfl, by first | omega | (simp only [World.size_alloc, World.size_drew]; omega), (by repeat (first | (with_reducible assumption) | (with_reducible apply Box.new; first | (with_reducible rfl) | omega | (simp only [World.size_alloc, World.size_setCell, World.size_drew, size_drewN] <;> omega)) | (with_reducible apply Box.old) | (with_reducible apply Box.drew) | (with_reducible apply Box.drewN) | (with_reducible apply Box.set) | (with_reducible apply Box.other) | (with_reducible apply Box.only_ (by with_reducible assumption)) | (with_reducible apply Box.kept_ (by with_reducible assumption)) | (simp only [World.size_alloc, World.size_setCell, World.size_drew, size_drewN]; omega) | omega | (dsimp only; omega) | rfl | (simp; done))), (by repeat (first | (with_reducible exact Kept.refl _) | (with_reducible assumption) | (with_reducible refine Kept.alloc ?_ _) | (with_reducible refine Kept.drew ?_) | (with_reducible refine Kept.drewN ?_ _) | (with_reducible refine Kept.setCell ?_ ?_ _) | (with_reducible refine Kept.trans ?_ (by with_reducible assumption)) | (simp only [World.size_alloc, World.size_setCell, World.size_drew, size_drewN]; omega) | omega | (dsimp only; omega)))⟩
          case rest =>
            obtain ⟨g, rfl, rfl, hg, bG, kA⟩ := hcut
            obtain ⟨wo, rfl⟩ : ∃ wo, wo = wc := ⟨_, rfl⟩
            have hzo := kA.size
            have eM := dM.kept kA
            have eP := dP.kept kA
            have eC := dC.kept kA
            have eA := dA.kept kA
            have eB := dB.kept kA
            have kko := kk6.trans kA
            have so := s6.kept kA
            clear dM dP dC dA dB kk6 s6 RD kA
            have cG := bG.cell
            have lG := bG.lt
            have cA := eA.cell
            have cAf := eA.free
            have lA := eA.lt
            have lB := eB.lt
            go_wp2_with fail
            refine (N_any w.heap.size _ bs 2 (by repeat (first | (with_reducible assumption) | (with_reducible refine IsSrc.alloc ?_ _) | (with_reducible refine IsSrc.drew ?_) | (with_reducible refine IsSrc.drewN ?_ _) | (with_reducible refine IsSrc.setCell ?_ ?_ ?_ _) | (with_reducible refine IsSrc.kept ?_ (by with_reducible assumption)) | omega | (dsimp only; omega))) (by omega) (by omega)).mono ?_
            rintro e v8 ⟨y, ⟨y0, y1⟩, rfl, s8, o8⟩
            have o8_c := (ocell o8).1; have o8_f := (ocell o8).2; have o8_z := o8.size; try simp only [World.size_alloc, World.size_setCell, World.size_drew, size_drewN] at o8_c o8_f o8_z
            have kk8 : Kept w v8 := Only.kept (by repeat (first | (with_reducible exact Kept.refl _) | (with_reducible assumption) | (with_reducible refine Kept.alloc ?_ _) | (with_reducible refine Kept.drew ?_) | (with_reducible refine Kept.drewN ?_ _) | (with_reducible refine Kept.setCell ?_ ?_ _) | (with_reducible refine Kept.trans ?_ (by with_reducible assumption)) | (simp only [World.size_alloc, World.size_setCell, World.size_drew, size_drewN]; omega) | omega | (dsimp only; omega))) o8 hlt.1
            have z8 := o8.size
            simp only [World.size_setCell, World.size_alloc] at z8
            have fM : Box v8 M #[.int .i64 p, .int .i64 32, .int .i64 f] := (by repeat (first | (with_reducible assumption) | (with_reducible apply Box.new; first | (with_reducible rfl) | omega | (simp only [World.size_alloc, World.size_setCell, World.size_drew, size_drewN] <;> omega)) | (with_reducible apply Box.old) | (with_reducible apply Box.drew) | (with_reducible apply Box.drewN) | (with_reducible apply Box.set) | (with_reducible apply Box.other) | (with_reducible apply Box.only_ (by with_reducible assumption)) | (with_reducible apply Box.kept_ (by with_reducible assumption)) | (simp only [World.size_alloc, World.size_setCell, World.size_drew, size_drewN]; omega) | omega | (dsimp only; omega) | rfl | (simp; done)))
            have fP : Box v8 (M + 1) #[.string nm, .int .i64 de, .int .i64 ex, .int .i64 co, .int .i64 fr] := (by repeat (first | (with_reducible assumption) | (with_reducible apply Box.new; first | (with_reducible rfl) | omega | (simp only [World.size_alloc, World.size_setCell, World.size_drew, size_drewN] <;> omega)) | (with_reducible apply Box.old) | (with_reducible apply Box.drew) | (with_reducible apply Box.drewN) | (with_reducible apply Box.set) | (with_reducible apply Box.other) | (with_reducible apply Box.only_ (by with_reducible assumption)) | (with_reducible apply Box.kept_ (by with_reducible assumption)) | (simp only [World.size_alloc, World.size_setCell, World.size_drew, size_drewN]; omega) | omega | (dsimp only; omega) | rfl | (simp; done)))
            have fC : Box v8 (M + 1 + 1) #[.int .i64 t, .int .i64 q] := (by repeat (first | (with_reducible assumption) | (with_reducible apply Box.new; first | (with_reducible rfl) | omega | (simp only [World.size_alloc, World.size_setCell, World.size_drew, size_drewN] <;> omega)) | (with_reducible apply Box.old) | (with_reducible apply Box.drew) | (with_reducible apply Box.drewN) | (with_reducible apply Box.set) | (with_reducible apply Box.other) | (with_reducible apply Box.only_ (by with_reducible assumption)) | (with_reducible apply Box.kept_ (by with_reducible assumption)) | (simp only [World.size_alloc, World.size_setCell, World.size_drew, size_drewN]; omega) | omega | (dsimp only; omega) | rfl | (simp; done)))
            have fA : Box v8 (M + 1 + 1 + 1) #[.int .i64 ((T + r) % 4294967296), .int .i64 (T + r)] := (by repeat (first | (with_reducible assumption) | (with_reducible apply Box.new; first | (with_reducible rfl) | omega | (simp only [World.size_alloc, World.size_setCell, World.size_drew, size_drewN] <;> omega)) | (with_reducible apply Box.old) | (with_reducible apply Box.drew) | (with_reducible apply Box.drewN) | (with_reducible apply Box.set) | (with_reducible apply Box.other) | (with_reducible apply Box.only_ (by with_reducible assumption)) | (with_reducible apply Box.kept_ (by with_reducible assumption)) | (simp only [World.size_alloc, World.size_setCell, World.size_drew, size_drewN]; omega) | omega | (dsimp only; omega) | rfl | (simp; done)))
            have fB : Box v8 (M + 1 + 1 + 1 + 1) #[.int .i64 (P % 4294967296), .int .i64 P] := (by repeat (first | (with_reducible assumption) | (with_reducible apply Box.new; first | (with_reducible rfl) | omega | (simp only [World.size_alloc, World.size_setCell, World.size_drew, size_drewN] <;> omega)) | (with_reducible apply Box.old) | (with_reducible apply Box.drew) | (with_reducible apply Box.drewN) | (with_reducible apply Box.set) | (with_reducible apply Box.other) | (with_reducible apply Box.only_ (by with_reducible assumption)) | (with_reducible apply Box.kept_ (by with_reducible assumption)) | (simp only [World.size_alloc, World.size_setCell, World.size_drew, size_drewN]; omega) | omega | (dsimp only; omega) | rfl | (simp; done)))
            clear eM eP eC eA eB kko so cG cA cAf lA lB bG lG o8_c o8_f o8_z o8
            have cB := fB.cell
            have cBf := fB.free
            have lB := fB.lt
            have lM := fM.lt
            have hcase : ((y = 0) ∨ (y = 1 ∧ 30000 < (T + r) - P) ∨ (y = 1 ∧ (T + r) - P ≤ 30000 ∧ I = 1)) ∨ (y = 1 ∧ (T + r) - P ≤ 30000 ∧ 1 < I) := by omega
            rcases hcase with h3 | ⟨rfl, q1, q2⟩
            · rcases h3 with rfl | ⟨rfl, q1⟩ | ⟨rfl, q1, rfl⟩
              all_goals
                go_wp2_with fail
                go_cut [13, 14] (fun s e wx => ∃ g : Nat, s = .pointer (some ⟨g, 0, none⟩) ∧ e = .int .i64 0 ∧ v8.heap.size ≤ g ∧ Box wx g #[.int .i64 ((T + r) % 4294967296), .int .i64 (T + r)] ∧ Kept v8 wx)
                case first =>
                  go_region_held (fun w' => (w'.cell? ⟨M, 0, none⟩ = some (.int .i64 p) ∧ w'.cell? ⟨M, 1, none⟩ = some (.int .i64 32) ∧ w'.cell? ⟨M, 2, none⟩ = some (.int .i64 f)) ∧ w'.cell? ⟨M + 1 + 1 + 1 + 1, 0, none⟩ = some (.int .i64 (P % 4294967296)) ∧ w'.cell? ⟨M + 1 + 1 + 1 + 1, 1, none⟩ = some (.int .i64 P)) (exact box23 (by repeat (first | (with_reducible assumption) | (with_reducible apply Box.new; first | (with_reducible rfl) | omega | (simp only [World.size_alloc, World.size_setCell, World.size_drew, size_drewN] <;> omega)) | (with_reducible apply Box.old) | (with_reducible apply Box.drew) | (with_reducible apply Box.drewN) | (with_reducible apply Box.set) | (with_reducible apply Box.other) | (with_reducible apply Box.only_ (by with_reducible assumption)) | (with_reducible apply Box.kept_ (by with_reducible assumption)) | (simp only [World.size_alloc, World.size_setCell, World.size_drew, size_drewN]; omega) | omega | (dsimp only; omega) | rfl | (simp; done))) (by repeat (first | (with_reducible assumption) | (with_reducible apply Box.new; first | (with_reducible rfl) | omega | (simp only [World.size_alloc, World.size_setCell, World.size_drew, size_drewN] <;> omega)) | (with_reducible apply Box.old) | (with_reducible apply Box.drew) | (with_reducible apply Box.drewN) | (with_reducible apply Box.set) | (with_reducible apply Box.other) | (with_reducible apply Box.only_ (by with_reducible assumption)) | (with_reducible apply Box.kept_ (by with_reducible assumption)) | (simp only [World.size_alloc, World.size_setCell, World.size_drew, size_drewN]; omega) | omega | (dsimp only; omega) | rfl | (simp; done))))
                    ((go_at_call 15; refine (RB.out _).mono ?_; rintro e v7 ⟨rfl, c7⟩; have z7 := c7.size; (try simp only [World.size_alloc, World.size_drew] at z7); have c7_c := (kcell c7).1; have c7_f := (kcell c7).2; have c7_z := c7.size; try simp only [World.size_alloc, World.size_setCell, World.size_drew, size_drewN] at c7_c c7_f c7_z))
                  all_goals
                    go_wp2_with fail
                    go_meet
                    exact ⟨_, rfl, rfl, by first | omega | (simp only [World.size_alloc, World.size_drew]; omega), (by repeat (first | (with_reducible assumption) | (with_reducible apply Box.new; first | (with_reducible rfl) | omega | (simp only [World.size_alloc, World.size_setCell, World.size_drew, size_drewN] <;> omega)) | (with_reducible apply Box.old) | (with_reducible apply Box.drew) | (with_reducible apply Box.drewN) | (with_reducible apply Box.set) | (with_reducible apply Box.other) | (with_reducible apply Box.only_ (by with_reducible assumption)) | (with_reducible apply Box.kept_ (by with_reducible assumption)) | (simp only [World.size_alloc, World.size_setCell, World.size_drew, size_drewN]; omega) | omega | (dsimp only; omega) | rfl | (simp; done))), (by repeat (first | (with_reducible exact Kept.refl _) | (with_reducible assumption) | (with_reducible refine Kept.alloc ?_ _) | (with_reducible refine Kept.drew ?_) | (with_reducible refine Kept.drewN ?_ _) | (with_reducible refine Kept.setCell ?_ ?_ _) | (with_reducible refine Kept.trans ?_ (by with_reducible assumption)) | (simp only [World.size_alloc, World.size_setCell, World.size_drew, size_drewN]; omega) | omega | (dsimp only; omega)))⟩
                case rest =>
                  obtain ⟨g', rfl, rfl, hg', bG, kA⟩ := hcut
                  obtain ⟨wo, rfl⟩ : ∃ wo, wo = wc := ⟨_, rfl⟩
                  have hzo := kA.size
                  have eB := fB.kept kA
                  have cG := bG.cell
                  have lG := bG.lt
                  have dB := eB.cell
                  have dBf := eB.free
                  have lB' := eB.lt
                  go_wp2
                  go_roundw
                  case rel => exact ⟨T + r, _, T + r, rfl, rfl, ⟨by omega, by omega⟩, ⟨by omega, by omega, by omega, by omega⟩, fun _ => rfl, (by repeat (first | (with_reducible assumption) | (with_reducible refine IsSrc.alloc ?_ _) | (with_reducible refine IsSrc.drew ?_) | (with_reducible refine IsSrc.drewN ?_ _) | (with_reducible refine IsSrc.setCell ?_ ?_ ?_ _) | (with_reducible refine IsSrc.kept ?_ (by with_reducible assumption)) | omega | (dsimp only; omega))), (by repeat (first | (with_reducible exact Kept.refl _) | (with_reducible assumption) | (with_reducible refine Kept.alloc ?_ _) | (with_reducible refine Kept.drew ?_) | (with_reducible refine Kept.drewN ?_ _) | (with_reducible refine Kept.setCell ?_ ?_ _) | (with_reducible refine Kept.trans ?_ (by with_reducible assumption)) | (simp only [World.size_alloc, World.size_setCell, World.size_drew, size_drewN]; omega) | omega | (dsimp only; omega))), (by repeat (first | (with_reducible assumption) | (with_reducible apply Box.new; first | (with_reducible rfl) | omega | (simp only [World.size_alloc, World.size_setCell, World.size_drew, size_drewN] <;> omega)) | (with_reducible apply Box.old) | (with_reducible apply Box.drew) | (with_reducible apply Box.drewN) | (with_reducible apply Box.set) | (with_reducible apply Box.other) | (with_reducible apply Box.only_ (by with_reducible assumption)) | (with_reducible apply Box.kept_ (by with_reducible assumption)) | (simp only [World.size_alloc, World.size_setCell, World.size_drew, size_drewN]; omega) | omega | (dsimp only; omega) | rfl | (simp; done))), (by repeat (first | (with_reducible assumption) | (with_reducible apply Box.new; first | (with_reducible rfl) | omega | (simp only [World.size_alloc, World.size_setCell, World.size_drew, size_drewN] <;> omega)) | (with_reducible apply Box.old) | (with_reducible apply Box.drew) | (with_reducible apply Box.drewN) | (with_reducible apply Box.set) | (with_reducible apply Box.other) | (with_reducible apply Box.only_ (by with_reducible assumption)) | (with_reducible apply Box.kept_ (by with_reducible assumption)) | (simp only [World.size_alloc, World.size_setCell, World.size_drew, size_drewN]; omega) | omega | (dsimp only; omega) | rfl | (simp; done))), (by repeat (first | (with_reducible assumption) | (with_reducible apply Box.new; first | (with_reducible rfl) | omega | (simp only [World.size_alloc, World.size_setCell, World.size_drew, size_drewN] <;> omega)) | (with_reducible apply Box.old) | (with_reducible apply Box.drew) | (with_reducible apply Box.drewN) | (with_reducible apply Box.set) | (with_reducible apply Box.other) | (with_reducible apply Box.only_ (by with_reducible assumption)) | (with_reducible apply Box.kept_ (by with_reducible assumption)) | (simp only [World.size_alloc, World.size_setCell, World.size_drew, size_drewN]; omega) | omega | (dsimp only; omega) | rfl | (simp; done))), (by repeat (first | (with_reducible assumption) | (with_reducible apply Box.new; first | (with_reducible rfl) | omega | (simp only [World.size_alloc, World.size_setCell, World.size_drew, size_drewN] <;> omega)) | (with_reducible apply Box.old) | (with_reducible apply Box.drew) | (with_reducible apply Box.drewN) | (with_reducible apply Box.set) | (with_reducible apply Box.other) | (with_reducible apply Box.only_ (by with_reducible assumption)) | (with_reducible apply Box.kept_ (by with_reducible assumption)) | (simp only [World.size_alloc, World.size_setCell, World.size_drew, size_drewN]; omega) | omega | (dsimp only; omega) | rfl | (simp; done))), (by repeat (first | (with_reducible assumption) | (with_reducible apply Box.new; first | (with_reducible rfl) | omega | (simp only [World.size_alloc, World.size_setCell, World.size_drew, size_drewN] <;> omega)) | (with_reducible apply Box.old) | (with_reducible apply Box.drew) | (with_reducible apply Box.drewN) | (with_reducible apply Box.set) | (with_reducible apply Box.other) | (with_reducible apply Box.only_ (by with_reducible assumption)) | (with_reducible apply Box.kept_ (by with_reducible assumption)) | (simp only [World.size_alloc, World.size_setCell, World.size_drew, size_drewN]; omega) | omega | (dsimp only; omega) | rfl | (simp; done)))⟩
                  case measure => simp [intOf] <;> omega
            · have q3 : (I == 1) = false := by rw [beq_eq_false_iff_ne]; omega
              have q4 : decide (I = 1) = false := decide_eq_false (by omega)
              have q5 : decide (30000 < T + r - P) = false := decide_eq_false (by omega)
              go_wp2_with fail
              all_goals first
                | exact ⟨⟨T + r, _, P, rfl, rfl, ⟨by omega, by omega⟩, ⟨by omega, by omega, by omega, by omega⟩, fun h => absurd h (by omega), (by repeat (first | (with_reducible assumption) | (with_reducible refine IsSrc.alloc ?_ _) | (with_reducible refine IsSrc.drew ?_) | (with_reducible refine IsSrc.drewN ?_ _) | (with_reducible refine IsSrc.setCell ?_ ?_ ?_ _) | (with_reducible refine IsSrc.kept ?_ (by with_reducible assumption)) | omega | (dsimp only; omega))), (by repeat (first | (with_reducible exact Kept.refl _) | (with_reducible assumption) | (with_reducible refine Kept.alloc ?_ _) | (with_reducible refine Kept.drew ?_) | (with_reducible refine Kept.drewN ?_ _) | (with_reducible refine Kept.setCell ?_ ?_ _) | (with_reducible refine Kept.trans ?_ (by with_reducible assumption)) | (simp only [World.size_alloc, World.size_setCell, World.size_drew, size_drewN]; omega) | omega | (dsimp only; omega))), (by repeat (first | (with_reducible assumption) | (with_reducible apply Box.new; first | (with_reducible rfl) | omega | (simp only [World.size_alloc, World.size_setCell, World.size_drew, size_drewN] <;> omega)) | (with_reducible apply Box.old) | (with_reducible apply Box.drew) | (with_reducible apply Box.drewN) | (with_reducible apply Box.set) | (with_reducible apply Box.other) | (with_reducible apply Box.only_ (by with_reducible assumption)) | (with_reducible apply Box.kept_ (by with_reducible assumption)) | (simp only [World.size_alloc, World.size_setCell, World.size_drew, size_drewN]; omega) | omega | (dsimp only; omega) | rfl | (simp; done))), (by repeat (first | (with_reducible assumption) | (with_reducible apply Box.new; first | (with_reducible rfl) | omega | (simp only [World.size_alloc, World.size_setCell, World.size_drew, size_drewN] <;> omega)) | (with_reducible apply Box.old) | (with_reducible apply Box.drew) | (with_reducible apply Box.drewN) | (with_reducible apply Box.set) | (with_reducible apply Box.other) | (with_reducible apply Box.only_ (by with_reducible assumption)) | (with_reducible apply Box.kept_ (by with_reducible assumption)) | (simp only [World.size_alloc, World.size_setCell, World.size_drew, size_drewN]; omega) | omega | (dsimp only; omega) | rfl | (simp; done))), (by repeat (first | (with_reducible assumption) | (with_reducible apply Box.new; first | (with_reducible rfl) | omega | (simp only [World.size_alloc, World.size_setCell, World.size_drew, size_drewN] <;> omega)) | (with_reducible apply Box.old) | (with_reducible apply Box.drew) | (with_reducible apply Box.drewN) | (with_reducible apply Box.set) | (with_reducible apply Box.other) | (with_reducible apply Box.only_ (by with_reducible assumption)) | (with_reducible apply Box.kept_ (by with_reducible assumption)) | (simp only [World.size_alloc, World.size_setCell, World.size_drew, size_drewN]; omega) | omega | (dsimp only; omega) | rfl | (simp; done))), (by repeat (first | (with_reducible assumption) | (with_reducible apply Box.new; first | (with_reducible rfl) | omega | (simp only [World.size_alloc, World.size_setCell, World.size_drew, size_drewN] <;> omega)) | (with_reducible apply Box.old) | (with_reducible apply Box.drew) | (with_reducible apply Box.drewN) | (with_reducible apply Box.set) | (with_reducible apply Box.other) | (with_reducible apply Box.only_ (by with_reducible assumption)) | (with_reducible apply Box.kept_ (by with_reducible assumption)) | (simp only [World.size_alloc, World.size_setCell, World.size_drew, size_drewN]; omega) | omega | (dsimp only; omega) | rfl | (simp; done))), (by repeat (first | (with_reducible assumption) | (with_reducible apply Box.new; first | (with_reducible rfl) | omega | (simp only [World.size_alloc, World.size_setCell, World.size_drew, size_drewN] <;> omega)) | (with_reducible apply Box.old) | (with_reducible apply Box.drew) | (with_reducible apply Box.drewN) | (with_reducible apply Box.set) | (with_reducible apply Box.other) | (with_reducible apply Box.only_ (by with_reducible assumption)) | (with_reducible apply Box.kept_ (by with_reducible assumption)) | (simp only [World.size_alloc, World.size_setCell, World.size_drew, size_drewN]; omega) | omega | (dsimp only; omega) | rfl | (simp; done)))⟩, by simp [intOf] <;> omega⟩
                | (trace_state; exfalso; omega)
        · obtain rfl : I = 0 := by omega
          obtain rfl : P = T := hI rfl
          have TK : TkOk p 32 f nm de ex co fr 1 0 0 (P % 4294967296) P t q := ⟨hz, HM.out, HP.out, by omega, ⟨⟨by omega, by have := mSpan_bd 32; omega⟩, by omega, by omega⟩, cOk_mod (b := 32) (by omega) (by omega), by omega, HT.out, gr_small p1 (by omega) f2 (by omega) (by omega) (by omega)⟩
          have MK := Lib.hid (fun W k => Make_ok p 32 f nm de ex co fr 1 0 0 (P % 4294967296) P t q W k TK)
          have CK := Lib.hid (fun W k => Check_ok p 32 f nm de ex co fr 1 0 0 (P % 4294967296) P t q W k TK)
          clear TK
          generalize tV p f 0 P ex co t q = V at *
          have cM := bM.cell
          have cP := bP.cell
          have cC := bC.cell
          have cA := bA.cell
          have cB := bB.cell
          have lM := bM.lt
          have lB := bB.lt
          go_wp2_with fail
          refine (MK.out _ (Box.kept hsp (by repeat (first | (with_reducible exact Kept.refl _) | (with_reducible assumption) | (with_reducible refine Kept.alloc ?_ _) | (with_reducible refine Kept.drew ?_) | (with_reducible refine Kept.drewN ?_ _) | (with_reducible refine Kept.setCell ?_ ?_ _) | (with_reducible refine Kept.trans ?_ (by with_reducible assumption)) | (simp only [World.size_alloc, World.size_setCell, World.size_drew, size_drewN]; omega) | omega | (dsimp only; omega))))).mono ?_
          rintro e v6 ⟨rfl, c6⟩
          have c6_c := (kcell c6).1; have c6_f := (kcell c6).2; have c6_z := c6.size; try simp only [World.size_alloc, World.size_setCell, World.size_drew, size_drewN] at c6_c c6_f c6_z
          go_wp2_with fail
          refine (MK.out _ (Box.kept hsp (by repeat (first | (with_reducible exact Kept.refl _) | (with_reducible assumption) | (with_reducible refine Kept.alloc ?_ _) | (with_reducible refine Kept.drew ?_) | (with_reducible refine Kept.drewN ?_ _) | (with_reducible refine Kept.setCell ?_ ?_ _) | (with_reducible refine Kept.trans ?_ (by with_reducible assumption)) | (simp only [World.size_alloc, World.size_setCell, World.size_drew, size_drewN]; omega) | omega | (dsimp only; omega))))).mono ?_
          rintro e v7 ⟨rfl, c7⟩
          have c7_c := (kcell c7).1; have c7_f := (kcell c7).2; have c7_z := c7.size; try simp only [World.size_alloc, World.size_setCell, World.size_drew, size_drewN] at c7_c c7_f c7_z
          go_wp2_with fail
          refine (CK.out _ (Box.kept hsp (by repeat (first | (with_reducible exact Kept.refl _) | (with_reducible assumption) | (with_reducible refine Kept.alloc ?_ _) | (with_reducible refine Kept.drew ?_) | (with_reducible refine Kept.drewN ?_ _) | (with_reducible refine Kept.setCell ?_ ?_ _) | (with_reducible refine Kept.trans ?_ (by with_reducible assumption)) | (simp only [World.size_alloc, World.size_setCell, World.size_drew, size_drewN]; omega) | omega | (dsimp only; omega))))).mono ?_
          rintro e v8 ⟨rfl, c8⟩
          have c8_c := (kcell c8).1; have c8_f := (kcell c8).2; have c8_z := c8.size; try simp only [World.size_alloc, World.size_setCell, World.size_drew, size_drewN] at c8_c c8_f c8_z
          go_wp2_with fail
          refine (tkAwake _ (Box.kept hsp (by repeat (first | (with_reducible exact Kept.refl _) | (with_reducible assumption) | (with_reducible refine Kept.alloc ?_ _) | (with_reducible refine Kept.drew ?_) | (with_reducible refine Kept.drewN ?_ _) | (with_reducible refine Kept.setCell ?_ ?_ _) | (with_reducible refine Kept.trans ?_ (by with_reducible assumption)) | (simp only [World.size_alloc, World.size_setCell, World.size_drew, size_drewN]; omega) | omega | (dsimp only; omega))))).mono ?_
          rintro e v9 ⟨rfl, c9⟩
          have c9_c := (kcell c9).1; have c9_f := (kcell c9).2; have c9_z := c9.size; try simp only [World.size_alloc, World.size_setCell, World.size_drew, size_drewN] at c9_c c9_f c9_z
          go_wp2
          go_ret
          exact ⟨rfl, (by repeat (first | (with_reducible exact Kept.refl _) | (with_reducible assumption) | (with_reducible refine Kept.alloc ?_ _) | (with_reducible refine Kept.drew ?_) | (with_reducible refine Kept.drewN ?_ _) | (with_reducible refine Kept.setCell ?_ ?_ _) | (with_reducible refine Kept.trans ?_ (by with_reducible assumption)) | (simp only [World.size_alloc, World.size_setCell, World.size_drew, size_drewN]; omega) | omega | (dsimp only; omega)))⟩
  · have F := Lib.hid (fun W => decide_eq_false hf ▸ Few_any a len cap W (by have h1 := h.1; have h2 := h.2.1; unfold maxLen at h2; omega))
    go_enter Tryd.func3, Tryd.ntmps3
    go_wp2_with fail
    refine (F.out _).mono ?_
    rintro e v0 ⟨rfl, rfl⟩
    go_wp2_with fail
    refine (tkAwake _ hsp).mono ?_
    rintro e v1 ⟨rfl, c1⟩
    have c1_c := (kcell c1).1; have c1_f := (kcell c1).2; have c1_z := c1.size; try simp only [World.size_alloc, World.size_setCell, World.size_drew, size_drewN] at c1_c c1_f c1_z
    go_wp2
    go_ret
    exact ⟨rfl, (by repeat (first | (with_reducible exact Kept.refl _) | (with_reducible assumption) | (with_reducible refine Kept.alloc ?_ _) | (with_reducible refine Kept.drew ?_) | (with_reducible refine Kept.drewN ?_ _) | (with_reducible refine Kept.setCell ?_ ?_ _) | (with_reducible refine Kept.trans ?_ (by with_reducible assumption)) | (simp only [World.size_alloc, World.size_setCell, World.size_drew, size_drewN]; omega) | omega | (dsimp only; omega)))⟩
end Go.Proofs.YtbclfphnhbmhoaaDoor
