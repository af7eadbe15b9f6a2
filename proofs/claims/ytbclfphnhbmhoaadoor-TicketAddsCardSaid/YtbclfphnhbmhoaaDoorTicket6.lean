
/- The walk of TicketAdds. -/
import Derived.Test.YtbclfphnhbmhoaaDoorAddsLaw
namespace Go.Proofs.YtbclfphnhbmhoaaDoor
open Go.RowKit
set_option linter.unusedVariables false
set_option linter.unusedSimpArgs false

set_option maxRecDepth 100000 in
set_option maxHeartbeats 8000000 in
theorem TicketAdds_law (a : Option Addr) (len cap : Nat) (w : World) (h : ArgInts w a len cap) (hsp : Spans w) :
    Calls Tryd.prog 5 #[.slice a len cap] w (Ret (.bool true) w) := by
  by_cases hf : len ≤ 400
  · have F := Lib.hid (fun W => decide_eq_true hf ▸ Few_anyC a len cap W (by omega))
    obtain ⟨i0, hi, hz0, hz1, hz2⟩ := info_parts cond_info
    have HI := Lib.hid (And.intro hi (And.intro hz0 (And.intro hz1 hz2)))
    clear hi hz0 hz1 hz2
    go_enter Tryd.func5, Tryd.ntmps5
    go_wp2_with fail
    refine (F.out _).mono ?_
    rintro e v0 ⟨rfl, rfl⟩
    go_wp2_with fail
    refine (New_any _ _ _ _ h).mono ?_
    rintro e v1 ⟨bs, rfl, s1, k1⟩
    have hlt := s1.lt
    go_wp2_with fail
    refine (SrcMeter_any w.heap.size _ bs s1).mono ?_
    rintro e v2 ⟨p, b, f, hm, rfl, s2, o2⟩
    have o2_c := (ocell o2).1; have o2_f := (ocell o2).2; have o2_z := o2.size; try simp only [World.size_alloc, World.size_setCell, World.size_drew, size_drewN] at o2_c o2_f o2_z
    go_wp2_with fail
    refine (Product_any w.heap.size _ bs 0 (by repeat (first | (with_reducible assumption) | (with_reducible refine IsSrc.alloc ?_ _) | (with_reducible refine IsSrc.drew ?_) | (with_reducible refine IsSrc.drewN ?_ _) | (with_reducible refine IsSrc.setCell ?_ ?_ ?_ _) | (with_reducible refine IsSrc.kept ?_ (by with_reducible assumption)) | omega | (dsimp only; omega))) (by omega) (by omega)).mono ?_
    rintro e v3 ⟨de, ex, co, fr, hp, rfl, s3, o3⟩
    have o3_c := (ocell o3).1; have o3_f := (ocell o3).2; have o3_z := o3.size; try simp only [World.size_alloc, World.size_setCell, World.size_drew, size_drewN] at o3_c o3_f o3_z
    go_wp2_with fail
    refine (counts_any w.heap.size _ bs p b f (by repeat (first | (with_reducible assumption) | (with_reducible refine IsSrc.alloc ?_ _) | (with_reducible refine IsSrc.drew ?_) | (with_reducible refine IsSrc.drewN ?_ _) | (with_reducible refine IsSrc.setCell ?_ ?_ ?_ _) | (with_reducible refine IsSrc.kept ?_ (by with_reducible assumption)) | omega | (dsimp only; omega))) hm.2.2.1).mono ?_
    rintro e v4 ⟨ca, ccap, l, P, hgo, h6, rfl, hA, s4, o4⟩
    obtain ⟨n, hn⟩ : ∃ n, l.length = n + 1 := ⟨l.length - 1, by have := hgo.ne; omega⟩
    rw [hn] at hA h6 ⊢
    have o4_c := (ocell o4).1; have o4_f := (ocell o4).2; have o4_z := o4.size; try simp only [World.size_alloc, World.size_setCell, World.size_drew, size_drewN] at o4_c o4_f o4_z
    go_wp2_with fail
    refine (Condition_any w.heap.size _ bs (by repeat (first | (with_reducible assumption) | (with_reducible refine IsSrc.alloc ?_ _) | (with_reducible refine IsSrc.drew ?_) | (with_reducible refine IsSrc.drewN ?_ _) | (with_reducible refine IsSrc.setCell ?_ ?_ ?_ _) | (with_reducible refine IsSrc.kept ?_ (by with_reducible assumption)) | omega | (dsimp only; omega)))).mono ?_
    rintro e v5 ⟨t, q, ht, rfl, s5, o5⟩
    have o5_c := (ocell o5).1; have o5_f := (ocell o5).2; have o5_z := o5.size; try simp only [World.size_alloc, World.size_setCell, World.size_drew, size_drewN] at o5_c o5_f o5_z
    go_wp2_with fail
    have hA5 := hA.only (CntR.stays _) o5
    have bM : Box (v5.alloc (Obj.cells #[.int .i64 t, .int .i64 q] 34)) v3.heap.size #[.int .i64 p, .int .i64 b, .int .i64 f] := (by repeat (first | (with_reducible assumption) | (with_reducible apply Box.new; first | (with_reducible rfl) | omega | (simp only [World.size_alloc, World.size_setCell, World.size_drew, size_drewN] <;> omega)) | (with_reducible apply Box.old) | (with_reducible apply Box.drew) | (with_reducible apply Box.drewN) | (with_reducible apply Box.set) | (with_reducible apply Box.other) | (with_reducible apply Box.only_ (by with_reducible assumption)) | (with_reducible apply Box.kept_ (by with_reducible assumption)) | (simp only [World.size_alloc, World.size_setCell, World.size_drew, size_drewN]; omega) | omega | (dsimp only; omega) | rfl | (simp; done)))
    have bP : Box (v5.alloc (Obj.cells #[.int .i64 t, .int .i64 q] 34)) (v3.heap.size + 1) #[.string (nmOf ⟨#[112]⟩ 0), .int .i64 de, .int .i64 ex, .int .i64 co, .int .i64 fr] := (by repeat (first | (with_reducible assumption) | (with_reducible apply Box.new; first | (with_reducible rfl) | omega | (simp only [World.size_alloc, World.size_setCell, World.size_drew, size_drewN] <;> omega)) | (with_reducible apply Box.old) | (with_reducible apply Box.drew) | (with_reducible apply Box.drewN) | (with_reducible apply Box.set) | (with_reducible apply Box.other) | (with_reducible apply Box.only_ (by with_reducible assumption)) | (with_reducible apply Box.kept_ (by with_reducible assumption)) | (simp only [World.size_alloc, World.size_setCell, World.size_drew, size_drewN]; omega) | omega | (dsimp only; omega) | rfl | (simp; done)))
    have bC : Box (v5.alloc (Obj.cells #[.int .i64 t, .int .i64 q] 34)) v5.heap.size #[.int .i64 t, .int .i64 q] := (by repeat (first | (with_reducible assumption) | (with_reducible apply Box.new; first | (with_reducible rfl) | omega | (simp only [World.size_alloc, World.size_setCell, World.size_drew, size_drewN] <;> omega)) | (with_reducible apply Box.old) | (with_reducible apply Box.drew) | (with_reducible apply Box.drewN) | (with_reducible apply Box.set) | (with_reducible apply Box.other) | (with_reducible apply Box.only_ (by with_reducible assumption)) | (with_reducible apply Box.kept_ (by with_reducible assumption)) | (simp only [World.size_alloc, World.size_setCell, World.size_drew, size_drewN]; omega) | omega | (dsimp only; omega) | rfl | (simp; done)))
    have kw5 : Kept w v5 := Only.kept k1 (o2.trans (o3.trans (Only.trans (by exact (by repeat (first | (with_reducible exact Only.refl _ _) | (with_reducible assumption) | (with_reducible refine Only.alloc ?_ _) | (with_reducible refine Only.drew ?_) | (with_reducible refine Only.drewN ?_ _) | (with_reducible refine Only.setCell ?_ ?_ _) | (with_reducible refine Only.trans ?_ (by with_reducible assumption)) | (with_reducible refine Only.trans ?_ (Only.of_kept (by with_reducible assumption))) | (simp only [World.size_alloc, World.size_setCell, World.size_drew, size_drewN]; omega) | omega | (dsimp only; omega)))) o5))) hlt.1
    have hz5 : v3.heap.size + 1 + 1 ≤ v5.heap.size := by omega
    have hz3 : w.heap.size ≤ v3.heap.size := by have := k1.size; omega
    have hb3 : bs < v3.heap.size := by omega
    have HP := Lib.hid (pOk_made (n := 0) hp)
    have hz := pName_size 0
    have HM := Lib.hid hm
    have HT := Lib.hid ht
    have HA := Lib.hid hA5
    have HG := Lib.hid hgo
    have HN := Lib.hid hn
    have hcl := hA5.2.1
    have hcm := hA5.2.2.1
    unfold maxLen at hcm
    have hsl := hsp.lt
    clear F ht hp hm hA hA5 hgo hn k1 o2 o2_c o2_f o2_z o3 o3_c o3_f o3_z o4 o4_c o4_f o4_z o5 o5_c o5_f o5_z s1 s2 s3 s4 s5 h
    generalize nmOf ⟨#[112]⟩ 0 = nm at *
    go_loopw [8, 9] (fun x i wr => ∃ (k : Nat) (a2 : Option Addr) (cap2 : Nat), k ≤ n ∧ i = .int .i64 ((k : Int) + 1) ∧ x = .slice a2 k cap2 ∧ wr.ownsRow (v5.heap.size + 1) 34 2 (.slice a2 k cap2) k ((rep k ⟨t, q⟩).flatMap cdF) ∧ Box wr v3.heap.size #[.int .i64 p, .int .i64 b, .int .i64 f] ∧ Box wr (v3.heap.size + 1) #[.string nm, .int .i64 de, .int .i64 ex, .int .i64 co, .int .i64 fr] ∧ Box wr v5.heap.size #[.int .i64 t, .int .i64 q] ∧ Kept v5 wr ∧ v5.heap.size + 1 ≤ wr.heap.size) (fun _ i _ => n + 1 - (intOf i).toNat)
    case atStart => exact ⟨0, none, 0, Nat.zero_le _, rfl, rfl, World.ownsRow_nil _ _ _ _, bM, bP, bC, (by repeat (first | (with_reducible exact Kept.refl _) | (with_reducible assumption) | (with_reducible refine Kept.alloc ?_ _) | (with_reducible refine Kept.drew ?_) | (with_reducible refine Kept.drewN ?_ _) | (with_reducible refine Kept.setCell ?_ ?_ _) | (with_reducible refine Kept.trans ?_ (by with_reducible assumption)) | (simp only [World.size_alloc, World.size_setCell, World.size_drew, size_drewN]; omega) | omega | (dsimp only; omega))), by simp only [World.size_alloc]; omega⟩
    case round =>
      clear bM bP bC
      obtain ⟨k, a2, cap2, hk, rfl, rfl, hown, bM, bP, bC, kw, hz7⟩ := hrel
      have hown := Lib.hid hown
      have lC := bC.lt
      by_cases hkn : k < n
      · have cC := bC.cell
        have g1 : (k : Int) + 1 < (n : Int) + 1 := by omega
        go_wp2_with (at_builtin; refine wpList_append_own _ rfl _ _ 51 rfl (v5.heap.size + 1) 34 i0 (.agg #[.int .i64 0, .int .i64 0]) 2 16 ?d2 HI.out.1 HI.out.2.1 HI.out.2.2.1 HI.out.2.2.2 rfl (by decide) (.slice a2 k cap2) k ((rep k ⟨t, q⟩).flatMap cdF) ?d3 ?own _ 1 1 (cdF ⟨t, q⟩) rfl rfl ?c1 ?c2 ?c3 ?c4 ?c5 ?c6)
        case d2 => exact Tryd.underlying51
        case d3 => rfl
        case own => exact (by repeat (first | (with_reducible exact hown.out) | (with_reducible refine own_set ?_ ?_) | (with_reducible refine own_only ?_ (by with_reducible assumption) ?_) | (with_reducible refine World.ownsRow.alloc ?_ _) | (with_reducible refine own_drew ?_) | (with_reducible refine own_drewN ?_) | (with_reducible refine own_kept ?_ (by with_reducible assumption)) | omega | (dsimp only; omega)))
        case c1 => intro j u hj; exact pair_new (by first | rfl | simp only [World.size_setCell]) hj
        case c2 => intro u hu; simp [cdF] at hu; rcases hu with rfl | rfl <;> rfl
        case c3 => unfold maxLen; omega
        case c4 => omega
        case c5 => simp only [World.size_alloc]; omega
        case c6 =>
          intro v' w3 hown3 hgrow _
          have GR := grown_below (base := v5.heap.size + 1) (e := 34) (size := 2) (n := k) (xs := (rep k ⟨t, q⟩).flatMap cdF) (by exact (by repeat (first | (with_reducible exact hown.out) | (with_reducible refine own_set ?_ ?_) | (with_reducible refine own_only ?_ (by with_reducible assumption) ?_) | (with_reducible refine World.ownsRow.alloc ?_ _) | (with_reducible refine own_drew ?_) | (with_reducible refine own_drewN ?_) | (with_reducible refine own_kept ?_ (by with_reducible assumption)) | omega | (dsimp only; omega)))) hgrow
          have eM : Box w3 v3.heap.size #[.int .i64 p, .int .i64 b, .int .i64 f] := GR.box (by repeat (first | (with_reducible assumption) | (with_reducible apply Box.new; first | (with_reducible rfl) | omega | (simp only [World.size_alloc, World.size_setCell, World.size_drew, size_drewN] <;> omega)) | (with_reducible apply Box.old) | (with_reducible apply Box.drew) | (with_reducible apply Box.drewN) | (with_reducible apply Box.set) | (with_reducible apply Box.other) | (with_reducible apply Box.only_ (by with_reducible assumption)) | (with_reducible apply Box.kept_ (by with_reducible assumption)) | (simp only [World.size_alloc, World.size_setCell, World.size_drew, size_drewN]; omega) | omega | (dsimp only; omega) | rfl | (simp; done))) (by omega)
          have eP : Box w3 (v3.heap.size + 1) #[.string nm, .int .i64 de, .int .i64 ex, .int .i64 co, .int .i64 fr] := GR.box (by repeat (first | (with_reducible assumption) | (with_reducible apply Box.new; first | (with_reducible rfl) | omega | (simp only [World.size_alloc, World.size_setCell, World.size_drew, size_drewN] <;> omega)) | (with_reducible apply Box.old) | (with_reducible apply Box.drew) | (with_reducible apply Box.drewN) | (with_reducible apply Box.set) | (with_reducible apply Box.other) | (with_reducible apply Box.only_ (by with_reducible assumption)) | (with_reducible apply Box.kept_ (by with_reducible assumption)) | (simp only [World.size_alloc, World.size_setCell, World.size_drew, size_drewN]; omega) | omega | (dsimp only; omega) | rfl | (simp; done))) (by omega)
          have eC : Box w3 v5.heap.size #[.int .i64 t, .int .i64 q] := GR.box (by repeat (first | (with_reducible assumption) | (with_reducible apply Box.new; first | (with_reducible rfl) | omega | (simp only [World.size_alloc, World.size_setCell, World.size_drew, size_drewN] <;> omega)) | (with_reducible apply Box.old) | (with_reducible apply Box.drew) | (with_reducible apply Box.drewN) | (with_reducible apply Box.set) | (with_reducible apply Box.other) | (with_reducible apply Box.only_ (by with_reducible assumption)) | (with_reducible apply Box.kept_ (by with_reducible assumption)) | (simp only [World.size_alloc, World.size_setCell, World.size_drew, size_drewN]; omega) | omega | (dsimp only; omega) | rfl | (simp; done))) (by omega)
          have ek : Kept v5 w3 := GR.kept (by repeat (first | (with_reducible exact Kept.refl _) | (with_reducible assumption) | (with_reducible refine Kept.alloc ?_ _) | (with_reducible refine Kept.drew ?_) | (with_reducible refine Kept.drewN ?_ _) | (with_reducible refine Kept.setCell ?_ ?_ _) | (with_reducible refine Kept.trans ?_ (by with_reducible assumption)) | (simp only [World.size_alloc, World.size_setCell, World.size_drew, size_drewN]; omega) | omega | (dsimp only; omega))) (by omega)
          have ez : v5.heap.size + 1 ≤ w3.heap.size := by have := GR.size; simp only [World.size_alloc] at this; omega
          obtain ⟨g, cap', rfl, hg1, hg2, hg3⟩ := own_form hown3 (by omega)
          have hown3 := Lib.hid hown3
          clear hgrow GR bM bP bC cC hown kw
          go_wp2_with fail
          go_roundw
          case rel => exact ⟨k + 1, some ⟨g, 0, none⟩, cap', by omega, by go_num, rfl, by rw [rep_succ]; exact hown3.out, eM, eP, eC, ek, ez⟩
          case measure => simp [intOf] <;> omega
      · obtain rfl : k = n := by omega
        have zk := kw.size
        have hC : SliceOf CdR 2 bs wr a2 k cap2 (rep k ⟨t, q⟩) := SliceOf.of_owns hown.out (rows2_map cdF _ (fun e _ => rfl) (fun e _ => rfl)) (by simp) (.inl (by omega))
        have OK : ChOk p b f nm de ex co fr 3 l (rep k ⟨t, q⟩) P := ⟨hz, HM.out, HP.out, by omega, HG.out, by rw [HN.out]; exact h6, by rw [HN.out]; simp, fun i hi => by rw [List.length_replicate] at hi; rw [cd_rep hi]; exact HT.out⟩
        have H := Lib.hid OK
        have hrl : (rep k (⟨t, q⟩ : Cd)).length = k := by simp
        have CH := Lib.hid (fun (W : World) (k1 : Spans W) (k2 : Kept wr W) => Chain_ok p b f nm de ex co fr 3 l (rep k ⟨t, q⟩) P ca k ccap a2 cap2 bs bs W k1 OK (HA.out.kept (CntR.stays _) (kw.trans k2)) (hC.kept CdR.stays k2))
        have hgs : gi l 0 = 0 := HG.out.hd
        have hgb := HG.out.bd k (by rw [HN.out]; omega)
        have hgp := HG.out.p1
        rw [HN.out] at hgp
        have b5 := gr_bd (p := p) (f := f) (n := 0) (n' := gi l k) HM.out.1 (by have := HM.out.2.2.2.1; omega) HM.out.2.2.2.2 (by omega) (by omega) (by omega)
        have fb := (fac_bd HP.out.1.2.1 HP.out.1.2.2.1 HT.out).2
        have mb := mul_bd (N := 72000000000) (F := 1221000) b5.1 b5.2 (show 0 ≤ fac ex co t q by omega) fb.2
        have BT : Hid (∀ W, Calls Tryd.prog 28 #[mtr p b f, cnt 0 0, cnt (gi l k % mSpan b) (gi l k)] W (RetIE (grV p f 0 (gi l k)) 0 W)) := Lib.hid (fun W => refBetween_gr p b f 0 0 (gi l k % mSpan b) (gi l k) W HM.out (by have := cOk_modC (b := b) (T := 0) (by omega) (by omega); rwa [Int.zero_emod] at this) (cOk_modC (by omega) (by omega)) (by omega))
        have FT := Lib.hid (fun W => refFactor_ok nm de ex co fr t q W hz HP.out HT.out)
        have WK := Lib.hid (fun (j : Nat) (hj : j ≤ k) => wS_rep (p := p) (f := f) (ex := ex) (co := co) (l := l) (n := k) (c := ⟨t, q⟩) j hj)
        have HG0 := Lib.hid hgs
        have cM := bM.cell
        have cP := bP.cell
        have cC := bC.cell
        clear hown hC OK hgp hgb hgs b5
        go_wp2_with fail
        refine (CH.out _ (Box.kept hsp (kw5.trans (kw.trans (by repeat (first | (with_reducible exact Kept.refl _) | (with_reducible assumption) | (with_reducible refine Kept.alloc ?_ _) | (with_reducible refine Kept.drew ?_) | (with_reducible refine Kept.drewN ?_ _) | (with_reducible refine Kept.setCell ?_ ?_ _) | (with_reducible refine Kept.trans ?_ (by with_reducible assumption)) | (simp only [World.size_alloc, World.size_setCell, World.size_drew, size_drewN]; omega) | omega | (dsimp only; omega)))))) (by repeat (first | (with_reducible exact Kept.refl _) | (with_reducible assumption) | (with_reducible refine Kept.alloc ?_ _) | (with_reducible refine Kept.drew ?_) | (with_reducible refine Kept.drewN ?_ _) | (with_reducible refine Kept.setCell ?_ ?_ _) | (with_reducible refine Kept.trans ?_ (by with_reducible assumption)) | (simp only [World.size_alloc, World.size_setCell, World.size_drew, size_drewN]; omega) | omega | (dsimp only; omega)))).mono ?_
        rintro e v7 ⟨ta, tcap, rfl, hT, c7⟩
        have c7_c := (kcell c7).1; have c7_f := (kcell c7).2; have c7_z := c7.size; try simp only [World.size_alloc, World.size_setCell, World.size_drew, size_drewN] at c7_c c7_f c7_z
        have hT7 := hT bs (by omega)
        have htm := hT7.2.2.1
        have htl := hT7.2.1
        unfold maxLen at htm
        have HTK := Lib.hid hT7
        clear hT hT7 CH
        go_wp2_with fail
        have k8 : Kept v5 (v7.alloc (Obj.cells #[.int .i64 (wS p f ex co l (rep k ⟨t, q⟩) k / 1000000), .int .i64 (wS p f ex co l (rep k ⟨t, q⟩) k % 1000000)] 56)) := kw.trans (by repeat (first | (with_reducible exact Kept.refl _) | (with_reducible assumption) | (with_reducible refine Kept.alloc ?_ _) | (with_reducible refine Kept.drew ?_) | (with_reducible refine Kept.drewN ?_ _) | (with_reducible refine Kept.setCell ?_ ?_ _) | (with_reducible refine Kept.trans ?_ (by with_reducible assumption)) | (simp only [World.size_alloc, World.size_setCell, World.size_drew, size_drewN]; omega) | omega | (dsimp only; omega)))
        have b11 : Box (v7.alloc (Obj.cells #[.int .i64 (wS p f ex co l (rep k ⟨t, q⟩) k / 1000000), .int .i64 (wS p f ex co l (rep k ⟨t, q⟩) k % 1000000)] 56)) v7.heap.size #[.int .i64 (wS p f ex co l (rep k ⟨t, q⟩) k / 1000000), .int .i64 (wS p f ex co l (rep k ⟨t, q⟩) k % 1000000)] := (by repeat (first | (with_reducible assumption) | (with_reducible apply Box.new; first | (with_reducible rfl) | omega | (simp only [World.size_alloc, World.size_setCell, World.size_drew, size_drewN] <;> omega)) | (with_reducible apply Box.old) | (with_reducible apply Box.drew) | (with_reducible apply Box.drewN) | (with_reducible apply Box.set) | (with_reducible apply Box.other) | (with_reducible apply Box.only_ (by with_reducible assumption)) | (with_reducible apply Box.kept_ (by with_reducible assumption)) | (simp only [World.size_alloc, World.size_setCell, World.size_drew, size_drewN]; omega) | omega | (dsimp only; omega) | rfl | (simp; done)))
        have z8 : v5.heap.size + 1 + 1 ≤ (v7.alloc (Obj.cells #[.int .i64 (wS p f ex co l (rep k ⟨t, q⟩) k / 1000000), .int .i64 (wS p f ex co l (rep k ⟨t, q⟩) k % 1000000)] 56)).heap.size := by simp only [World.size_alloc]; omega
        obtain ⟨ab, ao, rfl, hab, e0, e1⟩ := ct_at HA.out kw (show 0 < k + 1 by omega)
        obtain ⟨ab', ao', ea, _, e2, e3⟩ := ct_at HA.out kw (show k < k + 1 by omega)
        obtain ⟨rfl, rfl⟩ : ab' = ab ∧ ao' = ao := by injection ea with ea; injection ea with h1 h2 _; exact ⟨h1.symm, h2.symm⟩
        clear ea
        simp only [Nat.zero_mul, Nat.add_zero, HG0.out, Int.zero_emod] at e0 e1
        have ew := WK.out k (Nat.le_refl k)
        rw [HG0.out] at ew
        obtain ⟨V, hV⟩ : ∃ V, V = wS p f ex co l (rep k ⟨t, q⟩) k / 1000000 := ⟨_, rfl⟩
        obtain ⟨R, hR⟩ : ∃ R, R = wS p f ex co l (rep k ⟨t, q⟩) k % 1000000 := ⟨_, rfl⟩
        have EV := Lib.hid (show V = grV p f 0 (gi l k) * fac ex co t q / 1000000 by rw [hV, ew])
        have ER := Lib.hid (show R = grV p f 0 (gi l k) * fac ex co t q % 1000000 by rw [hR, ew])
        rw [← hV, ← hR]
        rw [← hV, ← hR] at k8 b11 z8
        have HV := Lib.hid hV
        clear hV hR ew
        have hab2 : ab' < wr.heap.size := by omega
        generalize grV p f 0 (gi l k) = G at *
        generalize fac ex co t q = F at *
        have g1 : IntKind.i64.wrap ((k : Int) + 1 - 1) = k := by rw [show (k : Int) + 1 - 1 = k by omega]; exact IntWalk.i64_in _ (by omega)
        have g2 : (k : Int) < (k : Int) + 1 := by omega
        have g4 : IntKind.i64.wrap (k : Int) = k := IntWalk.i64_in _ (by omega)
        have g3 : (0 : Int) < (k : Int) + 1 := by omega
        refine wp_region_kw (by kernel_rfl) (by kernel_rfl) ?_
        repeat (go_big_quiet_step ((go_at_call 28; exact kw_call (BT.out _))))
        refine wpQuiet_nil ?_
        intro _ hw'
        obtain ⟨kq, hw''⟩ := hw'
        subst hw''
        obtain ⟨wq, hwq⟩ := kq
        dsimp only
        have hwq_c := (kcell hwq).1; have hwq_f := (kcell hwq).2; have hwq_z := hwq.size; try simp only [World.size_alloc, World.size_setCell, World.size_drew, size_drewN] at hwq_c hwq_f hwq_z
        go_wp2_with fail
        refine (FT.out _).mono ?_
        rintro e v9 ⟨rfl, c9⟩
        have c9_c := (kcell c9).1; have c9_f := (kcell c9).2; have c9_z := c9.size; try simp only [World.size_alloc, World.size_setCell, World.size_drew, size_drewN] at c9_c c9_f c9_z
        go_wp2_with fail
        have k89 := hwq.trans c9
        have d11 : Box v9 v7.heap.size #[.int .i64 V, .int .i64 R] := Box.kept b11 k89
        have kv9 : Kept v7 v9 := ((Kept.refl v7).alloc _).trans k89
        have kc9 : Kept v5 v9 := k8.trans k89
        have kz9 : Kept w v9 := kw5.trans kc9
        have MX := Lib.hid (show G * F ≤ 72000000000 * 1221000 from mb.2)
        have M0 := mb.1
        have hWb := Lib.hid (fun (j : Nat) (hj : j ≤ k) => H.out.bd j (by rw [hrl]; exact hj))
        have HR := Lib.hid hrl
        have TT : Hid (∀ W, Kept v7 W → Calls Tryd.prog 26 #[.slice ta k tcap, .int .i64 3] W (Ret (.int .i64 V) W)) := Lib.hid (fun W k' => by
          have := Total_any ta k tcap 3 _ bs W (HTK.out.kept TkR.stays k') (by omega)
          rw [H.out.tot k (by rw [HR.out]; exact Nat.le_refl k), ← HV.out] at this
          exact this)
        clear k89 c7 c7_c c7_f c7_z hwq hwq_c hwq_f hwq_z c9 c9_c c9_f c9_z b11 k8 z8 cM cP cC bM bP bC kw e0 e1 e2 e3 FT BT WK mb fb g1 g2 g3 g4 hrl
        go_loopw [17, 18] (fun sm i wx => ∃ (j : Nat) (S : Int), j ≤ k ∧ i = .int .i64 j ∧ sm = .int .i64 S ∧ Hid (S = wS p f ex co l (rep k ⟨t, q⟩) j / 1000000) ∧ Kept v9 wx) (fun _ i _ => k - (intOf i).toNat)
        case atStart => exact ⟨0, 0, Nat.zero_le _, rfl, rfl, Lib.hid (by show (0 : Int) = 0 / 1000000; decide), (by repeat (first | (with_reducible exact Kept.refl _) | (with_reducible assumption) | (with_reducible refine Kept.alloc ?_ _) | (with_reducible refine Kept.drew ?_) | (with_reducible refine Kept.drewN ?_ _) | (with_reducible refine Kept.setCell ?_ ?_ _) | (with_reducible refine Kept.trans ?_ (by with_reducible assumption)) | (simp only [World.size_alloc, World.size_setCell, World.size_drew, size_drewN]; omega) | omega | (dsimp only; omega)))⟩
        case round =>
          obtain ⟨j, S, hj, rfl, rfl, hS, kx⟩ := hrel
          have bj := hWb.out j hj
          by_cases hjk : j < k
          · obtain ⟨tb, toff, rfl, htb, t0, t1, t2, t3, t4, t5, t6, t7⟩ := tk_at HTK.out (kv9.trans kx) hjk
            obtain ⟨ab, ao, ea, hab3, e0, e1⟩ := ct_at HA.out (kc9.trans kx) (show j < k + 1 by omega)
            obtain ⟨rfl, rfl⟩ : ab' = ab ∧ ao' = ao := by injection ea with ea; injection ea with h1 h2 _; exact ⟨h1, h2⟩
            clear ea
            obtain ⟨ab, ao, ea, _, e2, e3⟩ := ct_at HA.out (kc9.trans kx) (show j + 1 < k + 1 by omega)
            obtain ⟨rfl, rfl⟩ : ab' = ab ∧ ao' = ao := by injection ea with ea; injection ea with h1 h2 _; exact ⟨h1, h2⟩
            clear ea
            rw [tks_get hjk] at t0 t1 t2 t3 t4 t5 t6 t7
            dsimp only [mkT] at t0 t1 t2 t3 t4 t5 t6 t7
            have bj1 := hWb.out (j + 1) (by omega)
            have vS : 0 ≤ S ∧ S ≤ 2199023255552 := by have := hS.out; omega
            obtain ⟨W1, hW1⟩ : ∃ W1, W1 = wS p f ex co l (rep k ⟨t, q⟩) (j + 1) / 1000000 := ⟨_, rfl⟩
            have vW : 0 ≤ W1 ∧ W1 ≤ 2199023255552 := by omega
            rw [← hW1, ← hS.out] at t7
            have HW1 := Lib.hid hW1
            clear hW1 bj bj1
            obtain ⟨vS0, vS1⟩ := vS
            obtain ⟨vW0, vW1⟩ := vW
            generalize gi l j % mSpan b = XL at *
            generalize gi l (j + 1) % mSpan b = YL at *
            generalize gi l j = X at *
            generalize gi l (j + 1) = Y at *
            have htb2 := (kv9.trans kx).size
            have g1 : (j : Int) < k := by omega
            have g2 : (j : Int) + 1 < (k : Int) + 1 := by omega
            have g3 : IntKind.i64.wrap ((j : Int) + 1) = (j : Int) + 1 := IntWalk.i64_in _ (by omega)
            have g4 : (j : Int) < (k : Int) + 1 := by omega
            have g6 : IntKind.i64.wrap (W1 - S) = W1 - S := IntWalk.i64_in _ (by omega)
            have g7 : IntKind.i64.wrap (S + (W1 - S)) = W1 := by rw [show S + (W1 - S) = W1 by omega]; exact IntWalk.i64_in _ (by omega)
            go_wp2_with fail
            go_quiet (fail)
            go_wp2
            go_roundw
            case rel => exact ⟨j + 1, W1, by omega, by go_num, by first | rfl | go_num, Lib.hid HW1.out, (by repeat (first | (with_reducible exact Kept.refl _) | (with_reducible assumption) | (with_reducible refine Kept.alloc ?_ _) | (with_reducible refine Kept.drew ?_) | (with_reducible refine Kept.drewN ?_ _) | (with_reducible refine Kept.setCell ?_ ?_ _) | (with_reducible refine Kept.trans ?_ (by with_reducible assumption)) | (simp only [World.size_alloc, World.size_setCell, World.size_drew, size_drewN]; omega) | omega | (dsimp only; omega)))⟩
            case measure => simp [intOf] <;> omega
          · obtain rfl : j = k := by omega
            obtain rfl : S = V := by rw [hS.out]; exact HV.out.symm
            have e11 := Box.kept d11 kx
            have cR := e11.cell
            have lR := e11.lt
            have hMX := MX.out
            have wm : IntKind.i64.wrap (G * F) = G * F := IntWalk.i64_in _ (by omega)
            have td : (G * F).tdiv 1000000 = S := by rw [EV.out]; exact Int.tdiv_eq_ediv_of_nonneg M0
            have tm : (G * F).tmod 1000000 = R := by rw [ER.out]; exact Int.tmod_eq_emod_of_nonneg M0
            have hS0 : 0 ≤ S ∧ S ≤ 1099511627776 := by have := EV.out; omega
            have hR0 : 0 ≤ R ∧ R ≤ 999999 := by have := ER.out; omega
            have wS' : IntKind.i64.wrap S = S := IntWalk.i64_in _ (by omega)
            have wR' : IntKind.i64.wrap R = R := IntWalk.i64_in _ (by omega)
            clear hS bj
            go_wp2_with fail
            refine (TT.out _ (kv9.trans (kx.trans (by repeat (first | (with_reducible exact Kept.refl _) | (with_reducible assumption) | (with_reducible refine Kept.alloc ?_ _) | (with_reducible refine Kept.drew ?_) | (with_reducible refine Kept.drewN ?_ _) | (with_reducible refine Kept.setCell ?_ ?_ _) | (with_reducible refine Kept.trans ?_ (by with_reducible assumption)) | (simp only [World.size_alloc, World.size_setCell, World.size_drew, size_drewN]; omega) | omega | (dsimp only; omega)))))).mono ?_
            rintro e v10 ⟨rfl, c10⟩
            have c10_c := (kcell c10).1; have c10_f := (kcell c10).2; have c10_z := c10.size; try simp only [World.size_alloc, World.size_setCell, World.size_drew, size_drewN] at c10_c c10_f c10_z
            go_wp2_with fail
            refine (tkAwake _ (Box.kept hsp (kz9.trans (kx.trans (by repeat (first | (with_reducible exact Kept.refl _) | (with_reducible assumption) | (with_reducible refine Kept.alloc ?_ _) | (with_reducible refine Kept.drew ?_) | (with_reducible refine Kept.drewN ?_ _) | (with_reducible refine Kept.setCell ?_ ?_ _) | (with_reducible refine Kept.trans ?_ (by with_reducible assumption)) | (simp only [World.size_alloc, World.size_setCell, World.size_drew, size_drewN]; omega) | omega | (dsimp only; omega))))))).mono ?_
            rintro e v11 ⟨rfl, c11⟩
            have c11_c := (kcell c11).1; have c11_f := (kcell c11).2; have c11_z := c11.size; try simp only [World.size_alloc, World.size_setCell, World.size_drew, size_drewN] at c11_c c11_f c11_z
            go_wp2
            go_ret
            exact ⟨rfl, kz9.trans (kx.trans (by repeat (first | (with_reducible exact Kept.refl _) | (with_reducible assumption) | (with_reducible refine Kept.alloc ?_ _) | (with_reducible refine Kept.drew ?_) | (with_reducible refine Kept.drewN ?_ _) | (with_reducible refine Kept.setCell ?_ ?_ _) | (with_reducible refine Kept.trans ?_ (by with_reducible assumption)) | (simp only [World.size_alloc, World.size_setCell, World.size_drew, size_drewN]; omega) | omega | (dsimp only; omega))))⟩
  · have F := Lib.hid (fun W => decide_eq_false hf ▸ Few_anyC a len cap W (by have h1 := h.1; have h2 := h.2.1; unfold maxLen at h2; omega))
    go_enter Tryd.func5, Tryd.ntmps5
    go_wp2_with fail
    refine (F.out _).mono ?_
    rintro e v0 ⟨rfl, rfl⟩
    go_wp2_with fail
    refine (tkAwake _ hsp).mono ?_
    rintro e v1 ⟨rfl, c1⟩
    have c1_c := (kcell c1).1; have c1_f := (kcell c1).2; have c1_z := c1.size; try simp only [World.size_alloc, World.size_setCell, World.size_drew, size_drewN] at c1_c c1_f c1_z
    go_wp2
    go_ret
    exact ⟨rfl, (by repeat (first | (with_reducible exact Kept.refl _) | (with_reducible assumption) | (with_reducible refine Kept.alloc ?_ _) | (with_reducible refine Kept.drew ?_) | (with_reducible refine Kept.drewN ?_ _) | (with_reducible refine Kept.setCell ?_ ?_ _) | (with_reducible refine Kept.trans ?_ (by with_reducible assumption)) | (simp only [World.size_alloc, World.size_setCell, World.size_drew, size_drewN]; omega) | omega | (dsimp only; omega)))⟩
end Go.Proofs.YtbclfphnhbmhoaaDoor
