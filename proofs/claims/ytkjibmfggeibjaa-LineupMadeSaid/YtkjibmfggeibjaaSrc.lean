
/- Walks of the reader of numbers: batchlinekeep.Mod, Src.Raw, Src.N, Src.Range, Src.Pick. -/
import Derived.Test.YtkjibmfggeibjaaRows
import Derived.Test.YtkjibmfggeibjaaBase
namespace Go.Proofs.Ytkjibmfggeibjaa
open Go.RowKit
set_option linter.unusedVariables false
set_option linter.unusedSimpArgs false

set_option maxHeartbeats 400000 in
theorem Mod_any (x n : Int) (w : World) (hx : I64 x) (h : 1 ≤ n) (h' : n ≤ 9223372036854775807) :
    Calls Try.prog 86 #[.int .i64 x, .int .i64 n] w fun e w' => e = .returned (.int .i64 (x % n)) ∧ w = w' := by
  obtain ⟨hx1, hx2⟩ := hx
  have l := Int.tmod_lt_of_pos x (show 0 < n by omega)
  have l2 := Int.lt_tmod_of_pos x (show 0 < n by omega)
  have n0 : (n == 0) = false := by rw [beq_eq_false_iff_ne]; omega
  have em := Int.emod_nonneg x (show n ≠ 0 by omega)
  have el := Int.emod_lt_of_pos x (show 0 < n by omega)
  by_cases hs : x.tmod n < 0
  · have H := Lib.hid (show x.tmod n + n = x % n by
      have e := Int.tmod_add_mul_tdiv x n
      exact ((Int.ediv_emod_unique (a := x) (b := n) (r := x.tmod n + n) (q := x.tdiv n - 1) (by omega)).2 ⟨by rw [Int.mul_sub]; omega, by omega, by omega⟩).2.symm)
    clear em el
    go_enter Try.func86, Try.ntmps86
    go_wp2
    go_ret
    exact ⟨ret_i H.out, rfl⟩
  · have H := Lib.hid (show x.tmod n = x % n by
      have e := Int.tmod_add_mul_tdiv x n
      exact ((Int.ediv_emod_unique (a := x) (b := n) (r := x.tmod n) (q := x.tdiv n) (by omega)).2 ⟨by omega, by omega, by omega⟩).2.symm)
    by_cases hx0 : 0 ≤ x
    · go_enter Try.func86, Try.ntmps86
      go_wp2
      go_ret
      exact ⟨rfl, rfl⟩
    · clear em el
      go_enter Try.func86, Try.ntmps86
      go_wp2
      go_ret
      exact ⟨ret_i H.out, rfl⟩

/-- The call returns some int, and has read it from the reader. -/
def Reads (P : Int → Prop) (base bs : Nat) (w : World) (e : Ending) (w' : World) : Prop :=
  ∃ n : Int, P n ∧ e = .returned (.int .i64 n) ∧ IsSrc base w' bs ∧ Only bs w w'

set_option maxHeartbeats 400000 in
theorem Raw_any (base : Nat) (w : World) (bs : Nat) (h : IsSrc base w bs) :
    Calls Try.prog 87 #[.pointer (some ⟨bs, 0, none⟩)] w (Reads I64 base bs w) := by
  obtain ⟨a, len, cap, at', t, h1, h2, h3, h4, h5, h6⟩ := id h
  have c0 : w.cell? ⟨bs, 0, none⟩ = some (.slice a len cap) := by simp [World.cell?, h5]
  have c1 : w.cell? ⟨bs, 1, none⟩ = some (.int .i64 at') := by simp [World.cell?, h5]
  have f1 : w.frozen? ⟨bs, 1, none⟩ = false := by simp [World.frozen?, h5]
  by_cases hl : at' < len
  · obtain ⟨b, o, rfl, hbb, hc⟩ := h6 (by omega)
    obtain ⟨n, hn, hcell⟩ := hc at' hl
    have hne : b ≠ bs := by omega
    have HH := Lib.hid h
    have H5 := Lib.hid h5
    have HC := Lib.hid hc
    clear h h5 h6 hc
    have HF := Lib.hid (show IsSrc base (w.setCell ⟨bs, 1, none⟩ (.int .i64 (at' + 1))) bs by
      refine ⟨some ⟨b, o, none⟩, len, cap, at' + 1, t, h1, by simpa [World.setCell] using h2, h3, by omega, ?_, fun _ => ⟨b, o, rfl, hbb, fun i hi => ?_⟩⟩
      · have e5 := H5.out
        have hz : bs < w.heap.size := h2
        simp only [World.setCell, Array.getElem?_modify, if_pos, e5, Option.map_some]
        simp
      · obtain ⟨m, hm, hcm⟩ := HC.out i hi
        refine ⟨m, hm, ?_⟩
        rw [World.cell?_of_block (w := w) (Below.heap_setCell _ _ _ _ hne)]
        exact hcm)
    clear h2
    go_enter Try.func87, Try.ntmps87
    go_wp2
    go_quiet (fail)
    go_wp2
    go_quiet (fail)
    go_wp2
    go_ret
    exact ⟨n, hn, rfl, HF.out.heap rfl, (((Only.refl bs w).drewN _).setCell (.inl rfl) _).drewN _⟩
  · have HH := Lib.hid h
    clear h h5 h6
    go_enter Try.func87, Try.ntmps87
    go_wp2
    go_quiet (fail)
    go_wp2
    go_ret
    exact ⟨0, by unfold I64; omega, rfl, HH.out.drewN _, (Only.refl bs w).drewN _⟩

/-- A number from lo to hi. -/
def InR (lo hi : Int) (n : Int) : Prop := lo ≤ n ∧ n ≤ hi

set_option maxHeartbeats 400000 in
theorem N_any (base : Nat) (w : World) (bs : Nat) (n : Int) (h : IsSrc base w bs) (hn : 1 ≤ n) (hn' : n ≤ 9223372036854775807) :
    Calls Try.prog 24 #[.pointer (some ⟨bs, 0, none⟩), .int .i64 n] w (Reads (InR 0 (n - 1)) base bs w) := by
  go_enter Try.func24, Try.ntmps24
  go_wp2_with fail
  refine (Raw_any base w bs h).mono ?_
  rintro e w1 ⟨r, hr, rfl, hs, ho⟩
  go_wp2_with fail
  refine (Mod_any r n _ hr hn hn').mono ?_
  rintro e w2 ⟨rfl, rfl⟩
  go_wp2
  go_ret
  have em := Int.emod_nonneg r (show n ≠ 0 by omega)
  have el := Int.emod_lt_of_pos r (show 0 < n by omega)
  exact ⟨r % n, ⟨em, by omega⟩, rfl, hs, ho⟩

set_option maxHeartbeats 400000 in
theorem Range_any (base : Nat) (w : World) (bs : Nat) (lo hi : Int) (h : IsSrc base w bs) (h1 : lo ≤ hi) (h2 : -4611686018427387904 ≤ lo) (h3 : hi ≤ 4611686018427387903) (h4 : hi - lo ≤ 9223372036854775806) :
    Calls Try.prog 27 #[.pointer (some ⟨bs, 0, none⟩), .int .i64 lo, .int .i64 hi] w (Reads (InR lo hi) base bs w) := by
  go_enter Try.func27, Try.ntmps27
  go_wp2_with fail
  refine (N_any base w bs _ h (by omega) (by omega)).mono ?_
  rintro e w1 ⟨r, ⟨hr1, hr2⟩, rfl, hs, ho⟩
  go_wp2
  go_ret
  exact ⟨lo + r, ⟨by omega, by omega⟩, rfl, hs, ho⟩

/-- A row of len cells from b, o on, each of which holds a value with the property. -/
def RowOf (w : World) (b o len : Nat) (Q : Value → Prop) : Prop := ∀ i, i < len → ∃ v, Q v ∧ w.cell? ⟨b, o + i, none⟩ = some v
theorem RowOf.only {w w' : World} {b o len bs : Nat} {Q : Value → Prop} (h : RowOf w b o len Q) (k : Only bs w w') (hb : b < w.heap.size) (hn : b ≠ bs) : RowOf w' b o len Q := fun i hi => by
  obtain ⟨v, hv, hc⟩ := h i hi
  exact ⟨v, hv, by rw [ocell1 k hb hn]; exact hc⟩
theorem RowOf.new {w : World} {n k : Nat} {c : Array Value} {t : TypeId} {fr : Nat × Nat} {Q : Value → Prop} (hn : n = w.heap.size) (hk : k = c.size) (h : ∀ v ∈ c, Q v) : RowOf (w.alloc (.cells c t fr)) n 0 k Q := fun i hi => by
  subst hn hk
  refine ⟨c[i], h _ (Array.getElem_mem hi), ?_⟩
  rw [cell_alloc_ite, if_neg (by omega), if_pos rfl]
  simp [hi]
def IntIs (P : Int → Prop) (v : Value) : Prop := ∃ n, P n ∧ v = .int .i64 n

set_option maxHeartbeats 400000 in
theorem Pick_any (base : Nat) (w : World) (bs b o len cap : Nat) (P : Int → Prop) (h : IsSrc base w bs) (h1 : 1 ≤ len) (h2 : len ≤ 1000000) (hb : b < w.heap.size) (hn : b ≠ bs) (hr : RowOf w b o len (IntIs P)) :
    Calls Try.prog 79 #[.pointer (some ⟨bs, 0, none⟩), .slice (some ⟨b, o, none⟩) len cap] w (Reads P base bs w) := by
  have HR := Lib.hid hr
  clear hr
  go_enter Try.func79, Try.ntmps79
  go_wp2_with fail
  refine (N_any base w bs _ h (by omega) (by omega)).mono ?_
  rintro e w1 ⟨r, ⟨hr1, hr2⟩, rfl, hs, ho⟩
  obtain ⟨k, rfl⟩ := Int.eq_ofNat_of_zero_le hr1
  have hk : k < len := by omega
  obtain ⟨v, ⟨n, hp, rfl⟩, hc⟩ := HR.out.only ho hb hn k hk
  go_wp2
  go_ret
  exact ⟨n, hp, rfl, hs, ho⟩

def StrIs (P : ByteArray → Prop) (v : Value) : Prop := ∃ s, P s ∧ v = .string s

/-- A slice of ints that came in. -/
def ArgInts (w : World) (a : Option Addr) (len cap : Nat) : Prop :=
  len ≤ cap ∧ cap ≤ maxLen ∧ (0 < len → ∃ b o, a = some ⟨b, o, none⟩ ∧ b < w.heap.size ∧ RowOf w b o len (IntIs I64))
/-- A slice of ints that came in, as a row's proof opens it: nil, or 'cap' cells. -/
def IsRow (k : IntKind) (w : World) (a : Option Addr) (len cap : Nat) (zs : List Int) : Prop :=
  (a = none ∧ len = 0 ∧ cap = 0 ∧ zs = []) ∨
  ∃ x, a = some x ∧ len ≤ cap ∧ cap ≤ maxLen ∧ zs.length = cap ∧ (∀ i, i < zs.length → w.cell? (x.add i) = some (.int k (zs.getD i 0))) ∧ ∀ n ∈ zs, (Lit.int k n).wf = true
theorem argInts_of {w : World} {a : Option Addr} {len cap : Nat} {zs : List Int} (h : IsRow .i64 w a len cap zs) : ArgInts w a len cap := by
  rcases h with ⟨rfl, rfl, rfl, _⟩ | ⟨x, rfl, h1, h2, h3, h4, h5⟩
  · exact ⟨Nat.le_refl _, Nat.zero_le _, fun h => absurd h (by omega)⟩
  · refine ⟨h1, h2, fun hp => ?_⟩
    obtain ⟨b, o, rfl, hc⟩ := ints_at h4 (by omega)
    refine ⟨b, o, rfl, ?_, fun i hi => ?_⟩
    · rcases Nat.lt_or_ge b w.heap.size with h | h
      · exact h
      · exfalso
        have hc0 := hc 0 (by omega)
        simp only [World.cell?] at hc0
        rw [Array.getElem?_eq_none h] at hc0
        simp at hc0
    · refine ⟨_, ⟨zs.getD i 0, ?_, rfl⟩, hc i (by omega)⟩
      have hm : zs.getD i 0 ∈ zs := by
        rw [List.getD_eq_getElem?_getD, List.getElem?_eq_getElem (by omega)]
        exact List.getElem_mem _
      exact bounds_i64 (h5 _ hm)
def MadeSrc (w : World) (e : Ending) (w' : World) : Prop := ∃ bs, e = .returned (.pointer (some ⟨bs, 0, none⟩)) ∧ IsSrc w.heap.size w' bs ∧ Kept w w'

set_option maxHeartbeats 400000 in
theorem New_any (a : Option Addr) (len cap : Nat) (w : World) (h : ArgInts w a len cap) :
    Calls Try.prog 18 #[.slice a len cap] w (MadeSrc w) := by
  obtain ⟨h1, h2, h3⟩ := h
  have HA := Lib.hid h3
  clear h3
  unfold maxLen at h2
  by_cases hl : len ≤ 2000
  all_goals
    go_enter Try.func18, Try.ntmps18
    go_wp2
    go_ret
    refine ⟨_, rfl, ⟨a, _, cap, 0, _, Nat.le_refl _, by simp, ?_, Nat.zero_le _, heap_new w _, fun hp => ?_⟩, (Kept.refl w).alloc _⟩
    · omega
    · obtain ⟨b, o, e, hb, hr⟩ := HA.out (by omega)
      refine ⟨b, o, e, hb, fun i hi => ?_⟩
      obtain ⟨v, ⟨n, hn, rfl⟩, hc⟩ := hr i (by omega)
      exact ⟨n, hn, by rw [kcell1 ((Kept.refl w).alloc _) hb]; exact hc⟩
end Go.Proofs.Ytkjibmfggeibjaa
