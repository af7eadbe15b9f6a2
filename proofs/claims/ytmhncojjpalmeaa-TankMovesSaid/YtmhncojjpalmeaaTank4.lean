/- The level of a volume: the walk of Level. -/
import Derived.Test.YtmhncojjpalmeaaTank3
namespace Go.Proofs.Ytmhncojjpalmeaa
open Go.RowKit
set_option linter.unusedVariables false
set_option linter.unusedSimpArgs false

/-- The least number from k on, at most f further, at which the test says yes. -/
def leastN (p : Nat → Bool) : Nat → Nat → Nat
  | 0, k => k
  | f + 1, k => if p k = true then k else leastN p f (k + 1)
theorem leastN_spec (p : Nat → Bool) : ∀ f k, k ≤ leastN p f k ∧ leastN p f k ≤ k + f ∧ (∀ i, k ≤ i → i < leastN p f k → p i = false) ∧ (leastN p f k = k + f ∨ p (leastN p f k) = true)
  | 0, k => ⟨Nat.le_refl _, Nat.le_refl _, fun i h1 h2 => absurd h2 (by unfold leastN; omega), .inl rfl⟩
  | f + 1, k => by
    unfold leastN
    by_cases h : p k = true
    · rw [if_pos h]
      exact ⟨Nat.le_refl _, by omega, fun i h1 h2 => absurd h2 (by omega), .inr h⟩
    · rw [if_neg h]
      obtain ⟨a, b, c, d⟩ := leastN_spec p f (k + 1)
      refine ⟨by omega, by omega, fun i h1 h2 => ?_, by rcases d with d | d; exact .inl (by omega); exact .inr d⟩
      rcases Nat.lt_or_eq_of_le h1 with h3 | h3
      · exact c i h3 h2
      · subst h3; simpa using h
theorem found_least {n r : Nat} {p : Nat → Bool} (mono : ∀ a b, a ≤ b → b < n → p a = true → p b = true) (h0 : r ≤ n) (h1 : r = 0 ∨ p (r - 1) = false) (h2 : r = n ∨ p r = true) : r = leastN p n 0 := by
  obtain ⟨_, b, c, d⟩ := leastN_spec p n 0
  rcases Nat.lt_trichotomy r (leastN p n 0) with h | h | h
  · have := c r (Nat.zero_le _) h
    rcases h2 with h2 | h2
    · omega
    · rw [this] at h2; cases h2
  · exact h
  · rcases d with d | d
    · omega
    · rcases h1 with h1 | h1
      · omega
      · rw [mono _ (r - 1) (by omega) (by omega) d] at h1; cases h1

/-- The test of a search for a level: whether the level that is k above the first one has at least v. -/
def lvP (l : List Strap) (v : Int) (k : Nat) : Bool := decide (v ≤ vol l ((fst l).lv + k))
def lvN (l : List Strap) : Nat := ((lst l).lv - (fst l).lv).toNat
/-- The level of a volume. -/
def lvl (l : List Strap) (v : Int) : Int := (fst l).lv + (leastN (lvP l v) (lvN l) 0 : Nat)
theorem ends_lt {l : List Strap} (h : Straps l) : (fst l).lv < (lst l).lv ∧ (fst l).vl < (lst l).vl ∧ stNum (fst l) ∧ stNum (lst l) := by
  have h2 := h.two
  have := asc_of h.ok 0 (l.length - 1) (by omega) (by omega)
  exact ⟨this.1, this.2, (h.ok 0 (by omega)).1, (h.ok (l.length - 1) (by omega)).1⟩
theorem inL_add {l : List Strap} (h : Straps l) {k : Nat} (hk : k ≤ lvN l) : InL l ((fst l).lv + k) := by
  have := (ends_lt h).1
  unfold lvN at hk
  exact ⟨by omega, by omega⟩
theorem lvP_mono {l : List Strap} (h : Straps l) (v : Int) : ∀ a b, a ≤ b → b < lvN l → lvP l v a = true → lvP l v b = true := by
  intro a b hab hb ha
  have h1 := of_decide_eq_true ha
  have h2 := vol_mono h (inL_add h (show a ≤ lvN l by omega)) (inL_add h (show b ≤ lvN l by omega)) (by omega)
  exact decide_eq_true (by omega)
/-- What the level of a volume is: the least one at which the tank has at least so much. -/
theorem lvl_spec {l : List Strap} (h : Straps l) {v : Int} (hv : (fst l).vl ≤ v ∧ v ≤ (lst l).vl) : InL l (lvl l v) ∧ v ≤ vol l (lvl l v) ∧ (lvl l v = (fst l).lv ∨ vol l (lvl l v - 1) < v) := by
  obtain ⟨_, b, c, d⟩ := leastN_spec (lvP l v) (lvN l) 0
  rw [Nat.zero_add] at b d
  have e := ends_lt h
  have hin := inL_add h b
  refine ⟨hin, ?_, ?_⟩
  · rcases d with d | d
    · unfold lvl
      rw [d]
      have : (fst l).lv + (lvN l : Int) = (lst l).lv := by unfold lvN; omega
      rw [this]
      have := (vol_strap h (i := l.length - 1) (by have := h.two; omega)).2
      unfold lst at hv ⊢
      rw [this]; exact hv.2
    · exact of_decide_eq_true d
  · unfold lvl
    rcases Nat.eq_zero_or_pos (leastN (lvP l v) (lvN l) 0) with h0 | h0
    · left; rw [h0]; simp
    · right
      have := of_decide_eq_false (c (leastN (lvP l v) (lvN l) 0 - 1) (Nat.zero_le _) (by omega))
      rw [show (fst l).lv + ((leastN (lvP l v) (lvN l) 0 : Nat) : Int) - 1 = (fst l).lv + ((leastN (lvP l v) (lvN l) 0 - 1 : Nat) : Int) by omega]
      omega
theorem lvl_unique {l : List Strap} (h : Straps l) {v m : Int} (hv : (fst l).vl ≤ v ∧ v ≤ (lst l).vl) (h1 : InL l m) (h2 : v ≤ vol l m) (h3 : m = (fst l).lv ∨ vol l (m - 1) < v) : m = lvl l v := by
  obtain ⟨a, b, c⟩ := lvl_spec h hv
  rcases Int.lt_trichotomy m (lvl l v) with hlt | heq | hgt
  · have hin : InL l (lvl l v - 1) := ⟨by have := h1.1; omega, by have := a.2; omega⟩
    rcases c with c | c
    · have := h1.1; omega
    · have := vol_mono h h1 hin (by omega); omega
  · exact heq
  · have hin : InL l (m - 1) := ⟨by have := a.1; omega, by have := h1.2; omega⟩
    rcases h3 with h3 | h3
    · have := a.1; omega
    · have := vol_mono h a hin (by omega); omega

set_option maxHeartbeats 1000000 in
theorem levFn_any (nm : ByteArray) (a : Option Addr) (len cap : Nat) (lo hi v s : Int) (l : List Strap) (p1 p2 p3 z : Nat) (i : Nat) (w : World) (hS : SliceOf StrapR 2 z w a len cap l) (h : Straps l) (hi' : i < lvN l)
    (h1 : Box w p1 #[.string nm, .slice a len cap, .int .i64 lo, .int .i64 hi]) (h2 : Box w p2 #[.int .i64 (fst l).lv, .int .i64 s]) (h3 : Box w p3 #[.int .i64 v]) :
    Calls Try.prog 32 #[.int .i64 i, .pointer (some ⟨p1, 0, none⟩), .pointer (some ⟨p2, 0, none⟩), .pointer (some ⟨p3, 0, none⟩)] w (Ret (.bool (lvP l v i)) w) := by
  have e := ends_lt h
  obtain ⟨_, _, ⟨⟨n1, n2⟩, _⟩, ⟨⟨m1, m2⟩, _⟩⟩ := e
  have hin := inL_add h (show i ≤ lvN l by omega)
  have f0 : 0 ≤ (fst l).lv + (i : Int) ∧ (fst l).lv + (i : Int) ≤ 1048576 := by have := hin.2; omega
  have ew : IntKind.i64.wrap ((fst l).lv + (i : Int)) = (fst l).lv + (i : Int) := IntWalk.i64_in _ (by omega)
  have HX := Lib.hid (fun (k : KW w) => vol_call nm a len cap lo hi ((fst l).lv + i) l z k.it (hS.kept StrapR.stays k.kept) h hin)
  have HP := Lib.hid (show lvP l v i = decide (v ≤ vol l ((fst l).lv + i)) from rfl)
  have e1 := h1.cell
  have e2 := h2.cell
  have e3 := h3.cell
  have l1 := h1.lt
  have l2 := h2.lt
  have l3 := h3.lt
  clear hS h hin hi' h1 h2 h3
  generalize hV : vol l ((fst l).lv + (i : Int)) = V at *
  clear hV
  generalize (fst l).lv = F at *
  go_enter Try.func32, Try.ntmps32
  go_wp2_with fail
  refine wp_region_kw (by kernel_rfl) (by kernel_rfl) ?_
  repeat (go_big_quiet_step ((go_at_call 23; exact kw_call (HX.out _))))
  refine wpQuiet_nil ?_
  intro _ hw'
  obtain ⟨kq, hw''⟩ := hw'
  subst hw''
  obtain ⟨wq, hwq⟩ := kq
  dsimp only
  go_wp2
  go_ret
  exact ⟨ret_b HP.out.symm, (by repeat (first | (with_reducible exact Kept.refl _) | (with_reducible assumption) | (with_reducible refine Kept.alloc ?_ _) | (with_reducible refine Kept.drew ?_) | (with_reducible refine Kept.drewN ?_ _) | (with_reducible refine Kept.setCell ?_ ?_ _) | (with_reducible refine Kept.trans ?_ (by with_reducible assumption)) | (simp only [World.size_alloc, World.size_setCell, World.size_drew, size_drewN]; omega) | omega | (dsimp only; omega)))⟩
end Go.Proofs.Ytmhncojjpalmeaa
