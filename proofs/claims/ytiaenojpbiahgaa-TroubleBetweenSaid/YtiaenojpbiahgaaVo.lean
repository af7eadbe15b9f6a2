
/- From the program's operations to operations over abstract data. -/
import Derived.Test.YtiaenojpbiahgaaVn
import Derived.Test.YtiaenojpbiahgaaVi2
namespace Go.Proofs.Ytiaenojpbiahgaa
open Go
set_option linter.unusedVariables false
set_option linter.unusedSimpArgs false

/-- Both halves of what a compiled operation owes. -/
def KOk (P : Program) (op : Op) (k : K) : Prop := SoundK P op k ∧ SoundCall P op k
theorem KOk.plain {P : Program} {op : Op} {k : K} (h : SoundK P op k) (hc : ∀ F, callee F k = Option.none) : KOk P op k := ⟨h, fun E Im p s a w d f args _ _ he _ => by rw [hc] at he; cases he⟩
def zeroD (z : Value) : Option (List D) := if z.cells.toList.all one = true then some (z.cells.toList.map ofC) else Option.none
theorem zeroD_spec {z : Value} {l : List D} (h : zeroD z = some l) : l = z.cells.toList.map ofC ∧ z.cells.toList.all one = true := by
  unfold zeroD at h
  split at h
  · cases h; exact ⟨rfl, ‹_›⟩
  · cases h
def copdL : List Operand → Option (List Opd)
  | [] => some []
  | x :: xs =>
    match copd x, copdL xs with
    | some y, some ys => some (y :: ys)
    | _, _ => Option.none
theorem copdL_spec : ∀ {xs : List Operand} {ys : List Opd}, copdL xs = some ys → ys.length = xs.length ∧ ∀ (j : Nat) (x : Operand) (y : Opd), xs[j]? = some x → ys[j]? = some y → OpdOk x y
  | [], _, h => by cases h; exact ⟨rfl, fun j x y hx => by cases hx⟩
  | x :: xs, ys, h => by
    rw [copdL] at h
    split at h
    · rename_i y ys' h1 h2
      cases h
      obtain ⟨k1, k2⟩ := copdL_spec h2
      refine ⟨by rw [List.length_cons, List.length_cons, k1], fun j a b ha hb => ?_⟩
      cases j with
      | zero => cases ha; cases hb; exact copd_ok h1
      | succ j => exact k2 j a b (by simpa using ha) (by simpa using hb)
    · cases h
theorem opdsOk {xs : Array Operand} {ys : List Opd} (h : copdL xs.toList = some ys) : OpdsOk xs ys := by
  obtain ⟨k1, k2⟩ := copdL_spec h
  exact ⟨by rw [k1]; simp, fun j x y hx hy => k2 j x y (by simpa using hx) hy⟩
section
variable (P : Program)
def cNew (e : TypeId) : Option K :=
  match P.info? e with
  | some i =>
    match i.zero with
    | some z =>
      match zeroD z with
      | some l => some (.new l)
      | Option.none => Option.none
    | Option.none => Option.none
  | Option.none => Option.none
theorem cNew_ok {e : TypeId} {k : K} (h : cNew P e = some k) : KOk P (.alloc e) k := by
  unfold cNew at h
  split at h
  · rename_i i hi
    split at h
    · rename_i z hz
      split at h
      · rename_i l hl
        cases h
        obtain ⟨h1, h2⟩ := zeroD_spec hl
        exact .plain (snd_new hi hz h1 h2) fun _ => rfl
      · cases h
    · cases h
  · cases h
def cBox (e : TypeId) (x : Operand) : Option K :=
  match P.info? e, copd x with
  | some i, some x' => some (.box i.size x')
  | _, _ => Option.none
theorem cBox_ok {e : TypeId} {x : Operand} {k : K} (h : cBox P e x = some k) : KOk P (.box e x) k := by
  unfold cBox at h
  split at h
  · rename_i i x' hi hx
    cases h
    exact .plain (snd_box (copd_ok hx)) fun _ => rfl
  · cases h
def cLd (t : TypeId) (x : Operand) : Option K :=
  match P.info? t, P.underlying t, copd x with
  | some i, some d, some x' => if d.isRow = true ∨ i.size = 1 then some (.ld i.size d.isRow x') else Option.none
  | _, _, _ => Option.none
theorem cLd_ok {t : TypeId} {x : Operand} {k : K} (h : cLd P t x = some k) : KOk P (.load t x) k := by
  unfold cLd at h
  split at h
  · rename_i i d x' hi hd hx
    split at h
    · rename_i hs
      cases h
      exact .plain (snd_ld (copd_ok hx) (by rw [hi]; rfl) hd rfl (fun hf => hs.resolve_left (by rw [hf]; exact Bool.false_ne_true))) fun _ => rfl
    · cases h
  · cases h
def cSt (t : TypeId) (x y : Operand) : Option K :=
  match P.info? t, copd x, copd y with
  | some i, some x', some y' => some (.st i.size x' y')
  | _, _, _ => Option.none
theorem cSt_ok {t : TypeId} {x y : Operand} {k : K} (h : cSt P t x y = some k) : KOk P (.store t x y) k := by
  unfold cSt at h
  split at h
  · rename_i i x' y' hi hx hy
    cases h
    exact .plain (snd_st (copd_ok hx) (copd_ok hy) (by rw [hi]; rfl)) fun _ => rfl
  · cases h
def cFa (t : TypeId) (x : Operand) (f : Nat) : Option K :=
  match P.underlying t, copd x with
  | some (.struct fs), some x' =>
    match fs[f]? with
    | some fd =>
      match P.info? fd.type with
      | some fi => if fi.size ≠ 0 then some (.fa fd.offset x') else Option.none
      | Option.none => Option.none
    | Option.none => Option.none
  | _, _ => Option.none
theorem cFa_ok {t : TypeId} {x : Operand} {f : Nat} {k : K} (h : cFa P t x f = some k) : KOk P (.fieldAddr t x f) k := by
  unfold cFa at h
  split at h
  · rename_i fs x' hu hx
    split at h
    · rename_i fd hf
      split at h
      · rename_i fi hi
        split at h
        · rename_i hz
          cases h
          exact .plain (snd_fa (copd_ok hx) hu hf hi hz rfl) fun _ => rfl
        · cases h
      · cases h
    · cases h
  · cases h
def cFld (t : TypeId) (x : Operand) (f : Nat) : Option K :=
  match P.underlying t, copd x with
  | some (.struct fs), some x' =>
    match fs[f]? with
    | some fd =>
      match P.info? fd.type, P.underlying fd.type with
      | some fi, some d => if d.isRow = true ∨ fi.size = 1 then some (.fld fd.offset fi.size d.isRow x') else Option.none
      | _, _ => Option.none
    | Option.none => Option.none
  | _, _ => Option.none
theorem cFld_ok {t : TypeId} {x : Operand} {f : Nat} {k : K} (h : cFld P t x f = some k) : KOk P (.field t x f) k := by
  unfold cFld at h
  split at h
  · rename_i fs x' hu hx
    split at h
    · rename_i fd hf
      split at h
      · rename_i fi d hi hd
        split at h
        · rename_i hs
          cases h
          exact .plain (snd_fld (copd_ok hx) hu hf hi rfl rfl hd rfl (fun hf => hs.resolve_left (by rw [hf]; exact Bool.false_ne_true))) fun _ => rfl
        · cases h
      · cases h
    · cases h
  · cases h
def cIa (t : TypeId) (x y : Operand) : Option K :=
  match P.underlying t, copd x, copd y with
  | some (.array n e), some x', some y' =>
    match P.info? e with
    | some i => some (.iaA n i.size x' y')
    | Option.none => Option.none
  | some (.slice e), some x', some y' =>
    match P.info? e with
    | some i => some (.iaS i.size x' y')
    | Option.none => Option.none
  | _, _, _ => Option.none
theorem cIa_ok {t : TypeId} {x y : Operand} {k : K} (h : cIa P t x y = some k) : KOk P (.indexAddr t x y) k := by
  unfold cIa at h
  split at h
  · rename_i n e x' y' hu hx hy
    split at h
    · rename_i i hi
      cases h
      exact .plain (snd_iaA (copd_ok hx) (copd_ok hy) hu hi rfl) fun _ => rfl
    · cases h
  · rename_i e x' y' hu hx hy
    split at h
    · rename_i i hi
      cases h
      exact .plain (snd_iaS (copd_ok hx) (copd_ok hy) hu hi) fun _ => rfl
    · cases h
  · cases h
def cIx (t : TypeId) (x y : Operand) : Option K :=
  match P.underlying t, copd x, copd y with
  | some (.array n e), some x', some y' =>
    match P.info? e, P.underlying e with
    | some i, some d => if d.isRow = true ∨ i.size = 1 then some (.ixA n i.size d.isRow x' y') else Option.none
    | _, _ => Option.none
  | some .string, some x', some y' => some (.ixS x' y')
  | _, _, _ => Option.none
theorem cIx_ok {t : TypeId} {x y : Operand} {k : K} (h : cIx P t x y = some k) : KOk P (.index t x y) k := by
  unfold cIx at h
  split at h
  · rename_i n e x' y' hu hx hy
    split at h
    · rename_i i d hi hd
      split at h
      · rename_i hs
        cases h
        exact .plain (snd_ixA (copd_ok hx) (copd_ok hy) hu hi rfl hd rfl (fun hf => hs.resolve_left (by rw [hf]; exact Bool.false_ne_true))) fun _ => rfl
      · cases h
    · cases h
  · rename_i x' y' hu hx hy
    cases h
    exact .plain (snd_ixS (copd_ok hx) (copd_ok hy) hu) fun _ => rfl
  · cases h
def cPlaces : List Field → Option (List (Nat × Nat))
  | [] => some []
  | f :: fs =>
    match P.info? f.type, cPlaces fs with
    | some i, some l => some ((f.offset, i.size) :: l)
    | _, _ => Option.none
theorem cPlaces_spec : ∀ {fs : List Field} {l : List (Nat × Nat)}, cPlaces P fs = some l → fs.mapM (fun f => (P.info? f.type).map fun i => (f.offset, i.size)) = some l
  | [], _, h => by cases h; rfl
  | f :: fs, l, h => by
    rw [cPlaces] at h
    split at h
    · rename_i i l' h1 h2
      cases h
      rw [List.mapM_cons, h1, cPlaces_spec h2]
      rfl
    · cases h
def cParts (place : Nat → Option (Nat × Nat)) : List (Nat × Operand) → Option (List (Nat × Nat × Opd))
  | [] => some []
  | (i, x) :: xs =>
    match place i, copd x, cParts place xs with
    | some (off, sz), some y, some ys => some ((off, sz, y) :: ys)
    | _, _, _ => Option.none
theorem cParts_ok {place : Nat → Option (Nat × Nat)} : ∀ {xs : List (Nat × Operand)} {ys : List (Nat × Nat × Opd)}, cParts place xs = some ys → PartsOk place xs ys
  | [], _, h => by cases h; trivial
  | (i, x) :: xs, ys, h => by
    rw [cParts] at h
    split at h
    · rename_i off sz y ys' h1 h2 h3
      cases h
      exact ⟨h1, copd_ok h2, cParts_ok h3⟩
    · cases h
def cBld (t : TypeId) (parts : Array (Nat × Operand)) : Option K :=
  match P.info? t, P.underlying t with
  | some ti, some (.struct fs) =>
    match ti.zero, cPlaces P fs.toList with
    | some z, some l =>
      match zeroD z, cParts (l.toArray[·]?) parts.toList with
      | some zs, some ps => some (.bld zs ps)
      | _, _ => Option.none
    | _, _ => Option.none
  | some ti, some (.array n e) =>
    match ti.zero, P.info? e with
    | some z, some ei =>
      match zeroD z, cParts (fun i => some (i * ei.size, ei.size)) parts.toList with
      | some zs, some ps => some (.bld zs ps)
      | _, _ => Option.none
    | _, _ => Option.none
  | _, _ => Option.none
theorem cBld_ok {t : TypeId} {parts : Array (Nat × Operand)} {k : K} (h : cBld P t parts = some k) : KOk P (.build t parts) k := by
  unfold cBld at h
  split at h
  · rename_i ti fs hi hu
    split at h
    · rename_i z l hz hl
      split at h
      · rename_i zs ps h1 h2
        cases h
        obtain ⟨k1, k2⟩ := zeroD_spec h1
        exact .plain (snd_bldS hi hz k1 k2 hu (cPlaces_spec P hl) (cParts_ok h2)) fun _ => rfl
      · cases h
    · cases h
  · rename_i ti n e hi hu
    split at h
    · rename_i z ei hz hei
      split at h
      · rename_i zs ps h1 h2
        cases h
        obtain ⟨k1, k2⟩ := zeroD_spec h1
        exact .plain (snd_bldA hi hz k1 k2 hu hei (cParts_ok h2)) fun _ => rfl
      · cases h
    · cases h
  · cases h
def cRows : List (Nat × Operand) → Option (List (Nat × Opd))
  | [] => some []
  | (i, x) :: xs =>
    match copd x, cRows xs with
    | some y, some ys => some ((i, y) :: ys)
    | _, _ => Option.none
theorem cRows_ok : ∀ {xs : List (Nat × Operand)} {ys : List (Nat × Opd)}, cRows xs = some ys → RowsOk xs ys
  | [], _, h => by cases h; trivial
  | (i, x) :: xs, ys, h => by
    rw [cRows] at h
    split at h
    · rename_i y ys' h1 h2
      cases h
      exact ⟨rfl, copd_ok h1, cRows_ok h2⟩
    · cases h
def cBsl (t : TypeId) (n : Nat) (parts : Array (Nat × Operand)) : Option K :=
  match P.underlying t with
  | some (.slice e) =>
    match P.info? e with
    | some ei =>
      match ei.zero, cRows parts.toList with
      | some z, some ps =>
        match zeroD z with
        | some zs => if z.cells.size = ei.size ∧ n * ei.size ≤ 16777216 then some (.bsl ei.size n zs ps) else Option.none
        | Option.none => Option.none
      | _, _ => Option.none
    | Option.none => Option.none
  | _ => Option.none
theorem cBsl_ok {t : TypeId} {n : Nat} {parts : Array (Nat × Operand)} {k : K} (h : cBsl P t n parts = some k) : KOk P (.buildSlice t n parts) k := by
  unfold cBsl at h
  split at h
  · rename_i e hu
    split at h
    · rename_i ei hei
      split at h
      · rename_i z ps hz hps
        split at h
        · rename_i zs h1
          split at h
          · rename_i hs
            cases h
            obtain ⟨k1, k2⟩ := zeroD_spec h1
            exact .plain (snd_bsl hu hei hz k1 k2 rfl hs.1 hs.2 (cRows_ok hps)) fun _ => rfl
          · cases h
        · cases h
      · cases h
    · cases h
  · cases h
def sameOp : Operand → Operand → Bool
  | .tmp a, .tmp b => a == b
  | _, _ => false
def cMks (t : TypeId) (x y : Operand) : Option K :=
  match P.underlying t, copd x with
  | some (.slice e), some x' =>
    match P.info? e with
    | some ei =>
      match ei.zero with
      | some z =>
        match zeroD z with
        | some zs => if z.cells.size = ei.size ∧ sameOp x y = true then some (.mks ei.size ei.bytes zs x') else Option.none
        | Option.none => Option.none
      | Option.none => Option.none
    | Option.none => Option.none
  | _, _ => Option.none
theorem cMks_ok {t : TypeId} {x y : Operand} {k : K} (h : cMks P t x y = some k) : KOk P (.makeSlice t x y) k := by
  unfold cMks at h
  split at h
  · rename_i e x' hu hx
    split at h
    · rename_i ei hei
      split at h
      · rename_i z hz
        split at h
        · rename_i zs h1
          split at h
          · rename_i hs
            cases h
            obtain ⟨k1, k2⟩ := zeroD_spec h1
            have e : x = y := by
              have := hs.2
              unfold sameOp at this
              split at this
              · rw [beq_iff_eq] at this; rw [this]
              · cases this
            subst e
            exact .plain (snd_mks (copd_ok hx) hu hei hz k1 k2 rfl hs.1 rfl) fun _ => rfl
          · cases h
        · cases h
      · cases h
    · cases h
  · cases h
def copdO : Option Operand → Option (Option Opd)
  | some x =>
    match copd x with
    | some y => some (some y)
    | Option.none => Option.none
  | Option.none => some Option.none
theorem copdO_ok {x : Option Operand} {y : Option Opd} (h : copdO x = some y) : OptOk x y := by
  unfold copdO at h
  split at h
  · split at h
    · cases h; exact copd_ok ‹_›
    · cases h
  · cases h; trivial
def cSlc (t : TypeId) (x : Operand) (lo hi mx : Option Operand) : Option K :=
  match P.underlying t, copd x, copdO lo, copdO hi, mx with
  | some (.slice e), some x', some lo', some hi', Option.none =>
    match P.info? e with
    | some ei => some (.slc ei.size x' lo' hi')
    | Option.none => Option.none
  | _, _, _, _, _ => Option.none
theorem cSlc_ok {t : TypeId} {x : Operand} {lo hi mx : Option Operand} {k : K} (h : cSlc P t x lo hi mx = some k) : KOk P (.slice t x lo hi mx) k := by
  unfold cSlc at h
  split at h
  · rename_i e x' lo' hi' hu hx hlo hhi
    split at h
    · rename_i ei hei
      cases h
      exact .plain (snd_slc (copd_ok hx) (copdO_ok hlo) (copdO_ok hhi) hu hei) fun _ => rfl
    · cases h
  · cases h
def cBin (op : BinOp) (t : TypeId) (x y : Operand) : Option K :=
  match P.underlying t, copd x, copd y with
  | some .bool, some x', some y' =>
    match op with
    | .eql => some (.beq false x' y')
    | .neq => some (.beq true x' y')
    | _ => Option.none
  | some (.int _), some x', some y' => some (.bin op x' y')
  | some .string, some x', some y' => some (.bin op x' y')
  | some (.array n e), some x', some y' =>
    match P.info? e, kindOf P e, (match op with | .eql => some false | .neq => some true | _ => Option.none) with
    | some ei, some kd, some ng => if ei.size = 1 ∧ P.eqGuardType P.depth t = false then some (.eqa ng (List.replicate n kd) x' y') else Option.none
    | _, _, _ => Option.none
  | some (.struct fs), some x', some y' =>
    match kindsOf P 0 fs.toList, (match op with | .eql => some false | .neq => some true | _ => Option.none) with
    | some ks, some ng => if P.stoodInHeld t = false ∧ P.eqGuardType P.depth t = false then some (.eqa ng ks x' y') else Option.none
    | _, _ => Option.none
  | _, _, _ => Option.none
theorem eqOp {op : BinOp} {ng : Bool} (h : (match op with | .eql => some false | .neq => some true | _ => Option.none) = some ng) : op = (if ng = true then .neq else .eql) := by
  split at h <;> cases h <;> rfl
theorem cBin_ok {op : BinOp} {t t' : TypeId} {x y : Operand} {k : K} (h : cBin P op t x y = some k) : KOk P (.binOp op t x y t') k := by
  unfold cBin at h
  split at h
  · rename_i x' y' hu hx hy
    split at h
    · cases h
      exact .plain (snd_beq (ng := false) (copd_ok hx) (copd_ok hy) hu) fun _ => rfl
    · cases h
      exact .plain (snd_beq (ng := true) (copd_ok hx) (copd_ok hy) hu) fun _ => rfl
    · cases h
  · rename_i x' y' hu hx hy
    cases h
    exact .plain (snd_bin (copd_ok hx) (copd_ok hy)) fun _ => rfl
  · rename_i x' y' hu hx hy
    cases h
    exact .plain (snd_bin (copd_ok hx) (copd_ok hy)) fun _ => rfl
  · rename_i n e x' y' hu hx hy
    split at h
    · rename_i ei kd ng hi hk hng
      split at h
      · rename_i hs
        cases h
        rw [eqOp hng]
        exact .plain (snd_eqaA (copd_ok hx) (copd_ok hy) hu hi hs.1 hk hs.2) fun _ => rfl
      · cases h
    · cases h
  · rename_i fs x' y' hu hx hy
    split at h
    · rename_i ks ng hk hng
      split at h
      · rename_i hs
        cases h
        rw [eqOp hng]
        exact .plain (snd_eqaS (copd_ok hx) (copd_ok hy) hu hk hs.1 hs.2) fun _ => rfl
      · cases h
    · cases h
  · cases h
def cCvi (src dst : TypeId) (x : Operand) : Option K :=
  match P.underlying src, P.underlying dst, copd x with
  | some (.int _), some (.int k), some x' => some (.cvi k x')
  | some (.slice e), some .string, some x' =>
    match P.underlying e with
    | some (.int .u8) => some (.bts x')
    | _ => Option.none
  | _, _, _ => Option.none
theorem cCvi_ok {src dst : TypeId} {x : Operand} {k : K} (h : cCvi P src dst x = some k) : KOk P (.convert src dst x) k := by
  unfold cCvi at h
  split at h
  · rename_i kd k' x' hs hd hx
    cases h
    exact .plain (snd_cvi (copd_ok hx) (by rw [hs]; rfl) hd) fun _ => rfl
  · rename_i e x' hs hd hx
    split at h
    · rename_i he
      cases h
      exact .plain (snd_bts (copd_ok hx) hs he hd) fun _ => rfl
    · cases h
  · cases h
def cMkf (fn : Fn) (fs cs : Array Operand) : Option K :=
  match fn, copdL fs.toList, copdL cs.toList with
  | .func f, some fs', some cs' => some (.mkf f fs' cs')
  | _, _, _ => Option.none
theorem cMkf_ok {fn : Fn} {fs cs : Array Operand} {k : K} (h : cMkf fn fs cs = some k) : KOk P (.makeFunc fn fs cs) k := by
  unfold cMkf at h
  split at h
  · rename_i f fs' cs' h1 h2
    cases h
    exact .plain (snd_mkf (opdsOk h1) (opdsOk h2)) fun _ => rfl
  · cases h
def cBuiltin (b : Builtin) (args : List Operand) (ts : List TypeId) : Option K :=
  match b, args, ts with
  | .len, [x], [t] =>
    match P.underlying t, copd x with
    | some (.slice e), some x' => some (.len x')
    | some .string, some x' => some (.lenS x')
    | _, _ => Option.none
  | .append, [x, y], [t, tx] =>
    match P.underlying t, P.underlying tx, copd x, copd y with
    | some (.slice e), some (.slice _), some x', some y' =>
      match P.info? e with
      | some ei =>
        match ei.zero with
        | some z => if z.cells.size = ei.size ∧ 0 < ei.size then some (.app ei.size ei.bytes x' y') else Option.none
        | Option.none => Option.none
      | Option.none => Option.none
    | _, _, _, _ => Option.none
  | .min, [x, y], [t, tx] =>
    match copd x, copd y with
    | some x', some y' => some (.mnx false x' y')
    | _, _ => Option.none
  | .max, [x, y], [t, tx] =>
    match copd x, copd y with
    | some x', some y' => some (.mnx true x' y')
    | _, _ => Option.none
  | _, _, _ => Option.none
theorem cBuiltin_ok {b : Builtin} {args : Array Operand} {ts : Array TypeId} {k : K} (h : cBuiltin P b args.toList ts.toList = some k) : KOk P (.call { callee := .builtin b, args := args, argTypes := ts }) k := by
  obtain ⟨args⟩ := args
  obtain ⟨ts⟩ := ts
  dsimp only at h
  unfold cBuiltin at h
  split at h
  · split at h
    · rename_i hu hx
      cases h
      exact .plain (snd_len (ty := 0) (copd_ok hx) hu) fun _ => rfl
    · rename_i hu hx
      cases h
      exact .plain (snd_lenS (ty := 0) (copd_ok hx) hu) fun _ => rfl
    · cases h
  · split at h
    · rename_i hu hk hx hy
      split at h
      · rename_i ei hei
        split at h
        · rename_i z hz
          split at h
          · rename_i hs
            cases h
            exact .plain (snd_app (copd_ok hx) (copd_ok hy) hu hk hei hz rfl hs.1 rfl hs.2) fun _ => rfl
          · cases h
        · cases h
      · cases h
    · cases h
  · split at h
    · rename_i hx hy
      cases h
      exact .plain (snd_mn (ty := 0) (copd_ok hx) (copd_ok hy)) fun _ => rfl
    · cases h
  · split at h
    · rename_i hx hy
      cases h
      exact .plain (snd_mx (ty := 0) (copd_ok hx) (copd_ok hy)) fun _ => rfl
    · cases h
  · cases h
theorem run_callFunc {f : FuncId} {args : Array Value} {w : World} (h : fnOk P f = true) : (callFunc f args).run P w = .ok (.enter f args) w := by
  unfold fnOk at h
  split at h
  · rename_i fn hf
    rw [Bool.and_eq_true] at h
    obtain ⟨h1, h2⟩ := h
    have h1' : ¬ (fn.name = "runtime.NumGoroutine") := by simpa using h1
    have h2' : ¬ (fn.body = Option.none) := fun hb => by rw [hb] at h2; cases h2
    unfold callFunc
    simp [hf, h1', h2']
  · cases h
def cCall (f : Operand) (args : List Operand) : Option K :=
  match f, copdL args with
  | .func f, some args' => some (.call f args')
  | .tmp t, some args' => some (.callv (.t t) args')
  | _, _ => Option.none
theorem cCall_ok {f : Operand} {args : Array Operand} {ts : Array TypeId} {k : K} (h : cCall f args.toList = some k) : KOk P (.call { callee := .value f, args := args, argTypes := ts }) k := by
  unfold cCall at h
  split at h
  · rename_i g args' ha
    cases h
    refine ⟨fun E Im p s a w nm o d _ _ he _ => (by cases he), fun E Im p s a w d f2 as ho hR hc hfn => ?_⟩
    cases hc
    have A := opdsOk ha
    obtain ⟨k1, k2⟩ := rel_args (a := a) (F := s.F) (Im := Im) (p := p) (H := s.H) (h := w.heap) A.1 (fun j x y hx hy => A.2 j x y hx hy _ _ _ _ _ _ hR)
    refine ⟨args.map a.eval, ?_, k1, k2⟩
    unfold execOp
    simp [ho, resolve, invoke, Act.eval, Deferred.ofValue, run_callFunc P hfn]
  · rename_i t args' ha
    cases h
    refine ⟨fun E Im p s a w nm o d _ _ he _ => (by cases he), fun E Im p s a w d f2 as ho hR hc hfn => ?_⟩
    simp only [callee] at hc
    split at hc
    · rename_i g fs cs hs
      cases hc
      have r := hR.fr t
      have hs' : s.F t = .clo f2 fs cs := hs
      rw [hs'] at r
      generalize hu : a.tmps.getD t undef = u at r
      cases r with
      | p r => cases r
      | clo _ _ _ us vs hl hl' hr hr' =>
        have A := opdsOk ha
        obtain ⟨k1, k2⟩ := rel_args (a := a) (F := s.F) (Im := Im) (p := p) (H := s.H) (h := w.heap) A.1 (fun j x y hx hy => A.2 j x y hx hy _ _ _ _ _ _ hR)
        refine ⟨us ++ args.map a.eval ++ vs, ?_, by simp only [List.length_append, Array.size_append, hl, hl', k1], fun j x u hx hu' => ?_⟩
        · unfold execOp
          simp [ho, resolve, invoke, Act.eval, hu, Deferred.ofValue, run_callFunc P hfn]
        · by_cases h1 : j < (fs ++ mapEv s.F args').length
          · rw [List.getElem?_append_left h1] at hx
            rw [Array.getElem?_append_left (by rw [Array.size_append, ← hl, ← k1, ← List.length_append]; exact h1)] at hu'
            by_cases h2 : j < fs.length
            · rw [List.getElem?_append_left h2] at hx
              rw [Array.getElem?_append_left (by rw [← hl]; exact h2)] at hu'
              exact hr j x u hx hu'
            · rw [List.getElem?_append_right (by omega)] at hx
              rw [Array.getElem?_append_right (by rw [← hl]; omega), ← hl] at hu'
              exact k2 _ x u hx hu'
          · rw [List.getElem?_append_right (by omega)] at hx
            have e : (us ++ args.map a.eval).size = (fs ++ mapEv s.F args').length := by rw [Array.size_append, List.length_append, hl, k1]
            rw [Array.getElem?_append_right (by omega), e] at hu'
            exact hr' _ x u hx hu'
    · cases hc
  · cases h
/-- A compiled operation. -/
def comp : Op → Option K
  | .move x => (copd x).map .mv
  | .assign x => (copd x).map .mv
  | .pick c a b =>
    match copd c, copd a, copd b with
    | some c', some a', some b' => some (.pick c' a' b')
    | _, _, _ => Option.none
  | .alloc e => cNew P e
  | .box e x => cBox P e x
  | .build t ps => cBld P t ps
  | .buildSlice t n ps => cBsl P t n ps
  | .load t x => cLd P t x
  | .store t x y => cSt P t x y
  | .nilCheck x => (copd x).map .nck
  | .binOp op t x y _ => cBin P op t x y
  | .unOp .not _ x => (copd x).map .not
  | .unOp .neg _ x => (copd x).map .neg
  | .convert src dst x => cCvi P src dst x
  | .fieldAddr t x f => cFa P t x f
  | .field t x f => cFld P t x f
  | .indexAddr t x y => cIa P t x y
  | .index t x y => cIx P t x y
  | .extract x i => (copd x).map fun y => .ext y i
  | .makeFunc fn fs cs => cMkf fn fs cs
  | .makeSlice t x y => cMks P t x y
  | .slice t x lo hi mx => cSlc P t x lo hi mx
  | .call { callee := .builtin b, args, argTypes } => cBuiltin P b args.toList argTypes.toList
  | .call { callee := .value f, args, .. } => cCall f args.toList
  | _ => Option.none
theorem comp_ok {op : Op} {k : K} (h : comp P op = some k) : KOk P op k := by
  unfold comp at h
  split at h
  · rename_i x; cases hx : copd x with
    | none => rw [hx] at h; cases h
    | some y => rw [hx] at h; cases h; exact .plain (snd_mv (copd_ok hx)) fun _ => rfl
  · rename_i x; cases hx : copd x with
    | none => rw [hx] at h; cases h
    | some y => rw [hx] at h; cases h; exact .plain (snd_as (copd_ok hx)) fun _ => rfl
  · split at h
    · rename_i h1 h2 h3; cases h; exact .plain (snd_pick (copd_ok h1) (copd_ok h2) (copd_ok h3)) fun _ => rfl
    · cases h
  · exact cNew_ok P h
  · exact cBox_ok P h
  · exact cBld_ok P h
  · exact cBsl_ok P h
  · exact cLd_ok P h
  · exact cSt_ok P h
  · rename_i x; cases hx : copd x with
    | none => rw [hx] at h; cases h
    | some y => rw [hx] at h; cases h; exact .plain (snd_nck (copd_ok hx)) fun _ => rfl
  · exact cBin_ok P h
  · rename_i x; cases hx : copd x with
    | none => rw [hx] at h; cases h
    | some y => rw [hx] at h; cases h; exact .plain (snd_not (copd_ok hx)) fun _ => rfl
  · rename_i x; cases hx : copd x with
    | none => rw [hx] at h; cases h
    | some y => rw [hx] at h; cases h; exact .plain (snd_neg (copd_ok hx)) fun _ => rfl
  · exact cCvi_ok P h
  · exact cFa_ok P h
  · exact cFld_ok P h
  · exact cIa_ok P h
  · exact cIx_ok P h
  · rename_i x i; cases hx : copd x with
    | none => rw [hx] at h; cases h
    | some y => rw [hx] at h; cases h; exact .plain (snd_ext (copd_ok hx)) fun _ => rfl
  · exact cMkf_ok P h
  · exact cMks_ok P h
  · exact cSlc_ok P h
  · exact cBuiltin_ok P h
  · exact cCall_ok P h
  · cases h
end
end Go.Proofs.Ytiaenojpbiahgaa
