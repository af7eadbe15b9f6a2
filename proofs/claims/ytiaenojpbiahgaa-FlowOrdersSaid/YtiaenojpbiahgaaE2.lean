
/- Functions over abstract data, run by the kernel: single operations. No program in sight. -/
import Derived.Test.YtiaenojpbiahgaaE1
namespace Go.Proofs.Ytiaenojpbiahgaa
open Go
set_option linter.unusedVariables false
set_option linter.unusedSimpArgs false

def binC (op : BinOp) (y : Int) : Bool :=
  match op with
  | .quo => !(decide (y = 0))
  | .rem => !(decide (y = 0))
  | .shl => decide (0 ≤ y)
  | .shr => decide (0 ≤ y)
  | _ => true
theorem binC_ok {op : BinOp} {k : IntKind} {x y : Int} {c : Prop} {r : Value} (h : binI op k x y = some (c, r)) (hc : binC op y = true) : c := by
  cases op <;> simp only [binI, cmpI, Option.some.injEq, Prod.mk.injEq, reduceCtorEq] at h <;> (obtain ⟨rfl, _⟩ := h) <;> first
    | trivial
    | (simpa [binC] using hc)
def binB (op : BinOp) : Value → Value → Option Value
  | .int k x, .int k' y =>
    match binD op (.int k x) (.int k' y) with
    | some (_, r) => bif binC op y then some r else Option.none
    | Option.none => Option.none
  | .string x, .string y =>
    match op with
    | .eql => some (.bool (decide (x.data.toList = y.data.toList)))
    | .neq => some (.bool (!(decide (x.data.toList = y.data.toList))))
    | .add => bif decide (((x.data.toList.length + y.data.toList.length : Nat) : Int) ≤ 9223372036854775807) then some (.string ⟨⟨x.data.toList ++ y.data.toList⟩⟩) else Option.none
    | _ => Option.none
  | _, _ => Option.none
theorem binB_ok {op : BinOp} {a b r : Value} (h : binB op a b = some r) : ∃ c, binD op a b = some (c, r) ∧ c := by
  unfold binB at h
  split at h
  · rename_i k x k' y
    split at h
    · rename_i c r' hr
      cases hc : binC op y with
      | false => rw [hc] at h; cases h
      | true =>
        rw [hc] at h
        cases h
        refine ⟨c, hr, ?_⟩
        simp only [binD] at hr
        split at hr
        · exact binC_ok hr hc
        · cases hr
    · cases h
  · rename_i x y
    cases op <;> simp only [reduceCtorEq] at h
    · cases hc : decide (((x.data.toList.length + y.data.toList.length : Nat) : Int) ≤ 9223372036854775807) with
      | false => rw [hc] at h; cases h
      | true =>
        rw [hc] at h
        cases h
        have e1 : (⟨⟨x.data.toList ++ y.data.toList⟩⟩ : ByteArray) = x ++ y := by
          cases x; cases y
          simp [← ByteArray.append_eq, ByteArray.append]
        have e2 : ((x.size + y.size : Nat) : Int) ≤ 9223372036854775807 := of_decide_eq_true hc
        exact ⟨_, by simp only [binD, e1], e2⟩
    · cases h; exact ⟨True, by simp only [binD, ba_eq], trivial⟩
    · cases h; exact ⟨True, by simp only [binD, ba_eq], trivial⟩
  · cases h
def eqOneB : Nat → D → D → Option Bool
  | 2, .v (.string a), .v (.string b) => some (decide (a.data.toList = b.data.toList))
  | k, x, y => eqOne k x y
theorem eqOneB_eq (k : Nat) (x y : D) : eqOneB k x y = eqOne k x y := by
  unfold eqOneB
  split
  · simp only [eqOne, ba_eq]
  · rfl
def eqLB : List Nat → List D → List D → Option Bool
  | [], [], [] => some true
  | k :: ks, a :: as, b :: bs =>
    match eqOneB k a b, eqLB ks as bs with
    | some x, some y => some (x && y)
    | _, _ => Option.none
  | _, _, _ => Option.none
theorem eqLB_eq : ∀ (ks : List Nat) (as bs : List D), eqLB ks as bs = eqL ks as bs
  | [], [], [] => rfl
  | k :: ks, a :: as, b :: bs => by
    unfold eqLB eqL
    rw [eqOneB_eq, eqLB_eq ks as bs]
    cases eqOne k a b <;> cases eqL ks as bs <;> rfl
  | [], _ :: _, _ => rfl
  | [], [], _ :: _ => rfl
  | _ :: _, [], _ => rfl
  | _ :: _, _ :: _, [] => rfl
def strB (ns : List Int) : ByteArray := ⟨⟨ns.map fun n => UInt8.ofNat n.toNat⟩⟩
theorem strB_go : ∀ (ns : List Int) (r : ByteArray), ns.foldl (fun r n => r.push (UInt8.ofNat n.toNat)) r = ⟨⟨r.data.toList ++ ns.map fun n => UInt8.ofNat n.toNat⟩⟩
  | [], r => by simp
  | n :: ns, r => by
    rw [List.foldl_cons, strB_go ns]
    simp [ByteArray.push]
theorem strB_eq (ns : List Int) : strOf ns = strB ns := by
  unfold strOf strB
  rw [strB_go]
  rfl
/-- What an operation yields, if all it asks holds: names read, value, name written. -/
def effB (nm : Nm) (F : Fr) (H : Hp) : K → Option (List Nm × D × Option (Nm × En))
  | .mv x => some ([], x.ev F, Option.none)
  | .pick c a b =>
    match c.ev F with
    | .v (.bool t) => some ([], (if t = true then a.ev F else b.ev F), Option.none)
    | _ => Option.none
  | .new z =>
    match H nm with
    | Option.none => some ([nm], .ptr nm 0 0 0, some (nm, ⟨0, z.length, [z]⟩))
    | some _ => Option.none
  | .box sz x =>
    match H nm, (x.ev F).cells with
    | Option.none, some ds => bif decide (ds.length = sz) then some ([nm], .ptr nm 0 0 0, some (nm, ⟨0, sz, [ds]⟩)) else Option.none
    | _, _ => Option.none
  | .bld z ps =>
    match fillD F ps z with
    | some cs => some ([], .agg cs, Option.none)
    | Option.none => Option.none
  | .bsl sz n z ps =>
    match H nm, fillR F sz ps (List.replicate n z) with
    | Option.none, some rows => some ([nm], .own nm 0 0 n, some (nm, ⟨0, sz, rows⟩))
    | _, _ => Option.none
  | .ld sz ag x =>
    match x.ev F with
    | .ptr i g r c =>
      match H i with
      | some e => if e.g = g then (bif decide (r < e.rows.length ∧ c + sz ≤ (e.rows.getD r []).length) then some ([i], cellsAt (e.rows.getD r []) c sz ag, Option.none) else Option.none) else Option.none
      | Option.none => Option.none
    | .ip f => bif decide (sz ≤ f.length) then some ([], cellsAt f 0 sz ag, Option.none) else Option.none
    | _ => Option.none
  | .st sz x y =>
    match x.ev F, (y.ev F).cells with
    | .ptr i g r c, some ds =>
      match H i with
      | some e => if e.g = g then (bif decide (ds.length = sz ∧ r < e.rows.length ∧ c + sz ≤ (e.rows.getD r []).length) then some ([i], .any, some (i, ⟨e.g, e.sz, e.rows.set r (put1 (e.rows.getD r []) c ds)⟩)) else Option.none) else Option.none
      | Option.none => Option.none
    | _, _ => Option.none
  | .nck x =>
    match x.ev F with
    | .ptr i g r c =>
      match H i with
      | some e => if e.g = g then some ([i], .ptr i g r c, Option.none) else Option.none
      | Option.none => Option.none
    | .ip f => some ([], .ip f, Option.none)
    | .clo f fs cs => some ([], .clo f fs cs, Option.none)
    | _ => Option.none
  | .bin op x y =>
    match x.ev F, y.ev F with
    | .v a, .v b =>
      match binB op a b with
      | some r => some ([], .v r, Option.none)
      | Option.none => Option.none
    | _, _ => Option.none
  | .beq ng x y =>
    match x.ev F, y.ev F with
    | .v (.bool a), .v (.bool b) => some ([], .v (.bool (if ng = true then !(a == b) else (a == b))), Option.none)
    | _, _ => Option.none
  | .eqa ng ks x y =>
    match x.ev F, y.ev F with
    | .agg as, .agg bs =>
      match eqLB ks as bs with
      | some b => some ([], .v (.bool (if ng = true then !b else b)), Option.none)
      | Option.none => Option.none
    | _, _ => Option.none
  | .bts x =>
    match rowsOf H (x.ev F) with
    | some (ys, l) =>
      match bytesD l with
      | some ns => bif decide (∀ r ∈ l, r.length = 1) then some (ys, .v (.string (strB ns)), Option.none) else Option.none
      | Option.none => Option.none
    | Option.none => Option.none
  | .not x =>
    match x.ev F with
    | .v (.bool b) => some ([], .v (.bool (!b)), Option.none)
    | _ => Option.none
  | .neg x =>
    match x.ev F with
    | .v (.int k n) => some ([], .v (.int k (k.wrap (0 - n))), Option.none)
    | _ => Option.none
  | .cvi k x =>
    match x.ev F with
    | .v (.int _ n) => some ([], .v (.int k (k.wrap n)), Option.none)
    | _ => Option.none
  | .fa off x =>
    match x.ev F with
    | .ptr i g r c =>
      match H i with
      | some e => if e.g = g then some ([i], .ptr i g r (c + off), Option.none) else Option.none
      | Option.none => Option.none
    | .ip f => some ([], .ip (f.drop off), Option.none)
    | _ => Option.none
  | .iaA n sz x i =>
    match x.ev F, (i.ev F).nat with
    | .ptr j g r c, some k =>
      match H j with
      | some e => if e.g = g then (bif decide (0 ≤ k ∧ k < n) then some ([j], .ptr j g r (c + k.toNat * sz), Option.none) else Option.none) else Option.none
      | Option.none => Option.none
    | .ip f, some k => bif decide (0 ≤ k ∧ k < n) then some ([], .ip (f.drop (k.toNat * sz)), Option.none) else Option.none
    | _, _ => Option.none
  | .iaS sz x i =>
    match x.ev F, (i.ev F).nat with
    | .sl l, some k => bif decide (0 ≤ k ∧ k < l.length ∧ (l.getD k.toNat []).length = sz) then some ([], .ip (l.getD k.toNat []), Option.none) else Option.none
    | .own j g off n, some k =>
      match H j with
      | some e => if e.g = g then (bif decide (0 ≤ k ∧ k < n ∧ e.sz = sz) then some ([j], .ptr j g (off + k.toNat) 0, Option.none) else Option.none) else Option.none
      | Option.none => Option.none
    | _, _ => Option.none
  | .fld off sz ag x =>
    match x.ev F with
    | .agg cs => bif decide (off + sz ≤ cs.length) then some ([], cellsAt cs off sz ag, Option.none) else Option.none
    | _ => Option.none
  | .ixA n sz ag x i =>
    match x.ev F, (i.ev F).nat with
    | .agg cs, some k => bif decide (0 ≤ k ∧ k < n ∧ k.toNat * sz + sz ≤ cs.length) then some ([], cellsAt cs (k.toNat * sz) sz ag, Option.none) else Option.none
    | _, _ => Option.none
  | .ixS x i =>
    match x.ev F, (i.ev F).nat with
    | .v (.string s), some k => bif decide (0 ≤ k ∧ k < s.size) then some ([], .v (.int .u8 (s.data.getD k.toNat 0).toNat), Option.none) else Option.none
    | _, _ => Option.none
  | .ext x i =>
    match x.ev F with
    | .tup cs => bif decide (i < cs.length) then some ([], cs.getD i .any, Option.none) else Option.none
    | _ => Option.none
  | .mkf f fs cs => some ([], .clo f (mapEv F fs) (mapEv F cs), Option.none)
  | .len x =>
    match lenOf (x.ev F) with
    | some n => some ([], .v (.int .i64 n), Option.none)
    | Option.none => Option.none
  | .lenS x =>
    match x.ev F with
    | .v (.string s) => some ([], .v (.int .i64 s.size), Option.none)
    | _ => Option.none
  | .app sz bytes x y =>
    match rowsOf H (y.ev F), x.ev F with
    | some (ys, l), .mt =>
      match H nm with
      | Option.none => bif decide ((∀ r ∈ l, r.length = sz) ∧ l.length * bytes ≤ 140737488355328 ∧ l.length ≤ 4611686018427387904) then some (nm :: ys, .own nm 0 0 l.length, some (nm, ⟨0, sz, l⟩)) else Option.none
      | some _ => Option.none
    | some (ys, l), .own i g off n =>
      match H i with
      | some e =>
        if e.g = g ∧ e.sz = sz ∧ off + n = e.rows.length then
          (bif decide ((∀ r ∈ l, r.length = sz) ∧ (n + l.length) * bytes ≤ 140737488355328 ∧ n + l.length ≤ 4611686018427387904 ∧ (off = 0 ∨ 0 < n + l.length)) then some (i :: ys, .own i (g + 1) 0 (n + l.length), some (i, ⟨g + 1, sz, e.rows.drop off ++ l⟩)) else Option.none)
        else Option.none
      | Option.none => Option.none
    | _, _ => Option.none
  | .mks sz bytes z n =>
    match H nm, (n.ev F).nat with
    | Option.none, some k => bif decide (0 ≤ k ∧ bytes * k ≤ 281474976710656 ∧ k ≤ 4611686018427387904) then some ([nm], .own nm 0 0 k.toNat, some (nm, ⟨0, sz, List.replicate k.toNat z⟩)) else Option.none
    | _, _ => Option.none
  | .slc sz x lo hi =>
    match x.ev F, bnd F lo 0 with
    | .sl l, some a =>
      match bnd F hi (l.length : Int) with
      | some b => bif decide (0 ≤ a ∧ a ≤ b ∧ b ≤ l.length ∧ (a = 0 ∨ (l.getD 0 []).length = sz)) then some ([], .sl ((l.drop a.toNat).take (b.toNat - a.toNat)), Option.none) else Option.none
      | Option.none => Option.none
    | .own i g off n, some a =>
      match bnd F hi (n : Int) with
      | some b =>
        match H i with
        | some e => if e.g = g then (bif decide (0 ≤ a ∧ a ≤ b ∧ b ≤ n ∧ (a = 0 ∨ e.sz = sz)) then some ([i], .own i g (off + a.toNat) (b.toNat - a.toNat), Option.none) else Option.none) else Option.none
        | Option.none => Option.none
      | Option.none => Option.none
    | .mt, some a =>
      match bnd F hi (0 : Int) with
      | some b => bif decide (a = 0 ∧ b = 0) then some ([], .mt, Option.none) else Option.none
      | Option.none => Option.none
    | _, _ => Option.none
  | .mnx mx x y =>
    match x.ev F, y.ev F with
    | .v (.int k a), .v (.int k' b) => some ([], .v (.int k (if mx = true then (if b > a then b else a) else (if b < a then b else a))), Option.none)
    | _, _ => Option.none
  | .call _ _ => Option.none
  | .callv _ _ => Option.none
theorem ifB {c : Prop} [Decidable c] {α : Type} {x y : α} (h : (bif decide c then some x else Option.none) = some y) : c ∧ x = y := by
  by_cases hc : c
  · simp only [hc, decide_true, cond_true, Option.some.injEq] at h
    exact ⟨hc, h⟩
  · simp [hc] at h
theorem effB_ok {nm : Nm} {F : Fr} {H : Hp} {k : K} {rs : List Nm} {v : D} {ws : Option (Nm × En)} (h : effB nm F H k = some (rs, v, ws)) : ∃ c, eff nm F H k = some ⟨c, rs, v, ws⟩ ∧ c := by
  cases k <;> simp only [effB, eff, Out.pure] at h ⊢
  all_goals (repeat' split at h)
  all_goals first
    | (cases h; done)
    | (cases h; refine ⟨True, ?_, trivial⟩; rfl)
    | (cases h; refine ⟨True, ?_, trivial⟩; simp [*]; done)
    | (obtain ⟨hc, e⟩ := ifB h; cases e; refine ⟨_, ?_, hc⟩; simp only [*, if_true, and_self]; done)
    | (rename_i hb; obtain ⟨c, e1, e2⟩ := binB_ok hb; cases h; refine ⟨c, ?_, e2⟩; simp only [*]; done)
    | (rename_i hb _; rw [eqLB_eq] at hb; cases h; refine ⟨True, ?_, trivial⟩; simp [*]; done)
    | (obtain ⟨hc, e⟩ := ifB h; cases e; refine ⟨_, ?_, hc⟩; simp only [*, strB_eq]; done)
    | skip
end Go.Proofs.Ytiaenojpbiahgaa
