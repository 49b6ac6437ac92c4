/-
  The abstract machine: the table of types; operations that only compute.
-/
import Derived.Test.YtjldfifepbdlmaaDoorEngB
set_option linter.unusedSimpArgs false
set_option linter.unusedVariables false
namespace Go.Eng
open Go.RowKit

inductive Desc where
  | int (k : IntKind) | bool | string | slice (e : TypeId) | struct (fs : List (Nat × TypeId)) | array (n : Nat) (e : TypeId) | map (k e : TypeId) | one | other
  deriving DecidableEq
structure TyRow where
  size : Nat
  bytes : Nat
  zero : List D
  desc : Desc
  eqs : Bool := false
def TyRow.isAgg (r : TyRow) : Bool := match r.desc with | .struct _ | .array .. => true | _ => false
def TyRow.zeroV (r : TyRow) : AV := if r.isAgg then .agg r.zero else .one (r.zero.headD .unk)

def zeroOk : D → Value → Bool
  | .int k z, .int k' z' => k == k' && z == z'
  | .bool b, .bool b' => b == b'
  | .str s, .string s' => s == s'.data.toList
  | .nil, .slice none 0 0 => true
  | .raw (.pointer none), .pointer none => true
  | .raw (.map none), .map none => true
  | .raw .nilFunc, .nilFunc => true
  | .raw .nilIface, .nilIface => true
  | _, _ => false
def descOk (P : Program) (t : TypeId) : Desc → Bool
  | .int k => match P.underlying t with | some (.int k') => k == k' | _ => false
  | .bool => match P.underlying t with | some .bool => true | _ => false
  | .string => match P.underlying t with | some .string => true | _ => false
  | .slice e => match P.underlying t with | some (.slice e') => e == e' | _ => false
  | .struct fs => match P.underlying t with | some (.struct fs') => fs == fs'.toList.map (fun f => (f.offset, f.type)) && fs.all (fun f => P.cellsOf f.2 != 0) | _ => false
  | .array n e => match P.underlying t with | some (.array n' e') => n == n' && e == e' | _ => false
  | .map k e => match P.underlying t with | some (.map k' e') => k == k' && e == e' | _ => false
  | .one => match P.underlying t with | some (.pointer _) | some (.func ..) | some (.interface _) => true | _ => false
  | .other => true
def valueAgg : Value → Bool | .agg _ => true | _ => false
def zerosOk (ds : List D) (vs : List Value) : Bool := ds.length == vs.length && (ds.zip vs).all fun p => zeroOk p.1 p.2
def tyOkB (P : Program) (t : TypeId) (r : TyRow) : Bool :=
  match r.desc with
  | .other => true
  | _ => descOk P t r.desc && (match P.info? t with
    | some i => i.size == r.size && i.bytes == r.bytes && (match i.zero with | some z => zerosOk r.zero z.cells.toList && (valueAgg z == r.isAgg) && r.zero.length == r.size | none => false)
    | none => false)

def eqsOk (P : Program) (t : TypeId) (r : TyRow) : Bool := !r.eqs || (P.stoodInHeld t == false && P.eqGuardType P.depth t == false && (match P.underlying t with | some (.struct fs) => fs.toList.all (fun f => f.name != "_") | _ => false))
def noTy : TyRow := ⟨0, 0, [], .other, false⟩
def tableOkB (P : Program) (T : List TyRow) : Bool := (List.range T.length).all fun t => match T[t]? with | some r => tyOkB P t r && eqsOk P t r | none => true
abbrev Tab := TypeId → TyRow
/-- what the table promises of the program -/
structure TyOk (P : Program) (t : TypeId) (r : TyRow) : Prop where
  desc : descOk P t r.desc = true
  eqs : eqsOk P t r = true
  info : r.desc ≠ .other → ∃ i z, P.info? t = some i ∧ i.size = r.size ∧ i.bytes = r.bytes ∧ i.zero = some z ∧ zerosOk r.zero z.cells.toList = true ∧ valueAgg z = r.isAgg ∧ r.zero.length = r.size
def TabOk (P : Program) (T : Tab) : Prop := ∀ t, TyOk P t (T t)
theorem tyOk_of (P : Program) (t : TypeId) (r : TyRow) (h : tyOkB P t r = true) (hq : eqsOk P t r = true) : TyOk P t r := by
  unfold tyOkB at h
  by_cases hd : r.desc = .other
  · exact ⟨by rw [hd]; rfl, hq, fun h => absurd hd h⟩
  · have h' : (descOk P t r.desc && (match P.info? t with
    | some i => i.size == r.size && i.bytes == r.bytes && (match i.zero with | some z => zerosOk r.zero z.cells.toList && (valueAgg z == r.isAgg) && r.zero.length == r.size | none => false)
    | none => false)) = true := by
      split at h
      · rename_i h0; exact absurd h0 hd
      · exact h
    rw [Bool.and_eq_true] at h'
    refine ⟨h'.1, hq, fun _ => ?_⟩
    have h2 := h'.2
    cases hi : P.info? t with
    | none => rw [hi] at h2; cases h2
    | some i =>
      rw [hi] at h2
      dsimp only at h2
      cases hz : i.zero with
      | none => rw [hz] at h2; simp at h2
      | some z =>
        rw [hz] at h2
        simp only [Bool.and_eq_true, beq_iff_eq] at h2
        exact ⟨i, z, rfl, h2.1.1, h2.1.2, hz, h2.2.1.1, h2.2.1.2, h2.2.2⟩
theorem tabOk_of (P : Program) (L : List TyRow) (h : tableOkB P L = true) : TabOk P (fun t => L.getD t noTy) := by
  intro t
  unfold tableOkB at h
  rw [List.all_eq_true] at h
  by_cases ht : t < L.length
  · have := h t (by simpa using ht)
    rw [List.getElem?_eq_getElem ht] at this
    simp only [Bool.and_eq_true] at this
    have hg : L.getD t noTy = L[t] := by simp [List.getD, List.getElem?_eq_getElem ht]
    show TyOk P t (L.getD t noTy)
    rw [hg]
    exact tyOk_of _ _ _ this.1 this.2
  · have hg : L.getD t noTy = noTy := by simp [List.getD, List.getElem?_eq_none (Nat.le_of_not_lt ht)]
    show TyOk P t (L.getD t noTy)
    rw [hg]
    exact tyOk_of _ _ _ rfl rfl

section
variable {P : Program} {w : World} {M : Nat → Prop} {β : List Value}
theorem zeroOk_rep : ∀ (d : D) (v : Value), zeroOk d v = true → RepD w M d v := by
  intro d v h
  unfold zeroOk at h
  split at h
  case h_1 => simp only [Bool.and_eq_true, beq_iff_eq] at h; simp only [RepD]; rw [h.1, h.2]
  case h_2 => simp only [beq_iff_eq] at h; simp only [RepD]; rw [h]
  case h_3 => simp only [beq_iff_eq] at h; simp only [RepD]; rw [h]
  case h_4 => exact ⟨none, rfl⟩
  case h_9 => cases h
  all_goals exact ⟨rfl, rfl⟩
theorem zerosOk_rep : ∀ (ds : List D) (vs : List Value), zerosOk ds vs = true → RepL w M ds vs
  | [], [], _ => by simp [RepL]
  | [], v :: vs, h => by simp [zerosOk] at h
  | d :: ds, [], h => by simp [zerosOk] at h
  | d :: ds, v :: vs, h => by
    simp only [zerosOk, List.length_cons, List.zip_cons_cons, List.all_cons, Bool.and_eq_true, beq_iff_eq, Nat.add_right_cancel_iff] at h
    simp only [RepL]
    exact ⟨v, vs, rfl, zeroOk_rep d v h.2.1, zerosOk_rep ds vs (by simp only [zerosOk, Bool.and_eq_true, beq_iff_eq]; exact ⟨h.1, h.2.2⟩)⟩
theorem RepD.toC0 : ∀ {d : D} {v : Value}, RepD w M d v → RepC0 w M β d v
  | .unk, v, h => by simpa only [RepD, RepC0] using h
  | .int .., v, h => by simpa only [RepC0] using h
  | .bool .., v, h => by simpa only [RepC0] using h
  | .str .., v, h => by simpa only [RepC0] using h
  | .raw .., v, h => by simpa only [RepC0] using h
  | .nil, v, h => by simpa only [RepC0] using h
  | .list .., v, h => by simpa only [RepC0] using h
  | .ref .., v, h => by simpa only [RepC0] using h
  | .clo .., v, h => by simpa only [RepC0] using h
  | .own _, v, h => by simp only [RepD] at h
  | .vp .., v, h => by simp only [RepD] at h
  | .rp .., v, h => by simp only [RepD] at h
  | .mp _, v, h => by simp only [RepD] at h
theorem RepD.toC : ∀ {d : D} {v : Value}, RepD w M d v → RepC w M β d v
  | .clo f caps, v, h => by
    simp only [RepD] at h
    simp only [RepC]
    obtain ⟨vs, h1, h2⟩ := h
    refine ⟨vs, h1, RepL.length_eq _ _ h2, fun i d u hd hu => ?_⟩
    obtain ⟨x, hx, hr⟩ := RepL.get caps vs h2 i d hd
    rw [hu] at hx
    cases hx
    exact hr.toC0
  | .unk, v, h => by simp only [RepC]; exact h.toC0
  | .int .., v, h => by simp only [RepC]; exact h.toC0
  | .bool .., v, h => by simp only [RepC]; exact h.toC0
  | .str .., v, h => by simp only [RepC]; exact h.toC0
  | .raw .., v, h => by simp only [RepC]; exact h.toC0
  | .nil, v, h => by simp only [RepC]; exact h.toC0
  | .list .., v, h => by simp only [RepC]; exact h.toC0
  | .ref .., v, h => by simp only [RepC]; exact h.toC0
  | .own _, v, h => by simp only [RepD] at h
  | .vp .., v, h => by simp only [RepD] at h
  | .rp .., v, h => by simp only [RepD] at h
  | .mp _, v, h => by simp only [RepD] at h
theorem RepL.toC {ds : List D} {vs : List Value} (h : RepL w M ds vs) : RepCL w M β ds vs :=
  ⟨RepL.length_eq _ _ h, fun i d u hd hu => by
    obtain ⟨x, hx, hr⟩ := RepL.get ds vs h i d hd
    rw [hu] at hx
    cases hx
    exact hr.toC⟩
end

/-! ### constants and operands -/
def constAV : Value → AV
  | .int k n => .one (.int k n)
  | .bool b => .one (.bool b)
  | .string s => .one (.str s.data.toList)
  | .slice none 0 0 => .one .nil
  | .pointer none => .one (.raw (.pointer none))
  | .map none => .one (.raw (.map none))
  | .nilFunc => .one (.raw .nilFunc)
  | _ => .any
def AState.ev (σ : AState) : Operand → AV
  | .tmp t => (lookS σ.slots t).getD .any
  | .const v => constAV v
  | .func f => .one (.clo f [])
  | .global _ => .any
theorem constAV_rep (w : World) (M : Nat → Prop) (β : List Value) (v : Value) : RepV w M β (constAV v) v := by
  unfold constAV
  split
  all_goals simp_all [RepV, RepC, RepC0, RepD, Value.oneCell', maxLen]

section
variable {P : Program} {W0 w : World} {M0 : Nat → Prop} {F : List Value} {β : List Value} {σ : AState} {a : Act}
theorem Sim.ev (h : Sim W0 M0 F σ a w β) (x : Operand) : RepV w (Mof M0 β) β (σ.ev x) (a.eval x) := by
  cases x with
  | tmp t =>
    simp only [AState.ev]
    cases hl : lookS σ.slots t with
    | none => simp [RepV]
    | some v =>
      obtain ⟨x, h1, h2⟩ := h.slots t v hl
      have : a.eval (.tmp t) = x := by simp [Act.eval, Array.getD_eq_getD_getElem?, h1]
      rw [this]
      exact h2
  | const v => exact constAV_rep _ _ _ v
  | global g => simp [AState.ev, RepV]
  | func f => simp [AState.ev, RepV, RepC, Act.eval]
end

/-! ### guards: the value of a passed-over operation is not known; what is told under a condition may be used where that holds -/
def AV.need : AV → Prop
  | .cond g v => g = true ∧ v.need
  | _ => True
def AV.strip : AV → AV
  | .cond _ v => v.strip
  | v => v
theorem RepV.strip {w : World} {M : Nat → Prop} {β : List Value} : ∀ {v : AV} {x : Value}, RepV w M β v x → v.need → RepV w M β v.strip x
  | .one _, _, h, _ => h
  | .agg _, _, h, _ => h
  | .tup _, _, h, _ => h
  | .cond g v, x, h, hn => by
    have hn' : g = true ∧ v.need := hn
    have h' : (g = true → RepV w M β v x) ∧ (g = false → x = undef) := h
    exact RepV.strip (v := v) (h'.1 hn'.1) hn'.2
  | .any, _, h, _ => h
/-- is it told whether the guard's temporary holds a Bool, and which -/
def AV.isB : AV → Bool
  | .one (.bool _) => true
  | .cond _ v => v.isB
  | _ => false
/-- does the guard's temporary hold 'want' -/
def AV.says : AV → Bool → Bool
  | .one (.bool b), want => b == want
  | .cond g v, want => g && v.says want
  | _, _ => false
end Go.Eng
