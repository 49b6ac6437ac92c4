/-
  The abstract machine: what the computing operations yield, and that the model yields that.
-/
import Derived.Test.YtjldfifepbdlmaaDoorEngC
set_option linter.unusedSimpArgs false
set_option linter.unusedVariables false
namespace Go.Eng
open Go.RowKit

def fitsI (k : IntKind) (z : Int) : Prop := k.min ≤ z ∧ z ≤ k.max
theorem fits_i64 (z : Int) : fitsI .i64 z ↔ -9223372036854775808 ≤ z ∧ z ≤ 9223372036854775807 := by simp [fitsI, IntKind.min, IntKind.max, IntKind.bits, IntKind.signed]
theorem fits_i32 (z : Int) : fitsI .i32 z ↔ -2147483648 ≤ z ∧ z ≤ 2147483647 := by simp [fitsI, IntKind.min, IntKind.max, IntKind.bits, IntKind.signed]
theorem fits_i8 (z : Int) : fitsI .i8 z ↔ -128 ≤ z ∧ z ≤ 127 := by simp [fitsI, IntKind.min, IntKind.max, IntKind.bits, IntKind.signed]
theorem fits_u8 (z : Int) : fitsI .u8 z ↔ 0 ≤ z ∧ z ≤ 255 := by simp [fitsI, IntKind.min, IntKind.max, IntKind.bits, IntKind.signed]
theorem fits_u32 (z : Int) : fitsI .u32 z ↔ 0 ≤ z ∧ z ≤ 4294967295 := by simp [fitsI, IntKind.min, IntKind.max, IntKind.bits, IntKind.signed]
theorem fits_u64 (z : Int) : fitsI .u64 z ↔ 0 ≤ z ∧ z ≤ 18446744073709551615 := by simp [fitsI, IntKind.min, IntKind.max, IntKind.bits, IntKind.signed]
theorem wrap_fits {k : IntKind} {z : Int} (h : fitsI k z) : k.wrap z = z := by
  cases k <;> simp only [fitsI, IntKind.min, IntKind.max, IntKind.bits, IntKind.signed, IntKind.wrap] at * <;> simp at * <;> (try split) <;> omega

def bitV (op : BinOp) (k : IntKind) (x y : Int) : Int :=
  let a := BitVec.ofInt k.bits x
  let b := BitVec.ofInt k.bits y
  match op with
  | .and => k.wrap (a &&& b).toNat
  | .or => k.wrap (a ||| b).toNat
  | .xor => k.wrap (a ^^^ b).toNat
  | _ => 0
def intBin (op : BinOp) (k k' : IntKind) (a b : Int) : Prop × AV :=
  match op with
  | .add => (k = k' ∧ fitsI k (a + b), .one (.int k (a + b)))
  | .sub => (k = k' ∧ fitsI k (a - b), .one (.int k (a - b)))
  | .mul => (k = k' ∧ fitsI k (a * b), .one (.int k (a * b)))
  | .quo => (k = k' ∧ b ≠ 0 ∧ fitsI k (a.tdiv b), .one (.int k (a.tdiv b)))
  | .rem => (k = k' ∧ b ≠ 0, .one (.int k (a.tmod b)))
  | .and => (k = k', .one (.int k (bitV .and k a b)))
  | .or => (k = k', .one (.int k (bitV .or k a b)))
  | .xor => (k = k', .one (.int k (bitV .xor k a b)))
  | .andNot => (False, .one .unk)
  | .shl => (0 ≤ b, .one (.int k (k.wrap (a * 2 ^ (min b.toNat k.bits)))))
  | .shr => (0 ≤ b, .one (.int k (a.fdiv (2 ^ (min b.toNat k.bits)))))
  | .eql => (k = k', .one (.bool (a == b)))
  | .neq => (k = k', .one (.bool (a != b)))
  | .lss => (k = k', .one (.bool (decide (a < b))))
  | .leq => (k = k', .one (.bool (decide (a ≤ b))))
  | .gtr => (k = k', .one (.bool (decide (b < a))))
  | .geq => (k = k', .one (.bool (decide (b ≤ a))))
def eqD : D → D → Bool
  | .int _ a, .int _ b => a == b
  | .bool a, .bool b => a == b
  | .str a, .str b => a == b
  | _, _ => false
/-- both are of one plain kind -/
def likeD : D → D → Desc → Bool
  | .int k _, .int k' _, .int q => k == k' && k == q
  | .bool _, .bool _, .bool => true
  | .str _, .str _, .string => true
  | _, _, _ => false
def eqRow : List D → List D → Bool
  | a :: as, b :: bs => eqD a b && eqRow as bs
  | _, _ => true
def plainRows (T : Tab) : List (Nat × TypeId) → Nat → List D → List D → Bool
  | [], _, [], [] => true
  | f :: fs, o, a :: as, b :: bs => f.1 == o && likeD a b (T f.2).desc && plainRows T fs (o + 1) as bs
  | _, _, _, _ => false
def boolBin (op : BinOp) (a b : Bool) : Prop × AV :=
  match op with
  | .eql => (True, .one (.bool (a == b)))
  | .neq => (True, .one (.bool (a != b)))
  | _ => (False, .one .unk)
def strBin (op : BinOp) (a b : List UInt8) : Prop × AV :=
  match op with
  | .add => (((a.length + b.length : Nat) : Int) ≤ 9223372036854775807, .one (.str (a ++ b)))
  | .eql => (True, .one (.bool (a == b)))
  | .neq => (True, .one (.bool (a != b)))
  | .lss => (True, .one (.bool (Op.bytesLess a b)))
  | _ => (False, .one .unk)
def binV (T : Tab) (op : BinOp) (t : TypeId) (x y : AV) : Prop × AV :=
  match x, y with
  | .one (.int k a), .one (.int k' b) => intBin op k k' a b
  | .one (.bool a), .one (.bool b) => ((boolBin op a b).1 ∧ (T t).desc = .bool, (boolBin op a b).2)
  | .one (.str a), .one (.str b) => strBin op a b
  | _, _ => (False, .one .unk)
def unV (op : UnOp) (x : AV) : Prop × AV :=
  match op, x with
  | .neg, .one (.int k a) => (fitsI k (-a), .one (.int k (-a)))
  | .not, .one (.bool b) => (True, .one (.bool (!b)))
  | _, _ => (False, .one .unk)

section
variable {P : Program} {T : Tab} {w : World} {M : Nat → Prop} {β : List Value}
def RunTo (P : Program) (w : World) (M : Nat → Prop) (β : List Value) (s : Sem Value) (v : AV) : Prop := ∃ u w', s.run P w = .ok u w' ∧ Below w.heap.size w w' ∧ RepV w' M β v u
theorem RunTo.pure {s : Sem Value} {v : AV} (u : Value) (h : s.run P w = .ok u w) (hr : RepV w M β v u) : RunTo P w M β s v := ⟨u, w, h, Below.refl _ _, hr⟩
theorem rep_int {k : IntKind} {z : Int} : RepV w M β (.one (.int k z)) (.int k z) := rfl
theorem rep_bool {b : Bool} : RepV w M β (.one (.bool b)) (.bool b) := rfl
theorem rep_str {s : List UInt8} : RepV w M β (.one (.str s)) (.string ⟨⟨s⟩⟩) := rfl
theorem rep_int_inv {k : IntKind} {z : Int} {v : Value} (h : RepV w M β (.one (.int k z)) v) : v = .int k z := h
theorem rep_bool_inv {b : Bool} {v : Value} (h : RepV w M β (.one (.bool b)) v) : v = .bool b := h
theorem rep_str_inv {s : List UInt8} {v : Value} (h : RepV w M β (.one (.str s)) v) : v = .string ⟨⟨s⟩⟩ := h

theorem intBin_sound (op : BinOp) (k k' : IntKind) (a b : Int) (t : TypeId) (x y : Operand) (h : (intBin op k k' a b).1) :
    RunTo P w M β (do eqGuard op t x y (.int k a) (.int k' b); binOp op t (.int k a) (.int k' b)) (intBin op k k' a b).2 := by
  cases op <;> simp only [intBin] at h ⊢
  case shl => exact RunTo.pure _ (by simp [eqGuard, binOp, Op.shift, Int.not_lt.2 h] <;> rfl) rep_int
  case shr => exact RunTo.pure _ (by simp [eqGuard, binOp, Op.shift, Int.not_lt.2 h] <;> rfl) rep_int
  case add => obtain ⟨rfl, h⟩ := h; exact RunTo.pure _ (by simp [eqGuard, binOp, Op.intArith, wrap_fits h] <;> rfl) rep_int
  case sub => obtain ⟨rfl, h⟩ := h; exact RunTo.pure _ (by simp [eqGuard, binOp, Op.intArith, wrap_fits h] <;> rfl) rep_int
  case mul => obtain ⟨rfl, h⟩ := h; exact RunTo.pure _ (by simp [eqGuard, binOp, Op.intArith, wrap_fits h] <;> rfl) rep_int
  case quo => obtain ⟨rfl, h0, h⟩ := h; exact RunTo.pure _ (by simp [eqGuard, binOp, Op.intDiv, h0, wrap_fits h] <;> rfl) rep_int
  case rem => obtain ⟨rfl, h0⟩ := h; exact RunTo.pure _ (by simp [eqGuard, binOp, Op.intDiv, h0] <;> rfl) rep_int
  case and => subst h; exact RunTo.pure _ (by simp [eqGuard, binOp, Op.intBits] <;> rfl) rep_int
  case or => subst h; exact RunTo.pure _ (by simp [eqGuard, binOp, Op.intBits] <;> rfl) rep_int
  case xor => subst h; exact RunTo.pure _ (by simp [eqGuard, binOp, Op.intBits] <;> rfl) rep_int
  case eql => subst h; exact RunTo.pure _ (by simp [eqGuard, binOp, Op.intCmp] <;> rfl) rep_bool
  case neq => subst h; exact RunTo.pure _ (by simp [eqGuard, binOp, Op.intCmp] <;> rfl) rep_bool
  case lss => subst h; exact RunTo.pure _ (by simp [eqGuard, binOp, Op.intCmp] <;> rfl) rep_bool
  case leq => subst h; exact RunTo.pure _ (by simp [eqGuard, binOp, Op.intCmp] <;> rfl) rep_bool
  case gtr => subst h; exact RunTo.pure _ (by simp [eqGuard, binOp, Op.intCmp] <;> rfl) rep_bool
  case geq => subst h; exact RunTo.pure _ (by simp [eqGuard, binOp, Op.intCmp] <;> rfl) rep_bool
theorem under_bool (hT : TabOk P T) {t : TypeId} (h : (T t).desc = .bool) : P.underlying t = some .bool := by
  have := (hT t).desc
  rw [h] at this
  simp only [descOk] at this
  split at this
  · assumption
  · cases this
theorem run_equal_bool {t : TypeId} (hu : P.underlying t = some .bool) (a b : Bool) : (Op.equal t (.bool a) (.bool b)).run P w = .ok (a == b) w := by
  have key : ∀ d, (Op.equalIn (d + 1) t (.bool a) (.bool b)).run P w = .ok (a == b) w := fun d => by simp [Op.equalIn, run_underlying hu]
  exact key 9999
theorem boolBin_sound (hT : TabOk P T) (op : BinOp) (a b : Bool) (t : TypeId) (x y : Operand) (h : (boolBin op a b).1) (ht : (T t).desc = .bool) :
    RunTo P w M β (do eqGuard op t x y (.bool a) (.bool b); binOp op t (.bool a) (.bool b)) (boolBin op a b).2 := by
  have hu := under_bool hT ht
  cases op <;> simp only [boolBin] at h ⊢
  case eql => exact RunTo.pure _ (by simp [eqGuard, binOp, run_equal_bool hu, bne] <;> rfl) rep_bool
  case neq => exact RunTo.pure _ (by simp [eqGuard, binOp, run_equal_bool hu, bne] <;> rfl) rep_bool
theorem string_append (a b : List UInt8) : (⟨⟨a⟩⟩ : ByteArray) ++ ⟨⟨b⟩⟩ = ⟨⟨a ++ b⟩⟩ := by
  apply ByteArray.ext
  simp
theorem strBin_sound (op : BinOp) (a b : List UInt8) (t : TypeId) (x y : Operand) (h : (strBin op a b).1) :
    RunTo P w M β (do eqGuard op t x y (.string ⟨⟨a⟩⟩) (.string ⟨⟨b⟩⟩); binOp op t (.string ⟨⟨a⟩⟩) (.string ⟨⟨b⟩⟩)) (strBin op a b).2 := by
  cases op <;> simp only [strBin] at h ⊢
  case add =>
    refine RunTo.pure _ ?_ rep_str
    have hs : ¬ ((((⟨⟨a⟩⟩ : ByteArray).size + (⟨⟨b⟩⟩ : ByteArray).size : Nat) : Int) > IntKind.i64.max) := by
      have e : IntKind.i64.max = 9223372036854775807 := by simp [IntKind.max, IntKind.bits, IntKind.signed]
      rw [e]
      show ¬ (((a.length + b.length : Nat) : Int) > 9223372036854775807)
      omega
    simp only [eqGuard, binOp, Op.stringOp]
    rw [if_neg hs]
    simp [string_append]
  case eql => exact RunTo.pure _ (by simp [eqGuard, binOp, Op.stringOp] <;> rfl) rep_bool
  case neq => exact RunTo.pure _ (by simp [eqGuard, binOp, Op.stringOp, bne] <;> rfl) rep_bool
  case lss => exact RunTo.pure _ (by simp [eqGuard, binOp, Op.stringOp] <;> rfl) rep_bool
theorem binV_sound (hT : TabOk P T) (op : BinOp) (t : TypeId) (x y : Operand) (u v : AV) (a b : Value) (ha : RepV w M β u a) (hb : RepV w M β v b) (h : (binV T op t u v).1) :
    RunTo P w M β (do eqGuard op t x y a b; binOp op t a b) (binV T op t u v).2 := by
  unfold binV at h ⊢
  split
  · rw [rep_int_inv ha, rep_int_inv hb]
    exact intBin_sound op _ _ _ _ t x y h
  · rw [rep_bool_inv ha, rep_bool_inv hb]
    exact boolBin_sound hT op _ _ t x y h.1 h.2
  · rw [rep_str_inv ha, rep_str_inv hb]
    exact strBin_sound op _ _ t x y h
  · exact (by simp_all : False).elim
theorem unV_sound (op : UnOp) (u : AV) (a : Value) (ha : RepV w M β u a) (h : (unV op u).1) : RunTo P w M β (Op.unary op a) (unV op u).2 := by
  unfold unV at h ⊢
  split
  · rw [rep_int_inv ha]
    exact RunTo.pure _ (by simp [Op.unary, Op.intArith, wrap_fits (show fitsI _ _ from h)] <;> rfl) rep_int
  · rw [rep_bool_inv ha]
    exact RunTo.pure _ (by simp [Op.unary] <;> rfl) rep_bool
  · exact (by simp_all : False).elim
end
end Go.Eng
