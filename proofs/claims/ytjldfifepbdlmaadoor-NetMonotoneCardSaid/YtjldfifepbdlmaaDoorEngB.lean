/-
  The abstract machine: values, objects that the call owns, states; what they say of the concrete side; how they are kept.
-/
import Derived.Test.YtjldfifepbdlmaaDoorEngA
set_option linter.unusedSimpArgs false
set_option linter.unusedVariables false
namespace Go.Eng
open Go.RowKit

inductive AV where
  | one (d : D)
  | agg (ds : List D)
  | tup (vs : List AV)
  | cond (g : Bool) (v : AV)
  | any
  deriving Inhabited

inductive KeyKind where
  | str | int (k : IntKind)
  deriving DecidableEq
def plainKey : KeyKind → AV → Bool
  | .str, .one (.str _) => true
  | .int k, .one (.int k' _) => k == k'
  | _, _ => false
inductive AObj where
  | gone
  | row (e : TypeId) (sz : Nat) (rows : List (List D))
  | var (e : TypeId) (cs : List D)
  | map (kd : KeyKind) (kvs : List (AV × AV))
  deriving Inhabited

def hblk : Value → Option Nat
  | .slice (some a) _ (_ + 1) => some a.block
  | .pointer (some a) => some a.block
  | .map (some g) => some g
  | _ => none
theorem hblk_row {a : Addr} {n c : Nat} (h : 0 < c) : hblk (.slice (some a) n c) = some a.block := by cases c with | zero => omega | succ c => rfl
theorem hblk_slice {a : Addr} {n c g : Nat} (h : hblk (.slice (some a) n c) = some g) : a.block = g := by
  cases c with
  | zero => cases h
  | succ c => cases h; rfl
theorem rowAlt {p : Prop} (c : Nat) (h : p) : c = 0 ∨ 0 < c ∧ p := by
  cases c with
  | zero => exact .inl rfl
  | succ c => exact .inr ⟨Nat.succ_pos c, h⟩
theorem hblk_zero {A : Option Addr} {n : Nat} : hblk (.slice A n 0) = none := by cases A <;> rfl
theorem hblk_row_inv {A : Option Addr} {n c g : Nat} (h : hblk (.slice A n c) = some g) : 0 < c := by
  cases c with
  | zero => rw [hblk_zero] at h; cases h
  | succ c => omega
/-- the handle of a tag that nobody may speak of any more: what still bears it says nothing -/
def dead : Value := .agg ⟨[]⟩
def owned (β : List Value) (g : Nat) : Prop := ∃ (t : Nat) (h : Value), β[t]? = some h ∧ hblk h = some g
def Mof (M0 : Nat → Prop) (β : List Value) (g : Nat) : Prop := M0 g ∨ owned β g

/-- a cell, with tags (no captured variables) -/
def RepC0 (w : World) (M : Nat → Prop) (β : List Value) : D → Value → Prop
  | .unk, v => v.oneCell' = true
  | .own t, v => (β[t]? = some v ∨ β[t]? = some dead) ∧ v.oneCell' = true
  | .vp t off, v => (∃ g, β[t]? = some (.pointer (some ⟨g, 0, none⟩)) ∧ v = .pointer (some ⟨g, off, none⟩)) ∨ (β[t]? = some dead ∧ v.oneCell' = true)
  | .rp t i sz sub, v => (∃ g n c, β[t]? = some (.slice (some ⟨g, 0, none⟩) n c) ∧ v = .pointer (some ⟨g, i * sz + sub, none⟩)) ∨ (β[t]? = some dead ∧ v.oneCell' = true)
  | .mp t, v => (∃ g, β[t]? = some (.map (some g)) ∧ v = .map (some g)) ∨ (β[t]? = some dead ∧ v.oneCell' = true)
  | d, v => RepD w M d v
def RepC (w : World) (M : Nat → Prop) (β : List Value) : D → Value → Prop
  | .clo f caps, v => ∃ vs, v = .func (.func f) #[] ⟨vs⟩ ∧ caps.length = vs.length ∧ ∀ (i : Nat) (d : D) (u : Value), caps[i]? = some d → vs[i]? = some u → RepC0 w M β d u
  | d, v => RepC0 w M β d v
def RepCL (w : World) (M : Nat → Prop) (β : List Value) (ds : List D) (vs : List Value) : Prop :=
  ds.length = vs.length ∧ ∀ (i : Nat) (d : D) (u : Value), ds[i]? = some d → vs[i]? = some u → RepC w M β d u

mutual
def RepV (w : World) (M : Nat → Prop) (β : List Value) : AV → Value → Prop
  | .one d, v => RepC w M β d v
  | .agg ds, v => ∃ vs, v = .agg ⟨vs⟩ ∧ RepCL w M β ds vs
  | .tup avs, v => ∃ vs, v = .tuple ⟨vs⟩ ∧ RepVL w M β avs vs
  | .cond g av, v => (g = true → RepV w M β av v) ∧ (g = false → v = undef)
  | .any, _ => True
def RepVL (w : World) (M : Nat → Prop) (β : List Value) : List AV → List Value → Prop
  | [], vs => vs = []
  | a :: as, vs => ∃ v rest, vs = v :: rest ∧ RepV w M β a v ∧ RepVL w M β as rest
end

def ObjRep (w : World) (M : Nat → Prop) (β : List Value) : AObj → Value → Prop
  | .gone, _ => True
  | .row e sz rows, h => ∃ A c, h = .slice A rows.length c ∧ rows.length ≤ c ∧ c ≤ maxLen ∧
      (c = 0 ∨ 0 < c ∧ ∃ g cur, A = some ⟨g, 0, none⟩ ∧ w.heap[g]? = some (.cells cur e (0, 0)) ∧ cur.size = c * sz ∧ RepRows w M ⟨g, 0, none⟩ sz 0 rows)
  | .var e cs, h => ∃ g cur, h = .pointer (some ⟨g, 0, none⟩) ∧ w.heap[g]? = some (.cells cur e (0, 0)) ∧ RepCL w M β cs cur.toList
  | .map kd kvs, h => (∀ kv ∈ kvs, plainKey kd kv.1 = true) ∧ ∃ g es clk, h = .map (some g) ∧ w.heap[g]? = some (.map es clk) ∧ kvs.length = es.size ∧
      ∀ (i : Nat) (kv : AV × AV) (e : MapEntry), kvs[i]? = some kv → es[i]? = some e → RepV w M β kv.1 e.key ∧ RepV w M β kv.2 e.val

section
variable {w : World} {M : Nat → Prop} {β : List Value}
/-- what bears the tag of an object that is there is its handle -/
theorem own_live {t : Nat} {v : Value} {e : TypeId} {sz : Nat} {rows : List (List D)} (h : RepC0 w M β (.own t) v) (ho : ∀ x, β[t]? = some x → ObjRep w M β (.row e sz rows) x) : β[t]? = some v := by
  rcases h.1 with h1 | h1
  · exact h1
  · obtain ⟨A, c, h2, _⟩ := ho _ h1
    cases h2
theorem vp_live {t off : Nat} {v : Value} {e : TypeId} {cs : List D} (h : RepC0 w M β (.vp t off) v) (ho : ∀ x, β[t]? = some x → ObjRep w M β (.var e cs) x) : ∃ g, β[t]? = some (.pointer (some ⟨g, 0, none⟩)) ∧ v = .pointer (some ⟨g, off, none⟩) := by
  rcases h with h1 | h1
  · exact h1
  · obtain ⟨g, c, h2, _⟩ := ho _ h1.1
    cases h2
theorem rp_live {t i sz sub : Nat} {v : Value} {e : TypeId} {sz' : Nat} {rows : List (List D)} (h : RepC0 w M β (.rp t i sz sub) v) (ho : ∀ x, β[t]? = some x → ObjRep w M β (.row e sz' rows) x) : ∃ g n c, β[t]? = some (.slice (some ⟨g, 0, none⟩) n c) ∧ v = .pointer (some ⟨g, i * sz + sub, none⟩) := by
  rcases h with h1 | h1
  · exact h1
  · obtain ⟨A, c, h2, _⟩ := ho _ h1.1
    cases h2
theorem mp_live {t : Nat} {v : Value} {kd : KeyKind} {kvs : List (AV × AV)} (h : RepC0 w M β (.mp t) v) (ho : ∀ x, β[t]? = some x → ObjRep w M β (.map kd kvs) x) : ∃ g, β[t]? = some (.map (some g)) ∧ v = .map (some g) := by
  rcases h with h1 | h1
  · exact h1
  · obtain ⟨_, g, es, clk, h2, _⟩ := ho _ h1.1
    cases h2
end
/-! ### what keeps: the same tags, no block of the owned ones or of the immutable ones has turned -/
structure Same (w : World) (M : Nat → Prop) (β : List Value) (w' : World) (M' : Nat → Prop) : Prop where
  keeps : Keeps w M w' M'
  own : ∀ g, owned β g → w'.heap[g]? = w.heap[g]?

section
variable {w w' : World} {M M' : Nat → Prop} {β : List Value}
theorem RepC0.same (hs : Same w M β w' M') {d : D} {v : Value} (h : RepC0 w M β d v) : RepC0 w' M' β d v := by
  cases d
  case unk => exact h
  case own => exact h
  case vp => exact h
  case mp => exact h
  case rp => exact h
  all_goals (simp only [RepC0] at h ⊢; exact RepD.keep hs.keeps _ _ h)
theorem RepC.same (hs : Same w M β w' M') {d : D} {v : Value} (h : RepC w M β d v) : RepC w' M' β d v := by
  cases d
  case clo f caps =>
    obtain ⟨vs, h1, h2, h3⟩ := h
    exact ⟨vs, h1, h2, fun i d u a b => RepC0.same hs (h3 i d u a b)⟩
  all_goals (simp only [RepC] at h ⊢; exact h.same hs)
theorem RepCL.same (hs : Same w M β w' M') {ds : List D} {vs : List Value} (h : RepCL w M β ds vs) : RepCL w' M' β ds vs :=
  ⟨h.1, fun i d u a b => (h.2 i d u a b).same hs⟩
mutual
theorem RepV.same (hs : Same w M β w' M') : ∀ (a : AV) (v : Value), RepV w M β a v → RepV w' M' β a v
  | .one d, v, h => by simp only [RepV] at h ⊢; exact h.same hs
  | .agg ds, v, h => by simp only [RepV] at h ⊢; obtain ⟨vs, h1, h2⟩ := h; exact ⟨vs, h1, h2.same hs⟩
  | .tup avs, v, h => by simp only [RepV] at h ⊢; obtain ⟨vs, h1, h2⟩ := h; exact ⟨vs, h1, RepVL.same hs avs vs h2⟩
  | .cond g av, v, h => by simp only [RepV] at h ⊢; exact ⟨fun hg => RepV.same hs av v (h.1 hg), h.2⟩
  | .any, _, _ => by simp only [RepV]
theorem RepVL.same (hs : Same w M β w' M') : ∀ (as : List AV) (vs : List Value), RepVL w M β as vs → RepVL w' M' β as vs
  | [], vs, h => by simpa only [RepVL] using h
  | a :: as, vs, h => by
    simp only [RepVL] at h ⊢
    obtain ⟨v, rest, h1, h2, h3⟩ := h
    exact ⟨v, rest, h1, RepV.same hs a v h2, RepVL.same hs as rest h3⟩
end
theorem RepRows.keeps {ad : Addr} {sz o : Nat} {rows : List (List D)} (hk : Keeps w M w' M') (hc : ∀ vs o, reads w ad o vs → reads w' ad o vs) (h : RepRows w M ad sz o rows) : RepRows w' M' ad sz o rows :=
  RepRows.of_get rows o fun i r hr => by
    obtain ⟨vs, h1, h2, h3⟩ := RepRows.get rows o h i r hr
    exact ⟨vs, h1, hc _ _ h2, RepL.keep hk r vs h3⟩
theorem reads_block {ad : Addr} (h : w'.heap[ad.block]? = w.heap[ad.block]?) {o : Nat} {vs : List Value} (hr : reads w ad o vs) : reads w' ad o vs := by
  intro j u hu
  rw [World.cell?_of_block (w := w) (by rw [block_add]; exact h)]
  exact hr j u hu
theorem ObjRep.same (hs : Same w M β w' M') {t : Nat} {o : AObj} {h : Value} (ht : β[t]? = some h) (hr : ObjRep w M β o h) : ObjRep w' M' β o h := by
  cases o with
  | gone => exact hr
  | row e sz rows =>
    obtain ⟨A, c, h1, h2, h3, h4⟩ := hr
    refine ⟨A, c, h1, h2, h3, ?_⟩
    rcases h4 with h4 | ⟨hc0, g, cur, rfl, h5, h6, h7⟩
    · exact .inl h4
    · have hg := hs.own g ⟨t, h, ht, by rw [h1]; exact hblk_row hc0⟩
      exact .inr ⟨hc0, g, cur, rfl, hg.trans h5, h6, h7.keeps hs.keeps fun vs o => reads_block (by exact hg)⟩
  | var e cs =>
    obtain ⟨g, cur, h1, h2, h3⟩ := hr
    have hg := hs.own g ⟨t, h, ht, by rw [h1]; rfl⟩
    exact ⟨g, cur, h1, hg.trans h2, h3.same hs⟩
  | map kd kvs =>
    obtain ⟨hp, g, es, clk, h1, h2, h3, h4⟩ := hr
    have hg := hs.own g ⟨t, h, ht, by rw [h1]; rfl⟩
    exact ⟨hp, g, es, clk, h1, hg.trans h2, h3, fun i kv e a b => ⟨RepV.same hs _ _ (h4 i kv e a b).1, RepV.same hs _ _ (h4 i kv e a b).2⟩⟩
end

/-! ### states -/
def lookS : List (Nat × AV) → Nat → Option AV
  | [], _ => none
  | (j, v) :: l, i => if j = i then some v else lookS l i
structure AState where
  n : Nat
  slots : List (Nat × AV)
  H : List AObj
  pin : Nat
def AState.get (σ : AState) (i : Nat) : AV := (lookS σ.slots i).getD (.one .unk)
def AState.put (σ : AState) (d : Nat) (v : AV) : AState := { σ with slots := (d, v) :: σ.slots }

/-- but for the blocks of 'X' nothing old has turned -/
structure BelowX (X : Nat → Prop) (w w' : World) : Prop where
  os : w'.os = w.os
  tape : w'.tape = w.tape
  output : w'.output = w.output
  size : w.heap.size ≤ w'.heap.size
  block : ∀ k, k < w.heap.size → ¬ X k → w'.heap[k]? = w.heap[k]?
theorem BelowX.refl (X : Nat → Prop) (w : World) : BelowX X w w := ⟨rfl, rfl, rfl, Nat.le_refl _, fun _ _ _ => rfl⟩
theorem BelowX.ext {X : Nat → Prop} {w0 w w' : World} (h : BelowX X w0 w) (k : Below w.heap.size w w') : BelowX X w0 w' :=
  ⟨k.os.trans h.os, k.tape.trans h.tape, k.output.trans h.output, Nat.le_trans h.size k.size, fun i hi hx => (k.block i (Nat.lt_of_lt_of_le hi h.size)).trans (h.block i hi hx)⟩
theorem BelowX.trans {X Y : Nat → Prop} {w0 w w' : World} (h : BelowX X w0 w) (k : BelowX Y w w') (hY : ∀ i, i < w0.heap.size → Y i → X i) : BelowX X w0 w' :=
  ⟨k.os.trans h.os, k.tape.trans h.tape, k.output.trans h.output, Nat.le_trans h.size k.size, fun i hi hx => (k.block i (Nat.lt_of_lt_of_le hi h.size) fun hy => hx (hY i hi hy)).trans (h.block i hi hx)⟩
theorem BelowX.of {X : Nat → Prop} {w w' : World} (h : Below w.heap.size w w') : BelowX X w w' := ⟨h.os, h.tape, h.output, h.size, fun i hi _ => h.block i hi⟩
theorem BelowX.below {X : Nat → Prop} {w w' : World} (h : BelowX X w w') (hX : ∀ i, ¬ X i) : Below w.heap.size w w' := ⟨h.os, h.tape, h.output, h.size, fun i hi => h.block i hi (hX i)⟩
/-- package-level variables that are read: the block, what it holds -/
def globs : List (Nat × Array Value) := [(0, #[.int .u64 1, .int .u64 10, .int .u64 100, .int .u64 1000, .int .u64 10000, .int .u64 100000, .int .u64 1000000, .int .u64 10000000, .int .u64 100000000, .int .u64 1000000000, .int .u64 10000000000, .int .u64 100000000000, .int .u64 1000000000000, .int .u64 10000000000000, .int .u64 100000000000000, .int .u64 1000000000000000, .int .u64 10000000000000000, .int .u64 100000000000000000, .int .u64 1000000000000000000, .int .u64 10000000000000000000])]
/-- nobody writes 'M0' at a block beyond the heap; the tables that are read lie as they were laid -/
def MOk (w : World) (M0 : Nat → Prop) (F : List Value) : Prop := (∀ g, M0 g → g < w.heap.size) ∧ ∀ x ∈ globs, x.1 < w.heap.size ∧ (¬ M0 x.1 ∧ ¬ owned F x.1) ∧ ∃ e fz, w.heap[x.1]? = some (.cells x.2 e fz)
/-- 'F': the handles of the objects that came from the caller, to be turned; the first 'σ.pin' of them keep their handles -/
structure Sim (W0 : World) (M0 : Nat → Prop) (F : List Value) (σ : AState) (a : Act) (w : World) (β : List Value) : Prop where
  below : BelowX (owned F) W0 w
  m0 : MOk W0 M0 F
  len : β.length = σ.H.length
  objs : ∀ (t : Nat) (o : AObj) (h : Value), σ.H[t]? = some o → β[t]? = some h → ObjRep w (Mof M0 β) β o h
  fresh : ∀ g, owned β g → (owned F g ∨ W0.heap.size ≤ g) ∧ g < w.heap.size
  dist : ∀ (t t' : Nat) (h h' : Value) (g : Nat), β[t]? = some h → β[t']? = some h' → hblk h = some g → hblk h' = some g → t = t'
  slots : ∀ (i : Nat) (v : AV), lookS σ.slots i = some v → ∃ x : Value, a.tmps[i]? = some x ∧ RepV w (Mof M0 β) β v x
  size : a.tmps.size = σ.n
  defers : a.defers = []
  out : ∀ g, owned F g → ¬ M0 g ∧ g < W0.heap.size
  pins : σ.pin ≤ F.length ∧ ∀ t, t < σ.pin → β[t]? = F[t]?

section
variable {W0 : World} {M0 : Nat → Prop} {F : List Value} {σ : AState} {a : Act} {w w' : World} {β : List Value}
/-- the world has grown; nothing old has turned -/
theorem same_of_below (hb : Below w.heap.size w w') (hf : ∀ g, owned β g → g < w.heap.size) (M : Nat → Prop) : Same w M β w' M :=
  ⟨⟨hb.size, fun g hg _ => hb.block g hg, fun _ _ h => h⟩, fun g hg => hb.block g (hf g hg)⟩
theorem Sim.ext (h : Sim W0 M0 F σ a w β) (hb : Below w.heap.size w w') : Sim W0 M0 F σ a w' β := by
  have hs := same_of_below (M := Mof M0 β) hb (fun g hg => (h.fresh g hg).2)
  exact ⟨h.below.ext hb, h.m0, h.len, fun t o x ho hx => (h.objs t o x ho hx).same hs hx,
    fun g hg => ⟨(h.fresh g hg).1, Nat.lt_of_lt_of_le (h.fresh g hg).2 hb.size⟩, h.dist,
    fun i v hv => by obtain ⟨x, h1, h2⟩ := h.slots i v hv; exact ⟨x, h1, RepV.same hs v x h2⟩, h.size, h.defers, h.out, h.pins⟩
theorem put_tmps_same (a : Act) (d : Nat) (x : Value) (hd : d < a.tmps.size) : (a.put (some d) x).tmps[d]? = some x := by
  simp [Act.put, hd]
theorem put_tmps_other (a : Act) (d i : Nat) (x : Value) (hd : d ≠ i) : (a.put (some d) x).tmps[i]? = a.tmps[i]? := by
  simp [Act.put, Array.getElem?_setIfInBounds, hd]
theorem Sim.put (h : Sim W0 M0 F σ a w β) {d : Nat} {v : AV} {x : Value} (hd : d < σ.n) (hx : RepV w (Mof M0 β) β v x) : Sim W0 M0 F (σ.put d v) (a.put (some d) x) w β := by
  refine ⟨h.below, h.m0, h.len, h.objs, h.fresh, h.dist, fun i u hu => ?_, by simpa [Act.put, AState.put] using h.size, by simpa [Act.put] using h.defers, h.out, h.pins⟩
  simp only [AState.put, lookS] at hu
  split at hu
  · rename_i hdi
    subst hdi
    simp at hu
    subst hu
    exact ⟨x, put_tmps_same a d x (by rw [h.size]; exact hd), hx⟩
  · rename_i hdi
    rw [put_tmps_other a d i x hdi]
    exact h.slots i u hu
theorem Sim.get (h : Sim W0 M0 F σ a w β) (i : Nat) {x : Value} (hx : a.tmps[i]? = some x) (v : AV) (hv : lookS σ.slots i = some v) : RepV w (Mof M0 β) β v x := by
  obtain ⟨y, h1, h2⟩ := h.slots i v hv
  rw [hx] at h1
  cases h1
  exact h2
/-- a slot is overwritten by something of which nothing is said -/
theorem Sim.skipped (h : Sim W0 M0 F σ a w β) {d : Nat} {v : AV} (hd : d < σ.n) : Sim W0 M0 F (σ.put d (.cond false v)) (a.put (some d) undef) w β :=
  h.put hd (by simp [RepV])
end
end Go.Eng
