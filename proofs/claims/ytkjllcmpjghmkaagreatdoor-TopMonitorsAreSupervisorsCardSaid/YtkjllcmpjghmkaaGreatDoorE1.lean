/-
 The abstract machine over data, part 1: see the headings.
-/
import Derived.WalkKit
import Derived.WalkSpells
import Derived.WalkLawsBesides
import Derived.Laws.BytesArg
import Derived.MapKept
import Derived.Laws.StructEq
set_option linter.unusedSimpArgs false
set_option linter.unusedVariables false
namespace Go.Eng
open Go.RowKit
theorem zga {α : Type} : ∀ (a : Ask α) (w : World), w.drawn ≤ (w.ask a).2.drawn
 | .done _, _ => Nat.le_refl _
 | .ask what range k, w => by
  rw [World.ask]
  split
  ·exact zga (k 0) w
  ·exact Nat.le_trans (Nat.le_succ w.drawn) (zga (k _) { w with drawn := w.drawn + 1 })
theorem zjn (w : World) (c : Sys) : w.drawn ≤ (w.sys c).2.drawn := by
 unfold World.sys
 have := zga (Kernel.perform c w.os) w
 split
 ·exact Nat.le_refl _
 ·rename_i h
  rw [h] at this
  exact this
theorem z9q {p : Program} {w w' : World} {at_ : Addr} {u : TypeId} {k : Addr} {v : Value} {a : Bool} {l : List Addr} (h : w.viewStore p at_ u k v a = .ok (w', l)) : w'.drawn = w.drawn := by
 unfold World.viewStore at h
 simp only [bind, Except.bind, pure, Except.pure] at h
 repeat' (first | (cases h; rfl) | (cases h) | split at h)
theorem zbp {p : Program} {w w' : World} {k : Addr} {v : Value} {a : Bool} {l : List Addr} (h : w.farStore p k v a = .ok (w', l)) : w'.drawn = w.drawn := by
 unfold World.farStore at h
 split at h
 ·split at h
  ·rename_i r hr
   cases h
   exact z9q hr
  ·cases h
 ·cases h
def resUp {α : Type} (w : World) : Result α → Prop
 | .ok _ w' => w.drawn ≤ w'.drawn
 | .halt _ w' => w.drawn ≤ w'.drawn
theorem resUp.trans {α : Type} {w w1 : World} {r : Result α} (h : w.drawn ≤ w1.drawn) (k : resUp w1 r) : resUp w r := by
 cases r <;> exact Nat.le_trans h k
theorem freeze_drawn (w : World) (a : Addr) (n : Nat) : (w.freeze a n).drawn = w.drawn := by
 unfold World.freeze
 split <;> rfl
theorem zjq {α : Type} (p : Program) : ∀ (s : Sem α) (w : World), resUp w (s.run p w) := by
 intro s
 induction s with
 | pure a => intro w; exact Nat.le_refl _
 | load m a k ih =>
  intro w
  rw [Sem.run]
  split
  ·exact ih _ w
  ·split
   ·exact ih _ w
   ·exact Nat.le_refl _
 | store m a v k ih =>
  intro w
  cases v
  all_goals
   unfold Sem.run
   first
   | exact Nat.le_refl _
   | (split <;> split <;> first | exact Nat.le_refl _ | exact resUp.trans (Nat.le_refl _) (ih _) | (rename_i hf; exact resUp.trans (Nat.le_of_eq (zbp hf).symm) (ih _)))
 | new o k ih => intro w; rw [Sem.run]; exact resUp.trans (Nat.le_refl _) (ih _ _)
 | shape r k ih => intro w; rw [Sem.run]; exact ih _ w
 | freeze a n k ih => intro w; rw [Sem.run]; exact resUp.trans (Nat.le_of_eq (freeze_drawn w a n).symm) (ih _)
 | frozen a k ih => intro w; rw [Sem.run]; exact ih _ w
 | getObj r k ih =>
  intro w
  rw [Sem.run]
  split
  ·exact Nat.le_refl _
  ·exact ih _ w
  ·exact Nat.le_refl _
 | setObj r o k ih =>
  intro w
  rw [Sem.run]
  split
  ·exact Nat.le_refl _
  ·exact resUp.trans (Nat.le_refl _) (ih _)
  ·exact Nat.le_refl _
 | choose q k ih =>
  intro w
  rw [Sem.run]
  split
  ·exact ih _ w
  ·exact resUp.trans (Nat.le_succ _) (ih _ _)
 | sys c k ih => intro w; rw [Sem.run]; exact resUp.trans (zjn w c) (ih _ _)
 | program k ih => intro w; rw [Sem.run]; exact ih _ w
 | mark m k ih => intro w; rw [Sem.run]; exact ih w
 | halt h => intro w; exact Nat.le_refl _
theorem drawn_run {P : Program} {α : Type} {s : Sem α} {v : α} {w w' : World} (hr : s.run P w = .ok v w') : w.drawn ≤ w'.drawn := by have := zjq P s w; rw [hr] at this; exact this
structure Below (B : Nat) (w w' : World) : Prop extends Go.RowKit.Below B w w' where
 drawn : w.drawn ≤ w'.drawn
theorem Below.refl (B : Nat) (w : World) : Below B w w := ⟨Go.RowKit.Below.refl B w, Nat.le_refl _⟩
theorem Below.alloc {B : Nat} {w w' : World} (h : Below B w w') (hB : B ≤ w'.heap.size) (o : Obj) : Below B w (w'.alloc o) := ⟨h.toBelow.alloc hB o, h.drawn⟩
theorem Below.drew {B : Nat} {w w' : World} (h : Below B w w') : Below B w w'.drew := ⟨h.toBelow.drew, Nat.le_succ_of_le h.drawn⟩
theorem Below.trans {B : Nat} {w w' w'' : World} (h : Below B w w') (k : Below B w' w'') : Below B w w'' := ⟨h.toBelow.trans k.toBelow, Nat.le_trans h.drawn k.drawn⟩
theorem Below.mono {B C : Nat} {w w' : World} (h : Below C w w') (hb : B ≤ C) : Below B w w' := ⟨h.toBelow.mono hb, h.drawn⟩
inductive KeyKind where
 | str | int (k : IntKind) | pair (q : TypeId)
 deriving DecidableEq
inductive TKey where
 | str (s : List UInt8)
 | int (k : IntKind) (z : Int)
 | pair (a b : Int)
inductive TVal where
 | int (k : IntKind) (z : Int)
 | bool (b : Bool)
def TKey.val : TKey → Value
 | .str s => .string ⟨⟨s⟩⟩
 | .int k z => .int k z
 | .pair a b => .agg #[.int .i64 a, .int .i64 b]
def TVal.val : TVal → Value
 | .int k z => .int k z
 | .bool b => .bool b
def TKey.ok : KeyKind → TKey → Bool
 | .str, .str _ => true
 | .int k, .int k' _ => k == k'
 | .pair _, .pair .. => true
 | _, _ => false
inductive D where
 | unk
 | int (k : IntKind) (z : Int)
 | bool (b : Bool)
 | str (s : List UInt8)
 | raw (v : Value)
 | nil
 | list (rows : List (List D))
 | full (rows : List (List D))
 | ref (row : List D)
 | clo (f : FuncId) (caps : List D)
 | own (t : Nat)
 | vp (t off : Nat)
 | rp (t i sz sub : Nat)
 | mp (t : Nat)
 | tab (kd : KeyKind) (ks : List (TKey × TVal))
 deriving Inhabited
theorem block_add (a : Addr) (n : Nat) : (a.add n).block = a.block := by unfold Addr.add; split <;> rfl
theorem zbR (a : Addr) (i j : Nat) : (a.add i).add j = a.add (i + j) := by
 unfold Addr.add
 by_cases hi : i = 0 <;> by_cases hj : j = 0 <;> simp [hi, hj, Nat.add_assoc]
theorem add_zero (a : Addr) : a.add 0 = a := by simp [Addr.add]
theorem add_lit (g o n : Nat) : (⟨g, o, none⟩ : Addr).add n = ⟨g, o + n, none⟩ := by unfold Addr.add; split <;> simp_all
def reads (w : World) (ad : Addr) (o : Nat) (vs : List Value) : Prop := ∀ j u, vs[j]? = some u → w.cell? (ad.add (o + j)) = some u
mutual
def RepD (w : World) (M : Nat → Prop) : D → Value → Prop
 | .unk, v => v.oneCell' = true
 | .int k z, v => v = .int k z
 | .bool b, v => v = .bool b
 | .str s, v => v = .string ⟨⟨s⟩⟩
 | .raw u, v => v = u ∧ u.oneCell' = true
 | .nil, v => ∃ A, v = .slice A 0 0
 | .list rows, v => ∃ A c, v = .slice A rows.length c ∧ rows.length ≤ c ∧ c ≤ maxLen ∧ (rows = [] ∨ ∃ ad sz, A = some ad ∧ ad.block < w.heap.size ∧ ¬ M ad.block ∧ RepRows w M ad sz 0 rows)
 | .full rows, v => ∃ A, v = .slice A rows.length rows.length ∧ rows.length ≤ maxLen ∧ (rows = [] ∨ ∃ ad sz, A = some ad ∧ ad.block < w.heap.size ∧ ¬ M ad.block ∧ RepRows w M ad sz 0 rows)
 | .ref row, v => ∃ ad, v = .pointer (some ad) ∧ ad.block < w.heap.size ∧ ¬ M ad.block ∧ ∃ vs, reads w ad 0 vs ∧ RepL w M row vs
 | .clo f caps, v => ∃ vs, v = .func (.func f) #[] ⟨vs⟩ ∧ RepL w M caps vs
 | .own _, _ => False
 | .vp _ _, _ => False
 | .rp _ _ _ _, _ => False
 | .mp _, _ => False
 | .tab kd ks, v => ∃ g es clk, v = .map (some g) ∧ g < w.heap.size ∧ ¬ M g ∧ w.heap[g]? = some (.map es clk) ∧ (∀ p ∈ ks, p.1.ok kd = true) ∧ ks.length = es.size ∧ ∀ (i : Nat) (p : TKey × TVal) (e : MapEntry), ks[i]? = some p → es[i]? = some e → e.key = p.1.val ∧ e.val = p.2.val
def RepL (w : World) (M : Nat → Prop) : List D → List Value → Prop
 | [], vs => vs = []
 | d :: ds, vs => ∃ v rest, vs = v :: rest ∧ RepD w M d v ∧ RepL w M ds rest
def RepRows (w : World) (M : Nat → Prop) (ad : Addr) (sz : Nat) : Nat → List (List D) → Prop
 | _, [] => True
 | o, r :: rs => (∃ vs, vs.length = sz ∧ reads w ad o vs ∧ RepL w M r vs) ∧ RepRows w M ad sz (o + sz) rs
end
structure Keeps (w : World) (M : Nat → Prop) (w' : World) (M' : Nat → Prop) : Prop where
 size : w.heap.size ≤ w'.heap.size
 block : ∀ g, g < w.heap.size → ¬ M g → w'.heap[g]? = w.heap[g]?
 out : ∀ g, g < w.heap.size → ¬ M g → ¬ M' g
theorem Keeps.refl (w : World) (M : Nat → Prop) : Keeps w M w M := ⟨Nat.le_refl _, fun _ _ _ => rfl, fun _ _ h => h⟩
section
variable {w w' : World} {M M' : Nat → Prop}
theorem z7T (hk : Keeps w M w' M') {ad : Addr} {o : Nat} {vs : List Value} (hb : ad.block < w.heap.size) (hm : ¬ M ad.block) (h : reads w ad o vs) : reads w' ad o vs := by
 intro j u hu
 rw [World.cell?_of_block (w := w) (by rw [block_add]; exact hk.block _ hb hm)]
 exact h j u hu
mutual
theorem RepD.keep (hk : Keeps w M w' M') : ∀ (d : D) (v : Value), RepD w M d v → RepD w' M' d v
 | .unk, _, h => by simpa only [RepD] using h
 | .int .., _, h => by simpa only [RepD] using h
 | .bool .., _, h => by simpa only [RepD] using h
 | .str .., _, h => by simpa only [RepD] using h
 | .raw .., _, h => by simpa only [RepD] using h
 | .nil, _, h => by simpa only [RepD] using h
 | .list rows, v, h => by
  simp only [RepD] at h ⊢
  obtain ⟨A, c, hv, h1, h2, h3⟩ := h
  refine ⟨A, c, hv, h1, h2, ?_⟩
  rcases h3 with h3 | ⟨ad, sz, hA, hb, hm, hr⟩
  ·exact .inl h3
  ·exact .inr ⟨ad, sz, hA, Nat.lt_of_lt_of_le hb hk.size, hk.out _ hb hm, RepRows.keep hk hb hm rows 0 hr⟩
 | .full rows, v, h => by
  simp only [RepD] at h ⊢
  obtain ⟨A, hv, h1, h3⟩ := h
  refine ⟨A, hv, h1, ?_⟩
  rcases h3 with h3 | ⟨ad, sz, hA, hb, hm, hr⟩
  ·exact .inl h3
  ·exact .inr ⟨ad, sz, hA, Nat.lt_of_lt_of_le hb hk.size, hk.out _ hb hm, RepRows.keep hk hb hm rows 0 hr⟩
 | .ref row, v, h => by
  simp only [RepD] at h ⊢
  obtain ⟨ad, hv, hb, hm, vs, hr, hl⟩ := h
  exact ⟨ad, hv, Nat.lt_of_lt_of_le hb hk.size, hk.out _ hb hm, vs, z7T hk hb hm hr, RepL.keep hk row vs hl⟩
 | .tab kd ks, v, h => by
  simp only [RepD] at h ⊢
  obtain ⟨g, es, clk, hv, hb, hm, hg, h1, h2, h3⟩ := h
  exact ⟨g, es, clk, hv, Nat.lt_of_lt_of_le hb hk.size, hk.out _ hb hm, by rw [hk.block _ hb hm]; exact hg, h1, h2, h3⟩
 | .clo f caps, v, h => by
  simp only [RepD] at h ⊢
  obtain ⟨vs, hv, hl⟩ := h
  exact ⟨vs, hv, RepL.keep hk caps vs hl⟩
 | .own _, _, h => by simp only [RepD] at h
 | .vp .., _, h => by simp only [RepD] at h
 | .rp .., _, h => by simp only [RepD] at h
 | .mp _, _, h => by simp only [RepD] at h
theorem RepL.keep (hk : Keeps w M w' M') : ∀ (ds : List D) (vs : List Value), RepL w M ds vs → RepL w' M' ds vs
 | [], vs, h => by simpa only [RepL] using h
 | d :: ds, vs, h => by
  simp only [RepL] at h ⊢
  obtain ⟨v, rest, hv, hd, hl⟩ := h
  exact ⟨v, rest, hv, RepD.keep hk d v hd, RepL.keep hk ds rest hl⟩
theorem RepRows.keep (hk : Keeps w M w' M') {ad : Addr} {sz : Nat} (hb : ad.block < w.heap.size) (hm : ¬ M ad.block) : ∀ (rows : List (List D)) (o : Nat), RepRows w M ad sz o rows → RepRows w' M' ad sz o rows
 | [], _, _ => by simp only [RepRows]
 | r :: rs, o, h => by
  simp only [RepRows] at h ⊢
  obtain ⟨⟨vs, h1, h2, h3⟩, h4⟩ := h
  exact ⟨⟨vs, h1, z7T hk hb hm h2, RepL.keep hk r vs h3⟩, RepRows.keep hk hb hm rs _ h4⟩
end
end
section
variable {w : World} {M : Nat → Prop}
theorem RepL.length_eq : ∀ (ds : List D) (vs : List Value), RepL w M ds vs → ds.length = vs.length
 | [], vs, h => by simp only [RepL] at h; simp [h]
 | d :: ds, vs, h => by
  simp only [RepL] at h
  obtain ⟨v, rest, rfl, _, hl⟩ := h
  simp [RepL.length_eq ds rest hl]
theorem RepL.get : ∀ (ds : List D) (vs : List Value), RepL w M ds vs → ∀ (i : Nat) (d : D), ds[i]? = some d → ∃ v, vs[i]? = some v ∧ RepD w M d v
 | [], vs, h, i, d, hd => by simp at hd
 | d :: ds, vs, h, i, e, hd => by
  simp only [RepL] at h
  obtain ⟨v, rest, rfl, h1, hl⟩ := h
  cases i with
  | zero => simp at hd; subst hd; exact ⟨v, rfl, h1⟩
  | succ i => simpa using RepL.get ds rest hl i e (by simpa using hd)
theorem RepL.drop : ∀ (ds : List D) (vs : List Value) (k : Nat), RepL w M ds vs → RepL w M (ds.drop k) (vs.drop k)
 | [], vs, k, h => by simp only [RepL] at h; subst h; simp [RepL]
 | d :: ds, vs, k, h => by
  cases k with
  | zero => exact h
  | succ k =>
   simp only [RepL] at h
   obtain ⟨v, rest, rfl, h1, hl⟩ := h
   simpa using RepL.drop ds rest k hl
theorem RepL.take : ∀ (ds : List D) (vs : List Value) (k : Nat), RepL w M ds vs → RepL w M (ds.take k) (vs.take k)
 | [], vs, k, h => by simp only [RepL] at h; subst h; simp [RepL]
 | d :: ds, vs, k, h => by
  cases k with
  | zero => simp [RepL]
  | succ k =>
   simp only [RepL] at h
   obtain ⟨v, rest, rfl, h1, hl⟩ := h
   simp only [List.take_succ_cons, RepL]
   exact ⟨v, _, rfl, h1, RepL.take ds rest k hl⟩
theorem RepL.append : ∀ (ds es : List D) (vs us : List Value), RepL w M ds vs → RepL w M es us → RepL w M (ds ++ es) (vs ++ us)
 | [], es, vs, us, h, k => by simp only [RepL] at h; subst h; simpa using k
 | d :: ds, es, vs, us, h, k => by
  simp only [RepL] at h
  obtain ⟨v, rest, rfl, h1, hl⟩ := h
  simp only [List.cons_append, RepL]
  exact ⟨v, _, rfl, h1, RepL.append ds es rest us hl k⟩
theorem RepRows.get {ad : Addr} {sz : Nat} : ∀ (rows : List (List D)) (o : Nat), RepRows w M ad sz o rows → ∀ (i : Nat) (r : List D), rows[i]? = some r → ∃ vs, vs.length = sz ∧ reads w ad (o + i * sz) vs ∧ RepL w M r vs
 | [], o, h, i, r, hr => by simp at hr
 | r :: rs, o, h, i, q, hq => by
  simp only [RepRows] at h
  obtain ⟨h1, h2⟩ := h
  cases i with
  | zero => simp at hq; subst hq; simpa using h1
  | succ i =>
   have := RepRows.get rs (o + sz) h2 i q (by simpa using hq)
   rwa [show o + sz + i * sz = o + (i + 1) * sz by rw [Nat.succ_mul]; omega] at this
theorem RepRows.of_get {ad : Addr} {sz : Nat} : ∀ (rows : List (List D)) (o : Nat), (∀ (i : Nat) (r : List D), rows[i]? = some r → ∃ vs, vs.length = sz ∧ reads w ad (o + i * sz) vs ∧ RepL w M r vs) → RepRows w M ad sz o rows
 | [], o, h => by simp only [RepRows]
 | r :: rs, o, h => by
  simp only [RepRows]
  refine ⟨by simpa using h 0 r rfl, RepRows.of_get rs (o + sz) fun i q hq => ?_⟩
  have := h (i + 1) q (by simpa using hq)
  rwa [show o + (i + 1) * sz = o + sz + i * sz by rw [Nat.succ_mul]; omega] at this
theorem RepRows.rowlen {ad : Addr} {sz : Nat} {rows : List (List D)} {o : Nat} (h : RepRows w M ad sz o rows) {i : Nat} {r : List D} (hr : rows[i]? = some r) : r.length = sz := by
 obtain ⟨vs, h1, _, h3⟩ := RepRows.get rows o h i r hr
 rw [RepL.length_eq _ _ h3, h1]
theorem z3R {ad : Addr} {o k : Nat} {vs : List Value} (h : reads w ad o vs) : reads w ad (o + k) (vs.drop k) := by
 intro j u hu
 rw [Nat.add_assoc]
 exact h (k + j) u (by rw [← hu, List.getElem?_drop])
theorem z1B {ad : Addr} {o k : Nat} {vs : List Value} (h : reads w ad (o + k) vs) : reads w (ad.add o) k vs := by
 intro j u hu
 rw [zbR, ← Nat.add_assoc]
 exact h j u hu
theorem RepD.one_cell : ∀ (d : D) (v : Value), RepD w M d v → v.oneCell' = true
 | .unk, v, h => by simpa only [RepD] using h
 | .int .., v, h => by simp only [RepD] at h; subst h; rfl
 | .bool .., v, h => by simp only [RepD] at h; subst h; rfl
 | .str .., v, h => by simp only [RepD] at h; subst h; rfl
 | .raw .., v, h => by simp only [RepD] at h; rw [h.1]; exact h.2
 | .nil, v, h => by simp only [RepD] at h; obtain ⟨_, rfl⟩ := h; rfl
 | .list .., v, h => by simp only [RepD] at h; obtain ⟨_, _, rfl, _⟩ := h; rfl
 | .full .., v, h => by simp only [RepD] at h; obtain ⟨_, rfl, _⟩ := h; rfl
 | .ref .., v, h => by simp only [RepD] at h; obtain ⟨_, rfl, _⟩ := h; rfl
 | .clo .., v, h => by simp only [RepD] at h; obtain ⟨_, rfl, _⟩ := h; rfl
 | .own _, v, h => by simp only [RepD] at h
 | .vp .., v, h => by simp only [RepD] at h
 | .rp .., v, h => by simp only [RepD] at h
 | .mp _, v, h => by simp only [RepD] at h
 | .tab .., v, h => by simp only [RepD] at h; obtain ⟨_, _, _, rfl, _⟩ := h; rfl
end
end Go.Eng
namespace Go.Eng
open Go.RowKit
inductive AV where
 | one (d : D)
 | agg (ds : List D)
 | tup (vs : List AV)
 | cond (g : Bool) (v : AV)
 | any
 deriving Inhabited
def z0c : KeyKind → AV → Bool
 | .str, .one (.str _) => true
 | .int k, .one (.int k' _) => k == k'
 | .pair _, .agg [.int .i64 _, .int .i64 _] => true
 | _, _ => false
inductive AObj where
 | gone
 | row (e : TypeId) (sz : Nat) (rows : List (List D))
 | var (e : TypeId) (cs : List D)
 | map (kd : KeyKind) (kvs : List (AV × AV))
 deriving Inhabited
def hblk : Value → Option Nat
 | .slice (some a) _ (_ + 1) => some a.block
 | .pointer (some a) => some a.block
 | .map (some g) => some g
 | _ => none
theorem hblk_row {a : Addr} {n c : Nat} (h : 0 < c) : hblk (.slice (some a) n c) = some a.block := by cases c with | zero => omega | succ c => rfl
theorem z0N {a : Addr} {n c g : Nat} (h : hblk (.slice (some a) n c) = some g) : a.block = g := by
 cases c with
 | zero => cases h
 | succ c => cases h; rfl
theorem zcc {p : Prop} (c : Nat) (h : p) : c = 0 ∨ 0 < c ∧ p := by
 cases c with
 | zero => exact .inl rfl
 | succ c => exact .inr ⟨Nat.succ_pos c, h⟩
theorem z4q {A : Option Addr} {n : Nat} : hblk (.slice A n 0) = none := by cases A <;> rfl
def dead : Value := .agg ⟨[]⟩
def owned (β : List Value) (g : Nat) : Prop := ∃ (t : Nat) (h : Value), β[t]? = some h ∧ hblk h = some g
def Mof (M0 : Nat → Prop) (β : List Value) (g : Nat) : Prop := M0 g ∨ owned β g
def RepC0 (w : World) (M : Nat → Prop) (β : List Value) : D → Value → Prop
 | .unk, v => v.oneCell' = true
 | .own t, v => (β[t]? = some v ∨ β[t]? = some dead) ∧ v.oneCell' = true
 | .vp t off, v => (∃ g, β[t]? = some (.pointer (some ⟨g, 0, none⟩)) ∧ v = .pointer (some ⟨g, off, none⟩)) ∨ (β[t]? = some dead ∧ v.oneCell' = true)
 | .rp t i sz sub, v => (∃ g n c, β[t]? = some (.slice (some ⟨g, 0, none⟩) n c) ∧ v = .pointer (some ⟨g, i * sz + sub, none⟩)) ∨ (β[t]? = some dead ∧ v.oneCell' = true)
 | .mp t, v => (∃ g, β[t]? = some (.map (some g)) ∧ v = .map (some g)) ∨ (β[t]? = some dead ∧ v.oneCell' = true)
 | d, v => RepD w M d v
def RepC (w : World) (M : Nat → Prop) (β : List Value) : D → Value → Prop
 | .clo f caps, v => ∃ vs, v = .func (.func f) #[] ⟨vs⟩ ∧ caps.length = vs.length ∧ ∀ (i : Nat) (d : D) (u : Value), caps[i]? = some d → vs[i]? = some u → RepC0 w M β d u
 | d, v => RepC0 w M β d v
def RepCL (w : World) (M : Nat → Prop) (β : List Value) (ds : List D) (vs : List Value) : Prop :=
 ds.length = vs.length ∧ ∀ (i : Nat) (d : D) (u : Value), ds[i]? = some d → vs[i]? = some u → RepC w M β d u
mutual
def RepV (w : World) (M : Nat → Prop) (β : List Value) : AV → Value → Prop
 | .one d, v => RepC w M β d v
 | .agg ds, v => ∃ vs, v = .agg ⟨vs⟩ ∧ RepCL w M β ds vs
 | .tup avs, v => ∃ vs, v = .tuple ⟨vs⟩ ∧ RepVL w M β avs vs
 | .cond g av, v => (g = true → RepV w M β av v) ∧ (g = false → v = undef)
 | .any, _ => True
def RepVL (w : World) (M : Nat → Prop) (β : List Value) : List AV → List Value → Prop
 | [], vs => vs = []
 | a :: as, vs => ∃ v rest, vs = v :: rest ∧ RepV w M β a v ∧ RepVL w M β as rest
end
def ObjRep (w : World) (M : Nat → Prop) (β : List Value) : AObj → Value → Prop
 | .gone, _ => True
 | .row e sz rows, h => ∃ A c, h = .slice A rows.length c ∧ rows.length ≤ c ∧ c ≤ maxLen ∧
   (c = 0 ∨ 0 < c ∧ ∃ g cur, A = some ⟨g, 0, none⟩ ∧ w.heap[g]? = some (.cells cur e (0, 0)) ∧ cur.size = c * sz ∧ RepRows w M ⟨g, 0, none⟩ sz 0 rows)
 | .var e cs, h => ∃ g cur, h = .pointer (some ⟨g, 0, none⟩) ∧ w.heap[g]? = some (.cells cur e (0, 0)) ∧ RepCL w M β cs cur.toList
 | .map kd kvs, h => (∀ kv ∈ kvs, z0c kd kv.1 = true) ∧ ∃ g es clk, h = .map (some g) ∧ w.heap[g]? = some (.map es clk) ∧ kvs.length = es.size ∧
   ∀ (i : Nat) (kv : AV × AV) (e : MapEntry), kvs[i]? = some kv → es[i]? = some e → RepV w M β kv.1 e.key ∧ RepV w M β kv.2 e.val
section
variable {w : World} {M : Nat → Prop} {β : List Value}
theorem z0u {t : Nat} {v : Value} {e : TypeId} {sz : Nat} {rows : List (List D)} (h : RepC0 w M β (.own t) v) (ho : ∀ x, β[t]? = some x → ObjRep w M β (.row e sz rows) x) : β[t]? = some v := by
 rcases h.1 with h1 | h1
 ·exact h1
 ·obtain ⟨A, c, h2, _⟩ := ho _ h1
  cases h2
theorem z2A {t off : Nat} {v : Value} {e : TypeId} {cs : List D} (h : RepC0 w M β (.vp t off) v) (ho : ∀ x, β[t]? = some x → ObjRep w M β (.var e cs) x) : ∃ g, β[t]? = some (.pointer (some ⟨g, 0, none⟩)) ∧ v = .pointer (some ⟨g, off, none⟩) := by
 rcases h with h1 | h1
 ·exact h1
 ·obtain ⟨g, c, h2, _⟩ := ho _ h1.1
  cases h2
theorem z4O {t i sz sub : Nat} {v : Value} {e : TypeId} {sz' : Nat} {rows : List (List D)} (h : RepC0 w M β (.rp t i sz sub) v) (ho : ∀ x, β[t]? = some x → ObjRep w M β (.row e sz' rows) x) : ∃ g n c, β[t]? = some (.slice (some ⟨g, 0, none⟩) n c) ∧ v = .pointer (some ⟨g, i * sz + sub, none⟩) := by
 rcases h with h1 | h1
 ·exact h1
 ·obtain ⟨A, c, h2, _⟩ := ho _ h1.1
  cases h2
theorem z8P {t : Nat} {v : Value} {kd : KeyKind} {kvs : List (AV × AV)} (h : RepC0 w M β (.mp t) v) (ho : ∀ x, β[t]? = some x → ObjRep w M β (.map kd kvs) x) : ∃ g, β[t]? = some (.map (some g)) ∧ v = .map (some g) := by
 rcases h with h1 | h1
 ·exact h1
 ·obtain ⟨_, g, es, clk, h2, _⟩ := ho _ h1.1
  cases h2
end
structure Same (w : World) (M : Nat → Prop) (β : List Value) (w' : World) (M' : Nat → Prop) : Prop where
 keeps : Keeps w M w' M'
 own : ∀ g, owned β g → w'.heap[g]? = w.heap[g]?
section
variable {w w' : World} {M M' : Nat → Prop} {β : List Value}
theorem RepC0.same (hs : Same w M β w' M') {d : D} {v : Value} (h : RepC0 w M β d v) : RepC0 w' M' β d v := by
 cases d
 case unk => exact h
 case own => exact h
 case vp => exact h
 case mp => exact h
 case rp => exact h
 all_goals (simp only [RepC0] at h ⊢; exact RepD.keep hs.keeps _ _ h)
theorem RepC.same (hs : Same w M β w' M') {d : D} {v : Value} (h : RepC w M β d v) : RepC w' M' β d v := by
 cases d
 case clo f caps =>
  obtain ⟨vs, h1, h2, h3⟩ := h
  exact ⟨vs, h1, h2, fun i d u a b => RepC0.same hs (h3 i d u a b)⟩
 all_goals (simp only [RepC] at h ⊢; exact h.same hs)
theorem RepCL.same (hs : Same w M β w' M') {ds : List D} {vs : List Value} (h : RepCL w M β ds vs) : RepCL w' M' β ds vs :=
 ⟨h.1, fun i d u a b => (h.2 i d u a b).same hs⟩
mutual
theorem RepV.same (hs : Same w M β w' M') : ∀ (a : AV) (v : Value), RepV w M β a v → RepV w' M' β a v
 | .one d, v, h => by simp only [RepV] at h ⊢; exact h.same hs
 | .agg ds, v, h => by simp only [RepV] at h ⊢; obtain ⟨vs, h1, h2⟩ := h; exact ⟨vs, h1, h2.same hs⟩
 | .tup avs, v, h => by simp only [RepV] at h ⊢; obtain ⟨vs, h1, h2⟩ := h; exact ⟨vs, h1, RepVL.same hs avs vs h2⟩
 | .cond g av, v, h => by simp only [RepV] at h ⊢; exact ⟨fun hg => RepV.same hs av v (h.1 hg), h.2⟩
 | .any, _, _ => by simp only [RepV]
theorem RepVL.same (hs : Same w M β w' M') : ∀ (as : List AV) (vs : List Value), RepVL w M β as vs → RepVL w' M' β as vs
 | [], vs, h => by simpa only [RepVL] using h
 | a :: as, vs, h => by
  simp only [RepVL] at h ⊢
  obtain ⟨v, rest, h1, h2, h3⟩ := h
  exact ⟨v, rest, h1, RepV.same hs a v h2, RepVL.same hs as rest h3⟩
end
theorem RepRows.keeps {ad : Addr} {sz o : Nat} {rows : List (List D)} (hk : Keeps w M w' M') (hc : ∀ vs o, reads w ad o vs → reads w' ad o vs) (h : RepRows w M ad sz o rows) : RepRows w' M' ad sz o rows :=
 RepRows.of_get rows o fun i r hr => by
  obtain ⟨vs, h1, h2, h3⟩ := RepRows.get rows o h i r hr
  exact ⟨vs, h1, hc _ _ h2, RepL.keep hk r vs h3⟩
theorem z21 {ad : Addr} (h : w'.heap[ad.block]? = w.heap[ad.block]?) {o : Nat} {vs : List Value} (hr : reads w ad o vs) : reads w' ad o vs := by
 intro j u hu
 rw [World.cell?_of_block (w := w) (by rw [block_add]; exact h)]
 exact hr j u hu
theorem ObjRep.same (hs : Same w M β w' M') {t : Nat} {o : AObj} {h : Value} (ht : β[t]? = some h) (hr : ObjRep w M β o h) : ObjRep w' M' β o h := by
 cases o with
 | gone => exact hr
 | row e sz rows =>
  obtain ⟨A, c, h1, h2, h3, h4⟩ := hr
  refine ⟨A, c, h1, h2, h3, ?_⟩
  rcases h4 with h4 | ⟨hc0, g, cur, rfl, h5, h6, h7⟩
  ·exact .inl h4
  ·have hg := hs.own g ⟨t, h, ht, by rw [h1]; exact hblk_row hc0⟩
   exact .inr ⟨hc0, g, cur, rfl, hg.trans h5, h6, h7.keeps hs.keeps fun vs o => z21 (by exact hg)⟩
 | var e cs =>
  obtain ⟨g, cur, h1, h2, h3⟩ := hr
  have hg := hs.own g ⟨t, h, ht, by rw [h1]; rfl⟩
  exact ⟨g, cur, h1, hg.trans h2, h3.same hs⟩
 | map kd kvs =>
  obtain ⟨hp, g, es, clk, h1, h2, h3, h4⟩ := hr
  have hg := hs.own g ⟨t, h, ht, by rw [h1]; rfl⟩
  exact ⟨hp, g, es, clk, h1, hg.trans h2, h3, fun i kv e a b => ⟨RepV.same hs _ _ (h4 i kv e a b).1, RepV.same hs _ _ (h4 i kv e a b).2⟩⟩
end
def lookS : List (Nat × AV) → Nat → Option AV
 | [], _ => none
 | (j, v) :: l, i => if j = i then some v else lookS l i
structure AState where
 n : Nat
 slots : List (Nat × AV)
 H : List AObj
 pin : Nat
def AState.get (σ : AState) (i : Nat) : AV := (lookS σ.slots i).getD (.one .unk)
def AState.put (σ : AState) (d : Nat) (v : AV) : AState := { σ with slots := (d, v) :: σ.slots }
structure BelowX (X : Nat → Prop) (w w' : World) : Prop where
 os : w'.os = w.os
 tape : w'.tape = w.tape
 output : w'.output = w.output
 size : w.heap.size ≤ w'.heap.size
 block : ∀ k, k < w.heap.size → ¬ X k → w'.heap[k]? = w.heap[k]?
 drawn : w.drawn ≤ w'.drawn
theorem BelowX.refl (X : Nat → Prop) (w : World) : BelowX X w w := ⟨rfl, rfl, rfl, Nat.le_refl _, fun _ _ _ => rfl, Nat.le_refl _⟩
theorem BelowX.ext {X : Nat → Prop} {w0 w w' : World} (h : BelowX X w0 w) (k : Below w.heap.size w w') : BelowX X w0 w' :=
 ⟨k.os.trans h.os, k.tape.trans h.tape, k.output.trans h.output, Nat.le_trans h.size k.size, fun i hi hx => (k.block i (Nat.lt_of_lt_of_le hi h.size)).trans (h.block i hi hx), Nat.le_trans h.drawn k.drawn⟩
theorem BelowX.trans {X Y : Nat → Prop} {w0 w w' : World} (h : BelowX X w0 w) (k : BelowX Y w w') (hY : ∀ i, i < w0.heap.size → Y i → X i) : BelowX X w0 w' :=
 ⟨k.os.trans h.os, k.tape.trans h.tape, k.output.trans h.output, Nat.le_trans h.size k.size, fun i hi hx => (k.block i (Nat.lt_of_lt_of_le hi h.size) fun hy => hx (hY i hi hy)).trans (h.block i hi hx), Nat.le_trans h.drawn k.drawn⟩
theorem BelowX.of {X : Nat → Prop} {w w' : World} (h : Below w.heap.size w w') : BelowX X w w' := ⟨h.os, h.tape, h.output, h.size, fun i hi _ => h.block i hi, h.drawn⟩
theorem BelowX.below {X : Nat → Prop} {w w' : World} (h : BelowX X w w') (hX : ∀ i, ¬ X i) : Below w.heap.size w w' := ⟨⟨h.os, h.tape, h.output, h.size, fun i hi => h.block i hi (hX i)⟩, h.drawn⟩
def globs : List (Nat × Array Value) := [(0, #[.int .u64 1, .int .u64 10, .int .u64 100, .int .u64 1000, .int .u64 10000, .int .u64 100000, .int .u64 1000000, .int .u64 10000000, .int .u64 100000000, .int .u64 1000000000, .int .u64 10000000000, .int .u64 100000000000, .int .u64 1000000000000, .int .u64 10000000000000, .int .u64 100000000000000, .int .u64 1000000000000000, .int .u64 10000000000000000, .int .u64 100000000000000000, .int .u64 1000000000000000000, .int .u64 10000000000000000000])]
def MOk (w : World) (M0 : Nat → Prop) (F : List Value) : Prop := (∀ g, M0 g → g < w.heap.size) ∧ ∀ x ∈ globs, x.1 < w.heap.size ∧ (¬ M0 x.1 ∧ ¬ owned F x.1) ∧ ∃ e fz, w.heap[x.1]? = some (.cells x.2 e fz)
structure Sim (W0 : World) (M0 : Nat → Prop) (F : List Value) (σ : AState) (a : Act) (w : World) (β : List Value) : Prop where
 below : BelowX (owned F) W0 w
 m0 : MOk W0 M0 F
 len : β.length = σ.H.length
 objs : ∀ (t : Nat) (o : AObj) (h : Value), σ.H[t]? = some o → β[t]? = some h → ObjRep w (Mof M0 β) β o h
 fresh : ∀ g, owned β g → (owned F g ∨ W0.heap.size ≤ g) ∧ g < w.heap.size
 dist : ∀ (t t' : Nat) (h h' : Value) (g : Nat), β[t]? = some h → β[t']? = some h' → hblk h = some g → hblk h' = some g → t = t'
 slots : ∀ (i : Nat) (v : AV), lookS σ.slots i = some v → ∃ x : Value, a.tmps[i]? = some x ∧ RepV w (Mof M0 β) β v x
 size : a.tmps.size = σ.n
 defers : a.defers = []
 out : ∀ g, owned F g → ¬ M0 g ∧ g < W0.heap.size
 pins : σ.pin ≤ F.length ∧ ∀ t, t < σ.pin → β[t]? = F[t]?
section
variable {W0 : World} {M0 : Nat → Prop} {F : List Value} {σ : AState} {a : Act} {w w' : World} {β : List Value}
theorem z4j (hb : Below w.heap.size w w') (hf : ∀ g, owned β g → g < w.heap.size) (M : Nat → Prop) : Same w M β w' M :=
 ⟨⟨hb.size, fun g hg _ => hb.block g hg, fun _ _ h => h⟩, fun g hg => hb.block g (hf g hg)⟩
theorem Sim.ext (h : Sim W0 M0 F σ a w β) (hb : Below w.heap.size w w') : Sim W0 M0 F σ a w' β := by
 have hs := z4j (M := Mof M0 β) hb (fun g hg => (h.fresh g hg).2)
 exact ⟨h.below.ext hb, h.m0, h.len, fun t o x ho hx => (h.objs t o x ho hx).same hs hx,
  fun g hg => ⟨(h.fresh g hg).1, Nat.lt_of_lt_of_le (h.fresh g hg).2 hb.size⟩, h.dist,
  fun i v hv => by obtain ⟨x, h1, h2⟩ := h.slots i v hv; exact ⟨x, h1, RepV.same hs v x h2⟩, h.size, h.defers, h.out, h.pins⟩
theorem z8H (a : Act) (d : Nat) (x : Value) (hd : d < a.tmps.size) : (a.put (some d) x).tmps[d]? = some x := by
 simp [Act.put, hd]
theorem z7z (a : Act) (d i : Nat) (x : Value) (hd : d ≠ i) : (a.put (some d) x).tmps[i]? = a.tmps[i]? := by
 simp [Act.put, Array.getElem?_setIfInBounds, hd]
theorem Sim.put (h : Sim W0 M0 F σ a w β) {d : Nat} {v : AV} {x : Value} (hd : d < σ.n) (hx : RepV w (Mof M0 β) β v x) : Sim W0 M0 F (σ.put d v) (a.put (some d) x) w β := by
 refine ⟨h.below, h.m0, h.len, h.objs, h.fresh, h.dist, fun i u hu => ?_, by simpa [Act.put, AState.put] using h.size, by simpa [Act.put] using h.defers, h.out, h.pins⟩
 simp only [AState.put, lookS] at hu
 split at hu
 ·rename_i hdi
  subst hdi
  simp at hu
  subst hu
  exact ⟨x, z8H a d x (by rw [h.size]; exact hd), hx⟩
 ·rename_i hdi
  rw [z7z a d i x hdi]
  exact h.slots i u hu
theorem Sim.get (h : Sim W0 M0 F σ a w β) (i : Nat) {x : Value} (hx : a.tmps[i]? = some x) (v : AV) (hv : lookS σ.slots i = some v) : RepV w (Mof M0 β) β v x := by
 obtain ⟨y, h1, h2⟩ := h.slots i v hv
 rw [hx] at h1
 cases h1
 exact h2
end
end Go.Eng
namespace Go.Eng
open Go.RowKit
inductive Desc where
 | int (k : IntKind) | bool | string | slice (e : TypeId) | struct (fs : List (Nat × TypeId)) | array (n : Nat) (e : TypeId) | map (k e : TypeId) | one | other
 deriving DecidableEq
structure TyRow where
 size : Nat
 bytes : Nat
 zero : List D
 desc : Desc
 eqs : Bool := false
def TyRow.isAgg (r : TyRow) : Bool := match r.desc with | .struct _ | .array .. => true | _ => false
def TyRow.zeroV (r : TyRow) : AV := if r.isAgg then .agg r.zero else .one (r.zero.headD .unk)
def zeh : D → Value → Bool
 | .int k z, .int k' z' => k == k' && z == z'
 | .bool b, .bool b' => b == b'
 | .str s, .string s' => s == s'.data.toList
 | .nil, .slice none 0 0 => true
 | .raw (.pointer none), .pointer none => true
 | .raw (.map none), .map none => true
 | .raw .nilFunc, .nilFunc => true
 | .raw .nilIface, .nilIface => true
 | _, _ => false
def z2U (P : Program) (t : TypeId) : Desc → Bool
 | .int k => match P.underlying t with | some (.int k') => k == k' | _ => false
 | .bool => match P.underlying t with | some .bool => true | _ => false
 | .string => match P.underlying t with | some .string => true | _ => false
 | .slice e => match P.underlying t with | some (.slice e') => e == e' | _ => false
 | .struct fs => match P.underlying t with | some (.struct fs') => fs == fs'.toList.map (fun f => (f.offset, f.type)) && fs.all (fun f => P.cellsOf f.2 != 0) | _ => false
 | .array n e => match P.underlying t with | some (.array n' e') => n == n' && e == e' | _ => false
 | .map k e => match P.underlying t with | some (.map k' e') => k == k' && e == e' | _ => false
 | .one => match P.underlying t with | some (.pointer _) | some (.func ..) | some (.interface _) => true | _ => false
 | .other => true
def z4c : Value → Bool | .agg _ => true | _ => false
def z2l (ds : List D) (vs : List Value) : Bool := ds.length == vs.length && (ds.zip vs).all fun p => zeh p.1 p.2
def tyOkB (P : Program) (t : TypeId) (r : TyRow) : Bool :=
 match r.desc with
 | .other => true
 | _ => z2U P t r.desc && (match P.info? t with
  | some i => i.size == r.size && i.bytes == r.bytes && (match i.zero with | some z => z2l r.zero z.cells.toList && (z4c z == r.isAgg) && r.zero.length == r.size | none => false)
  | none => false)
def eqsOk (P : Program) (t : TypeId) (r : TyRow) : Bool := !r.eqs || (P.stoodInHeld t == false && P.eqGuardType P.depth t == false && (match P.underlying t with | some (.struct fs) => fs.toList.all (fun f => f.name != "_") | _ => false))
def noTy : TyRow := ⟨0, 0, [], .other, false⟩
def zc1 (P : Program) (T : List TyRow) : Bool := (List.range T.length).all fun t => match T[t]? with | some r => tyOkB P t r && eqsOk P t r | none => true
abbrev Tab := TypeId → TyRow
structure TyOk (P : Program) (t : TypeId) (r : TyRow) : Prop where
 desc : z2U P t r.desc = true
 eqs : eqsOk P t r = true
 info : r.desc ≠ .other → ∃ i z, P.info? t = some i ∧ i.size = r.size ∧ i.bytes = r.bytes ∧ i.zero = some z ∧ z2l r.zero z.cells.toList = true ∧ z4c z = r.isAgg ∧ r.zero.length = r.size
def TabOk (P : Program) (T : Tab) : Prop := ∀ t, TyOk P t (T t)
theorem zem (P : Program) (t : TypeId) (r : TyRow) (h : tyOkB P t r = true) (hq : eqsOk P t r = true) : TyOk P t r := by
 unfold tyOkB at h
 by_cases hd : r.desc = .other
 ·exact ⟨by rw [hd]; rfl, hq, fun h => absurd hd h⟩
 ·have h' : (z2U P t r.desc && (match P.info? t with
  | some i => i.size == r.size && i.bytes == r.bytes && (match i.zero with | some z => z2l r.zero z.cells.toList && (z4c z == r.isAgg) && r.zero.length == r.size | none => false)
  | none => false)) = true := by
   split at h
   ·rename_i h0; exact absurd h0 hd
   ·exact h
  rw [Bool.and_eq_true] at h'
  refine ⟨h'.1, hq, fun _ => ?_⟩
  have h2 := h'.2
  cases hi : P.info? t with
  | none => rw [hi] at h2; cases h2
  | some i =>
   rw [hi] at h2
   dsimp only at h2
   cases hz : i.zero with
   | none => rw [hz] at h2; simp at h2
   | some z =>
    rw [hz] at h2
    simp only [Bool.and_eq_true, beq_iff_eq] at h2
    exact ⟨i, z, rfl, h2.1.1, h2.1.2, hz, h2.2.1.1, h2.2.1.2, h2.2.2⟩
theorem zgz (P : Program) (L : List TyRow) (h : zc1 P L = true) : TabOk P (fun t => L.getD t noTy) := by
 intro t
 unfold zc1 at h
 rw [List.all_eq_true] at h
 by_cases ht : t < L.length
 ·have := h t (by simpa using ht)
  rw [List.getElem?_eq_getElem ht] at this
  simp only [Bool.and_eq_true] at this
  have hg : L.getD t noTy = L[t] := by simp [List.getD, List.getElem?_eq_getElem ht]
  show TyOk P t (L.getD t noTy)
  rw [hg]
  exact zem _ _ _ this.1 this.2
 ·have hg : L.getD t noTy = noTy := by simp [List.getD, List.getElem?_eq_none (Nat.le_of_not_lt ht)]
  show TyOk P t (L.getD t noTy)
  rw [hg]
  exact zem _ _ _ rfl rfl
section
variable {P : Program} {w : World} {M : Nat → Prop} {β : List Value}
theorem zd2 : ∀ (d : D) (v : Value), zeh d v = true → RepD w M d v := by
 intro d v h
 unfold zeh at h
 split at h
 case h_1 => simp only [Bool.and_eq_true, beq_iff_eq] at h; simp only [RepD]; rw [h.1, h.2]
 case h_2 => simp only [beq_iff_eq] at h; simp only [RepD]; rw [h]
 case h_3 => simp only [beq_iff_eq] at h; simp only [RepD]; rw [h]
 case h_4 => exact ⟨none, rfl⟩
 case h_9 => cases h
 all_goals exact ⟨rfl, rfl⟩
theorem z0C : ∀ (ds : List D) (vs : List Value), z2l ds vs = true → RepL w M ds vs
 | [], [], _ => by simp [RepL]
 | [], v :: vs, h => by simp [z2l] at h
 | d :: ds, [], h => by simp [z2l] at h
 | d :: ds, v :: vs, h => by
  simp only [z2l, List.length_cons, List.zip_cons_cons, List.all_cons, Bool.and_eq_true, beq_iff_eq, Nat.add_right_cancel_iff] at h
  simp only [RepL]
  exact ⟨v, vs, rfl, zd2 d v h.2.1, z0C ds vs (by simp only [z2l, Bool.and_eq_true, beq_iff_eq]; exact ⟨h.1, h.2.2⟩)⟩
theorem RepD.toC0 : ∀ {d : D} {v : Value}, RepD w M d v → RepC0 w M β d v
 | .tab .., v, h => by simpa only [RepC0] using h
 | .unk, v, h => by simpa only [RepD, RepC0] using h
 | .int .., v, h => by simpa only [RepC0] using h
 | .bool .., v, h => by simpa only [RepC0] using h
 | .str .., v, h => by simpa only [RepC0] using h
 | .raw .., v, h => by simpa only [RepC0] using h
 | .nil, v, h => by simpa only [RepC0] using h
 | .list .., v, h => by simpa only [RepC0] using h
 | .full .., v, h => by simpa only [RepC0] using h
 | .ref .., v, h => by simpa only [RepC0] using h
 | .clo .., v, h => by simpa only [RepC0] using h
 | .own _, v, h => by simp only [RepD] at h
 | .vp .., v, h => by simp only [RepD] at h
 | .rp .., v, h => by simp only [RepD] at h
 | .mp _, v, h => by simp only [RepD] at h
theorem RepD.toC : ∀ {d : D} {v : Value}, RepD w M d v → RepC w M β d v
 | .clo f caps, v, h => by
  simp only [RepD] at h
  simp only [RepC]
  obtain ⟨vs, h1, h2⟩ := h
  refine ⟨vs, h1, RepL.length_eq _ _ h2, fun i d u hd hu => ?_⟩
  obtain ⟨x, hx, hr⟩ := RepL.get caps vs h2 i d hd
  rw [hu] at hx
  cases hx
  exact hr.toC0
 | .tab .., v, h => by simp only [RepC]; exact h.toC0
 | .unk, v, h => by simp only [RepC]; exact h.toC0
 | .int .., v, h => by simp only [RepC]; exact h.toC0
 | .bool .., v, h => by simp only [RepC]; exact h.toC0
 | .str .., v, h => by simp only [RepC]; exact h.toC0
 | .raw .., v, h => by simp only [RepC]; exact h.toC0
 | .nil, v, h => by simp only [RepC]; exact h.toC0
 | .list .., v, h => by simp only [RepC]; exact h.toC0
 | .full .., v, h => by simp only [RepC]; exact h.toC0
 | .ref .., v, h => by simp only [RepC]; exact h.toC0
 | .own _, v, h => by simp only [RepD] at h
 | .vp .., v, h => by simp only [RepD] at h
 | .rp .., v, h => by simp only [RepD] at h
 | .mp _, v, h => by simp only [RepD] at h
theorem RepL.toC {ds : List D} {vs : List Value} (h : RepL w M ds vs) : RepCL w M β ds vs :=
 ⟨RepL.length_eq _ _ h, fun i d u hd hu => by
  obtain ⟨x, hx, hr⟩ := RepL.get ds vs h i d hd
  rw [hu] at hx
  cases hx
  exact hr.toC⟩
end
def z98 : Value → AV
 | .int k n => .one (.int k n)
 | .bool b => .one (.bool b)
 | .string s => .one (.str s.data.toList)
 | .slice none 0 0 => .one .nil
 | .pointer none => .one (.raw (.pointer none))
 | .map none => .one (.raw (.map none))
 | .nilFunc => .one (.raw .nilFunc)
 | _ => .any
def AState.ev (σ : AState) : Operand → AV
 | .tmp t => (lookS σ.slots t).getD .any
 | .const v => z98 v
 | .func f => .one (.clo f [])
 | .global _ => .any
theorem zbz (w : World) (M : Nat → Prop) (β : List Value) (v : Value) : RepV w M β (z98 v) v := by
 unfold z98
 split
 all_goals simp_all [RepV, RepC, RepC0, RepD, Value.oneCell', maxLen]
section
variable {P : Program} {W0 w : World} {M0 : Nat → Prop} {F : List Value} {β : List Value} {σ : AState} {a : Act}
theorem Sim.ev (h : Sim W0 M0 F σ a w β) (x : Operand) : RepV w (Mof M0 β) β (σ.ev x) (a.eval x) := by
 cases x with
 | tmp t =>
  simp only [AState.ev]
  cases hl : lookS σ.slots t with
  | none => simp [RepV]
  | some v =>
   obtain ⟨x, h1, h2⟩ := h.slots t v hl
   have : a.eval (.tmp t) = x := by simp [Act.eval, Array.getD_eq_getD_getElem?, h1]
   rw [this]
   exact h2
 | const v => exact zbz _ _ _ v
 | global g => simp [AState.ev, RepV]
 | func f => simp [AState.ev, RepV, RepC, Act.eval]
end
def AV.need : AV → Prop
 | .cond g v => g = true ∧ v.need
 | _ => True
def AV.strip : AV → AV
 | .cond _ v => v.strip
 | v => v
theorem RepV.strip {w : World} {M : Nat → Prop} {β : List Value} : ∀ {v : AV} {x : Value}, RepV w M β v x → v.need → RepV w M β v.strip x
 | .one _, _, h, _ => h
 | .agg _, _, h, _ => h
 | .tup _, _, h, _ => h
 | .cond g v, x, h, hn => by
  have hn' : g = true ∧ v.need := hn
  have h' : (g = true → RepV w M β v x) ∧ (g = false → x = undef) := h
  exact RepV.strip (v := v) (h'.1 hn'.1) hn'.2
 | .any, _, h, _ => h
def AV.isB : AV → Bool
 | .one (.bool _) => true
 | .cond _ v => v.isB
 | _ => false
def AV.says : AV → Bool → Bool
 | .one (.bool b), want => b == want
 | .cond g v, want => g && v.says want
 | _, _ => false
end Go.Eng
namespace Go.Eng
open Go.RowKit
def fitsI (k : IntKind) (z : Int) : Prop := k.min ≤ z ∧ z ≤ k.max
theorem z3r (z : Int) : fitsI .i64 z ↔ -9223372036854775808 ≤ z ∧ z ≤ 9223372036854775807 := by simp [fitsI, IntKind.min, IntKind.max, IntKind.bits, IntKind.signed]
theorem ziS (z : Int) : fitsI .i8 z ↔ -128 ≤ z ∧ z ≤ 127 := by simp [fitsI, IntKind.min, IntKind.max, IntKind.bits, IntKind.signed]
theorem ziR (z : Int) : fitsI .u8 z ↔ 0 ≤ z ∧ z ≤ 255 := by simp [fitsI, IntKind.min, IntKind.max, IntKind.bits, IntKind.signed]
theorem zhq (z : Int) : fitsI .u32 z ↔ 0 ≤ z ∧ z ≤ 4294967295 := by simp [fitsI, IntKind.min, IntKind.max, IntKind.bits, IntKind.signed]
theorem z12 {k : IntKind} {z : Int} (h : fitsI k z) : k.wrap z = z := by
 cases k <;> simp only [fitsI, IntKind.min, IntKind.max, IntKind.bits, IntKind.signed, IntKind.wrap] at * <;> simp at * <;> (try split) <;> omega
def bitV (op : BinOp) (k : IntKind) (x y : Int) : Int :=
 let a := BitVec.ofInt k.bits x
 let b := BitVec.ofInt k.bits y
 match op with
 | .and => k.wrap (a &&& b).toNat
 | .or => k.wrap (a ||| b).toNat
 | .xor => k.wrap (a ^^^ b).toNat
 | _ => 0
def za8 (op : BinOp) (k k' : IntKind) (a b : Int) : Prop × AV :=
 match op with
 | .add => (k = k' ∧ fitsI k (a + b), .one (.int k (a + b)))
 | .sub => (k = k' ∧ fitsI k (a - b), .one (.int k (a - b)))
 | .mul => (k = k' ∧ fitsI k (a * b), .one (.int k (a * b)))
 | .quo => (k = k' ∧ b ≠ 0 ∧ fitsI k (a.tdiv b), .one (.int k (a.tdiv b)))
 | .rem => (k = k' ∧ b ≠ 0, .one (.int k (a.tmod b)))
 | .and => (k = k', .one (.int k (bitV .and k a b)))
 | .or => (k = k', .one (.int k (bitV .or k a b)))
 | .xor => (k = k', .one (.int k (bitV .xor k a b)))
 | .andNot => (False, .one .unk)
 | .shl => (0 ≤ b, .one (.int k (k.wrap (a * 2 ^ (min b.toNat k.bits)))))
 | .shr => (0 ≤ b, .one (.int k (a.fdiv (2 ^ (min b.toNat k.bits)))))
 | .eql => (k = k', .one (.bool (a == b)))
 | .neq => (k = k', .one (.bool (a != b)))
 | .lss => (k = k', .one (.bool (decide (a < b))))
 | .leq => (k = k', .one (.bool (decide (a ≤ b))))
 | .gtr => (k = k', .one (.bool (decide (b < a))))
 | .geq => (k = k', .one (.bool (decide (b ≤ a))))
def eqD : D → D → Bool
 | .int _ a, .int _ b => a == b
 | .bool a, .bool b => a == b
 | .str a, .str b => a == b
 | _, _ => false
def likeD : D → D → Desc → Bool
 | .int k _, .int k' _, .int q => k == k' && k == q
 | .bool _, .bool _, .bool => true
 | .str _, .str _, .string => true
 | _, _, _ => false
def eqRow : List D → List D → Bool
 | a :: as, b :: bs => eqD a b && eqRow as bs
 | _, _ => true
def z0L (T : Tab) : List (Nat × TypeId) → Nat → List D → List D → Bool
 | [], _, [], [] => true
 | f :: fs, o, a :: as, b :: bs => f.1 == o && likeD a b (T f.2).desc && z0L T fs (o + 1) as bs
 | _, _, _, _ => false
def z52 (op : BinOp) (a b : Bool) : Prop × AV :=
 match op with
 | .eql => (True, .one (.bool (a == b)))
 | .neq => (True, .one (.bool (a != b)))
 | _ => (False, .one .unk)
def z9y (op : BinOp) (a b : List UInt8) : Prop × AV :=
 match op with
 | .add => (((a.length + b.length : Nat) : Int) ≤ 9223372036854775807, .one (.str (a ++ b)))
 | .eql => (True, .one (.bool (a == b)))
 | .neq => (True, .one (.bool (a != b)))
 | .lss => (True, .one (.bool (Op.bytesLess a b)))
 | _ => (False, .one .unk)
def binV (T : Tab) (op : BinOp) (t : TypeId) (x y : AV) : Prop × AV :=
 match x, y with
 | .one (.int k a), .one (.int k' b) => za8 op k k' a b
 | .one (.bool a), .one (.bool b) => ((z52 op a b).1 ∧ (T t).desc = .bool, (z52 op a b).2)
 | .one (.str a), .one (.str b) => z9y op a b
 | _, _ => (False, .one .unk)
def unV (op : UnOp) (x : AV) : Prop × AV :=
 match op, x with
 | .neg, .one (.int k a) => (fitsI k (-a), .one (.int k (-a)))
 | .not, .one (.bool b) => (True, .one (.bool (!b)))
 | _, _ => (False, .one .unk)
section
variable {P : Program} {T : Tab} {w : World} {M : Nat → Prop} {β : List Value}
def RunTo (P : Program) (w : World) (M : Nat → Prop) (β : List Value) (s : Sem Value) (v : AV) : Prop := ∃ u w', s.run P w = .ok u w' ∧ Below w.heap.size w w' ∧ RepV w' M β v u
theorem RunTo.pure {s : Sem Value} {v : AV} (u : Value) (h : s.run P w = .ok u w) (hr : RepV w M β v u) : RunTo P w M β s v := ⟨u, w, h, Below.refl _ _, hr⟩
theorem z0F {k : IntKind} {z : Int} : RepV w M β (.one (.int k z)) (.int k z) := rfl
theorem z0O {b : Bool} : RepV w M β (.one (.bool b)) (.bool b) := rfl
theorem zb5 {s : List UInt8} : RepV w M β (.one (.str s)) (.string ⟨⟨s⟩⟩) := rfl
theorem z03 {k : IntKind} {z : Int} {v : Value} (h : RepV w M β (.one (.int k z)) v) : v = .int k z := h
theorem z0V {b : Bool} {v : Value} (h : RepV w M β (.one (.bool b)) v) : v = .bool b := h
theorem z0k {s : List UInt8} {v : Value} (h : RepV w M β (.one (.str s)) v) : v = .string ⟨⟨s⟩⟩ := h
theorem za7 (op : BinOp) (k k' : IntKind) (a b : Int) (t : TypeId) (x y : Operand) (h : (za8 op k k' a b).1) :
  RunTo P w M β (do eqGuard op t x y (.int k a) (.int k' b); binOp op t (.int k a) (.int k' b)) (za8 op k k' a b).2 := by
 cases op <;> simp only [za8] at h ⊢
 case shl => exact RunTo.pure _ (by simp [eqGuard, binOp, Op.shift, Int.not_lt.2 h] <;> rfl) z0F
 case shr => exact RunTo.pure _ (by simp [eqGuard, binOp, Op.shift, Int.not_lt.2 h] <;> rfl) z0F
 case add => obtain ⟨rfl, h⟩ := h; exact RunTo.pure _ (by simp [eqGuard, binOp, Op.intArith, z12 h] <;> rfl) z0F
 case sub => obtain ⟨rfl, h⟩ := h; exact RunTo.pure _ (by simp [eqGuard, binOp, Op.intArith, z12 h] <;> rfl) z0F
 case mul => obtain ⟨rfl, h⟩ := h; exact RunTo.pure _ (by simp [eqGuard, binOp, Op.intArith, z12 h] <;> rfl) z0F
 case quo => obtain ⟨rfl, h0, h⟩ := h; exact RunTo.pure _ (by simp [eqGuard, binOp, Op.intDiv, h0, z12 h] <;> rfl) z0F
 case rem => obtain ⟨rfl, h0⟩ := h; exact RunTo.pure _ (by simp [eqGuard, binOp, Op.intDiv, h0] <;> rfl) z0F
 case and => subst h; exact RunTo.pure _ (by simp [eqGuard, binOp, Op.intBits] <;> rfl) z0F
 case or => subst h; exact RunTo.pure _ (by simp [eqGuard, binOp, Op.intBits] <;> rfl) z0F
 case xor => subst h; exact RunTo.pure _ (by simp [eqGuard, binOp, Op.intBits] <;> rfl) z0F
 case eql => subst h; exact RunTo.pure _ (by simp [eqGuard, binOp, Op.intCmp] <;> rfl) z0O
 case neq => subst h; exact RunTo.pure _ (by simp [eqGuard, binOp, Op.intCmp] <;> rfl) z0O
 case lss => subst h; exact RunTo.pure _ (by simp [eqGuard, binOp, Op.intCmp] <;> rfl) z0O
 case leq => subst h; exact RunTo.pure _ (by simp [eqGuard, binOp, Op.intCmp] <;> rfl) z0O
 case gtr => subst h; exact RunTo.pure _ (by simp [eqGuard, binOp, Op.intCmp] <;> rfl) z0O
 case geq => subst h; exact RunTo.pure _ (by simp [eqGuard, binOp, Op.intCmp] <;> rfl) z0O
theorem z7I (hT : TabOk P T) {t : TypeId} (h : (T t).desc = .bool) : P.underlying t = some .bool := by
 have := (hT t).desc
 rw [h] at this
 simp only [z2U] at this
 split at this
 ·assumption
 ·cases this
theorem z3G {t : TypeId} (hu : P.underlying t = some .bool) (a b : Bool) : (Op.equal t (.bool a) (.bool b)).run P w = .ok (a == b) w := by
 have key : ∀ d, (Op.equalIn (d + 1) t (.bool a) (.bool b)).run P w = .ok (a == b) w := fun d => by simp [Op.equalIn, run_underlying hu]
 exact key 9999
theorem z99 (hT : TabOk P T) (op : BinOp) (a b : Bool) (t : TypeId) (x y : Operand) (h : (z52 op a b).1) (ht : (T t).desc = .bool) :
  RunTo P w M β (do eqGuard op t x y (.bool a) (.bool b); binOp op t (.bool a) (.bool b)) (z52 op a b).2 := by
 have hu := z7I hT ht
 cases op <;> simp only [z52] at h ⊢
 case eql => exact RunTo.pure _ (by simp [eqGuard, binOp, z3G hu, bne] <;> rfl) z0O
 case neq => exact RunTo.pure _ (by simp [eqGuard, binOp, z3G hu, bne] <;> rfl) z0O
theorem z8x (a b : List UInt8) : (⟨⟨a⟩⟩ : ByteArray) ++ ⟨⟨b⟩⟩ = ⟨⟨a ++ b⟩⟩ := by
 apply ByteArray.ext
 simp
theorem z9x (op : BinOp) (a b : List UInt8) (t : TypeId) (x y : Operand) (h : (z9y op a b).1) :
  RunTo P w M β (do eqGuard op t x y (.string ⟨⟨a⟩⟩) (.string ⟨⟨b⟩⟩); binOp op t (.string ⟨⟨a⟩⟩) (.string ⟨⟨b⟩⟩)) (z9y op a b).2 := by
 cases op <;> simp only [z9y] at h ⊢
 case add =>
  refine RunTo.pure _ ?_ zb5
  have hs : ¬ ((((⟨⟨a⟩⟩ : ByteArray).size + (⟨⟨b⟩⟩ : ByteArray).size : Nat) : Int) > IntKind.i64.max) := by
   have e : IntKind.i64.max = 9223372036854775807 := by simp [IntKind.max, IntKind.bits, IntKind.signed]
   rw [e]
   show ¬ (((a.length + b.length : Nat) : Int) > 9223372036854775807)
   omega
  simp only [eqGuard, binOp, Op.stringOp]
  rw [if_neg hs]
  simp [z8x]
 case eql => exact RunTo.pure _ (by simp [eqGuard, binOp, Op.stringOp] <;> rfl) z0O
 case neq => exact RunTo.pure _ (by simp [eqGuard, binOp, Op.stringOp, bne] <;> rfl) z0O
 case lss => exact RunTo.pure _ (by simp [eqGuard, binOp, Op.stringOp] <;> rfl) z0O
theorem ze0 (hT : TabOk P T) (op : BinOp) (t : TypeId) (x y : Operand) (u v : AV) (a b : Value) (ha : RepV w M β u a) (hb : RepV w M β v b) (h : (binV T op t u v).1) :
  RunTo P w M β (do eqGuard op t x y a b; binOp op t a b) (binV T op t u v).2 := by
 unfold binV at h ⊢
 split
 ·rw [z03 ha, z03 hb]
  exact za7 op _ _ _ _ t x y h
 ·rw [z0V ha, z0V hb]
  exact z99 hT op _ _ t x y h.1 h.2
 ·rw [z0k ha, z0k hb]
  exact z9x op _ _ t x y h
 ·exact (by simp_all : False).elim
theorem zel (op : UnOp) (u : AV) (a : Value) (ha : RepV w M β u a) (h : (unV op u).1) : RunTo P w M β (Op.unary op a) (unV op u).2 := by
 unfold unV at h ⊢
 split
 ·rw [z03 ha]
  exact RunTo.pure _ (by simp [Op.unary, Op.intArith, z12 (show fitsI _ _ from h)] <;> rfl) z0F
 ·rw [z0V ha]
  exact RunTo.pure _ (by simp [Op.unary] <;> rfl) z0O
 ·exact (by simp_all : False).elim
end
end Go.Eng
namespace Go.Eng
open Go.RowKit
section
variable {P : Program} {T : Tab} {w : World} {M : Nat → Prop} {β : List Value}
theorem z5O (hT : TabOk P T) {t : TypeId} (h : (T t).desc ≠ .other) : ∃ i z, (typeInfo t).run P w = .ok i w ∧ i.size = (T t).size ∧ i.bytes = (T t).bytes ∧ i.zero = some z ∧ z2l (T t).zero z.cells.toList = true ∧ z4c z = (T t).isAgg ∧ (T t).zero.length = (T t).size := by
 obtain ⟨i, z, h1, h2, h3, h4, h5, h6, h7⟩ := (hT t).info h
 exact ⟨i, z, by simp [typeInfo, h1], h2, h3, h4, h5, h6, h7⟩
theorem z0b (hT : TabOk P T) {t : TypeId} (h : (T t).desc ≠ .other) : (sizeOf t).run P w = .ok (T t).size w := by
 obtain ⟨i, z, h1, h2, _⟩ := z5O (w := w) hT h
 simp [sizeOf, h1, h2]
theorem zbX (hT : TabOk P T) {t : TypeId} (h : (T t).desc ≠ .other) : ∃ d, P.underlying t = some d := by
 have hd := (hT t).desc
 cases hu : P.underlying t with
 | some d => exact ⟨d, rfl⟩
 | none => cases hc : (T t).desc <;> rw [hc] at hd <;> simp [z2U, hu] at hd <;> exact absurd hc h
theorem z1g (hT : TabOk P T) {t : TypeId} (h : (T t).desc ≠ .other) : (isAgg t).run P w = .ok (T t).isAgg w := by
 have hd := (hT t).desc
 obtain ⟨d, hu⟩ := zbX hT h
 unfold TyRow.isAgg
 cases hc : (T t).desc <;> rw [hc] at hd <;> simp only [z2U, hu] at hd <;> (try exact absurd hc h) <;> cases d <;> simp_all [isAgg, run_underlying hu]
theorem z06 (hT : TabOk P T) {t e : TypeId} (h : (T t).desc = .slice e) : P.underlying t = some (.slice e) := by
 have := (hT t).desc
 rw [h] at this
 simp only [z2U] at this
 split at this
 ·rename_i e' hu; rw [hu]; simp at this; rw [this]
 ·cases this
theorem z0T (hT : TabOk P T) {t e : TypeId} {n : Nat} (h : (T t).desc = .array n e) : P.underlying t = some (.array n e) := by
 have := (hT t).desc
 rw [h] at this
 simp only [z2U] at this
 split at this
 ·rename_i e' hu; rw [hu]; simp at this; rw [this.1, this.2]
 ·cases this
theorem z2m (hT : TabOk P T) {t k e : TypeId} (h : (T t).desc = .map k e) : P.underlying t = some (.map k e) := by
 have := (hT t).desc
 rw [h] at this
 simp only [z2U] at this
 split at this
 ·rename_i e' hu; rw [hu]; simp at this; rw [this.1, this.2]
 ·cases this
theorem z0n (hT : TabOk P T) {t : TypeId} (h : (T t).desc = .string) : P.underlying t = some .string := by
 have := (hT t).desc
 rw [h] at this
 simp only [z2U] at this
 split at this
 ·assumption
 ·cases this
theorem z0S (hT : TabOk P T) {t : TypeId} {k : IntKind} (h : (T t).desc = .int k) : P.underlying t = some (.int k) := by
 have := (hT t).desc
 rw [h] at this
 simp only [z2U] at this
 split at this
 ·rename_i k' hu; rw [hu]; simp at this; rw [this]
 ·cases this
theorem z0R (hT : TabOk P T) {t : TypeId} {fs : List (Nat × TypeId)} (h : (T t).desc = .struct fs) :
  ∃ gs : Array Field, P.underlying t = some (.struct gs) ∧ fs = gs.toList.map (fun f => (f.offset, f.type)) ∧ ∀ f ∈ fs, P.cellsOf f.2 ≠ 0 := by
 have := (hT t).desc
 rw [h] at this
 simp only [z2U] at this
 split at this
 ·rename_i gs hu
  rw [Bool.and_eq_true, beq_iff_eq, List.all_eq_true] at this
  exact ⟨gs, hu, this.1, fun f hf => by have := this.2 f hf; simpa using this⟩
 ·cases this
def AtRow (w : World) (M : Nat → Prop) (ad : Addr) (ds : List D) : Prop := ∃ vs, reads w ad 0 vs ∧ RepL w M ds vs
theorem AtRow.shift {ad : Addr} {ds : List D} (h : AtRow w M ad ds) (k : Nat) : AtRow w M (ad.add k) (ds.drop k) := by
 obtain ⟨vs, h1, h2⟩ := h
 have h3 := z3R (k := k) h1
 exact ⟨vs.drop k, z1B (o := k) (k := 0) (by simpa [Nat.add_comm] using h3), RepL.drop ds vs k h2⟩
theorem RepRows.atRow {ad : Addr} {sz : Nat} {rows : List (List D)} (h : RepRows w M ad sz 0 rows) {i : Nat} {r : List D} (hr : rows[i]? = some r) : AtRow w M (ad.add (i * sz)) r := by
 obtain ⟨vs, h1, h2, h3⟩ := RepRows.get rows 0 h i r hr
 exact ⟨vs, z1B (o := i * sz) (k := 0) (by simpa using h2), h3⟩
def RunEq (P : Program) (w : World) (M : Nat → Prop) (β : List Value) (s : Sem Value) (v : AV) : Prop := ∃ u, s.run P w = .ok u w ∧ RepV w M β v u
theorem RunEq.pure {s : Sem Value} {v : AV} (u : Value) (h : s.run P w = .ok u w) (hr : RepV w M β v u) : RunEq P w M β s v := ⟨u, h, hr⟩
theorem RunEq.to {s : Sem Value} {v : AV} (h : RunEq P w M β s v) : RunTo P w M β s v := by obtain ⟨u, h1, h2⟩ := h; exact ⟨u, w, h1, Below.refl _ _, h2⟩
def loadV (r : TyRow) (cells : List D) : Prop × AV :=
 if r.isAgg then (r.size ≤ cells.length, .agg (cells.take r.size)) else (0 < cells.length, .one (cells.headD (r.zero.headD .unk)))
theorem z1C {ad : Addr} {vs : List Value} (h : reads w ad 0 vs) {j : Nat} {u : Value} (hu : vs[j]? = some u) : w.cell? (ad.add j) = some u := by
 have := h j u hu
 rwa [Nat.zero_add] at this
theorem z1i (hT : TabOk P T) {t : TypeId} (hk : (T t).desc ≠ .other) {ad : Addr} {cells : List D} {vs : List Value} (h1 : reads w ad 0 vs) (h2 : RepCL w M β cells vs) (h : (loadV (T t) cells).1) :
  RunEq P w M β (loadVar t ad) (loadV (T t) cells).2 := by
 have ha := z1g (w := w) hT hk
 have hs := z0b (w := w) hT hk
 have hlen := h2.1
 unfold loadV at h ⊢
 cases hagg : (T t).isAgg with
 | true =>
  rw [hagg] at ha
  simp only [hagg, if_true] at h ⊢
  have hl : (vs.take (T t).size).length = (T t).size := by rw [List.length_take]; omega
  have hld := run_loadCells_list (P := P) w ad (vs.take (T t).size) (fun j v hv => z1C h1 (by rw [List.getElem?_take] at hv; split at hv; exact hv; cases hv))
  rw [hl] at hld
  refine RunEq.pure (.agg ⟨vs.take (T t).size⟩) (by simp [loadVar, ha, hs, hld]) ⟨_, rfl, by rw [List.length_take, List.length_take, hlen], fun i d u hd hu => ?_⟩
  rw [List.getElem?_take] at hd hu
  split at hd
  ·rename_i hi; rw [if_pos hi] at hu; exact h2.2 i d u hd hu
  ·cases hd
 | false =>
  rw [hagg] at ha
  simp only [hagg, Bool.false_eq_true, if_false] at h ⊢
  cases cells with
  | nil => simp at h
  | cons d ds =>
   cases vs with
   | nil => simp at hlen
   | cons v vs =>
    have hc := z1C h1 (j := 0) (u := v) rfl
    rw [add_zero] at hc
    exact RunEq.pure v (by simp [loadVar, ha, hc]) (h2.2 0 d v rfl rfl)
def z5T (r : TyRow) (f : Nat) : Option Nat := match r.desc with | .struct fs => (fs[f]?).map (·.1) | _ => none
def z38 (H : List AObj) (t : Nat) : Prop := match H[t]? with | some (.var ..) => True | _ => False
def z3a (H : List AObj) (t : Nat) : Prop := match H[t]? with | some (.row ..) => True | _ => False
theorem z3V {H : List AObj} {t : Nat} (h : z38 H t) : ∃ e cs, H[t]? = some (.var e cs) := by
 unfold z38 at h
 split at h
 ·exact ⟨_, _, ‹_›⟩
 ·exact h.elim
theorem z3W {H : List AObj} {t : Nat} (h : z3a H t) : ∃ e sz rows, H[t]? = some (.row e sz rows) := by
 unfold z3a at h
 split at h
 ·exact ⟨_, _, _, ‹_›⟩
 ·exact h.elim
def z0h (r : TyRow) (H : List AObj) (f : Nat) (x : AV) : Prop × AV :=
 match z5T r f, x with
 | some o, .one (.ref row) => (True, .one (.ref (row.drop o)))
 | some o, .one (.vp t off) => (z38 H t, .one (.vp t (off + o)))
 | some o, .one (.rp t i sz sub) => (z3a H t, .one (.rp t i sz (sub + o)))
 | _, _ => (False, .one .unk)
theorem z40 (hT : TabOk P T) {s : TypeId} {f o : Nat} (h : z5T (T s) f = some o) (ad : Addr) : (Instr.fieldAt s (.pointer (some ad)) f).run P w = .ok (.pointer (some (ad.add o))) w := by
 unfold z5T at h
 split at h
 ·rename_i fs hd
  obtain ⟨gs, hu, hgs, hne⟩ := z0R hT hd
  have hf : ∃ p, fs[f]? = some p ∧ p.1 = o := by
   cases hp : fs[f]? with
   | none => rw [hp] at h; cases h
   | some p => rw [hp] at h; exact ⟨p, rfl, by simpa using h⟩
  obtain ⟨p, hp, rfl⟩ := hf
  have hmem := List.mem_of_getElem? hp
  have hc := hne p hmem
  rw [hgs, List.getElem?_map] at hp
  cases hg : gs.toList[f]? with
  | none => rw [hg] at hp; cases hp
  | some g =>
   rw [hg] at hp
   simp at hp
   have hg' : gs[f]? = some g := by simpa using hg
   rw [← hp] at hc
   have hi : ∃ i, P.info? g.type = some i ∧ i.size ≠ 0 := by
    unfold Program.cellsOf at hc
    cases hi : P.info? g.type with
    | none => rw [hi] at hc; simp at hc
    | some i => rw [hi] at hc; exact ⟨i, rfl, by simpa using hc⟩
   obtain ⟨i, hi, hi0⟩ := hi
   simp [Instr.fieldAt, run_underlying hu, hg', Instr.sureAddr, fieldPlace, sizeOf, typeInfo, hi, hi0, ← hp]
 ·cases h
theorem z1p (hT : TabOk P T) {H : List AObj} (hobj : ∀ (t : Nat) (o : AObj) (h : Value), H[t]? = some o → β[t]? = some h → ObjRep w M β o h) (s : TypeId) (f : Nat) (x : AV) (v : Value) (hv : RepV w M β x v) (h : (z0h (T s) H f x).1) :
  ∃ u, (∀ w' : World, (Instr.fieldAt s v f).run P w' = .ok u w') ∧ RepV w M β (z0h (T s) H f x).2 u := by
 unfold z0h at h ⊢
 split
 ·rename_i o row ho
  obtain ⟨ad, rfl, hb, hm, vs, h1, h2⟩ := hv
  have := AtRow.shift ⟨vs, h1, h2⟩ o
  exact ⟨_, fun w' => z40 (w := w') hT ho ad, ad.add o, rfl, by rw [block_add]; exact hb, by rw [block_add]; exact hm, this⟩
 ·rename_i o t off ho
  rw [ho] at h
  obtain ⟨e, cs, hH⟩ := z3V h
  obtain ⟨g, h1, rfl⟩ := z2A hv fun y hy => hobj t _ y hH hy
  refine ⟨_, fun w' => z40 (w := w') hT ho _, .inl ⟨g, h1, ?_⟩⟩
  rw [add_lit]
 ·rename_i o t i sz sub ho
  rw [ho] at h
  obtain ⟨e, sz', rows, hH⟩ := z3W h
  obtain ⟨g, n, c, h1, rfl⟩ := z4O hv fun y hy => hobj t _ y hH hy
  refine ⟨_, fun w' => z40 (w := w') hT ho _, .inl ⟨g, n, c, h1, ?_⟩⟩
  rw [add_lit, Nat.add_assoc]
 ·exact (by simp_all : False).elim
theorem z5G (hT : TabOk P T) {H : List AObj} (hobj : ∀ (t : Nat) (o : AObj) (h : Value), H[t]? = some o → β[t]? = some h → ObjRep w M β o h) (s : TypeId) (f : Nat) (x : AV) (v : Value) (hv : RepV w M β x v) (h : (z0h (T s) H f x).1) :
  RunTo P w M β (Instr.fieldAt s v f) (z0h (T s) H f x).2 := by
 obtain ⟨u, h1, h2⟩ := z1p (P := P) hT hobj s f x v hv h
 exact RunTo.pure u (h1 w) h2
def z0M (T : Tab) (H : List AObj) (t : TypeId) (x i : AV) : Prop × AV :=
 match (T t).desc, x, i with
 | .slice e, .one (.list rows), .one (.int _ z) => ((0 ≤ z ∧ z < rows.length) ∧ (T e).desc ≠ .other ∧ (rows.getD z.toNat (T e).zero).length = (T e).size, .one (.ref (rows.getD z.toNat (T e).zero)))
 | .slice e, .one (.own o), .one (.int _ z) =>
  match H[o]? with
  | some (.row _ sz rows) => ((0 ≤ z ∧ z < rows.length) ∧ (T e).desc ≠ .other ∧ sz = (T e).size, .one (.rp o z.toNat sz 0))
  | _ => (False, .one .unk)
 | .array n e, .one (.ref row), .one (.int _ z) => ((0 ≤ z ∧ z < n) ∧ (T e).desc ≠ .other, .one (.ref (row.drop (z.toNat * (T e).size))))
 | .array n e, .one (.vp o off), .one (.int _ z) => ((0 ≤ z ∧ z < n) ∧ (T e).desc ≠ .other ∧ z38 H o, .one (.vp o (off + z.toNat * (T e).size)))
 | .array n e, .one (.rp o r sz sub), .one (.int _ z) => ((0 ≤ z ∧ z < n) ∧ (T e).desc ≠ .other ∧ z3a H o, .one (.rp o r sz (sub + z.toNat * (T e).size)))
 | _, _, _ => (False, .one .unk)
theorem z2I (hT : TabOk P T) {t e : TypeId} (ht : (T t).desc = .slice e) (he : (T e).desc ≠ .other) (ad : Addr) (n c : Nat) (k : IntKind) (z : Int) (h0 : 0 ≤ z) (h1 : z < n) :
  (Instr.indexAt t (.slice (some ad) n c) (.int k z)).run P w = .ok (.pointer (some (ad.add (z.toNat * (T e).size)))) w := by
 simp [Instr.indexAt, asIntOf, run_underlying (z06 hT ht), z0b (w := w) hT he, h0, h1]
theorem z2J (hT : TabOk P T) {t e : TypeId} {n : Nat} (ht : (T t).desc = .array n e) (he : (T e).desc ≠ .other) (ad : Addr) (k : IntKind) (z : Int) (h0 : 0 ≤ z) (h1 : z < n) :
  (Instr.indexAt t (.pointer (some ad)) (.int k z)).run P w = .ok (.pointer (some (ad.add (z.toNat * (T e).size)))) w := by
 simp [Instr.indexAt, asIntOf, run_underlying (z0T hT ht), Instr.sureAddr, z0b (w := w) hT he, h0, h1]
theorem getD_some {α : Type} {l : List α} {i : Nat} (h : i < l.length) (d : α) : l[i]? = some (l.getD i d) := by
 simp [List.getD, List.getElem?_eq_getElem h]
theorem z5F (hT : TabOk P T) {H : List AObj} (hobj : ∀ (t : Nat) (o : AObj) (h : Value), H[t]? = some o → β[t]? = some h → ObjRep w M β o h) (t : TypeId) (x i : AV) (v u : Value) (hv : RepV w M β x v) (hu : RepV w M β i u) (h : (z0M T H t x i).1) :
  RunTo P w M β (Instr.indexAt t v u) (z0M T H t x i).2 := by
 unfold z0M at h ⊢
 split
 ·rename_i e rows k z hd
  simp only [hd] at h
  obtain ⟨⟨h0, h1⟩, he, hlen⟩ := h
  obtain rfl := z03 hu
  obtain ⟨A, c, rfl, hn, hc, hr⟩ := hv
  rcases hr with rfl | ⟨ad, sz, rfl, hb, hm, hr⟩
  ·simp at h1; omega
  ·have hlt : z.toNat < rows.length := by omega
   have hg := getD_some hlt (T e).zero
   have hsz : sz = (T e).size := by rw [← hlen]; exact (hr.rowlen hg).symm
   subst hsz
   have hat := hr.atRow hg
   exact RunTo.pure _ (z2I hT hd he ad rows.length c k z h0 h1) ⟨_, rfl, by rw [block_add]; exact hb, by rw [block_add]; exact hm, hat⟩
 ·rename_i e o k z hd
  simp only [hd] at h
  obtain rfl := z03 hu
  cases hH : H[o]? with
  | none => rw [hH] at h; exact h.elim
  | some ob =>
   rw [hH] at h
   cases ob with
   | row e' sz rows =>
    simp only at h ⊢
    obtain ⟨⟨h0, h1⟩, he, rfl⟩ := h
    have hβ := z0u hv fun y hy => hobj o _ y hH hy
    obtain ⟨A, c, rfl, hn, hc, hr⟩ := hobj o _ v hH hβ
    rcases hr with rfl | ⟨hc0, g, cur, rfl, hg, hcs, hrr⟩
    ·omega
    ·refine RunTo.pure _ (z2I hT hd he ⟨g, 0, none⟩ rows.length c k z h0 h1) (.inl ⟨g, _, _, hβ, ?_⟩)
     rw [add_lit]; simp
   | _ => exact h.elim
 ·rename_i n e row k z hd
  simp only [hd] at h
  obtain ⟨⟨h0, h1⟩, he⟩ := h
  obtain rfl := z03 hu
  obtain ⟨ad, rfl, hb, hm, hat⟩ := hv
  have := AtRow.shift hat (z.toNat * (T e).size)
  exact RunTo.pure _ (z2J hT hd he ad k z h0 h1) ⟨_, rfl, by rw [block_add]; exact hb, by rw [block_add]; exact hm, this⟩
 ·rename_i n e o off k z hd
  simp only [hd] at h
  obtain ⟨⟨h0, h1⟩, he, hvar⟩ := h
  obtain rfl := z03 hu
  obtain ⟨e', cs, hH⟩ := z3V hvar
  obtain ⟨g, h2, rfl⟩ := z2A hv fun y hy => hobj o _ y hH hy
  refine RunTo.pure _ (z2J hT hd he _ k z h0 h1) (.inl ⟨g, h2, ?_⟩)
  rw [add_lit]
 ·rename_i n e o r sz sub k z hd
  simp only [hd] at h
  obtain ⟨⟨h0, h1⟩, he, hrow⟩ := h
  obtain rfl := z03 hu
  obtain ⟨e', sz', rows, hH⟩ := z3W hrow
  obtain ⟨g, n', c, h2, rfl⟩ := z4O hv fun y hy => hobj o _ y hH hy
  refine RunTo.pure _ (z2J hT hd he _ k z h0 h1) (.inl ⟨g, n', c, h2, ?_⟩)
  rw [add_lit, Nat.add_assoc]
 ·exact (by simp_all : False).elim
def z29 (T : Tab) (H : List AObj) (t : TypeId) (x : AV) : Prop × AV :=
 match x with
 | .one (.ref row) => ((T t).desc ≠ .other ∧ (loadV (T t) row).1, (loadV (T t) row).2)
 | .one (.vp o off) =>
  match H[o]? with
  | some (.var _ cs) => ((T t).desc ≠ .other ∧ (loadV (T t) (cs.drop off)).1, (loadV (T t) (cs.drop off)).2)
  | _ => (False, .one .unk)
 | .one (.rp o i sz sub) =>
  match H[o]? with
  | some (.row _ sz' rows) => ((T t).desc ≠ .other ∧ sz = sz' ∧ i < rows.length ∧ (loadV (T t) ((rows.getD i []).drop sub)).1, (loadV (T t) ((rows.getD i []).drop sub)).2)
  | _ => (False, .one .unk)
 | _ => (False, .one .unk)
theorem z0l {g : Nat} {cur : Array Value} {e : TypeId} {fz : Nat × Nat} (hg : w.heap[g]? = some (.cells cur e fz)) : reads w ⟨g, 0, none⟩ 0 cur.toList := by
 intro j u hu
 rw [add_lit, cell_of_row w g _ cur e fz hg]
 simpa using hu
theorem RepCL.drop {ds : List D} {vs : List Value} (h : RepCL w M β ds vs) (k : Nat) : RepCL w M β (ds.drop k) (vs.drop k) :=
 ⟨by rw [List.length_drop, List.length_drop, h.1], fun i d u hd hu => h.2 (k + i) d u (by rw [← hd, List.getElem?_drop]) (by rw [← hu, List.getElem?_drop])⟩
theorem z4p (hT : TabOk P T) {H : List AObj} (hlen : β.length = H.length) (hobj : ∀ (t : Nat) (o : AObj) (h : Value), H[t]? = some o → β[t]? = some h → ObjRep w M β o h) (t : TypeId) (x : AV) (v : Value) (hv : RepV w M β x v) (h : (z29 T H t x).1) :
  RunEq P w M β (Instr.loadAt t v) (z29 T H t x).2 := by
 have lift : ∀ (ad : Addr) (av : AV), RunEq P w M β (loadVar t ad) av → RunEq P w M β (Instr.loadAt t (.pointer (some ad))) av := by
  intro ad av ⟨u, h1, h2⟩
  exact ⟨u, by simp [Instr.loadAt, Instr.sureAddr, h1], h2⟩
 unfold z29 at h ⊢
 split
 ·rename_i row
  obtain ⟨hk, h⟩ := h
  obtain ⟨ad, rfl, hb, hm, vs, h1, h2⟩ := hv
  exact lift ad _ (z1i hT hk h1 h2.toC h)
 ·rename_i o off
  simp only at h
  cases hH : H[o]? with
  | none => rw [hH] at h; exact h.elim
  | some ob =>
   rw [hH] at h
   cases ob with
   | var e cs =>
    simp only at h ⊢
    obtain ⟨hk, h⟩ := h
    obtain ⟨g, hβ, rfl⟩ := z2A hv fun y hy => hobj o _ y hH hy
    obtain ⟨g', cur, he, hg, hcl⟩ := hobj o _ _ hH hβ
    cases he
    have h3 := z3R (k := off) (z0l hg)
    have h4 := z1B (o := off) (k := 0) (by simpa [Nat.add_comm] using h3)
    rw [add_lit] at h4
    have := z1i hT hk (ad := ⟨g, 0 + off, none⟩) h4 (hcl.drop off) h
    rw [Nat.zero_add] at this
    exact lift _ _ this
   | _ => exact h.elim
 ·rename_i o i sz sub
  simp only at h
  cases hH : H[o]? with
  | none => rw [hH] at h; exact h.elim
  | some ob =>
   rw [hH] at h
   cases ob with
   | row e sz' rows =>
    simp only at h ⊢
    obtain ⟨hk, rfl, hi, h⟩ := h
    obtain ⟨g, n, c, hβ, rfl⟩ := z4O hv fun y hy => hobj o _ y hH hy
    obtain ⟨A, c', he, hle, _, hr⟩ := hobj o _ _ hH hβ
    cases he
    rcases hr with hA | ⟨hc0, g', cur, hA, hg, hcs, hrr⟩
    ·omega
    ·cases hA
     have hat := (hrr.atRow (getD_some hi [])).shift sub
     rw [zbR, add_lit] at hat
     obtain ⟨vs, h1, h2⟩ := hat
     have := z1i hT hk (ad := ⟨g, 0 + (i * sz + sub), none⟩) h1 (β := β) h2.toC h
     rw [Nat.zero_add] at this
     exact lift _ _ this
   | _ => exact h.elim
 ·exact (by simp_all : False).elim
def partV (T : Tab) (t : TypeId) (ds : List D) (off : Nat) : Prop × AV :=
 if (T t).isAgg then ((T t).desc ≠ .other ∧ off + (T t).size ≤ ds.length, .agg ((ds.drop off).take (T t).size)) else ((T t).desc ≠ .other ∧ off < ds.length, .one (ds.getD off .unk))
theorem zbL (vs : List Value) (o s : Nat) : (⟨vs⟩ : Array Value).extract o (o + s) = ⟨(vs.drop o).take s⟩ := by
 apply Array.ext'
 simp [List.extract]
theorem z7V (hT : TabOk P T) (t : TypeId) (ds : List D) (vs : List Value) (off : Nat) (hv : RepCL w M β ds vs) (h : (partV T t ds off).1) : RunTo P w M β (part t ⟨vs⟩ off) (partV T t ds off).2 := by
 unfold partV at h ⊢
 cases hagg : (T t).isAgg with
 | true =>
  simp only [hagg, if_true] at h ⊢
  have ha := z1g (w := w) hT h.1
  rw [hagg] at ha
  refine RunTo.pure (.agg ⟨(vs.drop off).take (T t).size⟩) (by rw [← zbL]; simp [part, ha, z0b (w := w) hT h.1]) ⟨_, rfl, ?_, fun i d u hd hu => ?_⟩
  ·rw [List.length_take, List.length_take, List.length_drop, List.length_drop, hv.1]
  ·rw [List.getElem?_take] at hd hu
   split at hd
   ·rename_i hi
    rw [if_pos hi] at hu
    exact (hv.drop off).2 i d u hd hu
   ·cases hd
 | false =>
  simp only [hagg, Bool.false_eq_true, if_false] at h ⊢
  have ha := z1g (w := w) hT h.1
  rw [hagg] at ha
  have hlt : off < vs.length := by rw [← hv.1]; exact h.2
  refine RunTo.pure (vs.getD off undef) (by simp [part, ha, List.getElem?_eq_getElem hlt]) ?_
  exact hv.2 off _ _ (getD_some h.2 _) (getD_some hlt _)
end
end Go.Eng
namespace Go.Eng
open Go.RowKit
def zaa (T : Tab) (t : TypeId) (x i : AV) : Prop × AV :=
 match (T t).desc, x, i with
 | .string, .one (.str s), .one (.int _ z) => (0 ≤ z ∧ z < s.length, .one (.int .u8 ((s.getD z.toNat 0).toNat : Int)))
 | .array n e, .agg ds, .one (.int _ z) => ((0 ≤ z ∧ z < n) ∧ (T e).desc ≠ .other ∧ (partV T e ds (z.toNat * (T e).size)).1, (partV T e ds (z.toNat * (T e).size)).2)
 | _, _, _ => (False, .one .unk)
def zak (T : Tab) (t : TypeId) (x : AV) (f : Nat) : Prop × AV :=
 match (T t).desc, x with
 | .struct fs, .agg ds => match fs[f]? with | some p => partV T p.2 ds p.1 | none => (False, .one .unk)
 | _, _ => (False, .one .unk)
def z3t (x : AV) (i : Nat) : Prop × AV :=
 match x with
 | .tup vs => (i < vs.length, vs.getD i (.one .unk))
 | _ => (False, .one .unk)
def lenV (T : Tab) (H : List AObj) (t : TypeId) (x : AV) : Prop × AV :=
 match (T t).desc, x with
 | .slice _, .one (.list rows) => (True, .one (.int .i64 rows.length))
 | .slice _, .one (.own o) => match H[o]? with | some (.row _ _ rows) => (True, .one (.int .i64 rows.length)) | _ => (False, .one .unk)
 | .string, .one (.str s) => (True, .one (.int .i64 s.length))
 | .array n _, _ => (True, .one (.int .i64 n))
 | .map .., .one (.mp o) => match H[o]? with | some (.map _ kvs) => (True, .one (.int .i64 kvs.length)) | _ => (False, .one .unk)
 | _, _ => (False, .one .unk)
def eqKey : AV → AV → Bool
 | .one (.str a), .one (.str b) => a == b
 | .one (.int _ a), .one (.int _ b) => a == b
 | .agg [.int _ a, .int _ b], .agg [.int _ c, .int _ d] => a == c && b == d
 | _, _ => false
def z0q (k : AV) : List (AV × AV) → Option AV
 | [] => none
 | kv :: r => if eqKey k kv.1 = true then some kv.2 else z0q k r
def setKV (k v : AV) : List (AV × AV) → List (AV × AV)
 | [] => [(k, v)]
 | kv :: r => if eqKey k kv.1 = true then (k, v) :: r else kv :: setKV k v r
def keyOk (T : Tab) (t : TypeId) : KeyKind → Prop
 | .str => (T t).desc = .string
 | .int k => (T t).desc = .int k
 | .pair q => ((T t).desc = .struct [(0, q), (1, q)] ∧ (T t).eqs = true ∨ (T t).desc = .array 2 q) ∧ (T q).desc = .int .i64
def TKey.av : TKey → AV
 | .str s => .one (.str s)
 | .int k z => .one (.int k z)
 | .pair a b => .agg [.int .i64 a, .int .i64 b]
def TVal.av : TVal → AV
 | .int k z => .one (.int k z)
 | .bool b => .one (.bool b)
def tabV (ks : List (TKey × TVal)) : List (AV × AV) := ks.map fun p => (p.1.av, p.2.av)
def z2G (T : Tab) (H : List AObj) (t : TypeId) (x k : AV) (ok : Bool) : Prop × AV :=
 match (T t).desc, x with
 | .map kt et, .one (.mp o) =>
  match H[o]? with
  | some (.map kd kvs) => (keyOk T kt kd ∧ z0c kd k = true ∧ (T et).desc ≠ .other, if ok = true then .tup [(z0q k kvs).getD (T et).zeroV, .one (.bool (z0q k kvs).isSome)] else (z0q k kvs).getD (T et).zeroV)
  | _ => (False, .one .unk)
 | .map kt et, .one (.tab kd ks) => (keyOk T kt kd ∧ z0c kd k = true ∧ (T et).desc ≠ .other, if ok = true then .tup [(z0q k (tabV ks)).getD (T et).zeroV, .one (.bool (z0q k (tabV ks)).isSome)] else (z0q k (tabV ks)).getD (T et).zeroV)
 | _, _ => (False, .one .unk)
def z0Q (n : Nat) (lo hi : Option AV) : Prop × Nat × Nat :=
 match lo, hi with
 | none, none => (True, 0, n)
 | some (.one (.int _ l)), none => (0 ≤ l ∧ l ≤ n, l.toNat, n)
 | none, some (.one (.int _ h)) => (0 ≤ h ∧ h ≤ n, 0, h.toNat)
 | some (.one (.int _ l)), some (.one (.int _ h)) => (0 ≤ l ∧ l ≤ h ∧ h ≤ n, l.toNat, h.toNat)
 | _, _ => (False, 0, 0)
def fullV (T : Tab) (e : TypeId) (rows : List (List D)) (m : Int) (lo hi : Option AV) : Prop × AV :=
 match lo, hi with
 | none, some (.one (.int _ h)) => ((T e).desc ≠ .other ∧ (0 ≤ h ∧ h ≤ rows.length) ∧ h = m, .one (.full (rows.take h.toNat)))
 | _, _ => (False, .one .unk)
def z6l (T : Tab) (t : TypeId) (x : AV) (lo hi mx : Option AV) : Prop × AV :=
 match (T t).desc, x, mx with
 | .slice e, .one (.list rows), none => ((T e).desc ≠ .other ∧ (∀ r ∈ rows, r.length = (T e).size) ∧ (z0Q rows.length lo hi).1, .one (.list ((rows.take (z0Q rows.length lo hi).2.2).drop (z0Q rows.length lo hi).2.1)))
 | .slice e, .one (.list rows), some (.one (.int _ m)) => fullV T e rows m lo hi
 | .string, .one (.str s), none => ((z0Q s.length lo hi).1, .one (.str ((s.take (z0Q s.length lo hi).2.2).drop (z0Q s.length lo hi).2.1)))
 | _, _, _ => (False, .one .unk)
def z0J (H : List AObj) : AV → Option (List (List D))
 | .one .nil => some []
 | .one (.list rows) => some rows
 | .one (.own o) => match H[o]? with | some (.row _ _ rows) => some rows | _ => none
 | _ => none
def z3h : List (List D) → Option (List UInt8)
 | [] => some []
 | [.int .u8 z] :: r => (z3h r).map (UInt8.ofNat z.toNat :: ·)
 | _ => none
def z4v (T : Tab) (src : TypeId) (r : Option (List UInt8)) : Prop × AV :=
 match (T src).desc, r with
 | .slice e, some s => ((T e).desc = .int .u8, .one (.str s))
 | _, _ => (False, .one .unk)
def AV.str? : AV → Option (List UInt8) | .one (.str s) => some s | _ => none
def convV (T : Tab) (H : List AObj) (src dst : TypeId) (x : AV) : Prop × AV :=
 match (T dst).desc, x with
 | .int k, .one (.int _ z) => ((T src).desc ≠ .other, .one (.int k (k.wrap z)))
 | .string, x => match x.str? with | some s => ((T src).desc = .string, .one (.str s)) | none => z4v T src ((z0J H x).bind z3h)
 | _, _ => (False, .one .unk)
def capsV : List AV → Option (List D)
 | [] => some []
 | .one d :: r => match d with | .clo .. => none | d => (capsV r).map (d :: ·)
 | _ :: _ => none
def z6E (fn : Fn) (first : List AV) (caps : List AV) : Prop × AV :=
 match fn, first, capsV caps with
 | .func f, [], some ds => (True, .one (.clo f ds))
 | _, _, _ => (False, .one .unk)
section
variable {P : Program} {T : Tab} {w : World} {M : Nat → Prop} {β : List Value}
theorem za9 (hT : TabOk P T) (t : TypeId) (x i : AV) (v u : Value) (hv : RepV w M β x v) (hu : RepV w M β i u) (h : (zaa T t x i).1) : RunTo P w M β (Instr.index t v u) (zaa T t x i).2 := by
 unfold zaa at h ⊢
 split
 ·rename_i s k z hd
  simp only [hd] at h
  obtain rfl := z03 hu
  obtain rfl := z0k hv
  have hlt : z.toNat < s.length := by omega
  refine RunTo.pure (.int .u8 ((s.getD z.toNat 0).toNat : Int)) ?_ z0F
  have hg : (⟨⟨s⟩⟩ : ByteArray)[z.toNat]? = some (s.getD z.toNat 0) := by
   rw [getElem?_pos (⟨⟨s⟩⟩ : ByteArray) z.toNat (show z.toNat < (⟨⟨s⟩⟩ : ByteArray).size from hlt)]
   congr 1
   simp [List.getD, List.getElem?_eq_getElem hlt]
   rfl
  simp [Instr.index, asIntOf, run_underlying (z0n hT hd), h.1, hg]
 ·rename_i n e ds k z hd
  simp only [hd] at h
  obtain rfl := z03 hu
  obtain ⟨vs, rfl, hcl⟩ := hv
  obtain ⟨u', w', hr, hrest⟩ := z7V hT e ds vs (z.toNat * (T e).size) hcl h.2.2
  exact ⟨u', w', by simp [Instr.index, asIntOf, run_underlying (z0T hT hd), h.1.1, h.1.2, z0b (w := w) hT h.2.1, hr], hrest⟩
 ·exact (by simp_all : False).elim
theorem zaj (hT : TabOk P T) (t : TypeId) (x : AV) (f : Nat) (v : Value) (hv : RepV w M β x v) (h : (zak T t x f).1) : RunTo P w M β (Instr.field t v f) (zak T t x f).2 := by
 unfold zak at h ⊢
 split
 ·rename_i fs ds hd
  simp only [hd] at h
  obtain ⟨gs, hu, hgs, hne⟩ := z0R hT hd
  obtain ⟨vs, rfl, hcl⟩ := hv
  cases hp : fs[f]? with
  | none => rw [hp] at h; exact h.elim
  | some p =>
   rw [hp] at h
   simp only at h ⊢
   have hp' := hp
   rw [hgs, List.getElem?_map] at hp'
   cases hg : gs.toList[f]? with
   | none => rw [hg] at hp'; cases hp'
   | some g =>
    rw [hg] at hp'
    simp at hp'
    have hg' : gs[f]? = some g := by simpa using hg
    rw [← hp'] at h ⊢
    obtain ⟨u', w', hr, hrest⟩ := z7V hT g.type ds vs g.offset hcl h
    exact ⟨u', w', by simp [Instr.field, run_underlying hu, hg', asAgg, hr], hrest⟩
 ·exact (by simp_all : False).elim
theorem RepVL.get : ∀ (as : List AV) (vs : List Value), RepVL w M β as vs → as.length = vs.length ∧ ∀ (i : Nat) (a : AV) (v : Value), as[i]? = some a → vs[i]? = some v → RepV w M β a v
 | [], vs, h => by
  simp only [RepVL] at h
  subst h
  exact ⟨rfl, fun i a v ha => by simp at ha⟩
 | a :: as, vs, h => by
  simp only [RepVL] at h
  obtain ⟨v, rest, rfl, h1, h2⟩ := h
  have ih := RepVL.get as rest h2
  refine ⟨by simp [ih.1], fun i b u hb hu => ?_⟩
  cases i with
  | zero => simp at hb hu; subst hb; subst hu; exact h1
  | succ i => exact ih.2 i b u (by simpa using hb) (by simpa using hu)
theorem RepVL.mk : ∀ (as : List AV) (vs : List Value), as.length = vs.length → (∀ (i : Nat) (a : AV) (v : Value), as[i]? = some a → vs[i]? = some v → RepV w M β a v) → RepVL w M β as vs
 | [], [], _, _ => by simp [RepVL]
 | [], v :: vs, h, _ => by simp at h
 | a :: as, [], h, _ => by simp at h
 | a :: as, v :: vs, h, k => by
  simp only [RepVL]
  exact ⟨v, vs, rfl, k 0 a v rfl rfl, RepVL.mk as vs (by simpa using h) fun i b u hb hu => k (i + 1) b u (by simpa using hb) (by simpa using hu)⟩
theorem z7C (x : AV) (i : Nat) (v : Value) (hv : RepV w M β x v) (h : (z3t x i).1) : RunTo P w M β (Instr.extract v i) (z3t x i).2 := by
 unfold z3t at h ⊢
 split
 ·rename_i vs
  obtain ⟨us, rfl, hl⟩ := hv
  have hg := RepVL.get vs us hl
  have hlt : i < us.length := by rw [← hg.1]; exact h
  refine RunTo.pure (us.getD i undef) (by simp [Instr.extract, List.getElem?_eq_getElem hlt]) ?_
  exact hg.2 i _ _ (getD_some h _) (getD_some hlt _)
 ·exact (by simp_all : False).elim
theorem zdD (hT : TabOk P T) {H : List AObj} (hobj : ∀ (t : Nat) (o : AObj) (h : Value), H[t]? = some o → β[t]? = some h → ObjRep w M β o h) (t ty : TypeId) (x : AV) (v : Value) (hv : RepV w M β x v) (h : (lenV T H t x).1) :
  RunTo P w M β (Builtin.len_ #[t] ty #[v]) (lenV T H t x).2 := by
 unfold lenV at h ⊢
 split
 ·rename_i e rows hd
  obtain ⟨A, c, rfl, _⟩ := hv
  exact RunTo.pure _ (by simp [Builtin.len_, run_underlying (z06 hT hd)] <;> rfl) z0F
 ·rename_i e o hd
  simp only [hd] at h
  cases hH : H[o]? with
  | none => rw [hH] at h; exact h.elim
  | some ob =>
   rw [hH] at h
   cases ob with
   | row e' sz rows =>
    have hβ := z0u hv fun y hy => hobj o _ y hH hy
    obtain ⟨A, c, rfl, _⟩ := hobj o _ v hH hβ
    exact RunTo.pure _ (by simp [Builtin.len_, run_underlying (z06 hT hd)] <;> rfl) z0F
   | _ => exact h.elim
 ·rename_i s hd
  obtain rfl := z0k hv
  exact RunTo.pure _ (by simp [Builtin.len_, run_underlying (z0n hT hd)] <;> rfl) z0F
 ·rename_i n e hd
  exact RunTo.pure _ (by simp [Builtin.len_, run_underlying (z0T hT hd)] <;> rfl) z0F
 ·rename_i k e o hd
  simp only [hd] at h
  cases hH : H[o]? with
  | none => rw [hH] at h; exact h.elim
  | some ob =>
   rw [hH] at h
   cases ob with
   | map kd kvs =>
    obtain ⟨g, hβ, rfl⟩ := z8P hv fun y hy => hobj o _ y hH hy
    obtain ⟨_, g', es, clk, he, hg, hlen, _⟩ := hobj o _ _ hH hβ
    cases he
    refine RunTo.pure (.int .i64 es.size) ?_ (by show RepV w M β (.one (.int .i64 kvs.length)) _; rw [hlen]; exact z0F)
    simp [Builtin.len_, run_underlying (z2m hT hd), getObj, Sem.run, hg]
    rfl
   | _ => exact h.elim
 ·exact (by simp_all : False).elim
theorem z4Y (isS : Bool) (n cap : Nat) (hnc : n ≤ cap) (lo hi : Option AV) (lv hv : Option Value) (hl : ∀ a, lo = some a → ∃ v, lv = some v ∧ RepV w M β a v) (hl0 : lo = none → lv = none) (hh : ∀ a, hi = some a → ∃ v, hv = some v ∧ RepV w M β a v) (hh0 : hi = none → hv = none)
  (h : (z0Q n lo hi).1) : (∀ w, (Instr.sliceBounds isS n cap lv hv none).run P w = .ok ((z0Q n lo hi).2.1, (z0Q n lo hi).2.2, cap) w) ∧ (z0Q n lo hi).2.1 ≤ (z0Q n lo hi).2.2 ∧ (z0Q n lo hi).2.2 ≤ n := by
 unfold z0Q at h ⊢
 split
 ·rw [hl0 rfl, hh0 rfl]
  exact ⟨fun w => by simp [Instr.sliceBounds], Nat.zero_le _, Nat.le_refl _⟩
 ·rename_i k l
  obtain ⟨v, rfl, hv'⟩ := hl _ rfl
  obtain rfl := z03 hv'
  rw [hh0 rfl]
  simp only at h
  refine ⟨fun w => ?_, by simp only; omega, Nat.le_refl _⟩
  simp [Instr.sliceBounds, Instr.sliceBound, asIntOf, h.1, h.2]
 ·rename_i k l
  obtain ⟨v, rfl, hv'⟩ := hh _ rfl
  obtain rfl := z03 hv'
  rw [hl0 rfl]
  simp only at h
  have hc : l ≤ (cap : Int) := by omega
  refine ⟨fun w => ?_, by simp only; omega, by simp only; omega⟩
  cases isS <;> simp [Instr.sliceBounds, Instr.sliceBound, asIntOf, h.1, hc]
 ·rename_i k l k' l'
  obtain ⟨v, rfl, hv'⟩ := hl _ rfl
  obtain rfl := z03 hv'
  obtain ⟨v, rfl, hv'⟩ := hh _ rfl
  obtain rfl := z03 hv'
  simp only at h
  have hc : l' ≤ (cap : Int) := by omega
  have h0 : 0 ≤ l' := by omega
  have hll : l ≤ (l'.toNat : Int) := by omega
  refine ⟨fun w => ?_, by simp only; omega, by simp only; omega⟩
  have hm : l ≤ max l' 0 := by omega
  cases isS <;> simp [Instr.sliceBounds, Instr.sliceBound, asIntOf, h.1, hc, h0, hll, hm]
 ·exact (by simp_all : False).elim
theorem RepRows.cut {ad : Addr} {sz : Nat} {rows : List (List D)} (h : RepRows w M ad sz 0 rows) (l k : Nat) : RepRows w M (ad.add (l * sz)) sz 0 ((rows.take k).drop l) :=
 RepRows.of_get _ 0 fun i r hr => by
  rw [List.getElem?_drop, List.getElem?_take] at hr
  split at hr
  ·obtain ⟨vs, h1, h2, h3⟩ := RepRows.get rows 0 h (l + i) r hr
   refine ⟨vs, h1, ?_, h3⟩
   rw [Nat.zero_add] at h2 ⊢
   exact z1B (o := l * sz) (k := i * sz) (by rw [← Nat.add_mul]; exact h2)
  ·cases hr
theorem z4h (hT : TabOk P T) (t : TypeId) (x : AV) (lo hi mx : Option AV) (v : Value) (lv hv mv : Option Value) (hx : RepV w M β x v) (hl : ∀ a, lo = some a → ∃ v, lv = some v ∧ RepV w M β a v) (hl0 : lo = none → lv = none) (hh : ∀ a, hi = some a → ∃ v, hv = some v ∧ RepV w M β a v) (hh0 : hi = none → hv = none) (hm : mx = none → mv = none) (hq : ∀ a, mx = some a → ∃ v, mv = some v ∧ RepV w M β a v)
  (h : (z6l T t x lo hi mx).1) : ∃ y, (∀ w', (Instr.sliceAt t v lv hv mv).run P w' = .ok y w') ∧ RepV w M β (z6l T t x lo hi mx).2 y := by
 unfold z6l at h ⊢
 split
 ·rename_i e rows hd
  simp only [hd] at h
  obtain ⟨he, hrl, h⟩ := h
  obtain rfl := hm rfl
  obtain ⟨A, c, rfl, hn, hc, hr⟩ := hx
  obtain ⟨hb, h1, h2⟩ := z4Y (P := P) (w := w) (M := M) (β := β) true rows.length c hn lo hi lv hv hl hl0 hh hh0 h
  refine ⟨(.slice (if c = (z0Q rows.length lo hi).2.1 then A else A.map (·.add ((z0Q rows.length lo hi).2.1 * (T e).size))) ((z0Q rows.length lo hi).2.2 - (z0Q rows.length lo hi).2.1) (c - (z0Q rows.length lo hi).2.1)), fun w' => ?_, ?_⟩
  ·simp [Instr.sliceAt, Instr.slice, run_underlying (z06 hT hd), hb w', z0b (w := w') hT he]
  ·generalize (z0Q rows.length lo hi).2.1 = l at *
   generalize (z0Q rows.length lo hi).2.2 = k at *
   have hlen : ((rows.take k).drop l).length = k - l := by rw [List.length_drop, List.length_take]; omega
   refine ⟨(if c = l then A else A.map (·.add (l * (T e).size))), c - l, by rw [hlen], by rw [hlen]; omega, by omega, ?_⟩
   ·by_cases hkl : k = l
    ·left; apply List.eq_nil_of_length_eq_zero; omega
    ·right
     rcases hr with rfl | ⟨ad, sz, rfl, hb', hm', hr⟩
     ·simp at h2; omega
     ·have h0 : rows ≠ [] := by intro e; rw [e] at h2; simp at h2; omega
      obtain ⟨r0, hr0⟩ : ∃ r0, rows[0]? = some r0 := by cases rows with | nil => exact absurd rfl h0 | cons a b => exact ⟨a, rfl⟩
      have hsz : sz = (T e).size := by rw [← hr.rowlen hr0]; exact hrl r0 (List.mem_of_getElem? hr0)
      subst hsz
      refine ⟨ad.add (l * (T e).size), (T e).size, by rw [if_neg (by omega)]; rfl, by rw [block_add]; exact hb', by rw [block_add]; exact hm', hr.cut l k⟩
 ·rename_i e rows km m hd
  simp only [hd] at h
  unfold fullV at h ⊢
  split
  ·rename_i kh z
   simp only at h
   obtain ⟨he, ⟨hz0, hz1⟩, rfl⟩ := h
   obtain ⟨vh, rfl, hvh⟩ := hh _ rfl
   obtain rfl := z03 hvh
   obtain ⟨vm, rfl, hvm⟩ := hq _ rfl
   obtain rfl := z03 hvm
   rw [hl0 rfl]
   obtain ⟨A, c, rfl, hn, hc, hr⟩ := hx
   have hlen : (rows.take z.toNat).length = z.toNat := by rw [List.length_take]; omega
   have hzc : z ≤ (c : Int) := by omega
   refine ⟨(.slice (if z.toNat = 0 then A else A.map (·.add (0 * (T e).size))) (z.toNat - 0) (z.toNat - 0)), fun w' => ?_, ?_⟩
   ·have hzz : z ≤ ((z.toNat : Nat) : Int) := by omega
    have hzm : z ≤ max z 0 := by omega
    simp [Instr.sliceAt, Instr.slice, Instr.sliceBounds, Instr.sliceBound, asIntOf, run_underlying (z06 hT hd), z0b (w := w') hT he, hz0, hzc, hzz, hzm]
   ·refine ⟨(if z.toNat = 0 then A else A.map (·.add (0 * (T e).size))), by rw [hlen]; rfl, by rw [hlen]; omega, ?_⟩
    by_cases h0 : z.toNat = 0
    ·left; rw [h0]; rfl
    ·right
     rcases hr with rfl | ⟨ad, sz, rfl, hb', hm', hr⟩
     ·simp at hz1; omega
     ·refine ⟨ad, sz, by rw [if_neg h0, Nat.zero_mul]; simp [Addr.add], hb', hm', ?_⟩
      have := hr.cut 0 z.toNat
      simpa [Addr.add] using this
  ·exact (by simp_all : False).elim
 ·rename_i s hd
  simp only [hd] at h
  obtain rfl := hm rfl
  obtain rfl := z0k hx
  obtain ⟨hb, h1, h2⟩ := z4Y (P := P) (w := w) (M := M) (β := β) false s.length s.length (Nat.le_refl _) lo hi lv hv hl hl0 hh hh0 h
  refine ⟨(.string ((⟨⟨s⟩⟩ : ByteArray).extract (z0Q s.length lo hi).2.1 (z0Q s.length lo hi).2.2)), fun w' => ?_, ?_⟩
  ·have hsz : (⟨⟨s⟩⟩ : ByteArray).size = s.length := rfl
   simp [Instr.sliceAt, Instr.slice, run_underlying (z0n hT hd), hsz, hb w']
  ·show Value.string _ = Value.string _
   congr 1
   apply ByteArray.ext
   simp [ByteArray.data_extract]
   rw [List.drop_take]
 ·exact (by simp_all : False).elim
theorem z9z (hT : TabOk P T) (t : TypeId) (x : AV) (lo hi mx : Option AV) (v : Value) (lv hv mv : Option Value) (hx : RepV w M β x v) (hl : ∀ a, lo = some a → ∃ v, lv = some v ∧ RepV w M β a v) (hl0 : lo = none → lv = none) (hh : ∀ a, hi = some a → ∃ v, hv = some v ∧ RepV w M β a v) (hh0 : hi = none → hv = none) (hm : mx = none → mv = none) (hq : ∀ a, mx = some a → ∃ v, mv = some v ∧ RepV w M β a v)
  (h : (z6l T t x lo hi mx).1) : RunTo P w M β (Instr.sliceAt t v lv hv mv) (z6l T t x lo hi mx).2 := by
 obtain ⟨y, h1, h2⟩ := z4h (P := P) hT t x lo hi mx v lv hv mv hx hl hl0 hh hh0 hm hq h
 exact RunTo.pure y (h1 w) h2
theorem z5B : ∀ (rows : List (List D)) (s : List UInt8), z3h rows = some s → ∃ zs : List Int, rows = zs.map (fun z => [.int .u8 z]) ∧ s = zs.map fun z => UInt8.ofNat z.toNat
 | [], s, h => ⟨[], rfl, by simpa [z3h] using h.symm⟩
 | r :: rows, s, h => by
  unfold z3h at h
  split at h
  ·rename_i he; cases he
  ·rename_i z r' he
   cases he
   rw [Option.map_eq_some_iff] at h
   obtain ⟨s', h1, rfl⟩ := h
   obtain ⟨zs, rfl, rfl⟩ := z5B _ s' h1
   exact ⟨z :: zs, rfl, rfl⟩
  ·cases h
theorem zdX {ad : Addr} {sz : Nat} {zs : List Int} (h : RepRows w M ad sz 0 (zs.map fun z => [.int .u8 z])) : (loadCells ad zs.length).run P w = .ok (zs.map (Value.int .u8)).toArray w := by
 have := run_loadCells_list (P := P) w ad (zs.map (Value.int .u8)) (fun j v hj => by
  rw [List.getElem?_map] at hj
  cases hz : zs[j]? with
  | none => rw [hz] at hj; cases hj
  | some z =>
   rw [hz] at hj
   cases hj
   have hr : (zs.map fun z => [D.int .u8 z])[j]? = some [D.int .u8 z] := by rw [List.getElem?_map, hz]; rfl
   obtain ⟨vs, h1, h2, h3⟩ := RepRows.get _ 0 h j _ hr
   simp only [RepL] at h3
   obtain ⟨v, rest, rfl, hv, rfl⟩ := h3
   have e : v = .int .u8 z := hv
   subst e
   have hs : sz = 1 := by rw [← h1]; rfl
   have := h2 0 _ rfl
   rw [hs] at this
   simpa using this)
 simpa using this
theorem z79 (hT : TabOk P T) {src dst e : TypeId} (hd : (T dst).desc = .string) (hs : (T src).desc = .slice e) (he : (T e).desc = .int .u8) {A : Option Addr} {c sz : Nat} {rows : List (List D)} {s : List UInt8} (hb : z3h rows = some s)
  (hr : rows = [] ∧ A = none ∨ ∃ ad, A = some ad ∧ RepRows w M ad sz 0 rows) : (convert src dst (.slice A rows.length c)).run P w = .ok (.string ⟨⟨s⟩⟩) w := by
 rw [run_convert_bytes_string w src dst e A rows.length c (z06 hT hs) (z0S hT he) (z0n hT hd)]
 obtain ⟨zs, h1, rfl⟩ := z5B rows s hb
 rcases hr with ⟨rfl, rfl⟩ | ⟨ad, rfl, hr⟩
 ·have : zs = [] := by cases zs with | nil => rfl | cons a b => cases h1
  subst this
  simp [Conv.bytesToString]
  rfl
 ·subst h1
  rw [List.length_map, run_bytesToString w ad zs.length c zs (zdX hr), foldl_push_bytes]
  simp [ByteArray.empty, ByteArray.emptyWithCapacity]
  rfl
theorem zby (hT : TabOk P T) {H : List AObj} (hobj : ∀ (t : Nat) (o : AObj) (h : Value), H[t]? = some o → β[t]? = some h → ObjRep w M β o h) (src dst : TypeId) (x : AV) (v : Value) (hv : RepV w M β x v) (h : (convV T H src dst x).1) : RunTo P w M β (convert src dst v) (convV T H src dst x).2 := by
 unfold convV at h ⊢
 split
 ·rename_i k k' z hd
  simp only [hd] at h
  obtain rfl := z03 hv
  obtain ⟨d, hs⟩ := zbX hT h
  exact RunTo.pure _ (by simp [convert, run_underlying hs, run_underlying (z0S hT hd), Conv.intToInt] <;> rfl) z0F
 ·rename_i x' q1 q2 hd
  simp only [hd] at h
  cases hx : x'.str? with
  | some s =>
   rw [hx] at h
   simp only at h ⊢
   have e : x' = .one (.str s) := by
    cases x' <;> first | (cases hx; done) | skip
    rename_i d; cases d <;> first | (cases hx; done) | (cases hx; rfl)
   subst e
   obtain rfl := z0k hv
   exact RunTo.pure _ (by simp [convert, run_underlying (z0n hT hd), run_underlying (z0n hT h)] <;> rfl) zb5
  | none =>
  rw [hx] at h
  simp only at h ⊢
  have h' := h
  clear h
  unfold z4v at h' ⊢
  cases hs : (T src).desc with
  | slice e =>
   rw [hs] at h'
   cases hr : z0J H x' with
   | none => rw [hr] at h'; exact h'.elim
   | some rows =>
    rw [hr] at h'
    simp only [Option.bind_some] at h' ⊢
    cases hb : z3h rows with
    | none => rw [hb] at h'; exact h'.elim
    | some s =>
     rw [hb] at h'
     simp only at h' ⊢
     have fin : ∀ (A : Option Addr) (c sz : Nat), v = .slice A rows.length c → (rows = [] ∧ A = none ∨ ∃ ad, A = some ad ∧ RepRows w M ad sz 0 rows) → RunTo P w M β (convert src dst v) (.one (.str s)) := by
      rintro A c sz rfl hA
      exact RunTo.pure _ (z79 hT hd hs h' hb hA) zb5
     have finE : ∀ (A : Option Addr) (c : Nat), rows = [] → v = .slice A rows.length c → RunTo P w M β (convert src dst v) (.one (.str s)) := by
      rintro A c h0 h1
      cases A with
      | none => exact fin none c 1 h1 (.inl ⟨h0, rfl⟩)
      | some ad => exact fin (some ad) c 1 h1 (.inr ⟨ad, rfl, by rw [h0]; simp only [RepRows]⟩)
     unfold z0J at hr
     split at hr
     ·cases hr
      obtain ⟨A, e0⟩ : ∃ A, v = .slice A 0 0 := hv
      exact finE A 0 rfl e0
     ·cases hr
      obtain ⟨A, c, h1, _, _, h4⟩ := hv
      rcases h4 with h4 | ⟨ad, sz, h4, _, _, h5⟩
      ·exact finE A c h4 h1
      ·exact fin A c sz h1 (.inr ⟨ad, h4, h5⟩)
     ·rename_i o
      cases hH : H[o]? with
      | none => rw [hH] at hr; cases hr
      | some ob =>
       rw [hH] at hr
       cases ob with
       | row e' sz rows' =>
        cases hr
        have hβ := z0u hv fun y hy => hobj o _ y hH hy
        obtain ⟨A, c, h1, hle, _, h4⟩ := hobj o _ v hH hβ
        rcases h4 with rfl | ⟨_, g, cur, h4, _, _, h5⟩
        ·exact finE A 0 (List.eq_nil_of_length_eq_zero (by omega)) h1
        ·exact fin A c sz h1 (.inr ⟨_, h4, h5⟩)
       | _ => cases hr
     ·cases hr
  | _ => rw [hs] at h'; exact h'.elim
 ·exact (by simp_all : False).elim
theorem z7b : ∀ (as : List AV) (vs : List Value) (ds : List D), capsV as = some ds → as.length = vs.length → (∀ (i : Nat) (a : AV) (v : Value), as[i]? = some a → vs[i]? = some v → RepV w M β a v) →
  ds.length = vs.length ∧ ∀ (i : Nat) (d : D) (u : Value), ds[i]? = some d → vs[i]? = some u → RepC0 w M β d u
 | [], vs, ds, h, hl, _ => by
  simp only [capsV, Option.some.injEq] at h
  subst h
  exact ⟨hl, fun i d u hd => by simp at hd⟩
 | .one d :: as, [], ds, h, hl, _ => by simp at hl
 | .one d :: as, v :: vs, ds, h, hl, k => by
  have hd : RepC w M β d v := k 0 _ v rfl rfl
  have : (∃ ds', capsV as = some ds' ∧ ds = d :: ds') ∧ RepC0 w M β d v := by
   cases d <;> simp only [capsV, Option.map_eq_some_iff] at h
   case clo => cases h
   all_goals
    obtain ⟨ds', h1, h2⟩ := h
    exact ⟨⟨ds', h1, h2.symm⟩, by simpa only [RepC] using hd⟩
  obtain ⟨⟨ds', h1, rfl⟩, h0⟩ := this
  obtain ⟨ih1, ih2⟩ := z7b as vs ds' h1 (by simpa using hl) fun i a v ha hv => k (i + 1) a v (by simpa using ha) (by simpa using hv)
  refine ⟨by simp [ih1], fun i e u he hu => ?_⟩
  cases i with
  | zero => simp at he hu; subst he; subst hu; exact h0
  | succ i => exact ih2 i e u (by simpa using he) (by simpa using hu)
 | .agg _ :: as, vs, ds, h, hl, k => by simp [capsV] at h
 | .tup _ :: as, vs, ds, h, hl, k => by simp [capsV] at h
 | .cond _ _ :: as, vs, ds, h, hl, k => by simp [capsV] at h
 | .any :: as, vs, ds, h, hl, k => by simp [capsV] at h
end
end Go.Eng
namespace Go.Eng
open Go.RowKit
def setAt {α : Type} : List α → Nat → List α → List α
 | ds, _, [] => ds
 | ds, off, c :: cs => setAt (ds.set off c) (off + 1) cs
def AV.cells? : AV → Option (List D)
 | .one d => some [d]
 | .agg ds => some ds
 | _ => none
def fillD (place : Nat → Option (Nat × Nat)) : List D → List (Nat × AV) → Option (List D)
 | ds, [] => some ds
 | ds, (i, v) :: rest =>
  match place i, v.cells? with
  | some (off, size), some cs => if cs.length = size ∧ off + size ≤ ds.length then fillD place (setAt ds off cs) rest else none
  | _, _ => none
def zaC (T : Tab) (t : TypeId) (parts : List (Nat × AV)) : Prop × AV :=
 match (T t).desc with
 | .struct fs =>
  match fillD (fun i => (fs[i]?).map fun p => (p.1, (T p.2).size)) (T t).zero parts with
  | some ds => (∀ p ∈ fs, (T p.2).desc ≠ .other, .agg ds)
  | none => (False, .one .unk)
 | .array _ e =>
  match fillD (fun i => some (i * (T e).size, (T e).size)) (T t).zero parts with
  | some ds => ((T e).desc ≠ .other, .agg ds)
  | none => (False, .one .unk)
 | _ => (False, .one .unk)
def z1b {α : Type} (sz : Nat) : Nat → List α → List (List α)
 | 0, _ => []
 | n + 1, l => l.take sz :: z1b sz n (l.drop sz)
def z1f (T : Tab) (t : TypeId) (len : Nat) (parts : List (Nat × AV)) : Option (TypeId × Nat × List (List D)) :=
 match (T t).desc with
 | .slice e =>
  match fillD (fun i => some (i * (T e).size, (T e).size)) ((List.replicate len (T e).zero).flatten) parts with
  | some ds => if (T e).desc ≠ .other ∧ 0 < (T e).size ∧ len * (T e).size ≤ 16777216 then some (e, (T e).size, z1b (T e).size len ds) else none
  | none => none
 | _ => none
section
variable {P : Program} {T : Tab} {w : World} {M : Nat → Prop} {β : List Value}
theorem RepC0.oneCell {d : D} {v : Value} (h : RepC0 w M β d v) : v.oneCell' = true := by
 cases d
 case unk => exact h
 case own => exact h.2
 case vp => rcases h with ⟨g, _, rfl⟩ | h; rfl; exact h.2
 case rp => rcases h with ⟨g, _, _, _, rfl⟩ | h; rfl; exact h.2
 case mp => rcases h with ⟨g, _, rfl⟩ | h; rfl; exact h.2
 all_goals (simp only [RepC0] at h; exact RepD.one_cell _ _ h)
theorem RepC.oneCell {d : D} {v : Value} (h : RepC w M β d v) : v.oneCell' = true := by
 cases d
 case clo => obtain ⟨vs, rfl, _⟩ := h; rfl
 all_goals (simp only [RepC] at h; exact h.oneCell)
theorem zfQ {v : Value} (h : v.oneCell' = true) : v.cells = #[v] := by cases v <;> first | rfl | (simp [Value.oneCell'] at h)
theorem cells?_rep {x : AV} {v : Value} {cs : List D} (hv : RepV w M β x v) (h : x.cells? = some cs) : RepCL w M β cs v.cells.toList := by
 cases x with
 | one d =>
  simp only [AV.cells?, Option.some.injEq] at h
  subst h
  have hd : RepC w M β d v := hv
  rw [zfQ hd.oneCell]
  refine ⟨rfl, fun i e u he hu => ?_⟩
  cases i with
  | zero => simp at he hu; subst he; subst hu; exact hd
  | succ i => simp at he
 | agg ds =>
  simp only [AV.cells?, Option.some.injEq] at h
  subst h
  obtain ⟨vs, rfl, hl⟩ := hv
  exact hl
 | tup => simp [AV.cells?] at h
 | cond => simp [AV.cells?] at h
 | any => simp [AV.cells?] at h
theorem RepCL.set {ds : List D} {vs : List Value} (h : RepCL w M β ds vs) (i : Nat) {d : D} {v : Value} (hd : RepC w M β d v) : RepCL w M β (ds.set i d) (vs.set i v) := by
 refine ⟨by simp [h.1], fun j e u he hu => ?_⟩
 rw [List.getElem?_set] at he hu
 split at he
 ·rename_i hij
  subst hij
  rw [if_pos rfl] at hu
  split at he <;> rename_i hl
  ·rw [if_pos (by rw [← h.1]; exact hl)] at hu
   cases he; cases hu; exact hd
  ·cases he
 ·rename_i hij
  rw [if_neg hij] at hu
  exact h.2 j e u he hu
theorem RepCL.setAt : ∀ {cs : List D} {us : List Value} {ds : List D} {vs : List Value} (off : Nat), RepCL w M β ds vs → RepCL w M β cs us → RepCL w M β (Eng.setAt ds off cs) (Eng.setAt vs off us)
 | [], [], _, _, _, h, _ => h
 | [], u :: us, _, _, _, _, k => by have := k.1; simp at this
 | c :: cs, [], _, _, _, _, k => by have := k.1; simp at this
 | c :: cs, u :: us, ds, vs, off, h, k => by
  simp only [Eng.setAt]
  exact RepCL.setAt (off + 1) (h.set off (k.2 0 c u rfl rfl)) ⟨by simpa using k.1, fun i d x hd hx => k.2 (i + 1) d x (by simpa using hd) (by simpa using hx)⟩
theorem z1A {α : Type} : ∀ (cs : List α) (ds : List α) (off : Nat), (Eng.setAt ds off cs).length = ds.length
 | [], _, _ => rfl
 | c :: cs, ds, off => by simp only [Eng.setAt]; rw [z1A cs]; simp
theorem z8a : ∀ (cs : List Value) (vs : List Value) (off k : Nat), (cs.zipIdx k).foldl (fun (a : Array Value) (p : Value × Nat) => a.setIfInBounds (off + p.2) p.1) ⟨vs⟩ = ⟨Eng.setAt vs (off + k) cs⟩
 | [], _, _, _ => rfl
 | c :: cs, vs, off, k => by
  simp only [List.zipIdx_cons, List.foldl_cons, List.setIfInBounds_toArray, Eng.setAt]
  rw [z8a cs _ off (k + 1), Nat.add_assoc]
theorem z3s (place : Nat → Option (Nat × Nat)) : ∀ (parts : List (Nat × AV)) (vparts : List (Nat × Value)) (ds ds' : List D) (vs : List Value), parts.length = vparts.length →
  (∀ (i : Nat) (p : Nat × AV) (q : Nat × Value), parts[i]? = some p → vparts[i]? = some q → p.1 = q.1 ∧ RepV w M β p.2 q.2) → RepCL w M β ds vs → fillD place ds parts = some ds' →
  ∃ vs', Instr.fill place ⟨vs⟩ vparts = some ⟨vs'⟩ ∧ RepCL w M β ds' vs' ∧ ds'.length = ds.length
 | [], [], ds, ds', vs, _, _, hl, h => by
  simp only [fillD, Option.some.injEq] at h
  subst h
  exact ⟨vs, rfl, hl, rfl⟩
 | [], q :: vp, ds, ds', vs, h, _, _, _ => by simp at h
 | p :: ps, [], ds, ds', vs, h, _, _, _ => by simp at h
 | (i, x) :: ps, (j, v) :: vp, ds, ds', vs, hlen, hp, hl, h => by
  obtain ⟨hij, hx⟩ := hp 0 _ _ rfl rfl
  simp only at hij
  subst hij
  simp only [fillD] at h
  cases hpl : place i with
  | none => rw [hpl] at h; simp at h
  | some os =>
   obtain ⟨off, size⟩ := os
   cases hc : x.cells? with
   | none => rw [hpl, hc] at h; simp at h
   | some cs =>
    rw [hpl, hc] at h
    simp only at h
    split at h
    ·rename_i hcond
     have hcl := cells?_rep hx hc
     have hsz : v.cells.size = size := by rw [← hcond.1, hcl.1]; simp
     obtain ⟨vs', h1, h2, h3⟩ := z3s place ps vp (Eng.setAt ds off cs) ds' (Eng.setAt vs off v.cells.toList) (by simpa using hlen) (fun k p q a b => hp (k + 1) p q (by simpa using a) (by simpa using b)) (RepCL.setAt off hl hcl) h
     refine ⟨vs', ?_, h2, by rw [h3, z1A]⟩
     have hle : ¬ (off + v.cells.size > (⟨vs⟩ : Array Value).size) := by
      have e : (⟨vs⟩ : Array Value).size = vs.length := rfl
      rw [hsz, e, ← hl.1]
      exact Nat.not_lt.2 hcond.2
     have hfold : v.cells.zipIdx.foldl (fun (a : Array Value) (p : Value × Nat) => a.setIfInBounds (off + p.2) p.1) ⟨vs⟩ = ⟨Eng.setAt vs off v.cells.toList⟩ := by
      rw [← Array.foldl_toList, Array.toList_zipIdx]
      exact z8a v.cells.toList vs off 0
     simp only [Instr.fill, hpl]
     rw [if_neg (by simp only [Bool.or_eq_true, decide_eq_true_eq, not_or]; exact ⟨fun hh => hh hsz, hle⟩)]
     rw [hfold]
     exact h1
    ·cases h
theorem z5Z (hT : TabOk P T) {t : TypeId} (h : (T t).desc ≠ .other) : ∃ z : Value, (zeroValue t).run P w = .ok z w ∧ RepL w M (T t).zero z.cells.toList ∧ z4c z = (T t).isAgg ∧ z.cells.size = (T t).size ∧ (T t).zero.length = (T t).size := by
 obtain ⟨i, z, h1, h2, h3, h4, h5, h6, h7⟩ := z5O (w := w) hT h
 have hr := z0C (w := w) (M := M) _ _ h5
 refine ⟨z, by simp [zeroValue, h1, h4], hr, h6, ?_, h7⟩
 have := RepL.length_eq _ _ hr
 simp at this
 omega
theorem z6s (hT : TabOk P T) : ∀ (gs : List Field), (∀ f ∈ gs, (T f.type).desc ≠ .other) →
  (gs.mapM fun f => Prod.mk f.offset <$> sizeOf f.type).run P w = .ok (gs.map fun f => (f.offset, (T f.type).size)) w
 | [], _ => by simp
 | g :: gs, h => by
  simp [List.mapM_cons, z0b (w := w) hT (h g (by simp)), z6s hT gs (fun f hf => h f (by simp [hf]))]
theorem zaB (hT : TabOk P T) (t : TypeId) (parts : List (Nat × AV)) (vparts : List (Nat × Value)) (hl : parts.length = vparts.length) (hp : ∀ (i : Nat) (p : Nat × AV) (q : Nat × Value), parts[i]? = some p → vparts[i]? = some q → p.1 = q.1 ∧ RepV w M β p.2 q.2)
  (h : (zaC T t parts).1) : RunTo P w M β (Instr.build t ⟨vparts⟩) (zaC T t parts).2 := by
 unfold zaC at h ⊢
 cases hd : (T t).desc with
 | struct fs =>
  rw [hd] at h
  simp only at h ⊢
  cases hf : fillD (fun i => (fs[i]?).map fun p => (p.1, (T p.2).size)) (T t).zero parts with
  | none => rw [hf] at h; exact h.elim
  | some ds =>
   rw [hf] at h
   simp only at h ⊢
   obtain ⟨z, hz1, hz2, hz3, _⟩ := z5Z (w := w) (M := M) hT (t := t) (by rw [hd]; simp)
   obtain ⟨gs, hu, hgs, hne⟩ := z0R hT hd
   obtain ⟨vs', h1, h2, _⟩ := z3s _ parts vparts _ ds _ hl hp (hz2.toC (β := β)) hf
   have hpl := z6s (w := w) hT gs.toList (fun f hf' => h (f.offset, f.type) (by rw [hgs]; exact List.mem_map.2 ⟨f, hf', rfl⟩))
   have hplace : (fun (i : Nat) => ((gs.toList.map fun f => (f.offset, (T f.type).size)).toArray)[i]?) = fun (i : Nat) => (fs[i]?).map fun (p : Nat × TypeId) => (p.1, (T p.2).size) := by
    funext i
    rw [hgs]
    simp [List.getElem?_map]
    cases gs[i]? <;> simp
   refine RunTo.pure (.agg ⟨vs'⟩) ?_ ⟨vs', rfl, h2⟩
   simp only [Instr.build, Sem.run_bind, hz1, Result.andThen_ok, run_underlying hu, Array.mapM_eq_mapM_toList]
   simp only [bind_pure_comp, Sem.run_map, hpl, Result.andThen_ok]
   rw [hplace]
   simp [h1]
 | array n e =>
  rw [hd] at h
  simp only at h ⊢
  cases hf : fillD (fun i => some (i * (T e).size, (T e).size)) (T t).zero parts with
  | none => rw [hf] at h; exact h.elim
  | some ds =>
   rw [hf] at h
   simp only at h ⊢
   obtain ⟨z, hz1, hz2, hz3, _⟩ := z5Z (w := w) (M := M) hT (t := t) (by rw [hd]; simp)
   obtain ⟨vs', h1, h2, _⟩ := z3s _ parts vparts _ ds _ hl hp (hz2.toC (β := β)) hf
   refine RunTo.pure (.agg ⟨vs'⟩) ?_ ⟨vs', rfl, h2⟩
   simp [Instr.build, hz1, run_underlying (z0T hT hd), z0b (w := w) hT h, h1]
 | _ => rw [hd] at h; exact h.elim
theorem z3x {α : Type} (sz : Nat) : ∀ (n : Nat) (l : List α) (i : Nat) (r : List α), (z1b sz n l)[i]? = some r → i < n ∧ r = (l.drop (i * sz)).take sz
 | 0, l, i, r, h => by simp [z1b] at h
 | n + 1, l, 0, r, h => by simp [z1b] at h; simp [← h]
 | n + 1, l, i + 1, r, h => by
  simp only [z1b, List.getElem?_cons_succ] at h
  obtain ⟨h1, h2⟩ := z3x sz n (l.drop sz) i r h
  refine ⟨by omega, ?_⟩
  rw [h2, List.drop_drop, Nat.succ_mul, Nat.add_comm sz]
theorem z11 {α : Type} (sz : Nat) : ∀ (n : Nat) (l : List α), (z1b sz n l).length = n
 | 0, _ => rfl
 | n + 1, l => by simp [z1b, z11 sz n]
def D.pure : D → Bool
 | .int .. | .bool _ | .str _ | .raw _ | .nil | .list _ | .full _ | .ref _ | .unk | .tab .. => true
 | .clo _ caps => caps.isEmpty
 | _ => false
theorem RepC.toD {d : D} {v : Value} (h : RepC w M β d v) (hp : d.pure = true) : RepD w M d v := by
 cases d with
 | clo f caps =>
  simp only [D.pure, List.isEmpty_iff] at hp
  subst hp
  obtain ⟨vs, rfl, hl, _⟩ := h
  have : vs = [] := List.eq_nil_of_length_eq_zero hl.symm
  subst this
  exact ⟨[], rfl, rfl⟩
 | _ => first | (simp [D.pure] at hp; done) | (simpa only [RepC, RepC0, RepD] using h)
theorem RepCL.toL : ∀ {ds : List D} {vs : List Value}, RepCL w M β ds vs → ds.all D.pure = true → RepL w M ds vs
 | [], [], _, _ => by simp [RepL]
 | [], v :: vs, h, _ => by have := h.1; simp at this
 | d :: ds, [], h, _ => by have := h.1; simp at this
 | d :: ds, v :: vs, h, hp => by
  simp only [List.all_cons, Bool.and_eq_true] at hp
  simp only [RepL]
  exact ⟨v, vs, rfl, (h.2 0 d v rfl rfl).toD hp.1, RepCL.toL ⟨by simpa using h.1, fun i e u he hu => h.2 (i + 1) e u (by simpa using he) (by simpa using hu)⟩ hp.2⟩
theorem RepRows.of_cells {ad : Addr} {sz n : Nat} {ds : List D} {vs : List Value} (hl : RepL w M ds vs) (hlen : vs.length = n * sz) (hr : reads w ad 0 vs) : RepRows w M ad sz 0 (z1b sz n ds) :=
 RepRows.of_get _ 0 fun i r hi => by
  obtain ⟨h1, rfl⟩ := z3x sz n ds i r hi
  refine ⟨(vs.drop (i * sz)).take sz, ?_, ?_, RepL.take _ _ sz (RepL.drop _ _ _ hl)⟩
  ·rw [List.length_take, List.length_drop, hlen]
   have : (i + 1) * sz ≤ n * sz := Nat.mul_le_mul_right sz h1
   rw [Nat.succ_mul] at this
   omega
  ·intro j u hu
   rw [List.getElem?_take] at hu
   split at hu
   ·rw [List.getElem?_drop] at hu
    rw [Nat.zero_add]
    have := hr (i * sz + j) u hu
    rwa [Nat.zero_add] at this
   ·cases hu
theorem z2z (z : Array Value) (n : Nat) (hz : z.size ≠ 0) : (Array.range (n * z.size)).map (fun i => z[i % z.size]!) = ⟨(List.replicate n z.toList).flatten⟩ := by
 apply Array.ext'
 simp only [Array.toList_map, Array.toList_range]
 induction n with
 | zero => simp
 | succ n ih =>
  rw [List.replicate_succ', List.flatten_append, ← ih, Nat.succ_mul, List.range_add, List.map_append]
  congr 1
  simp only [List.flatten_cons, List.flatten_nil, List.append_nil, List.map_map]
  apply List.ext_getElem
  ·simp
  ·intro i h1 h2
   have hi : i < z.size := by simpa using h2
   simp [Nat.mod_eq_of_lt hi, hi]
theorem RepCL.flatten_replicate {ds : List D} {vs : List Value} (h : RepCL w M β ds vs) : ∀ n, RepCL w M β (List.replicate n ds).flatten (List.replicate n vs).flatten
 | 0 => ⟨rfl, fun i d u hd => by simp at hd⟩
 | n + 1 => by
  simp only [List.replicate_succ, List.flatten_cons]
  have ih := RepCL.flatten_replicate h n
  refine ⟨by rw [List.length_append, List.length_append, h.1, ih.1], fun i d u hd hu => ?_⟩
  rw [List.getElem?_append] at hd hu
  rw [← h.1] at hu
  split at hd
  ·rename_i hi; rw [if_pos hi] at hu; exact h.2 i d u hd hu
  ·rename_i hi; rw [if_neg hi] at hu; exact ih.2 _ d u hd hu
theorem z1y (hT : TabOk P T) (t : TypeId) (len : Nat) (parts : List (Nat × AV)) (vparts : List (Nat × Value)) (hl : parts.length = vparts.length) (hp : ∀ (i : Nat) (p : Nat × AV) (q : Nat × Value), parts[i]? = some p → vparts[i]? = some q → p.1 = q.1 ∧ RepV w M β p.2 q.2)
  {e : TypeId} {sz : Nat} {rows : List (List D)} (h : z1f T t len parts = some (e, sz, rows)) :
  ∃ ds vs, (Instr.buildSlice t len ⟨vparts⟩).run P w = .ok (.slice (some ⟨w.heap.size, 0, none⟩) len len) (w.alloc (.cells ⟨vs⟩ e)) ∧ RepCL w M β ds vs ∧ rows = z1b sz len ds ∧ ds.length = len * sz ∧ 0 < sz ∧ len * sz ≤ 16777216 := by
 unfold z1f at h
 cases hd : (T t).desc with
 | slice e' =>
  rw [hd] at h
  simp only at h
  cases hf : fillD (fun i => some (i * (T e').size, (T e').size)) ((List.replicate len (T e').zero).flatten) parts with
  | none => rw [hf] at h; cases h
  | some ds =>
   rw [hf] at h
   simp only at h
   split at h
   ·rename_i hc
    obtain ⟨hk, hs0, hsmall⟩ := hc
    simp only [Option.some.injEq, Prod.mk.injEq] at h
    obtain ⟨rfl, rfl, rfl⟩ := h
    obtain ⟨z, hz1, hz2, hz3, hz4, hz5⟩ := z5Z (w := w) (M := M) hT hk
    obtain ⟨vs', h1, h2, h3⟩ := z3s _ parts vparts _ ds _ hl hp (RepCL.flatten_replicate (hz2.toC (β := β)) len) hf
    refine ⟨ds, vs', ?_, h2, rfl, ?_, hs0, hsmall⟩
    ·have hzz := z2z z.cells len (by rw [hz4]; omega)
     rw [hz4] at hzz
     by_cases hlen : len = 0
     ·subst hlen
      simp only [List.replicate_zero, List.flatten_nil] at h1
      have h0 : ∀ f : Nat → Value, (Array.range 0).map f = ⟨[]⟩ := fun f => by simp [Array.range]
      simp [Instr.buildSlice, run_underlying (z06 hT hd), z0b (w := w) hT hk, h0, h1, newRow]
     ·have hne : ¬ (len * (T e').size = 0) := by
       intro h0
       rcases Nat.mul_eq_zero.1 h0 with h0 | h0 <;> omega
      simp only [Instr.buildSlice, Sem.run_bind, run_underlying (z06 hT hd), Result.andThen_ok, z0b (w := w) hT hk]
      rw [if_neg (by omega), if_neg hne]
      simp only [Sem.run_bind, hz1, Result.andThen_ok, Sem.run_pure, hz4, hzz, h1, newRow, run_newObj_alloc]
    ·rw [h3]
     simp [hz5]
   ·cases h
 | _ => rw [hd] at h; cases h
end
end Go.Eng
namespace Go.Eng
open Go.RowKit
def AV.denil : AV → AV
 | .one .nil => .one (.list [])
 | v => v
def z2p (T : Tab) (t : TypeId) (len : Nat) (parts : List (Nat × AV)) : Prop × AV :=
 match z1f T t len parts with
 | some (_, _, []) => (True, .one .nil)
 | some (_, _, r :: rows) => (((r :: rows).all fun r => r.all D.pure) = true, .one (.list (r :: rows)))
 | none => (False, .one .unk)
def z6h (T : Tab) (op : BinOp) (t : TypeId) (xs ys : List D) : Prop × AV :=
 match (T t).desc, (T t).eqs, op with
 | .struct fs, true, .eql => (z0L T fs 0 xs ys = true, .one (.bool (eqRow xs ys)))
 | .struct fs, true, .neq => (z0L T fs 0 xs ys = true, .one (.bool (!eqRow xs ys)))
 | _, _, _ => (False, .one .unk)
def maxV (x y : AV) : Prop × AV :=
 match x, y with
 | .one (.int k a), .one (.int _ b) => (True, .one (.int k (max a b)))
 | _, _ => (False, .one .unk)
def minV (x y : AV) : Prop × AV :=
 match x, y with
 | .one (.int k a), .one (.int _ b) => (True, .one (.int k (min a b)))
 | _, _ => (False, .one .unk)
def nilV (H : List AObj) : AV → Prop × AV
 | .one (.vp t off) => match H[t]? with | some (.var _ _) => (True, .one (.vp t off)) | _ => (False, .one .unk)
 | .one (.rp t i sz sub) => match H[t]? with | some (.row _ _ _) => (True, .one (.rp t i sz sub)) | _ => (False, .one .unk)
 | .one (.ref r) => (True, .one (.ref r))
 | _ => (False, .one .unk)
def aval (T : Tab) (H : List AObj) (op : Op) (ev : Operand → AV) : Prop × AV :=
 match op with
 | .move x => (True, ev x)
 | .assign x => (True, ev x)
 | .binOp b t x y _ => match ev x, ev y with | .agg xs, .agg ys => z6h T b t xs ys | u, v => binV T b t u v
 | .unOp u _ x => unV u (ev x)
 | .fieldAddr t x f => z0h (T t) H f (ev x)
 | .indexAddr t x i => z0M T H t (ev x).denil (ev i)
 | .load t x => z29 T H t (ev x)
 | .index t x i => zaa T t (ev x) (ev i)
 | .field t x f => zak T t (ev x) f
 | .lookup t x k ok => z2G T H t (ev x) (ev k) ok
 | .extract x i => z3t (ev x) i
 | .slice t x lo hi mx => z6l T t (ev x).denil (lo.map ev) (hi.map ev) (mx.map ev)
 | .convert s d x => convV T H s d (ev x)
 | .nilCheck x => nilV H (ev x)
 | .makeFunc fn first caps => z6E fn (first.toList.map ev) (caps.toList.map ev)
 | .build t parts => zaC T t (parts.toList.map fun p => (p.1, ev p.2))
 | .buildSlice t len parts => z2p T t len (parts.toList.map fun p => (p.1, ev p.2))
 | .call c => match c.callee, c.args.toList, c.argTypes.toList with
  | .builtin .len, [x], [t] => lenV T H t (ev x).denil
  | .builtin .max, [x, y], _ => maxV (ev x) (ev y)
  | .builtin .min, [x, y], _ => minV (ev x) (ev y)
  | _, _, _ => (False, .one .unk)
 | _ => (False, .one .unk)
section
variable {P : Program} {T : Tab} {w : World} {M : Nat → Prop} {β : List Value}
theorem RepV.denil {x : AV} {v : Value} (h : RepV w M β x v) : RepV w M β x.denil v := by
 unfold AV.denil
 split
 ·obtain ⟨A, e0⟩ : ∃ A, v = .slice A 0 0 := h
  subst e0
  exact ⟨A, 0, rfl, Nat.le_refl _, Nat.zero_le _, .inl rfl⟩
 ·exact h
def NeutOk (P : Program) (w : World) (M : Nat → Prop) (β : List Value) (r : Result Next) (v : AV) : Prop := ∃ u w', r = .ok (.value u) w' ∧ Below w.heap.size w w' ∧ RepV w' M β v u
theorem NeutOk.of {s : Sem Value} {v : AV} (h : RunTo P w M β s v) {r : Result Next} (hr : r = (s.run P w).andThen fun u w' => .ok (.value u) w') : NeutOk P w M β r v := by
 obtain ⟨u, w', h1, h2, h3⟩ := h
 exact ⟨u, w', by rw [hr, h1]; rfl, h2, h3⟩
theorem optEv {ev : Operand → AV} {ρ : Operand → Value} {lo : Option Operand} (h : ∀ x, lo = some x → RepV w M β (ev x) (ρ x)) : (∀ a, lo.map ev = some a → ∃ v, lo.map ρ = some v ∧ RepV w M β a v) ∧ (lo.map ev = none → lo.map ρ = none) := by
 cases lo with
 | none => exact ⟨fun a h => by simp at h, fun _ => rfl⟩
 | some x => exact ⟨fun a ha => by simp at ha; subst ha; exact ⟨_, rfl, h x rfl⟩, fun h => by simp at h⟩
theorem z6z {ev : Operand → AV} {ρ : Operand → Value} {parts : Array (Nat × Operand)} (h : ∀ x ∈ parts.toList.map (·.2), RepV w M β (ev x) (ρ x)) :
  (parts.toList.map fun p => (p.1, ev p.2)).length = (parts.toList.map fun p => (p.1, ρ p.2)).length ∧
  ∀ (i : Nat) (p : Nat × AV) (q : Nat × Value), (parts.toList.map fun p => (p.1, ev p.2))[i]? = some p → (parts.toList.map fun p => (p.1, ρ p.2))[i]? = some q → p.1 = q.1 ∧ RepV w M β p.2 q.2 := by
 refine ⟨by simp, fun i p q hp hq => ?_⟩
 rw [List.getElem?_map] at hp hq
 cases hg : parts.toList[i]? with
 | none => rw [hg] at hp; cases hp
 | some x =>
  rw [hg] at hp hq
  simp at hp hq
  subst hp; subst hq
  exact ⟨rfl, h x.2 (List.mem_map.2 ⟨x, List.mem_of_getElem? hg, rfl⟩)⟩
theorem z1o (parts : Array (Nat × Operand)) (ρ : Operand → Value) : (parts.map fun p => (p.1, ρ p.2)) = ⟨parts.toList.map fun p => (p.1, ρ p.2)⟩ := by
 apply Array.ext'
 simp
theorem z60 (hT : TabOk P T) {t : TypeId} (h : (T t).desc ≠ .other) : ∃ z, (zeroValue t).run P w = .ok z w ∧ RepV w M β (T t).zeroV z := by
 obtain ⟨z, h1, h2, h3, h4, h5⟩ := z5Z (w := w) (M := M) hT h
 refine ⟨z, h1, ?_⟩
 unfold TyRow.zeroV
 cases hagg : (T t).isAgg with
 | true =>
  rw [hagg] at h3
  cases z <;> first | (cases h3; done) | skip
  rename_i cs
  exact ⟨cs.toList, rfl, RepL.toC h2⟩
 | false =>
  rw [hagg] at h3
  have hz : z.cells = #[z] := by cases z <;> first | (cases h3; done) | rfl
  rw [hz] at h2
  cases hzz : (T t).zero with
  | nil => rw [hzz] at h2; simp [RepL] at h2
  | cons d ds =>
   rw [hzz] at h2
   simp only [RepL] at h2
   obtain ⟨v, rest, he, hd, _⟩ := h2
   cases he
   exact hd.toC
theorem z7k (a b : List UInt8) : ((⟨⟨a⟩⟩ : ByteArray) == ⟨⟨b⟩⟩) = (a == b) := by
 rw [beq_toListBytes, ByteArray.toList_eq, ByteArray.toList_eq]
theorem z6t (hT : TabOk P T) {t : TypeId} {a b : D} {x y : Value} (hl : likeD a b (T t).desc = true) (hx : RepC w M β a x) (hy : RepC w M β b y) (d : Nat) : (Op.equalIn (d + 1) t x y).run P w = .ok (eqD a b) w := by
 cases a <;> cases b <;> first | (cases hl; done) | skip
 case int.int k z k' z' =>
  cases hd : (T t).desc <;> rw [hd] at hl <;> first | (cases hl; done) | skip
  simp only [likeD, Bool.and_eq_true, beq_iff_eq] at hl
  obtain ⟨rfl, rfl⟩ := hl
  have e1 : x = .int k z := hx
  have e2 : y = .int k z' := hy
  subst e1; subst e2
  simp [Op.equalIn, run_underlying (z0S hT hd), eqD]
 case bool.bool p q =>
  cases hd : (T t).desc <;> rw [hd] at hl <;> first | (cases hl; done) | skip
  have e1 : x = .bool p := hx
  have e2 : y = .bool q := hy
  subst e1; subst e2
  simp [Op.equalIn, run_underlying (z7I hT hd), eqD]
 case str.str p q =>
  cases hd : (T t).desc <;> rw [hd] at hl <;> first | (cases hl; done) | skip
  have e1 : x = .string ⟨⟨p⟩⟩ := hx
  have e2 : y = .string ⟨⟨q⟩⟩ := hy
  subst e1; subst e2
  simp [Op.equalIn, run_underlying (z0n hT hd), eqD, z7k]
theorem z5z (hT : TabOk P T) (dep : Nat) (xs ys : List Value) : ∀ (gs : List Field) (o : Nat) (as bs : List D), (∀ g ∈ gs, (g.name != "_") = true) → z0L T (gs.map fun f => (f.offset, f.type)) o as bs = true →
  RepCL w M β as (xs.drop o) → RepCL w M β bs (ys.drop o) → (Op.eqFields (dep + 1) ⟨xs⟩ ⟨ys⟩ gs).run P w = .ok (eqRow as bs) w
 | [], o, as, bs, _, h, _, _ => by
  cases as <;> cases bs <;> simp_all [z0L, Op.eqFields, eqRow]
 | g :: gs, o, [], bs, _, h, _, _ => by simp [z0L] at h
 | g :: gs, o, a :: as, [], _, h, _, _ => by simp [z0L] at h
 | g :: gs, o, a :: as, b :: bs, hn, h, hx, hy => by
  simp only [List.map_cons, z0L, Bool.and_eq_true, beq_iff_eq] at h
  obtain ⟨⟨rfl, hl⟩, hrest⟩ := h
  have hk : (T g.type).desc ≠ .other := by intro e; rw [e] at hl; cases a <;> cases b <;> cases hl
  have hna : (T g.type).isAgg = false := by
   unfold TyRow.isAgg
   cases hd : (T g.type).desc <;> first | rfl | (rw [hd] at hl; cases a <;> cases b <;> cases hl)
  have pa : ∀ (zs : List Value) (c : D) (cs : List D), RepCL w M β (c :: cs) (zs.drop g.offset) → ∃ v, (part g.type ⟨zs⟩ g.offset).run P w = .ok v w ∧ RepC w M β c v ∧ RepCL w M β cs (zs.drop (g.offset + 1)) := by
   intro zs c cs hz
   have hlen := hz.1
   have hlt : g.offset < zs.length := by simp at hlen; omega
   have hz0 : zs.drop g.offset = zs[g.offset] :: zs.drop (g.offset + 1) := List.drop_eq_getElem_cons hlt
   have ha := z1g (w := w) hT hk
   rw [hna] at ha
   refine ⟨zs[g.offset], by simp [part, ha, List.getElem?_eq_getElem hlt], hz.2 0 c _ rfl (by rw [hz0]; rfl), ?_⟩
   have := hz.drop 1
   simpa [Nat.add_comm] using this
  obtain ⟨v, p1, p2, p3⟩ := pa xs a as hx
  obtain ⟨u, q1, q2, q3⟩ := pa ys b bs hy
  have hname : g.name ≠ "_" := by simpa using hn g (by simp)
  have he := z6t hT hl p2 q2 dep
  have ih := z5z hT dep xs ys gs (g.offset + 1) as bs (fun g' hg' => hn g' (by simp [hg'])) hrest p3 q3
  simp only [Op.eqFields]
  rw [if_pos hname]
  simp only [Sem.run_bind, p1, q1, he, Result.andThen_ok, eqRow]
  cases hab : eqD a b with
  | true => simpa using ih
  | false => simp
theorem z2T (hT : TabOk P T) {t : TypeId} {fs : List (Nat × TypeId)} {xs ys : List D} {us vs : List Value} (hd : (T t).desc = .struct fs) (he : (T t).eqs = true) (hp : z0L T fs 0 xs ys = true) (hu : RepCL w M β xs us) (hv : RepCL w M β ys vs) :
  P.eqGuardType P.depth t = false ∧ (Op.equal t (.agg ⟨us⟩) (.agg ⟨vs⟩)).run P w = .ok (eqRow xs ys) w := by
 obtain ⟨gs, hug, hgs, _⟩ := z0R hT hd
 have hq := (hT t).eqs
 unfold eqsOk at hq
 rw [he, hug] at hq
 simp only [Bool.not_true, Bool.false_or, Bool.and_eq_true, beq_iff_eq, List.all_eq_true] at hq
 have hf : P.fieldsOf t = gs := by simp [Program.fieldsOf, hug]
 have key : ∀ d, (Op.equalIn (d + 2) t (.agg ⟨us⟩) (.agg ⟨vs⟩)).run P w = .ok (eqRow xs ys) w := fun d => by
  rw [run_equalIn_struct w (d + 1) t ⟨us⟩ ⟨vs⟩ (by rw [hf]; exact hug) hq.1.1, hf]
  exact z5z hT d us vs gs.toList 0 xs ys (fun g hg => hq.2 g hg) (by rw [← hgs]; exact hp) (by simpa using hu) (by simpa using hv)
 exact ⟨hq.1.2, key 9998⟩
theorem zc9 (hT : TabOk P T) {q : TypeId} {k : IntKind} (h : (T q).desc = .int k) : (T q).size = 1 := by
 obtain ⟨i, z, _, _, _, _, h1, h2, h3⟩ := (hT q).info (by rw [h]; simp)
 have hna : (T q).isAgg = false := by unfold TyRow.isAgg; rw [h]
 rw [hna] at h2
 have hz : z.cells.toList.length = 1 := by cases z <;> first | rfl | cases h2
 simp only [z2l, Bool.and_eq_true, beq_iff_eq] at h1
 omega
theorem z6X (hT : TabOk P T) {t q : TypeId} (h1 : (T t).desc = .array 2 q) (h2 : (T q).desc = .int .i64) (a b c d : Int) :
  (Op.equal t (.agg ⟨[.int .i64 a, .int .i64 b]⟩) (.agg ⟨[.int .i64 c, .int .i64 d]⟩)).run P w = .ok (eqKey (.agg [.int .i64 a, .int .i64 b]) (.agg [.int .i64 c, .int .i64 d])) w := by
 have hk : (T q).desc ≠ .other := by rw [h2]; simp
 have ha := z1g (P := P) (w := w) hT hk
 have hsz := z0b (P := P) (w := w) hT hk
 have hna : (T q).isAgg = false := by unfold TyRow.isAgg; rw [h2]
 rw [hna] at ha
 rw [zc9 hT h2] at hsz
 have hc : ∀ (n : Nat) (x y : Int), (Op.equalIn (n + 1) q (.int .i64 x) (.int .i64 y)).run P w = .ok (x == y) w := fun n x y => by simp [Op.equalIn, run_underlying (z0S hT h2)]
 have key : ∀ n, (Op.equalIn (n + 2) t (.agg ⟨[.int .i64 a, .int .i64 b]⟩) (.agg ⟨[.int .i64 c, .int .i64 d]⟩)).run P w = .ok (a == c && b == d) w := fun n => by
  rw [Op.equalIn]
  simp only [Sem.run_bind, run_underlying (z0T hT h1), Result.andThen_ok, hsz]
  by_cases e1 : a = c <;> by_cases e2 : b = d <;> simp [Std.Legacy.Range.forIn_eq_forIn_range', Std.Legacy.Range.size, List.range', part, ha, hc, e1, e2]
 exact key 9998
inductive IsKey : KeyKind → AV → Prop
 | str (s : List UInt8) : IsKey .str (.one (.str s))
 | int (k : IntKind) (z : Int) : IsKey (.int k) (.one (.int k z))
 | pair (q : TypeId) (a b : Int) : IsKey (.pair q) (.agg [.int .i64 a, .int .i64 b])
theorem z1k {kd : KeyKind} {k : AV} (h : z0c kd k = true) : IsKey kd k := by
 unfold z0c at h
 split at h
 ·exact .str _
 ·rw [beq_iff_eq] at h; subst h; exact .int _ _
 ·exact .pair _ _ _
 ·cases h
theorem z1M {a b : Int} {v : Value} (h : RepV w M β (.agg [.int .i64 a, .int .i64 b]) v) : v = .agg ⟨[.int .i64 a, .int .i64 b]⟩ := by
 obtain ⟨vs, rfl, hl, hc⟩ := h
 match vs, hl with
 | [x, y], _ =>
  have h1 : x = .int .i64 a := hc 0 (.int .i64 a) x rfl rfl
  have h2 : y = .int .i64 b := hc 1 (.int .i64 b) y rfl rfl
  rw [h1, h2]
theorem IsKey.val {kd : KeyKind} {k : AV} (h : IsKey kd k) {x y : Value} (hx : RepV w M β k x) (hy : RepV w M β k y) : x = y := by
 cases h with
 | str s => rw [z0k hx, z0k hy]
 | int q z => rw [z03 hx, z03 hy]
 | pair q a b => rw [z1M hx, z1M hy]
theorem zhu {kd : KeyKind} {k k' : AV} (h : IsKey kd k) (h' : IsKey kd k') (he : eqKey k k' = true) : k = k' := by
 cases h with
 | str s => cases h' with | str s' => simp only [eqKey, beq_iff_eq] at he; rw [he]
 | int q z => cases h' with | int q' z' => simp only [eqKey, beq_iff_eq] at he; rw [he]
 | pair q a b => cases h' with | pair q' c d => simp only [eqKey, Bool.and_eq_true, beq_iff_eq] at he; rw [he.1, he.2]
theorem z6I (hT : TabOk P T) {t : TypeId} {kd : KeyKind} (ht : keyOk T t kd) {k k' : AV} {x x' : Value} (h : IsKey kd k) (h' : IsKey kd k') (hr : RepV w M β k x) (hr' : RepV w M β k' x') :
  (∀ tt, P.underlying t = some tt → (∃ q, kd = .pair q) ∨ Instr.sameNow tt x x' = some (eqKey k k')) ∧ ((∃ q, kd = .pair q) → (∀ tt, P.underlying t = some tt → Instr.sameNow tt x x' = none) ∧ (Op.equal t x x').run P w = .ok (eqKey k k') w) := by
 cases h with
 | str s =>
  cases h' with
  | str s' =>
   rw [z0k hr, z0k hr']
   refine ⟨fun tt htt => .inr ?_, fun ⟨q, hq⟩ => by cases hq⟩
   rw [z0n hT ht] at htt
   cases htt
   simp only [Instr.sameNow, eqKey, z7k]
 | int q z =>
  cases h' with
  | int q' z' =>
   rw [z03 hr, z03 hr']
   refine ⟨fun tt htt => .inr ?_, fun ⟨q, hq⟩ => by cases hq⟩
   rw [z0S hT ht] at htt
   cases htt
   simp [Instr.sameNow, eqKey]
 | pair q a b =>
  cases h' with
  | pair q' c d =>
   obtain ⟨h1, h2⟩ := ht
   refine ⟨fun tt _ => .inl ⟨_, rfl⟩, fun _ => ⟨fun tt htt => ?_, ?_⟩⟩
   ·rw [z1M hr, z1M hr']
    rcases h1 with ⟨h1, _⟩ | h1
    ·obtain ⟨gs, hug, _⟩ := z0R hT h1
     rw [hug] at htt
     cases htt
     rfl
    ·rw [z0T hT h1] at htt
     cases htt
     rfl
   ·rcases h1 with ⟨h1, h3⟩ | h1
    ·obtain ⟨us, rfl, hu⟩ := hr
     obtain ⟨vs, rfl, hv⟩ := hr'
     have := (z2T (w := w) (M := M) (β := β) (us := us) (vs := vs) hT h1 h3 (by simp [z0L, likeD, h2]) hu hv).2
     rw [this]
     simp [eqRow, eqD, eqKey]
    ·rw [z1M hr, z1M hr']
     have hk : (T q).desc ≠ .other := by rw [h2]; simp
     exact z6X hT h1 h2 a b c d
theorem z1O (hT : TabOk P T) {t : TypeId} {kd : KeyKind} (ht : keyOk T t kd) {k : AV} {x : Value} (h : z0c kd k = true) (hr : RepV w M β k x) (kvs : List (AV × AV)) (es : List MapEntry) (hp : ∀ kv ∈ kvs, z0c kd kv.1 = true) (hl : kvs.length = es.length)
  (hrep : ∀ (j : Nat) (kv : AV × AV) (e : MapEntry), kvs[j]? = some kv → es[j]? = some e → RepV w M β kv.1 e.key ∧ RepV w M β kv.2 e.val) :
  (z0q k kvs = none ∧ (Instr.findKey t x es).run P w = .ok none w ∧ ∀ v, setKV k v kvs = kvs ++ [(k, v)]) ∨
  (∃ (j : Nat) (v : AV) (e : MapEntry), z0q k kvs = some v ∧ (Instr.findKey t x es).run P w = .ok (some (j, e.val)) w ∧ es[j]? = some e ∧ j < kvs.length ∧ RepV w M β v e.val ∧ RepV w M β k e.key ∧ ∀ v', setKV k v' kvs = kvs.set j (k, v')) := by
 obtain ⟨tt, hu⟩ : ∃ tt, P.underlying t = some tt := by
  cases kd with
  | str => exact ⟨_, z0n hT ht⟩
  | int k => exact ⟨_, z0S hT ht⟩
  | pair q =>
   rcases ht.1 with ⟨h1, _⟩ | h1
   ·obtain ⟨gs, hug, _⟩ := z0R hT h1; exact ⟨_, hug⟩
   ·exact ⟨_, z0T hT h1⟩
 have key : ∀ (kvs : List (AV × AV)) (es : List MapEntry) (i : Nat), (∀ kv ∈ kvs, z0c kd kv.1 = true) → kvs.length = es.length →
   (∀ (j : Nat) (kv : AV × AV) (e : MapEntry), kvs[j]? = some kv → es[j]? = some e → RepV w M β kv.1 e.key ∧ RepV w M β kv.2 e.val) →
   (z0q k kvs = none ∧ (∀ v, setKV k v kvs = kvs ++ [(k, v)]) ∧ ((∀ q, kd ≠ .pair q) → Instr.findNow tt x es i = some none) ∧ ((∃ q, kd = .pair q) → (Instr.findAsking t x es i).run P w = .ok none w)) ∨
   (∃ (j : Nat) (v : AV) (e : MapEntry), z0q k kvs = some v ∧ es[j]? = some e ∧ j < kvs.length ∧ RepV w M β v e.val ∧ RepV w M β k e.key ∧ (∀ v', setKV k v' kvs = kvs.set j (k, v')) ∧
    ((∀ q, kd ≠ .pair q) → Instr.findNow tt x es i = some (some (i + j, e.val))) ∧ ((∃ q, kd = .pair q) → (Instr.findAsking t x es i).run P w = .ok (some (i + j, e.val)) w)) := by
  intro kvs
  induction kvs with
  | nil =>
   intro es i _ hl _
   cases es with
   | nil => exact .inl ⟨rfl, fun _ => rfl, fun _ => rfl, fun _ => by simp [Instr.findAsking]⟩
   | cons e es => simp at hl
  | cons kv kvs ih =>
   intro es i hp hl hrep
   cases es with
   | nil => simp at hl
   | cons e es =>
    have hkv := hrep 0 kv e rfl rfl
    have hk1 := z1k h
    have hk2 := z1k (hp kv (by simp))
    obtain ⟨q1, q2⟩ := z6I (w := w) (M := M) (β := β) hT ht hk1 hk2 hr hkv.1
    cases heq : eqKey k kv.1 with
    | true =>
     have hkk := zhu hk1 hk2 heq
     refine .inr ⟨0, kv.2, e, by simp [z0q, heq], rfl, by simp, hkv.2, by rw [hkk]; exact hkv.1, fun v' => by simp [setKV, heq], fun hnp => ?_, fun hpp => ?_⟩
     ·rcases q1 tt hu with ⟨q, hq⟩ | hs
      ·exact absurd hq (hnp q)
      ·simp [Instr.findNow, hs, heq]
     ·simp [Instr.findAsking, (q2 hpp).2, heq]
    | false =>
     rcases ih es (i + 1) (fun kv hkv => hp kv (by simp [hkv])) (by simpa using hl) (fun j kv e a b => hrep (j + 1) kv e (by simpa using a) (by simpa using b)) with ⟨a1, a3, a4, a5⟩ | ⟨j, v, e', a1, a3, a4, a5, a6, a7, a8, a9⟩
     ·refine .inl ⟨by simp [z0q, heq, a1], fun v => by simp [setKV, heq, a3 v], fun hnp => ?_, fun hpp => ?_⟩
      ·rcases q1 tt hu with ⟨q, hq⟩ | hs
       ·exact absurd hq (hnp q)
       ·simp [Instr.findNow, hs, heq, a4 hnp]
      ·simp [Instr.findAsking, (q2 hpp).2, heq, a5 hpp]
     ·refine .inr ⟨j + 1, v, e', by simp [z0q, heq, a1], by simpa using a3, by simpa using a4, a5, a6, fun v' => by simp [setKV, heq, a7 v'], fun hnp => ?_, fun hpp => ?_⟩
      ·rcases q1 tt hu with ⟨q, hq⟩ | hs
       ·exact absurd hq (hnp q)
       ·simp [Instr.findNow, hs, heq, a8 hnp]; omega
      ·simp [Instr.findAsking, (q2 hpp).2, heq, a9 hpp]; omega
 have none1 : (∃ q, kd = .pair q) → ∀ (e : MapEntry) (es' : List MapEntry) (kv : AV × AV), IsKey kd kv.1 → RepV w M β kv.1 e.key → Instr.findNow tt x (e :: es') 0 = none := fun hpp e es' kv hk hre => by
  have := ((z6I (w := w) (M := M) (β := β) hT ht (z1k h) hk hr hre).2 hpp).1 tt hu
  simp [Instr.findNow, this]
 have run : ∀ r, ((∀ q, kd ≠ .pair q) → Instr.findNow tt x es 0 = some r) → ((∃ q, kd = .pair q) → (Instr.findAsking t x es 0).run P w = .ok r w) → (Instr.findKey t x es).run P w = .ok r w := fun r h1 h2 => by
  by_cases hpp : ∃ q, kd = .pair q
  ·cases es with
   | nil =>
    have := h2 hpp
    simp [Instr.findAsking] at this
    subst this
    simp [Instr.findKey, run_underlying hu, Instr.findNow]
   | cons e es' =>
    cases kvs with
    | nil => simp at hl
    | cons kv kvs' =>
     have hn := none1 hpp e es' kv (z1k (hp kv (by simp))) (hrep 0 kv e rfl rfl).1
     simp [Instr.findKey, run_underlying hu, hn, h2 hpp]
  ·have := h1 fun q hq => hpp ⟨q, hq⟩
   simp [Instr.findKey, run_underlying hu, this]
 rcases key kvs es 0 hp hl hrep with ⟨a1, a3, a4, a5⟩ | ⟨j, v, e, a1, a3, a4, a5, a6, a7, a8, a9⟩
 ·exact .inl ⟨a1, run none a4 a5, a3⟩
 ·simp only [Nat.zero_add] at a8 a9
  exact .inr ⟨j, v, e, a1, run _ a8 a9, a3, a4, a5, a6, a7⟩
theorem z1x (hT : TabOk P T) {t : TypeId} {kd : KeyKind} (h : keyOk T t kd) {k : AV} {x : Value} (hp : z0c kd k = true) (hr : RepV w M β k x) (e : Bool) (n : Nat) : (Instr.checkKey e (n + 2) t x).run P w = .ok () w := by
 cases z1k hp with
 | str s =>
  rw [z0k hr]
  simp [Instr.checkKey, run_underlying (z0n hT h)]
 | int q z =>
  rw [z03 hr]
  simp [Instr.checkKey, run_underlying (z0S hT h)]
 | pair q a b =>
  obtain ⟨h1, h2⟩ := h
  rw [z1M hr]
  rcases h1 with ⟨h1, h3⟩ | h1
  rotate_left
  ·have hk : (T q).desc ≠ .other := by rw [h2]; simp
   have ha := z1g (P := P) (w := w) hT hk
   have hsz := z0b (P := P) (w := w) hT hk
   have hna : (T q).isAgg = false := by unfold TyRow.isAgg; rw [h2]
   rw [hna] at ha
   have h1s : (T q).size = 1 := zc9 hT h2
   rw [h1s] at hsz
   have hc : ∀ z : Int, (Instr.checkKey e (n + 1) q (.int .i64 z)).run P w = .ok () w := fun z => by simp [Instr.checkKey, run_underlying (z0S hT h2)]
   rw [Instr.checkKey]
   simp only [Sem.run_bind, run_underlying (z0T hT h1), Result.andThen_ok]
   simp [Std.Legacy.Range.forIn_eq_forIn_range', Std.Legacy.Range.size, List.range', hsz, part, ha, hc]
  obtain ⟨gs, hug, hgs, _⟩ := z0R hT h1
  have hq := (hT t).eqs
  unfold eqsOk at hq
  rw [h3, hug] at hq
  simp only [Bool.not_true, Bool.false_or, Bool.and_eq_true, beq_iff_eq, List.all_eq_true] at hq
  obtain ⟨g1, g2, hL⟩ : ∃ g1 g2, gs.toList = [g1, g2] := by
   have hlen := congrArg List.length hgs
   simp at hlen
   match hg : gs.toList with
   | [g1, g2] => exact ⟨g1, g2, rfl⟩
   | [] => rw [hg] at hgs; simp at hgs
   | [g1] => rw [hg] at hgs; simp at hgs
   | _ :: _ :: _ :: _ => rw [hg] at hgs; simp at hgs
  rw [hL] at hgs
  simp only [List.map_cons, List.map_nil, List.cons.injEq, Prod.mk.injEq, and_true] at hgs
  obtain ⟨⟨o1, t1⟩, ⟨o2, t2⟩⟩ := hgs
  have n1 : g1.name ≠ "_" := by simpa using hq.2 g1 (by rw [hL]; simp)
  have n2 : g2.name ≠ "_" := by simpa using hq.2 g2 (by rw [hL]; simp)
  have hk : (T q).desc ≠ .other := by rw [h2]; simp
  have ha := z1g (P := P) (w := w) hT hk
  have hna : (T q).isAgg = false := by unfold TyRow.isAgg; rw [h2]
  rw [hna] at ha
  have hc : ∀ z : Int, (Instr.checkKey e (n + 1) q (.int .i64 z)).run P w = .ok () w := fun z => by simp [Instr.checkKey, run_underlying (z0S hT h2)]
  rw [Instr.checkKey]
  simp only [Sem.run_bind, run_underlying hug, Result.andThen_ok]
  rw [← Array.forIn_toList, hL]
  simp [n1, n2, ← o1, ← o2, ← t1, ← t2, part, ha, hc]
theorem z8V (hT : TabOk P T) {H : List AObj} (hobj : ∀ (t : Nat) (o : AObj) (h : Value), H[t]? = some o → β[t]? = some h → ObjRep w M β o h) (t : TypeId) (x k : AV) (ok : Bool) (v u : Value) (hv : RepV w M β x v) (hu : RepV w M β k u) (h : (z2G T H t x k ok).1) :
  RunTo P w M β (Instr.lookup t v u ok) (z2G T H t x k ok).2 := by
 unfold z2G at h ⊢
 split
 ·rename_i kt et o hd
  simp only [hd] at h
  cases hH : H[o]? with
  | none => rw [hH] at h; exact h.elim
  | some ob =>
   rw [hH] at h
   cases ob with
   | map kd kvs =>
    simp only at h ⊢
    obtain ⟨h1, h2, h3⟩ := h
    obtain ⟨g, hβ, rfl⟩ := z8P hv fun y hy => hobj o _ y hH hy
    obtain ⟨hp, g', es, clk, he, hg, hlen, hrep⟩ := hobj o _ _ hH hβ
    cases he
    obtain ⟨z, hz1, hz2⟩ := z60 (w := w) (M := M) (β := β) hT h3
    have hck := z1x (w := w) hT h1 h2 hu es.isEmpty 9998
    have hrun : ∀ (r : Option (Nat × Value)), (Instr.findKey kt u es.toList).run P w = .ok r w → (Instr.lookup t (.map (some g)) u ok).run P w = .ok (if ok then .tuple #[(r.map (·.2)).getD z, .bool r.isSome] else (r.map (·.2)).getD z) w := by
     intro r hr
     simp only [Instr.lookup, Sem.run_bind, run_underlying (z2m hT hd), Result.andThen_ok, MapKept.run_getObj_map hg, Sem.run_pure, hck, hr]
     cases r with
     | none => cases ok <;> simp [hz1]
     | some p => cases ok <;> simp
    rcases z1O (w := w) hT h1 h2 hu kvs es.toList hp (by simpa using hlen) (fun j kv e a b => hrep j kv e a (by simpa using b)) with ⟨a1, a2, _⟩ | ⟨j, y, e, a1, a2, a3, a4, a5, _⟩
    ·have := hrun none a2
     refine RunTo.pure _ this ?_
     rw [a1]
     cases ok with
     | false => simpa using hz2
     | true => exact ⟨[_, _], rfl, _, _, rfl, hz2, _, _, rfl, rfl, rfl⟩
    ·have := hrun _ a2
     refine RunTo.pure _ this ?_
     rw [a1]
     cases ok with
     | false => simpa using a5
     | true => exact ⟨[_, _], rfl, _, _, rfl, a5, _, _, rfl, rfl, rfl⟩
   | _ => exact h.elim
 ·rename_i kt et kd ks hd
  simp only [hd] at h
  obtain ⟨h1, h2, h3⟩ := h
  obtain ⟨g, es, clk, rfl, hgl, hgm, hg, hks, hlen0, hrep0⟩ := hv
  have hp : ∀ kv ∈ tabV ks, z0c kd kv.1 = true := fun kv hkv => by
   obtain ⟨p, hp, rfl⟩ := List.mem_map.1 hkv
   have := hks p hp
   obtain ⟨tk, tv⟩ := p
   cases tk <;> cases kd <;> first | rfl | exact this | (simp [TKey.ok] at this)
  have hlen : (tabV ks).length = es.size := by simpa [tabV] using hlen0
  have hrep : ∀ (i : Nat) (kv : AV × AV) (e : MapEntry), (tabV ks)[i]? = some kv → es[i]? = some e → RepV w M β kv.1 e.key ∧ RepV w M β kv.2 e.val := fun i kv e a b => by
   simp only [tabV, List.getElem?_map, Option.map_eq_some_iff] at a
   obtain ⟨p, q1, rfl⟩ := a
   obtain ⟨r1, r2⟩ := hrep0 i p e q1 b
   obtain ⟨tk, tv⟩ := p
   rw [r1, r2]
   refine ⟨?_, ?_⟩
   ·cases tk with
    | str s => rfl
    | int k z => rfl
    | pair a b => exact ⟨[.int .i64 a, .int .i64 b], rfl, rfl, fun i d u hd hu => by
      match i with
      | 0 => cases hd; cases hu; rfl
      | 1 => cases hd; cases hu; rfl
      | n + 2 => simp at hd⟩
   ·cases tv <;> rfl
  obtain ⟨z, hz1, hz2⟩ := z60 (w := w) (M := M) (β := β) hT h3
  have hck := z1x (w := w) hT h1 h2 hu es.isEmpty 9998
  have hrun : ∀ (r : Option (Nat × Value)), (Instr.findKey kt u es.toList).run P w = .ok r w → (Instr.lookup t (.map (some g)) u ok).run P w = .ok (if ok then .tuple #[(r.map (·.2)).getD z, .bool r.isSome] else (r.map (·.2)).getD z) w := by
   intro r hr
   simp only [Instr.lookup, Sem.run_bind, run_underlying (z2m hT hd), Result.andThen_ok, MapKept.run_getObj_map hg, Sem.run_pure, hck, hr]
   cases r with
   | none => cases ok <;> simp [hz1]
   | some p => cases ok <;> simp
  rcases z1O (w := w) hT h1 h2 hu (tabV ks) es.toList hp (by simpa using hlen) (fun j kv e a b => hrep j kv e a (by simpa using b)) with ⟨a1, a2, _⟩ | ⟨j, y, e, a1, a2, a3, a4, a5, _⟩
  ·have := hrun none a2
   refine RunTo.pure _ this ?_
   rw [a1]
   cases ok with
   | false => simpa using hz2
   | true => exact ⟨[_, _], rfl, _, _, rfl, hz2, _, _, rfl, rfl, rfl⟩
  ·have := hrun _ a2
   refine RunTo.pure _ this ?_
   rw [a1]
   cases ok with
   | false => simpa using a5
   | true => exact ⟨[_, _], rfl, _, _, rfl, a5, _, _, rfl, rfl, rfl⟩
 ·exact (by simp_all : False).elim
theorem z4E {α γ δ : Type} (r : Result α) (f : α → World → Result γ) (g : γ → World → Result δ) : (r.andThen f).andThen g = r.andThen fun a w => (f a w).andThen g := by cases r <;> rfl
theorem zbl {w' : World} (hb : Below w.heap.size w w') (M : Nat → Prop) : Keeps w M w' M := ⟨hb.size, fun g hg _ => hb.block g hg, fun _ _ h => h⟩
theorem z8w (hT : TabOk P T) (op : BinOp) (t : TypeId) (x y : Operand) (xs ys : List D) (a b : Value) (ha : RepV w M β (.agg xs) a) (hb : RepV w M β (.agg ys) b) (h : (z6h T op t xs ys).1) :
  RunTo P w M β (do eqGuard op t x y a b; binOp op t a b) (z6h T op t xs ys).2 := by
 obtain ⟨us, rfl, hu⟩ := ha
 obtain ⟨vs, rfl, hv⟩ := hb
 have main : ∀ fs, (T t).desc = .struct fs → (T t).eqs = true → z0L T fs 0 xs ys = true → P.eqGuardType P.depth t = false ∧ (Op.equal t (.agg ⟨us⟩) (.agg ⟨vs⟩)).run P w = .ok (eqRow xs ys) w := fun fs h1 h2 h3 => z2T hT h1 h2 h3 hu hv
 unfold z6h at h ⊢
 split
 ·rename_i fs hd he
  simp only [hd, he] at h
  obtain ⟨h1, h2⟩ := main fs hd he h
  exact RunTo.pure _ (by simp [eqGuard, binOp, h1, h2] <;> rfl) z0O
 ·rename_i fs hd he
  simp only [hd, he] at h
  obtain ⟨h1, h2⟩ := main fs hd he h
  exact RunTo.pure _ (by simp [eqGuard, binOp, h1, h2] <;> rfl) z0O
 ·exact (by simp_all : False).elim
theorem zdy {t : Array TypeId} {ty : TypeId} {x y : AV} {a b : Value} (ha : RepV w M β x a) (hb : RepV w M β y b) (h : (maxV x y).1) : RunTo P w M β (Builtin.max_ t ty #[a, b]) (maxV x y).2 := by
 unfold maxV at h ⊢
 split
 ·rename_i k p k' q
  rw [z03 ha, z03 hb]
  refine RunTo.pure (.int k (max p q)) ?_ z0F
  have e : (if p < q then q else p) = max p q := by omega
  simp [Builtin.max_, Builtin.max2, e]
 ·exact (by simp_all : False).elim
theorem zdx {t : Array TypeId} {ty : TypeId} {x y : AV} {a b : Value} (ha : RepV w M β x a) (hb : RepV w M β y b) (h : (minV x y).1) : RunTo P w M β (Builtin.min_ t ty #[a, b]) (minV x y).2 := by
 unfold minV at h ⊢
 split
 ·rename_i k p k' q
  rw [z03 ha, z03 hb]
  refine RunTo.pure (.int k (min p q)) ?_ z0F
  have e : (if q < p then q else p) = min p q := by omega
  simp [Builtin.min_, Builtin.min2, e]
 ·exact (by simp_all : False).elim
theorem ze2 (hT : TabOk P T) (hM : ∀ g, M g → g < w.heap.size) {H : List AObj} (hlen : β.length = H.length) (hobj : ∀ (t : Nat) (o : AObj) (h : Value), H[t]? = some o → β[t]? = some h → ObjRep w M β o h) (o : Oper) (ev : Operand → AV) (ρ : Operand → Value)
  (hev : ∀ x ∈ o.op.operands.toList, RepV w M β (ev x) (ρ x)) (h : (aval T H o.op ev).1) : NeutOk P w M β ((execOp ρ o).run P w) (aval T H o.op ev).2 := by
 obtain ⟨dst, op, ty, pos, after, guard⟩ := o
 cases op <;> simp only [aval, Op.operands] at h hev ⊢ <;> try (exact h.elim)
 case move x => exact ⟨ρ x, w, rfl, Below.refl _ _, hev x (by simp)⟩
 case assign x => exact ⟨ρ x, w, rfl, Below.refl _ _, hev x (by simp)⟩
 case binOp b t x y t' =>
  have hx := hev x (by simp)
  have hy := hev y (by simp)
  split
  ·rename_i xs ys hex hey
   rw [hex] at hx
   rw [hey] at hy
   simp only [hex, hey] at h
   exact NeutOk.of (z8w hT b t x y _ _ _ _ hx hy h) (by simp [execOp, z4E])
  ·rename_i hne
   have h' : (binV T b t (ev x) (ev y)).1 := by
    split at h
    ·rename_i xs ys hex hey; exact absurd hey (hne xs ys hex)
    ·exact h
   exact NeutOk.of (ze0 hT b t x y _ _ _ _ hx hy h') (by simp [execOp, z4E])
 case unOp u t x => exact NeutOk.of (zel u _ _ (hev x (by simp)) h) (by simp [execOp])
 case fieldAddr t x f => exact NeutOk.of (z5G hT hobj t f _ _ (hev x (by simp)) h) (by simp [execOp])
 case indexAddr t x i => exact NeutOk.of (z5F hT hobj t _ _ _ _ (hev x (by simp)).denil (hev i (by simp)) h) (by simp [execOp])
 case load t x => exact NeutOk.of (z4p hT hlen hobj t _ _ (hev x (by simp)) h).to (by simp [execOp])
 case index t x i => exact NeutOk.of (za9 hT t _ _ _ _ (hev x (by simp)) (hev i (by simp)) h) (by simp [execOp])
 case lookup t x k ok => exact NeutOk.of (z8V hT hobj t _ _ ok _ _ (hev x (by simp)) (hev k (by simp)) h) (by simp [execOp])
 case field t x f => exact NeutOk.of (zaj hT t _ f _ (hev x (by simp)) h) (by simp [execOp])
 case extract x i => exact NeutOk.of (z7C _ i _ (hev x (by simp)) h) (by simp [execOp])
 case nilCheck x =>
  have hx := hev x (by simp)
  unfold nilV at h ⊢
  split at h
  ·rename_i t off hex
   rw [hex] at hx
   split at h
   ·rename_i e cs hH
    obtain ⟨g, _, hv⟩ := z2A (t := t) (off := off) (e := e) (cs := cs) hx (fun y hy => hobj t _ y hH hy)
    simp only [hex, hH]
    refine ⟨ρ x, w, ?_, Below.refl _ _, hx⟩
    simp [execOp, hv]
   ·exact h.elim
  ·rename_i t i sz sub hex
   rw [hex] at hx
   split at h
   ·rename_i e sz' rows hH
    obtain ⟨g, n, c, _, hv⟩ := z4O (t := t) (i := i) (sz := sz) (sub := sub) (e := e) (sz' := sz') (rows := rows) hx (fun y hy => hobj t _ y hH hy)
    simp only [hex, hH]
    refine ⟨ρ x, w, ?_, Below.refl _ _, hx⟩
    simp [execOp, hv]
   ·exact h.elim
  ·rename_i r hex
   rw [hex] at hx
   have hx2 := hx
   obtain ⟨ad, hv, _⟩ : ∃ ad, ρ x = .pointer (some ad) ∧ _ := hx2
   simp only [hex]
   refine ⟨ρ x, w, ?_, Below.refl _ _, hx⟩
   simp [execOp, hv]
  ·exact h.elim
 case convert s d x => exact NeutOk.of (zby hT hobj s d _ _ (hev x (by simp)) h) (by simp [execOp])
 case slice t x lo hi mx =>
  obtain ⟨l1, l2⟩ := optEv (w := w) (M := M) (β := β) (ev := ev) (ρ := ρ) (lo := lo) (fun x hx => hev x (by simp [hx]))
  obtain ⟨h1, h2⟩ := optEv (w := w) (M := M) (β := β) (ev := ev) (ρ := ρ) (lo := hi) (fun x hx => hev x (by simp [hx]))
  obtain ⟨m1, m2⟩ := optEv (w := w) (M := M) (β := β) (ev := ev) (ρ := ρ) (lo := mx) (fun x hx => hev x (by simp [hx]))
  exact NeutOk.of (z9z hT t _ _ _ (mx.map ev) _ _ _ (mx.map ρ) (hev x (by simp)).denil l1 l2 h1 h2 (fun hm => by cases mx with | none => rfl | some _ => simp at hm) m1 h) (by simp [execOp])
 case build t parts =>
  obtain ⟨p1, p2⟩ := z6z (w := w) (M := M) (β := β) (ev := ev) (ρ := ρ) (parts := parts) (fun x hx => hev x (by simpa using hx))
  refine NeutOk.of (zaB hT t _ _ p1 p2 h) ?_
  rw [← z1o]
  simp [execOp]
 case buildSlice t len parts =>
  obtain ⟨p1, p2⟩ := z6z (w := w) (M := M) (β := β) (ev := ev) (ρ := ρ) (parts := parts) (fun x hx => hev x (by simpa using hx))
  unfold z2p at h ⊢
  cases hs : z1f T t len (parts.toList.map fun p => (p.1, ev p.2)) with
  | none => rw [hs] at h; exact h.elim
  | some r =>
   obtain ⟨e, sz, rows⟩ := r
   rw [hs] at h
   obtain ⟨ds, vs, h1, h2, h3, h4, h5, h6⟩ := z1y (w := w) hT t len _ _ p1 p2 hs
   have hb : Below w.heap.size w (w.alloc (.cells ⟨vs⟩ e)) := (Below.refl _ _).alloc (Nat.le_refl _) _
   have hrl : rows.length = len := by rw [h3, z11]
   cases hrows : rows with
   | nil =>
    rw [hrows] at hrl
    simp only [List.length_nil] at hrl
    subst hrl
    have hnil : RepV (w.alloc (.cells ⟨vs⟩ e)) M β (.one .nil) (.slice (some ⟨w.heap.size, 0, none⟩) 0 0) := ⟨_, rfl⟩
    exact NeutOk.of ⟨_, _, h1, hb, hnil⟩ (by rw [← z1o]; simp [execOp])
   | cons r0 rows0 =>
   rw [hrows] at h
   simp only at h ⊢
   rw [← hrows] at h ⊢
   have hds : ds.all D.pure = true := by
    rw [List.all_eq_true]
    intro d hd
    rw [List.all_eq_true] at h
    obtain ⟨i, hi, rfl⟩ := List.mem_iff_getElem.1 hd
    have hilt : i / sz < len := Nat.div_lt_of_lt_mul (by rw [Nat.mul_comm, ← h4]; exact hi)
    have hmem : (z1b sz len ds)[i / sz]? = some ((ds.drop (i / sz * sz)).take sz) := by
     have hl := z11 sz len ds
     have hg : (z1b sz len ds)[i / sz]? = some ((z1b sz len ds)[i / sz]'(by omega)) := List.getElem?_eq_getElem (by omega)
     rw [hg]
     exact congrArg some (z3x sz len ds _ _ hg).2
    have hr := h _ (by rw [h3]; exact List.mem_of_getElem? hmem)
    rw [List.all_eq_true] at hr
    apply hr
    have hmod := Nat.mod_lt i h5
    refine List.mem_of_getElem? (i := i % sz) ?_
    rw [List.getElem?_take, if_pos hmod, List.getElem?_drop, Nat.div_add_mod' i sz]
    exact List.getElem?_eq_getElem hi
   have hl := RepL.keep (zbl hb M) ds vs (RepCL.toL h2 hds)
   refine NeutOk.of ⟨_, _, h1, hb, ?_⟩ (by rw [← z1o]; simp [execOp])
   refine ⟨some ⟨w.heap.size, 0, none⟩, len, by rw [hrl], by rw [hrl]; exact Nat.le_refl _, ?_, .inr ⟨⟨w.heap.size, 0, none⟩, sz, rfl, by simp, fun hm => Nat.lt_irrefl _ (hM _ hm), ?_⟩⟩
   ·simp only [maxLen]
    have : len * 1 ≤ len * sz := Nat.mul_le_mul_left len h5
    omega
   ·rw [h3]
    exact RepRows.of_cells hl (by rw [← h2.1, h4]) (z0l (heap_alloc_new w _))
 case makeFunc fn first caps =>
  unfold z6E at h ⊢
  split
  ·rename_i f ds he hc
   have hf : first = #[] := by
    have : first.toList = [] := by simpa using he
    exact Array.ext' this
   subst hf
   obtain ⟨c1, c2⟩ := z7b (w := w) (M := M) (β := β) (caps.toList.map ev) (caps.toList.map ρ) ds hc (by simp) (fun i a v ha hv => by
    rw [List.getElem?_map] at ha hv
    cases hg : caps.toList[i]? with
    | none => rw [hg] at ha; cases ha
    | some x =>
     rw [hg] at ha hv
     simp at ha hv
     subst ha; subst hv
     exact hev x (by simpa using List.mem_of_getElem? hg))
   refine ⟨.func (.func f) #[] (caps.map ρ), w, by simp [execOp, Instr.makeFunc], Below.refl _ _, caps.toList.map ρ, ?_, c1, c2⟩
   congr 1
   apply Array.ext'
   simp
  ·exact (by simp_all : False).elim
 case call c =>
  obtain ⟨callee, args, ats⟩ := c
  simp only at h ⊢
  split
  ·rename_i x t ha hat
   simp only [ha, hat] at h
   have e1 : args = #[x] := Array.ext' ha
   have e2 : ats = #[t] := Array.ext' hat
   subst e1; subst e2
   have hx := hev x (by simp [Call.operands])
   refine NeutOk.of (zdD hT hobj t ty _ _ hx.denil h) ?_
   simp [execOp, resolve, invoke, builtin]
  ·rename_i x y ha
   simp only [ha] at h
   have e1 : args = #[x, y] := Array.ext' ha
   subst e1
   refine NeutOk.of (zdy (t := ats) (ty := ty) (hev x (by simp [Call.operands])) (hev y (by simp [Call.operands])) h) ?_
   simp [execOp, resolve, invoke, builtin]
  ·rename_i x y ha
   simp only [ha] at h
   have e1 : args = #[x, y] := Array.ext' ha
   subst e1
   refine NeutOk.of (zdx (t := ats) (ty := ty) (hev x (by simp [Call.operands])) (hev y (by simp [Call.operands])) h) ?_
   simp [execOp, resolve, invoke, builtin]
  ·exact (by simp_all : False).elim
end
end Go.Eng
namespace Go.Eng
open Go.RowKit
structure Grow (w : World) (M : Nat → Prop) (β : List Value) (w' : World) (M' : Nat → Prop) (β' : List Value) : Prop where
 keeps : Keeps w M w' M'
 tags : ∀ (t : Nat) (h : Value), β[t]? = some h → β'[t]? = some h
section
variable {w w' : World} {M M' : Nat → Prop} {β β' : List Value}
theorem RepC0.grow (hg : Grow w M β w' M' β') {d : D} {v : Value} (h : RepC0 w M β d v) : RepC0 w' M' β' d v := by
 cases d
 case unk => exact h
 case own t => exact ⟨h.1.imp (hg.tags _ _) (hg.tags _ _), h.2⟩
 case vp t off => rcases h with ⟨g, h1, h2⟩ | h; exact .inl ⟨g, hg.tags _ _ h1, h2⟩; exact .inr ⟨hg.tags _ _ h.1, h.2⟩
 case rp t i sz sub => rcases h with ⟨g, n, c, h1, h2⟩ | h; exact .inl ⟨g, n, c, hg.tags _ _ h1, h2⟩; exact .inr ⟨hg.tags _ _ h.1, h.2⟩
 case mp t => rcases h with ⟨g, h1, h2⟩ | h; exact .inl ⟨g, hg.tags _ _ h1, h2⟩; exact .inr ⟨hg.tags _ _ h.1, h.2⟩
 all_goals (simp only [RepC0] at h ⊢; exact RepD.keep hg.keeps _ _ h)
theorem RepC.grow (hg : Grow w M β w' M' β') {d : D} {v : Value} (h : RepC w M β d v) : RepC w' M' β' d v := by
 cases d
 case clo f caps => obtain ⟨vs, h1, h2, h3⟩ := h; exact ⟨vs, h1, h2, fun i d u a b => (h3 i d u a b).grow hg⟩
 all_goals (simp only [RepC] at h ⊢; exact h.grow hg)
theorem RepCL.grow (hg : Grow w M β w' M' β') {ds : List D} {vs : List Value} (h : RepCL w M β ds vs) : RepCL w' M' β' ds vs := ⟨h.1, fun i d u a b => (h.2 i d u a b).grow hg⟩
mutual
theorem RepV.grow (hg : Grow w M β w' M' β') : ∀ (a : AV) (v : Value), RepV w M β a v → RepV w' M' β' a v
 | .one d, v, h => by simp only [RepV] at h ⊢; exact h.grow hg
 | .agg ds, v, h => by simp only [RepV] at h ⊢; obtain ⟨vs, h1, h2⟩ := h; exact ⟨vs, h1, h2.grow hg⟩
 | .tup avs, v, h => by simp only [RepV] at h ⊢; obtain ⟨vs, h1, h2⟩ := h; exact ⟨vs, h1, RepVL.grow hg avs vs h2⟩
 | .cond g av, v, h => by simp only [RepV] at h ⊢; exact ⟨fun hh => RepV.grow hg av v (h.1 hh), h.2⟩
 | .any, _, _ => by simp only [RepV]
theorem RepVL.grow (hg : Grow w M β w' M' β') : ∀ (as : List AV) (vs : List Value), RepVL w M β as vs → RepVL w' M' β' as vs
 | [], vs, h => by simpa only [RepVL] using h
 | a :: as, vs, h => by
  simp only [RepVL] at h ⊢
  obtain ⟨v, rest, h1, h2, h3⟩ := h
  exact ⟨v, rest, h1, RepV.grow hg a v h2, RepVL.grow hg as rest h3⟩
end
theorem ObjRep.grow (hg : Grow w M β w' M' β') {o : AObj} {h : Value} (hb : ∀ g, hblk h = some g → w'.heap[g]? = w.heap[g]?) (hr : ObjRep w M β o h) : ObjRep w' M' β' o h := by
 cases o with
 | gone => exact hr
 | row e sz rows =>
  obtain ⟨A, c, h1, h2, h3, h4⟩ := hr
  refine ⟨A, c, h1, h2, h3, ?_⟩
  rcases h4 with h4 | ⟨hc0, g, cur, rfl, h5, h6, h7⟩
  ·exact .inl h4
  ·have hgg := hb g (by rw [h1]; exact hblk_row hc0)
   exact .inr ⟨hc0, g, cur, rfl, hgg.trans h5, h6, h7.keeps hg.keeps fun vs o => z21 (by exact hgg)⟩
 | var e cs =>
  obtain ⟨g, cur, h1, h2, h3⟩ := hr
  exact ⟨g, cur, h1, (hb g (by rw [h1]; rfl)).trans h2, h3.grow hg⟩
 | map kd kvs =>
  obtain ⟨hp, g, es, clk, h1, h2, h3, h4⟩ := hr
  exact ⟨hp, g, es, clk, h1, (hb g (by rw [h1]; rfl)).trans h2, h3, fun i kv e a b => ⟨RepV.grow hg _ _ (h4 i kv e a b).1, RepV.grow hg _ _ (h4 i kv e a b).2⟩⟩
end
def keyOf : AV → Option TKey
 | .one (.str s) => some (.str s)
 | .one (.int k z) => some (.int k z)
 | .agg [.int .i64 a, .int .i64 b] => some (.pair a b)
 | _ => none
def valOf : AV → Option TVal
 | .one (.int k z) => some (.int k z)
 | .one (.bool b) => some (.bool b)
 | _ => none
def tabOf : List (AV × AV) → Option (List (TKey × TVal))
 | [] => some []
 | kv :: r => match keyOf kv.1, valOf kv.2, tabOf r with
  | some k, some v, some l => some ((k, v) :: l)
  | _, _, _ => none
def mapD (kd : KeyKind) : Option (List (TKey × TVal)) → D
 | some ks => .tab kd ks
 | none => .unk
def D.fz0 (t : Nat) (o : AObj) : D → D
 | .own t' => if t' = t then (match o with | .row _ _ rows => .list rows | _ => .unk) else .own t'
 | .vp t' off => if t' = t then (match o with | .var _ cs => if cs.all D.pure then .ref (cs.drop off) else .unk | _ => .unk) else .vp t' off
 | .rp t' i sz sub => if t' = t then .unk else .rp t' i sz sub
 | .mp t' => if t' = t then (match o with | .map kd kvs => mapD kd (tabOf kvs) | _ => .unk) else .mp t'
 | d => d
def D.fz (t : Nat) (o : AObj) : D → D
 | .clo f caps => .clo f (caps.map (D.fz0 t o))
 | d => d.fz0 t o
def AV.fz (t : Nat) (o : AObj) : AV → AV
 | .one d => .one (d.fz t o)
 | .agg ds => .agg (ds.map (D.fz t o))
 | .tup vs => .tup (vs.map fun | .one d => .one (d.fz t o) | .agg ds => .agg (ds.map (D.fz t o)) | _ => .any)
 | .cond g (.one d) => .cond g (.one (d.fz t o))
 | .cond g (.agg ds) => .cond g (.agg (ds.map (D.fz t o)))
 | _ => .any
def AObj.fz (t : Nat) (o : AObj) : AObj → AObj
 | .var e cs => .var e (cs.map (D.fz t o))
 | .map kd kvs => .map kd (kvs.map fun kv => (kv.1.fz t o, kv.2.fz t o))
 | x => x
def AState.fz (σ : AState) (t : Nat) (o : AObj) : AState := { σ with slots := σ.slots.map fun s => (s.1, s.2.fz t o), H := σ.H.map (AObj.fz t o) }
def AState.setObj (σ : AState) (t : Nat) (o : AObj) : AState := { σ with H := σ.H.set t o }
def AState.freeze (σ : AState) (t : Nat) : AState := (σ.fz t (σ.H.getD t .gone)).setObj t .gone
section
variable {w w' : World} {M M' : Nat → Prop} {β β' : List Value} {t : Nat} {o : AObj}
def FzOk (w' : World) (M' : Nat → Prop) (o : AObj) (h : Value) : Prop :=
 (∀ e sz rows, o = .row e sz rows → RepD w' M' (.list rows) h) ∧
 (∀ e cs, o = .var e cs → cs.all D.pure = true → ∃ g, h = .pointer (some ⟨g, 0, none⟩) ∧ g < w'.heap.size ∧ ¬ M' g ∧ AtRow w' M' ⟨g, 0, none⟩ cs) ∧
 (∀ kd kvs ks, o = .map kd kvs → tabOf kvs = some ks → RepD w' M' (.tab kd ks) h)
structure Turn (w : World) (M : Nat → Prop) (β : List Value) (t : Nat) (o : AObj) (w' : World) (M' : Nat → Prop) (β' : List Value) : Prop where
 keeps : Keeps w M w' M'
 tags : ∀ (t' : Nat) (h : Value), t' ≠ t → β[t']? = some h → β'[t']? = some h
 frozen : ∀ h, β[t]? = some h → FzOk w' M' o h
theorem RepC0.turn (hg : Turn w M β t o w' M' β') {d : D} {v : Value} (h : RepC0 w M β d v) : RepC0 w' M' β' (d.fz0 t o) v := by
 have hone := h.oneCell
 cases d
 case unk => exact h
 case own t' =>
  simp only [D.fz0]
  split
  ·rename_i ht
   subst ht
   split
   ·rename_i e sz rows
    rcases h.1 with h1 | h1
    ·exact (((hg.frozen v h1).1 e sz rows rfl)).toC0
    ·obtain ⟨A, c, h2, _⟩ := (hg.frozen _ h1).1 e sz rows rfl
     cases h2
   ·exact hone
  ·rename_i ht
   exact ⟨h.1.imp (hg.tags _ _ ht) (hg.tags _ _ ht), h.2⟩
 case vp t' off =>
  simp only [D.fz0]
  split
  ·rename_i ht
   subst ht
   split
   ·rename_i e cs
    split
    ·rename_i hp
     rcases h with ⟨g, h1, rfl⟩ | ⟨h1, _⟩
     ·obtain ⟨g', h2, h3, h4, h5⟩ := (hg.frozen _ h1).2.1 e cs rfl hp
      cases h2
      have := h5.shift off
      rw [add_lit] at this
      simp only [RepC0, RepD]
      rw [Nat.zero_add] at this
      exact ⟨⟨g, off, none⟩, rfl, h3, h4, this⟩
     ·obtain ⟨g', h2, _⟩ := (hg.frozen _ h1).2.1 e cs rfl hp
      cases h2
    ·exact hone
   ·exact hone
  ·rename_i ht
   rcases h with ⟨g, h1, h2⟩ | h
   ·exact .inl ⟨g, hg.tags _ _ ht h1, h2⟩
   ·exact .inr ⟨hg.tags _ _ ht h.1, h.2⟩
 case rp t' i sz sub =>
  simp only [D.fz0]
  split
  ·exact hone
  ·rename_i ht
   rcases h with ⟨g, n, c, h1, h2⟩ | h
   ·exact .inl ⟨g, n, c, hg.tags _ _ ht h1, h2⟩
   ·exact .inr ⟨hg.tags _ _ ht h.1, h.2⟩
 case mp t' =>
  simp only [D.fz0]
  split
  ·rename_i ht
   subst ht
   split
   ·rename_i kd kvs
    cases hk : tabOf kvs with
    | none => exact hone
    | some ks =>
     rcases h with ⟨g, h1, rfl⟩ | ⟨h1, _⟩
     ·exact ((hg.frozen _ h1).2.2 kd kvs ks rfl hk).toC0
     ·obtain ⟨g, es, clk, h2, _⟩ := (hg.frozen _ h1).2.2 kd kvs ks rfl hk
      cases h2
   ·exact hone
  ·rename_i ht
   rcases h with ⟨g, h1, h2⟩ | h
   ·exact .inl ⟨g, hg.tags _ _ ht h1, h2⟩
   ·exact .inr ⟨hg.tags _ _ ht h.1, h.2⟩
 all_goals (simp only [D.fz0, RepC0] at h ⊢; exact RepD.keep hg.keeps _ _ h)
theorem zeE {kd : KeyKind} {x : Option (List (TKey × TVal))} {v : Value} (h : RepC0 w M β (mapD kd x) v) : RepC w M β (mapD kd x) v := by
 cases x <;> exact h
theorem z9u : ∀ {kvs : List (AV × AV)} {ks : List (TKey × TVal)}, tabOf kvs = some ks → ks.length = kvs.length ∧ ∀ (i : Nat) (p : TKey × TVal), ks[i]? = some p → ∃ kv, kvs[i]? = some kv ∧ keyOf kv.1 = some p.1 ∧ valOf kv.2 = some p.2
 | [], ks, h => by
  cases h
  exact ⟨rfl, fun i p hp => by simp at hp⟩
 | kv :: r, ks, h => by
  simp only [tabOf] at h
  split at h
  ·rename_i k v l h1 h2 h3
   cases h
   obtain ⟨e1, e2⟩ := z9u h3
   refine ⟨by simp [e1], fun i p hp => ?_⟩
   cases i with
   | zero => simp at hp; subst hp; exact ⟨kv, rfl, h1, h2⟩
   | succ i => simpa using e2 i p (by simpa using hp)
  ·cases h
theorem zff {k : AV} {tk : TKey} {v : Value} (h : keyOf k = some tk) (hr : RepV w M β k v) : v = tk.val := by
 unfold keyOf at h
 split at h
 ·cases h; exact hr
 ·cases h; exact hr
 ·cases h
  obtain ⟨vs, rfl, hl, hc⟩ := hr
  match vs, hl with
  | [x, y], _ =>
   have h1 : x = _ := hc 0 _ x rfl rfl
   have h2 : y = _ := hc 1 _ y rfl rfl
   subst h1; subst h2; rfl
 ·cases h
theorem zej {k : AV} {tk : TVal} {v : Value} (h : valOf k = some tk) (hr : RepV w M β k v) : v = tk.val := by
 unfold valOf at h
 split at h
 ·cases h; exact hr
 ·cases h; exact hr
 ·cases h
theorem zhf {kd : KeyKind} {k : AV} {tk : TKey} (h : keyOf k = some tk) (hp : z0c kd k = true) : tk.ok kd = true := by
 unfold keyOf at h
 split at h
 ·cases h; cases kd <;> first | rfl | (simp [z0c] at hp)
 ·cases h; cases kd <;> first | exact hp | (simp [z0c] at hp)
 ·cases h; cases kd <;> first | rfl | (simp [z0c] at hp)
 ·cases h
theorem RepC.turn (hg : Turn w M β t o w' M' β') {d : D} {v : Value} (h : RepC w M β d v) : RepC w' M' β' (d.fz t o) v := by
 cases d
 case clo f caps =>
  obtain ⟨vs, h1, h2, h3⟩ := h
  refine ⟨vs, h1, by simpa using h2, fun i d u a b => ?_⟩
  rw [List.getElem?_map] at a
  cases hc : caps[i]? with
  | none => rw [hc] at a; cases a
  | some c => rw [hc] at a; simp at a; subst a; exact (h3 i c u hc b).turn hg
 all_goals
  simp only [RepC] at h
  have := h.turn hg
  simp only [D.fz, D.fz0] at this ⊢
  first
   | exact this
   | (repeat' split) <;> first | (simp_all [RepC]; done) | exact zeE (by simp_all)
theorem RepCL.turn (hg : Turn w M β t o w' M' β') {ds : List D} {vs : List Value} (h : RepCL w M β ds vs) : RepCL w' M' β' (ds.map (D.fz t o)) vs :=
 ⟨by simpa using h.1, fun i d u a b => by
  rw [List.getElem?_map] at a
  cases hc : ds[i]? with
  | none => rw [hc] at a; cases a
  | some c => rw [hc] at a; simp at a; subst a; exact (h.2 i c u hc b).turn hg⟩
theorem RepV.turn (hg : Turn w M β t o w' M' β') : ∀ (a : AV) (v : Value), RepV w M β a v → RepV w' M' β' (a.fz t o) v := by
 have h1 : ∀ (d : D) (v : Value), RepV w M β (.one d) v → RepV w' M' β' (.one (d.fz t o)) v := fun d v h => RepC.turn hg h
 have h2 : ∀ (ds : List D) (v : Value), RepV w M β (.agg ds) v → RepV w' M' β' (.agg (ds.map (D.fz t o))) v := fun ds v h => by
  obtain ⟨vs, e, hl⟩ := h
  exact ⟨vs, e, hl.turn hg⟩
 intro a v h
 cases a with
 | one d => exact h1 d v h
 | agg ds => exact h2 ds v h
 | tup avs =>
  obtain ⟨vs, e, hl⟩ := h
  have hg' := RepVL.get avs vs hl
  refine ⟨vs, e, RepVL.mk _ _ (by simpa using hg'.1) fun i b u hb hu => ?_⟩
  rw [List.getElem?_map] at hb
  cases hc : avs[i]? with
  | none => rw [hc] at hb; cases hb
  | some c =>
   rw [hc] at hb
   simp at hb
   subst hb
   have := hg'.2 i c u hc hu
   cases c <;> first | exact h1 _ _ this | exact h2 _ _ this | exact trivial
 | cond g x =>
  cases x with
  | one d => exact ⟨fun hh => h1 d v (h.1 hh), h.2⟩
  | agg ds => exact ⟨fun hh => h2 ds v (h.1 hh), h.2⟩
  | _ => exact trivial
 | any => exact trivial
theorem ObjRep.turn (hg : Turn w M β t o w' M' β') {x : AObj} {h : Value} (hb : ∀ g, hblk h = some g → w'.heap[g]? = w.heap[g]?) (hr : ObjRep w M β x h) : ObjRep w' M' β' (AObj.fz t o x) h := by
 cases x with
 | gone => exact hr
 | row e sz rows =>
  obtain ⟨A, c, h1, h2, h3, h4⟩ := hr
  refine ⟨A, c, h1, h2, h3, ?_⟩
  rcases h4 with h4 | ⟨hc0, g, cur, rfl, h5, h6, h7⟩
  ·exact .inl h4
  ·have hgg := hb g (by rw [h1]; exact hblk_row hc0)
   exact .inr ⟨hc0, g, cur, rfl, hgg.trans h5, h6, h7.keeps hg.keeps fun vs o => z21 (by exact hgg)⟩
 | var e cs =>
  obtain ⟨g, cur, h1, h2, h3⟩ := hr
  exact ⟨g, cur, h1, (hb g (by rw [h1]; rfl)).trans h2, h3.turn hg⟩
 | map kd kvs =>
  obtain ⟨hp, g, es, clk, h1, h2, h3, h4⟩ := hr
  refine ⟨fun kv hkv => ?_, g, es, clk, h1, (hb g (by rw [h1]; rfl)).trans h2, by simpa using h3, fun i kv e a b => ?_⟩
  ·obtain ⟨kv', hm, rfl⟩ := List.mem_map.1 hkv
   have := hp kv' hm
   obtain ⟨k, v⟩ := kv'
   simp only at this ⊢
   cases z1k this with
   | str s => exact this
   | int k z => exact this
   | pair q a b => exact this
  rw [List.getElem?_map] at a
  cases hc : kvs[i]? with
  | none => rw [hc] at a; cases a
  | some c => rw [hc] at a; simp at a; subst a; exact ⟨RepV.turn hg _ _ (h4 i c e hc b).1, RepV.turn hg _ _ (h4 i c e hc b).2⟩
end
theorem z6F (f : AV → AV) : ∀ (l : List (Nat × AV)) (i : Nat), lookS (l.map fun s => (s.1, f s.2)) i = (lookS l i).map f
 | [], _ => rfl
 | (j, v) :: l, i => by
  simp only [List.map_cons, lookS]
  split
  ·rfl
  ·exact z6F f l i
section
variable {W0 w w' : World} {M0 : Nat → Prop} {F : List Value} {σ : AState} {a : Act} {β : List Value}
theorem zgi (h : Sim W0 M0 F σ a w β) : ∀ g, Mof M0 β g → g < w.heap.size := by
 intro g hg
 rcases hg with hg | hg
 ·exact Nat.lt_of_lt_of_le (h.m0.1 g hg) h.below.size
 ·exact (h.fresh g hg).2
theorem z3o {g : Nat} : ¬ owned [] g := fun ⟨t, x, h, _⟩ => by simp at h
theorem Sim.mok_of (h : Sim W0 M0 F σ a w β) {M1 : Nat → Prop} {F1 : List Value} (hM : ∀ g, M1 g → Mof M0 β g) (hF : ∀ g, owned F1 g → owned β g) : MOk w M1 F1 := by
 have hn : ∀ x ∈ globs, ¬ owned β x.1 := fun x hx ho => by
  obtain ⟨h1, h2, h3⟩ := h.m0.2 x hx
  rcases (h.fresh x.1 ho).1 with h4 | h4
  ·exact h2.2 h4
  ·omega
 refine ⟨fun g hg => zgi h g (hM g hg), fun x hx => ?_⟩
 obtain ⟨h1, h2, e, fz, h3⟩ := h.m0.2 x hx
 refine ⟨Nat.lt_of_lt_of_le h1 h.below.size, ⟨fun hm => ?_, fun hf => hn x hx (hF _ hf)⟩, e, fz, by rw [h.below.block _ h1 h2.2]; exact h3⟩
 rcases hM _ hm with hm | hm
 ·exact h2.1 hm
 ·exact hn x hx hm
theorem Sim.mok (h : Sim W0 M0 F σ a w β) : MOk w M0 β := h.mok_of (fun _ h => .inl h) fun _ h => h
theorem Sim.mok0 (h : Sim W0 M0 F σ a w β) : MOk w M0 [] := h.mok_of (fun _ h => .inl h) fun _ h => (z3o h).elim
theorem z2r {t : Nat} {hd' : Value} {g : Nat} (h : owned (β.set t hd') g) : hblk hd' = some g ∨ ∃ (t' : Nat) (x : Value), t' ≠ t ∧ β[t']? = some x ∧ hblk x = some g := by
 obtain ⟨t', x, h1, h2⟩ := h
 rw [List.getElem?_set] at h1
 split at h1
 ·split at h1
  ·cases h1; exact .inl h2
  ·cases h1
 ·rename_i hne
  exact .inr ⟨t', x, fun e => hne e.symm, h1, h2⟩
theorem Sim.turn (h : Sim W0 M0 F σ a w β) {t : Nat} {hd hd' : Value} {o o' : AObj} (hpin : σ.pin ≤ t ∨ hd' = hd) (hβ : β[t]? = some hd) (hg : w.grownBy w' (hblk hd)) (hdr : w.drawn ≤ w'.drawn)
  (hnew : ∀ g, hblk hd' = some g → hblk hd = some g ∨ (w.heap.size ≤ g ∧ g < w'.heap.size)) (hf : FzOk w' (Mof M0 (β.set t hd')) o hd)
  (ho : ObjRep w' (Mof M0 (β.set t hd')) (β.set t hd') o' hd') : Sim W0 M0 F ((σ.fz t o).setObj t o') a w' (β.set t hd') := by
 have htl : t < β.length := (List.getElem?_eq_some_iff.1 hβ).1
 have hkeep : Keeps w (Mof M0 β) w' (Mof M0 (β.set t hd')) := by
  refine ⟨hg.size, fun g hlt hm => hg.block g hlt fun e => hm (.inr ⟨t, hd, hβ, e.symm⟩), fun g hlt hm hm' => ?_⟩
  rcases hm' with hm' | hm'
  ·exact hm (.inl hm')
  ·rcases z2r hm' with hb | ⟨t', x, _, h1, h2⟩
   ·rcases hnew g hb with hb | hb
    ·exact hm (.inr ⟨t, hd, hβ, hb⟩)
    ·omega
   ·exact hm (.inr ⟨t', x, h1, h2⟩)
 have htags : ∀ (t' : Nat) (x : Value), t' ≠ t → β[t']? = some x → (β.set t hd')[t']? = some x := fun t' x hne hx => by
  rw [List.getElem?_set, if_neg (fun e => hne e.symm)]; exact hx
 have hT : Turn w (Mof M0 β) β t o w' (Mof M0 (β.set t hd')) (β.set t hd') := ⟨hkeep, htags, fun x hx => by rw [hβ] at hx; cases hx; exact hf⟩
 refine ⟨?_, h.m0, ?_, ?_, ?_, ?_, ?_, h.size, h.defers, h.out, h.pins.1, fun i hi => ?_⟩
 ·refine h.below.trans (Y := fun k => hblk hd = some k) ⟨hg.os, hg.tape, hg.output, hg.size, fun k hk hy => hg.block k hk (fun e => hy e.symm), hdr⟩ fun k hk hy => ?_
  rcases (h.fresh k ⟨t, hd, hβ, hy⟩).1 with hk' | hk'
  ·exact hk'
  ·omega
 ·simp [AState.setObj, AState.fz, h.len]
 ·intro t' x hd2 hx hb
  simp only [AState.setObj, AState.fz] at hx
  rw [List.getElem?_set] at hx hb
  by_cases htt : t = t'
  ·subst htt
   rw [if_pos rfl] at hx hb
   split at hx
   ·cases hx
    rw [if_pos htl] at hb
    cases hb
    exact ho
   ·cases hx
  ·rw [if_neg htt] at hx hb
   rw [List.getElem?_map] at hx
   cases hH : σ.H[t']? with
   | none => rw [hH] at hx; cases hx
   | some y =>
    rw [hH] at hx
    simp at hx
    subst hx
    refine ObjRep.turn hT (fun g hgb => hg.block g (h.fresh g ⟨t', hd2, hb, hgb⟩).2 fun e => htt (h.dist t t' hd hd2 g hβ hb e.symm hgb)) (h.objs t' y hd2 hH hb)
 ·intro g hgo
  rcases z2r hgo with hb | ⟨t', x, _, h1, h2⟩
  ·rcases hnew g hb with hb | hb
   ·have := h.fresh g ⟨t, hd, hβ, hb⟩
    exact ⟨this.1, Nat.lt_of_lt_of_le this.2 hg.size⟩
   ·exact ⟨.inr (Nat.le_trans h.below.size hb.1), hb.2⟩
  ·have := h.fresh g ⟨t', x, h1, h2⟩
   exact ⟨this.1, Nat.lt_of_lt_of_le this.2 hg.size⟩
 ·intro t1 t2 x1 x2 g h1 h2 h3 h4
  rw [List.getElem?_set] at h1 h2
  by_cases e1 : t = t1 <;> by_cases e2 : t = t2
  ·rw [← e1, ← e2]
  ·rw [if_pos e1, if_pos htl] at h1
   rw [if_neg e2] at h2
   cases h1
   rcases hnew g h3 with hb | hb
   ·exact absurd (h.dist t t2 hd x2 g hβ h2 hb h4) e2
   ·have := (h.fresh g ⟨t2, x2, h2, h4⟩).2; omega
  ·rw [if_neg e1] at h1
   rw [if_pos e2, if_pos htl] at h2
   cases h2
   rcases hnew g h4 with hb | hb
   ·exact absurd (h.dist t t1 hd x1 g hβ h1 hb h3) e1
   ·have := (h.fresh g ⟨t1, x1, h1, h3⟩).2; omega
  ·rw [if_neg e1] at h1
   rw [if_neg e2] at h2
   exact h.dist t1 t2 x1 x2 g h1 h2 h3 h4
 ·intro i v hv
  simp only [AState.setObj, AState.fz] at hv
  rw [z6F] at hv
  cases hl : lookS σ.slots i with
  | none => rw [hl] at hv; cases hv
  | some u =>
   rw [hl] at hv
   simp at hv
   subst hv
   obtain ⟨x, h1, h2⟩ := h.slots i u hl
   exact ⟨x, h1, RepV.turn hT u x h2⟩
 ·rw [List.getElem?_set]
  split
  ·rename_i hti
   subst hti
   rcases hpin with hpin | rfl
   ·exact absurd hi (Nat.not_lt.2 hpin)
   ·first | rw [if_pos htl, ← h.pins.2 t hi, hβ] | rw [← h.pins.2 t hi, hβ]
  ·exact h.pins.2 i hi
theorem Sim.write (h : Sim W0 M0 F σ a w β) {t : Nat} {hd : Value} {o' : AObj} (hβ : β[t]? = some hd) (hg : w.grownBy w' (hblk hd)) (hdr : w.drawn ≤ w'.drawn) (ho : ObjRep w' (Mof M0 β) β o' hd) : Sim W0 M0 F (σ.setObj t o') a w' β := by
 have hkeep : Keeps w (Mof M0 β) w' (Mof M0 β) := ⟨hg.size, fun g hlt hm => hg.block g hlt fun e => hm (.inr ⟨t, hd, hβ, e.symm⟩), fun g _ hm => hm⟩
 have hG : Grow w (Mof M0 β) β w' (Mof M0 β) β := ⟨hkeep, fun _ _ x => x⟩
 refine ⟨?_, h.m0, by simp [AState.setObj, h.len], ?_, ?_, h.dist, fun i v hv => ?_, h.size, h.defers, h.out, h.pins⟩
 ·refine h.below.trans (Y := fun k => hblk hd = some k) ⟨hg.os, hg.tape, hg.output, hg.size, fun k hk hy => hg.block k hk (fun e => hy e.symm), hdr⟩ fun k hk hy => ?_
  rcases (h.fresh k ⟨t, hd, hβ, hy⟩).1 with hk' | hk'
  ·exact hk'
  ·omega
 ·intro t' x hd2 hx hb
  simp only [AState.setObj] at hx
  rw [List.getElem?_set] at hx
  by_cases htt : t = t'
  ·subst htt
   rw [if_pos rfl] at hx
   split at hx
   ·cases hx
    rw [hβ] at hb
    cases hb
    exact ho
   ·cases hx
  ·rw [if_neg htt] at hx
   exact ObjRep.grow hG (fun g hgb => hg.block g (h.fresh g ⟨t', hd2, hb, hgb⟩).2 fun e => htt (h.dist t t' hd hd2 g hβ hb e.symm hgb)) (h.objs t' x hd2 hx hb)
 ·exact fun g hgo => ⟨(h.fresh g hgo).1, Nat.lt_of_lt_of_le (h.fresh g hgo).2 hg.size⟩
 ·obtain ⟨x, h1, h2⟩ := h.slots i v hv
  exact ⟨x, h1, RepV.grow hG v x h2⟩
theorem Sim.push (h : Sim W0 M0 F σ a w β) {Hn : List AObj} {βn : List Value} (hb : Below w.heap.size w w') (hlen : βn.length = Hn.length)
  (hfresh : ∀ g, owned βn g → w.heap.size ≤ g ∧ g < w'.heap.size) (hdist : ∀ (t t' : Nat) (x x' : Value) (g : Nat), βn[t]? = some x → βn[t']? = some x' → hblk x = some g → hblk x' = some g → t = t')
  (ho : ∀ (t : Nat) (o : AObj) (x : Value), Hn[t]? = some o → βn[t]? = some x → ObjRep w' (Mof M0 (β ++ βn)) (β ++ βn) o x) : Sim W0 M0 F { σ with H := σ.H ++ Hn } a w' (β ++ βn) := by
 have own_app : ∀ g, owned (β ++ βn) g → owned β g ∨ owned βn g := by
  rintro g ⟨t, x, h1, h2⟩
  rw [List.getElem?_append] at h1
  split at h1
  ·exact .inl ⟨t, x, h1, h2⟩
  ·exact .inr ⟨_, x, h1, h2⟩
 have hkeep : Keeps w (Mof M0 β) w' (Mof M0 (β ++ βn)) := by
  refine ⟨hb.size, fun g hlt _ => hb.block g hlt, fun g hlt hm hm' => ?_⟩
  rcases hm' with hm' | hm'
  ·exact hm (.inl hm')
  ·rcases own_app g hm' with hm' | hm'
   ·exact hm (.inr hm')
   ·have := (hfresh g hm').1; omega
 have hG : Grow w (Mof M0 β) β w' (Mof M0 (β ++ βn)) (β ++ βn) := ⟨hkeep, fun t x hx => by
  rw [List.getElem?_append, if_pos (List.getElem?_eq_some_iff.1 hx).1]; exact hx⟩
 refine ⟨h.below.ext hb, h.m0, by simp [h.len, hlen], ?_, ?_, ?_, fun i v hv => ?_, h.size, h.defers, h.out, h.pins.1, fun i hi => ?_⟩
 ·intro t o x hx hbx
  rw [List.getElem?_append] at hx hbx
  rw [← h.len] at hx
  split at hbx
  ·rename_i hlt
   rw [if_pos hlt] at hx
   exact ObjRep.grow hG (fun g hgb => hb.block g (h.fresh g ⟨t, x, hbx, hgb⟩).2) (h.objs t o x hx hbx)
  ·rename_i hlt
   rw [if_neg hlt] at hx
   exact ho _ o x hx hbx
 ·intro g hg
  rcases own_app g hg with hg | hg
  ·exact ⟨(h.fresh g hg).1, Nat.lt_of_lt_of_le (h.fresh g hg).2 hb.size⟩
  ·exact ⟨.inr (Nat.le_trans h.below.size (hfresh g hg).1), (hfresh g hg).2⟩
 ·intro t t' x x' g h1 h2 h3 h4
  rw [List.getElem?_append] at h1 h2
  split at h1 <;> split at h2
  ·exact h.dist t t' x x' g h1 h2 h3 h4
  ·have a1 := (h.fresh g ⟨t, x, h1, h3⟩).2
   have a2 := (hfresh g ⟨_, x', h2, h4⟩).1
   omega
  ·have a1 := (hfresh g ⟨_, x, h1, h3⟩).1
   have a2 := (h.fresh g ⟨t', x', h2, h4⟩).2
   omega
  ·have := hdist _ _ x x' g h1 h2 h3 h4
   omega
 ·obtain ⟨x, h1, h2⟩ := h.slots i v hv
  exact ⟨x, h1, RepV.grow hG v x h2⟩
 ·have := h.pins.2 i hi
  rw [List.getElem?_append]
  split
  ·exact this
  ·rename_i hlt
   have h1 := h.pins.1
   have hi' : i < σ.pin := hi
   have h2 : i < F.length := by omega
   rw [List.getElem?_eq_none (Nat.le_of_not_lt hlt), List.getElem?_eq_getElem h2] at this
   cases this
theorem z1H (w : World) (row : Option Nat) : w.grownBy w row := ⟨rfl, rfl, rfl, Nat.le_refl _, fun _ _ _ => rfl⟩
theorem Sim.freeze (h : Sim W0 M0 F σ a w β) (t : Nat) (hpin : σ.pin ≤ t) (ht : t < σ.H.length) : Sim W0 M0 F (σ.freeze t) a w (β.set t undef) := by
 obtain ⟨hd, hβ⟩ : ∃ hd, β[t]? = some hd := ⟨β[t]'(by rw [h.len]; exact ht), List.getElem?_eq_getElem _⟩
 have hH : σ.H[t]? = some (σ.H.getD t .gone) := getD_some ht _
 have hM : ∀ g, Mof M0 (β.set t undef) g → Mof M0 β g ∧ hblk hd ≠ some g := by
  intro g hg
  rcases hg with hg | hg
  ·exact ⟨.inl hg, fun e => by
    rcases (h.fresh g ⟨t, hd, hβ, e⟩).1 with h1 | h1
    ·exact (h.out g h1).1 hg
    ·have := h.m0.1 g hg; omega⟩
  ·rcases z2r hg with hb | ⟨t', x, hne, h1, h2⟩
   ·cases hb
   ·exact ⟨.inr ⟨t', x, h1, h2⟩, fun e => hne (h.dist t' t x hd g h1 hβ h2 e)⟩
 have hk : Keeps w (Mof M0 β) w (Mof M0 (β.set t undef)) := ⟨Nat.le_refl _, fun _ _ _ => rfl, fun g _ hm hm' => hm (hM g hm').1⟩
 have hob := h.objs t _ hd hH hβ
 refine Sim.turn h (.inl hpin) hβ (z1H w _) (Nat.le_refl _) (fun g hg => by cases hg) ?_ trivial
 refine ⟨fun e sz rows he => ?_, fun e cs he hp => ?_, fun kd kvs ks he hks => ?_⟩
 ·rw [he] at hob
  obtain ⟨A, c, rfl, h2, h3, h4⟩ := hob
  refine ⟨A, c, rfl, h2, h3, ?_⟩
  rcases h4 with rfl | ⟨hc0, g, cur, rfl, h5, h6, h7⟩
  ·left; exact List.eq_nil_of_length_eq_zero (by omega)
  ·exact .inr ⟨⟨g, 0, none⟩, sz, rfl, (h.fresh g ⟨t, _, hβ, hblk_row hc0⟩).2, fun hm => (hM g hm).2 (hblk_row hc0), h7.keeps hk fun _ _ x => x⟩
 ·rw [he] at hob
  obtain ⟨g, cur, rfl, h2, h3⟩ := hob
  exact ⟨g, rfl, (h.fresh g ⟨t, _, hβ, rfl⟩).2, fun hm => (hM g hm).2 rfl, cur.toList, z0l h2, RepL.keep hk _ _ (RepCL.toL h3 hp)⟩
 ·rw [he] at hob
  obtain ⟨hpk, g, es, clk, rfl, h2, h3, h4⟩ := hob
  obtain ⟨e1, e2⟩ := z9u hks
  refine ⟨g, es, clk, rfl, (h.fresh g ⟨t, _, hβ, rfl⟩).2, fun hm => (hM g hm).2 rfl, h2, fun p hp => ?_, by rw [e1, h3], fun i p e hp hee => ?_⟩
  ·obtain ⟨i, hi⟩ := List.getElem?_of_mem hp
   obtain ⟨kv, q1, q2, _⟩ := e2 i p hi
   exact zhf q2 (hpk kv (List.mem_of_getElem? q1))
  ·obtain ⟨kv, q1, q2, q3⟩ := e2 i p hp
   obtain ⟨r1, r2⟩ := h4 i kv e q1 hee
   exact ⟨zff q2 r1, zej q3 r2⟩
end
end Go.Eng
namespace Go.Eng
open Go.RowKit
def D.bor0 (H : List AObj) : D → D
 | .own t => match H[t]? with | some (.row _ _ rows) => .list rows | _ => .unk
 | .vp .. => .unk
 | .rp .. => .unk
 | .mp .. => .unk
 | .nil => .list []
 | .full rows => .list rows
 | .clo f caps => if caps.isEmpty then .clo f [] else .unk
 | d => d
def D.bor1 (H : List AObj) : D → D
 | .vp t off => match H[t]? with | some (.var _ cs) => if (cs.map (D.bor0 H)).all D.pure then .ref ((cs.map (D.bor0 H)).drop off) else .unk | _ => .unk
 | d => d.bor0 H
def D.bor (H : List AObj) : D → D
 | .clo f caps => .clo f (caps.map (D.bor1 H))
 | d => d.bor1 H
def AV.bor (H : List AObj) : AV → AV
 | .one d => .one (d.bor H)
 | .agg ds => .agg (ds.map (D.bor H))
 | .tup vs => .tup (vs.map fun | .one d => .one (d.bor H) | .agg ds => .agg (ds.map (D.bor H)) | _ => .any)
 | _ => .any
def D.tagged : D → Bool
 | .own _ => true
 | .vp .. => true
 | .rp .. => true
 | .mp _ => true
 | .clo _ caps => caps.any fun | .own _ => true | .vp .. => true | .rp .. => true | .mp _ => true | _ => false
 | _ => false
def AV.tagged : AV → Bool
 | .one d => d.tagged
 | .agg ds => ds.any D.tagged
 | _ => true
def D.flat : D → Bool
 | .int .. => true
 | .bool _ => true
 | .str _ => true
 | .nil => true
 | .raw _ => true
 | _ => false
def D.flatOwn : D → Bool
 | .own _ => true
 | d => d.flat
def AV.flatOwn : AV → Bool
 | .one d => d.flatOwn
 | .agg ds => ds.all D.flatOwn
 | .tup vs => vs.all fun | .one d => d.flatOwn | .agg ds => ds.all D.flatOwn | _ => false
 | _ => false
def AObj.flatP : AObj → Prop
 | .row _ _ rows => ∀ r ∈ rows, r.all D.flat = true
 | .gone => True
 | _ => False
def D.shift0 (n : Nat) : D → D
 | .own t => .own (n + t)
 | .vp t off => .vp (n + t) off
 | .rp t i sz sub => .rp (n + t) i sz sub
 | .mp t => .mp (n + t)
 | d => d
def D.shift (n : Nat) : D → D
 | .clo f caps => .clo f (caps.map (D.shift0 n))
 | d => d.shift0 n
def AV.shift (n : Nat) : AV → AV
 | .one d => .one (d.shift n)
 | .agg ds => .agg (ds.map (D.shift n))
 | .tup vs => .tup (vs.map fun | .one d => .one (d.shift n) | .agg ds => .agg (ds.map (D.shift n)) | _ => .any)
 | _ => .any
def AObj.plain : AObj → Bool
 | .row .. => true
 | .gone => true
 | _ => false
section
variable {w w' : World} {M M0 M1 M' : Nat → Prop} {F : List Value} {β β' βn : List Value} {H : List AObj}
structure Lend (w : World) (M0 : Nat → Prop) (β : List Value) (H : List AObj) : Prop where
 objs : ∀ (t : Nat) (o : AObj) (h : Value), H[t]? = some o → β[t]? = some h → ObjRep w (Mof M0 β) β o h
 out : ∀ g, owned β g → ¬ M0 g ∧ g < w.heap.size
theorem Lend.keeps (_ : Lend w M0 β H) : Keeps w (Mof M0 β) w M0 := ⟨Nat.le_refl _, fun _ _ _ => rfl, fun _ _ hm hm' => hm (.inl hm')⟩
theorem zad {w : World} {M : Nat → Prop} {rows : List (List D)} {v : Value} (h : RepD w M (.full rows) v) : RepD w M (.list rows) v := by
 obtain ⟨A, rfl, h1, h2⟩ := h
 exact ⟨A, rows.length, rfl, Nat.le_refl _, h1, h2⟩
theorem z8k (hl : Lend w M0 β H) {d : D} {v : Value} (h : RepC0 w (Mof M0 β) β d v) : RepC0 w M0 [] (d.bor0 H) v := by
 have hone := h.oneCell
 cases d
 case own t =>
  simp only [D.bor0]
  cases hH : H[t]? with
  | none => exact hone
  | some o =>
   cases o with
   | row e sz rows =>
    have hβ := z0u h fun y hy => hl.objs t _ y hH hy
    obtain ⟨A, c, rfl, h2, h3, h4⟩ := hl.objs t _ v hH hβ
    refine ⟨A, c, rfl, h2, h3, ?_⟩
    rcases h4 with rfl | ⟨hc0, g, cur, rfl, h5, h6, h7⟩
    ·left; exact List.eq_nil_of_length_eq_zero (by omega)
    ·have ho := hl.out g ⟨t, _, hβ, hblk_row hc0⟩
     exact .inr ⟨⟨g, 0, none⟩, sz, rfl, ho.2, ho.1, h7.keeps hl.keeps fun _ _ x => x⟩
   | _ => exact hone
 case nil =>
  obtain ⟨A, e0⟩ : ∃ A, v = .slice A 0 0 := h
  subst e0
  exact ⟨A, 0, rfl, Nat.le_refl _, Nat.zero_le _, .inl rfl⟩
 case clo f caps =>
  simp only [D.bor0]
  split
  ·rename_i he
   rw [List.isEmpty_iff] at he
   subst he
   simp only [RepC0] at h ⊢
   exact RepD.keep hl.keeps _ _ h
  ·exact hone
 case vp => exact hone
 case rp => exact hone
 case mp => exact hone
 case unk => exact h
 case full rows => exact zad (RepD.keep hl.keeps _ _ h)
 all_goals (simp only [RepC0, D.bor0] at h ⊢; exact RepD.keep hl.keeps _ _ h)
theorem zdY (hl : Lend w M0 β H) {d : D} {v : Value} (h : RepC w (Mof M0 β) β d v) : RepC w M0 [] (d.bor0 H) v := by
 cases d
 case clo f caps =>
  have hone := h.oneCell
  simp only [D.bor0]
  split
  ·rename_i he
   rw [List.isEmpty_iff] at he
   subst he
   obtain ⟨vs, h1, h2, h3⟩ := h
   exact ⟨vs, h1, h2, fun i d u hd => by simp at hd⟩
  ·exact hone
 all_goals
  simp only [RepC] at h
  have := z8k hl h
  simp only [D.bor0] at this ⊢
  first
   | exact this
   | (split <;> simp_all [RepC])
theorem RepCL.map {f : D → D} (hf : ∀ (d : D) (v : Value), RepC w M β d v → RepC w' M' β' (f d) v) {ds : List D} {vs : List Value} (h : RepCL w M β ds vs) : RepCL w' M' β' (ds.map f) vs :=
 ⟨by simpa using h.1, fun i d u a b => by
  rw [List.getElem?_map] at a
  cases hc : ds[i]? with
  | none => rw [hc] at a; cases a
  | some c => rw [hc] at a; simp at a; subst a; exact hf c u (h.2 i c u hc b)⟩
theorem z8i (hl : Lend w M0 β H) {d : D} {v : Value} (h : RepC0 w (Mof M0 β) β d v) : RepC0 w M0 [] (d.bor1 H) v := by
 cases d
 case vp t off =>
  have hone := h.oneCell
  simp only [D.bor1]
  cases hH : H[t]? with
  | none => exact hone
  | some o =>
   cases o with
   | var e cs =>
    obtain ⟨g, hβ, rfl⟩ := z2A h fun y hy => hl.objs t _ y hH hy
    simp only
    split
    ·rename_i hp
     obtain ⟨g', cur, he, hg, hcl⟩ := hl.objs t _ _ hH hβ
     cases he
     have ho := hl.out g ⟨t, _, hβ, rfl⟩
     have h2 := RepCL.toL (RepCL.map (fun d v h => zdY hl h) hcl) hp
     have hat : AtRow w M0 ⟨g, 0, none⟩ (cs.map (D.bor0 H)) := ⟨cur.toList, z0l hg, h2⟩
     have := hat.shift off
     rw [add_lit, Nat.zero_add] at this
     exact ⟨⟨g, off, none⟩, rfl, ho.2, ho.1, this⟩
    ·exact hone
   | _ => exact hone
 all_goals exact z8k hl h
theorem zfW (hl : Lend w M0 β H) {d : D} {v : Value} (h : RepC w (Mof M0 β) β d v) : RepC w M0 [] (d.bor H) v := by
 cases d
 case clo f caps =>
  obtain ⟨vs, h1, h2, h3⟩ := h
  refine ⟨vs, h1, by simpa using h2, fun i d u a b => ?_⟩
  rw [List.getElem?_map] at a
  cases hc : caps[i]? with
  | none => rw [hc] at a; cases a
  | some c => rw [hc] at a; simp at a; subst a; exact z8i hl (h3 i c u hc b)
 all_goals
  simp only [RepC] at h
  have := z8i hl h
  simp only [D.bor, D.bor1, D.bor0] at this ⊢
  first
   | exact this
   | ((repeat' split) <;> simp_all [RepC])
theorem RepV.map2 {f : D → D} {F : AV → AV} (hF1 : ∀ d, F (.one d) = .one (f d)) (hF2 : ∀ ds, F (.agg ds) = .agg (ds.map f)) (hF3 : ∀ vs, F (.tup vs) = .tup (vs.map fun | .one d => .one (f d) | .agg ds => .agg (ds.map f) | _ => .any)) (hF4 : ∀ g v, F (.cond g v) = .any) (hF5 : F .any = .any)
  (hf : ∀ (d : D) (v : Value), RepC w M β d v → RepC w' M' β' (f d) v) (a : AV) (v : Value) (h : RepV w M β a v) : RepV w' M' β' (F a) v := by
 have h1 : ∀ (d : D) (v : Value), RepV w M β (.one d) v → RepV w' M' β' (.one (f d)) v := fun d v h => hf d v h
 have h2 : ∀ (ds : List D) (v : Value), RepV w M β (.agg ds) v → RepV w' M' β' (.agg (ds.map f)) v := fun ds v h => by
  obtain ⟨vs, e, hl⟩ := h
  exact ⟨vs, e, RepCL.map hf hl⟩
 cases a with
 | one d => rw [hF1]; exact h1 d v h
 | agg ds => rw [hF2]; exact h2 ds v h
 | tup avs =>
  rw [hF3]
  obtain ⟨vs, e, hl⟩ := h
  have hg' := RepVL.get avs vs hl
  refine ⟨vs, e, RepVL.mk _ _ (by simpa using hg'.1) fun i b u hb hu => ?_⟩
  rw [List.getElem?_map] at hb
  cases hc : avs[i]? with
  | none => rw [hc] at hb; cases hb
  | some c =>
   rw [hc] at hb
   simp at hb
   subst hb
   have := hg'.2 i c u hc hu
   cases c <;> first | exact h1 _ _ this | exact h2 _ _ this | exact trivial
 | cond g x => rw [hF4]; exact trivial
 | any => rw [hF5]; exact trivial
theorem z3y (hl : Lend w M0 β H) (a : AV) (v : Value) (h : RepV w (Mof M0 β) β a v) : RepV w M0 [] (a.bor H) v :=
 RepV.map2 (F := AV.bor H) (fun _ => rfl) (fun _ => rfl) (fun _ => rfl) (fun _ _ => rfl) rfl (fun d v h => zfW hl h) a v h
theorem zaD {d : D} {v : Value} (h : RepC w M β d v) (ht : d.tagged = false) : RepC w M [] (d.bor H) v := by
 have hone := h.oneCell
 have h0 : ∀ (d : D) (v : Value), RepC0 w M β d v → (match d with | .own _ => true | .vp .. => true | .rp .. => true | .mp _ => true | _ => false) = false → RepC0 w M [] (d.bor1 H) v := by
  intro d v h ht
  have hone := h.oneCell
  cases d <;> first | (cases ht; done) | skip
  case nil =>
   obtain ⟨A, e0⟩ : ∃ A, v = .slice A 0 0 := h
   subst e0
   exact ⟨A, 0, rfl, Nat.le_refl _, Nat.zero_le _, .inl rfl⟩
  case clo f caps =>
   simp only [D.bor1, D.bor0]
   split
   ·rename_i he
    rw [List.isEmpty_iff] at he
    subst he
    exact h
   ·exact hone
  case full rows => exact zad h
  all_goals exact h
 cases d
 case clo f caps =>
  obtain ⟨vs, h1, h2, h3⟩ := h
  refine ⟨vs, h1, by simpa using h2, fun i d u a b => ?_⟩
  rw [List.getElem?_map] at a
  cases hc : caps[i]? with
  | none => rw [hc] at a; cases a
  | some c =>
   rw [hc] at a
   simp at a
   subst a
   refine h0 c u (h3 i c u hc b) ?_
   simp only [D.tagged, List.any_eq_false] at ht
   have := ht c (List.mem_of_getElem? hc)
   simpa using this
 case own => cases ht
 case vp => cases ht
 case rp => cases ht
 case mp => cases ht
 all_goals
  simp only [RepC] at h
  have := h0 _ v h ht
  simp only [D.bor, D.bor1, D.bor0] at this ⊢
  first
   | exact this
   | (simp_all [RepC])
theorem zfY (a : AV) (v : Value) (h : RepV w M β a v) (ht : a.tagged = false) : RepV w M [] (a.bor H) v := by
 cases a with
 | one d => exact zaD h ht
 | agg ds =>
  obtain ⟨vs, e, hl⟩ := h
  refine ⟨vs, e, by simpa using hl.1, fun i d u hd hu => ?_⟩
  rw [List.getElem?_map] at hd
  cases hc : ds[i]? with
  | none => rw [hc] at hd; cases hd
  | some c =>
   rw [hc] at hd
   simp at hd
   subst hd
   simp only [AV.tagged, List.any_eq_false] at ht
   exact zaD (hl.2 i c u hc hu) (by simpa using ht c (List.mem_of_getElem? hc))
 | tup => simp [AV.tagged] at ht
 | cond => simp [AV.tagged] at ht
 | any => simp [AV.tagged] at ht
structure Res (w w' : World) (M : Nat → Prop) (r : AV) (Hn : List AObj) (v : Value) (β : List Value) : Prop where
 below : Below w.heap.size w w'
 len : β.length = Hn.length
 objs : ∀ (t : Nat) (o : AObj) (h : Value), Hn[t]? = some o → β[t]? = some h → ObjRep w' (Mof M β) β o h
 fresh : ∀ g, owned β g → w.heap.size ≤ g ∧ g < w'.heap.size
 dist : ∀ (t t' : Nat) (x x' : Value) (g : Nat), β[t]? = some x → β[t']? = some x' → hblk x = some g → hblk x' = some g → t = t'
 val : RepV w' (Mof M β) β r v
def okFn (P : Program) (f : FuncId) : Bool := match P.funcs[f]? with | some fn => fn.name != "runtime.NumGoroutine" && fn.body.isSome | none => false
structure ACalls (P : Program) (f : FuncId) (args : List AV) (r : AV) (Hn : List AObj) : Prop where
 ok : okFn P f = true
 run : ∀ (w : World) (M : Nat → Prop) (vs : List Value), MOk w M [] → RepVL w M [] args vs →
  Calls P f ⟨vs⟩ w fun e w' => ∃ v β, e = .returned v ∧ Res w w' M r Hn v β
theorem RepD.flat {d : D} {v : Value} (h : RepD w M d v) (hf : d.flat = true) : RepD w' M' d v := by
 cases d <;> first | (cases hf; done) | exact h
theorem RepL.flat : ∀ {ds : List D} {vs : List Value}, RepL w M ds vs → ds.all D.flat = true → RepL w' M' ds vs
 | [], vs, h, _ => h
 | d :: ds, vs, h, hf => by
  simp only [List.all_cons, Bool.and_eq_true] at hf
  simp only [RepL] at h ⊢
  obtain ⟨v, rest, rfl, h1, h2⟩ := h
  exact ⟨v, rest, rfl, h1.flat hf.1, RepL.flat h2 hf.2⟩
theorem RepC0.shift (hk : Keeps w M w M') (ht : ∀ (t : Nat) (h : Value) , βn[t]? = some h → β'[β.length + t]? = some h) {d : D} {v : Value} (h : RepC0 w M βn d v) : RepC0 w M' β' (d.shift0 β.length) v := by
 cases d
 case unk => exact h
 case own t => exact ⟨h.1.imp (ht _ _) (ht _ _), h.2⟩
 case vp t off => rcases h with ⟨g, h1, h2⟩ | h; exact .inl ⟨g, ht _ _ h1, h2⟩; exact .inr ⟨ht _ _ h.1, h.2⟩
 case rp t i sz sub => rcases h with ⟨g, n, c, h1, h2⟩ | h; exact .inl ⟨g, n, c, ht _ _ h1, h2⟩; exact .inr ⟨ht _ _ h.1, h.2⟩
 case mp t => rcases h with ⟨g, h1, h2⟩ | h; exact .inl ⟨g, ht _ _ h1, h2⟩; exact .inr ⟨ht _ _ h.1, h.2⟩
 all_goals (simp only [RepC0, D.shift0] at h ⊢; exact RepD.keep hk _ _ h)
theorem RepC.shift (hk : Keeps w M w M') (ht : ∀ (t : Nat) (h : Value) , βn[t]? = some h → β'[β.length + t]? = some h) {d : D} {v : Value} (h : RepC w M βn d v) : RepC w M' β' (d.shift β.length) v := by
 cases d
 case clo f caps =>
  obtain ⟨vs, h1, h2, h3⟩ := h
  refine ⟨vs, h1, by simpa using h2, fun i d u a b => ?_⟩
  rw [List.getElem?_map] at a
  cases hc : caps[i]? with
  | none => rw [hc] at a; cases a
  | some c => rw [hc] at a; simp at a; subst a; exact (h3 i c u hc b).shift hk ht
 all_goals
  simp only [RepC] at h
  have := h.shift hk ht
  simp only [D.shift, D.shift0] at this ⊢
  exact this
theorem RepV.shift (hk : Keeps w M w M') (ht : ∀ (t : Nat) (h : Value) , βn[t]? = some h → β'[β.length + t]? = some h) (a : AV) (v : Value) (h : RepV w M βn a v) : RepV w M' β' (a.shift β.length) v :=
 RepV.map2 (F := AV.shift β.length) (fun _ => rfl) (fun _ => rfl) (fun _ => rfl) (fun _ _ => rfl) rfl (fun d v h => h.shift hk ht) a v h
theorem RepC.shiftFlat (ht : ∀ (t : Nat) (h : Value) , βn[t]? = some h → β'[β.length + t]? = some h) {d : D} {v : Value} (h : RepC w M βn d v) (hf : d.flatOwn = true) : RepC w M' β' (d.shift β.length) v := by
 cases d <;> first | (cases hf; done) | skip
 case own t => exact ⟨h.1.imp (ht _ _) (ht _ _), h.2⟩
 all_goals (simp only [RepC, RepC0] at h; simp only [D.shift, D.shift0, RepC, RepC0]; exact RepD.flat h rfl)
theorem RepV.shiftFlat (ht : ∀ (t : Nat) (h : Value) , βn[t]? = some h → β'[β.length + t]? = some h) (a : AV) (v : Value) (h : RepV w M βn a v) (hf : a.flatOwn = true) : RepV w M' β' (a.shift β.length) v := by
 have h2 : ∀ (ds : List D) (v : Value), RepV w M βn (.agg ds) v → ds.all D.flatOwn = true → RepV w M' β' (.agg (ds.map (D.shift β.length))) v := fun ds v h hf => by
  obtain ⟨vs, e, hl⟩ := h
  refine ⟨vs, e, by simpa using hl.1, fun i d u a b => ?_⟩
  rw [List.getElem?_map] at a
  cases hc : ds[i]? with
  | none => rw [hc] at a; cases a
  | some c =>
   rw [hc] at a; simp at a; subst a
   rw [List.all_eq_true] at hf
   exact (hl.2 i c u hc b).shiftFlat ht (hf c (List.mem_of_getElem? hc))
 cases a with
 | one d => exact RepC.shiftFlat (d := d) ht h hf
 | agg ds => exact h2 ds v h hf
 | tup avs =>
  obtain ⟨vs, e, hl⟩ := h
  have hg' := RepVL.get avs vs hl
  simp only [AV.flatOwn, List.all_eq_true] at hf
  refine ⟨vs, e, RepVL.mk _ _ (by simpa using hg'.1) fun i b u hb hu => ?_⟩
  rw [List.getElem?_map] at hb
  cases hc : avs[i]? with
  | none => rw [hc] at hb; cases hb
  | some c =>
   rw [hc] at hb
   simp at hb
   subst hb
   have h1 := hg'.2 i c u hc hu
   have h3 := hf c (List.mem_of_getElem? hc)
   cases c <;> first | (cases h3; done) | exact RepC.shiftFlat ht h1 h3 | exact h2 _ _ h1 h3
 | cond => cases hf
 | any => cases hf
theorem ObjRep.plainMove (hk : Keeps w M w M') {o : AObj} {h : Value} (hr : ObjRep w M β o h) (hp : o.plain = true) : ObjRep w M' β' o h := by
 cases o with
 | gone => exact hr
 | row e sz rows =>
  obtain ⟨A, c, h1, h2, h3, h4⟩ := hr
  refine ⟨A, c, h1, h2, h3, ?_⟩
  rcases h4 with h4 | ⟨hc0, g, cur, rfl, h5, h6, h7⟩
  ·exact .inl h4
  ·exact .inr ⟨hc0, g, cur, rfl, h5, h6, h7.keeps hk fun vs o x => x⟩
 | _ => cases hp
theorem ObjRep.flatMove {o : AObj} {h : Value} (hr : ObjRep w M β o h) (hp : o.flatP) : ObjRep w M' β' o h := by
 cases o with
 | gone => exact hr
 | row e sz rows =>
  obtain ⟨A, c, h1, h2, h3, h4⟩ := hr
  refine ⟨A, c, h1, h2, h3, ?_⟩
  rcases h4 with h4 | ⟨hc0, g, cur, rfl, h5, h6, h7⟩
  ·exact .inl h4
  ·refine .inr ⟨hc0, g, cur, rfl, h5, h6, RepRows.of_get rows 0 fun i r hi => ?_⟩
   obtain ⟨vs, a, b, c⟩ := RepRows.get rows 0 h7 i r hi
   exact ⟨vs, a, b, c.flat (hp r (List.mem_of_getElem? hi))⟩
 | _ => exact hp.elim
end
def z0d (args : List AV) (r : AV) (Hn : List AObj) : Prop :=
 (args.all (fun a => !a.tagged) = true ∧ Hn.all AObj.plain = true) ∨ (r.flatOwn = true ∧ ∀ o ∈ Hn, o.flatP)
section
variable {P : Program} {W0 w : World} {M0 : Nat → Prop} {F : List Value} {σ : AState} {a : Act} {β : List Value}
theorem Sim.lend (h : Sim W0 M0 F σ a w β) : Lend w M0 β σ.H := ⟨h.objs, fun g hg => ⟨fun hm => by
 rcases (h.fresh g hg).1 with h1 | h1
 ·exact (h.out g h1).1 hm
 ·have := h.m0.1 g hm; omega, (h.fresh g hg).2⟩⟩
theorem Sim.call (h : Sim W0 M0 F σ a w β) {f : FuncId} {args : List AV} {vs : List Value} {r : AV} {Hn : List AObj} (hv : RepVL w (Mof M0 β) β args vs) (hc : ACalls P f (args.map (AV.bor σ.H)) r Hn) (hs : z0d args r Hn) :
  Calls P f ⟨vs⟩ w fun e w' => ∃ v β', e = .returned v ∧ Sim W0 M0 F { σ with H := σ.H ++ Hn } a w' β' ∧ RepV w' (Mof M0 β') β' (r.shift σ.H.length) v := by
 have hg := RepVL.get args vs hv
 have hmap : ∀ (M1 : Nat → Prop), (∀ (x : AV) (v : Value), x ∈ args → RepV w (Mof M0 β) β x v → RepV w M1 [] (x.bor σ.H) v) → RepVL w M1 [] (args.map (AV.bor σ.H)) vs := fun M1 k =>
  RepVL.mk _ _ (by simpa using hg.1) fun i b u hb hu => by
   rw [List.getElem?_map] at hb
   cases hx : args[i]? with
   | none => rw [hx] at hb; cases hb
   | some x => rw [hx] at hb; simp at hb; subst hb; exact k x u (List.mem_of_getElem? hx) (hg.2 i x u hx hu)
 have htags : ∀ (βn : List Value) (t : Nat) (x : Value), βn[t]? = some x → (β ++ βn)[β.length + t]? = some x := fun βn t x hx => by
  rw [List.getElem?_append_right (by omega)]; simpa using hx
 rcases hs with ⟨hs1, hs2⟩ | ⟨hs1, hs2⟩
 ·refine (hc.2 w (Mof M0 β) vs (h.mok_of (fun _ h => h) fun _ h => (z3o h).elim) (hmap _ fun x v hx hr => zfY x v hr ?_)).mono ?_
  ·rw [List.all_eq_true] at hs1
   simpa using hs1 x hx
  ·rintro e w' ⟨v, βn, rfl, hR⟩
   have hM : ∀ g, Mof (Mof M0 β) βn g ↔ Mof M0 (β ++ βn) g := fun g => by
    constructor
    ·rintro ((hm | ⟨t, x, h1, h2⟩) | ⟨t, x, h1, h2⟩)
     ·exact .inl hm
     ·exact .inr ⟨t, x, by rw [List.getElem?_append, if_pos (List.getElem?_eq_some_iff.1 h1).1]; exact h1, h2⟩
     ·exact .inr ⟨_, x, htags βn t x h1, h2⟩
    ·rintro (hm | ⟨t, x, h1, h2⟩)
     ·exact .inl (.inl hm)
     ·rw [List.getElem?_append] at h1
      split at h1
      ·exact .inl (.inr ⟨t, x, h1, h2⟩)
      ·exact .inr ⟨_, x, h1, h2⟩
   have hk : Keeps w' (Mof (Mof M0 β) βn) w' (Mof M0 (β ++ βn)) := ⟨Nat.le_refl _, fun _ _ _ => rfl, fun g _ hm hm' => hm ((hM g).2 hm')⟩
   refine ⟨v, β ++ βn, rfl, h.push hR.below hR.len hR.fresh hR.dist fun t o x ho hx => ?_, ?_⟩
   ·rw [List.all_eq_true] at hs2
    exact (hR.objs t o x ho hx).plainMove hk (hs2 o (List.mem_of_getElem? ho))
   ·rw [← h.len]
    exact RepV.shift hk (htags βn) r v hR.val
 ·refine (hc.2 w M0 vs h.mok0 (hmap _ fun x v hx hr => z3y h.lend x v hr)).mono ?_
  rintro e w' ⟨v, βn, rfl, hR⟩
  refine ⟨v, β ++ βn, rfl, h.push hR.below hR.len hR.fresh hR.dist fun t o x ho hx => ?_, ?_⟩
  ·exact (hR.objs t o x ho hx).flatMove (hs2 o (List.mem_of_getElem? ho))
  ·rw [← h.len]
   exact RepV.shiftFlat (htags βn) r v hR.val hs1
end
end Go.Eng
namespace Go.Eng
open Go.RowKit
def D.ren0 (f : Nat → Option Nat) : D → D
 | .own t => match f t with | some k => .own k | none => .unk
 | .vp t off => match f t with | some k => .vp k off | none => .unk
 | .rp t i sz sub => match f t with | some k => .rp k i sz sub | none => .unk
 | .mp t => match f t with | some k => .mp k | none => .unk
 | d => d
def D.ren (f : Nat → Option Nat) : D → D
 | .clo fn caps => .clo fn (caps.map (D.ren0 f))
 | d => d.ren0 f
def AV.ren (f : Nat → Option Nat) : AV → AV
 | .one d => .one (d.ren f)
 | .agg ds => .agg (ds.map (D.ren f))
 | .tup vs => .tup (vs.map fun | .one d => .one (d.ren f) | .agg ds => .agg (ds.map (D.ren f)) | _ => .any)
 | .cond g (.one d) => .cond g (.one (d.ren f))
 | .cond g (.agg ds) => .cond g (.agg (ds.map (D.ren f)))
 | _ => .any
def AObj.ren (f : Nat → Option Nat) : AObj → AObj
 | .var e cs => .var e (cs.map (D.ren f))
 | .map kd kvs => .map kd (kvs.map fun kv => (kv.1.ren f, kv.2.ren f))
 | x => x
structure Ren (w : World) (M : Nat → Prop) (β : List Value) (w' : World) (M' : Nat → Prop) (β' : List Value) (f : Nat → Option Nat) : Prop where
 keeps : Keeps w M w' M'
 tags : ∀ (t k : Nat) (h : Value), f t = some k → β[t]? = some h → β'[k]? = some h
section
variable {w w' : World} {M M' : Nat → Prop} {β β' : List Value} {f : Nat → Option Nat}
theorem RepC0.ren (hg : Ren w M β w' M' β' f) {d : D} {v : Value} (h : RepC0 w M β d v) : RepC0 w' M' β' (d.ren0 f) v := by
 have hone := h.oneCell
 cases d
 case unk => exact h
 case own t =>
  simp only [D.ren0]
  cases hf : f t with
  | none => exact hone
  | some k => exact ⟨h.1.imp (hg.tags t k _ hf) (hg.tags t k _ hf), h.2⟩
 case vp t off =>
  simp only [D.ren0]
  cases hf : f t with
  | none => exact hone
  | some k => rcases h with ⟨g, h1, h2⟩ | h; exact .inl ⟨g, hg.tags t k _ hf h1, h2⟩; exact .inr ⟨hg.tags t k _ hf h.1, h.2⟩
 case rp t i sz sub =>
  simp only [D.ren0]
  cases hf : f t with
  | none => exact hone
  | some k => rcases h with ⟨g, n, c, h1, h2⟩ | h; exact .inl ⟨g, n, c, hg.tags t k _ hf h1, h2⟩; exact .inr ⟨hg.tags t k _ hf h.1, h.2⟩
 case mp t =>
  simp only [D.ren0]
  cases hf : f t with
  | none => exact hone
  | some k => rcases h with ⟨g, h1, h2⟩ | h; exact .inl ⟨g, hg.tags t k _ hf h1, h2⟩; exact .inr ⟨hg.tags t k _ hf h.1, h.2⟩
 all_goals (simp only [RepC0, D.ren0] at h ⊢; exact RepD.keep hg.keeps _ _ h)
theorem RepC.ren (hg : Ren w M β w' M' β' f) {d : D} {v : Value} (h : RepC w M β d v) : RepC w' M' β' (d.ren f) v := by
 cases d
 case clo fn caps =>
  obtain ⟨vs, h1, h2, h3⟩ := h
  refine ⟨vs, h1, by simpa using h2, fun i d u a b => ?_⟩
  rw [List.getElem?_map] at a
  cases hc : caps[i]? with
  | none => rw [hc] at a; cases a
  | some c => rw [hc] at a; simp at a; subst a; exact (h3 i c u hc b).ren hg
 all_goals
  simp only [RepC] at h
  have := h.ren hg
  simp only [D.ren]
  simp only [D.ren0] at this ⊢
  first
   | exact this
   | (split at this <;> simp_all [RepC])
theorem RepV.ren (hg : Ren w M β w' M' β' f) : ∀ (a : AV) (v : Value), RepV w M β a v → RepV w' M' β' (a.ren f) v := by
 have h1 : ∀ (d : D) (v : Value), RepV w M β (.one d) v → RepV w' M' β' (.one (d.ren f)) v := fun d v h => RepC.ren hg h
 have h2 : ∀ (ds : List D) (v : Value), RepV w M β (.agg ds) v → RepV w' M' β' (.agg (ds.map (D.ren f))) v := fun ds v h => by
  obtain ⟨vs, e, hl⟩ := h
  exact ⟨vs, e, RepCL.map (fun d v h => RepC.ren hg h) hl⟩
 intro a v h
 cases a with
 | one d => exact h1 d v h
 | agg ds => exact h2 ds v h
 | tup avs =>
  obtain ⟨vs, e, hl⟩ := h
  have hg' := RepVL.get avs vs hl
  refine ⟨vs, e, RepVL.mk _ _ (by simpa using hg'.1) fun i b u hb hu => ?_⟩
  rw [List.getElem?_map] at hb
  cases hc : avs[i]? with
  | none => rw [hc] at hb; cases hb
  | some c =>
   rw [hc] at hb
   simp at hb
   subst hb
   have := hg'.2 i c u hc hu
   cases c <;> first | exact h1 _ _ this | exact h2 _ _ this | exact trivial
 | cond g x => cases x <;> first | exact ⟨fun hh => h1 _ _ (h.1 hh), h.2⟩ | exact ⟨fun hh => h2 _ _ (h.1 hh), h.2⟩ | exact trivial
 | any => exact trivial
theorem z9M {kd : KeyKind} {a : AV} (h : z0c kd a = true) : z0c kd (a.ren f) = true := by
 cases z1k h with
 | str s => rfl
 | int k z => exact h
 | pair q a b => rfl
theorem ObjRep.ren (hg : Ren w M β w' M' β' f) {x : AObj} {h : Value} (hb : ∀ g, hblk h = some g → w'.heap[g]? = w.heap[g]?) (hr : ObjRep w M β x h) : ObjRep w' M' β' (x.ren f) h := by
 cases x with
 | gone => exact hr
 | row e sz rows =>
  obtain ⟨A, c, h1, h2, h3, h4⟩ := hr
  refine ⟨A, c, h1, h2, h3, ?_⟩
  rcases h4 with h4 | ⟨hc0, g, cur, rfl, h5, h6, h7⟩
  ·exact .inl h4
  ·have hgg := hb g (by rw [h1]; exact hblk_row hc0)
   exact .inr ⟨hc0, g, cur, rfl, hgg.trans h5, h6, h7.keeps hg.keeps fun vs o => z21 (by exact hgg)⟩
 | var e cs =>
  obtain ⟨g, cur, h1, h2, h3⟩ := hr
  exact ⟨g, cur, h1, (hb g (by rw [h1]; rfl)).trans h2, RepCL.map (fun d v h => RepC.ren hg h) h3⟩
 | map kd kvs =>
  obtain ⟨hp, g, es, clk, h1, h2, h3, h4⟩ := hr
  refine ⟨fun kv hkv => ?_, g, es, clk, h1, (hb g (by rw [h1]; rfl)).trans h2, by simpa using h3, fun i kv e a b => ?_⟩
  ·obtain ⟨kv', hm, rfl⟩ := List.mem_map.1 hkv
   exact z9M (hp kv' hm)
  rw [List.getElem?_map] at a
  cases hc : kvs[i]? with
  | none => rw [hc] at a; cases a
  | some c => rw [hc] at a; simp at a; subst a; exact ⟨RepV.ren hg _ _ (h4 i c e hc b).1, RepV.ren hg _ _ (h4 i c e hc b).2⟩
end
structure MPre (w : World) (M0 : Nat → Prop) (F : List Value) (Hin : List AObj) : Prop where
 len : F.length = Hin.length
 objs : ∀ (t : Nat) (o : AObj) (h : Value), Hin[t]? = some o → F[t]? = some h → ObjRep w (Mof M0 F) F o h
 out : ∀ g, owned F g → ¬ M0 g ∧ g < w.heap.size
 dist : ∀ (t t' : Nat) (x x' : Value) (g : Nat), F[t]? = some x → F[t']? = some x' → hblk x = some g → hblk x' = some g → t = t'
structure ResM (w w' : World) (M0 : Nat → Prop) (F : List Value) (p : Nat) (r : AV) (Hout : List AObj) (v : Value) (β : List Value) : Prop where
 below : BelowX (owned F) w w'
 len : β.length = Hout.length
 pins : ∀ t, t < p → β[t]? = F[t]?
 objs : ∀ (t : Nat) (o : AObj) (h : Value), Hout[t]? = some o → β[t]? = some h → ObjRep w' (Mof M0 β) β o h
 fresh : ∀ g, owned β g → (owned F g ∨ w.heap.size ≤ g) ∧ g < w'.heap.size
 dist : ∀ (t t' : Nat) (x x' : Value) (g : Nat), β[t]? = some x → β[t']? = some x' → hblk x = some g → hblk x' = some g → t = t'
 val : RepV w' (Mof M0 β) β r v
structure MCalls (P : Program) (f : FuncId) (p : Nat) (Hin : List AObj) (args : List AV) (r : AV) (Hout : List AObj) : Prop where
 ok : okFn P f = true
 len : Hout.length = Hin.length
 run : ∀ (w : World) (M0 : Nat → Prop) (F : List Value) (vs : List Value), MOk w M0 F → MPre w M0 F Hin → RepVL w (Mof M0 F) F args vs →
  Calls P f ⟨vs⟩ w fun e w' => ∃ v β, e = .returned v ∧ ResM w w' M0 F p r Hout v β
def idxIn : List Nat → Nat → Option Nat
 | [], _ => none
 | x :: xs, t => if x = t then some 0 else (idxIn xs t).map (· + 1)
def nthT (ts : List Nat) (k : Nat) : Option Nat := ts[k]?
def keepT (ts : List Nat) (p : Nat) (t : Nat) : Option Nat := match idxIn ts t with | some i => if i < p then some t else none | none => some t
theorem z0G : ∀ {ts : List Nat} {t i : Nat}, idxIn ts t = some i → ts[i]? = some t
 | [], t, i, h => by cases h
 | x :: xs, t, i, h => by
  simp only [idxIn] at h
  split at h
  ·rename_i hx; cases h; simp [hx]
  ·rw [Option.map_eq_some_iff] at h
   obtain ⟨j, h1, rfl⟩ := h
   simpa using z0G h1
theorem z3b : ∀ {ts : List Nat} (_ : ts.Nodup) {i t : Nat} (_ : ts[i]? = some t), idxIn ts t = some i
 | [], _, i, t, h => by simp at h
 | x :: xs, hn, 0, t, h => by
  simp at h
  subst h
  simp [idxIn]
 | x :: xs, hn, i + 1, t, h => by
  rw [List.nodup_cons] at hn
  have h' : xs[i]? = some t := by simpa using h
  have hne : x ≠ t := fun e => hn.1 (by rw [e]; exact List.mem_of_getElem? h')
  simp [idxIn, hne, z3b hn.2 h']
def z5w (ts : List Nat) (H : List AObj) : List AObj := ts.map fun t => (H.getD t .gone).ren (idxIn ts)
def z2L (ts : List Nat) (p : Nat) (Hout : List AObj) : Nat → List AObj → List AObj
 | _, [] => []
 | k, o :: os => (match idxIn ts k with | some i => (Hout.getD i .gone).ren (nthT ts) | none => if ts.length ≤ p then o else o.ren (keepT ts p)) :: z2L ts p Hout (k + 1) os
theorem z3J (ts : List Nat) (p : Nat) (Hout : List AObj) : ∀ (H : List AObj) (k : Nat), (z2L ts p Hout k H).length = H.length
 | [], _ => rfl
 | o :: os, k => by simp [z2L, z3J ts p Hout os]
theorem z6N (ts : List Nat) (p : Nat) (Hout : List AObj) : ∀ (H : List AObj) (k t : Nat), (z2L ts p Hout k H)[t]? = (H[t]?).map fun o => match idxIn ts (k + t) with | some i => (Hout.getD i .gone).ren (nthT ts) | none => if ts.length ≤ p then o else o.ren (keepT ts p)
 | [], _, t => by simp [z2L]
 | o :: os, k, 0 => by simp [z2L]
 | o :: os, k, t + 1 => by simp only [z2L, List.getElem?_cons_succ, z6N ts p Hout os (k + 1) t]; rw [show k + 1 + t = k + (t + 1) by omega]
def AState.handed (σ : AState) (ts : List Nat) (p : Nat) (Hout : List AObj) : AState :=
 { n := σ.n, slots := if ts.length ≤ p then σ.slots else σ.slots.map fun s => (s.1, s.2.ren (keepT ts p)), H := z2L ts p Hout 0 σ.H, pin := σ.pin }
def z2a (σ : AState) (ts : List Nat) (p : Nat) : Prop := ts.Nodup ∧ (∀ t ∈ ts, t < σ.H.length) ∧ ∀ t ∈ ts.drop p, σ.pin ≤ t
section
variable {P : Program} {W0 w : World} {M0 : Nat → Prop} {F : List Value} {σ : AState} {a : Act} {β : List Value}
theorem z9Z (f : AV → AV) {l : List (Nat × AV)} {i : Nat} {v : AV} (h : lookS (l.map fun s => (s.1, f s.2)) i = some v) : ∃ u, lookS l i = some u ∧ v = f u := by
 rw [z6F] at h
 cases hl : lookS l i with
 | none => rw [hl] at h; cases h
 | some u => rw [hl] at h; exact ⟨u, rfl, by simpa using h.symm⟩
theorem Sim.mcall (h : Sim W0 M0 F σ a w β) {f : FuncId} {args : List AV} {vs : List Value} {r : AV} {Hout : List AObj} {ts : List Nat} {p : Nat} (hok : z2a σ ts p) (hv : RepVL w (Mof M0 β) β args vs)
  (hc : MCalls P f p (z5w ts σ.H) (args.map (AV.ren (idxIn ts))) r Hout) :
  Calls P f ⟨vs⟩ w fun e w' => ∃ v β', e = .returned v ∧ Sim W0 M0 F (σ.handed ts p Hout) a w' β' ∧ RepV w' (Mof M0 β') β' (r.ren (nthT ts)) v := by
 obtain ⟨hnd, hlt, hpin⟩ := hok
 obtain ⟨F', hF'⟩ : ∃ F' : List Value, F' = ts.map fun t => β.getD t undef := ⟨_, rfl⟩
 obtain ⟨βo, hβo⟩ : ∃ βo : List Value, βo = (List.range β.length).map fun t => match idxIn ts t with | some _ => undef | none => β.getD t undef := ⟨_, rfl⟩
 have hin : ∀ t, t ∈ ts → t < β.length := fun t ht => by rw [h.len]; exact hlt t ht
 have getF : ∀ i t, ts[i]? = some t → F'[i]? = β[t]? := fun i t hi => by
  rw [hF', List.getElem?_map, hi]
  exact (getD_some (hin t (List.mem_of_getElem? hi)) undef).symm
 have getF2 : ∀ (i : Nat) (x : Value), F'[i]? = some x → ∃ t, ts[i]? = some t ∧ β[t]? = some x := fun i x hx => by
  cases ht : ts[i]? with
  | none => rw [hF', List.getElem?_map, ht] at hx; cases hx
  | some t => rw [getF i t ht] at hx; exact ⟨t, rfl, hx⟩
 have geto : ∀ (t : Nat) (x : Value), βo[t]? = some x → (idxIn ts t = none ∧ β[t]? = some x) ∨ x = undef := fun t x hx => by
  have htl : t < β.length := by have := (List.getElem?_eq_some_iff.1 hx).1; rw [hβo] at this; simpa using this
  rw [hβo, List.getElem?_map, List.getElem?_range htl] at hx
  simp only [Option.map_some, Option.some.injEq] at hx
  cases hi : idxIn ts t with
  | some i => rw [hi] at hx; exact .inr hx.symm
  | none => rw [hi] at hx; left; exact ⟨rfl, by rw [← hx]; exact getD_some htl undef⟩
 have geto2 : ∀ (t : Nat) (x : Value), idxIn ts t = none → β[t]? = some x → βo[t]? = some x := fun t x hi hx => by
  have htl : t < β.length := (List.getElem?_eq_some_iff.1 hx).1
  rw [hβo, List.getElem?_map, List.getElem?_range htl]
  simp only [Option.map_some, hi]
  rw [← hx, getD_some htl undef]
 have ownF : ∀ g, owned F' g → ∃ i t x, ts[i]? = some t ∧ β[t]? = some x ∧ hblk x = some g := fun g ⟨i, x, h1, h2⟩ => by
  obtain ⟨t, h3, h4⟩ := getF2 i x h1
  exact ⟨i, t, x, h3, h4, h2⟩
 have ownF1 : ∀ g, owned F' g → owned β g := fun g hg => by obtain ⟨i, t, x, h1, h2, h3⟩ := ownF g hg; exact ⟨t, x, h2, h3⟩
 have owno : ∀ g, owned βo g → ∃ t x, idxIn ts t = none ∧ β[t]? = some x ∧ hblk x = some g := fun g ⟨t, x, h1, h2⟩ => by
  rcases geto t x h1 with ⟨h3, h4⟩ | rfl
  ·exact ⟨t, x, h3, h4, h2⟩
  ·cases h2
 have ownDisj : ∀ g, owned F' g → ¬ owned βo g := fun g hg hg' => by
  obtain ⟨i, t, x, h1, h2, h3⟩ := ownF g hg
  obtain ⟨t', x', k1, k2, k3⟩ := owno g hg'
  have := h.dist t t' x x' g h2 k2 h3 k3
  subst this
  rw [z3b hnd h1] at k1
  cases k1
 have hM1 : ∀ g, Mof (Mof M0 βo) F' g ↔ Mof M0 β g := fun g => by
  constructor
  ·rintro ((hm | hm) | hm)
   ·exact .inl hm
   ·obtain ⟨t, x, _, k2, k3⟩ := owno g hm; exact .inr ⟨t, x, k2, k3⟩
   ·exact .inr (ownF1 g hm)
  ·rintro (hm | ⟨t, x, h1, h2⟩)
   ·exact .inl (.inl hm)
   ·cases hi : idxIn ts t with
    | none => exact .inl (.inr ⟨t, x, geto2 t x hi h1, h2⟩)
    | some i => exact .inr ⟨i, x, by rw [getF i t (z0G hi)]; exact h1, h2⟩
 have hRin : Ren w (Mof M0 β) β w (Mof (Mof M0 βo) F') F' (idxIn ts) := by
  refine ⟨⟨Nat.le_refl _, fun _ _ _ => rfl, fun g _ hm hm' => hm ((hM1 g).1 hm')⟩, fun t k x hk hx => ?_⟩
  rw [getF k t (z0G hk)]; exact hx
 have hpre : MPre w (Mof M0 βo) F' (z5w ts σ.H) := by
  refine ⟨by rw [hF']; simp [z5w], fun i o x ho hx => ?_, fun g hg => ?_, fun i i' x x' g h1 h2 h3 h4 => ?_⟩
  ·obtain ⟨t, h1, h2⟩ := getF2 i x hx
   simp only [z5w, List.getElem?_map, h1, Option.map_some, Option.some.injEq] at ho
   subst ho
   have htl := hlt t (List.mem_of_getElem? h1)
   exact ObjRep.ren hRin (fun _ _ => rfl) (h.objs t _ x (getD_some htl _) h2)
  ·have hob := ownF1 g hg
   refine ⟨fun hm => ?_, (h.fresh g hob).2⟩
   rcases hm with hm | hm
   ·exact (h.lend.out g hob).1 hm
   ·exact ownDisj g hg hm
  ·obtain ⟨t, k1, k2⟩ := getF2 i x h1
   obtain ⟨t', k3, k4⟩ := getF2 i' x' h2
   have := h.dist t t' x x' g k2 k4 h3 h4
   subst this
   have e1 := z3b hnd k1
   rw [z3b hnd k3] at e1
   cases e1; rfl
 have hg := RepVL.get args vs hv
 have hargs : RepVL w (Mof (Mof M0 βo) F') F' (args.map (AV.ren (idxIn ts))) vs := RepVL.mk _ _ (by simpa using hg.1) fun i b u hb hu => by
  rw [List.getElem?_map] at hb
  cases hx : args[i]? with
  | none => rw [hx] at hb; cases hb
  | some x => rw [hx] at hb; simp at hb; subst hb; exact RepV.ren hRin _ _ (hg.2 i x u hx hu)
 refine (hc.run w (Mof M0 βo) F' vs (h.mok_of (fun g hm => (hM1 g).1 (.inl hm)) ownF1) hpre hargs).mono ?_
 rintro e w' ⟨v, β', rfl, hR⟩
 have hlen' : β'.length = ts.length := by rw [hR.len, hc.len]; simp [z5w]
 obtain ⟨β2, hβ2⟩ : ∃ β2 : List Value, β2 = (List.range β.length).map fun t => match idxIn ts t with | some i => β'.getD i undef | none => β.getD t undef := ⟨_, rfl⟩
 have h2len : β2.length = β.length := by rw [hβ2]; simp
 have get2 : ∀ (t : Nat) (x : Value), β2[t]? = some x → (idxIn ts t = none ∧ β[t]? = some x) ∨ ∃ i, idxIn ts t = some i ∧ β'[i]? = some x := fun t x hx => by
  have htl : t < β.length := by have := (List.getElem?_eq_some_iff.1 hx).1; rw [h2len] at this; exact this
  rw [hβ2, List.getElem?_map, List.getElem?_range htl] at hx
  simp only [Option.map_some, Option.some.injEq] at hx
  cases hi : idxIn ts t with
  | some i =>
   rw [hi] at hx
   have hil : i < β'.length := by rw [hlen']; exact (List.getElem?_eq_some_iff.1 (z0G hi)).1
   exact .inr ⟨i, rfl, by rw [← hx]; exact getD_some hil undef⟩
  | none => rw [hi] at hx; left; exact ⟨rfl, by rw [← hx]; exact getD_some htl undef⟩
 have get2n : ∀ (t : Nat) (x : Value), idxIn ts t = none → β[t]? = some x → β2[t]? = some x := fun t x hi hx => by
  have htl : t < β.length := (List.getElem?_eq_some_iff.1 hx).1
  rw [hβ2, List.getElem?_map, List.getElem?_range htl]
  simp only [Option.map_some, hi]
  rw [← hx, getD_some htl undef]
 have get2s : ∀ (t i : Nat) (x : Value), idxIn ts t = some i → β'[i]? = some x → β2[t]? = some x := fun t i x hi hx => by
  have htl : t < β.length := hin t (List.mem_of_getElem? (z0G hi))
  rw [hβ2, List.getElem?_map, List.getElem?_range htl]
  simp only [Option.map_some, hi]
  rw [← hx, getD_some (List.getElem?_eq_some_iff.1 hx).1 undef]
 have own2 : ∀ g, owned β2 g → owned βo g ∨ owned β' g := fun g ⟨t, x, h1, h2⟩ => by
  rcases get2 t x h1 with ⟨k1, k2⟩ | ⟨i, k1, k2⟩
  ·exact .inl ⟨t, x, geto2 t x k1 k2, h2⟩
  ·exact .inr ⟨i, x, k2, h2⟩
 have hRout : Ren w' (Mof (Mof M0 βo) β') β' w' (Mof M0 β2) β2 (nthT ts) := by
  refine ⟨⟨Nat.le_refl _, fun _ _ _ => rfl, fun g _ hm hm' => hm ?_⟩, fun k t x hk hx => ?_⟩
  ·rcases hm' with hm' | hm'
   ·exact .inl (.inl hm')
   ·rcases own2 g hm' with hm' | hm'
    ·exact .inl (.inr hm')
    ·exact .inr hm'
  ·exact get2s t k x (z3b hnd hk) hx
 have hkeepO : Keeps w (Mof M0 β) w' (Mof M0 β2) := by
  refine ⟨hR.below.size, fun g hlt hm => hR.below.block g hlt fun ho => hm (.inr (ownF1 g ho)), fun g hlt hm hm' => ?_⟩
  rcases hm' with hm' | hm'
  ·exact hm (.inl hm')
  ·rcases own2 g hm' with hm' | hm'
   ·obtain ⟨t, x, _, k2, k3⟩ := owno g hm'; exact hm (.inr ⟨t, x, k2, k3⟩)
   ·rcases (hR.fresh g hm').1 with k | k
    ·exact hm (.inr (ownF1 g k))
    ·omega
 have keepTag : ∀ (t k : Nat) (x : Value), keepT ts p t = some k → β[t]? = some x → β2[k]? = some x := fun t k x hk hx => by
  unfold keepT at hk
  cases hi : idxIn ts t with
  | none => rw [hi] at hk; cases hk; exact get2n t x hi hx
  | some i =>
   rw [hi] at hk
   simp only at hk
   split at hk
   ·rename_i hip
    cases hk
    exact get2s t i x hi (by rw [hR.pins i hip, getF i t (z0G hi)]; exact hx)
   ·cases hk
 have hRo : Ren w (Mof M0 β) β w' (Mof M0 β2) β2 (keepT ts p) := ⟨hkeepO, keepTag⟩
 have hGo : ts.length ≤ p → Grow w (Mof M0 β) β w' (Mof M0 β2) β2 := fun hp => ⟨hkeepO, fun t x hx => keepTag t t x (by
  unfold keepT
  cases hi : idxIn ts t with
  | none => rfl
  | some i =>
   have := (List.getElem?_eq_some_iff.1 (z0G hi)).1
   simp only
   rw [if_pos (by omega)]) hx⟩
 refine ⟨v, β2, rfl, ⟨?_, h.m0, ?_, ?_, ?_, ?_, ?_, h.size, h.defers, h.out, h.pins.1, ?_⟩, RepV.ren hRout _ _ hR.val⟩
 ·refine h.below.trans hR.below fun g hg ho => ?_
  rcases (h.fresh g (ownF1 g ho)).1 with k | k
  ·exact k
  ·omega
 ·rw [h2len, h.len]; simp [AState.handed, z3J]
 ·intro t o x ho hx
  simp only [AState.handed, z6N, Nat.zero_add] at ho
  cases hH : σ.H[t]? with
  | none => rw [hH] at ho; cases ho
  | some q =>
   rw [hH] at ho
   simp only [Option.map_some, Option.some.injEq] at ho
   rcases get2 t x hx with ⟨k1, k2⟩ | ⟨i, k1, k2⟩
   ·rw [k1] at ho
    have hblock : ∀ g, hblk x = some g → w'.heap[g]? = w.heap[g]? := fun g hgx => hR.below.block g (h.fresh g ⟨t, x, k2, hgx⟩).2 fun hFg => ownDisj g hFg ⟨t, x, geto2 t x k1 k2, hgx⟩
    simp only at ho
    split at ho
    ·rename_i hp
     subst ho
     exact ObjRep.grow (hGo hp) hblock (h.objs t q x hH k2)
    ·subst ho
     exact ObjRep.ren hRo hblock (h.objs t q x hH k2)
   ·rw [k1] at ho
    simp only at ho
    subst ho
    have hil : i < Hout.length := by rw [← hR.len]; exact (List.getElem?_eq_some_iff.1 k2).1
    exact ObjRep.ren hRout (fun _ _ => rfl) (hR.objs i _ x (getD_some hil _) k2)
 ·intro g hg
  rcases own2 g hg with hm | hm
  ·obtain ⟨t, x, _, k2, k3⟩ := owno g hm
   exact ⟨(h.fresh g ⟨t, x, k2, k3⟩).1, Nat.lt_of_lt_of_le (h.fresh g ⟨t, x, k2, k3⟩).2 hR.below.size⟩
  ·obtain ⟨k1, k2⟩ := hR.fresh g hm
   refine ⟨?_, k2⟩
   rcases k1 with k1 | k1
   ·exact (h.fresh g (ownF1 g k1)).1
   ·exact .inr (Nat.le_trans h.below.size k1)
 ·intro t t' x x' g h1 h2 h3 h4
  rcases get2 t x h1 with ⟨k1, k2⟩ | ⟨i, k1, k2⟩ <;> rcases get2 t' x' h2 with ⟨l1, l2⟩ | ⟨i', l1, l2⟩
  ·exact h.dist t t' x x' g k2 l2 h3 h4
  ·exfalso
   rcases (hR.fresh g ⟨i', x', l2, h4⟩).1 with q | q
   ·exact ownDisj g q ⟨t, x, geto2 t x k1 k2, h3⟩
   ·have := (h.fresh g ⟨t, x, k2, h3⟩).2; omega
  ·exfalso
   rcases (hR.fresh g ⟨i, x, k2, h3⟩).1 with q | q
   ·exact ownDisj g q ⟨t', x', geto2 t' x' l1 l2, h4⟩
   ·have := (h.fresh g ⟨t', x', l2, h4⟩).2; omega
  ·have e := hR.dist i i' x x' g k2 l2 h3 h4
   subst e
   have e1 := z0G k1
   rw [z0G l1] at e1
   cases e1; rfl
 ·intro i u hu
  simp only [AState.handed] at hu
  split at hu
  ·rename_i hp
   obtain ⟨x, h1, h2⟩ := h.slots i u hu
   exact ⟨x, h1, RepV.grow (hGo hp) u x h2⟩
  ·obtain ⟨u0, hl, rfl⟩ := z9Z (AV.ren (keepT ts p)) hu
   obtain ⟨x, h1, h2⟩ := h.slots i u0 hl
   exact ⟨x, h1, RepV.ren hRo u0 x h2⟩
 ·intro t ht
  have ht' : t < σ.pin := ht
  have hF := h.pins.2 t ht'
  have hFl : t < F.length := Nat.lt_of_lt_of_le ht' h.pins.1
  rw [List.getElem?_eq_getElem hFl] at hF ⊢
  cases hi : idxIn ts t with
  | none => exact get2n t _ hi hF
  | some i =>
   have hip : i < p := by
    refine Nat.lt_of_not_le fun hpi => ?_
    have hmem : t ∈ ts.drop p := by
     have := z0G hi
     refine List.mem_of_getElem? (i := i - p) ?_
     rw [List.getElem?_drop, show p + (i - p) = i by omega]
     exact this
    have := hpin t hmem
    omega
   exact get2s t i _ hi (by rw [hR.pins i hip, getF i t (z0G hi)]; exact hF)
end
end Go.Eng
