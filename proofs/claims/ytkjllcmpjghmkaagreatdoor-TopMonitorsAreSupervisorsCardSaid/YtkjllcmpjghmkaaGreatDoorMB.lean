/-
 The automaton of a net, in plain Lean: the edges of a search, the table of its steps, the automaton by events.
-/
import Derived.Test.YtkjllcmpjghmkaaGreatDoorSG
import Derived.Test.YtkjllcmpjghmkaaGreatDoorMA
import Derived.Test.YtkjllcmpjghmkaaGreatDoorSV
set_option linter.unusedSimpArgs false
set_option linter.unusedVariables false
namespace Go.Proofs.YtkjllcmpjghmkaaGreatDoor
open Go.Eng Go.RowKit
def ixM (nd : List SN) (m : List Int) : Nat := (fndF m 0 nd).getD 0
def edgT (n : Net) (nd : List SN) (i : Nat) (t : Int) : Edg := ⟨i, t, (ixM nd (z05 (n.trs.getD t.toNat Tr.no) (nd.getD i SN.no).m) : Nat)⟩
def outE (n : Net) (nd : List SN) (i : Nat) : List Edg := (ableL n (nd.getD i SN.no).m n.trs.length).map (edgT n nd i)
def grE (n : Net) (nd : List SN) : List Edg := (List.range nd.length).flatMap (outE n nd)
theorem z6S {m : List Int} (b : List SN) : ∀ {a : List SN} {i k : Nat}, fndF m i a = some k → fndF m i (a ++ b) = some k
 | [], _, _, h => by cases h
 | x :: a, i, k, h => by
  simp only [List.cons_append, fndF] at h ⊢
  split
  ·rename_i e; rw [if_pos e] at h; exact h
  ·rename_i e; rw [if_neg e] at h; exact z6S b h
theorem zho {m : List Int} {a b : List SN} (h : a <+: b) {k : Nat} (hk : fndF m 0 a = some k) : fndF m 0 b = some k := by
 obtain ⟨c, rfl⟩ := h; exact z6S c hk
theorem zaf {m : List Int} {b t : Int} : ∀ {a : List SN} {i : Nat}, fndF m i a = none → fndF m i (a ++ [⟨m, b, t⟩]) = some (i + a.length)
 | [], i, _ => by simp [fndF]
 | x :: a, i, h => by
  simp only [fndF] at h
  simp only [List.cons_append, fndF]
  split
  ·rename_i e; rw [if_pos e] at h; cases h
  ·rename_i e
   rw [if_neg e] at h
   rw [zaf h]
   simp only [List.length_cons]; congr 1; omega
theorem zev {n : Net} {lim i : Nat} {t : Int} {nodes nd : List SN} {edges ed : List Edg} (h : stepF n lim i t nodes edges = .cont nd ed) :
  nodes <+: nd ∧ ∃ k : Nat, fndF (z05 (n.trs.getD t.toNat Tr.no) (nodes.getD i SN.no).m) 0 nd = some k ∧ ed = edges ++ [⟨i, t, k⟩] := by
 unfold stepF at h
 simp only at h
 generalize z05 (n.trs.getD t.toNat Tr.no) (nodes.getD i SN.no).m = m at *
 split at h
 ·cases h
 ·split at h
  ·rename_i k hk
   cases h
   exact ⟨List.prefix_refl _, k, hk, rfl⟩
  ·rename_i hk
   split at h
   ·cases h
   ·split at h
    ·cases h
    ·cases h
     refine ⟨List.prefix_append _ _, nodes.length, ?_, rfl⟩
     rw [zaf hk, Nat.zero_add]
theorem z89 {n : Net} {lim i : Nat} {nd : List SN} : ∀ (ts : List Int) {nodes nd1 : List SN} {edges ed1 : List Edg}, z0t n lim i ts nodes edges = .cont nd1 ed1 → i < nodes.length → nd1 <+: nd →
  ed1 = edges ++ ts.map (edgT n nd i)
 | [], nodes, nd1, edges, ed1, h, _, _ => by
  simp only [z0t] at h
  cases h; simp
 | t :: ts, nodes, nd1, edges, ed1, h, hi, hp => by
  simp only [z0t] at h
  cases hst : stepF n lim i t nodes edges with
  | err e => rw [hst] at h; cases h
  | pump a b p => rw [hst] at h; cases h
  | cont nd2 ed2 =>
   rw [hst] at h
   obtain ⟨p1, k, hk, he⟩ := zev hst
   have hi2 := Nat.lt_of_lt_of_le hi p1.length_le
   have p2 := (z1G ts h hi2).1
   have hk2 := zho (p2.trans hp) hk
   rw [← z18 ((p1.trans p2).trans hp) hi] at hk2
   rw [z89 ts h hi2 hp, he, List.map_cons, edgT, ixM, hk2]
   simp
theorem z5q {n : Net} {lim : Nat} {nd : List SN} {ed : List Edg} : ∀ (f i : Nat) {nodes : List SN} {edges : List Edg}, z0x n lim f i nodes edges = .cont nd ed → nodes <+: nd
 | 0, _, _, _, h => by cases h
 | f + 1, i, nodes, edges, h => by
  simp only [z0x] at h
  split at h
  ·rename_i hi
   cases hst : z0t n lim i (ableL n (nodes.getD i SN.no).m n.trs.length) nodes edges with
   | err e => rw [hst] at h; cases h
   | pump a b p => rw [hst] at h; cases h
   | cont nd1 ed1 =>
    rw [hst] at h
    exact (z1G _ hst hi).1.trans (z5q f (i + 1) h)
  ·cases h; exact List.prefix_refl _
theorem z80 {n : Net} {lim : Nat} {nd : List SN} {ed : List Edg} : ∀ (f i : Nat) {nodes : List SN} {edges : List Edg}, z0x n lim f i nodes edges = .cont nd ed → i ≤ nodes.length →
  ed = edges ++ (List.range' i (nd.length - i)).flatMap (outE n nd)
 | 0, _, _, _, h, _ => by cases h
 | f + 1, i, nodes, edges, h, hle => by
  simp only [z0x] at h
  split at h
  ·rename_i hi
   cases hst : z0t n lim i (ableL n (nodes.getD i SN.no).m n.trs.length) nodes edges with
   | err e => rw [hst] at h; cases h
   | pump a b p => rw [hst] at h; cases h
   | cont nd1 ed1 =>
    rw [hst] at h
    have p1 := (z1G _ hst hi).1
    have p2 := z5q f (i + 1) h
    have l1 := p1.length_le
    have l2 := p2.length_le
    rw [z80 f (i + 1) h (by omega), z89 _ hst hi p2, show nd.length - i = (nd.length - (i + 1)) + 1 by omega, List.range'_succ, List.flatMap_cons, outE, z18 (p1.trans p2) hi, List.append_assoc]
  ·rename_i hi
   cases h
   rw [show nd.length - i = 0 by omega]
   simp
theorem z9C {n : Net} {lim : Nat} {nd : List SN} {ed : List Edg} (h : z0w n lim = .cont nd ed) : ed = grE n nd := by
 have := z80 (n := n) (lim := lim) (lim + 2) 0 h (by simp)
 rw [this, grE, List.range_eq_range']
 simp
theorem z8l {n : Net} {nd : List SN} {ed : List Edg} (hb : bndF n = .inr (nd, ed)) : z0w n 4096 = .cont nd ed := by
 unfold bndF at hb
 split at hb
 ·cases hb
 ·cases hs : z0w n 4096 with
  | err e => rw [hs] at hb; cases hb
  | pump a b p => rw [hs] at hb; cases hb
  | cont a b => rw [hs] at hb; cases hb; rfl
structure Found (n : Net) (nd : List SN) : Prop where
 ok : NetOk n
 nodes : NodesOk n.init.length nd
 le : nd.length ≤ 4096
 linked : Linked n nd
 closed : ∀ j, j < nd.length → ClosedAt n nd j
theorem z2x {n : Net} {nd : List SN} {ed : List Edg} (hb : bndF n = .inr (nd, ed)) : Found n nd ∧ ed = grE n nd := by
 obtain ⟨h1, h2, h3⟩ := zcP hb
 have hs := z8l hb
 exact ⟨⟨h1, h2, h3, (z8D n 4096).2 _ _ hs, z8E hs⟩, z9C hs⟩
theorem zhB {n : Net} {nd : List SN} {ed : List Edg} (h : bndF n = .inr (nd, ed)) : ed.length ≤ 100000 := by
 have h1 := z6B (n := n) (lim := 4096) 4098 0 (z8l h)
 have h2 : n.trs.length * 4098 ≤ 10 * 4098 := Nat.mul_le_mul_right _ (zcP h).1.trs
 simp only [List.length_nil] at h1
 omega
theorem zhp {m : List Int} {l : List SN} (h : ∃ k, k < l.length ∧ (l.getD k SN.no).m = m) : ∃ k, fndF m 0 l = some k := by
 cases hf : fndF m 0 l with
 | some k => exact ⟨k, rfl⟩
 | none =>
  obtain ⟨k, h1, h2⟩ := h
  exact absurd h2 (z6R hf _ (z01 l k SN.no h1))
theorem za6 {m : List Int} {l : List SN} (h : ∃ k, k < l.length ∧ (l.getD k SN.no).m = m) : ixM l m < l.length ∧ (l.getD (ixM l m) SN.no).m = m := by
 obtain ⟨k, hk⟩ := zhp h
 obtain ⟨h1, h2, h3⟩ := z6Q hk
 rw [ixM, hk]
 simp only [Nat.zero_add, Nat.sub_zero] at h2 h3
 exact ⟨h2, h3⟩
theorem mem_outE {n : Net} {nd : List SN} {i : Nat} {x : Edg} : x ∈ outE n nd i ↔ ∃ t, Able n (nd.getD i SN.no).m t ∧ x = edgT n nd i t := by
 rw [outE, List.mem_map]
 constructor
 ·rintro ⟨t, ht, rfl⟩; exact ⟨t, Able.mem ht, rfl⟩
 ·rintro ⟨t, ht, rfl⟩; exact ⟨t, z7s ht, rfl⟩
theorem mem_grE {n : Net} {nd : List SN} {x : Edg} : x ∈ grE n nd ↔ ∃ i t, i < nd.length ∧ Able n (nd.getD i SN.no).m t ∧ x = edgT n nd i t := by
 rw [grE, List.mem_flatMap]
 constructor
 ·rintro ⟨i, hi, hx⟩
  obtain ⟨t, h1, h2⟩ := mem_outE.1 hx
  exact ⟨i, t, List.mem_range.1 hi, h1, h2⟩
 ·rintro ⟨i, t, h0, h1, h2⟩
  exact ⟨i, List.mem_range.2 h0, mem_outE.2 ⟨t, h1, h2⟩⟩
def evOf (n : Net) (t : Int) : Int := (n.trs.getD t.toNat Tr.no).event
def lkS (s e : Int) : List (Int × Int × Int) → Option Int
 | [] => none
 | x :: r => if s = x.1 ∧ e = x.2.1 then some x.2.2 else lkS s e r
def stK (l : List (Int × Int × Int)) : List (AV × AV) := l.map fun x => (.agg [.int .i64 x.1, .int .i64 x.2.1], .one (.int .i64 x.2.2))
theorem z4s (s e : Int) : ∀ l : List (Int × Int × Int), z0q (.agg [.int .i64 s, .int .i64 e]) (stK l) = (lkS s e l).map fun k : Int => AV.one (.int .i64 k)
 | [] => rfl
 | x :: r => by
  have ih := z4s s e r
  simp only [stK, List.map_cons, z0q, lkS, eqKey, Bool.and_eq_true, beq_iff_eq] at ih ⊢
  rw [ih]
  split <;> rfl
theorem z2Z {s e : Int} (x : Int) : ∀ {l : List (Int × Int × Int)}, lkS s e l = none → setKV (.agg [.int .i64 s, .int .i64 e]) (.one (.int .i64 x)) (stK l) = stK (l ++ [(s, e, x)])
 | [], _ => rfl
 | y :: r, h => by
  simp only [lkS] at h
  split at h
  ·cases h
  ·rename_i hne
   have ih := z2Z x h
   simp only [stK, List.map_cons, List.cons_append, setKV, eqKey, Bool.and_eq_true, beq_iff_eq] at ih ⊢
   rw [if_neg hne, ih]
theorem z5l {s e x : Int} : ∀ {l : List (Int × Int × Int)}, lkS s e l = some x → setKV (.agg [.int .i64 s, .int .i64 e]) (.one (.int .i64 x)) (stK l) = stK l
 | [], h => by cases h
 | y :: r, h => by
  simp only [lkS] at h
  simp only [stK, List.map_cons, setKV, eqKey, Bool.and_eq_true, beq_iff_eq]
  split at h
  ·rename_i he
   cases h
   rw [if_pos he, he.1, he.2]
  ·rename_i hne
   have ih := z5l h
   simp only [stK] at ih
   rw [if_neg hne, ih]
theorem zhZ (f : Nat → Option Nat) (l : List (Int × Int × Int)) : (stK l).map (fun kv => (kv.1.ren f, kv.2.ren f)) = stK l := by
 simp only [stK, List.map_map]; exact List.map_congr_left fun x _ => rfl
theorem fz_st (t : Nat) (o : AObj) (l : List (Int × Int × Int)) : (stK l).map (fun kv => (kv.1.fz t o, kv.2.fz t o)) = stK l := by
 simp only [stK, List.map_map]; exact List.map_congr_left fun x _ => rfl
theorem lt_st (m : Nat) (l : List (Int × Int × Int)) : ((stK l).all fun kv => kv.1.tagsLt m && kv.2.tagsLt m) = true := by
 simp only [stK, List.all_map, List.all_eq_true]; intro x _; rfl
theorem zis (f : Nat → Option Nat) (kd : KeyKind) (l : List (Int × Int × Int)) : AObj.ren f (.map kd (stK l)) = .map kd (stK l) := by
 simp only [AObj.ren, AObj.map.injEq, true_and]; exact zhZ f l
theorem zjO (t : Nat) (o : AObj) (kd : KeyKind) (l : List (Int × Int × Int)) : AObj.fz t o (.map kd (stK l)) = .map kd (stK l) := by
 simp only [AObj.fz, AObj.map.injEq, true_and]; exact fz_st t o l
theorem zjE (m : Nat) (kd : KeyKind) (l : List (Int × Int × Int)) : (AObj.map kd (stK l)).tagsLt m = true := lt_st m l
attribute [go_sem ↓] zhZ fz_st lt_st zis zjO zjE
def toF (n : Net) : List Edg → List (Int × Int × Int) → Option (List (Int × Int × Int))
 | [], T => some T
 | x :: l, T => match lkS x.src (evOf n x.ev) T with
  | some o => if o = x.dst then toF n l T else none
  | none => toF n l (T ++ [(x.src, evOf n x.ev, x.dst)])
def lkE (n : Net) (s e : Int) : List Edg → Option Int
 | [] => none
 | x :: l => if s = x.src ∧ e = evOf n x.ev then some x.dst else lkE n s e l
theorem zcv (s e : Int) (x : Int × Int × Int) : ∀ l, lkS s e (l ++ [x]) = (lkS s e l).or (if s = x.1 ∧ e = x.2.1 then some x.2.2 else none)
 | [] => by simp [lkS]
 | y :: l => by
  simp only [List.cons_append, lkS]
  split
  ·rfl
  ·exact zcv s e x l
theorem z8W (n : Net) (s e : Int) (x : Edg) : ∀ l, lkE n s e (l ++ [x]) = (lkE n s e l).or (if s = x.src ∧ e = evOf n x.ev then some x.dst else none)
 | [] => by simp [lkE]
 | y :: l => by
  simp only [List.cons_append, lkE]
  split
  ·rfl
  ·exact z8W n s e x l
theorem z4S {n : Net} {s e x : Int} : ∀ {l : List Edg}, lkE n s e l = some x → ∃ y ∈ l, y.src = s ∧ evOf n y.ev = e ∧ y.dst = x
 | [], h => by cases h
 | y :: l, h => by
  simp only [lkE] at h
  split at h
  ·rename_i he
   cases h
   exact ⟨y, by simp, he.1.symm, he.2.symm, rfl⟩
  ·obtain ⟨z, hz, h2⟩ := z4S h
   exact ⟨z, by simp [hz], h2⟩
theorem z8X {n : Net} {s e : Int} : ∀ {l : List Edg}, lkE n s e l = none → ∀ y ∈ l, y.src = s → evOf n y.ev ≠ e
 | [], _, y, hy, _ => by simp at hy
 | z :: l, h, y, hy, hs => by
  simp only [lkE] at h
  split at h
  ·cases h
  ·rename_i hne
   rcases List.mem_cons.1 hy with rfl | hy
   ·exact fun he => hne ⟨hs.symm, he.symm⟩
   ·exact z8X h y hy hs
def Cons (n : Net) (l : List Edg) : Prop := ∀ x ∈ l, ∀ y ∈ l, x.src = y.src → evOf n x.ev = evOf n y.ev → x.dst = y.dst
theorem zbZ {n : Net} : ∀ (l p : List Edg) (T : List (Int × Int × Int)), (∀ s e, lkS s e T = lkE n s e p) → Cons n p →
  (∀ T', toF n l T = some T' → (∀ s e, lkS s e T' = lkE n s e (p ++ l)) ∧ Cons n (p ++ l)) ∧ (toF n l T = none → ¬ Cons n (p ++ l))
 | [], p, T, h, hc => by
  refine ⟨fun T' h' => ?_, fun h' => by cases h'⟩
  rw [toF] at h'; cases h'
  rw [List.append_nil]; exact ⟨h, hc⟩
 | x :: l, p, T, h, hc => by
  have e1 : p ++ x :: l = (p ++ [x]) ++ l := by simp
  rw [toF, h, e1]
  cases hk : lkE n x.src (evOf n x.ev) p with
  | some o =>
   obtain ⟨y, hy, y1, y2, y3⟩ := z4S hk
   simp only
   by_cases ho : o = x.dst
   ·rw [if_pos ho]
    refine zbZ l (p ++ [x]) T (fun s e => ?_) (fun a ha b hb => ?_)
    ·rw [h, z8W]
     cases hq : lkE n s e p with
     | some z => rfl
     | none =>
      rw [if_neg]
      ·rfl
      ·rintro ⟨rfl, rfl⟩; rw [hk] at hq; cases hq
    ·rcases List.mem_append.1 ha with ha1 | ha1 <;> rcases List.mem_append.1 hb with hb1 | hb1
     ·exact hc a ha1 b hb1
     ·have hb2 := List.mem_singleton.1 hb1
      intro h1 h2
      rw [hc a ha1 y hy (by rw [h1, hb2, y1]) (by rw [h2, hb2, y2]), y3, ho, hb2]
     ·have ha2 := List.mem_singleton.1 ha1
      intro h1 h2
      rw [← hc y hy b hb1 (by rw [y1, ← h1, ha2]) (by rw [y2, ← h2, ha2]), y3, ho, ha2]
     ·rw [List.mem_singleton.1 ha1, List.mem_singleton.1 hb1]; intros; rfl
   ·rw [if_neg ho]
    refine ⟨fun T' h' => (nomatch h'), fun _ hcc => ho ?_⟩
    rw [← y3]
    exact hcc y (by simp [hy]) x (by simp) y1 y2
  | none =>
   simp only
   refine zbZ l (p ++ [x]) _ (fun s e => ?_) (fun a ha b hb => ?_)
   ·rw [zcv, z8W, h]
   ·have hno := z8X hk
    rcases List.mem_append.1 ha with ha1 | ha1 <;> rcases List.mem_append.1 hb with hb1 | hb1
    ·exact hc a ha1 b hb1
    ·rw [List.mem_singleton.1 hb1]
     intro h1 h2; exact absurd h2 (hno a ha1 h1)
    ·rw [List.mem_singleton.1 ha1]
     intro h1 h2; exact absurd h2.symm (hno b hb1 h1.symm)
    ·rw [List.mem_singleton.1 ha1, List.mem_singleton.1 hb1]; intros; rfl
theorem zgv {n : Net} {l : List Edg} {T : List (Int × Int × Int)} (h : toF n l [] = some T) : (∀ s e, lkS s e T = lkE n s e l) ∧ Cons n l := by
 have := (zbZ l [] [] (fun _ _ => rfl) (fun x hx => by simp at hx)).1 T h
 simpa using this
theorem zgw {n : Net} {l : List Edg} (h : toF n l [] = none) : ¬ Cons n l := by
 have := (zbZ l [] [] (fun _ _ => rfl) (fun x hx => by simp at hx)).2 h
 simpa using this
structure Aut where
 alph : List Int
 states : Int
 marked : List Int
 edges : List Edg
 deriving DecidableEq
def Aut.zero : Aut := ⟨[], 0, [], []⟩
def Aut.d (a : Aut) : List D := [.list (ints a.alph), .int .i64 a.states, .list (ints a.marked), .list (edgsD a.edges)]
def sucF (lk : Int → Int → Option Int) (evs : List Int) (s : Int) : List (Int × Int) := evs.filterMap fun e => (lk s e).map fun x => (e, x)
def atM (nd : List SN) (s : Int) : List Int := (nd.getD s.toNat SN.no).m
def mkL (nd : List SN) (mk : List (List Int)) (o : List Int) (k : Nat) : List Int := ((List.range k).filter fun j => decide (atM nd (o.getD j 0) ∈ mk)).map Int.ofNat
def autO (n : Net) (nd : List SN) : List Int × List Edg := bfs (sucF (fun s e => lkE n s e (grE n nd)) (evsN n)) (nd.length + 1) 0 [0] []
def autA (n : Net) (nd : List SN) (mk : List (List Int)) : Aut := ⟨evsN n, (autO n nd).1.length, mkL nd mk (autO n nd).1 (autO n nd).1.length, (autO n nd).2⟩
def autM (n : Net) (nd : List SN) : List (List Int) := (autO n nd).1.map (atM nd)
def mksE (n : Net) : List (List Int) → Int
 | [] => 0
 | m :: l => if markE n m ≠ 0 then markE n m else mksE n l
def auG (n : Net) (mk : List (List Int)) (M : Int) : Sum Int (List SN × List Edg) → Sum Int (Aut × List (List Int))
 | .inl e => if M ≠ 0 then .inl M else .inl e
 | .inr (nd, ed) => if M ≠ 0 then .inl M else match toF n ed [] with
  | none => .inl 18
  | some _ => .inr (autA n nd mk, autM n nd)
theorem zj9 {n : Net} {mk : List (List Int)} {M : Int} (h : M ≠ 0) (B : Sum Int (List SN × List Edg)) : auG n mk M B = .inl M := by
 cases B with
 | inl e => rw [auG, if_pos h]
 | inr r => rw [auG, if_pos h]
def autF (n : Net) (mk : List (List Int)) : Sum Int (Aut × List (List Int)) := if netE n ≠ 0 then .inl (netE n) else auG n mk (mksE n mk) (bndF n)
def auR : Sum Int (Aut × List (List Int)) → AV
 | .inl e => .tup [.agg Aut.zero.d, .one (.list []), .one (.int .i64 e)]
 | .inr (a, ms) => .tup [.agg a.d, .one (.list (z0v ms)), .one (.int .i64 0)]
theorem zfu {n : Net} {nd : List SN} (h : Found n nd) : ∀ x ∈ grE n nd, (0 ≤ x.src ∧ x.src < nd.length) ∧ (0 ≤ x.ev ∧ x.ev < n.trs.length) ∧ 0 ≤ x.dst ∧ x.dst < nd.length := by
 intro x hx
 obtain ⟨i, t, hi, ht, rfl⟩ := mem_grE.1 hx
 have h2 := za6 (h.closed i hi t ht)
 exact ⟨⟨by simp only [edgT]; omega, by simp only [edgT]; omega⟩, ⟨ht.1, ht.2.1⟩, by simp only [edgT]; omega, by simp only [edgT]; omega⟩
theorem z8v {n : Net} {nd : List SN} (h : Found n nd) (evs : List Int) (s : Int) : ∀ x ∈ sucF (fun s e => lkE n s e (grE n nd)) evs s, 0 ≤ x.2 ∧ x.2 < nd.length := by
 intro x hx
 rw [sucF, List.mem_filterMap] at hx
 obtain ⟨e, _, he⟩ := hx
 cases hk : lkE n s e (grE n nd) with
 | none => rw [hk] at he; cases he
 | some y =>
  rw [hk] at he; cases he
  obtain ⟨z, hz, _, _, rfl⟩ := z4S hk
  exact (zfu h z hz).2.2
theorem z8K {N : Nat} (h : 0 < N) : OrdOk N [0] := ⟨List.pairwise_singleton _ _, fun x hx => by rw [List.mem_singleton] at hx; subst hx; omega⟩
theorem z3d {n : Net} {nd : List SN} (h : Found n nd) : 0 < nd.length := h.linked.ne
theorem z7m {n : Net} {nd : List SN} (h : Found n nd) : OrdOk nd.length (autO n nd).1 :=
 zg1 (fun s _ _ => z8v h _ s) _ 0 [0] [] (z8K (z3d h))
def ordK : Nat → List Int → List (AV × AV)
 | _, [] => []
 | i, x :: r => (.one (.int .i64 x), .one (.int .i64 i)) :: ordK (i + 1) r
theorem z2u (x : Int) : ∀ (l : List Int) (i : Nat), z0q (.one (.int .i64 x)) (ordK i l) = (ixF x i l).map fun k : Nat => AV.one (.int .i64 (k : Int))
 | [], i => rfl
 | y :: r, i => by
  simp only [ordK, z0q, ixF, eqKey, beq_iff_eq]
  by_cases h : x = y
  ·rw [if_pos h, if_pos h.symm]; rfl
  ·rw [if_neg h, if_neg (Ne.symm h)]; exact z2u x r (i + 1)
theorem z6n {x : Int} : ∀ {l : List Int} {i : Nat}, ixF x i l = none → setKV (.one (.int .i64 x)) (.one (.int .i64 ((i + l.length : Nat) : Int))) (ordK i l) = ordK i (l ++ [x])
 | [], i, _ => rfl
 | y :: r, i, h => by
  simp only [ixF] at h
  split at h
  ·cases h
  ·rename_i hne
   have ih := z6n h
   simp only [List.cons_append, ordK, setKV, eqKey, beq_iff_eq, List.length_cons]
   rw [if_neg (fun e => hne e.symm), ← ih]
   congr 4
   omega
theorem zb6 (f : Nat → Option Nat) : ∀ (l : List Int) (i : Nat), (ordK i l).map (fun kv => (kv.1.ren f, kv.2.ren f)) = ordK i l
 | [], _ => rfl
 | y :: r, i => by rw [ordK, List.map_cons, zb6 f r]; rfl
theorem zfx (t : Nat) (o : AObj) : ∀ (l : List Int) (i : Nat), (ordK i l).map (fun kv => (kv.1.fz t o, kv.2.fz t o)) = ordK i l
 | [], _ => rfl
 | y :: r, i => by rw [ordK, List.map_cons, zfx t o r]; rfl
theorem zf3 (m : Nat) : ∀ (l : List Int) (i : Nat), ((ordK i l).all fun kv => kv.1.tagsLt m && kv.2.tagsLt m) = true
 | [], _ => rfl
 | y :: r, i => by rw [ordK, List.all_cons, zf3 m r]; rfl
theorem zgO (f : Nat → Option Nat) (kd : KeyKind) (l : List Int) (i : Nat) : AObj.ren f (.map kd (ordK i l)) = .map kd (ordK i l) := by
 simp only [AObj.ren, AObj.map.injEq, true_and]; exact zb6 f l i
theorem ziQ (t : Nat) (o : AObj) (kd : KeyKind) (l : List Int) (i : Nat) : AObj.fz t o (.map kd (ordK i l)) = .map kd (ordK i l) := by
 simp only [AObj.fz, AObj.map.injEq, true_and]; exact zfx t o l i
theorem ziM (m : Nat) (kd : KeyKind) (l : List Int) (i : Nat) : (AObj.map kd (ordK i l)).tagsLt m = true := zf3 m l i
attribute [go_sem ↓] zb6 zfx zf3 zgO ziQ ziM
theorem zih (lk : Int → Int → Option Int) (s : Int) : sucF lk [] s = [] := rfl
theorem zc6 (lk : Int → Int → Option Int) (e : Int) (r : List Int) (s : Int) : sucF lk (e :: r) s = match lk s e with
  | none => sucF lk r s
  | some x => (e, x) :: sucF lk r s := by
 rw [sucF, List.filterMap_cons]
 cases lk s e <;> rfl
theorem zaI (i e x : Int) (r : List (Int × Int)) (o : List Int) (es : List Edg) : bfsI i ((e, x) :: r) o es = match ixF x 0 o with
  | some k => bfsI i r o (es ++ [⟨i, e, k⟩])
  | none => bfsI i r (o ++ [x]) (es ++ [⟨i, e, o.length⟩]) := rfl
theorem zcR (succ : Int → List (Int × Int)) (f i : Nat) (o : List Int) (es : List Edg) : bfs succ (f + 1) i o es = if i < o.length then bfs succ f (i + 1) (bfsI i (succ (o.getD i 0)) o es).1 (bfsI i (succ (o.getD i 0)) o es).2 else (o, es) := rfl
theorem z8I {a b : List Int} (h : a <+: b) {k : Nat} (hk : k < a.length) : b.getD k 0 = a.getD k 0 := by
 obtain ⟨c, rfl⟩ := h
 exact z08 a c k 0 hk
theorem zgQ {a b : List Int} (h : a <+: b) {k : Nat} (hk : k ≤ a.length) : b.take k = a.take k := by
 obtain ⟨c, rfl⟩ := h
 exact List.take_append_of_le_length hk
theorem ziI {nd : List SN} {mk : List (List Int)} {a b : List Int} (h : a <+: b) {k : Nat} (hk : k ≤ a.length) : mkL nd mk b k = mkL nd mk a k := by
 rw [mkL, mkL]
 congr 1
 refine List.filter_congr fun j hj => ?_
 rw [List.mem_range] at hj
 rw [z8I h (by omega)]
theorem zh3 (nd : List SN) (mk : List (List Int)) (o : List Int) (k : Nat) : mkL nd mk o (k + 1) = mkL nd mk o k ++ if atM nd (o.getD k 0) ∈ mk then [(k : Int)] else [] := by
 rw [mkL, List.range_succ, List.filter_append, List.map_append, ← mkL]
 congr 1
 rw [List.filter_cons, List.filter_nil]
 generalize atM nd (o.getD k 0) = m
 by_cases h : m ∈ mk <;> simp [h]
theorem zdv (nd : List SN) (mk : List (List Int)) (o : List Int) (k : Nat) : (mkL nd mk o k).length ≤ k := by
 rw [mkL, List.length_map]
 exact Nat.le_trans (List.length_filter_le _ _) (by simp)
theorem zjd (m : List Int) (mk : List (List Int)) : (mk.any fun x => decide (x = m)) = decide (m ∈ mk) := by
 rw [Bool.eq_iff_iff, List.any_eq_true, decide_eq_true_eq]
 simp
end Go.Proofs.YtkjllcmpjghmkaaGreatDoor
