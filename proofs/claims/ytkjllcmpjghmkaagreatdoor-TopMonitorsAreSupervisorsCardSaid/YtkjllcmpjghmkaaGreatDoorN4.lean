/-
 Contracts: constraints: their checks, sums and effects.
-/
import Derived.Test.YtkjllcmpjghmkaaGreatDoorN3
set_option linter.unusedSimpArgs false
set_option linter.unusedVariables false
namespace Go.Proofs.YtkjllcmpjghmkaaGreatDoor
open Go.Eng Go.RowKit
def z1j (m n : Int) : Bool := decide (m < n) || decide (n < -m)
theorem zbj (n m : Int) (h : 0 ≤ m ∧ m ≤ 1000000) : ACalls Tryz.prog 42 [.one (.int .i64 n), .one (.int .i64 m)] (.one (.bool (z1j m n))) [] := by
 (refine ACalls.of_body Ty_ok mixed Tryz.func42 rfl (by kernel_rfl) Tryz.ntmps42 (by simp) (congrArg Array.toList Tryz.results42) ?_)
 simp only [z00]
 (repeat' (first | (with_reducible first | refine And.intro ?_ ?_ | (refine aS 5 [] ?_; intro K hK)) | ((with_reducible refine aGo ?_); simp only [go_sem]) | ((iterate 6 try ((fail_if_success with_reducible refine hK _ ?_ ?_ ?_); clear hK K)); with_reducible refine hK _ ?_ ?_ ?_; rotate_left; (focus (simp only [go_sem]; exact rfl)); clear hK K) | exact aZ | fail))
 rfl
theorem zbA (x : Int) : ACalls Tryz.prog 67 [.one (.int .i64 x)] (.one (.bool (z1j 16 x))) [] := by
 (refine ACalls.of_body Ty_ok mixed Tryz.func67 rfl (by kernel_rfl) Tryz.ntmps67 (by simp) (congrArg Array.toList Tryz.results67) ?_)
 simp only [z00]
 (repeat' (first | (with_reducible (refine aS 3 [] ?_; intro K hK)) | ((with_reducible refine aGo ?_); simp only [go_sem]) | ((iterate 6 try ((fail_if_success with_reducible refine hK _ ?_ ?_ ?_); clear hK K)); with_reducible refine hK _ ?_ ?_ ?_; rotate_left; (focus (simp only [go_sem]; exact rfl)); clear hK K) | ((with_reducible refine cA (zbj x 16 (by omega)) ?_); simp only [go_sem]) | fail))
theorem zdr (x : Int) : ACalls Tryz.prog 41 [.one (.int .i64 x)] (.one (.bool (z1j 8 x))) [] := by
 (refine ACalls.of_body Ty_ok mixed Tryz.func41 rfl (by kernel_rfl) Tryz.ntmps41 (by simp) (congrArg Array.toList Tryz.results41) ?_)
 simp only [z00]
 (repeat' (first | (with_reducible (refine aS 3 [] ?_; intro K hK)) | ((with_reducible refine aGo ?_); simp only [go_sem]) | ((iterate 6 try ((fail_if_success with_reducible refine hK _ ?_ ?_ ?_); clear hK K)); with_reducible refine hK _ ?_ ?_ ?_; rotate_left; (focus (simp only [go_sem]; exact rfl)); clear hK K) | ((with_reducible refine cA (zbj x 8 (by omega)) ?_); simp only [go_sem]) | fail))
def conE (n : Net) (c : Con) : Int := if netE n ≠ 0 then netE n else if c.fac.length ≠ n.init.length then 4 else if (c.fac.any (z1j 16) || z1j 65536 c.bound) = true then 2 else 0
theorem z3v (n : Net) (c : Con) (hf : n.Fits) (hc : c.fac.length ≤ 1000000) : ACalls Tryz.prog 35 [.agg n.d, .agg c.d] (.one (.int .i64 (conE n c))) [] := by
 have hi := hf.init
 have hck := z2s n hf
 simp only [Net.d] at hck
 (refine ACalls.of_body Ty_ok mixed Tryz.func35 rfl (by kernel_rfl) Tryz.ntmps35 (by simp) (congrArg Array.toList Tryz.results35) ?_)
 simp only [z00, Net.d, Con.d]
 (repeat' (first | (with_reducible (refine aS 6 [] ?_; intro K hK)) | ((with_reducible refine aGo ?_); simp only [go_sem]) | ((with_reducible refine aCd ?_ ?_ (fun hb => ?_) (fun hb => ?_)); (iterate 2 simp only [go_sem]); all_goals (simp only [go_sem] at hb; try simp only [bls] at hb)) | ((iterate 6 try ((fail_if_success with_reducible refine hK _ ?_ ?_ ?_); clear hK K)); with_reducible refine hK _ ?_ ?_ ?_; rotate_left; (focus (simp only [go_sem]; exact rfl)); clear hK K) | ((first | (with_reducible first | refine xA ?_ | refine cG (fun hg => (zbj c.bound 65536 (by omega))) ?_) | ((with_reducible refine gA ?_); refine cA (z1n c.fac 67 [] (z1j 16) hc z4X (fun e _ => zbA e)) ?_)); simp only [go_sem]) | fail))
 ·rw [conE, if_pos hb]
 ·rename_i hb1
  rw [conE, if_neg (by simpa using hb1), if_pos (by omega)]
 ·rename_i hb1 hb2
  rw [conE, if_neg (by simpa using hb1), if_neg (by omega), if_pos (by simpa using hb)]
 ·rename_i hb1 hb2
  rw [conE, if_neg (by simpa using hb1), if_neg (by omega), if_neg (by simpa using hb)]
def dot : List Int → List Int → Int
 | a :: us, b :: vs => a * b + dot us vs
 | _, _ => 0
theorem zcF : ∀ (us vs : List Int) (k : Nat), k < us.length → k < vs.length → dot (us.take (k + 1)) (vs.take (k + 1)) = dot (us.take k) (vs.take k) + us.getD k 0 * vs.getD k 0
 | [], _, k, h, _ => by simp at h
 | _ :: _, [], k, _, h => by simp at h
 | a :: us, b :: vs, 0, _, _ => by simp [dot]
 | a :: us, b :: vs, k + 1, h1, h2 => by
  simp only [List.take_succ_cons, dot, List.getD_cons_succ]
  rw [zcF us vs k (by simpa using h1) (by simpa using h2)]
  omega
theorem z8b : ∀ (us vs : List Int), dot us (vs.take us.length) = dot us vs
 | [], vs => by simp [dot]
 | a :: us, [] => by simp [dot]
 | a :: us, b :: vs => by simp [dot, z8b us vs]
structure Sm (B : Int) (l : List Int) : Prop where
 all : ∀ x ∈ l, -B ≤ x ∧ x ≤ B
theorem Sm.get {B : Int} {l : List Int} (h : Sm B l) (hB : 0 ≤ B) (k : Nat) : -B ≤ l.getD k 0 ∧ l.getD k 0 ≤ B := by
 by_cases hk : k < l.length
 ·exact h.all _ (z01 l k 0 hk)
 ·rw [List.getD, List.getElem?_eq_none (Nat.le_of_not_lt hk)]; simp; omega
theorem Sm.take {B : Int} {l : List Int} (h : Sm B l) (k : Nat) : Sm B (l.take k) := ⟨fun x hx => h.all x (List.mem_of_mem_take hx)⟩
theorem Sm.set {B : Int} {l : List Int} (h : Sm B l) (k : Nat) (x : Int) (hx : -B ≤ x ∧ x ≤ B) : Sm B (l.set k x) := ⟨fun y hy => by
 rcases List.mem_or_eq_of_mem_set hy with hy | rfl
 ·exact h.all y hy
 ·exact hx⟩
theorem z31 {x y A B : Int} (hx : -A ≤ x ∧ x ≤ A) (hy : -B ≤ y ∧ y ≤ B) (hA : 0 ≤ A) (hB : 0 ≤ B) : -(A * B) ≤ x * y ∧ x * y ≤ A * B := by
 have h1 : x * y ≤ A * B := by
  rcases Int.le_total 0 x with h | h
  ·exact Int.le_trans (Int.mul_le_mul_of_nonneg_left hy.2 h) (Int.mul_le_mul_of_nonneg_right hx.2 hB)
  ·have : (-x) * (-y) ≤ A * B := Int.le_trans (Int.mul_le_mul_of_nonneg_left (show -y ≤ B by omega) (by omega)) (Int.mul_le_mul_of_nonneg_right (by omega) hB)
   rwa [Int.neg_mul_neg] at this
 have h2 : -(x * y) ≤ A * B := by
  rcases Int.le_total 0 x with h | h
  ·have : x * (-y) ≤ A * B := Int.le_trans (Int.mul_le_mul_of_nonneg_left (show -y ≤ B by omega) h) (Int.mul_le_mul_of_nonneg_right hx.2 hB)
   rwa [Int.mul_neg] at this
  ·have : (-x) * y ≤ A * B := Int.le_trans (Int.mul_le_mul_of_nonneg_left hy.2 (by omega)) (Int.mul_le_mul_of_nonneg_right (by omega) hB)
   rwa [Int.neg_mul] at this
 omega
theorem zao {A B : Int} (hA : 0 ≤ A) (hB : 0 ≤ B) : ∀ (us vs : List Int), Sm A us → Sm B vs → -(us.length * (A * B)) ≤ dot us vs ∧ dot us vs ≤ us.length * (A * B)
 | [], vs, _, _ => by simp [dot]
 | a :: us, [], _, _ => by
  have : (0 : Int) ≤ ((a :: us).length : Int) * (A * B) := Int.mul_nonneg (by omega) (Int.mul_nonneg hA hB)
  simp only [dot]
  omega
 | a :: us, b :: vs, ha, hb => by
  have ih := zao hA hB us vs ⟨fun x hx => ha.all x (by simp [hx])⟩ ⟨fun x hx => hb.all x (by simp [hx])⟩
  have h1 := z31 (ha.all a (by simp)) (hb.all b (by simp)) hA hB
  have e : (((a :: us).length : Nat) : Int) * (A * B) = (us.length : Int) * (A * B) + A * B := by
   simp only [List.length_cons, Int.natCast_add, Int.add_mul]; simp
  rw [e]
  simp only [dot]
  omega
theorem zcH {us vs : List Int} (ha : Sm 16 us) (hb : Sm 65536 vs) (hl : us.length ≤ 1000) : -1048576000 ≤ dot us vs ∧ dot us vs ≤ 1048576000 := by
 have h := zao (by omega) (by omega) us vs ha hb
 omega
set_option maxHeartbeats 4000000 in
theorem zei (c : Con) (m : List Int) (hl : c.fac.length ≤ m.length) (hf : Sm 16 c.fac) (hm : Sm 65536 m) (hn : c.fac.length ≤ 1000) (hnm : m.length ≤ 1000000) : ACalls Tryz.prog 36 [.agg c.d, .one (.list (ints m))] (.one (.int .i64 (dot c.fac m))) [] := by
 (refine ACalls.of_body Ty_ok mixed Tryz.func36 rfl (by kernel_rfl) Tryz.ntmps36 (by simp) (congrArg Array.toList Tryz.results36) ?_)
 simp only [z00, Con.d]
 (repeat' (first | (with_reducible first | refine aBl ?_ | (refine aS 8 [10, 9, 11] ?_; intro K hK)) | ((with_reducible refine aGo ?_); simp only [go_sem]) | ((iterate 6 try ((fail_if_success with_reducible refine hK _ ?_ ?_ ?_); clear hK K)); with_reducible refine hK _ ?_ ?_ ?_; rotate_left; (focus (simp only [go_sem]; exact rfl)); clear hK K) | fail))
 refine z02 _ (by simp only [go_sem]; rfl) Nat (fun k => k ≤ c.fac.length) (fun k => [(5, .one (.int .i64 (dot (c.fac.take k) (m.take k)))), (11, .one (.int .i64 k))]) (fun _ H => H) (fun k => c.fac.length - k) 0 (by omega) ?_ ?_
 ·(simp only [SubF, go_sem]; (try simp only [go_sem]); repeat' (first | exact True.intro | with_reducible refine And.intro ?_ ?_ | rfl | omega))
 ·rintro k hk L hL
  have hp : ((k : Nat) : Int).toNat = k := by omega
  (simp only [go_sem] at hL ⊢)
  by_cases hlt : k < c.fac.length
  ·have e := zcF c.fac m k hlt (by omega)
   have b0 := z31 (hf.get (by omega) k) (hm.get (by omega) k) (by omega) (by omega)
   have b1 := zcH (hf.take k) (hm.take k) (by simp; omega)
   (repeat' (first | (with_reducible first | refine And.intro ?_ ?_ | refine aBl ?_ | (refine aS 8 [10, 9, 11] ?_; intro K hK)) | ((with_reducible refine aGo ?_); simp only [go_sem]) | ((with_reducible refine aCd ?_ ?_ (fun hb => ?_) (fun hb => ?_)); (iterate 2 simp only [go_sem]); all_goals (simp only [go_sem] at hb; try simp only [bls] at hb)) | ((iterate 6 try ((fail_if_success with_reducible refine hK _ ?_ ?_ ?_); clear hK K)); with_reducible refine hK _ ?_ ?_ ?_; rotate_left; (focus (simp only [go_sem]; exact rfl)); clear hK K) | exact aZ | fail))
   ·rw [← e]
    exact hL _ (k + 1) (by omega) (by (simp only [SubF, go_sem]; (try simp only [go_sem]); repeat' (first | exact True.intro | with_reducible refine And.intro ?_ ?_ | rfl | omega))) (by omega)
  ·(repeat' (first | (with_reducible first | refine And.intro ?_ ?_ | refine aBl ?_ | (refine aS 8 [10, 9, 11] ?_; intro K hK)) | ((with_reducible refine aGo ?_); simp only [go_sem]) | ((with_reducible refine aCd ?_ ?_ (fun hb => ?_) (fun hb => ?_)); (iterate 2 simp only [go_sem]); all_goals (simp only [go_sem] at hb; try simp only [bls] at hb)) | ((iterate 6 try ((fail_if_success with_reducible refine hK _ ?_ ?_ ?_); clear hK K)); with_reducible refine hK _ ?_ ?_ ?_; rotate_left; (focus (simp only [go_sem]; exact rfl)); clear hK K) | exact aZ | fail))
   rw [List.take_of_length_le (by omega), show k = c.fac.length by omega, z8b]
def dotA (fac : List Int) : List Arc → Int
 | [] => 0
 | a :: l => fac.getD a.place.toNat 0 * a.weight + dotA fac l
theorem z72 (fac : List Int) : ∀ (l l' : List Arc), dotA fac (l ++ l') = dotA fac l + dotA fac l'
 | [], l' => by simp [dotA]
 | a :: l, l' => by simp only [List.cons_append, dotA, z72 fac l l']; omega
theorem zap (fac : List Int) (l : List Arc) (k : Nat) (hk : k < l.length) : dotA fac (l.take (k + 1)) = dotA fac (l.take k) + fac.getD (l.getD k Arc.no).place.toNat 0 * (l.getD k Arc.no).weight := by
 rw [z07 l k Arc.no hk, z72]
 simp [dotA]
def effT (fac : List Int) (t : Tr) : Int := dotA fac t.out - dotA fac t.inn
def effL (n : Net) (c : Con) : List Int := n.trs.map (effT c.fac)
structure ArcsIn (places : Nat) (l : List Arc) : Prop where
 place : ∀ a ∈ l, 0 ≤ a.place ∧ a.place < places
 weight : ∀ a ∈ l, 1 ≤ a.weight ∧ a.weight ≤ 8
 ord : l.Pairwise fun a b => a.place < b.place
theorem z9f (places : Nat) : ∀ (l : List Arc) (p : Option Int), arcsE places l p = 0 → ArcsIn places l ∧ ∀ q, p = some q → ∀ a ∈ l, q < a.place
 | [], _, _ => ⟨⟨fun a h => by simp at h, fun a h => by simp at h, .nil⟩, fun q _ a h => by simp at h⟩
 | a :: l, p, h => by
  simp only [arcsE] at h
  split at h
  ·cases h
  ·rename_i h1
   split at h
   ·cases h
   ·rename_i h2
    split at h
    ·cases h
    ·rename_i h3
     obtain ⟨ih, io⟩ := z9f places l (some a.place) h
     have io' := io a.place rfl
     have hq : ∀ q, p = some q → q < a.place := fun q e => by
      subst e
      simp at h2
      omega
     refine ⟨⟨fun b hb => ?_, fun b hb => ?_, List.pairwise_cons.2 ⟨fun b hb => io' b hb, ih.ord⟩⟩, fun q e b hb => ?_⟩
     ·rcases List.mem_cons.1 hb with rfl | hb
      ·omega
      ·exact ih.place b hb
     ·rcases List.mem_cons.1 hb with rfl | hb
      ·omega
      ·exact ih.weight b hb
     ·have := hq q e
      rcases List.mem_cons.1 hb with rfl | hb
      ·exact this
      ·have := io' b hb; omega
theorem z1R (places : Nat) (l : List Arc) (h : ArcsIn places l) : l.length ≤ places := by
 have key : ∀ (l : List Arc) (lo : Int), 0 ≤ lo → l.Pairwise (fun a b => a.place < b.place) → (∀ a ∈ l, lo ≤ a.place ∧ a.place < places) → lo + l.length ≤ max lo places := by
  intro l
  induction l with
  | nil => intro lo _ _ _; simp; omega
  | cons a l ih =>
   intro lo h0 hp hb
   rw [List.pairwise_cons] at hp
   have h1 := hb a (by simp)
   have := ih (a.place + 1) (by omega) hp.2 fun b hb' => ⟨by have := hp.1 b hb'; omega, (hb b (by simp [hb'])).2⟩
   simp only [List.length_cons, Int.natCast_add]
   omega
 have := key l 0 (by omega) h.ord fun a ha => ⟨(h.place a ha).1, (h.place a ha).2⟩
 omega
structure NetOk (n : Net) : Prop where
 init : n.init.length ≤ 10
 tok : ∀ x ∈ n.init, 0 ≤ x ∧ x ≤ 65536
 trs : n.trs.length ≤ 10
 ev : ∀ t ∈ n.trs, 0 ≤ t.event ∧ t.event < 32
 inn : ∀ t ∈ n.trs, ArcsIn n.init.length t.inn
 out : ∀ t ∈ n.trs, ArcsIn n.init.length t.out
theorem z9r (m : Int) : ∀ (l : List Tr), trsE m l = 0 → ∀ t ∈ l, trE m t = 0
 | [], _, t, h => by simp at h
 | a :: l, h, t, ht => by
  simp only [trsE] at h
  split at h
  ·exact absurd h ‹_›
  ·rename_i h1
   rcases List.mem_cons.1 ht with rfl | ht
   ·omega
   ·exact z9r m l h t ht
theorem z0K {n : Net} (h : netE n = 0) : NetOk n := by
 unfold netE at h
 split at h
 ·cases h
 rename_i h1
 split at h
 ·cases h
 rename_i h2
 split at h
 ·cases h
 rename_i h3
 have ht := z9r _ _ h
 have hE : ∀ t ∈ n.trs, (0 ≤ t.event ∧ t.event < 32) ∧ z1L n.init.length t.inn = 0 ∧ z1L n.init.length t.out = 0 := fun t hm => by
  have := ht t hm
  unfold trE at this
  split at this
  ·cases this
  ·rename_i h4
   split at this
   ·rename_i h5; exact absurd this h5
   ·rename_i h5; exact ⟨by omega, by omega, this⟩
 refine ⟨by omega, fun x hx => ?_, by omega, fun t hm => (hE t hm).1, fun t hm => (z9f _ _ _ (hE t hm).2.1).1, fun t hm => (z9f _ _ _ (hE t hm).2.2).1⟩
 have : tokB x ≠ true := fun hh => h2 (List.any_eq_true.2 ⟨x, hx, hh⟩)
 simp [tokB] at this
 omega
end Go.Proofs.YtkjllcmpjghmkaaGreatDoor
