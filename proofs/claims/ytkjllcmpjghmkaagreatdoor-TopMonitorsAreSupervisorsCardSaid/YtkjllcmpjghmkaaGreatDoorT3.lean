/-
 Plain: what a supervisor removes; what it keeps where the transform's constraint holds; the words of the net with that control place are among the supervisor's.
-/
import Derived.Test.YtkjllcmpjghmkaaGreatDoorTX
import Derived.Test.YtkjllcmpjghmkaaGreatDoorTW
import Derived.Test.YtkjllcmpjghmkaaGreatDoorN9
set_option linter.unusedSimpArgs false
set_option linter.unusedVariables false
namespace Go.Proofs.YtkjllcmpjghmkaaGreatDoor
open Go.Eng Go.RowKit
theorem z6T {α : Type} {step : Nat → Option α} : ∀ {r k : Nat} {a : α}, z3f step k r = some a → ∃ j, j < k + r ∧ step j = some a
 | 0, _, _, h => by cases h
 | r + 1, k, a, h => by
  simp only [z3f] at h
  cases hs : step k with
  | some b => rw [hs] at h; exact ⟨k, by omega, by rw [hs]; exact h⟩
  | none =>
   rw [hs] at h
   obtain ⟨j, hj, e⟩ := z6T h
   exact ⟨j, by omega, e⟩
theorem z6P (adm : List Int → Bool) : ∀ (r : Nat) (fac : List Int) (place s : Nat) (f : List Int), z3e adm r fac place s = some f → (∀ p, fac.getD p 0 ≤ f.getD p 0) ∧ (Sm 16 fac → Sm 16 f) ∧ adm f = true
 | 0, fac, place, s, f, h => by
  simp only [z3e] at h
  split at h
  ·split at h
   ·cases h; exact ⟨fun p => Int.le_refl _, fun h => h, by assumption⟩
   ·cases h
  ·cases h
 | r + 1, fac, place, s, f, h => by
  obtain ⟨j, hj, e⟩ := z6T h
  obtain ⟨h1, h2, h3⟩ := z6P adm r _ _ _ f e
  refine ⟨fun p => Int.le_trans ?_ (h1 p), fun hs => h2 (hs.set _ _ ?_), h3⟩
  ·by_cases hp : place < fac.length
   ·rw [z4i _ _ _ _ hp]
    split
    ·rename_i e; subst e; omega
    ·exact Int.le_refl _
   ·rw [List.set_eq_of_length_le (by omega)]; exact Int.le_refl _
  ·have := hs.get (by omega) place
   unfold z6u at hj
   omega
theorem zbY {n : Net} {c : Con} {u g : List Int} (h : trF n c u = some g) : g.length = c.fac.length ∧ (∀ p, c.fac.getD p 0 ≤ g.getD p 0) ∧ (Sm 16 c.fac → Sm 16 g) ∧ z1u n ⟨g, c.bound⟩ u < 0 := by
 obtain ⟨j, _, hj⟩ := z6T h
 obtain ⟨h1, h2, h3⟩ := z6P _ _ _ _ _ _ hj
 exact ⟨z2M _ _ _ _ _ _ hj, h1, h2, by simpa [admF] using h3⟩
theorem z87 {α : Type} (p : α → Bool) : ∀ (l : List α) (k : Nat), z0E p k l < 0 → ∀ x ∈ l, p x = false
 | [], _, _, x, hx => by simp at hx
 | e :: l, k, h, x, hx => by
  rw [z0E] at h
  split at h
  ·omega
  ·rename_i hp
   rcases List.mem_cons.1 hx with rfl | hx
   ·simpa using hp
   ·exact z87 p l (k + 1) h x hx
theorem zb7 {n : Net} {c : Con} {u : List Int} (hu : ∀ x ∈ u, 0 ≤ x) (h : z1u n c u < 0) : ∀ t ∈ u, (effL n c).getD t.toNat 0 ≤ 0 := by
 intro t ht
 unfold z1u at h
 split at h
 ·rename_i h1
  have := z87 _ _ _ h1 t ht
  simpa [z5m] using this
 ·rename_i h1
  have h2 := z6J (z5m (effL n c)) u 0 (by omega)
  have := hu _ (z01 u (z0E (z5m (effL n c)) 0 u).toNat 0 (by omega))
  omega
theorem zcG : ∀ (f g m : List Int), f.length = g.length → (∀ p, f.getD p 0 ≤ g.getD p 0) → (∀ x ∈ m, 0 ≤ x) → dot f m ≤ dot g m
 | [], [], m, _, _, _ => Int.le_refl _
 | [], _ :: _, _, h, _, _ => by simp at h
 | _ :: _, [], _, h, _, _ => by simp at h
 | a :: f, b :: g, [], _, _, _ => by simp [dot]
 | a :: f, b :: g, x :: m, hl, h1, h2 => by
  have ih := zcG f g m (by simpa using hl) (fun p => by simpa using h1 (p + 1)) fun y hy => h2 y (by simp [hy])
  have hab : a ≤ b := by simpa using h1 0
  have hx := h2 x (by simp)
  have := Int.mul_le_mul_of_nonneg_right hab hx
  simp only [dot]
  omega
def z0o (xs : List Int) (left : List Bool) : List Bool := xs.foldl (fun l x => l.set x.toNat false) left
theorem z2B : ∀ (xs : List Int) (left : List Bool), (z0o xs left).length = left.length
 | [], _ => rfl
 | x :: xs, left => (z2B xs (left.set x.toNat false)).trans (by simp)
theorem z6i (xs : List Int) (x : Int) (left : List Bool) : z0o (xs ++ [x]) left = (z0o xs left).set x.toNat false := by simp [z0o]
theorem zgI (left : List Bool) (i k : Nat) : (left.set i false).getD k false = true ↔ left.getD k false = true ∧ i ≠ k := by
 simp only [List.getD, List.getElem?_set]
 by_cases h : i = k
 ·subst h
  by_cases h2 : i < left.length <;> simp [h2]
 ·simp [h]
theorem z4M : ∀ (xs : List Int) (left : List Bool) (k : Nat), (z0o xs left).getD k false = true ↔ left.getD k false = true ∧ ∀ x ∈ xs, x.toNat ≠ k
 | [], left, k => by simp [z0o]
 | x :: xs, left, k => by
  have h := z4M xs (left.set x.toNat false) k
  rw [zgI] at h
  rw [show z0o (x :: xs) left = z0o xs (left.set x.toNat false) from rfl, h, List.forall_mem_cons]
  exact and_assoc
theorem zaw : ∀ (left : List Bool) (i : Nat), (left.set i false).count true ≤ left.count true ∧ (left.getD i false = true → (left.set i false).count true < left.count true)
 | [], _ => by simp
 | b :: l, 0 => by cases b <;> simp
 | b :: l, i + 1 => by
  have h := zaw l i
  rw [List.set_cons_succ, List.count_cons, List.count_cons]
  have e : (b :: l).getD (i + 1) false = l.getD i false := rfl
  rw [e]
  exact ⟨by omega, fun hg => by have := h.2 hg; omega⟩
theorem z5i : ∀ (xs : List Int) (left : List Bool), (z0o xs left).count true ≤ left.count true ∧ (∀ x, xs.head? = some x → left.getD x.toNat false = true → (z0o xs left).count true < left.count true)
 | [], _ => ⟨Nat.le_refl _, fun x h => by cases h⟩
 | x :: xs, left => by
  have h1 := (z5i xs (left.set x.toNat false)).1
  have h2 := zaw left x.toNat
  have e : z0o (x :: xs) left = z0o xs (left.set x.toNat false) := rfl
  rw [e]
  exact ⟨by omega, fun y hy hg => by cases hy; have := h2.2 hg; omega⟩
def cloF (u : List Int) (es : List Edg) : Nat → Int → List Bool → List Bool
 | 0, _, left => left
 | f + 1, rank, left => if (lostF u left rank es []).length = 0 then left else cloF u es f (rank + 1) (z0o ((lostF u left rank es []).map Rmv.st) left)
theorem zf7 {u : List Int} {left : List Bool} {rank : Int} {x : Edg} {out : List Rmv} {r : Rmv} (h : r ∈ lostI u left rank x out) : r ∈ out ∨ (r.st = x.src ∧ left.getD x.src.toNat false = true ∧ left.getD x.dst.toNat false = false ∧ x.ev ∈ u) := by
 unfold lostI at h
 split at h
 ·rename_i hc
  split at h
  ·exact .inl h
  ·rcases List.mem_append.1 h with h | h
   ·exact .inl h
   ·rw [List.mem_singleton.1 h]
    exact .inr ⟨rfl, hc⟩
 ·exact .inl h
theorem z4o {u : List Int} {left : List Bool} {rank : Int} {r : Rmv} : ∀ (es : List Edg) (out : List Rmv), r ∈ lostF u left rank es out → r ∈ out ∨ ∃ x ∈ es, r.st = x.src ∧ left.getD x.src.toNat false = true ∧ left.getD x.dst.toNat false = false ∧ x.ev ∈ u
 | [], _, h => .inl h
 | x :: xs, out, h => by
  rcases z4o xs _ h with h | ⟨y, hy, h⟩
  ·rcases zf7 h with h | h
   ·exact .inl h
   ·exact .inr ⟨x, by simp, h⟩
  ·exact .inr ⟨y, by simp [hy], h⟩
theorem zct (u : List Int) (left : List Bool) (rank : Int) : ∀ (es : List Edg) (out : List Rmv), (lostF u left rank es out).length ≤ out.length + es.length
 | [], _ => Nat.le_refl _
 | x :: xs, out => by
  have h1 := zcs u left rank x out
  have h2 := zct u left rank xs (lostI u left rank x out)
  rw [lostF, List.length_cons]
  omega
theorem z9X (left : List Bool) (rank : Int) : ∀ (es : List Edg) (out : List Rmv), lostF [] left rank es out = out
 | [], _ => rfl
 | x :: xs, out => by
  rw [lostF, lostI, if_neg (by rintro ⟨_, _, h⟩; cases h)]
  exact z9X left rank xs out
theorem zhz (es : List Edg) : ∀ (f : Nat) (rank : Int) (left : List Bool), cloF [] es f rank left = left
 | 0, _, _ => rfl
 | f + 1, rank, left => by rw [cloF, z9X]; rfl
theorem zdB (u : List Int) (left : List Bool) (rank : Int) (es : List Edg) (h : (lostF u left rank es []).length ≠ 0) : (z0o ((lostF u left rank es []).map Rmv.st) left).count true < left.count true := by
 have hm := fun r => z4o (u := u) (left := left) (rank := rank) (r := r) es []
 generalize lostF u left rank es [] = l at *
 cases l with
 | nil => exact absurd rfl h
 | cons r l =>
  rcases hm r (by simp) with h1 | ⟨x, _, h1, h2, _⟩
  ·cases h1
  ·exact (z5i ((r :: l).map Rmv.st) left).2 r.st rfl (by rw [h1]; exact h2)
theorem zcN {u : List Int} {es : List Edg} {P : Int → Prop} (h0 : ∀ s, P s → 0 ≤ s) (hs : ∀ x ∈ es, 0 ≤ x.src) (hP : ∀ x ∈ es, P x.src → x.ev ∈ u → P x.dst) : ∀ (f : Nat) (rank : Int) (left : List Bool), (∀ s, P s → leftB left s = true) → ∀ s, P s → leftB (cloF u es f rank left) s = true
 | 0, _, _, h => h
 | f + 1, rank, left, h => by
  rw [cloF]
  split
  ·exact h
  ·refine zcN h0 hs hP f (rank + 1) _ fun s hs1 => ?_
   rw [leftB, z4M]
   refine ⟨h s hs1, fun y hy e => ?_⟩
   obtain ⟨r, hr, rfl⟩ := List.mem_map.1 hy
   rcases z4o _ _ hr with h1 | ⟨x, hx, e1, _, e3, e4⟩
   ·cases h1
   ·have hsx := hs x hx
    have := h0 s hs1
    have e5 : x.src = s := by omega
    have h6 := h _ (hP x hx (e5 ▸ hs1) e4)
    rw [leftB, e3] at h6
    cases h6
def left0 (N : Nat) (bad : List Int) : List Bool := z0o bad (List.replicate N true)
theorem z33 (N : Nat) (bad : List Int) : (left0 N bad).length = N := by rw [left0, z2B, List.length_replicate]
theorem zfd (N : Nat) (bad : List Int) (k : Nat) : (left0 N bad).getD k false = true ↔ k < N ∧ ∀ x ∈ bad, x.toNat ≠ k := by
 rw [left0, z4M]
 refine and_congr_left fun _ => ?_
 by_cases h : k < N <;> simp [List.getD, List.getElem?_replicate, h]
theorem mem_badL {c : Con} {ms : List (List Int)} {k : Nat} {x : Int} : x ∈ badL c ms k ↔ ∃ j : Nat, j < k ∧ c.bound < dot c.fac (ms.getD j []) ∧ x = j := by
 rw [badL, List.mem_map]
 constructor
 ·rintro ⟨j, hj, rfl⟩
  rw [List.mem_filter, List.mem_range, decide_eq_true_eq] at hj
  exact ⟨j, hj.1, hj.2, rfl⟩
 ·rintro ⟨j, h1, h2, rfl⟩
  exact ⟨j, by rw [List.mem_filter, List.mem_range, decide_eq_true_eq]; exact ⟨h1, h2⟩, rfl⟩
theorem zj4 (c : Con) (ms : List (List Int)) (k : Nat) : (∀ x ∈ badL c ms k, 0 ≤ x ∧ x < k) ∧ (badL c ms k).Pairwise (· < ·) := by
 refine ⟨fun x hx => ?_, ?_⟩
 ·obtain ⟨j, hj, _, rfl⟩ := mem_badL.1 hx
  omega
 ·rw [badL, List.pairwise_map]
  exact (List.Pairwise.filter _ List.pairwise_lt_range).imp fun h => Int.ofNat_lt.2 h
theorem za3 (c : Con) (ms : List (List Int)) {k : Nat} (hk : k < ms.length) : leftB (left0 ms.length (badL c ms ms.length)) k = decide (dot c.fac (ms.getD k []) ≤ c.bound) := by
 rw [Bool.eq_iff_iff, leftB, Int.toNat_natCast, zfd, decide_eq_true_eq]
 constructor
 ·rintro ⟨_, h⟩
  rcases Int.lt_or_le c.bound (dot c.fac (ms.getD k [])) with h1 | h1
  ·exact absurd rfl (h _ (mem_badL.2 ⟨k, hk, h1, rfl⟩))
  ·exact h1
 ·intro h
  refine ⟨hk, fun x hx e => ?_⟩
  obtain ⟨j, _, h2, rfl⟩ := mem_badL.1 hx
  rw [Int.toNat_natCast] at e
  subst e
  omega
section
variable {a : Aut} {left : List Bool}
theorem z5L {s : Int} {p : Int × Int} (h : p ∈ sucL a left s) : ∃ x ∈ a.edges, x.src = s ∧ leftB left x.dst = true ∧ p = (x.ev, x.dst) := by
 rw [sucL] at h
 obtain ⟨x, hx, rfl⟩ := List.mem_map.1 h
 obtain ⟨h1, h2⟩ := List.mem_filter.1 hx
 rw [outL, List.mem_filter, decide_eq_true_eq] at h1
 exact ⟨x, h1.1, h1.2, h2, rfl⟩
theorem zh5 {x : Edg} (hx : x ∈ a.edges) (hl : leftB left x.dst = true) : (x.ev, x.dst) ∈ sucL a left x.src := by
 rw [sucL]
 refine List.mem_map.2 ⟨x, List.mem_filter.2 ⟨?_, hl⟩, rfl⟩
 rw [outL, List.mem_filter, decide_eq_true_eq]
 exact ⟨hx, rfl⟩
theorem zc7 (ha : a.Ok) (s : Int) : ∀ x ∈ sucL a left s, 0 ≤ x.2 ∧ x.2 < (a.states.toNat : Nat) := fun p hp => by
 obtain ⟨x, hx, _, _, rfl⟩ := z5L hp
 have := (ha.edges.1 x hx).1
 have := ha.states
 simp only
 omega
theorem z6f (ha : a.Ok) (s : Int) : (sucL a left s).Pairwise fun p q => p.1 < q.1 := by
 rw [sucL, List.pairwise_map]
 have h : (outL a.edges s).Pairwise fun x y => x.ev < y.ev := by
  refine (ha.edges.2.filter _).imp_of_mem fun {x y} hx hy hd => ?_
  have h1 := (List.mem_filter.1 hx).2
  have h2 := (List.mem_filter.1 hy).2
  rw [decide_eq_true_eq] at h1 h2
  unfold dLt at hd
  omega
 exact h.filter _
theorem zgD (ha : a.Ok) (s : Int) : (sucL a left s).length ≤ 32 := by
 have h1 := z6f (left := left) ha s
 have h2 : ((sucL a left s).map Prod.fst).Nodup := by
  rw [List.Nodup, List.pairwise_map]
  exact h1.imp fun h => by omega
 have h3 : OrdOk 32 ((sucL a left s).map Prod.fst) := ⟨h2, fun x hx => by
  obtain ⟨p, hp, rfl⟩ := List.mem_map.1 hx
  obtain ⟨y, hy, _, _, rfl⟩ := z5L hp
  exact ha.alph.1 _ (ha.edges.1 y hy).2⟩
 have := h3.le
 rwa [List.length_map] at this
theorem z8u (ha : a.Ok) (hst : 0 < a.states) (h0 : leftB left 0 = true) : Numb a.states.toNat (sucL a left) (supO a left).1 (supO a left).2 := by
 rw [supO, if_neg (by rw [h0]; rintro (h | h); omega; cases h)]
 exact zeR (by omega) (fun s _ _ => zc7 ha s) (Nat.lt_succ_self _)
theorem zhX (ha : a.Ok) (hm : a.marked = []) : (supA a left).Ok := by
 have hmk : ∀ (o : List Int) (k : Nat), mkC [] o k = [] := fun o k => by simp [mkC]
 by_cases hc : a.states = 0 ∨ leftB left 0 = false
 ·have e : supA a left = ⟨a.alph, 0, [], []⟩ := by rw [supA, hm, supO, if_pos hc]; rfl
  rw [e]
  exact ⟨ha.alph, ⟨Int.le_refl _, by simp only; omega⟩, ⟨fun x hx => (by cases hx), List.Pairwise.nil⟩, fun x hx => (by cases hx), List.Pairwise.nil⟩
 ·have hst := ha.states
  have hb := z8u (left := left) ha (by omega) (by cases h : leftB left 0 with | true => rfl | false => exact absurd (.inr h) hc)
  have hle := hb.ok.le
  rw [supA, hm, hmk]
  refine ⟨ha.alph, ⟨by simp only; omega, by simp only; omega⟩, ⟨fun x hx => (by cases hx), List.Pairwise.nil⟩, fun x hx => ?_, ?_⟩
  ·obtain ⟨j, k, hj, hk, e1, e2, hp⟩ := z30 hb hx
   obtain ⟨y, hy, _, _, e⟩ := z5L hp
   refine ⟨⟨⟨by omega, by simp only; omega⟩, by omega, by simp only; omega⟩, ?_⟩
   have := (ha.edges.1 y hy).2
   rw [show y.ev = x.ev from (congrArg Prod.fst e).symm] at this
   exact this
  ·rw [hb.edges]
   exact z7j (fun s => z6f ha s) _ _
theorem zgB (ha : a.Ok) (hm : a.marked = []) : (supA a left).Fits := by
 refine (zhX ha hm).fits ?_
 show (supO a left).2.length ≤ _
 by_cases hc : a.states = 0 ∨ leftB left 0 = false
 ·rw [supO, if_pos hc]; simp
 ·have hst := ha.states
  have hb := z8u (left := left) ha (by omega) (by cases h : leftB left 0 with | true => rfl | false => exact absurd (.inr h) hc)
  have hle := hb.ok.le
  have hl := z5Y (O := (supO a left).1) (zgD (left := left) ha) (supO a left).1.length 0
  rw [← hb.edges] at hl
  have : 32 * (supO a left).1.length ≤ 32 * 4096 := Nat.mul_le_mul_left _ (by omega)
  omega
theorem zcJ (ha : a.Ok) {x y : Edg} (hx : x ∈ a.edges) (hy : y ∈ a.edges) (h1 : x.src = y.src) (h2 : x.ev = y.ev) : x = y := by
 obtain ⟨i, hi, rfl⟩ := List.getElem_of_mem hx
 obtain ⟨j, hj, rfl⟩ := List.getElem_of_mem hy
 have hp := List.pairwise_iff_getElem.1 ha.edges.2
 rcases Nat.lt_trichotomy i j with h | h | h
 ·have := hp i j hi hj h
  unfold dLt at this
  omega
 ·subst h; rfl
 ·have := hp j i hj hi h
  unfold dLt at this
  omega
end
theorem zi1 {n : Net} {c : Con} {t : Int} (h : 0 ≤ t ∧ t < n.trs.length) : evOf (z04 n c) t = evOf n t := by
 rw [evOf, evOf, z9V _ (by omega)]; rfl
theorem zcZ {n : Net} {c : Con} (h : MonOk n c) {m : List Int} (hl : m.length = n.init.length) (h0 : 0 ≤ c.bound - dot c.fac m) {t : Int} (ha : Able n m t) (he : (effL n c).getD t.toNat 0 ≤ 0) : Able (z04 n c) (upP c m) t := by
 refine Able.mem ?_
 rw [z4R, upP, ← zd0 h hl h0]
 refine List.mem_filter.2 ⟨z7s ha, ?_⟩
 rw [roomB, decide_eq_true_eq]
 omega
theorem zfh {n : Net} {c : Con} (h : MonOk n c) {nd : List SN} (hF : Found n nd) {k : Nat} (hk : k < nd.length) (h0 : 0 ≤ c.bound - dot c.fac (nd.getD k SN.no).m) {t : Int} (ha : Able n (nd.getD k SN.no).m t) (he : (effL n c).getD t.toNat 0 ≤ 0) :
  dot c.fac (z05 (n.trs.getD t.toNat Tr.no) (nd.getD k SN.no).m) ≤ c.bound := by
 have hl := hF.nodes.len _ (z01 nd k SN.no hk)
 obtain ⟨_, j, _, e1, _, e3⟩ := z3q h hF hk h0 (zcZ h hl h0 ha he)
 rw [e1] at e3
 omega
theorem zgA {n : Net} {c : Con} {nd : List SN} (h : MonOk n c) (hn : AutOk n nd) (hnu : Numd n) {u : List Int} (hu : ∀ t ∈ u, (effL n c).getD t.toNat 0 ≤ 0) {f : Nat} {rank : Int} {left : List Bool}
  (hleft : ∀ k : Nat, k < (autO n nd).1.length → dot c.fac ((autM n nd).getD k []) ≤ c.bound → leftB left k = true) :
  ∀ k : Nat, k < (autO n nd).1.length → dot c.fac ((autM n nd).getD k []) ≤ c.bound → leftB (cloF u (autA n nd []).edges f rank left) k = true := by
 intro k hk hd
 have hok := z44 hn.found []
 refine zcN (P := fun s => (0 ≤ s ∧ s.toNat < (autO n nd).1.length) ∧ dot c.fac ((autM n nd).getD s.toNat []) ≤ c.bound) (fun s hs => hs.1.1) (fun x hx => (hok.edges.1 x hx).1.1.1) (fun x hx hs hxu => ?_) f rank left (fun s hs => ?_) k ⟨⟨by omega, by omega⟩, hd⟩
 ·obtain ⟨q, hq⟩ := zcx (s := x.src) (e := x.ev) (d := x.dst) (l := edT (autA n nd [])) (List.mem_map.2 ⟨x, hx, rfl⟩)
  have hm := z32 hq
  obtain ⟨y, hy, e⟩ := List.mem_map.1 hm
  simp only [Prod.mk.injEq] at e
  have hxy := zcJ hok hx hy e.1.symm e.2.1.symm
  rw [show q = x.dst by rw [hxy]; exact e.2.2.symm] at hq
  obtain ⟨t, h1, h2, h3, h4, h5⟩ := zcV hn hq
  refine ⟨h2, ?_⟩
  obtain ⟨i0, i1⟩ := z3j hn.found h1.2
  have hs2 := hs.2
  rw [z0B h1.2, atM] at h3 hs2
  have ht : (effL n c).getD t.toNat 0 ≤ 0 := hu t (by
   obtain ⟨t0, t1, _⟩ := h3
   rw [h4, evOf, hnu t.toNat (by omega), show ((t.toNat : Nat) : Int) = t by omega] at hxu
   exact hxu)
  have := zfh h hn.found i1 (by omega) h3 ht
  rw [h5, z0B h1.2, atM]
  exact this
 ·have := hleft s.toNat hs.1.2 hs.2
  rwa [show ((s.toNat : Nat) : Int) = s by omega] at this
structure SupR (n : Net) (c : Con) (nd ndm : List SN) (left : List Bool) (p q : Int) : Prop where
 pp : 0 ≤ p ∧ p.toNat < (autO (z04 n c) ndm).1.length
 pq : 0 ≤ q ∧ q.toNat < (supO (autA n nd []) left).1.length
 m : (autM (z04 n c) ndm).getD p.toNat [] = upP c ((autM n nd).getD ((supO (autA n nd []) left).1.getD q.toNat 0).toNat [])
 room : 0 ≤ c.bound - dot c.fac ((autM n nd).getD ((supO (autA n nd []) left).1.getD q.toNat 0).toNat [])
theorem zif {n : Net} {c : Con} {nd ndm : List SN} (h : MonOk n c) (hn : AutOk n nd) (hm : AutOk (z04 n c) ndm) (hnu : Numd n) {left : List Bool}
  (hleft : ∀ k : Nat, k < (autO n nd).1.length → dot c.fac ((autM n nd).getD k []) ≤ c.bound → leftB left k = true) : LSim (autA (z04 n c) ndm []) (supA (autA n nd []) left) (SupR n c nd ndm left) := by
 have hok := z44 hn.found []
 obtain ⟨f1, f2⟩ := z4x hn.found
 obtain ⟨g1, g2⟩ := z4x hm.found
 have hr := h.rest.1
 have h00 : leftB left 0 = true := hleft 0 f1 (by rw [f2]; omega)
 have hb := z8u (left := left) hok (by show 0 < (((autO n nd).1.length : Nat) : Int); omega) h00
 refine ⟨fun _ => ⟨?_, ?_⟩, fun p q hR => ⟨?_, ?_⟩, fun p q x p' hR hs => ?_⟩
 ·have := hb.first.1
  show (((supO (autA n nd []) left).1.length : Nat) : Int) ≠ 0
  omega
 ·refine ⟨⟨by omega, g1⟩, ⟨by omega, hb.first.1⟩, ?_, ?_⟩
  ·rw [show (0 : Int).toNat = 0 from rfl, hb.first.2, show (0 : Int).toNat = 0 from rfl, f2, g2]; rfl
  ·rw [show (0 : Int).toNat = 0 from rfl, hb.first.2, show (0 : Int).toNat = 0 from rfl, f2]; exact hr
 ·have := hR.pp
  show 0 ≤ p ∧ p < (((autO (z04 n c) ndm).1.length : Nat) : Int)
  omega
 ·have := hR.pq
  show 0 ≤ q ∧ q < (((supO (autA n nd []) left).1.length : Nat) : Int)
  omega
 ·obtain ⟨hp, hq, hM, hroom⟩ := hR
  obtain ⟨t, h1, h2, h3, h4, h5⟩ := zcV hm hs
  have hsr := hb.ok.rng _ (z01 (supO (autA n nd []) left).1 q.toNat 0 hq.2)
  generalize hS : (supO (autA n nd []) left).1.getD q.toNat 0 = s at *
  have hs2 : 0 ≤ s ∧ s.toNat < (autO n nd).1.length := by
   have : ((autA n nd []).states) = (((autO n nd).1.length : Nat) : Int) := rfl
   omega
  obtain ⟨i0, i1⟩ := z3j hn.found hs2.2
  rw [hM] at h3 h5
  have hroom2 := hroom
  rw [z0B hs2.2, atM] at h3 h5 hroom2
  obtain ⟨r1, j, hj, r2, r3, r4⟩ := z3q h hn.found i1 hroom2 h3
  have r1' : Able n ((autM n nd).getD s.toNat []) t := by rw [z0B hs2.2, atM]; exact r1
  obtain ⟨s', k1, k2, k3⟩ := zcE hn hs2 r1'
  have hms : (autM n nd).getD s'.toNat [] = (nd.getD j SN.no).m := by rw [k3, z0B hs2.2, atM, r2]
  have hl' : leftB left s' = true := by
   have := hleft s'.toNat k2.2 (by rw [hms]; omega)
   rwa [show ((s'.toNat : Nat) : Int) = s' by omega] at this
  have hx : x = evOf n t := by
   obtain ⟨t0, t1, _⟩ := r1
   rw [h4, zi1 ⟨t0, t1⟩]
  rw [← hx] at k1
  have hm1 := z32 k1
  obtain ⟨y, hy, e⟩ := List.mem_map.1 hm1
  simp only [Prod.mk.injEq] at e
  have hsu : (x, s') ∈ sucL (autA n nd []) left s := by
   have := zh5 (left := left) hy (by rw [e.2.2]; exact hl')
   rwa [e.1, e.2.1, e.2.2] at this
  have hE : edgB (supO (autA n nd []) left).1 q.toNat (x, s') ∈ (supO (autA n nd []) left).2 := by
   rw [hb.edges]
   exact mem_bfsE.2 ⟨_, hq.2, _, by rw [hS]; exact hsu, rfl⟩
  obtain ⟨q', hq'⟩ := zcx (s := q) (e := x) (l := edT (supA (autA n nd []) left)) (List.mem_map.2 ⟨_, hE, by simp only [edgB]; rw [show ((q.toNat : Nat) : Int) = q by omega]⟩)
  refine ⟨q', hq', ?_⟩
  obtain ⟨z, hz, ez⟩ := List.mem_map.1 (z32 hq')
  simp only [Prod.mk.injEq] at ez
  obtain ⟨j2, k, hj2, hk, e1, e2, hpr⟩ := z30 hb (x := z) hz
  have hj3 : j2 = q.toNat := by omega
  subst hj3
  rw [hS, ez.2.1] at hpr
  obtain ⟨v, hv, v1, v2, v3⟩ := z5L hpr
  simp only [Prod.mk.injEq] at v3
  have hvy := zcJ hok hv hy (by omega) (by rw [← v3.1, e.2.1])
  have hOk : (supO (autA n nd []) left).1.getD k 0 = s' := by rw [v3.2, hvy, e.2.2]
  have hqk : q'.toNat = k := by omega
  refine ⟨h2, ⟨by omega, by omega⟩, ?_, ?_⟩
  ·rw [h5, hqk, hOk, hms, r3]
  ·rw [hqk, hOk, hms]; exact r4
theorem zc5 {n : Net} {c : Con} {nd ndm : List SN} (h : MonOk n c) (hn : Found n nd) (hm : AutOk (z04 n c) ndm) (hnu : Numd n) {k : Nat} (hk : k < (autO (z04 n c) ndm).1.length) :
  (((autM (z04 n c) ndm).getD k []).length = n.init.length + 1 ∧ ∀ y ∈ (autM (z04 n c) ndm).getD k [], 0 ≤ y ∧ y ≤ 65536) ∧
  ∀ t, t ∈ ableL n (((autM (z04 n c) ndm).getD k []).take n.init.length) n.trs.length → (effL n c).getD t.toNat 0 ≤ 0 → t ∈ (outL (autA (z04 n c) ndm []).edges k).map Edg.ev := by
 have hmem : (autM (z04 n c) ndm).getD k [] ∈ autM (z04 n c) ndm := z01 _ _ [] (by rw [autM, List.length_map]; exact hk)
 obtain ⟨q1, q2⟩ := (z57 hm.found).1 _ hmem
 rw [z2F] at q1
 refine ⟨⟨q1, q2⟩, fun t ht he => ?_⟩
 obtain ⟨i0, i1⟩ := z3j hm.found hk
 have hini : (z04 n c).init = upP c (nd.getD 0 SN.no).m := by rw [hn.linked.first]; rfl
 obtain ⟨us, hus⟩ : ∃ us, Fires (z04 n c) (z04 n c).init us (ndm.getD ((autO (z04 n c) ndm).1.getD k 0).toNat SN.no).m := ⟨_, z7U hm.found.linked _ i1 _ (Nat.lt_succ_self _)⟩
 rw [hini] at hus
 obtain ⟨i, hi, a1, a2, a3⟩ := z8Q h hn us 0 _ hn.linked.ne (by rw [hn.linked.first]; exact h.rest.1) hus
 have hme : (autM (z04 n c) ndm).getD k [] = upP c (nd.getD i SN.no).m := by rw [z0B hk, atM]; exact a1
 have hl := hn.nodes.len _ (z01 nd i SN.no hi)
 rw [hme, upP, List.take_append_of_le_length (by omega), List.take_of_length_le (by omega)] at ht
 have hA := zcZ h hl a2 (Able.mem ht) he
 obtain ⟨q, r1, r2, r3⟩ := zcE hm (p := k) ⟨by omega, by rw [Int.toNat_natCast]; exact hk⟩ (by rw [Int.toNat_natCast, hme]; exact hA)
 obtain ⟨y, hy, e⟩ := List.mem_map.1 (z32 r1)
 simp only [Prod.mk.injEq] at e
 obtain ⟨t0, t1, _⟩ := Able.mem ht
 have hev : y.ev = t := by
  rw [e.2.1, zi1 ⟨t0, t1⟩, evOf, hnu t.toNat (by omega)]
  omega
 refine List.mem_map.2 ⟨y, ?_, hev⟩
 rw [outL, List.mem_filter, decide_eq_true_eq]
 exact ⟨hy, e.1⟩
end Go.Proofs.YtkjllcmpjghmkaaGreatDoor
