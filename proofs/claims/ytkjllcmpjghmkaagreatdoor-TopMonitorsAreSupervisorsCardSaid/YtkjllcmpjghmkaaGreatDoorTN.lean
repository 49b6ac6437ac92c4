/-
 Numbered transitions, and what is known of the automata of such nets (as TP, for the texts that do without chapter 49).
-/
import Derived.Test.YtkjllcmpjghmkaaGreatDoorLB
import Derived.Test.YtkjllcmpjghmkaaGreatDoorMI
import Derived.Test.YtkjllcmpjghmkaaGreatDoorTV
import Derived.Test.YtkjllcmpjghmkaaGreatDoorMF
set_option linter.unusedSimpArgs false
set_option linter.unusedVariables false
namespace Go.Proofs.YtkjllcmpjghmkaaGreatDoor
open Go.Eng Go.RowKit
set_option maxHeartbeats 8000000 in
theorem zhb (a b : Aut) (hfa : a.Fits) (hfb : b.Fits) (ha : a.Ok) (hb : b.Ok) : ACalls Tryz.prog 81 [.one (.int .i64 1), .one (.list [a.d, b.d])] (.one (.int .i64 0)) [] := by
 have c1 := z4z a hfa
 have c2 := z4z b hfb
 rw [ha.chk] at c1
 rw [hb.chk] at c2
 (refine ACalls.of_body Ty_ok mixed Tryz.func81 rfl (by kernel_rfl) Tryz.ntmps81 (by simp) (congrArg Array.toList Tryz.results81) ?_)
 simp only [z00, Aut.d] at c1 c2 ⊢
 (repeat' (first | (with_reducible first | refine aBl ?_ | (refine aS 11 [] ?_; intro K hK)) | ((with_reducible refine aGo ?_); simp only [go_sem]) | ((iterate 6 try ((fail_if_success with_reducible refine hK _ ?_ ?_ ?_); clear hK K)); with_reducible refine hK _ ?_ ?_ ?_; rotate_left; (focus (simp only [go_sem]; exact rfl)); clear hK K) | fail))
 refine z02 _ (by simp only [go_sem]; rfl) Nat (fun k => k ≤ 2) (fun k => [(10, .one (.int .i64 k))]) (fun _ H => H) (fun k => 2 - k) 0 (by omega) ?_ ?_
 ·(simp only [SubF, go_sem]; (try simp only [go_sem]); repeat' (first | exact True.intro | with_reducible refine And.intro ?_ ?_ | rfl | omega))
 rintro k hk L hL
 have h3 : k = 0 ∨ k = 1 ∨ k = 2 := by omega
 rcases h3 with rfl | rfl | rfl
 ·(simp only [go_sem] at hL ⊢)
  (repeat' (first | (with_reducible first | refine aBl ?_ | (refine aS 11 [] ?_; intro K hK)) | ((with_reducible refine aGo ?_); simp only [go_sem]) | ((with_reducible refine aCd ?_ ?_ (fun hb => ?_) (fun hb => ?_)); (iterate 2 simp only [go_sem]); all_goals (simp only [go_sem] at hb; try simp only [bls] at hb)) | ((iterate 6 try ((fail_if_success with_reducible refine hK _ ?_ ?_ ?_); clear hK K)); with_reducible refine hK _ ?_ ?_ ?_; rotate_left; (focus (simp only [go_sem]; exact rfl)); clear hK K) | ((with_reducible refine xA ?_); simp only [go_sem]) | fail))
  exact hL _ 1 (by omega) (by (simp only [SubF, go_sem]; (try simp only [go_sem]); repeat' (first | exact True.intro | with_reducible refine And.intro ?_ ?_ | rfl | omega))) (by omega)
 ·(simp only [go_sem] at hL ⊢)
  (repeat' (first | (with_reducible first | refine aBl ?_ | (refine aS 11 [] ?_; intro K hK)) | ((with_reducible refine aGo ?_); simp only [go_sem]) | ((with_reducible refine aCd ?_ ?_ (fun hb => ?_) (fun hb => ?_)); (iterate 2 simp only [go_sem]); all_goals (simp only [go_sem] at hb; try simp only [bls] at hb)) | ((iterate 6 try ((fail_if_success with_reducible refine hK _ ?_ ?_ ?_); clear hK K)); with_reducible refine hK _ ?_ ?_ ?_; rotate_left; (focus (simp only [go_sem]; exact rfl)); clear hK K) | ((with_reducible refine xA ?_); simp only [go_sem]) | fail))
  exact hL _ 2 (by omega) (by (simp only [SubF, go_sem]; (try simp only [go_sem]); repeat' (first | exact True.intro | with_reducible refine And.intro ?_ ?_ | rfl | omega))) (by omega)
 ·(simp only [go_sem] at hL ⊢)
  (repeat' (first | (with_reducible (refine aS 11 [] ?_; intro K hK)) | ((with_reducible refine aGo ?_); simp only [go_sem]) | ((with_reducible refine aCd ?_ ?_ (fun hb => ?_) (fun hb => ?_)); (iterate 2 simp only [go_sem]); all_goals (simp only [go_sem] at hb; try simp only [bls] at hb)) | ((iterate 6 try ((fail_if_success with_reducible refine hK _ ?_ ?_ ?_); clear hK K)); with_reducible refine hK _ ?_ ?_ ?_; rotate_left; (focus (simp only [go_sem]; exact rfl)); clear hK K) | fail))
  all_goals exact hb.1
theorem zjK (a b : Aut) (p q kd : Int) : ACalls Tryz.prog 84 [.agg [.int .i64 p, .int .i64 q], .one (.ref [machD a]), .one (.ref [.int .i64 kd]), .one (.ref [machD b])] (.one (.bool (inF a kd p && !inF b kd q))) [] := by
 have c1 := lin_c a p kd
 have c2 := lin_c b q kd
 (refine ACalls.of_body Ty_ok mixed Tryz.func84 rfl (by kernel_rfl) Tryz.ntmps84 (by simp) (congrArg Array.toList Tryz.results84) ?_)
 simp only [z00, machD] at c1 c2 ⊢
 (repeat' (first | (with_reducible (refine aS 6 [] ?_; intro K hK)) | ((with_reducible refine aGo ?_); simp only [go_sem]) | ((iterate 6 try ((fail_if_success with_reducible refine hK _ ?_ ?_ ?_); clear hK K)); with_reducible refine hK _ ?_ ?_ ?_; rotate_left; (focus (simp only [go_sem]; exact rfl)); clear hK K) | ((with_reducible first | refine xA ?_ | refine xG ?_); simp only [go_sem]) | fail))
structure LSim (a b : Aut) (R : Int → Int → Prop) : Prop where
 zero : a.states ≠ 0 → b.states ≠ 0 ∧ R 0 0
 ok : ∀ p q, R p q → (0 ≤ p ∧ p < a.states) ∧ 0 ≤ q ∧ q < b.states
 step : ∀ p q x p', R p q → lkS p x (edT a) = some p' → ∃ q', lkS q x (edT b) = some q' ∧ R p' q'
theorem z32 {s e d : Int} : ∀ {l : List (Int × Int × Int)}, lkS s e l = some d → (s, e, d) ∈ l
 | [], h => by cases h
 | x :: l, h => by
  simp only [lkS] at h
  split at h
  ·rename_i he; cases h; rw [he.1, he.2]; simp
  ·exact List.mem_cons_of_mem _ (z32 h)
theorem zcu {a : Aut} (ha : a.Ok) (s e : Int) : lnext a s e = -1 ∨ 0 ≤ s ∧ 0 ≤ lnext a s e ∧ lnext a s e < a.states ∧ lkS s e (edT a) = some (lnext a s e) := by
 unfold lnext
 cases h : lkS s e (edT a) with
 | none => exact .inl rfl
 | some d =>
  have hm := z32 h
  simp only [edT, List.mem_map] at hm
  obtain ⟨x, hx, he⟩ := hm
  have := (ha.edges.1 x hx).1
  simp only [Prod.mk.injEq] at he
  exact .inr ⟨by omega, by simp only [Option.getD_some]; omega, by simp only [Option.getD_some]; omega, rfl⟩
def LGood (a b : Aut) (R : Int → Int → Prop) (p q : Int) : Prop := ((-1 ≤ p ∧ p ≤ 4096) ∧ -1 ≤ q ∧ q ≤ 4096) ∧ (p = -1 ∨ R p q)
set_option maxHeartbeats 8000000 in
theorem zef (a b : Aut) (hfa : a.Fits) (hfb : b.Fits) (ha : a.Ok) (hb : b.Ok) (R : Int → Int → Prop) (h : LSim a b R) :
  ACalls Tryz.prog 46 [.agg a.d, .agg b.d, .one (.int .i64 1)] (.tup [.one (.list []), .one (.bool true), .one (.int .i64 0)]) [] := by
 have c1 := zhb a b hfa hfb ha hb
 have c2 := zf8 a hfa ha
 have c3 := zf8 b hfb hb
 have hsa := ha.states
 have hsb := hb.states
 have c4 := zgJ a.alph a b 84 1 (LGood a b R) hfa.alph (fun p q hg => hg.1) (by
   refine ⟨⟨by split <;> omega, by split <;> omega⟩, ?_⟩
   by_cases h0 : a.states = 0
   ·exact .inl (if_pos h0)
   ·obtain ⟨h1, h2⟩ := h.zero h0
    rw [if_neg h0, if_neg h1]; exact .inr h2) (fun p q x hg _ _ => by
   obtain ⟨hrg, hpq⟩ := hg
   have hb2 := zcu hb q x
   rcases zcu ha p x with h1 | ⟨h1, h2, h3, h4⟩
   ·exact ⟨⟨by omega, by omega⟩, .inl h1⟩
   ·rcases hpq with hpq | hpq
    ·omega
    ·obtain ⟨q', e1, e2⟩ := h.step p q x _ hpq h4
     have e3 : lnext b q x = q' := by unfold lnext; rw [e1]; rfl
     exact ⟨⟨by omega, by omega⟩, .inr (by rw [e3]; exact e2)⟩) (fun p q hg => by
   have c := zjK a b p q 1
   have e : (inF a 1 p && !inF b 1 q) = false := by
    rcases hg.2 with h1 | h1
    ·simp [inF, h1]
    ·have := h.ok p q h1
     have h2 : 0 ≤ q := by omega
     simp [inF, h2]
   rw [e] at c
   exact c)
 have hfl : ∀ row ∈ ([] : List (List D)), row.all D.flat = true := fun _ h => by cases h
 simp only [machD, Aut.d] at c1 c2 c3 c4
 (refine ACalls.of_body Ty_ok mixed Tryz.func46 rfl (by kernel_rfl) Tryz.ntmps46 (by simp) (congrArg Array.toList Tryz.results46) ?_)
 simp only [z00, Aut.d]
 (repeat' (first | (with_reducible (refine aS 14 [] ?_; intro K hK)) | ((with_reducible first | refine aGo ?_ | refine rP Ty_ok mixed 4 [] [.mid [pe 0, ⟨1, 0, true, false, false, [], []⟩, ⟨2, 1, false, false, false, [0], []⟩, ⟨3, 1, true, false, false, [], []⟩, ⟨4, 2, true, false, false, [1, 0], []⟩, ⟨5, 3, true, false, false, [2, 1, 0], []⟩] 4, .one 6, .one 7] ?_); simp only [go_sem]) | ((with_reducible refine aCd ?_ ?_ (fun hb => ?_) (fun hb => ?_)); (iterate 2 simp only [go_sem]); all_goals (simp only [go_sem] at hb; try simp only [bls] at hb)) | ((iterate 6 try ((fail_if_success with_reducible refine hK _ ?_ ?_ ?_); clear hK K)); with_reducible refine hK _ ?_ ?_ ?_; rotate_left; (focus (simp only [go_sem]; exact rfl)); clear hK K) | ((with_reducible first | refine xA ?_ | refine xO ?_); simp only [go_sem]) | fail))
end Go.Proofs.YtkjllcmpjghmkaaGreatDoor
set_option linter.unusedSimpArgs false
set_option linter.unusedVariables false
namespace Go.Proofs.YtkjllcmpjghmkaaGreatDoor
open Go.Eng Go.RowKit
theorem zcy {n : Net} {l : List Edg} (hc : Cons n l) {y : Edg} (hy : y ∈ l) : lkE n y.src (evOf n y.ev) l = some y.dst := by
 cases h : lkE n y.src (evOf n y.ev) l with
 | none => exact absurd rfl (z8X h y hy rfl)
 | some x =>
  obtain ⟨z, hz, h1, h2, rfl⟩ := z4S h
  rw [hc z hz y hy h1 h2]
structure AutOk (n : Net) (nd : List SN) : Prop where
 found : Found n nd
 cons : Cons n (grE n nd)
section
variable {n : Net} {nd : List SN}
theorem zi8 {n : Net} {t : Int} (h : 0 ≤ t ∧ t < n.trs.length) : evOf n t ∈ evsN n := by
 rw [evsN, z9W, zcr, evL]
 exact List.mem_map_of_mem (z01 n.trs t.toNat Tr.no (by omega))
def sucN (n : Net) (nd : List SN) : Int → List (Int × Int) := sucF (fun s e => lkE n s e (grE n nd)) (evsN n)
theorem mem_suc {s e x : Int} : (e, x) ∈ sucN n nd s ↔ e ∈ evsN n ∧ lkE n s e (grE n nd) = some x := by
 rw [sucN, sucF, List.mem_filterMap]
 constructor
 ·rintro ⟨a, ha, h⟩
  cases hk : lkE n s a (grE n nd) with
  | none => rw [hk] at h; cases h
  | some y => rw [hk] at h; cases h; exact ⟨ha, hk⟩
 ·rintro ⟨h1, h2⟩
  exact ⟨e, h1, by rw [h2]; rfl⟩
theorem zjo (h : AutOk n nd) {y : Edg} (hy : y ∈ grE n nd) : (evOf n y.ev, y.dst) ∈ sucN n nd y.src :=
 mem_suc.2 ⟨zi8 (zfu h.found y hy).2.1, zcy h.cons hy⟩
theorem zgC {s e x : Int} (h : (e, x) ∈ sucN n nd s) : ∃ y ∈ grE n nd, y.src = s ∧ evOf n y.ev = e ∧ y.dst = x := z4S (mem_suc.1 h).2
theorem z1J (h : Found n nd) : Numb nd.length (sucN n nd) (autO n nd).1 (autO n nd).2 := zeR (z3d h) (fun s _ _ => z8v h _ s) (Nat.lt_succ_self _)
theorem zdc (evs : List Int) (hs : evs.Pairwise (· < ·)) (lk : Int → Int → Option Int) (s : Int) : (sucF lk evs s).Pairwise (fun p q => p.1 < q.1) := by
 induction evs with
 | nil => exact .nil
 | cons e r ih =>
  have hs' := List.pairwise_cons.1 hs
  rw [zc6]
  cases lk s e with
  | none => exact ih hs'.2
  | some x =>
   refine List.pairwise_cons.2 ⟨fun q hq => ?_, ih hs'.2⟩
   rw [sucF, List.mem_filterMap] at hq
   obtain ⟨a, ha, hq⟩ := hq
   have := hs'.1 a ha
   cases hk : lk s a with
   | none => rw [hk] at hq; cases hq
   | some y => rw [hk] at hq; cases hq; exact this
theorem z7j {succ : Int → List (Int × Int)} {O : List Int} (hs : ∀ s, (succ s).Pairwise fun p q => p.1 < q.1) : ∀ (i k : Nat), (bfsE succ O i k).Pairwise dLt := by
 intro i k
 rw [bfsE]
 refine List.pairwise_flatMap.2 ⟨fun j _ => ?_, ?_⟩
 ·rw [List.pairwise_map]
  exact (hs _).imp fun h => .inr ⟨rfl, h⟩
 ·refine (List.pairwise_lt_range' (s := i) (n := k)).imp fun {a b} hab x hx y hy => ?_
  obtain ⟨p, _, rfl⟩ := List.mem_map.1 hx
  obtain ⟨q, _, rfl⟩ := List.mem_map.1 hy
  exact .inl (by simp only [edgB]; omega)
theorem z6W (n : Net) : (evsN n).Pairwise (· < ·) := zfP (zgG _)
theorem zdu (mk : List (List Int)) (o : List Int) (k : Nat) : (mkL nd mk o k).Pairwise (· < ·) := by
 rw [mkL, List.pairwise_map]
 exact (List.Pairwise.filter _ List.pairwise_lt_range).imp fun h => Int.ofNat_lt.2 h
theorem mem_mkL {mk : List (List Int)} {o : List Int} {k : Nat} {x : Int} : x ∈ mkL nd mk o k ↔ ∃ j : Nat, j < k ∧ x = j ∧ atM nd (o.getD j 0) ∈ mk := by
 rw [mkL, List.mem_map]
 constructor
 ·rintro ⟨j, hj, rfl⟩
  rw [List.mem_filter, List.mem_range, decide_eq_true_eq] at hj
  exact ⟨j, hj.1, rfl, hj.2⟩
 ·rintro ⟨j, hj, rfl, h⟩
  exact ⟨j, by rw [List.mem_filter, List.mem_range, decide_eq_true_eq]; exact ⟨hj, h⟩, rfl⟩
theorem ziU (h : NetOk n) : ∀ x ∈ evsN n, 0 ≤ x ∧ x < 32 := fun x hx => by
 rw [evsN, z9W, zcr, evL, List.mem_map] at hx
 obtain ⟨t, ht, rfl⟩ := hx
 exact h.ev t ht
theorem z30 {N : Nat} {succ : Int → List (Int × Int)} {O : List Int} {ES : List Edg} (h : Numb N succ O ES) {x : Edg} (hx : x ∈ ES) : ∃ j k : Nat, j < O.length ∧ k < O.length ∧ x.src = j ∧ x.dst = k ∧ (x.ev, O.getD k 0) ∈ succ (O.getD j 0) := by
 rw [h.edges] at hx
 obtain ⟨j, hj, p, hp, rfl⟩ := mem_bfsE.1 hx
 obtain ⟨k, hk, h1, h2⟩ := h.ix (h.closed _ (z01 O j 0 hj) p hp)
 exact ⟨j, k, hj, hk, rfl, by simp only [edgB, h1, Option.getD_some], by rw [h2]; exact hp⟩
theorem z44 (h : Found n nd) (mk : List (List Int)) : (autA n nd mk).Ok := by
 have hb := z1J h
 have hle := hb.ok.le
 have h4 := h.le
 refine ⟨⟨ziU h.ok, z6W n⟩, ⟨by simp only [autA]; omega, by simp only [autA]; omega⟩, ⟨fun x hx => ?_, zdu _ _ _⟩, fun x hx => ?_, ?_⟩
 ·obtain ⟨j, hj, rfl, _⟩ := mem_mkL.1 hx
  simp only [autA]; omega
 ·obtain ⟨j, k, hj, hk, e1, e2, hp⟩ := z30 hb hx
  exact ⟨⟨⟨by omega, by simp only [autA]; omega⟩, by omega, by simp only [autA]; omega⟩, (mem_suc.1 hp).1⟩
 ·rw [show (autA n nd mk).edges = (autO n nd).2 from rfl, hb.edges]
  exact z7j (fun s => zdc _ (z6W n) _ s) _ _
theorem z9Q {succ : Int → List (Int × Int)} {O : List Int} {k : Nat} : ∀ (i m : Nat), outL (bfsE succ O i m) (k : Int) = if i ≤ k ∧ k < i + m then (succ (O.getD k 0)).map (edgB O k) else []
 | i, 0 => by rw [if_neg (by omega)]; rfl
 | i, m + 1 => by
  have ih := z9Q (succ := succ) (O := O) (k := k) (i + 1) m
  have e : bfsE succ O i (m + 1) = (succ (O.getD i 0)).map (edgB O i) ++ bfsE succ O (i + 1) m := by rw [bfsE, List.range'_succ, List.flatMap_cons, bfsE]
  have e2 : outL (bfsE succ O i (m + 1)) k = outL ((succ (O.getD i 0)).map (edgB O i)) k ++ outL (bfsE succ O (i + 1) m) k := by rw [e, outL, List.filter_append]; rfl
  rw [e2, ih]
  by_cases hik : i = k
  ·subst hik
   rw [if_neg (show ¬ (i + 1 ≤ i ∧ i < i + 1 + m) by omega), if_pos (show i ≤ i ∧ i < i + (m + 1) by omega), List.append_nil, outL]
   refine List.filter_eq_self.2 fun x hx => ?_
   obtain ⟨p, _, rfl⟩ := List.mem_map.1 hx
   simp [edgB]
  ·have e3 : outL ((succ (O.getD i 0)).map (edgB O i)) k = [] := by
    rw [outL, List.filter_eq_nil_iff]
    intro x hx
    obtain ⟨p, _, rfl⟩ := List.mem_map.1 hx
    intro hcc
    have hcd : (i : Int) = (k : Int) := of_decide_eq_true hcc
    omega
   rw [e3, List.nil_append]
   by_cases h : i ≤ k ∧ k < i + (m + 1)
   ·rw [if_pos h, if_pos (show i + 1 ≤ k ∧ k < i + 1 + m by omega)]
   ·rw [if_neg h, if_neg (show ¬ (i + 1 ≤ k ∧ k < i + 1 + m) by omega)]
end
end Go.Proofs.YtkjllcmpjghmkaaGreatDoor
set_option linter.unusedSimpArgs false
set_option linter.unusedVariables false
namespace Go.Proofs.YtkjllcmpjghmkaaGreatDoor
open Go.Eng Go.RowKit
def numK (i : Nat) (l : List Tr) : List Tr := (List.range l.length).map fun j => if j < i then ⟨j, (l.getD j Tr.no).inn, (l.getD j Tr.no).out⟩ else l.getD j Tr.no
def numN (n : Net) : Net := ⟨n.init, numK n.trs.length n.trs⟩
theorem z3T (i : Nat) (l : List Tr) : (numK i l).length = l.length := by simp [numK]
theorem zcm {i : Nat} {l : List Tr} {k : Nat} (h : k < l.length) : (numK i l).getD k Tr.no = if k < i then ⟨k, (l.getD k Tr.no).inn, (l.getD k Tr.no).out⟩ else l.getD k Tr.no := by
 simp only [numK, List.getD, List.getElem?_map, List.getElem?_range h, Option.map_some, Option.getD_some]
theorem zbb (n : Net) : (numN n).trs.length = n.trs.length := z3T _ _
theorem zeS {n : Net} {k : Nat} (h : k < n.trs.length) : (numN n).trs.getD k Tr.no = ⟨k, (n.trs.getD k Tr.no).inn, (n.trs.getD k Tr.no).out⟩ := by
 rw [numN, zcm h, if_pos h]
theorem ziE {n : Net} {t : Tr} (h : t ∈ (numN n).trs) : ∃ k, k < n.trs.length ∧ t = ⟨k, (n.trs.getD k Tr.no).inn, (n.trs.getD k Tr.no).out⟩ := by
 obtain ⟨k, hk, rfl⟩ := List.getElem_of_mem h
 have hk2 : k < n.trs.length := by rw [zbb] at hk; exact hk
 refine ⟨k, hk2, ?_⟩
 rw [← zeS hk2, List.getD, List.getElem?_eq_getElem hk]; rfl
theorem zjw {n : Net} (h : NetOk n) : NetOk (numN n) := by
 have ht := h.trs
 refine ⟨h.init, h.tok, by rw [zbb]; exact ht, fun t hm => ?_, fun t hm => ?_, fun t hm => ?_⟩ <;> obtain ⟨k, hk, rfl⟩ := ziE hm
 ·simp only; omega
 ·have := h.inn _ (z01 n.trs k Tr.no hk)
  exact this
 ·have := h.out _ (z01 n.trs k Tr.no hk)
  exact this
def Numd (n : Net) : Prop := ∀ k, k < n.trs.length → (n.trs.getD k Tr.no).event = k
theorem zgV (n : Net) : Numd (numN n) := fun k hk => by
 rw [zbb] at hk
 rw [zeS hk]
theorem zeQ {n : Net} (h : Numd n) (nd : List SN) : Cons n (grE n nd) := by
 intro x hx y hy h1 h2
 obtain ⟨i, t, _, ht, rfl⟩ := mem_grE.1 hx
 obtain ⟨j, s, _, hs, rfl⟩ := mem_grE.1 hy
 simp only [edgT, evOf] at h1 h2
 obtain ⟨t0, t1, _⟩ := ht
 obtain ⟨s0, s1, _⟩ := hs
 have e1 := h t.toNat (by omega)
 have e2 := h s.toNat (by omega)
 have e3 : i = j := by omega
 have e4 : t = s := by omega
 subst e3 e4; rfl
theorem z4y {n : Net} (h : Numd n) {nd : List SN} {ed : List Edg} (hb : bndF n = .inr (nd, ed)) : autF n [] = .inr (autA n nd [], autM n nd) ∧ AutOk n nd := by
 obtain ⟨hF, hE⟩ := z2x hb
 have hc := zeQ h nd
 refine ⟨?_, hF, hc⟩
 have h0 := z8M hF.ok
 have h1 : mksE n [] = 0 := rfl
 rw [autF, if_neg (by omega), hb, auG, if_neg (by omega)]
 cases hT : toF n ed [] with
 | none => exact absurd (hE ▸ hc) (zgw hT)
 | some T => rfl
section
variable {n : Net} {nd : List SN}
theorem zcx {s e d : Int} : ∀ {l : List (Int × Int × Int)}, (s, e, d) ∈ l → ∃ x, lkS s e l = some x
 | y :: l, h => by
  rw [lkS]
  split
  ·exact ⟨_, rfl⟩
  ·rename_i hne
   rcases List.mem_cons.1 h with rfl | h
   ·exact absurd ⟨rfl, rfl⟩ hne
   ·exact zcx h
theorem z0B {i : Nat} (h : i < (autO n nd).1.length) : (autM n nd).getD i [] = atM nd ((autO n nd).1.getD i 0) := by
 simp only [autM, List.getD, List.getElem?_map, List.getElem?_eq_getElem h]; rfl
theorem z3j (h : Found n nd) {i : Nat} (hi : i < (autO n nd).1.length) : 0 ≤ (autO n nd).1.getD i 0 ∧ ((autO n nd).1.getD i 0).toNat < nd.length := by
 have := (z7m h).rng _ (z01 (autO n nd).1 i 0 hi)
 omega
theorem zcV (h : AutOk n nd) {p x q : Int} (hs : lkS p x (edT (autA n nd [])) = some q) : ∃ t, (0 ≤ p ∧ p.toNat < (autO n nd).1.length) ∧ (0 ≤ q ∧ q.toNat < (autO n nd).1.length) ∧
  Able n ((autM n nd).getD p.toNat []) t ∧ x = evOf n t ∧ (autM n nd).getD q.toNat [] = z05 (n.trs.getD t.toNat Tr.no) ((autM n nd).getD p.toNat []) := by
 have hb := z1J h.found
 have hm := z32 hs
 obtain ⟨y, hy, he⟩ := List.mem_map.1 hm
 simp only [Prod.mk.injEq] at he
 obtain ⟨j, k, hj, hk, e1, e2, hp⟩ := z30 hb (x := y) hy
 obtain ⟨z, hz, z1, z2, z3⟩ := zgC hp
 obtain ⟨i, t, hi, ht, rfl⟩ := mem_grE.1 hz
 simp only [edgT] at z1 z2 z3
 obtain ⟨w1, w2⟩ := za6 (h.found.closed i hi t ht)
 have hpj : p.toNat = j := by omega
 have hqk : q.toNat = k := by omega
 have a1 : atM nd ((autO n nd).1.getD j 0) = (nd.getD i SN.no).m := by rw [← z1, atM, Int.toNat_natCast]
 have a2 : atM nd ((autO n nd).1.getD k 0) = z05 (n.trs.getD t.toNat Tr.no) (nd.getD i SN.no).m := by rw [← z3, atM, Int.toNat_natCast]; exact w2
 refine ⟨t, ⟨by omega, by omega⟩, ⟨by omega, by omega⟩, ?_, by omega, ?_⟩
 ·rw [hpj, z0B hj, a1]; exact ht
 ·rw [hpj, hqk, z0B hj, z0B hk, a1, a2]
theorem zcE (h : AutOk n nd) {p t : Int} (hp : 0 ≤ p ∧ p.toNat < (autO n nd).1.length) (ht : Able n ((autM n nd).getD p.toNat []) t) : ∃ q, lkS p (evOf n t) (edT (autA n nd [])) = some q ∧ (0 ≤ q ∧ q.toNat < (autO n nd).1.length) ∧
  (autM n nd).getD q.toNat [] = z05 (n.trs.getD t.toNat Tr.no) ((autM n nd).getD p.toNat []) := by
 have hb := z1J h.found
 have hpn : ((p.toNat : Nat) : Int) = p := by omega
 rw [z0B hp.2] at ht ⊢
 obtain ⟨i0, i1⟩ := z3j h.found hp.2
 have hg : edgT n nd ((autO n nd).1.getD p.toNat 0).toNat t ∈ grE n nd := mem_grE.2 ⟨_, t, i1, ht, rfl⟩
 have hsu := zjo h hg
 obtain ⟨w1, w2⟩ := za6 (h.found.closed _ i1 t ht)
 have es : (edgT n nd ((autO n nd).1.getD p.toNat 0).toNat t).src = (autO n nd).1.getD p.toNat 0 := by simp only [edgT]; omega
 rw [es] at hsu
 have hE : edgB (autO n nd).1 p.toNat (evOf n (edgT n nd ((autO n nd).1.getD p.toNat 0).toNat t).ev, (edgT n nd ((autO n nd).1.getD p.toNat 0).toNat t).dst) ∈ (autO n nd).2 := by
  rw [hb.edges]
  exact mem_bfsE.2 ⟨_, hp.2, _, hsu, rfl⟩
 obtain ⟨q, hq⟩ := zcx (s := p) (e := evOf n t) (l := edT (autA n nd [])) (List.mem_map.2 ⟨_, hE, by simp only [edgB, edgT, hpn]; rfl⟩)
 refine ⟨q, hq, ?_⟩
 have hm := z32 hq
 obtain ⟨y, hy, he⟩ := List.mem_map.1 hm
 simp only [Prod.mk.injEq] at he
 obtain ⟨j, k, hj, hk, e1, e2, hpr⟩ := z30 hb (x := y) hy
 have hj2 : j = p.toNat := by omega
 subst hj2
 have hqk : q.toNat = k := by omega
 have u1 := (mem_suc.1 hsu).2
 have u2 := (mem_suc.1 hpr).2
 rw [he.2.1] at u2
 simp only [edgT] at u1
 rw [u2] at u1
 have u3 := Option.some.inj u1
 refine ⟨⟨by omega, by omega⟩, ?_⟩
 rw [hqk, z0B hk, u3, atM, Int.toNat_natCast, w2]; rfl
theorem z4x (h : Found n nd) : 0 < (autO n nd).1.length ∧ (autM n nd).getD 0 [] = n.init := by
 have hf := (z1J h).first
 refine ⟨hf.1, ?_⟩
 rw [z0B hf.1, hf.2, atM]
 rw [show (0 : Int).toNat = 0 from rfl, h.linked.first]
theorem z5Y {succ : Int → List (Int × Int)} {O : List Int} {B : Nat} (h : ∀ s, (succ s).length ≤ B) : ∀ (k i : Nat), (bfsE succ O i k).length ≤ B * k
 | 0, i => by simp [bfsE]
 | k + 1, i => by
  have ih := z5Y (O := O) h k (i + 1)
  have h1 := h (O.getD i 0)
  rw [bfsE] at ih ⊢
  rw [List.range'_succ, List.flatMap_cons, List.length_append, List.length_map, Nat.mul_succ]
  omega
theorem zcU (h : Found n nd) : (autA n nd []).Fits := by
 have hb := z1J h
 have hle := hb.ok.le
 have h4 := h.le
 have ht := h.ok.trs
 have hs : ∀ s, (sucN n nd s).length ≤ 10 := fun s => by
  have h1 := z41 n
  have h2 : (sucN n nd s).length ≤ (evsN n).length := List.length_filterMap_le _ _
  omega
 have hl := z5Y (O := (autO n nd).1) hs (autO n nd).1.length 0
 rw [← hb.edges] at hl
 have hm : 10 * (autO n nd).1.length ≤ 10 * 4096 := Nat.mul_le_mul_left _ (by omega)
 exact (z44 h []).fits (by show (autO n nd).2.length ≤ _; omega)
end
end Go.Proofs.YtkjllcmpjghmkaaGreatDoor
