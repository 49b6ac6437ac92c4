/-
 Contracts: siphons and traps: what a set touches, the greatest set of a kind, checks.
-/
import Derived.Test.YtljpfdehnjemlaaGreatDoorWC
import Derived.Test.YtljpfdehnjemlaaGreatDoorWE
import Derived.Test.YtljpfdehnjemlaaGreatDoorN18
set_option linter.unusedSimpArgs false
set_option linter.unusedVariables false
namespace Go.Proofs.YtljpfdehnjemlaaGreatDoor
open Go.Eng Go.RowKit
def touchL (l : List Arc) (s : List Int) : Bool := l.any fun a => decide (a.place ∈ s)
def askedL (k : Int) (t : Tr) : List Arc := if k = 1 then t.out else t.inn
def answL (k : Int) (t : Tr) : List Arc := if k = 1 then t.inn else t.out
def isL (k : Int) (ts : List Tr) (s : List Int) : Bool := ts.all fun t => !touchL (askedL k t) s || touchL (answL k t) s
def redT (k : Int) (t : Tr) (s : List Int) : List Int := if touchL (answL k t) s = true then s else s.filter fun p => !touchL (askedL k t) [p]
def redR (k : Int) (ts : List Tr) (s : List Int) : List Int := ts.foldl (fun s t => redT k t s) s
def redF (k : Int) (ts : List Tr) : Nat → List Int → List Int
 | 0, s => s
 | f + 1, s => if (redR k ts s).length < s.length then redF k ts f (redR k ts s) else s
def redL (k : Int) (ts : List Tr) (s : List Int) : List Int := redF k ts s.length s
theorem touchL_iff (l : List Arc) (s : List Int) : touchL l s = true ↔ ∃ a ∈ l, a.place ∈ s := by simp [touchL]
theorem touchL_mono {l : List Arc} {s u : List Int} (h : ∀ p ∈ u, p ∈ s) (ht : touchL l u = true) : touchL l s = true := by
 rw [touchL_iff] at *
 obtain ⟨a, ha, hp⟩ := ht
 exact ⟨a, ha, h _ hp⟩
theorem redT_sub (k : Int) (t : Tr) (s : List Int) : (redT k t s).Sublist s := by
 unfold redT
 split
 ·exact List.Sublist.refl _
 ·exact List.filter_sublist
theorem redR_sub (k : Int) (ts : List Tr) (s : List Int) : (redR k ts s).Sublist s := by
 induction ts generalizing s with
 | nil => exact List.Sublist.refl _
 | cons t ts ih => exact (ih (redT k t s)).trans (redT_sub k t s)
theorem redF_sub (k : Int) (ts : List Tr) : ∀ (f : Nat) (s : List Int), (redF k ts f s).Sublist s
 | 0, s => List.Sublist.refl _
 | f + 1, s => by
  rw [redF]
  split
  ·exact (redF_sub k ts f _).trans (redR_sub k ts s)
  ·exact List.Sublist.refl _
theorem redL_sub (k : Int) (ts : List Tr) (s : List Int) : (redL k ts s).Sublist s := redF_sub k ts _ s
theorem isL_iff (k : Int) (ts : List Tr) (s : List Int) : isL k ts s = true ↔ ∀ t ∈ ts, touchL (askedL k t) s = true → touchL (answL k t) s = true := by
 simp only [isL, List.all_eq_true, Bool.or_eq_true, Bool.not_eq_true']
 constructor
 ·intro h t ht ha
  rcases h t ht with h | h
  ·rw [h] at ha; cases ha
  ·exact h
 ·intro h t ht
  cases ha : touchL (askedL k t) s with
  | false => exact .inl rfl
  | true => exact .inr (h t ht ha)
theorem isL_of_fix {k : Int} {ts : List Tr} {s : List Int} (h : (redR k ts s).length = s.length) : isL k ts s = true := by
 rw [isL_iff]
 induction ts with
 | nil => intro t ht; simp at ht
 | cons t ts ih =>
  have h1 : (redR k ts (redT k t s)).length = s.length := h
  have h2 := (redR_sub k ts (redT k t s)).length_le
  have h3 := (redT_sub k t s).length_le
  have e : redT k t s = s := (redT_sub k t s).eq_of_length (by omega)
  rw [e] at h1
  intro t' ht'
  rcases List.mem_cons.1 ht' with rfl | ht'
  ·intro ha
   cases hb : touchL (answL k t') s with
   | true => rfl
   | false =>
    obtain ⟨a, ha1, ha2⟩ := (touchL_iff _ _).1 ha
    unfold redT at e
    rw [if_neg (by rw [hb]; simp)] at e
    rw [← e, List.mem_filter] at ha2
    have : touchL (askedL k t') [a.place] = true := (touchL_iff _ _).2 ⟨a, ha1, by simp⟩
    rw [this] at ha2
    cases ha2.2
  ·exact ih h1 t' ht'
theorem redF_is (k : Int) (ts : List Tr) : ∀ (f : Nat) (s : List Int), s.length ≤ f → isL k ts (redF k ts f s) = true
 | 0, s, h => by
  have : s = [] := List.length_eq_zero_iff.1 (by omega)
  subst this
  rw [redF, isL_iff]
  intro t _ ha
  simp [touchL] at ha
 | f + 1, s, h => by
  rw [redF]
  split
  ·exact redF_is k ts f _ (by omega)
  ·have := (redR_sub k ts s).length_le
   exact isL_of_fix (by omega)
theorem redL_is (k : Int) (ts : List Tr) (s : List Int) : isL k ts (redL k ts s) = true := redF_is k ts _ s (Nat.le_refl _)
theorem redT_of_is {k : Int} {t : Tr} {s : List Int} (h : touchL (askedL k t) s = true → touchL (answL k t) s = true) : redT k t s = s := by
 unfold redT
 split
 ·rfl
 ·rename_i hn
  rw [List.filter_eq_self]
  intro p hp
  cases ha : touchL (askedL k t) [p] with
  | false => rfl
  | true => exact absurd (h (touchL_mono (fun q hq => by simp at hq; rw [hq]; exact hp) ha)) hn
theorem redR_of_is {k : Int} {ts : List Tr} {s : List Int} (h : isL k ts s = true) : redR k ts s = s := by
 rw [isL_iff] at h
 unfold redR
 induction ts with
 | nil => rfl
 | cons t ts ih =>
  rw [List.foldl_cons, redT_of_is (h t (by simp))]
  exact ih (fun t' h' => h t' (by simp [h']))
theorem redL_id_iff (k : Int) (ts : List Tr) (s : List Int) : (redL k ts s).length = s.length ↔ isL k ts s = true := by
 constructor
 ·intro h
  have := redL_is k ts s
  rwa [(redL_sub k ts s).eq_of_length h] at this
 ·intro h
  unfold redL
  cases hs : s.length with
  | zero => rw [redF, hs]
  | succ f => rw [redF, redR_of_is h, if_neg (by omega), hs]
theorem redF_fuel (k : Int) (ts : List Tr) : ∀ (f g : Nat) (s : List Int), s.length ≤ f → s.length ≤ g → redF k ts f s = redF k ts g s
 | 0, 0, s, _, _ => rfl
 | 0, g + 1, s, h, _ => by
  have : s = [] := List.length_eq_zero_iff.1 (by omega)
  subst this
  rw [redF, redF, if_neg (by simp)]
 | f + 1, 0, s, _, h => by
  have : s = [] := List.length_eq_zero_iff.1 (by omega)
  subst this
  rw [redF, redF, if_neg (by simp)]
 | f + 1, g + 1, s, hf, hg => by
  rw [redF, redF]
  split
  ·exact redF_fuel k ts f g _ (by omega) (by omega)
  ·rfl
theorem redL_step (k : Int) (ts : List Tr) (s : List Int) : redL k ts s = if (redR k ts s).length < s.length then redL k ts (redR k ts s) else s := by
 unfold redL
 cases hs : s.length with
 | zero =>
  rw [redF, if_neg (by omega)]
 | succ f =>
  rw [redF, hs]
  split
  ·exact redF_fuel k ts _ _ _ (by omega) (Nat.le_refl _)
  ·rfl
end Go.Proofs.YtljpfdehnjemlaaGreatDoor
set_option linter.unusedSimpArgs false
set_option linter.unusedVariables false
namespace Go.Proofs.YtljpfdehnjemlaaGreatDoor
open Go.Eng Go.RowKit
theorem sides_c (t : Tr) (k : Int) : ACalls Tryz.prog 93 [.agg t.d, .one (.int .i64 k)] (.tup [.one (.list (arcsD (askedL k t))), .one (.list (arcsD (answL k t)))]) [] := by
 (refine ACalls.of_body Ty_ok mixed Tryz.func93 rfl (by kernel_rfl) Tryz.ntmps93 (by simp) (congrArg Array.toList Tryz.results93) ?_)
 simp only [slotsOf, Tr.d]
 (repeat' (first | (with_reducible first | refine And.intro ?_ ?_ | (refine aS 6 [] ?_; intro K hK)) | ((with_reducible first | refine aGo ?_ | refine rD (id := 2) ?_ | refine rD (id := 3) ?_); simp only [go_sem]) | ((with_reducible refine aCd ?_ ?_ (fun hb => ?_) (fun hb => ?_)); (iterate 2 simp only [go_sem]); all_goals (simp only [go_sem] at hb; try simp only [bls] at hb)) | ((iterate 6 try ((fail_if_success with_reducible refine hK _ ?_ ?_ ?_); clear hK K)); with_reducible refine hK _ ?_ ?_ ?_; rotate_left; (focus (simp only [go_sem]; exact rfl)); clear hK K) | fail))
 all_goals (simp only [askedL, answL, hb, if_true, if_false])
theorem siTouches1_c (a : Arc) (s : List Int) (hn : s.length ≤ 1000000) (hs : s.Pairwise (· ≤ ·)) : ACalls Tryz.prog 128 [.agg a.d, .one (.ref [.list (ints s)])] (.one (.bool (decide (a.place ∈ s)))) [] := by
 (refine ACalls.of_body Ty_ok mixed Tryz.func128 rfl (by kernel_rfl) Tryz.ntmps128 (by simp) (congrArg Array.toList Tryz.results128) ?_)
 simp only [slotsOf, Arc.d]
 (repeat' (first | (with_reducible (refine aS 4 [] ?_; intro K hK)) | ((with_reducible refine aGo ?_); simp only [go_sem]) | ((iterate 6 try ((fail_if_success with_reducible refine hK _ ?_ ?_ ?_); clear hK K)); with_reducible refine hK _ ?_ ?_ ?_; rotate_left; (focus (simp only [go_sem]; exact rfl)); clear hK K) | ((with_reducible refine cA (Contains_c s a.place hn hs) ?_); simp only [go_sem]) | fail))
theorem siTouches_c (l : List Arc) (s : List Int) (hl : l.length ≤ 1000000) (hn : s.length ≤ 1000000) (hs : s.Pairwise (· ≤ ·)) : ACalls Tryz.prog 94 [.one (.list (arcsD l)), .one (.list (ints s))] (.one (.bool (touchL l s))) [] := by
 have h1 := ContainsFuncArcs_c l 128 [.ref [.list (ints s)]] (fun a => decide (a.place ∈ s)) hl (capsOk_ref1 _) (fun a _ => siTouches1_c a s hn hs)
 (refine ACalls.of_body Ty_ok mixed Tryz.func94 rfl (by kernel_rfl) Tryz.ntmps94 (by simp) (congrArg Array.toList Tryz.results94) ?_)
 simp only [slotsOf]
 (repeat' (first | (with_reducible (refine aS 5 [] ?_; intro K hK)) | ((with_reducible refine aGo ?_); simp only [go_sem]) | ((iterate 6 try ((fail_if_success with_reducible refine hK _ ?_ ?_ ?_); clear hK K)); with_reducible refine hK _ ?_ ?_ ?_; rotate_left; (focus (simp only [go_sem]; exact rfl)); clear hK K) | ((with_reducible refine xA ?_); simp only [go_sem]) | fail))
 rfl
theorem reduce1_c (p : Int) (l : List Arc) (hl : l.length ≤ 1000000) : ACalls Tryz.prog 96 [.one (.int .i64 p), .one (.ref [.list (arcsD l)])] (.one (.bool (touchL l [p]))) [] := by
 have h1 := siTouches_c l [p] hl (by simp) (by simp)
 (refine ACalls.of_body Ty_ok mixed Tryz.func96 rfl (by kernel_rfl) Tryz.ntmps96 (by simp) (congrArg Array.toList Tryz.results96) ?_)
 simp only [slotsOf]
 (repeat' (first | (with_reducible (refine aS 4 [] ?_; intro K hK)) | ((with_reducible refine aGo ?_); simp only [go_sem]) | ((iterate 6 try ((fail_if_success with_reducible refine hK _ ?_ ?_ ?_); clear hK K)); with_reducible refine hK _ ?_ ?_ ?_; rotate_left; (focus (simp only [go_sem]; exact rfl)); clear hK K) | (((with_reducible refine gA ?_); refine xA ?_); simp only [go_sem]) | fail))
theorem redT_eq (k : Int) (t : Tr) (s : List Int) (h : touchL (answL k t) s = false) : s.filter (fun p => !touchL (askedL k t) [p]) = redT k t s := by
 unfold redT
 rw [if_neg (by rw [h]; simp)]
theorem redT_same (k : Int) (t : Tr) (s : List Int) (h : touchL (answL k t) s = true) : redT k t s = s := by
 unfold redT
 rw [if_pos h]
theorem redR_take (k : Int) (ts : List Tr) (s : List Int) (j : Nat) (hj : j < ts.length) : redR k (ts.take (j + 1)) s = redT k (ts.getD j Tr.no) (redR k (ts.take j) s) := by
 rw [take_succ_getD ts j Tr.no hj]
 simp [redR, List.foldl_append]
set_option maxHeartbeats 16000000 in
theorem reduce_c (n : Net) (s : List Int) (k : Int) (hf : n.Fits) (hn : s.length ≤ 1000000) (hs : s.Pairwise (· ≤ ·)) : ACalls Tryz.prog 53 [.agg n.d, .one (.list (ints s)), .one (.int .i64 k)] (.one (.list (ints (redL k n.trs s)))) [] := by
 have h1 := hf.trs
 (refine ACalls.of_body Ty_ok mixed Tryz.func53 rfl (by kernel_rfl) Tryz.ntmps53 (by simp) (congrArg Array.toList Tryz.results53) ?_)
 simp only [slotsOf, Net.d]
 (repeat' (first | (with_reducible first | refine aBl ?_ | (refine aS 13 [18, 17, 19] ?_; intro K hK)) | ((with_reducible refine aGo ?_); simp only [go_sem]) | ((iterate 6 try ((fail_if_success with_reducible refine hK _ ?_ ?_ ?_); clear hK K)); with_reducible refine hK _ ?_ ?_ ?_; rotate_left; (focus (simp only [go_sem]; exact rfl)); clear hK K) | ((with_reducible refine cA (CloneInts_c s hn) ?_); simp only [go_sem]) | fail))
 refine awp_loop _ (by simp only [go_sem]; rfl) (List Int × Bool) (fun u => u.1.Sublist s ∧ redL k n.trs s = if u.2 = true then redL k n.trs u.1 else u.1) (fun u => [(1, .one (.list (ints u.1))), (7, .one (.bool u.2))]) (fun _ _ => [.var 32 [.list (ints n.init), .list (trsD n.trs)], .row 3 1 []]) (fun u => 2 * u.1.length + if u.2 = true then 1 else 0) (s, true) ⟨List.Sublist.refl _, by simp⟩ ?_ ?_
 ·(simp only [SubF, go_sem]; (try simp only [go_sem]); repeat' (first | exact True.intro | with_reducible refine And.intro ?_ ?_ | rfl | omega))
 ·rintro ⟨u, b⟩ ⟨hsub, hres⟩ L hL
  simp only at hsub hres
  cases b with
  | false =>
   (simp only [go_sem] at hL ⊢)
   (repeat' (first | (with_reducible (refine aS 13 [18, 17, 19] ?_; intro K hK)) | ((with_reducible refine aGo ?_); simp only [go_sem]) | ((with_reducible refine aCd ?_ ?_ (fun hb => ?_) (fun hb => ?_)); (iterate 2 simp only [go_sem]); all_goals (simp only [go_sem] at hb; try simp only [bls] at hb)) | ((iterate 6 try ((fail_if_success with_reducible refine hK _ ?_ ?_ ?_); clear hK K)); with_reducible refine hK _ ?_ ?_ ?_; rotate_left; (focus (simp only [go_sem]; exact rfl)); clear hK K) | fail))
   rw [hres]; rfl
  | true =>
   rw [if_pos rfl] at hres
   (simp only [go_sem] at hL ⊢)
   (repeat' (first | (with_reducible first | refine aBl ?_ | (refine aS 13 [18, 17, 19] ?_; intro K hK)) | ((with_reducible refine aGo ?_); simp only [go_sem]) | ((with_reducible refine aCd ?_ ?_ (fun hb => ?_) (fun hb => ?_)); (iterate 2 simp only [go_sem]); all_goals (simp only [go_sem] at hb; try simp only [bls] at hb)) | ((iterate 6 try ((fail_if_success with_reducible refine hK _ ?_ ?_ ?_); clear hK K)); with_reducible refine hK _ ?_ ?_ ?_; rotate_left; (focus (simp only [go_sem]; exact rfl)); clear hK K) | fail))
   have hO := hL
   clear hL
   refine awp_loop _ (by simp only [go_sem]; rfl) Nat (fun j => j ≤ n.trs.length) (fun j => [(1, .one (.list (ints (redR k (n.trs.take j) u)))), (7, .one (.bool (decide ((redR k (n.trs.take j) u).length < u.length)))), (19, .one (.int .i64 j))]) (fun _ _ => [.var 32 [.list (ints n.init), .list (trsD n.trs)], .row 3 1 []]) (fun j => n.trs.length - j) 0 (by omega) ?_ ?_
   ·have e : decide ((redR k (n.trs.take 0) u).length < u.length) = false := by simp [redR]
    rw [e]
    (simp only [SubF, go_sem]; (try simp only [go_sem]); repeat' (first | exact True.intro | with_reducible refine And.intro ?_ ?_ | rfl | omega))
   ·rintro j hj L hL
    have hq : ((j : Nat) : Int).toNat = j := by omega
    have hsj := redR_sub k (n.trs.take j) u
    have hpw := hs.sublist (hsj.trans hsub)
    have hlj := (hsj.trans hsub).length_le
    have hlj2 := hsj.length_le
    by_cases hlt : j < n.trs.length
    ·have hg := trs_get hlt [.int .i64 0, .nil, .nil]
     have hi1 := hf.inn _ (getD_mem n.trs j Tr.no hlt)
     have hi2 := hf.out _ (getD_mem n.trs j Tr.no hlt)
     have hstep := redR_take k n.trs u j hlt
     generalize n.trs.getD j Tr.no = t at hg hi1 hi2 hstep
     generalize redR k (n.trs.take j) u = X at *
     have ha1 : (askedL k t).length ≤ 1000000 := by unfold askedL; split <;> assumption
     have ha2 : (answL k t).length ≤ 1000000 := by unfold answL; split <;> assumption
     have hsd := sides_c t k
     have hto := siTouches_c (answL k t) X ha2 (by omega) hpw
     have hdel := DeleteFunc_c X 96 [.ref [.list (arcsD (askedL k t))]] (fun p => touchL (askedL k t) [p]) (by omega) (capsOk_ref1 _) (fun p => reduce1_c p _ ha1)
     (simp only [go_sem] at hL ⊢)
     (repeat' (first | (with_reducible first | refine And.intro ?_ ?_ | refine aBl ?_ | (refine aS 13 [18, 17, 19] ?_; intro K hK)) | ((with_reducible refine aGo ?_); simp only [hg, hq, go_sem]) | ((with_reducible refine aCd ?_ ?_ (fun hb => ?_) (fun hb => ?_)); (iterate 2 simp only [hg, hq, go_sem]); all_goals (simp only [hg, hq, go_sem] at hb; try simp only [bls] at hb)) | ((iterate 6 try ((fail_if_success with_reducible refine hK _ ?_ ?_ ?_); clear hK K)); with_reducible refine hK _ ?_ ?_ ?_; rotate_left; (focus (simp only [hg, hq, go_sem]; exact rfl)); clear hK K) | ((first | (with_reducible first | refine xA ?_ | refine cA (CloneInts_c X (by omega)) ?_) | ((with_reducible refine gA ?_); refine xA ?_)); simp only [hg, hq, go_sem]) | exact aZ | fail))
     all_goals first | omega | skip
     ·refine hL _ (j + 1) (by omega) ?_ (by omega)
      rw [hstep, redT_same k t X hb]
      (simp only [SubF, go_sem]; (try simp only [go_sem]); repeat' (first | exact True.intro | with_reducible refine And.intro ?_ ?_ | rfl | omega))
     ·have hr := redT_eq k t X hb
      have hrl := (redT_sub k t X).length_le
      have hd : (decide (X.length < u.length) || decide (((redT k t X).length : Int) < (X.length : Int))) = decide ((redT k t X).length < u.length) := by
       rw [Bool.eq_iff_iff]
       simp only [Bool.or_eq_true, decide_eq_true_eq]
       omega
      (refine MCallAt_i [3] [4] (hdel) ?_ ?_; (focus (simp only [mside, handOk, go_sem]; (first | done | exact (by decide) | exact ⟨by decide, fun t ht => ht.elim⟩ | (refine ⟨by decide, ?_⟩; simp; done)))); simp only [go_sem])
      (repeat' (first | (with_reducible first | refine And.intro ?_ ?_ | (refine aS 13 [18, 17, 19] ?_; intro K hK)) | ((with_reducible refine aGo ?_); simp only [go_sem]) | ((iterate 6 try ((fail_if_success with_reducible refine hK _ ?_ ?_ ?_); clear hK K)); with_reducible refine hK _ ?_ ?_ ?_; rotate_left; (focus (simp only [go_sem]; exact rfl)); clear hK K) | exact aZ | fail))
      rw [hr, hd]
      refine hL _ (j + 1) (by omega) ?_ (by omega)
      rw [hstep]
      (simp only [SubF, go_sem]; (try simp only [go_sem]); repeat' (first | exact True.intro | with_reducible refine And.intro ?_ ?_ | rfl | omega))
    ·(simp only [go_sem] at hL ⊢)
     (repeat' (first | (with_reducible first | refine And.intro ?_ ?_ | refine aBl ?_ | (refine aS 13 [18, 17, 19] ?_; intro K hK)) | ((with_reducible refine aGo ?_); simp only [go_sem]) | ((with_reducible refine aCd ?_ ?_ (fun hb => ?_) (fun hb => ?_)); (iterate 2 simp only [go_sem]); all_goals (simp only [go_sem] at hb; try simp only [bls] at hb)) | ((iterate 6 try ((fail_if_success with_reducible refine hK _ ?_ ?_ ?_); clear hK K)); with_reducible refine hK _ ?_ ?_ ?_; rotate_left; (focus (simp only [go_sem]; exact rfl)); clear hK K) | exact aZ | fail))
     all_goals first | omega | skip
     have hall : n.trs.take j = n.trs := List.take_of_length_le (by omega)
     rw [hall] at hlj2 ⊢
     have hst := redL_step k n.trs u
     refine hO _ (redR k n.trs u, decide ((redR k n.trs u).length < u.length)) ⟨hall ▸ hsj.trans hsub, ?_⟩ (by (simp only [SubF, go_sem]; (try simp only [go_sem]); repeat' (first | exact True.intro | with_reducible refine And.intro ?_ ?_ | rfl | omega))) ?_
     ·simp only [decide_eq_true_eq]
      rw [hres, hst]
      split
      ·rfl
      ·rw [(redR_sub k n.trs u).eq_of_length (by omega)]
     ·simp only [decide_eq_true_eq, if_true]
      split <;> omega
theorem csFrom_pw (m : Int) : ∀ (xs : List Int) (p : Option Int), csFrom m xs p = 0 → xs.Pairwise (· < ·) ∧ ∀ q, p = some q → ∀ x ∈ xs, q < x
 | [], _, _ => ⟨List.Pairwise.nil, fun _ _ x hx => by simp at hx⟩
 | y :: xs, p, h => by
  simp only [csFrom] at h
  split at h
  ·cases h
  ·split at h
   ·cases h
   ·rename_i h1
    obtain ⟨a, b⟩ := csFrom_pw m xs _ h
    refine ⟨List.pairwise_cons.2 ⟨fun x hx => b y rfl x hx, a⟩, ?_⟩
    rintro q rfl x hx
    simp at h1
    rcases List.mem_cons.1 hx with rfl | hx
    ·exact h1
    ·have := b y rfl x hx
     omega
theorem checkSet_pw {m : Int} {xs : List Int} (h : checkSet xs m = 0) : xs.Pairwise (· < ·) := (csFrom_pw m xs _ h).1
theorem checkSet_in {m : Int} {xs : List Int} (h : checkSet xs m = 0) : ∀ x ∈ xs, 0 ≤ x ∧ x < m := csFrom_in m xs _ h
theorem checkSet_ok {m : Int} : ∀ {xs : List Int}, xs.Pairwise (· < ·) → (∀ x ∈ xs, 0 ≤ x ∧ x < m) → checkSet xs m = 0 := by
 have key : ∀ (xs : List Int) (p : Option Int), xs.Pairwise (· < ·) → (∀ x ∈ xs, 0 ≤ x ∧ x < m) → (∀ q, p = some q → ∀ x ∈ xs, q < x) → csFrom m xs p = 0 := by
  intro xs
  induction xs with
  | nil => intro p _ _ _; rfl
  | cons y xs ih =>
   intro p h1 h2 h3
   have hy := h2 y (by simp)
   rw [csFrom, if_neg (by omega), if_neg]
   ·exact ih _ (List.pairwise_cons.1 h1).2 (fun x hx => h2 x (by simp [hx])) (fun q hq x hx => by cases hq; exact (List.pairwise_cons.1 h1).1 x hx)
   ·cases p with
    | none => simp
    | some q => have := h3 q rfl y (by simp); simp; omega
 intro xs h1 h2
 exact key xs none h1 h2 (fun q hq => by cases hq)
/-! checks -/
def siE (n : Net) (s : List Int) (k : Int) : Int := if netE n ≠ 0 then netE n else if checkSet s n.init.length ≠ 0 then checkSet s n.init.length else if k ≠ 1 ∧ k ≠ 2 then 11 else 0
theorem siE_ok {n : Net} {s : List Int} {k : Int} (h : siE n s k = 0) : netE n = 0 ∧ checkSet s n.init.length = 0 ∧ (k = 1 ∨ k = 2) := by
 unfold siE at h
 split at h
 ·omega
 ·split at h
  ·omega
  ·split at h
   ·cases h
   ·omega
theorem siCheck_c (n : Net) (s : List Int) (k : Int) (hf : n.Fits) (hn : s.length ≤ 1000000) : ACalls Tryz.prog 52 [.agg n.d, .one (.list (ints s)), .one (.int .i64 k)] (.one (.int .i64 (siE n s k))) [] := by
 have h1 := netCheck_c n hf
 have h2 := CheckSet_c s n.init.length (by omega)
 have hi := hf.init
 (refine ACalls.of_body Ty_ok mixed Tryz.func52 rfl (by kernel_rfl) Tryz.ntmps52 (by simp) (congrArg Array.toList Tryz.results52) ?_)
 simp only [slotsOf, Net.d]
 simp only [Net.d] at h1
 (repeat' (first | (with_reducible (refine aS 9 [] ?_; intro K hK)) | ((with_reducible refine aGo ?_); simp only [go_sem]) | ((with_reducible refine aCd ?_ ?_ (fun hb => ?_) (fun hb => ?_)); (iterate 2 simp only [go_sem]); all_goals (simp only [go_sem] at hb; try simp only [bls] at hb)) | ((iterate 6 try ((fail_if_success with_reducible refine hK _ ?_ ?_ ?_); clear hK K)); with_reducible refine hK _ ?_ ?_ ?_; rotate_left; (focus (simp only [go_sem]; exact rfl)); clear hK K) | ((with_reducible refine xA ?_); simp only [go_sem]) | fail))
 ·rw [siE, if_pos hb]
 ·rename_i hb1
  rw [siE, if_neg (by omega), if_pos hb]
 ·rename_i hb1 hb2
  rw [siE, if_neg (by omega), if_neg (by omega), if_pos (by omega)]
 ·rename_i hb1 hb2
  rw [siE, if_neg (by omega), if_neg (by omega), if_neg (by omega)]
theorem Is_c (n : Net) (s : List Int) (k : Int) (hf : n.Fits) (hn : s.length ≤ 1000000) : ACalls Tryz.prog 20 [.agg n.d, .one (.list (ints s)), .one (.int .i64 k)] (.tup [.one (.bool (decide (siE n s k = 0) && isL k n.trs s)), .one (.int .i64 (siE n s k))]) [] := by
 have h1 := siCheck_c n s k hf hn
 by_cases he : siE n s k = 0
 ·have h2 := reduce_c n s k hf hn ((checkSet_pw (siE_ok he).2.1).imp fun h => Int.le_of_lt h)
  have h3 := redL_id_iff k n.trs s
  have h4 := (redL_sub k n.trs s).length_le
  (refine ACalls.of_body Ty_ok mixed Tryz.func20 rfl (by kernel_rfl) Tryz.ntmps20 (by simp) (congrArg Array.toList Tryz.results20) ?_)
  simp only [slotsOf, Net.d]
  simp only [Net.d] at h1 h2
  (repeat' (first | (with_reducible (refine aS 9 [] ?_; intro K hK)) | ((with_reducible refine aGo ?_); simp only [he, go_sem]) | ((with_reducible refine aCd ?_ ?_ (fun hb => ?_) (fun hb => ?_)); (iterate 2 simp only [he, go_sem]); all_goals (simp only [he, go_sem] at hb; try simp only [bls] at hb)) | ((iterate 6 try ((fail_if_success with_reducible refine hK _ ?_ ?_ ?_); clear hK K)); with_reducible refine hK _ ?_ ?_ ?_; rotate_left; (focus (simp only [he, go_sem]; exact rfl)); clear hK K) | ((with_reducible refine xA ?_); simp only [he, go_sem]) | fail))
  all_goals first | omega | (rw [Bool.eq_iff_iff, ← h3]; simp; omega) | skip
 ·(refine ACalls.of_body Ty_ok mixed Tryz.func20 rfl (by kernel_rfl) Tryz.ntmps20 (by simp) (congrArg Array.toList Tryz.results20) ?_)
  simp only [slotsOf, Net.d]
  simp only [Net.d] at h1
  (repeat' (first | (with_reducible (refine aS 9 [] ?_; intro K hK)) | ((with_reducible refine aGo ?_); simp only [go_sem]) | ((with_reducible refine aCd ?_ ?_ (fun hb => ?_) (fun hb => ?_)); (iterate 2 simp only [go_sem]); all_goals (simp only [go_sem] at hb; try simp only [bls] at hb)) | ((iterate 6 try ((fail_if_success with_reducible refine hK _ ?_ ?_ ?_); clear hK K)); with_reducible refine hK _ ?_ ?_ ?_; rotate_left; (focus (simp only [go_sem]; exact rfl)); clear hK K) | ((with_reducible refine xA ?_); simp only [go_sem]) | exact aZ | fail))
  rw [decide_eq_false hb]; rfl
/-! tokens -/
def sumAt (m s : List Int) : Int := s.foldl (fun a p => a + m.getD p.toNat 0) 0
theorem sumAt_take (m s : List Int) (k : Nat) (hk : k < s.length) : sumAt m (s.take (k + 1)) = sumAt m (s.take k) + m.getD (s.getD k 0).toNat 0 := by
 rw [take_succ_getD s k 0 hk, sumAt, List.foldl_append]
 rfl
theorem sumAt_bound (m : List Int) (hm : ∀ x ∈ m, 0 ≤ x ∧ x ≤ 65536) : ∀ (s : List Int) (k : Nat), k ≤ s.length → 0 ≤ sumAt m (s.take k) ∧ sumAt m (s.take k) ≤ 65536 * k
 | s, 0, _ => by simp [sumAt]
 | s, k + 1, h => by
  have := sumAt_bound m hm s k (by omega)
  rw [sumAt_take m s k (by omega)]
  have h2 : 0 ≤ m.getD (s.getD k 0).toNat 0 ∧ m.getD (s.getD k 0).toNat 0 ≤ 65536 := by
   generalize (s.getD k 0).toNat = j
   by_cases hk : j < m.length
   ·exact hm _ (getD_mem m _ 0 hk)
   ·simp [List.getD, List.getElem?_eq_none (Nat.le_of_not_lt hk)]
  omega
theorem siTokens_c (m s : List Int) (hm : ∀ x ∈ m, 0 ≤ x ∧ x ≤ 65536) (hs : ∀ x ∈ s, 0 ≤ x ∧ x < m.length) (hn : s.length ≤ 1000000) (hml : m.length ≤ 1000000) : ACalls Tryz.prog 182 [.one (.list (ints m)), .one (.list (ints s))] (.one (.int .i64 (sumAt m s))) [] := by
 (refine ACalls.of_body Ty_ok mixed Tryz.func182 rfl (by kernel_rfl) Tryz.ntmps182 (by simp) (congrArg Array.toList Tryz.results182) ?_)
 simp only [slotsOf]
 (repeat' (first | (with_reducible first | refine aBl ?_ | (refine aS 11 [] ?_; intro K hK)) | ((with_reducible refine aGo ?_); simp only [go_sem]) | ((iterate 6 try ((fail_if_success with_reducible refine hK _ ?_ ?_ ?_); clear hK K)); with_reducible refine hK _ ?_ ?_ ?_; rotate_left; (focus (simp only [go_sem]; exact rfl)); clear hK K) | fail))
 refine awp_loop _ (by simp only [go_sem]; rfl) Nat (fun k => k ≤ s.length) (fun k => [(5, .one (.int .i64 (sumAt m (s.take k)))), (10, .one (.int .i64 k))]) (fun _ H => H) (fun k => s.length - k) 0 (by omega) ?_ ?_
 ·(simp only [SubF, go_sem]; (try simp only [go_sem]); repeat' (first | exact True.intro | with_reducible refine And.intro ?_ ?_ | rfl | omega))
 ·rintro k hk L hL
  have hb0 := sumAt_bound m hm s k hk
  by_cases hlt : k < s.length
  ·have hx := hs _ (getD_mem s k 0 hlt)
   have hx2 := hm _ (getD_mem m (s.getD k 0).toNat 0 (by omega))
   have hst := sumAt_take m s k hlt
   (simp only [go_sem] at hL ⊢)
   (repeat' (first | (with_reducible first | refine And.intro ?_ ?_ | refine aBl ?_ | (refine aS 11 [] ?_; intro K hK)) | ((with_reducible refine aGo ?_); simp only [go_sem]) | ((with_reducible refine aCd ?_ ?_ (fun hb => ?_) (fun hb => ?_)); (iterate 2 simp only [go_sem]); all_goals (simp only [go_sem] at hb; try simp only [bls] at hb)) | ((iterate 6 try ((fail_if_success with_reducible refine hK _ ?_ ?_ ?_); clear hK K)); with_reducible refine hK _ ?_ ?_ ?_; rotate_left; (focus (simp only [go_sem]; exact rfl)); clear hK K) | exact aZ | fail))
   all_goals first | omega | skip
   refine hL _ (k + 1) (by omega) ?_ (by omega)
   rw [hst]
   (simp only [SubF, go_sem]; (try simp only [go_sem]); repeat' (first | exact True.intro | with_reducible refine And.intro ?_ ?_ | rfl | omega))
  ·(simp only [go_sem] at hL ⊢)
   (repeat' (first | (with_reducible first | refine And.intro ?_ ?_ | refine aBl ?_ | (refine aS 11 [] ?_; intro K hK)) | ((with_reducible refine aGo ?_); simp only [go_sem]) | ((with_reducible refine aCd ?_ ?_ (fun hb => ?_) (fun hb => ?_)); (iterate 2 simp only [go_sem]); all_goals (simp only [go_sem] at hb; try simp only [bls] at hb)) | ((iterate 6 try ((fail_if_success with_reducible refine hK _ ?_ ?_ ?_); clear hK K)); with_reducible refine hK _ ?_ ?_ ?_; rotate_left; (focus (simp only [go_sem]; exact rfl)); clear hK K) | exact aZ | fail))
   all_goals first | omega | skip
   rw [List.take_of_length_le (by omega)]
end Go.Proofs.YtljpfdehnjemlaaGreatDoor
