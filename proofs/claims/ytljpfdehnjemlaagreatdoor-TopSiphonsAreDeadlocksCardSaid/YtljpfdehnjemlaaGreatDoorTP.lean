/-
 TopSiphonsAreDeadlocks in plain Lean: numbered transitions, dead markings, the automata of a net and of the net after prevention.
-/
import Derived.Test.YtljpfdehnjemlaaGreatDoorLB
import Derived.Test.YtljpfdehnjemlaaGreatDoorTS
import Derived.Test.YtljpfdehnjemlaaGreatDoorMP
set_option linter.unusedSimpArgs false
set_option linter.unusedVariables false
namespace Go.Proofs.YtljpfdehnjemlaaGreatDoor
open Go.Eng Go.RowKit
set_option maxHeartbeats 8000000 in
theorem lcheck_c (a b : Aut) (hfa : a.Fits) (hfb : b.Fits) (ha : a.Ok) (hb : b.Ok) : ACalls Tryz.prog 81 [.one (.int .i64 1), .one (.list [a.d, b.d])] (.one (.int .i64 0)) [] := by
 have c1 := auCheck_c a hfa
 have c2 := auCheck_c b hfb
 rw [ha.chk] at c1
 rw [hb.chk] at c2
 (refine ACalls.of_body Ty_ok mixed Tryz.func81 rfl (by kernel_rfl) Tryz.ntmps81 (by simp) (congrArg Array.toList Tryz.results81) ?_)
 simp only [slotsOf, Aut.d] at c1 c2 ⊢
 (repeat' (first | (with_reducible first | refine aBl ?_ | (refine aS 11 [] ?_; intro K hK)) | ((with_reducible refine aGo ?_); simp only [go_sem]) | ((iterate 6 try ((fail_if_success with_reducible refine hK _ ?_ ?_ ?_); clear hK K)); with_reducible refine hK _ ?_ ?_ ?_; rotate_left; (focus (simp only [go_sem]; exact rfl)); clear hK K) | fail))
 refine awp_loop _ (by simp only [go_sem]; rfl) Nat (fun k => k ≤ 2) (fun k => [(10, .one (.int .i64 k))]) (fun _ H => H) (fun k => 2 - k) 0 (by omega) ?_ ?_
 ·(simp only [SubF, go_sem]; (try simp only [go_sem]); repeat' (first | exact True.intro | with_reducible refine And.intro ?_ ?_ | rfl | omega))
 rintro k hk L hL
 have h3 : k = 0 ∨ k = 1 ∨ k = 2 := by omega
 rcases h3 with rfl | rfl | rfl
 ·(simp only [go_sem] at hL ⊢)
  (repeat' (first | (with_reducible first | refine aBl ?_ | (refine aS 11 [] ?_; intro K hK)) | ((with_reducible refine aGo ?_); simp only [go_sem]) | ((with_reducible refine aCd ?_ ?_ (fun hb => ?_) (fun hb => ?_)); (iterate 2 simp only [go_sem]); all_goals (simp only [go_sem] at hb; try simp only [bls] at hb)) | ((iterate 6 try ((fail_if_success with_reducible refine hK _ ?_ ?_ ?_); clear hK K)); with_reducible refine hK _ ?_ ?_ ?_; rotate_left; (focus (simp only [go_sem]; exact rfl)); clear hK K) | ((with_reducible refine xA ?_); simp only [go_sem]) | fail))
  exact hL _ 1 (by omega) (by (simp only [SubF, go_sem]; (try simp only [go_sem]); repeat' (first | exact True.intro | with_reducible refine And.intro ?_ ?_ | rfl | omega))) (by omega)
 ·(simp only [go_sem] at hL ⊢)
  (repeat' (first | (with_reducible first | refine aBl ?_ | (refine aS 11 [] ?_; intro K hK)) | ((with_reducible refine aGo ?_); simp only [go_sem]) | ((with_reducible refine aCd ?_ ?_ (fun hb => ?_) (fun hb => ?_)); (iterate 2 simp only [go_sem]); all_goals (simp only [go_sem] at hb; try simp only [bls] at hb)) | ((iterate 6 try ((fail_if_success with_reducible refine hK _ ?_ ?_ ?_); clear hK K)); with_reducible refine hK _ ?_ ?_ ?_; rotate_left; (focus (simp only [go_sem]; exact rfl)); clear hK K) | ((with_reducible refine xA ?_); simp only [go_sem]) | fail))
  exact hL _ 2 (by omega) (by (simp only [SubF, go_sem]; (try simp only [go_sem]); repeat' (first | exact True.intro | with_reducible refine And.intro ?_ ?_ | rfl | omega))) (by omega)
 ·(simp only [go_sem] at hL ⊢)
  (repeat' (first | (with_reducible (refine aS 11 [] ?_; intro K hK)) | ((with_reducible refine aGo ?_); simp only [go_sem]) | ((with_reducible refine aCd ?_ ?_ (fun hb => ?_) (fun hb => ?_)); (iterate 2 simp only [go_sem]); all_goals (simp only [go_sem] at hb; try simp only [bls] at hb)) | ((iterate 6 try ((fail_if_success with_reducible refine hK _ ?_ ?_ ?_); clear hK K)); with_reducible refine hK _ ?_ ?_ ?_; rotate_left; (focus (simp only [go_sem]; exact rfl)); clear hK K) | fail))
  all_goals exact hb.1
theorem inc1_c (a b : Aut) (p q kd : Int) : ACalls Tryz.prog 84 [.agg [.int .i64 p, .int .i64 q], .one (.ref [machD a]), .one (.ref [.int .i64 kd]), .one (.ref [machD b])] (.one (.bool (inF a kd p && !inF b kd q))) [] := by
 have c1 := lin_c a p kd
 have c2 := lin_c b q kd
 (refine ACalls.of_body Ty_ok mixed Tryz.func84 rfl (by kernel_rfl) Tryz.ntmps84 (by simp) (congrArg Array.toList Tryz.results84) ?_)
 simp only [slotsOf, machD] at c1 c2 ⊢
 (repeat' (first | (with_reducible (refine aS 6 [] ?_; intro K hK)) | ((with_reducible refine aGo ?_); simp only [go_sem]) | ((iterate 6 try ((fail_if_success with_reducible refine hK _ ?_ ?_ ?_); clear hK K)); with_reducible refine hK _ ?_ ?_ ?_; rotate_left; (focus (simp only [go_sem]; exact rfl)); clear hK K) | ((with_reducible first | refine xA ?_ | refine xG ?_); simp only [go_sem]) | fail))
structure LSim (a b : Aut) (R : Int → Int → Prop) : Prop where
 zero : a.states ≠ 0 → b.states ≠ 0 ∧ R 0 0
 ok : ∀ p q, R p q → (0 ≤ p ∧ p < a.states) ∧ 0 ≤ q ∧ q < b.states
 step : ∀ p q x p', R p q → lkS p x (edT a) = some p' → ∃ q', lkS q x (edT b) = some q' ∧ R p' q'
theorem lkS_mem {s e d : Int} : ∀ {l : List (Int × Int × Int)}, lkS s e l = some d → (s, e, d) ∈ l
 | [], h => by cases h
 | x :: l, h => by
  simp only [lkS] at h
  split at h
  ·rename_i he; cases h; rw [he.1, he.2]; simp
  ·exact List.mem_cons_of_mem _ (lkS_mem h)
theorem lnext_rg {a : Aut} (ha : a.Ok) (s e : Int) : lnext a s e = -1 ∨ 0 ≤ s ∧ 0 ≤ lnext a s e ∧ lnext a s e < a.states ∧ lkS s e (edT a) = some (lnext a s e) := by
 unfold lnext
 cases h : lkS s e (edT a) with
 | none => exact .inl rfl
 | some d =>
  have hm := lkS_mem h
  simp only [edT, List.mem_map] at hm
  obtain ⟨x, hx, he⟩ := hm
  have := (ha.edges.1 x hx).1
  simp only [Prod.mk.injEq] at he
  exact .inr ⟨by omega, by simp only [Option.getD_some]; omega, by simp only [Option.getD_some]; omega, rfl⟩
def LGood (a b : Aut) (R : Int → Int → Prop) (p q : Int) : Prop := ((-1 ≤ p ∧ p ≤ 4096) ∧ -1 ≤ q ∧ q ≤ 4096) ∧ (p = -1 ∨ R p q)
set_option maxHeartbeats 8000000 in
theorem Included_c (a b : Aut) (hfa : a.Fits) (hfb : b.Fits) (ha : a.Ok) (hb : b.Ok) (R : Int → Int → Prop) (h : LSim a b R) :
  ACalls Tryz.prog 46 [.agg a.d, .agg b.d, .one (.int .i64 1)] (.tup [.one (.list []), .one (.bool true), .one (.int .i64 0)]) [] := by
 have c1 := lcheck_c a b hfa hfb ha hb
 have c2 := lopen_c a hfa ha
 have c3 := lopen_c b hfb hb
 have hsa := ha.states
 have hsb := hb.states
 have c4 := search_c a.alph a b 84 1 (LGood a b R) hfa.alph (fun p q hg => hg.1) (by
   refine ⟨⟨by split <;> omega, by split <;> omega⟩, ?_⟩
   by_cases h0 : a.states = 0
   ·exact .inl (if_pos h0)
   ·obtain ⟨h1, h2⟩ := h.zero h0
    rw [if_neg h0, if_neg h1]; exact .inr h2) (fun p q x hg _ _ => by
   obtain ⟨hrg, hpq⟩ := hg
   have hb2 := lnext_rg hb q x
   rcases lnext_rg ha p x with h1 | ⟨h1, h2, h3, h4⟩
   ·exact ⟨⟨by omega, by omega⟩, .inl h1⟩
   ·rcases hpq with hpq | hpq
    ·omega
    ·obtain ⟨q', e1, e2⟩ := h.step p q x _ hpq h4
     have e3 : lnext b q x = q' := by unfold lnext; rw [e1]; rfl
     exact ⟨⟨by omega, by omega⟩, .inr (by rw [e3]; exact e2)⟩) (fun p q hg => by
   have c := inc1_c a b p q 1
   have e : (inF a 1 p && !inF b 1 q) = false := by
    rcases hg.2 with h1 | h1
    ·simp [inF, h1]
    ·have := h.ok p q h1
     have h2 : 0 ≤ q := by omega
     simp [inF, h2]
   rw [e] at c
   exact c)
 have hfl : ∀ row ∈ ([] : List (List D)), row.all D.flat = true := fun _ h => by cases h
 simp only [machD, Aut.d] at c1 c2 c3 c4
 (refine ACalls.of_body Ty_ok mixed Tryz.func46 rfl (by kernel_rfl) Tryz.ntmps46 (by simp) (congrArg Array.toList Tryz.results46) ?_)
 simp only [slotsOf, Aut.d]
 (repeat' (first | (with_reducible (refine aS 14 [] ?_; intro K hK)) | ((with_reducible first | refine aGo ?_ | refine rP Ty_ok mixed 4 [] [.mid [pe 0, ⟨1, 0, true, false, false, [], []⟩, ⟨2, 1, false, false, false, [0], []⟩, ⟨3, 1, true, false, false, [], []⟩, ⟨4, 2, true, false, false, [1, 0], []⟩, ⟨5, 3, true, false, false, [2, 1, 0], []⟩] 4, .one 6, .one 7] ?_); simp only [go_sem]) | ((with_reducible refine aCd ?_ ?_ (fun hb => ?_) (fun hb => ?_)); (iterate 2 simp only [go_sem]); all_goals (simp only [go_sem] at hb; try simp only [bls] at hb)) | ((iterate 6 try ((fail_if_success with_reducible refine hK _ ?_ ?_ ?_); clear hK K)); with_reducible refine hK _ ?_ ?_ ?_; rotate_left; (focus (simp only [go_sem]; exact rfl)); clear hK K) | ((with_reducible first | refine xA ?_ | refine xO ?_); simp only [go_sem]) | fail))
end Go.Proofs.YtljpfdehnjemlaaGreatDoor
set_option linter.unusedSimpArgs false
set_option linter.unusedVariables false
namespace Go.Proofs.YtljpfdehnjemlaaGreatDoor
open Go.Eng Go.RowKit
/-! the transitions get their numbers as events -/
def numK (i : Nat) (l : List Tr) : List Tr := (List.range l.length).map fun j => if j < i then ⟨j, (l.getD j Tr.no).inn, (l.getD j Tr.no).out⟩ else l.getD j Tr.no
def numN (n : Net) : Net := ⟨n.init, numK n.trs.length n.trs⟩
theorem numK_length (i : Nat) (l : List Tr) : (numK i l).length = l.length := by simp [numK]
theorem numK_get {i : Nat} {l : List Tr} {k : Nat} (h : k < l.length) : (numK i l).getD k Tr.no = if k < i then ⟨k, (l.getD k Tr.no).inn, (l.getD k Tr.no).out⟩ else l.getD k Tr.no := by
 simp only [numK, List.getD, List.getElem?_map, List.getElem?_range h, Option.map_some, Option.getD_some]
theorem numK_zero (l : List Tr) : numK 0 l = l := by
 apply List.ext_getElem
 ·simp [numK]
 ·intro k h1 h2; simp [numK, List.getD, List.getElem?_eq_getElem h2]
theorem numK_set {l : List Tr} {i : Nat} (h : i < l.length) : (trsD (numK i l)).set i [.int .i64 i, .list (arcsD (l.getD i Tr.no).inn), .list (arcsD (l.getD i Tr.no).out)] = trsD (numK (i + 1) l) := by
 apply List.ext_getElem
 ·simp [trsD, numK]
 ·intro k h1 h2
  have hk : k < l.length := by simpa [trsD, numK] using h2
  rw [List.getElem_set]
  simp only [trsD, numK, List.getElem_map, List.getElem_range]
  by_cases e : i = k
  ·subst e
   rw [if_pos rfl, if_pos (by omega)]; rfl
  ·rw [if_neg e]
   by_cases e2 : k < i
   ·rw [if_pos e2, if_pos (by omega)]
   ·rw [if_neg e2, if_neg (by omega)]
theorem num_len (n : Net) : (numN n).trs.length = n.trs.length := numK_length _ _
theorem num_get {n : Net} {k : Nat} (h : k < n.trs.length) : (numN n).trs.getD k Tr.no = ⟨k, (n.trs.getD k Tr.no).inn, (n.trs.getD k Tr.no).out⟩ := by
 rw [numN, numK_get h, if_pos h]
theorem num_mem {n : Net} {t : Tr} (h : t ∈ (numN n).trs) : ∃ k, k < n.trs.length ∧ t = ⟨k, (n.trs.getD k Tr.no).inn, (n.trs.getD k Tr.no).out⟩ := by
 obtain ⟨k, hk, rfl⟩ := List.getElem_of_mem h
 have hk2 : k < n.trs.length := by rw [num_len] at hk; exact hk
 refine ⟨k, hk2, ?_⟩
 rw [← num_get hk2, List.getD, List.getElem?_eq_getElem hk]; rfl
theorem num_ok {n : Net} (h : NetOk n) : NetOk (numN n) := by
 have ht := h.trs
 refine ⟨h.init, h.tok, by rw [num_len]; exact ht, fun t hm => ?_, fun t hm => ?_, fun t hm => ?_⟩ <;> obtain ⟨k, hk, rfl⟩ := num_mem hm
 ·simp only; omega
 ·have := h.inn _ (getD_mem n.trs k Tr.no hk)
  exact this
 ·have := h.out _ (getD_mem n.trs k Tr.no hk)
  exact this
def Numd (n : Net) : Prop := ∀ k, k < n.trs.length → (n.trs.getD k Tr.no).event = k
theorem num_numd (n : Net) : Numd (numN n) := fun k hk => by
 rw [num_len] at hk
 rw [num_get hk]
theorem Fit.numd {n : Net} {u : List Int} {st : List Stp} {m : Net} {a : List Int} (h : Fit n u st m a) (hn : Numd n) : Numd m := by
 induction h with
 | nil => exact hn
 | snoc st m a s _ _ _ ih =>
  intro k hk
  rw [mon_len] at hk
  rw [mon_tr k hk]
  exact ih k hk
theorem Fit.init {n : Net} {u : List Int} {st : List Stp} {m : Net} {a : List Int} (h : Fit n u st m a) : m.init.take n.init.length = n.init := by
 induction h with
 | nil => exact List.take_of_length_le (Nat.le_refl _)
 | snoc st m a s hf _ _ ih =>
  have h1 := hf.facts.ilen
  rw [show (monNet m (kepC m.init.length s)).init = m.init ++ [(kepC m.init.length s).bound - dot (kepC m.init.length s).fac m.init] from rfl, List.take_append_of_le_length (by omega)]
  exact ih
theorem numd_cons {n : Net} (h : Numd n) (nd : List SN) : Cons n (grE n nd) := by
 intro x hx y hy h1 h2
 obtain ⟨i, t, _, ht, rfl⟩ := mem_grE.1 hx
 obtain ⟨j, s, _, hs, rfl⟩ := mem_grE.1 hy
 simp only [edgT, evOf] at h1 h2
 obtain ⟨t0, t1, _⟩ := ht
 obtain ⟨s0, s1, _⟩ := hs
 have e1 := h t.toNat (by omega)
 have e2 := h s.toNat (by omega)
 have e3 : i = j := by omega
 have e4 : t = s := by omega
 subst e3 e4; rfl
theorem autF_num {n : Net} (h : Numd n) {nd : List SN} {ed : List Edg} (hb : bndF n = .inr (nd, ed)) : autF n [] = .inr (autA n nd [], autM n nd) ∧ AutOk n nd := by
 obtain ⟨hF, hE⟩ := bnd_found hb
 have hc := numd_cons h nd
 refine ⟨?_, hF, hc⟩
 have h0 := netE_of hF.ok
 have h1 : mksE n [] = 0 := rfl
 rw [autF, if_neg (by omega), hb, auG, if_neg (by omega)]
 cases hT : toF n ed [] with
 | none => exact absurd (hE ▸ hc) (toF_none hT)
 | some T => rfl
/-! dead markings -/
theorem dead_touch {n : Net} (hn : NetOk n) (h1 : singleN n = true) {m : List Int} (hl : m.length = n.init.length) (hm : ∀ x ∈ m, 0 ≤ x) (hd : ableL n m n.trs.length = []) : ∀ t ∈ n.trs, touchL t.inn (zeroL m) = true := by
 intro t ht
 obtain ⟨k, hk, rfl⟩ := List.getElem_of_mem ht
 have e : n.trs.getD k Tr.no = n.trs[k] := by rw [List.getD, List.getElem?_eq_getElem hk]; rfl
 have hne : enB m (n.trs.getD k Tr.no) ≠ true := fun he => by
  have : (k : Int) ∈ ableL n m n.trs.length := able_iff.2 ⟨by omega, by omega, by rw [Int.toNat_natCast]; exact he⟩
  rw [hd] at this; cases this
 rw [e, enB] at hne
 have hne2 : n.trs[k].inn.any (lacksB m) = true := by
  cases h : n.trs[k].inn.any (lacksB m) with
  | true => rfl
  | false => exact absurd (by rw [h]; rfl) hne
 rw [List.any_eq_true] at hne2
 obtain ⟨a, ha, hlk⟩ := hne2
 have hs := List.all_eq_true.1 (List.all_eq_true.1 h1 _ ht) a (List.mem_append.2 (.inl ha))
 have hp := (hn.inn _ ht).place a ha
 rw [beq_iff_eq] at hs
 rw [lacksB, decide_eq_true_eq] at hlk
 have h0 := hm _ (getD_mem m a.place.toNat 0 (by omega))
 exact (touchL_iff _ _).2 ⟨a, ha, mem_zeroL.2 ⟨a.place.toNat, by omega, by omega, by omega⟩⟩
structure DeadIn (n : Net) (m : List Int) : Prop where
 ne : 0 < (zeroL m).length
 is : isL 1 n.trs (zeroL m) = true
 emp : empL n m = zeroL m
 mark : markE n m = 0
 si : siE n (zeroL m) 1 = 0
theorem red_same {ts : List Tr} {s : List Int} (h : ∀ t ∈ ts, touchL t.inn s = true) : redL 1 ts s = s := by
 have h2 : redR 1 ts s = s := by
  induction ts with
  | nil => rfl
  | cons t ts ih =>
   rw [redR, List.foldl_cons, redT_same 1 t s (h t (by simp))]
   exact ih fun x hx => h x (by simp [hx])
 rw [redL]
 cases hl : s.length with
 | zero => rfl
 | succ k => rw [redF, h2, if_neg (by omega)]
theorem dead_in {n : Net} (hn : NetOk n) (h1 : singleN n = true) (hp : 0 < n.trs.length) {m : List Int} (hl : m.length = n.init.length) (hm : ∀ x ∈ m, 0 ≤ x ∧ x ≤ 65536) (hd : ableL n m n.trs.length = []) : DeadIn n m := by
 have ht := dead_touch hn h1 hl (fun x hx => (hm x hx).1) hd
 have hk := markE_of hn hl hm
 refine ⟨?_, (isL_iff _ _ _).2 fun t h _ => ht t h, by rw [empL, if_pos hk, red_same ht], hk, ?_⟩
 ·obtain ⟨a, _, ha⟩ := (touchL_iff _ _).1 (ht _ (getD_mem n.trs 0 Tr.no hp))
  exact List.length_pos_of_mem ha
 ·have hc : checkSet (zeroL m) n.init.length = 0 := checkSet_ok (zeroK_pw _ _) fun x hx => by
   obtain ⟨p, h1, rfl, _⟩ := mem_zeroL.1 hx
   omega
  have h0 := netE_of hn
  rw [siE, if_neg (by omega), if_neg (by omega), if_neg (by omega)]
theorem minus_self : ∀ l : List Int, minusB l l = []
 | [] => by rw [minusB, mergeB]
 | x :: l => by
  have ih := minus_self l
  rw [minusB] at ih ⊢
  rw [mergeB, if_neg (by omega), if_neg (by omega), ih]; rfl
/-! the automata -/
section
variable {n : Net} {nd : List SN}
theorem lkS_ex {s e d : Int} : ∀ {l : List (Int × Int × Int)}, (s, e, d) ∈ l → ∃ x, lkS s e l = some x
 | y :: l, h => by
  rw [lkS]
  split
  ·exact ⟨_, rfl⟩
  ·rename_i hne
   rcases List.mem_cons.1 h with rfl | h
   ·exact absurd ⟨rfl, rfl⟩ hne
   ·exact lkS_ex h
theorem autM_get {i : Nat} (h : i < (autO n nd).1.length) : (autM n nd).getD i [] = atM nd ((autO n nd).1.getD i 0) := by
 simp only [autM, List.getD, List.getElem?_map, List.getElem?_eq_getElem h]; rfl
theorem aut_get (h : Found n nd) {i : Nat} (hi : i < (autO n nd).1.length) : 0 ≤ (autO n nd).1.getD i 0 ∧ ((autO n nd).1.getD i 0).toNat < nd.length := by
 have := (autO_ok h).rng _ (getD_mem (autO n nd).1 i 0 hi)
 omega
theorem aut_fire (h : AutOk n nd) {p x q : Int} (hs : lkS p x (edT (autA n nd [])) = some q) : ∃ t, (0 ≤ p ∧ p.toNat < (autO n nd).1.length) ∧ (0 ≤ q ∧ q.toNat < (autO n nd).1.length) ∧
  Able n ((autM n nd).getD p.toNat []) t ∧ x = evOf n t ∧ (autM n nd).getD q.toNat [] = firedL (n.trs.getD t.toNat Tr.no) ((autM n nd).getD p.toNat []) := by
 have hb := autO_numb h.found
 have hm := lkS_mem hs
 obtain ⟨y, hy, he⟩ := List.mem_map.1 hm
 simp only [Prod.mk.injEq] at he
 obtain ⟨j, k, hj, hk, e1, e2, hp⟩ := numb_edge hb (x := y) hy
 obtain ⟨z, hz, z1, z2, z3⟩ := suc_edge hp
 obtain ⟨i, t, hi, ht, rfl⟩ := mem_grE.1 hz
 simp only [edgT] at z1 z2 z3
 obtain ⟨w1, w2⟩ := ixM_ok (h.found.closed i hi t ht)
 have hpj : p.toNat = j := by omega
 have hqk : q.toNat = k := by omega
 have a1 : atM nd ((autO n nd).1.getD j 0) = (nd.getD i SN.no).m := by rw [← z1, atM, Int.toNat_natCast]
 have a2 : atM nd ((autO n nd).1.getD k 0) = firedL (n.trs.getD t.toNat Tr.no) (nd.getD i SN.no).m := by rw [← z3, atM, Int.toNat_natCast]; exact w2
 refine ⟨t, ⟨by omega, by omega⟩, ⟨by omega, by omega⟩, ?_, by omega, ?_⟩
 ·rw [hpj, autM_get hj, a1]; exact ht
 ·rw [hpj, hqk, autM_get hj, autM_get hk, a1, a2]
theorem fire_aut (h : AutOk n nd) {p t : Int} (hp : 0 ≤ p ∧ p.toNat < (autO n nd).1.length) (ht : Able n ((autM n nd).getD p.toNat []) t) : ∃ q, lkS p (evOf n t) (edT (autA n nd [])) = some q ∧ (0 ≤ q ∧ q.toNat < (autO n nd).1.length) ∧
  (autM n nd).getD q.toNat [] = firedL (n.trs.getD t.toNat Tr.no) ((autM n nd).getD p.toNat []) := by
 have hb := autO_numb h.found
 have hpn : ((p.toNat : Nat) : Int) = p := by omega
 rw [autM_get hp.2] at ht ⊢
 obtain ⟨i0, i1⟩ := aut_get h.found hp.2
 have hg : edgT n nd ((autO n nd).1.getD p.toNat 0).toNat t ∈ grE n nd := mem_grE.2 ⟨_, t, i1, ht, rfl⟩
 have hsu := suc_of h hg
 obtain ⟨w1, w2⟩ := ixM_ok (h.found.closed _ i1 t ht)
 have es : (edgT n nd ((autO n nd).1.getD p.toNat 0).toNat t).src = (autO n nd).1.getD p.toNat 0 := by simp only [edgT]; omega
 rw [es] at hsu
 have hE : edgB (autO n nd).1 p.toNat (evOf n (edgT n nd ((autO n nd).1.getD p.toNat 0).toNat t).ev, (edgT n nd ((autO n nd).1.getD p.toNat 0).toNat t).dst) ∈ (autO n nd).2 := by
  rw [hb.edges]
  exact mem_bfsE.2 ⟨_, hp.2, _, hsu, rfl⟩
 obtain ⟨q, hq⟩ := lkS_ex (s := p) (e := evOf n t) (l := edT (autA n nd [])) (List.mem_map.2 ⟨_, hE, by simp only [edgB, edgT, hpn]; rfl⟩)
 refine ⟨q, hq, ?_⟩
 have hm := lkS_mem hq
 obtain ⟨y, hy, he⟩ := List.mem_map.1 hm
 simp only [Prod.mk.injEq] at he
 obtain ⟨j, k, hj, hk, e1, e2, hpr⟩ := numb_edge hb (x := y) hy
 have hj2 : j = p.toNat := by omega
 subst hj2
 have hqk : q.toNat = k := by omega
 have u1 := (mem_suc.1 hsu).2
 have u2 := (mem_suc.1 hpr).2
 rw [he.2.1] at u2
 simp only [edgT] at u1
 rw [u2] at u1
 have u3 := Option.some.inj u1
 refine ⟨⟨by omega, by omega⟩, ?_⟩
 rw [hqk, autM_get hk, u3, atM, Int.toNat_natCast, w2]; rfl
theorem aut_first (h : Found n nd) : 0 < (autO n nd).1.length ∧ (autM n nd).getD 0 [] = n.init := by
 have hf := (autO_numb h).first
 refine ⟨hf.1, ?_⟩
 rw [autM_get hf.1, hf.2, atM]
 rw [show (0 : Int).toNat = 0 from rfl, h.linked.first]
theorem bfsE_len {succ : Int → List (Int × Int)} {O : List Int} {B : Nat} (h : ∀ s, (succ s).length ≤ B) : ∀ (k i : Nat), (bfsE succ O i k).length ≤ B * k
 | 0, i => by simp [bfsE]
 | k + 1, i => by
  have ih := bfsE_len (O := O) h k (i + 1)
  have h1 := h (O.getD i 0)
  rw [bfsE] at ih ⊢
  rw [List.range'_succ, List.flatMap_cons, List.length_append, List.length_map, Nat.mul_succ]
  omega
theorem aut_fits (h : Found n nd) : (autA n nd []).Fits := by
 have hb := autO_numb h
 have hle := hb.ok.le
 have h4 := h.le
 have ht := h.ok.trs
 have hs : ∀ s, (sucN n nd s).length ≤ 10 := fun s => by
  have h1 := evsN_length n
  have h2 : (sucN n nd s).length ≤ (evsN n).length := List.length_filterMap_le _ _
  omega
 have hl := bfsE_len (O := (autO n nd).1) hs (autO n nd).1.length 0
 rw [← hb.edges] at hl
 have hm : 10 * (autO n nd).1.length ≤ 10 * 4096 := Nat.mul_le_mul_left _ (by omega)
 exact (autA_ok h []).fits (by show (autO n nd).2.length ≤ _; omega)
end
theorem prev_sim {n m : Net} {u : List Int} {st : List Stp} (hF : Fit n u st m m.init) {nd ndm : List SN} (hn : AutOk n nd) (hm : AutOk m ndm) (hnu : Numd n) :
  LSim (autA m ndm []) (autA n nd []) fun p q => ((0 ≤ p ∧ p.toNat < (autO m ndm).1.length) ∧ 0 ≤ q ∧ q.toNat < (autO n nd).1.length) ∧ Fit n u st m ((autM m ndm).getD p.toNat []) ∧ ((autM m ndm).getD p.toNat []).take n.init.length = (autM n nd).getD q.toNat [] := by
 have hmu := hF.numd hnu
 obtain ⟨f1, f2⟩ := aut_first hm.found
 obtain ⟨g1, g2⟩ := aut_first hn.found
 have htr := hF.facts.trs
 refine ⟨fun _ => ⟨by simp only [autA]; omega, ⟨⟨by decide, f1⟩, by decide, g1⟩, ?_, ?_⟩, fun p q h => ?_, fun p q x p' h hs => ?_⟩
 ·rw [show (0 : Int).toNat = 0 from rfl, f2]; exact hF
 ·rw [show (0 : Int).toNat = 0 from rfl, f2, g2]; exact hF.init
 ·simp only [autA]; omega
 ·obtain ⟨⟨_, hq⟩, hfit, hpre⟩ := h
  obtain ⟨t, h1, h2, h3, rfl, h5⟩ := aut_fire hm hs
  have ht := hfit.sub t (able_of h3)
  obtain ⟨s1, s2⟩ := hfit.step t (able_of h3)
  rw [hpre] at ht s2
  obtain ⟨q', k1, k2, k3⟩ := fire_aut hn hq (Able.mem ht)
  obtain ⟨t0, t1, _⟩ := h3
  have ev : evOf m t = evOf n t := by rw [evOf, evOf, hmu t.toNat (by omega), hnu t.toNat (by omega)]
  refine ⟨q', by rw [ev]; exact k1, ⟨h2, k2⟩, ?_, ?_⟩
  ·rw [h5]; exact s1
  ·rw [h5, s2, k3]
theorem prev_marks {n m : Net} {u : List Int} {st : List Stp} (hF : Fit n u st m m.init) {nd ndm : List SN} (hn : Found n nd) (hm : Found m ndm) : ∀ a ∈ autM m ndm, a.length = m.init.length ∧ ∃ b ∈ nd.map SN.m, a.take n.init.length = b := by
 have key : ∀ k : Nat, k < ndm.length → Fit n u st m (ndm.getD k SN.no).m ∧ ∃ b ∈ nd.map SN.m, ((ndm.getD k SN.no).m).take n.init.length = b := by
  intro k
  induction k using Nat.strongRecOn with
  | _ k ih =>
   intro hk
   rcases Nat.eq_zero_or_pos k with rfl | h0
   ·rw [hm.linked.first]
    refine ⟨hF, n.init, ?_, hF.init⟩
    have := hn.linked.first
    exact List.mem_map.2 ⟨nd.getD 0 SN.no, getD_mem nd 0 SN.no hn.linked.ne, by rw [this]⟩
   ·obtain ⟨b0, b1, hab, hmk⟩ := hm.linked.link k h0 hk
    obtain ⟨i1, b, i2, i3⟩ := ih (ndm.getD k SN.no).before.toNat (by omega) (by omega)
    have ht := i1.sub _ (able_of hab)
    obtain ⟨s1, s2⟩ := i1.step _ (able_of hab)
    rw [hmk]
    refine ⟨s1, _, ?_, s2⟩
    rw [i3] at ht ⊢
    obtain ⟨x, hx, rfl⟩ := List.mem_map.1 i2
    obtain ⟨j, hj, rfl⟩ := List.getElem_of_mem hx
    have ej : nd.getD j SN.no = nd[j] := by rw [List.getD, List.getElem?_eq_getElem hj]; rfl
    rw [← ej] at ht ⊢
    obtain ⟨k2, c1, c2⟩ := hn.closed j hj _ (Able.mem ht)
    rw [← c2]
    exact List.mem_map_of_mem (getD_mem nd k2 SN.no c1)
 intro a ha
 obtain ⟨x, hx, rfl⟩ := List.mem_map.1 ha
 have := (autO_ok hm).rng x hx
 have hk := getD_mem ndm x.toNat SN.no (by omega)
 exact ⟨hm.nodes.len _ hk, (key x.toNat (by omega)).2⟩
/-! the loops of the law -/
def preB (a b : List Int) : Bool := decide (a.take b.length = b)
end Go.Proofs.YtljpfdehnjemlaaGreatDoor
