/-
 The net with a control place: what is enabled, what firing does (as N19, for seats that have SB).
-/
import Derived.Test.YtljpfdehnjemlaaGreatDoorN6
import Derived.Test.YtljpfdehnjemlaaGreatDoorWA
import Derived.Test.YtljpfdehnjemlaaGreatDoorSB
set_option linter.unusedSimpArgs false
set_option linter.unusedVariables false
namespace Go.Proofs.YtljpfdehnjemlaaGreatDoor
open Go.Eng Go.RowKit
def risesB (l : List Int) (t : Int) : Bool := decide (0 < l.getD t.toNat 0)
def raisingL (n : Net) (c : Con) (u : List Int) : Int := if ixFrom (risesB (effL n c)) 0 u < 0 then -1 else u.getD (ixFrom (risesB (effL n c)) 0 u).toNat 0
theorem raising1_c (l : List Int) (t : Int) (h0 : 0 ≤ t) (h1 : t < l.length) : ACalls Tryz.prog 118 [.one (.int .i64 t), .one (.ref [.list (ints l)])] (.one (.bool (risesB l t))) [] := by
 (refine ACalls.of_body Ty_ok mixed Tryz.func118 rfl (by kernel_rfl) Tryz.ntmps118 (by simp) (congrArg Array.toList Tryz.results118) ?_)
 simp only [slotsOf]
 (repeat' (first | (with_reducible first | refine And.intro ?_ ?_ | (refine aS 4 [] ?_; intro K hK)) | ((with_reducible refine aGo ?_); simp only [go_sem]) | ((iterate 6 try ((fail_if_success with_reducible refine hK _ ?_ ?_ ?_); clear hK K)); with_reducible refine hK _ ?_ ?_ ?_; rotate_left; (focus (simp only [go_sem]; exact rfl)); clear hK K) | exact aZ | fail))
 rfl
theorem ixFrom_lt {α : Type} (p : α → Bool) : ∀ (l : List α) (k : Nat), 0 ≤ ixFrom p k l → k ≤ ixFrom p k l ∧ ixFrom p k l < k + l.length
 | [], k, h => by simp [ixFrom] at h
 | e :: l, k, h => by
  rw [ixFrom] at h ⊢
  split
  ·simp only [List.length_cons]; omega
  ·rename_i hp
   rw [if_neg hp] at h
   have := ixFrom_lt p l (k + 1) h
   simp only [List.length_cons]
   omega
set_option maxHeartbeats 4000000 in
theorem raising_c (n : Net) (c : Con) (u : List Int) (hn : NetOk n) (hl : c.fac.length = n.init.length) (hf : Sm 16 c.fac) (hu : ∀ x ∈ u, 0 ≤ x ∧ x < n.trs.length) (hul : u.length ≤ 1000000) :
  ACalls Tryz.prog 80 [.agg n.d, .agg c.d, .one (.list (ints u))] (.one (.int .i64 (raisingL n c u))) [] := by
 have h1 := effects_c n c hn hl hf
 have hEl := effL_length n c
 simp only [Net.d, Con.d] at h1
 have h2 := IndexFuncInts_c u 118 [.ref [.list (ints (effL n c))]] (risesB (effL n c)) hul (capsOk_ref1 _) (fun e he => raising1_c (effL n c) e (hu e he).1 (by rw [hEl]; exact (hu e he).2))
 have h3 := ixFrom_lt (risesB (effL n c)) u 0
 (refine ACalls.of_body Ty_ok mixed Tryz.func80 rfl (by kernel_rfl) Tryz.ntmps80 (by simp) (congrArg Array.toList Tryz.results80) ?_)
 simp only [slotsOf, Net.d, Con.d]
 (repeat' (first | (with_reducible first | refine And.intro ?_ ?_ | (refine aS 9 [] ?_; intro K hK)) | ((with_reducible refine aGo ?_); simp only [go_sem]) | ((with_reducible refine aCd ?_ ?_ (fun hb => ?_) (fun hb => ?_)); (iterate 2 simp only [go_sem]); all_goals (simp only [go_sem] at hb; try simp only [bls] at hb)) | ((iterate 6 try ((fail_if_success with_reducible refine hK _ ?_ ?_ ?_); clear hK K)); with_reducible refine hK _ ?_ ?_ ?_; rotate_left; (focus (simp only [go_sem]; exact rfl)); clear hK K) | ((with_reducible refine xA ?_); simp only [go_sem]) | exact aZ | fail))
 ·rw [raisingL, if_pos hb]
 ·rw [raisingL, if_neg (by omega)]
def chkE (n : Net) (c : Con) (u : List Int) : Int := if conE n c ≠ 0 then conE n c else checkSet u n.trs.length
theorem monCheck_c (n : Net) (c : Con) (u : List Int) (hn : n.Fits) (hc : c.fac.length ≤ 1000000) (hul : u.length ≤ 1000000) : ACalls Tryz.prog 77 [.agg n.d, .agg c.d, .one (.list (ints u))] (.one (.int .i64 (chkE n c u))) [] := by
 have h1 := conCheck_c n c hn hc
 have h2 := CheckSet_c u n.trs.length (by omega)
 simp only [Net.d, Con.d] at h1
 (refine ACalls.of_body Ty_ok mixed Tryz.func77 rfl (by kernel_rfl) Tryz.ntmps77 (by simp) (congrArg Array.toList Tryz.results77) ?_)
 simp only [slotsOf, Net.d, Con.d]
 (repeat' (first | (with_reducible (refine aS 8 [] ?_; intro K hK)) | ((with_reducible refine aGo ?_); simp only [go_sem]) | ((with_reducible refine aCd ?_ ?_ (fun hb => ?_) (fun hb => ?_)); (iterate 2 simp only [go_sem]); all_goals (simp only [go_sem] at hb; try simp only [bls] at hb)) | ((iterate 6 try ((fail_if_success with_reducible refine hK _ ?_ ?_ ?_); clear hK K)); with_reducible refine hK _ ?_ ?_ ?_; rotate_left; (focus (simp only [go_sem]; exact rfl)); clear hK K) | ((with_reducible refine xA ?_); simp only [go_sem]) | fail))
 ·rw [chkE, if_pos hb]
 ·rw [chkE, if_neg (by omega)]
theorem chk_ok {n : Net} {c : Con} {u : List Int} (h : chkE n c u = 0) : conE n c = 0 ∧ ∀ x ∈ u, 0 ≤ x ∧ x < n.trs.length := by
 unfold chkE at h
 split at h
 ·rename_i h1; exact absurd h h1
 ·exact ⟨by omega, csFrom_in _ u none h⟩
set_option maxHeartbeats 4000000 in
theorem Admissible_c (n : Net) (c : Con) (u : List Int) (hn : n.Fits) (hc : c.fac.length ≤ 1000000) (hul : u.length ≤ 1000000) :
  ACalls Tryz.prog 58 [.agg n.d, .agg c.d, .one (.list (ints u))] (.tup [.one (.int .i64 (if chkE n c u ≠ 0 then 0 else max (raisingL n c u) 0)), .one (.bool (decide (chkE n c u = 0 ∧ raisingL n c u < 0))), .one (.int .i64 (chkE n c u))]) [] := by
 have h1 := monCheck_c n c u hn hc hul
 simp only [Net.d, Con.d] at h1
 by_cases h0 : chkE n c u = 0
 ·obtain ⟨q1, q2⟩ := chk_ok h0
  obtain ⟨r1, r2, r3, _⟩ := conOk_of q1
  have h2 := raising_c n c u (netOk_of r1) r2 r3 q2 hul
  simp only [Net.d, Con.d] at h2
  rw [h0] at h1 ⊢
  (refine ACalls.of_body Ty_ok mixed Tryz.func58 rfl (by kernel_rfl) Tryz.ntmps58 (by simp) (congrArg Array.toList Tryz.results58) ?_)
  simp only [slotsOf, Net.d, Con.d]
  (repeat' (first | (with_reducible first | refine And.intro ?_ ?_ | (refine aS 11 [] ?_; intro K hK)) | ((with_reducible refine aGo ?_); simp only [go_sem]) | ((with_reducible refine aCd ?_ ?_ (fun hb => ?_) (fun hb => ?_)); (iterate 2 simp only [go_sem]); all_goals (simp only [go_sem] at hb; try simp only [bls] at hb)) | ((iterate 6 try ((fail_if_success with_reducible refine hK _ ?_ ?_ ?_); clear hK K)); with_reducible refine hK _ ?_ ?_ ?_; rotate_left; (focus (simp only [go_sem]; exact rfl)); clear hK K) | ((with_reducible refine xA ?_); simp only [go_sem]) | exact aZ | fail))
  all_goals first | omega | skip
  all_goals simp
  all_goals omega
 ·(refine ACalls.of_body Ty_ok mixed Tryz.func58 rfl (by kernel_rfl) Tryz.ntmps58 (by simp) (congrArg Array.toList Tryz.results58) ?_)
  simp only [slotsOf, Net.d, Con.d]
  (repeat' (first | (with_reducible first | refine And.intro ?_ ?_ | (refine aS 11 [] ?_; intro K hK)) | ((with_reducible refine aGo ?_); simp only [go_sem]) | ((with_reducible refine aCd ?_ ?_ (fun hb => ?_) (fun hb => ?_)); (iterate 2 simp only [go_sem]); all_goals (simp only [go_sem] at hb; try simp only [bls] at hb)) | ((iterate 6 try ((fail_if_success with_reducible refine hK _ ?_ ?_ ?_); clear hK K)); with_reducible refine hK _ ?_ ?_ ?_; rotate_left; (focus (simp only [go_sem]; exact rfl)); clear hK K) | ((with_reducible refine xA ?_); simp only [go_sem]) | exact aZ | fail))
  all_goals first | omega | skip
  all_goals simp [h0]
end Go.Proofs.YtljpfdehnjemlaaGreatDoor
set_option linter.unusedSimpArgs false
set_option linter.unusedVariables false
namespace Go.Proofs.YtljpfdehnjemlaaGreatDoor
open Go.Eng Go.RowKit
theorem arcsIn_snoc {p : Nat} {l : List Arc} {E : Int} (h : ArcsIn p l) (hE : 1 ≤ E ∧ E ≤ 8) : ArcsIn (p + 1) (l ++ [⟨p, E⟩]) := by
 refine ⟨fun a ha => ?_, fun a ha => ?_, List.pairwise_append.2 ⟨h.ord, List.pairwise_singleton _ _, fun a ha b hb => ?_⟩⟩
 ·rcases List.mem_append.1 ha with ha | ha
  ·have := h.place a ha; omega
  ·simp at ha; subst ha; simp only; omega
 ·rcases List.mem_append.1 ha with ha | ha
  ·exact h.weight a ha
  ·simp at ha; subst ha; exact hE
 ·simp at hb; subst hb
  have := h.place a ha
  simp only; omega
theorem arcsIn_up {p : Nat} {l : List Arc} (h : ArcsIn p l) : ArcsIn (p + 1) l := ⟨fun a ha => by have := h.place a ha; omega, h.weight, h.ord⟩
structure MonOk (n : Net) (c : Con) : Prop where
 ok : NetOk n
 len : c.fac.length = n.init.length
 sm : Sm 16 c.fac
 few : n.init.length < 10
 rest : 0 ≤ c.bound - dot c.fac n.init ∧ c.bound - dot c.fac n.init ≤ 65536
 eff : ∀ t ∈ n.trs, -8 ≤ effT c.fac t ∧ effT c.fac t ≤ 8
theorem monOk_of {n : Net} {c : Con} (h : monE n c = 0) : MonOk n c ∧ conE n c = 0 ∧ monL n c = monNet n c := by
 have h0 := h
 unfold monE at h
 split at h
 ·rename_i h1; exact absurd h h1
 rename_i h1
 split at h
 ·cases h
 rename_i h2
 split at h
 ·cases h
 rename_i h3
 have hc : conE n c = 0 := by omega
 obtain ⟨q1, q2, q3, q4, q5⟩ := conOk_of hc
 have hn := netOk_of q1
 have hi := hn.init
 refine ⟨⟨hn, q2, q3, by omega, ⟨by omega, by omega⟩, fun t ht => ?_⟩, hc, by rw [monL, if_pos h0]⟩
 have h4 : ¬ (effL n c).any (largeB 8) = true := fun e => h3 (.inr (.inr e))
 rw [Bool.not_eq_true, List.any_eq_false] at h4
 have := h4 (effT c.fac t) (List.mem_map.2 ⟨t, ht, rfl⟩)
 simp [largeB] at this
 omega
section
variable {n : Net} {c : Con}
theorem mon_len : (monNet n c).trs.length = n.trs.length := by simp [monNet, monTrs]
theorem mon_init : (monNet n c).init.length = n.init.length + 1 := by simp [monNet]
theorem mon_tr (k : Nat) (hk : k < n.trs.length) : (monNet n c).trs.getD k Tr.no = monT n.init.length (effT c.fac (n.trs.getD k Tr.no)) (n.trs.getD k Tr.no) := by
 simp [monNet, monTrs, List.getD, List.getElem?_map, List.getElem?_eq_getElem hk]
theorem monT_inn {p : Nat} {E : Int} {t : Tr} (h : ArcsIn p t.inn) (hE : -8 ≤ E ∧ E ≤ 8) : ArcsIn (p + 1) (monT p E t).inn := by
 by_cases h0 : 0 < E
 ·simp only [monT, if_pos h0]; exact arcsIn_snoc h ⟨by omega, hE.2⟩
 ·simp only [monT, if_neg h0, List.append_nil]; exact arcsIn_up h
theorem monT_out {p : Nat} {E : Int} {t : Tr} (h : ArcsIn p t.out) (hE : -8 ≤ E ∧ E ≤ 8) : ArcsIn (p + 1) (monT p E t).out := by
 by_cases h0 : E < 0
 ·simp only [monT, if_pos h0]; exact arcsIn_snoc h ⟨by omega, by omega⟩
 ·simp only [monT, if_neg h0, List.append_nil]; exact arcsIn_up h
theorem mon_ok (h : MonOk n c) : NetOk (monNet n c) := by
 have h1 := h.few
 have h2 := h.ok.trs
 have hT : ∀ t ∈ (monNet n c).trs, ∃ x ∈ n.trs, t = monT n.init.length (effT c.fac x) x := fun t ht => by
  simp only [monNet, monTrs, List.mem_map] at ht
  obtain ⟨x, hx, rfl⟩ := ht
  exact ⟨x, List.mem_of_mem_take hx, rfl⟩
 refine ⟨by rw [mon_init]; omega, fun x hx => ?_, by rw [mon_len]; exact h2, fun t ht => ?_, fun t ht => ?_, fun t ht => ?_⟩
 ·simp only [monNet, List.mem_append, List.mem_singleton] at hx
  rcases hx with hx | rfl
  ·exact h.ok.tok x hx
  ·exact h.rest
 ·obtain ⟨x, hx, rfl⟩ := hT t ht
  exact h.ok.ev x hx
 ·obtain ⟨x, hx, rfl⟩ := hT t ht
  rw [mon_init]
  exact monT_inn (h.ok.inn x hx) (h.eff x hx)
 ·obtain ⟨x, hx, rfl⟩ := hT t ht
  rw [mon_init]
  exact monT_out (h.ok.out x hx) (h.eff x hx)
theorem any_congr {α : Type} {p q : α → Bool} : ∀ {l : List α}, (∀ a ∈ l, p a = q a) → l.any p = l.any q
 | [], _ => rfl
 | a :: l, h => by rw [List.any_cons, List.any_cons, h a (by simp), any_congr fun b hb => h b (by simp [hb])]
theorem getD_snoc_lt (a : List Int) (x : Int) (p : Nat) (h : p < a.length) : (a ++ [x]).getD p 0 = a.getD p 0 := by
 simp [List.getD, List.getElem?_append_left h]
theorem getD_snoc_eq (a : List Int) (x : Int) : (a ++ [x]).getD a.length 0 = x := by simp [List.getD]
theorem lacks_snoc {a : List Int} {x : Int} {l : List Arc} (h : ArcsIn a.length l) : l.any (lacksB (a ++ [x])) = l.any (lacksB a) :=
 any_congr fun b hb => by
  have := h.place b hb
  rw [lacksB, lacksB, getD_snoc_lt a x _ (by omega)]
theorem enB_mon {a : List Int} {x E : Int} {t : Tr} (h : ArcsIn a.length t.inn) (hx : 0 ≤ x) : enB (a ++ [x]) (monT a.length E t) = (enB a t && decide (max E 0 ≤ x)) := by
 by_cases h0 : 0 < E
 ·have hd : lacksB (a ++ [x]) ⟨(a.length : Int), E⟩ = decide (x < E) := by
   rw [lacksB]
   simp only [Int.toNat_natCast, getD_snoc_eq]
  simp only [enB, monT, if_pos h0, List.any_append, lacks_snoc h, List.any_cons, List.any_nil, Bool.or_false, hd, Bool.not_or]
  congr 1
  rw [Bool.eq_iff_iff]
  simp only [Bool.not_eq_true', decide_eq_false_iff_not, decide_eq_true_eq]
  omega
 ·have hd : decide (max E 0 ≤ x) = true := decide_eq_true (by omega)
  simp only [enB, monT, if_neg h0, List.append_nil, lacks_snoc h, hd, Bool.and_true]
theorem set_snoc_lt (a : List Int) (x y : Int) (p : Nat) (h : p < a.length) : (a ++ [x]).set p y = a.set p y ++ [x] := List.set_append_left _ _ h
theorem set_snoc_eq (a : List Int) (x y : Int) : (a ++ [x]).set a.length y = a ++ [y] := by
 rw [List.set_append_right _ _ (Nat.le_refl _), Nat.sub_self]; rfl
theorem applyA_snoc (s x : Int) : ∀ (l : List Arc) (a : List Int), ArcsIn a.length l → applyA s (a ++ [x]) l = applyA s a l ++ [x]
 | [], a, _ => rfl
 | b :: l, a, h => by
  have hb := h.place b (by simp)
  rw [applyA, applyA, getD_snoc_lt a x _ (by omega), set_snoc_lt _ _ _ _ (by omega)]
  exact applyA_snoc s x l _ (by rw [List.length_set]; exact ⟨fun d hd => h.place d (by simp [hd]), fun d hd => h.weight d (by simp [hd]), (List.pairwise_cons.1 h.ord).2⟩)
theorem firedL_mon {a : List Int} {x E : Int} {t : Tr} (h1 : ArcsIn a.length t.inn) (h2 : ArcsIn a.length t.out) : firedL (monT a.length E t) (a ++ [x]) = firedL t a ++ [x - E] := by
 have hl1 := applyA_length (-1) t.inn a
 have hl2 := applyA_length 1 t.out (applyA (-1) a t.inn)
 have h2' : ArcsIn (applyA (-1) a t.inn).length t.out := by rw [hl1]; exact h2
 by_cases h0 : 0 < E
 ·simp only [firedL, monT, if_pos h0, if_neg (show ¬ E < 0 by omega), List.append_nil]
  rw [applyA_append, applyA_snoc _ _ _ _ h1]
  simp only [applyA, Int.toNat_natCast]
  rw [← hl1, getD_snoc_eq, set_snoc_eq, applyA_snoc _ _ _ _ h2']
  congr 2; omega
 ·by_cases h3 : E < 0
  ·simp only [firedL, monT, if_pos h3, if_neg h0, List.append_nil]
   rw [applyA_append, applyA_snoc _ _ _ _ h1, applyA_snoc _ _ _ _ h2']
   simp only [applyA, Int.toNat_natCast]
   rw [show a.length = (applyA 1 (applyA (-1) a t.inn) t.out).length by omega, getD_snoc_eq, set_snoc_eq]
   congr 2; omega
  ·simp only [firedL, monT, if_neg h3, if_neg h0, List.append_nil]
   rw [applyA_snoc _ _ _ _ h1, applyA_snoc _ _ _ _ h2']
   congr 2; omega
theorem filter_congr' {α : Type} {p q : α → Bool} : ∀ {l : List α}, (∀ a ∈ l, p a = q a) → l.filter p = l.filter q
 | [], _ => rfl
 | a :: l, h => by
  rw [List.filter_cons, List.filter_cons, h a (by simp), filter_congr' fun b hb => h b (by simp [hb])]
def roomB (n : Net) (c : Con) (v : Int) (t : Int) : Bool := decide (v + max ((effL n c).getD t.toNat 0) 0 ≤ c.bound)
theorem able_mon (h : MonOk n c) {a : List Int} (hl : a.length = n.init.length) (hx : 0 ≤ c.bound - dot c.fac a) :
  (ableL n a n.trs.length).filter (roomB n c (dot c.fac a)) = ableL (monNet n c) (a ++ [c.bound - dot c.fac a]) n.trs.length := by
 simp only [ableL, List.filter_map, List.filter_filter]
 congr 1
 refine filter_congr' fun i hi => ?_
 have hi' : i < n.trs.length := List.mem_range.1 hi
 have hin := h.ok.inn _ (getD_mem n.trs i Tr.no hi')
 rw [← hl] at hin
 rw [mon_tr i hi', ← hl, enB_mon hin hx, Bool.and_comm]
 congr 1
 simp only [Function.comp, roomB, Int.toNat_natCast, effL_get n c i hi']
 rw [Bool.eq_iff_iff, decide_eq_true_eq, decide_eq_true_eq]
 omega
theorem mon_step (h : MonOk n c) {a : List Int} {t B : Int} (hl : a.length = n.init.length) (hx : 0 ≤ c.bound - dot c.fac a) (ha : ∀ x ∈ a, 0 ≤ x ∧ x ≤ B) (ht : t ∈ ableL (monNet n c) (a ++ [c.bound - dot c.fac a]) n.trs.length) :
  firedL ((monNet n c).trs.getD t.toNat Tr.no) (a ++ [c.bound - dot c.fac a]) = firedL (n.trs.getD t.toNat Tr.no) a ++ [c.bound - dot c.fac (firedL (n.trs.getD t.toNat Tr.no) a)] ∧
  (firedL (n.trs.getD t.toNat Tr.no) a).length = n.init.length ∧ 0 ≤ c.bound - dot c.fac (firedL (n.trs.getD t.toNat Tr.no) a) ∧ (∀ x ∈ firedL (n.trs.getD t.toNat Tr.no) a, 0 ≤ x ∧ x ≤ B + 8) ∧ enB a (n.trs.getD t.toNat Tr.no) = true := by
 obtain ⟨h0, h1, h2⟩ := able_mem ht
 have hk : t.toNat < n.trs.length := by omega
 have hin := h.ok.inn _ (getD_mem n.trs t.toNat Tr.no hk)
 have hout := h.ok.out _ (getD_mem n.trs t.toNat Tr.no hk)
 rw [← hl] at hin hout
 rw [mon_tr _ hk, ← hl, enB_mon hin hx, Bool.and_eq_true, decide_eq_true_eq] at h2
 have hd := dot_fired (f := c.fac) hin hout (by rw [h.len, hl])
 refine ⟨?_, by rw [firedL_length, hl], ?_, firedL_bound hin hout h2.1 ha, h2.1⟩
 ·rw [mon_tr _ hk, ← hl, firedL_mon hin hout, hd]
  congr 2; omega
 ·rw [hd]; omega
end
end Go.Proofs.YtljpfdehnjemlaaGreatDoor
