/-
 The row and the card: PreventionPrevents.
-/
import Derived.Test.YtlpllbbjmbbfnaaGreatDoorQO
import Derived.Test.YtlpllbbjmbbfnaaGreatDoorQT
set_option linter.unusedSimpArgs false
set_option linter.unusedVariables false
namespace Go.Proofs.YtlpllbbjmbbfnaaGreatDoor
open Go.Eng Go.RowKit
theorem ACalls.weak {P : Program} {f : FuncId} {args : List AV} {r r' : AV} {Hn : List AObj} (h : LeV r r') (hc : ACalls P f args r Hn) : ACalls P f args r' Hn := ⟨hc.ok, fun w M vs hM hv => (hc.run w M vs hM hv).mono fun e w' hh => by
 obtain ⟨v, β, h1, h2⟩ := hh
 exact ⟨v, β, h1, { h2 with val := h _ _ _ _ h2.val }⟩⟩
end Go.Proofs.YtlpllbbjmbbfnaaGreatDoor
set_option linter.unusedSimpArgs false
set_option linter.unusedVariables false
namespace Go.Proofs.YtlpllbbjmbbfnaaGreatDoor
open Go.Eng Go.RowKit
theorem hE0 {x : Int} (h : x ≠ 0) : (x == 0) = false := by simpa using h
end Go.Proofs.YtlpllbbjmbbfnaaGreatDoor
set_option linter.unusedSimpArgs false
set_option linter.unusedVariables false
namespace Go.Proofs.YtlpllbbjmbbfnaaGreatDoor
open Go.Eng Go.RowKit
structure Stp.Small (x : Stp) : Prop where
 ne : 0 < x.set.length
 set : x.set.length ≤ 10
 fac : x.con.fac.length ≤ 10
theorem Stp.Small.fits {x : Stp} (h : x.Small) : x.Fits := ⟨by have := h.set; omega, by have := h.fac; omega⟩
theorem step_small {m : Net} {u s : List Int} (hn : netE m = 0) (h : nextF m u = some s) : (stepOf m s).Small := by
 obtain ⟨h1, h2⟩ := nextF_mem h
 have hS := setOk_of hn h1
 have hi := (netOk_of hn).init
 refine ⟨?_, hS.len, by show (facK m.init.length s).length ≤ 10; rw [facK_length]; exact hi⟩
 simp only [ctlB, Bool.and_eq_true, decide_eq_true_eq] at h2
 have h3 := h2.1.2
 show 0 < s.length
 cases s with
 | nil => simp [sumAt] at h3
 | cons x l => simp
def POut.small : POut → Prop
 | .err _ => True
 | .ok st m => netE m = 0 ∧ ∀ x ∈ st, x.Small
 | .dead st m _ => netE m = 0 ∧ ∀ x ∈ st, x.Small
theorem prevF_small {u : List Int} : ∀ (f : Nat) (st : List Stp) (m : Net), netE m = 0 → (∀ x ∈ st, x.Small) → (prevF u f st m).small
 | 0, st, m, _, _ => trivial
 | f + 1, st, m, hm, hs => by
  simp only [prevF]
  split
  ·trivial
  ·split
   ·exact ⟨hm, hs⟩
   ·split
    ·exact ⟨hm, hs⟩
    ·rename_i s hx
     split
     ·trivial
     ·rename_i hz
      have hz : monE m (kepC m.init.length s) = 0 := by omega
      refine prevF_small f _ _ (netE_of (mon_ok (monOk_of hz).1)) fun x hx' => ?_
      rcases List.mem_append.1 hx' with h | h
      ·exact hs x h
      ·simp only [List.mem_singleton] at h
       subst h
       exact step_small hm hx
theorem prevR_small {n : Net} (u : List Int) (hn : netE n = 0) : (prevR n u).small := prevF_small _ _ _ hn fun x h => by simp at h
end Go.Proofs.YtlpllbbjmbbfnaaGreatDoor
set_option linter.unusedSimpArgs false
set_option linter.unusedVariables false
namespace Go.Proofs.YtlpllbbjmbbfnaaGreatDoor
open Go.Eng Go.RowKit
theorem prevF_run {u : List Int} : ∀ (f : Nat) (st : List Stp) (m : Net) (st' : List Stp) (m' : Net) (run : List Int), prevF u f st m = .dead st' m' run → run.length ≤ 5000
 | 0, st, m, st', m', run, h => by rw [prevF] at h; cases h
 | f + 1, st, m, st', m', run, h => by
  simp only [prevF] at h
  split at h
  ·cases h
  ·rename_i nd ed hb
   split at h
   ·cases h
   ·rename_i hd
    split at h
    ·cases h
     have h1 := (bnd_ok hb).2.2
     have h2 := deadFrom_lt m nd 0 (by omega)
     have h3 := backF_length nd ((deadFrom m nd 0).toNat + 1) (deadFrom m nd 0)
     rw [pathF, List.length_reverse]
     omega
    ·split at h
     ·cases h
     ·exact prevF_run f _ _ _ _ _ h
theorem nil_lists {w : World} {M : Nat → Prop} {v : Value} (h : RepD w M .nil v) : RepD w M (.list []) v := by
 obtain ⟨A, rfl⟩ := h
 exact ⟨A, 0, rfl, Nat.le_refl _, Nat.zero_le _, .inl rfl⟩
theorem rows_first {w : World} {M : Nat → Prop} {R : List (List D)} {v : Value} (h : RepD w M (.list ([.nil, .nil, .int .i64 0] :: R)) v) : RepD w M (.list ([.list [], .list [], .int .i64 0] :: R)) v := by
 obtain ⟨A, c, rfl, h1, h2, h3⟩ := h
 refine ⟨A, c, rfl, h1, h2, .inr ?_⟩
 rcases h3 with h3 | ⟨ad, sz, h4, h5, h6, h7⟩
 ·cases h3
 ·refine ⟨ad, sz, h4, h5, h6, ?_⟩
  simp only [RepRows] at h7 ⊢
  obtain ⟨⟨vs, k1, k2, k3⟩, k4⟩ := h7
  refine ⟨⟨vs, k1, k2, ?_⟩, k4⟩
  simp only [RepL] at k3 ⊢
  obtain ⟨v1, r1, e1, q1, v2, r2, e2, q2, q3⟩ := k3
  exact ⟨v1, r1, e1, nil_lists q1, v2, r2, e2, nil_lists q2, q3⟩
theorem second_first {P : Program} {f : FuncId} {a : AV} {R : List (List D)} {x : List D} {r : AV} {Hn : List AObj} (h : ACalls P f [a, .agg (.list ([.list [], .list [], .int .i64 0] :: R) :: x)] r Hn) : ACalls P f [a, .agg (.list ([.nil, .nil, .int .i64 0] :: R) :: x)] r Hn := by
 refine ⟨h.ok, fun w M vs hm hv => h.run w M vs hm ?_⟩
 simp only [RepVL, RepV] at hv ⊢
 obtain ⟨v, r1, rfl, hv, v2, r2, rfl, ⟨us, rfl, hl, hr⟩, e⟩ := hv
 refine ⟨v, _, rfl, hv, _, r2, rfl, ⟨us, rfl, by simpa using hl, fun i d u hd hu => ?_⟩, e⟩
 cases i with
 | zero =>
  have h0 := hr 0 _ u rfl hu
  simp only [List.getElem?_cons_zero, Option.some.injEq] at hd
  subst hd
  exact rows_first h0
 | succ i => exact hr (i + 1) d u (by simpa using hd) hu
set_option maxRecDepth 100000 in
set_option maxHeartbeats 16000000 in
theorem PreventionPrevents_c (s : Nat → Int) (hs : Bytes s) (b : Bool) (q : Nat) (hq : q < 65536) : ACalls Tryz.prog 6 [.agg (bytesD 37 s ++ [.bool b, .int .u16 q])] (.one (.bool true)) [] := by
 have hKn := known_c
 have hT := task_ok s hs b q
 have hO := open_c s hs b q hq (by have := hT.ok.trs; omega)
 generalize taskU s b q = u at *
 generalize chooseN s b = n at *
 have hok := hT.ok
 have hi := hok.init
 have hul := hT.len
 have hF := fair_c n hok.fits hT.ne
 have hL := lPrevent_c n u hT.ne hT.chk (by omega)
 obtain ⟨hP, hX⟩ := pr_calls hT
 have hNo := none0_c
 have hsm := prevR_small u (netE_of hok)
 have hpl := prevF_len (u := u) (11 - n.init.length) [] n
 have hper := fun e => prevR_errs (n := n) (u := u) (e := e) (netE_of hok)
 have htl := task_len s [.bool b, .int .u16 q]
 simp only [List.length_cons, List.length_nil, Nat.reduceAdd] at htl
 simp only [Net.d] at hO hF hP hX hL
 cases hfb : fairB n with
 | false =>
  rw [hfb] at hF
  (refine ACalls.of_body Ty_ok mixed Tryz.func6 rfl (by kernel_rfl) Tryz.ntmps6 (by simp) (congrArg Array.toList Tryz.results6) ?_)
  simp only [slotsOf]
  (repeat' (first | (with_reducible first | exact True.intro | refine And.intro ?_ ?_ | refine aBl ?_ | (refine aS 14 [48] ?_; intro K hK)) | ((with_reducible first | refine aGo ?_ | refine rE ?_); simp only [htl, go_sem]) | ((with_reducible refine aCd ?_ ?_ (fun hb => ?_) (fun hb => ?_)); (iterate 2 simp only [htl, go_sem]); all_goals (simp only [htl, go_sem] at hb; try simp only [bls] at hb)) | ((iterate 6 try ((fail_if_success with_reducible refine hK _ ?_ ?_ ?_); clear hK K)); with_reducible refine hK _ ?_ ?_ ?_; rotate_left; (focus (simp only [htl, go_sem]; exact rfl)); clear hK K) | ((first | (with_reducible first | refine xA ?_ | refine xD ?_ | refine xO ?_ | refine xR ?_ | refine xG ?_ | refine xH ?_ | refine xM ?_) | ((with_reducible refine gA ?_); refine xA ?_) | ((with_reducible refine gD ?_); refine xD ?_) | ((with_reducible refine gG ?_); refine xG ?_)); simp only [htl, go_sem]) | (with_reducible refine aGs (fun hg0 => ?_) (fun hg0 => ?_) <;> first | (with_reducible first | exact aF1 hg0 | exact aF2 hg0) | (simp only [hg0, htl, go_sem])) | (with_reducible refine aNk ?_; intro bnil hnil; try simp only []) | exact aZ | fail))
  all_goals first | omega | skip
 | true =>
  rw [hfb] at hF
  cases hR : prevR n u with
  | err e =>
   have h3 := hper e hR
   rw [hR] at hP hX hL
   simp only [pvR, exR, lpR, res0] at hP hX hL hNo
   (refine ACalls.of_body Ty_ok mixed Tryz.func6 rfl (by kernel_rfl) Tryz.ntmps6 (by simp) (congrArg Array.toList Tryz.results6) ?_)
   simp only [slotsOf]
   (repeat' (first | (with_reducible first | exact True.intro | refine And.intro ?_ ?_ | refine aBl ?_ | (refine aS 14 [48] ?_; intro K hK)) | ((with_reducible first | refine aGo ?_ | refine rE ?_); simp only [htl, go_sem]) | ((with_reducible refine aCd ?_ ?_ (fun hb => ?_) (fun hb => ?_)); (iterate 2 simp only [htl, go_sem]); all_goals (simp only [htl, go_sem] at hb; try simp only [bls] at hb)) | ((iterate 6 try ((fail_if_success with_reducible refine hK _ ?_ ?_ ?_); clear hK K)); with_reducible refine hK _ ?_ ?_ ?_; rotate_left; (focus (simp only [htl, go_sem]; exact rfl)); clear hK K) | ((first | (with_reducible first | refine xA ?_ | refine xD ?_ | refine xO ?_ | refine xR ?_ | refine xG ?_ | refine xH ?_ | refine xM ?_) | ((with_reducible refine gA ?_); refine xA ?_) | ((with_reducible refine gD ?_); refine xD ?_) | ((with_reducible refine gG ?_); refine xG ?_)); simp only [htl, go_sem]) | (with_reducible refine aGs (fun hg0 => ?_) (fun hg0 => ?_) <;> first | (with_reducible first | exact aF1 hg0 | exact aF2 hg0) | (simp only [hg0, htl, go_sem])) | (with_reducible refine aNk ?_; intro bnil hnil; try simp only []) | exact aZ | fail))
   all_goals first | omega | skip
  | ok st m =>
   rw [hR] at hP hX hL hsm
   obtain ⟨hm, hsm⟩ := hsm
   have hl := hpl.1 st m hR
   simp only [List.length_nil, Nat.zero_add] at hl
   have hokm := netOk_of hm
   have hfs : ∀ x ∈ st, x.Fits := fun x hx => (hsm x hx).fits
   have hSS := lSameSteps_c st st (by omega) hfs
   have hE := netEqual_c m m hokm.fits
   have hQ := prEqual_c st st m m hokm.fits (by omega) hfs
   have hQ2 := prEqual_c st (Stp.no :: st) m m hokm.fits (by omega) hfs
   rw [decide_eq_true rfl] at hSS hE
   rw [decide_eq_true ⟨rfl, rfl⟩] at hQ
   rw [decide_eq_false (fun h => by have := congrArg List.length h.1; simp at this)] at hQ2
   have e1 : stpD (Stp.no :: st) = [D.list [], .list [], .int .i64 0] :: stpD st := rfl
   have hst := stp_length st
   simp only [pvR, exR, lpR, resD, Net.d, e1] at hP hX hL hE hQ hQ2
   have hQ2 := second_first hQ2
   (refine ACalls.of_body Ty_ok mixed Tryz.func6 rfl (by kernel_rfl) Tryz.ntmps6 (by simp) (congrArg Array.toList Tryz.results6) ?_)
   simp only [slotsOf]
   (repeat' (first | (with_reducible first | exact True.intro | refine And.intro ?_ ?_ | refine aBl ?_ | (refine aS 14 [48] ?_; intro K hK)) | ((with_reducible first | refine aGo ?_ | refine rE ?_); simp only [htl, go_sem]) | ((with_reducible refine aCd ?_ ?_ (fun hb => ?_) (fun hb => ?_)); (iterate 2 simp only [htl, go_sem]); all_goals (simp only [htl, go_sem] at hb; try simp only [bls] at hb)) | ((iterate 6 try ((fail_if_success with_reducible refine hK _ ?_ ?_ ?_); clear hK K)); with_reducible refine hK _ ?_ ?_ ?_; rotate_left; (focus (simp only [htl, go_sem]; exact rfl)); clear hK K) | ((first | (with_reducible first | refine xA ?_ | refine xD ?_ | refine xO ?_ | refine xR ?_ | refine xG ?_ | refine xH ?_ | refine xM ?_) | ((with_reducible refine gA ?_); refine xA ?_) | ((with_reducible refine gD ?_); refine xD ?_) | ((with_reducible refine gG ?_); refine xG ?_)); simp only [htl, go_sem]) | (with_reducible refine aGs (fun hg0 => ?_) (fun hg0 => ?_) <;> first | (with_reducible first | exact aF1 hg0 | exact aF2 hg0) | (simp only [hg0, htl, go_sem])) | (with_reducible refine aNk ?_; intro bnil hnil; try simp only []) | exact aZ | fail))
   all_goals first | omega | skip
  | dead st m run =>
   rw [hR] at hP hX hL hsm
   obtain ⟨hm, hsm⟩ := hsm
   have hl := hpl.2 st m run hR
   simp only [List.length_nil, Nat.zero_add] at hl
   have hfs : ∀ x ∈ st, x.Fits := fun x hx => (hsm x hx).fits
   have hSS := lSameSteps_c st st (by omega) hfs
   have hrl := prevF_run _ _ _ _ _ _ hR
   have hSI := SameInts_c run run (by omega)
   rw [decide_eq_true rfl] at hSS hSI
   simp only [pvR, exR, lpR, resD, res0] at hP hX hL hNo
   (refine ACalls.of_body Ty_ok mixed Tryz.func6 rfl (by kernel_rfl) Tryz.ntmps6 (by simp) (congrArg Array.toList Tryz.results6) ?_)
   simp only [slotsOf]
   (repeat' (first | (with_reducible first | exact True.intro | refine And.intro ?_ ?_ | refine aBl ?_ | (refine aS 14 [48] ?_; intro K hK)) | ((with_reducible first | refine aGo ?_ | refine rE ?_); simp only [htl, go_sem]) | ((with_reducible refine aCd ?_ ?_ (fun hb => ?_) (fun hb => ?_)); (iterate 2 simp only [htl, go_sem]); all_goals (simp only [htl, go_sem] at hb; try simp only [bls] at hb)) | ((iterate 6 try ((fail_if_success with_reducible refine hK _ ?_ ?_ ?_); clear hK K)); with_reducible refine hK _ ?_ ?_ ?_; rotate_left; (focus (simp only [htl, go_sem]; exact rfl)); clear hK K) | ((first | (with_reducible first | refine xA ?_ | refine xD ?_ | refine xO ?_ | refine xR ?_ | refine xG ?_ | refine xH ?_ | refine xM ?_) | ((with_reducible refine gA ?_); refine xA ?_) | ((with_reducible refine gD ?_); refine xD ?_) | ((with_reducible refine gG ?_); refine xG ?_)); simp only [htl, go_sem]) | (with_reducible refine aGs (fun hg0 => ?_) (fun hg0 => ?_) <;> first | (with_reducible first | exact aF1 hg0 | exact aF2 hg0) | (simp only [hg0, htl, go_sem])) | (with_reducible refine aNk ?_; intro bnil hnil; try simp only []) | exact aZ | fail))
   all_goals first | omega | skip
end Go.Proofs.YtlpllbbjmbbfnaaGreatDoor
set_option linter.unusedSimpArgs false
set_option linter.unusedVariables false
namespace Go.Proofs.YtlpllbbjmbbfnaaGreatDoor
open Go.Eng Go.RowKit Go.ChangeShapes
set_option maxRecDepth 100000 in
theorem PreventionPrevents_lifted (os : Os) (started : os.Started) (H : Type) (enc : TypeId × Value → H) :
  ReturnsInHanded {} Tryz.checked os 6 .any (fun w args => (Rows.preventionPreventsSpec.pre enc Tryz.prog Tryz.f6 [] false w args ∧ laidMetH Tryz.prog laidL w) ∧ sizedMet enc Tryz.prog Tryz.f6 (OpenSpec.ofChange Rows.preventionPreventsSpec) false w args) (Rows.preventionPreventsSpec.post enc Tryz.prog Tryz.f6 false true false false) :=
 law_lifted_laid (C := Tryz.checked) (tb := 4) (laid := laidL) ownKnob_none started (by kernel_rfl) Tryz.func6 laidOut rfl (by kernel_rfl) (by kernel_rfl) Tryz.underlying4
  (fun ds h => by
   match ds, h with
   | [_], _ => rfl)
  (ChangeSpec.witness_shaped (enc := enc) (C := Tryz.checked) (os := os) (X := fun w _ => laidMetH Tryz.prog laidL w) false (World.laidAll Tryz.prog os laidL) #[taskZ] 8 (World.laidAll_os _ _ _) (World.shaped_of_ZipB (by kernel_rfl) (by kernel_rfl)) (by kernel_rfl) (by kernel_rfl) (by kernel_rfl) (laid_met os _))
  globs_laid (HO_cons op_task fun x hx => HO_nil (PreventionPrevents_c x.1 hx.1 x.2.1 x.2.2 hx.2))
theorem PreventionPrevents_row : Rows.PreventionPreventsSaid :=
 OpenClaim.holds_of_wide 6 Tryz.f6 rfl rfl rfl rfl rfl rfl rfl ⟨rfl, rfl, rfl, rfl, rfl⟩ rfl rfl rfl rfl rfl (by kernel_rfl) Tryz.func6 (by kernel_rfl)
  (of_decide_eq_true (by kernel_rfl)) (by unfold Func.isWrapper; rw [if_neg (by decide +kernel)]; exact ⟨rfl, rfl⟩)
  (fun os started H enc _ => PreventionPrevents_lifted os started H enc)
theorem PreventionPrevents_holds : Rows.PreventionPreventsCardSaid :=
 Claim7.holds_tied_plain_at .later [] [.data, .data, .data] true (true, "c0cafe115ded92e8486ca3434d15a5a34424e462dc9fbc58da252d5362afe241") false
  PreventionPrevents_row (fun _ h => by cases h) (by kernel_rfl) (fun _ h => by cases h) preventionPrevents_row_tie rfl ⟨rfl, rfl⟩ (by kernel_rfl) rfl
  (fun f fn hf hfn => by
   obtain rfl : f = 6 := (Option.some.inj ((show Tryz.prog.funcNamed "overseer/overseerlaw51.PreventionPrevents" = some 6 by kernel_rfl).symm.trans hf)).symm
   obtain rfl : fn = Tryz.f6 := (Option.some.inj (Tryz.func6.symm.trans hfn)).symm
   exact ⟨by kernel_rfl, fun j t ht => by
    have hm : t ∈ Tryz.f6.params.toList := by simpa using Array.mem_of_getElem? ht
    have hall : (Tryz.f6.params.toList.all fun u => !Tryz.prog.wantsStandIn u) = true := by kernel_rfl
    exact (show Tryz.prog.wantsStandIn t = false by simpa using List.all_eq_true.1 hall t hm)⟩)
  (by kernel_rfl)
end Go.Proofs.YtlpllbbjmbbfnaaGreatDoor
