/-
 Chapter 51: the statement PreventionVerifies.
-/
import Derived.Test.YtlpllbbjmbbfnaaGreatDoorQP
import Derived.Test.YtlpllbbjmbbfnaaGreatDoorQR
set_option linter.unusedSimpArgs false
set_option linter.unusedVariables false
namespace Go.Proofs.YtlpllbbjmbbfnaaGreatDoor
open Go.Eng Go.RowKit
structure Stp.Small (x : Stp) : Prop where
 ne : 0 < x.set.length
 set : x.set.length ≤ 10
 fac : x.con.fac.length ≤ 10
theorem Stp.Small.fits {x : Stp} (h : x.Small) : x.Fits := ⟨by have := h.set; omega, by have := h.fac; omega⟩
theorem step_small {m : Net} {u s : List Int} (hn : netE m = 0) (h : nextF m u = some s) : (stepOf m s).Small := by
 obtain ⟨h1, h2⟩ := nextF_mem h
 have hS := setOk_of hn h1
 have hi := (netOk_of hn).init
 refine ⟨?_, hS.len, by show (facK m.init.length s).length ≤ 10; rw [facK_length]; exact hi⟩
 simp only [ctlB, Bool.and_eq_true, decide_eq_true_eq] at h2
 have h3 := h2.1.2
 show 0 < s.length
 cases s with
 | nil => simp [sumAt] at h3
 | cons x l => simp
def POut.small : POut → Prop
 | .err _ => True
 | .ok st m => netE m = 0 ∧ ∀ x ∈ st, x.Small
 | .dead st m _ => netE m = 0 ∧ ∀ x ∈ st, x.Small
theorem prevF_small {u : List Int} : ∀ (f : Nat) (st : List Stp) (m : Net), netE m = 0 → (∀ x ∈ st, x.Small) → (prevF u f st m).small
 | 0, st, m, _, _ => trivial
 | f + 1, st, m, hm, hs => by
  simp only [prevF]
  split
  ·trivial
  ·split
   ·exact ⟨hm, hs⟩
   ·split
    ·exact ⟨hm, hs⟩
    ·rename_i s hx
     split
     ·trivial
     ·rename_i hz
      have hz : monE m (kepC m.init.length s) = 0 := by omega
      refine prevF_small f _ _ (netE_of (mon_ok (monOk_of hz).1)) fun x hx' => ?_
      rcases List.mem_append.1 hx' with h | h
      ·exact hs x h
      ·simp only [List.mem_singleton] at h
       subst h
       exact step_small hm hx
theorem prevR_small {n : Net} (u : List Int) (hn : netE n = 0) : (prevR n u).small := prevF_small _ _ _ hn fun x h => by simp at h
theorem spoilS_len (h : Nat) (st : List Stp) : (spoilS h st).length ≤ st.length + 1 := by
 unfold spoilS
 split
 ·split <;> simp
 ·split
  ·simp; omega
  all_goals simp
theorem spoilS_fits (h : Nat) {st : List Stp} (hs : ∀ x ∈ st, x.Small) : ∀ x ∈ spoilS h st, x.Fits := by
 have hno : Stp.no.Fits := ⟨by decide, by decide⟩
 intro x hx
 unfold spoilS at hx
 split at hx
 ·split at hx
  ·simp at hx; subst hx; exact hno
  ·simp at hx
 ·rename_i hz
  have hl : (lastS st).Small := hs _ (getD_mem st (st.length - 1) Stp.no (by omega))
  split at hx
  ·exact (hs x (List.mem_of_mem_take hx)).fits
  ·rcases List.mem_or_eq_of_mem_set hx with h | h
   ·exact (hs x h).fits
   ·subst h
    exact ⟨by have := hl.set; simp only [List.length_take]; omega, by have := hl.fac; simp only; omega⟩
  ·rcases List.mem_or_eq_of_mem_set hx with h | h
   ·exact (hs x h).fits
   ·subst h
    exact ⟨by have := hl.set; simp only; omega, by have := hl.fac; simp only; omega⟩
  ·rcases List.mem_append.1 hx with h | h
   ·exact (hs x h).fits
   ·simp at h; subst h; exact hno
  ·rcases List.mem_append.1 hx with h | h
   ·exact (hs x h).fits
   ·simp at h; subst h; exact hl.fits
  ·exact (hs x hx).fits
theorem vf_ok {u : List Int} {n : Net} (hE : prE n u = 0) (st : List Stp) (m : Net) : vfE u n st m = vb (verB u n st m) := by rw [vfE, if_neg (by omega)]
set_option maxRecDepth 100000 in
set_option maxHeartbeats 16000000 in
theorem PreventionVerifies_c (s : Nat → Int) (hs : Bytes s) (b : Bool) (q : Nat) (hq : q < 65536) (how : Nat) (hh : how < 256) : ACalls Tryz.prog 7 [.agg (bytesD 37 s ++ [.bool b, .int .u16 q]), .one (.int .u8 how)] (.one (.bool true)) [] := by
 have hKn := known_c
 have hT := task_ok s hs b q
 have hO := open_c s hs b q hq (by have := hT.ok.trs; omega)
 generalize taskU s b q = u at *
 generalize chooseN s b = n at *
 have hok := hT.ok
 have hi := hok.init
 have hul := hT.len
 have hF := fair_c n hok.fits hT.ne
 have hP := Prevent_c n u hok.fits (fun _ => hT.ne) (by omega)
 have e : prO n u = prevR n u := by rw [prO, if_neg (by rw [hT.chk]; decide)]
 rw [e] at hP
 have hsm := prevR_small u (netE_of hok)
 have hpl := prevF_len (u := u) (11 - n.init.length) [] n
 have hper := fun e => prevR_errs (n := n) (u := u) (e := e) (netE_of hok)
 have hver := fun st m => prevR_ver (n := n) (m := m) (u := u) (st := st)
 have htl := task_len s [.bool b, .int .u16 q]
 simp only [List.length_cons, List.length_nil, Nat.reduceAdd] at htl
 have hV := fun st m (h1 : st.length ≤ 1000) (h2 : ∀ x ∈ st, x.Fits) => Verify_c n m st u hok.fits (fun _ => hT.ne) (by omega) h1 h2
 have hRt := fun st m (h1 : st.length ≤ 1000) (h2 : ∀ x ∈ st, x.Fits) => right_c n m st u hT.ne hT.chk (by omega) h1 h2
 simp only [vf_ok hT.chk] at hV
 simp only [Net.d] at hO hF hP hV hRt
 cases hfb : fairB n with
 | false =>
  rw [hfb] at hF
  (refine ACalls.of_body Ty_ok mixed Tryz.func7 rfl (by kernel_rfl) Tryz.ntmps7 (by simp) (congrArg Array.toList Tryz.results7) ?_)
  simp only [slotsOf]
  (repeat' (first | (with_reducible first | exact True.intro | refine And.intro ?_ ?_ | refine aBl ?_ | (refine aS 11 [] ?_; intro K hK)) | ((with_reducible first | refine aGo ?_); simp only [htl, go_sem]) | ((with_reducible refine aCd ?_ ?_ (fun hb => ?_) (fun hb => ?_)); (iterate 2 simp only [htl, go_sem]); all_goals (simp only [htl, go_sem] at hb; try simp only [bls] at hb)) | ((iterate 6 try ((fail_if_success with_reducible refine hK _ ?_ ?_ ?_); clear hK K)); with_reducible refine hK _ ?_ ?_ ?_; rotate_left; (focus (simp only [htl, go_sem]; exact rfl)); clear hK K) | ((first | (with_reducible first | refine xA ?_ | refine xD ?_ | refine xO ?_ | refine xR ?_ | refine xG ?_ | refine xH ?_ | refine xM ?_) | ((with_reducible refine gA ?_); refine xA ?_) | ((with_reducible refine gD ?_); refine xD ?_) | ((with_reducible refine gG ?_); refine xG ?_)); simp only [htl, go_sem]) | (with_reducible refine aGs (fun hg0 => ?_) (fun hg0 => ?_) <;> first | (with_reducible first | exact aF1 hg0 | exact aF2 hg0) | (simp only [hg0, htl, go_sem])) | (with_reducible refine aNk ?_; intro bnil hnil; try simp only []) | exact aZ | fail))
  all_goals first | omega | skip
 | true =>
  rw [hfb] at hF
  cases hR : prevR n u with
  | ok st m =>
   rw [hR] at hP hsm
   obtain ⟨hm, hsm⟩ := hsm
   have hl := hpl.1 st m hR
   simp only [List.length_nil, Nat.zero_add] at hl
   have hokm := netOk_of hm
   have hS := spoil_c st m how hh (by omega) hokm.fits (fun x hx => ⟨(hsm x hx).ne, by have := (hsm x hx).set; omega⟩) hokm.tok
   have hV1 := hV st m (by omega) (fun x hx => (hsm x hx).fits)
   have hl2 := spoilS_len (how % 8) st
   have hV2 := hV (spoilS (how % 8) st) (spoilN (how % 8) m) (by omega) (spoilS_fits _ hsm)
   have hR2 := hRt (spoilS (how % 8) st) (spoilN (how % 8) m) (by omega) (spoilS_fits _ hsm)
   rw [hver st m hR] at hV1
   generalize spoilS (how % 8) st = st2 at *
   generalize spoilN (how % 8) m = m2 at *
   simp only [pvR, resD, vb] at hP hS hV1 hV2 hR2
   cases hB : verB u n st2 m2 with
   | true =>
    rw [hB] at hV2 hR2
    (refine ACalls.of_body Ty_ok mixed Tryz.func7 rfl (by kernel_rfl) Tryz.ntmps7 (by simp) (congrArg Array.toList Tryz.results7) ?_)
    simp only [slotsOf]
    (repeat' (first | (with_reducible first | exact True.intro | refine And.intro ?_ ?_ | refine aBl ?_ | (refine aS 11 [] ?_; intro K hK)) | ((with_reducible first | refine aGo ?_); simp only [htl, go_sem]) | ((with_reducible refine aCd ?_ ?_ (fun hb => ?_) (fun hb => ?_)); (iterate 2 simp only [htl, go_sem]); all_goals (simp only [htl, go_sem] at hb; try simp only [bls] at hb)) | ((iterate 6 try ((fail_if_success with_reducible refine hK _ ?_ ?_ ?_); clear hK K)); with_reducible refine hK _ ?_ ?_ ?_; rotate_left; (focus (simp only [htl, go_sem]; exact rfl)); clear hK K) | ((first | (with_reducible first | refine xA ?_ | refine xD ?_ | refine xO ?_ | refine xR ?_ | refine xG ?_ | refine xH ?_ | refine xM ?_) | ((with_reducible refine gA ?_); refine xA ?_) | ((with_reducible refine gD ?_); refine xD ?_) | ((with_reducible refine gG ?_); refine xG ?_)); simp only [htl, go_sem]) | (with_reducible refine aGs (fun hg0 => ?_) (fun hg0 => ?_) <;> first | (with_reducible first | exact aF1 hg0 | exact aF2 hg0) | (simp only [hg0, htl, go_sem])) | (with_reducible refine aNk ?_; intro bnil hnil; try simp only []) | exact aZ | fail))
    all_goals first | omega | skip
   | false =>
    rw [hB] at hV2 hR2
    (refine ACalls.of_body Ty_ok mixed Tryz.func7 rfl (by kernel_rfl) Tryz.ntmps7 (by simp) (congrArg Array.toList Tryz.results7) ?_)
    simp only [slotsOf]
    (repeat' (first | (with_reducible first | exact True.intro | refine And.intro ?_ ?_ | refine aBl ?_ | (refine aS 11 [] ?_; intro K hK)) | ((with_reducible first | refine aGo ?_); simp only [htl, go_sem]) | ((with_reducible refine aCd ?_ ?_ (fun hb => ?_) (fun hb => ?_)); (iterate 2 simp only [htl, go_sem]); all_goals (simp only [htl, go_sem] at hb; try simp only [bls] at hb)) | ((iterate 6 try ((fail_if_success with_reducible refine hK _ ?_ ?_ ?_); clear hK K)); with_reducible refine hK _ ?_ ?_ ?_; rotate_left; (focus (simp only [htl, go_sem]; exact rfl)); clear hK K) | ((first | (with_reducible first | refine xA ?_ | refine xD ?_ | refine xO ?_ | refine xR ?_ | refine xG ?_ | refine xH ?_ | refine xM ?_) | ((with_reducible refine gA ?_); refine xA ?_) | ((with_reducible refine gD ?_); refine xD ?_) | ((with_reducible refine gG ?_); refine xG ?_)); simp only [htl, go_sem]) | (with_reducible refine aGs (fun hg0 => ?_) (fun hg0 => ?_) <;> first | (with_reducible first | exact aF1 hg0 | exact aF2 hg0) | (simp only [hg0, htl, go_sem])) | (with_reducible refine aNk ?_; intro bnil hnil; try simp only []) | exact aZ | fail))
    all_goals first | omega | skip
  | err e =>
   have h3 := hper e hR
   rw [hR] at hP
   have hS := spoil_c [] n how hh (by simp) hok.fits (fun x hx => by simp at hx) hok.tok
   have hl2 := spoilS_len (how % 8) []
   simp only [List.length_nil, Nat.zero_add] at hl2
   have hV2 := hV (spoilS (how % 8) []) (spoilN (how % 8) n) (by omega) (spoilS_fits _ (fun x hx => by simp at hx))
   have hR2 := hRt (spoilS (how % 8) []) (spoilN (how % 8) n) (by omega) (spoilS_fits _ (fun x hx => by simp at hx))
   generalize spoilS (how % 8) [] = st2 at *
   generalize spoilN (how % 8) n = m2 at *
   have e0 : stpD [] = [] := rfl
   simp only [pvR, resD, res0, vb, e0] at hP hS hV2 hR2
   cases hB : verB u n st2 m2
   all_goals
    rw [hB] at hV2 hR2
    (refine ACalls.of_body Ty_ok mixed Tryz.func7 rfl (by kernel_rfl) Tryz.ntmps7 (by simp) (congrArg Array.toList Tryz.results7) ?_)
    simp only [slotsOf]
    (repeat' (first | (with_reducible first | exact True.intro | refine And.intro ?_ ?_ | refine aBl ?_ | (refine aS 11 [] ?_; intro K hK)) | ((with_reducible first | refine aGo ?_); simp only [htl, go_sem]) | ((with_reducible refine aCd ?_ ?_ (fun hb => ?_) (fun hb => ?_)); (iterate 2 simp only [htl, go_sem]); all_goals (simp only [htl, go_sem] at hb; try simp only [bls] at hb)) | ((iterate 6 try ((fail_if_success with_reducible refine hK _ ?_ ?_ ?_); clear hK K)); with_reducible refine hK _ ?_ ?_ ?_; rotate_left; (focus (simp only [htl, go_sem]; exact rfl)); clear hK K) | ((first | (with_reducible first | refine xA ?_ | refine xD ?_ | refine xO ?_ | refine xR ?_ | refine xG ?_ | refine xH ?_ | refine xM ?_) | ((with_reducible refine gA ?_); refine xA ?_) | ((with_reducible refine gD ?_); refine xD ?_) | ((with_reducible refine gG ?_); refine xG ?_)); simp only [htl, go_sem]) | (with_reducible refine aGs (fun hg0 => ?_) (fun hg0 => ?_) <;> first | (with_reducible first | exact aF1 hg0 | exact aF2 hg0) | (simp only [hg0, htl, go_sem])) | (with_reducible refine aNk ?_; intro bnil hnil; try simp only []) | exact aZ | fail))
    all_goals first | omega | skip
  | dead st m run =>
   rw [hR] at hP
   have hS := spoil_c [] n how hh (by simp) hok.fits (fun x hx => by simp at hx) hok.tok
   have hl2 := spoilS_len (how % 8) []
   simp only [List.length_nil, Nat.zero_add] at hl2
   have hV2 := hV (spoilS (how % 8) []) (spoilN (how % 8) n) (by omega) (spoilS_fits _ (fun x hx => by simp at hx))
   have hR2 := hRt (spoilS (how % 8) []) (spoilN (how % 8) n) (by omega) (spoilS_fits _ (fun x hx => by simp at hx))
   generalize spoilS (how % 8) [] = st2 at *
   generalize spoilN (how % 8) n = m2 at *
   have e0 : stpD [] = [] := rfl
   simp only [pvR, resD, res0, vb, e0] at hP hS hV2 hR2
   cases hB : verB u n st2 m2
   all_goals
    rw [hB] at hV2 hR2
    (refine ACalls.of_body Ty_ok mixed Tryz.func7 rfl (by kernel_rfl) Tryz.ntmps7 (by simp) (congrArg Array.toList Tryz.results7) ?_)
    simp only [slotsOf]
    (repeat' (first | (with_reducible first | exact True.intro | refine And.intro ?_ ?_ | refine aBl ?_ | (refine aS 11 [] ?_; intro K hK)) | ((with_reducible first | refine aGo ?_); simp only [htl, go_sem]) | ((with_reducible refine aCd ?_ ?_ (fun hb => ?_) (fun hb => ?_)); (iterate 2 simp only [htl, go_sem]); all_goals (simp only [htl, go_sem] at hb; try simp only [bls] at hb)) | ((iterate 6 try ((fail_if_success with_reducible refine hK _ ?_ ?_ ?_); clear hK K)); with_reducible refine hK _ ?_ ?_ ?_; rotate_left; (focus (simp only [htl, go_sem]; exact rfl)); clear hK K) | ((first | (with_reducible first | refine xA ?_ | refine xD ?_ | refine xO ?_ | refine xR ?_ | refine xG ?_ | refine xH ?_ | refine xM ?_) | ((with_reducible refine gA ?_); refine xA ?_) | ((with_reducible refine gD ?_); refine xD ?_) | ((with_reducible refine gG ?_); refine xG ?_)); simp only [htl, go_sem]) | (with_reducible refine aGs (fun hg0 => ?_) (fun hg0 => ?_) <;> first | (with_reducible first | exact aF1 hg0 | exact aF2 hg0) | (simp only [hg0, htl, go_sem])) | (with_reducible refine aNk ?_; intro bnil hnil; try simp only []) | exact aZ | fail))
    all_goals first | omega | skip
end Go.Proofs.YtlpllbbjmbbfnaaGreatDoor
