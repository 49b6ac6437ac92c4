/-
 Chapter 23: document.Text.
-/
import Derived.Test.YtkjnjkdcpbgabaaGreatDoorUW
import Derived.Test.YtkjnjkdcpbgabaaGreatDoorUR
import Derived.Test.YtkjnjkdcpbgabaaGreatDoorUP
set_option linter.unusedSimpArgs false
set_option linter.unusedVariables false
namespace Go.Proofs.YtkjnjkdcpbgabaaGreatDoor
open Go.Eng Go.RowKit
def bodyS (E : List Ev) (x : It) : List UInt8 := if x.kind ≤ 2 then machS E x else condS x
def textE (E : List Ev) (x : It) : Int := if checkEv E ≠ 0 then checkEv E else if chkL [x] ≠ 0 then chkL [x] else if chkAU x.aut ≠ 0 then chkAU x.aut else if x.aut.alpha.any (fun i => decide ((E.length : Int) ≤ i)) = true then 2 else 0
def textR (E : List Ev) (x : It) : List UInt8 × Int := (if textE E x = 0 then bodyS E x else [], textE E x)
structure TFits (E : List Ev) (x : It) : Prop where
 ev : E.length ≤ 1000
 evn : ∀ e ∈ E, e.name.length ≤ 100
 cf : CFits x
 alpha : x.aut.alpha.length ≤ 100
 st : x.aut.states ≤ 100
 marked : x.aut.marked.length ≤ 1000
 edges : x.aut.edges.length ≤ 100
theorem deFrom_in {n : Int} {al : List Int} : ∀ {l : List Ed} {p : Option Ed}, deFrom n al p l = 0 → ∀ x ∈ l, ((0 ≤ x.src ∧ x.src < n) ∧ 0 ≤ x.dst ∧ x.dst < n) ∧ x.ev ∈ al
 | [], _, _, x, hx => by simp at hx
 | y :: l, p, h, x, hx => by
  rw [deFrom] at h
  by_cases h1 : y.src < 0 ∨ n ≤ y.src ∨ y.dst < 0 ∨ n ≤ y.dst
  ·rw [if_pos h1] at h; exact absurd h (by decide)
  rw [if_neg h1] at h
  by_cases h2 : y.ev ∉ al
  ·rw [if_pos h2] at h; exact absurd h (by decide)
  rw [if_neg h2] at h
  split at h
  ·exact absurd h (by decide)
  ·rcases List.mem_cons.1 hx with rfl | hx
   ·exact ⟨by omega, Classical.not_not.1 h2⟩
   ·exact deFrom_in h x hx
structure AuOk (a : AU) : Prop where
 al : ∀ i ∈ a.alpha, 0 ≤ i ∧ i < 32
 st : 0 ≤ a.states
 marked : checkSet a.marked a.states = 0
 ed : ∀ x ∈ a.edges, ((0 ≤ x.src ∧ x.src < a.states) ∧ 0 ≤ x.dst ∧ x.dst < a.states) ∧ x.ev ∈ a.alpha
theorem chkAU_ok {a : AU} (h : chkAU a = 0) : AuOk a := by
 rw [chkAU] at h
 by_cases h1 : checkSet a.alpha 32 = 0
 ·rw [if_neg (by simp [h1])] at h
  by_cases h2 : a.states < 0
  ·rw [if_pos h2] at h; exact absurd h (by decide)
  rw [if_neg h2] at h
  by_cases h3 : 4096 < a.states
  ·rw [if_pos h3] at h; exact absurd h (by decide)
  rw [if_neg h3] at h
  by_cases h4 : checkSet a.marked a.states = 0
  ·rw [if_neg (by simp [h4])] at h
   exact ⟨csFrom_in _ _ _ h1, by omega, h4, deFrom_in h⟩
  ·rw [if_pos h4] at h; exact absurd h h4
 ·rw [if_pos h1] at h; exact absurd h h1
theorem text_mfits {E : List Ev} {x : It} (hf : TFits E x) (he : textE E x = 0) (hk : x.kind ≤ 2) (hok : okI x) (ha : chkAU x.aut = 0) (hn : ¬ x.aut.alpha.any (fun i => decide ((E.length : Int) ≤ i)) = true) : MFits E x := by
 have h1 := chkAU_ok ha
 have hal : ∀ i ∈ x.aut.alpha, 0 ≤ i ∧ i < E.length := fun i hi => by
  refine ⟨(h1.al i hi).1, ?_⟩
  by_cases hlt : (E.length : Int) ≤ i
  ·exact absurd (List.any_eq_true.2 ⟨i, hi, decide_eq_true hlt⟩) hn
  ·omega
 have hk2 := hok.1
 exact ⟨by omega, hf.cf.name, hf.ev, hf.evn, hf.alpha, hal, ⟨h1.st, hf.st⟩, hf.marked, hf.edges, fun y hy => ⟨hal _ (h1.ed y hy).2, by have := (h1.ed y hy).1; have := hf.st; omega⟩⟩
theorem Text1_c (i : Int) (E : List Ev) (hE : E.length ≤ 1000) : ACalls Tryz.prog 63 [.one (.int .i64 i), .one (.ref [.list (evs E)])] (.one (.bool (decide ((E.length : Int) ≤ i)))) [] := by
 (refine ACalls.of_body Ty_ok mixed Tryz.func63 rfl (by kernel_rfl) Tryz.ntmps63 (by simp) (congrArg Array.toList Tryz.results63) ?_)
 simp only [slotsOf]
 (repeat' (first | (with_reducible first | exact True.intro | refine And.intro ?_ ?_ | refine aBl ?_ | (refine aS 4 [] ?_; intro K hK)) | ((with_reducible first | refine aGo ?_); simp only [go_sem]) | ((with_reducible refine aCd ?_ ?_ (fun hb => ?_) (fun hb => ?_)); (iterate 2 simp only [go_sem]); all_goals (simp only [go_sem] at hb; try simp only [bls] at hb)) | ((iterate 6 try ((fail_if_success with_reducible refine hK _ ?_ ?_ ?_); clear hK K)); with_reducible refine hK _ ?_ ?_ ?_; rotate_left; (focus (simp only [go_sem]; exact rfl)); clear hK K) | (with_reducible refine aGs (fun hg0 => ?_) (fun hg0 => ?_) <;> first | (with_reducible first | exact aF1 hg0 | exact aF2 hg0) | (simp only [hg0, go_sem])) | (with_reducible refine aNk ?_; intro bnil hnil; try simp only []) | exact aZ | fail))
theorem machS_ne (E : List Ev) (x : It) : machS E x ≠ [] := by
 rw [machS, headW]
 split <;> simp
theorem condS_ne (x : It) : condS x ≠ [] := by
 rw [condS]
 split <;> simp
set_option maxHeartbeats 16000000 in
set_option maxRecDepth 100000 in
theorem Text_c (E : List Ev) (x : It) (hf : TFits E x) (hx : x.Fits) (hlen : textE E x = 0 → (bodyS E x).length ≤ 65536) : ACalls Tryz.prog 31 [.one (.list (evs E)), .agg x.d] (.tup [.one (.str (textR E x).1), .one (.int .i64 (textR E x).2)]) [] := by
 have f1 := hf.ev
 have f2 := hf.alpha
 have c1 := alCheck_c E (by omega) fun e he => by have := hf.evn e he; omega
 have c2 := Check_c [x] ⟨by simp, fun y hy => by rw [List.mem_singleton.1 hy]; exact hx⟩
 have c3 := auCheck_c x.aut hx.aut
 have c4 := ContainsFuncInts_c x.aut.alpha 63 [.ref [.list (evs E)]] (fun i => decide ((E.length : Int) ≤ i)) (by omega) (capsOk_ref1 _) (fun e _ => Text1_c e E f1)
 have hR : textR E x = (if textE E x = 0 then bodyS E x else [], textE E x) := rfl
 have hE : textE E x = if checkEv E ≠ 0 then checkEv E else if chkL [x] ≠ 0 then chkL [x] else if chkAU x.aut ≠ 0 then chkAU x.aut else if x.aut.alpha.any (fun i => decide ((E.length : Int) ≤ i)) = true then 2 else 0 := rfl
 have hcd := condition_c x hf.cf
 have hbl : bodyS E x = if x.kind ≤ 2 then machS E x else condS x := rfl
 have hmf : textE E x = 0 → x.kind ≤ 2 → okI x → chkAU x.aut = 0 → ¬ x.aut.alpha.any (fun i => decide ((E.length : Int) ≤ i)) = true → MFits E x := fun h1 h2 h3 h4 h5 => text_mfits hf h1 h2 h3 h4 h5
 have hok := (chk_one x).1
 generalize textR E x = R at *
 generalize textE E x = e at *
 generalize checkEv E = e1 at *
 generalize chkL [x] = e2 at *
 generalize chkAU x.aut = e3 at *
 generalize x.aut.alpha.any (fun i => decide ((E.length : Int) ≤ i)) = b4 at *
 rw [show itD [x] = [x.d] from rfl] at c2
 simp only [It.d, AU.d] at c2 c3 hcd
 subst hR
 by_cases h1 : e1 = 0
 ·rw [if_neg (by simp [h1])] at hE
  subst h1
  by_cases h2 : e2 = 0
  ·rw [if_neg (by simp [h2])] at hE
   have hok' := hok h2
   subst h2
   by_cases h3 : e3 = 0
   ·rw [if_neg (by simp [h3])] at hE
    subst h3
    cases b4 with
    | true =>
     rw [if_pos rfl] at hE
     subst hE
     (refine ACalls.of_body Ty_ok mixed Tryz.func31 rfl (by kernel_rfl) Tryz.ntmps31 (by simp) (congrArg Array.toList Tryz.results31) ?_)
     simp only [slotsOf, It.d]
     (repeat' (first | (with_reducible first | exact True.intro | refine And.intro ?_ ?_ | refine aBl ?_ | (refine aS 10 [] ?_; intro K hK)) | ((with_reducible first | refine aGo ?_); simp only [go_sem]) | ((with_reducible refine aCd ?_ ?_ (fun hb => ?_) (fun hb => ?_)); (iterate 2 simp only [go_sem]); all_goals (simp only [go_sem] at hb; try simp only [bls] at hb)) | ((iterate 6 try ((fail_if_success with_reducible refine hK _ ?_ ?_ ?_); clear hK K)); with_reducible refine hK _ ?_ ?_ ?_; rotate_left; (focus (simp only [go_sem]; exact rfl)); clear hK K) | ((first | (with_reducible first | refine xA ?_ | refine xD ?_ | refine xO ?_ | refine xR ?_ | refine xG ?_ | refine xH ?_ | refine xM ?_) | ((with_reducible refine gA ?_); refine xA ?_) | ((with_reducible refine gD ?_); refine xD ?_) | ((with_reducible refine gG ?_); refine xG ?_)); simp only [go_sem]) | (with_reducible refine aGs (fun hg0 => ?_) (fun hg0 => ?_) <;> first | (with_reducible first | exact aF1 hg0 | exact aF2 hg0) | (simp only [hg0, go_sem])) | (with_reducible refine aNk ?_; intro bnil hnil; try simp only []) | exact aZ | fail))
     all_goals first | omega | rfl | skip
    | false =>
     rw [if_neg (by decide)] at hE
     subst hE
     rw [if_pos rfl]
     have hlen' := hlen rfl
     by_cases hk : x.kind ≤ 2
     ·have hm := machine_c E x (hmf rfl hk hok' rfl (by decide))
      rw [if_pos hk] at hbl
      rw [hbl] at hlen' ⊢
      have hs := String_u (machS E x) (machS_ne E x)
      have hl := Len_u (machS E x) (by omega)
      have hkt : decide (x.kind ≤ 2) = true := decide_eq_true hk
      generalize machS E x = M at *
      simp only [bldU, bldN, bldR, show strRows [] = [] from rfl, It.d] at hm hs hl
      (refine ACalls.of_body Ty_ok mixed Tryz.func31 rfl (by kernel_rfl) Tryz.ntmps31 (by simp) (congrArg Array.toList Tryz.results31) ?_)
      simp only [slotsOf, It.d]
      (repeat' (first | (with_reducible first | exact True.intro | refine And.intro ?_ ?_ | refine aBl ?_ | (refine aS 10 [] ?_; intro K hK)) | ((with_reducible first | refine aGo ?_); simp only [hkt, go_sem]) | ((with_reducible refine aCd ?_ ?_ (fun hb => ?_) (fun hb => ?_)); (iterate 2 simp only [hkt, go_sem]); all_goals (simp only [hkt, go_sem] at hb; try simp only [bls] at hb)) | ((iterate 6 try ((fail_if_success with_reducible refine hK _ ?_ ?_ ?_); clear hK K)); with_reducible refine hK _ ?_ ?_ ?_; rotate_left; (focus (simp only [hkt, go_sem]; exact rfl)); clear hK K) | ((first | (with_reducible first | refine xA ?_ | refine xD ?_ | refine xO ?_ | refine xR ?_ | refine xG ?_ | refine xH ?_ | refine xM ?_) | ((with_reducible refine gA ?_); refine xA ?_) | ((with_reducible refine gD ?_); refine xD ?_) | ((with_reducible refine gG ?_); refine xG ?_)); simp only [hkt, go_sem]) | (with_reducible refine aGs (fun hg0 => ?_) (fun hg0 => ?_) <;> first | (with_reducible first | exact aF1 hg0 | exact aF2 hg0) | (simp only [hg0, hkt, go_sem])) | (with_reducible refine aNk ?_; intro bnil hnil; try simp only []) | exact aZ | fail))
      all_goals first | omega | skip
      (refine MCallAt_T [.cell 3 1 5 1] [] [3, 4] (hm) ?_ ?_ ?_; (focus (simp only [go_sem]; done)); (focus (simp only [mside, handOk, go_sem]; (first | done | exact (by decide) | exact ⟨by decide, fun t ht => ht.elim⟩ | (refine ⟨by decide, ?_⟩; simp; done)))); simp only [go_sem])
      (repeat' (first | (with_reducible first | exact True.intro | refine And.intro ?_ ?_ | refine aBl ?_ | (refine aS 10 [] ?_; intro K hK)) | ((with_reducible first | refine aGo ?_); simp only [go_sem]) | ((with_reducible refine aCd ?_ ?_ (fun hb => ?_) (fun hb => ?_)); (iterate 2 simp only [go_sem]); all_goals (simp only [go_sem] at hb; try simp only [bls] at hb)) | ((iterate 6 try ((fail_if_success with_reducible refine hK _ ?_ ?_ ?_); clear hK K)); with_reducible refine hK _ ?_ ?_ ?_; rotate_left; (focus (simp only [go_sem]; exact rfl)); clear hK K) | (with_reducible refine aGs (fun hg0 => ?_) (fun hg0 => ?_) <;> first | (with_reducible first | exact aF1 hg0 | exact aF2 hg0) | (simp only [hg0, go_sem])) | (with_reducible refine aNk ?_; intro bnil hnil; try simp only []) | exact aZ | fail))
      all_goals first | omega | skip
      (refine MCallAt_i [] [3, 4] (hl) ?_ ?_; (focus (simp only [mside, handOk, go_sem]; (first | done | exact (by decide) | exact ⟨by decide, fun t ht => ht.elim⟩ | (refine ⟨by decide, ?_⟩; simp; done)))); simp only [go_sem])
      (repeat' (first | (with_reducible first | exact True.intro | refine And.intro ?_ ?_ | refine aBl ?_ | (refine aS 10 [] ?_; intro K hK)) | ((with_reducible first | refine aGo ?_); simp only [go_sem]) | ((with_reducible refine aCd ?_ ?_ (fun hb => ?_) (fun hb => ?_)); (iterate 2 simp only [go_sem]); all_goals (simp only [go_sem] at hb; try simp only [bls] at hb)) | ((iterate 6 try ((fail_if_success with_reducible refine hK _ ?_ ?_ ?_); clear hK K)); with_reducible refine hK _ ?_ ?_ ?_; rotate_left; (focus (simp only [go_sem]; exact rfl)); clear hK K) | (with_reducible refine aGs (fun hg0 => ?_) (fun hg0 => ?_) <;> first | (with_reducible first | exact aF1 hg0 | exact aF2 hg0) | (simp only [hg0, go_sem])) | (with_reducible refine aNk ?_; intro bnil hnil; try simp only []) | exact aZ | fail))
      all_goals first | omega | skip
      (refine MCallAt_i [] [3, 4] (hs) ?_ ?_; (focus (simp only [mside, handOk, go_sem]; (first | done | exact (by decide) | exact ⟨by decide, fun t ht => ht.elim⟩ | (refine ⟨by decide, ?_⟩; simp; done)))); simp only [go_sem])
      (repeat' (first | (with_reducible first | exact True.intro | refine And.intro ?_ ?_ | refine aBl ?_ | (refine aS 10 [] ?_; intro K hK)) | ((with_reducible first | refine aGo ?_); simp only [go_sem]) | ((with_reducible refine aCd ?_ ?_ (fun hb => ?_) (fun hb => ?_)); (iterate 2 simp only [go_sem]); all_goals (simp only [go_sem] at hb; try simp only [bls] at hb)) | ((iterate 6 try ((fail_if_success with_reducible refine hK _ ?_ ?_ ?_); clear hK K)); with_reducible refine hK _ ?_ ?_ ?_; rotate_left; (focus (simp only [go_sem]; exact rfl)); clear hK K) | (with_reducible refine aGs (fun hg0 => ?_) (fun hg0 => ?_) <;> first | (with_reducible first | exact aF1 hg0 | exact aF2 hg0) | (simp only [hg0, go_sem])) | (with_reducible refine aNk ?_; intro bnil hnil; try simp only []) | exact aZ | fail))
      all_goals first | omega | rfl | skip
     ·rw [if_neg hk] at hbl
      rw [hbl] at hlen' ⊢
      have hw := WriteString_n (condS x) (by omega)
      have hs := String_u (condS x) (condS_ne x)
      have hl := Len_u (condS x) (by omega)
      have hkt : decide (x.kind ≤ 2) = false := decide_eq_false hk
      generalize condS x = M at *
      simp only [bldU, bldN, bldR, show strRows [] = [] from rfl, It.d] at hw hs hl
      (refine ACalls.of_body Ty_ok mixed Tryz.func31 rfl (by kernel_rfl) Tryz.ntmps31 (by simp) (congrArg Array.toList Tryz.results31) ?_)
      simp only [slotsOf, It.d]
      (repeat' (first | (with_reducible first | exact True.intro | refine And.intro ?_ ?_ | refine aBl ?_ | (refine aS 10 [] ?_; intro K hK)) | ((with_reducible first | refine aGo ?_); simp only [hkt, go_sem]) | ((with_reducible refine aCd ?_ ?_ (fun hb => ?_) (fun hb => ?_)); (iterate 2 simp only [hkt, go_sem]); all_goals (simp only [hkt, go_sem] at hb; try simp only [bls] at hb)) | ((iterate 6 try ((fail_if_success with_reducible refine hK _ ?_ ?_ ?_); clear hK K)); with_reducible refine hK _ ?_ ?_ ?_; rotate_left; (focus (simp only [hkt, go_sem]; exact rfl)); clear hK K) | ((first | (with_reducible first | refine xA ?_ | refine xD ?_ | refine xO ?_ | refine xR ?_ | refine xG ?_ | refine xH ?_ | refine xM ?_) | ((with_reducible refine gA ?_); refine xA ?_) | ((with_reducible refine gD ?_); refine xD ?_) | ((with_reducible refine gG ?_); refine xG ?_)); simp only [hkt, go_sem]) | (with_reducible refine aGs (fun hg0 => ?_) (fun hg0 => ?_) <;> first | (with_reducible first | exact aF1 hg0 | exact aF2 hg0) | (simp only [hg0, hkt, go_sem])) | (with_reducible refine aNk ?_; intro bnil hnil; try simp only []) | exact aZ | fail))
      all_goals first | omega | skip
      (refine MCallAt_T [.cell 3 1 5 1] [] [3, 4] (hw) ?_ ?_ ?_; (focus (simp only [go_sem]; done)); (focus (simp only [mside, handOk, go_sem]; (first | done | exact (by decide) | exact ⟨by decide, fun t ht => ht.elim⟩ | (refine ⟨by decide, ?_⟩; simp; done)))); simp only [go_sem])
      (repeat' (first | (with_reducible first | exact True.intro | refine And.intro ?_ ?_ | refine aBl ?_ | (refine aS 10 [] ?_; intro K hK)) | ((with_reducible first | refine aGo ?_); simp only [go_sem]) | ((with_reducible refine aCd ?_ ?_ (fun hb => ?_) (fun hb => ?_)); (iterate 2 simp only [go_sem]); all_goals (simp only [go_sem] at hb; try simp only [bls] at hb)) | ((iterate 6 try ((fail_if_success with_reducible refine hK _ ?_ ?_ ?_); clear hK K)); with_reducible refine hK _ ?_ ?_ ?_; rotate_left; (focus (simp only [go_sem]; exact rfl)); clear hK K) | (with_reducible refine aGs (fun hg0 => ?_) (fun hg0 => ?_) <;> first | (with_reducible first | exact aF1 hg0 | exact aF2 hg0) | (simp only [hg0, go_sem])) | (with_reducible refine aNk ?_; intro bnil hnil; try simp only []) | exact aZ | fail))
      all_goals first | omega | skip
      (refine MCallAt_i [] [3, 4] (hl) ?_ ?_; (focus (simp only [mside, handOk, go_sem]; (first | done | exact (by decide) | exact ⟨by decide, fun t ht => ht.elim⟩ | (refine ⟨by decide, ?_⟩; simp; done)))); simp only [go_sem])
      (repeat' (first | (with_reducible first | exact True.intro | refine And.intro ?_ ?_ | refine aBl ?_ | (refine aS 10 [] ?_; intro K hK)) | ((with_reducible first | refine aGo ?_); simp only [go_sem]) | ((with_reducible refine aCd ?_ ?_ (fun hb => ?_) (fun hb => ?_)); (iterate 2 simp only [go_sem]); all_goals (simp only [go_sem] at hb; try simp only [bls] at hb)) | ((iterate 6 try ((fail_if_success with_reducible refine hK _ ?_ ?_ ?_); clear hK K)); with_reducible refine hK _ ?_ ?_ ?_; rotate_left; (focus (simp only [go_sem]; exact rfl)); clear hK K) | (with_reducible refine aGs (fun hg0 => ?_) (fun hg0 => ?_) <;> first | (with_reducible first | exact aF1 hg0 | exact aF2 hg0) | (simp only [hg0, go_sem])) | (with_reducible refine aNk ?_; intro bnil hnil; try simp only []) | exact aZ | fail))
      all_goals first | omega | skip
      (refine MCallAt_i [] [3, 4] (hs) ?_ ?_; (focus (simp only [mside, handOk, go_sem]; (first | done | exact (by decide) | exact ⟨by decide, fun t ht => ht.elim⟩ | (refine ⟨by decide, ?_⟩; simp; done)))); simp only [go_sem])
      (repeat' (first | (with_reducible first | exact True.intro | refine And.intro ?_ ?_ | refine aBl ?_ | (refine aS 10 [] ?_; intro K hK)) | ((with_reducible first | refine aGo ?_); simp only [go_sem]) | ((with_reducible refine aCd ?_ ?_ (fun hb => ?_) (fun hb => ?_)); (iterate 2 simp only [go_sem]); all_goals (simp only [go_sem] at hb; try simp only [bls] at hb)) | ((iterate 6 try ((fail_if_success with_reducible refine hK _ ?_ ?_ ?_); clear hK K)); with_reducible refine hK _ ?_ ?_ ?_; rotate_left; (focus (simp only [go_sem]; exact rfl)); clear hK K) | (with_reducible refine aGs (fun hg0 => ?_) (fun hg0 => ?_) <;> first | (with_reducible first | exact aF1 hg0 | exact aF2 hg0) | (simp only [hg0, go_sem])) | (with_reducible refine aNk ?_; intro bnil hnil; try simp only []) | exact aZ | fail))
      all_goals first | omega | rfl | skip
   ·rw [if_pos h3] at hE
    subst hE
    rw [if_neg h3]
    have hne : (e == 0) = false := by simpa using h3
    (refine ACalls.of_body Ty_ok mixed Tryz.func31 rfl (by kernel_rfl) Tryz.ntmps31 (by simp) (congrArg Array.toList Tryz.results31) ?_)
    simp only [slotsOf, It.d]
    (repeat' (first | (with_reducible first | exact True.intro | refine And.intro ?_ ?_ | refine aBl ?_ | (refine aS 10 [] ?_; intro K hK)) | ((with_reducible first | refine aGo ?_); simp only [hne, go_sem]) | ((with_reducible refine aCd ?_ ?_ (fun hb => ?_) (fun hb => ?_)); (iterate 2 simp only [hne, go_sem]); all_goals (simp only [hne, go_sem] at hb; try simp only [bls] at hb)) | ((iterate 6 try ((fail_if_success with_reducible refine hK _ ?_ ?_ ?_); clear hK K)); with_reducible refine hK _ ?_ ?_ ?_; rotate_left; (focus (simp only [hne, go_sem]; exact rfl)); clear hK K) | ((first | (with_reducible first | refine xA ?_ | refine xD ?_ | refine xO ?_ | refine xR ?_ | refine xG ?_ | refine xH ?_ | refine xM ?_) | ((with_reducible refine gA ?_); refine xA ?_) | ((with_reducible refine gD ?_); refine xD ?_) | ((with_reducible refine gG ?_); refine xG ?_)); simp only [hne, go_sem]) | (with_reducible refine aGs (fun hg0 => ?_) (fun hg0 => ?_) <;> first | (with_reducible first | exact aF1 hg0 | exact aF2 hg0) | (simp only [hg0, hne, go_sem])) | (with_reducible refine aNk ?_; intro bnil hnil; try simp only []) | exact aZ | fail))
    all_goals first | omega | rfl | skip
  ·rw [if_pos h2] at hE
   subst hE
   rw [if_neg h2]
   have hne : (e == 0) = false := by simpa using h2
   (refine ACalls.of_body Ty_ok mixed Tryz.func31 rfl (by kernel_rfl) Tryz.ntmps31 (by simp) (congrArg Array.toList Tryz.results31) ?_)
   simp only [slotsOf, It.d]
   (repeat' (first | (with_reducible first | exact True.intro | refine And.intro ?_ ?_ | refine aBl ?_ | (refine aS 10 [] ?_; intro K hK)) | ((with_reducible first | refine aGo ?_); simp only [hne, go_sem]) | ((with_reducible refine aCd ?_ ?_ (fun hb => ?_) (fun hb => ?_)); (iterate 2 simp only [hne, go_sem]); all_goals (simp only [hne, go_sem] at hb; try simp only [bls] at hb)) | ((iterate 6 try ((fail_if_success with_reducible refine hK _ ?_ ?_ ?_); clear hK K)); with_reducible refine hK _ ?_ ?_ ?_; rotate_left; (focus (simp only [hne, go_sem]; exact rfl)); clear hK K) | ((first | (with_reducible first | refine xA ?_ | refine xD ?_ | refine xO ?_ | refine xR ?_ | refine xG ?_ | refine xH ?_ | refine xM ?_) | ((with_reducible refine gA ?_); refine xA ?_) | ((with_reducible refine gD ?_); refine xD ?_) | ((with_reducible refine gG ?_); refine xG ?_)); simp only [hne, go_sem]) | (with_reducible refine aGs (fun hg0 => ?_) (fun hg0 => ?_) <;> first | (with_reducible first | exact aF1 hg0 | exact aF2 hg0) | (simp only [hg0, hne, go_sem])) | (with_reducible refine aNk ?_; intro bnil hnil; try simp only []) | exact aZ | fail))
   all_goals first | omega | rfl | skip
 ·rw [if_pos h1] at hE
  subst hE
  rw [if_neg h1]
  have hne : (e == 0) = false := by simpa using h1
  (refine ACalls.of_body Ty_ok mixed Tryz.func31 rfl (by kernel_rfl) Tryz.ntmps31 (by simp) (congrArg Array.toList Tryz.results31) ?_)
  simp only [slotsOf, It.d]
  (repeat' (first | (with_reducible first | exact True.intro | refine And.intro ?_ ?_ | refine aBl ?_ | (refine aS 10 [] ?_; intro K hK)) | ((with_reducible first | refine aGo ?_); simp only [hne, go_sem]) | ((with_reducible refine aCd ?_ ?_ (fun hb => ?_) (fun hb => ?_)); (iterate 2 simp only [hne, go_sem]); all_goals (simp only [hne, go_sem] at hb; try simp only [bls] at hb)) | ((iterate 6 try ((fail_if_success with_reducible refine hK _ ?_ ?_ ?_); clear hK K)); with_reducible refine hK _ ?_ ?_ ?_; rotate_left; (focus (simp only [hne, go_sem]; exact rfl)); clear hK K) | ((first | (with_reducible first | refine xA ?_ | refine xD ?_ | refine xO ?_ | refine xR ?_ | refine xG ?_ | refine xH ?_ | refine xM ?_) | ((with_reducible refine gA ?_); refine xA ?_) | ((with_reducible refine gD ?_); refine xD ?_) | ((with_reducible refine gG ?_); refine xG ?_)); simp only [hne, go_sem]) | (with_reducible refine aGs (fun hg0 => ?_) (fun hg0 => ?_) <;> first | (with_reducible first | exact aF1 hg0 | exact aF2 hg0) | (simp only [hg0, hne, go_sem])) | (with_reducible refine aNk ?_; intro bnil hnil; try simp only []) | exact aZ | fail))
  all_goals first | omega | rfl | skip
end Go.Proofs.YtkjnjkdcpbgabaaGreatDoor
