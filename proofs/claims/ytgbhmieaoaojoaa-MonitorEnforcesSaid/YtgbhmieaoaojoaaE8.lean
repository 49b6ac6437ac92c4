/-
 The abstract machine over data, part 8: a result that is a struct whose first field is a slice of the call's own.
-/
import Derived.Test.YtgbhmieaoaojoaaE3
set_option linter.unusedSimpArgs false
set_option linter.unusedVariables false
namespace Go.Eng
open Go.RowKit
section
variable {P : Program} {T : Tab} {w : World} {M0 : Nat → Prop} {σ : AState} {a : Act}
def retA (rs : List ResultVar) (r : AV) (o : AObj) : APost := fun e σ =>
 match e with
 | .ret | .normal => match rs with
  | [.tmp t] => match lookS σ.slots t with
   | some (.agg (.own k :: ds)) => (ds.map (D.bor σ.H)).all D.flatOwn = true ∧ (ds.map (D.bor σ.H)).any D.tagged = false ∧ .agg (.own 0 :: ds.map (D.bor σ.H)) = r ∧ σ.H[k]? = some o ∧ isRow o = true
   | _ => False
  | _ => False
 | _ => False
def retC (T : Tab) (rs : List ResultVar) (r : AV) (o : AObj) : APost := fun e σ =>
 match e with
 | .ret | .normal => match rs with
  | [x] => (resW T σ x).1 ∧ (match (resW T σ x).2 with
   | .agg (.own k :: ds) => (ds.map (D.bor σ.H)).all D.flatOwn = true ∧ (ds.map (D.bor σ.H)).any D.tagged = false ∧ .agg (.own 0 :: ds.map (D.bor σ.H)) = r ∧ σ.H[k]? = some o ∧ isRow o = true
   | _ => False)
  | _ => False
 | _ => False
theorem retC_sound (hT : TabOk P T) {fn : Func} {r : AV} {o : AObj} (e : Exit) (σ : AState) (a : Act) (w1 : World) (hs : SimS w M0 [] σ a w1) (hq : retC T fn.results.toList r o e σ) : bodyPost P fn (fun e w' => ∃ v β, e = .returned v ∧ Res w w' M0 r [o] v β) e a w1 := by
 obtain ⟨β, hs⟩ := hs
 have main : (match fn.results.toList with
  | [x] => (resW T σ x).1 ∧ (match (resW T σ x).2 with
   | .agg (.own k :: ds) => (ds.map (D.bor σ.H)).all D.flatOwn = true ∧ (ds.map (D.bor σ.H)).any D.tagged = false ∧ .agg (.own 0 :: ds.map (D.bor σ.H)) = r ∧ σ.H[k]? = some o ∧ isRow o = true
   | _ => False)
  | _ => False) → a.defers = [] ∧ ∃ v, (results fn a.tmps).run P w1 = .ok v w1 ∧ ∃ v' β, Ending.returned v = .returned v' ∧ Res w w1 M0 r [o] v' β := by
  intro hq
  refine ⟨hs.defers, ?_⟩
  split at hq
  ·rename_i x hx
   obtain ⟨hx1, hq⟩ := hq
   obtain ⟨u, hru, hv⟩ := resW_run (P := P) hT hs hx1
   split at hq
   ·rename_i k ds hl
    obtain ⟨hfl, htg, rfl, hH, hp⟩ := hq
    rw [hl] at hv
    have hres := results_run (P := P) (w1 := w1) hx (tmps := a.tmps) (us := [u]) rfl (fun i x' u' hx' hu => by cases i <;> simp_all)
    have hb := borV_sound hs.lend _ _ hv
    obtain ⟨vs, rfl, hlen, hcs⟩ := hv
    cases vs with
    | nil => simp at hlen
    | cons y ys =>
    have hc0 : RepC0 w1 (Mof M0 β) β (.own k) y := hcs 0 (.own k) y rfl rfl
    have hone := hc0.2
    have hpl : o.plain = true := by cases o <;> first | rfl | cases hp
    have hβ : β[k]? = some y := by
     cases o with
     | row e sz rows => exact own_live hc0 fun z hz => hs.objs k _ z hH hz
     | _ => cases hp
    have hown : ∀ g, owned [y] g → owned β g := by
     rintro g ⟨t', z, h1, h2⟩
     cases t' with
     | zero => simp at h1; subst h1; exact ⟨k, _, hβ, h2⟩
     | succ t' => simp at h1
    have hkeep : Keeps w1 (Mof M0 β) w1 (Mof M0 [y]) := ⟨Nat.le_refl _, fun _ _ _ => rfl, fun g _ hm hm' => hm (by rcases hm' with hm' | hm'; exact .inl hm'; exact .inr (hown g hm'))⟩
    refine ⟨_, hres, _, [y], rfl, ?_⟩
    refine ⟨hs.below.below fun _ => owned_nil, rfl, fun t' p z hp' hz => ?_, fun g hg => ⟨(hs.fresh g (hown g hg)).1.resolve_left owned_nil, (hs.fresh g (hown g hg)).2⟩, fun t1 t2 y1 y2 g h1 h2 _ _ => ?_, ?_⟩
    ·cases t' with
     | zero =>
      simp at hp' hz
      subst hp'; subst hz
      exact (hs.objs k _ _ hH hβ).plainMove hkeep hpl
     | succ t' => simp at hz
    ·have z1 : t1 = 0 := by cases t1 with | zero => rfl | succ n => simp at h1
     have z2 : t2 = 0 := by cases t2 with | zero => rfl | succ n => simp at h2
     rw [z1, z2]
    ·obtain ⟨vs', e1, e2, e3⟩ := hb
     cases e1
     have hflat : ∀ (d : D) (v : Value), RepC w1 M0 [] d v → d.flatOwn = true → d.tagged = false → RepC w1 (Mof M0 [y]) [y] d v := by
      intro d v h1 h2 h3
      cases d <;> first | (cases h2; done) | (cases h3; done) | skip
      all_goals (simp only [RepC, RepC0] at h1 ⊢; exact RepD.flat h1 rfl)
     simp only [List.all_eq_true] at hfl
     simp only [List.any_eq_false] at htg
     refine ⟨y :: ys, rfl, by simpa using hlen, fun i d u hd hu => ?_⟩
     cases i with
     | zero =>
      simp at hd hu
      subst hd; subst hu
      exact ⟨.inl rfl, hone⟩
     | succ i =>
      rw [List.getElem?_cons_succ] at hd hu
      exact hflat d u (e3 (i + 1) d u (by rw [List.map_cons, List.getElem?_cons_succ]; exact hd) (by rw [List.getElem?_cons_succ]; exact hu)) (hfl d (List.mem_of_getElem? hd)) (by simpa using htg d (List.mem_of_getElem? hd))
   ·exact hq.elim
  ·exact hq.elim
 cases e <;> simp only [retC] at hq <;> first | exact hq.elim | exact main hq
theorem ACalls.of_body_aggC (hT : TabOk P T) (hm : P.follows .mixedOrders = true) {f : FuncId} {fn : Func} {c : Code} {args : List AV} {r : AV} {o : AObj} (hf : P.funcs[f]? = some fn) (hb : fn.body = some c) (hok : okFn P f = true) {n : Nat} (hnt : fn.ntmps = n) (hn : args.length ≤ n) {rs : List ResultVar} (hrs : fn.results.toList = rs)
  (h : awp P T c ⟨n, slotsOf 0 args, [], 0⟩ (retC T rs r o)) : ACalls P f args r [o] := by
 subst hnt; subst hrs
 refine ⟨hok, fun w M vs hM hv => calls_of_wp hf hb ?_⟩
 refine wp_mono (awp_sound hT hm c _ _ _ _ (enter_sim hM hv hn) h) ?_
 rintro e a' w' ⟨σ, hq, hs⟩
 exact retC_sound hT e σ a' w' hs hq
def retB (rs : List ResultVar) (r : AV) (o1 o2 : AObj) : APost := fun e σ =>
 match e with
 | .ret | .normal => match rs with
  | [.tmp t] => match lookS σ.slots t with
   | some (.agg [.own k, .own j]) => k ≠ j ∧ .agg [.own 0, .own 1] = r ∧ σ.H[k]? = some o1 ∧ isRow o1 = true ∧ σ.H[j]? = some o2 ∧ isRow o2 = true
   | _ => False
  | _ => False
 | _ => False
def retBC (T : Tab) (rs : List ResultVar) (r : AV) (o1 o2 : AObj) : APost := fun e σ =>
 match e with
 | .ret | .normal => match rs with
  | [x] => (resW T σ x).1 ∧ (match (resW T σ x).2 with
   | .agg [.own k, .own j] => k ≠ j ∧ .agg [.own 0, .own 1] = r ∧ σ.H[k]? = some o1 ∧ isRow o1 = true ∧ σ.H[j]? = some o2 ∧ isRow o2 = true
   | _ => False)
  | _ => False
 | _ => False
end
attribute [go_sem] retA retB retC retBC
end Go.Eng
