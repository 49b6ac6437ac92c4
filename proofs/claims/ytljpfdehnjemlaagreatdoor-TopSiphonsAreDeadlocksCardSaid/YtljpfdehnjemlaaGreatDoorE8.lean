/-
 The abstract machine over data, part 8: a result that is a struct whose first field is a slice of the call's own.
-/
import Derived.Test.YtljpfdehnjemlaaGreatDoorE3
set_option linter.unusedSimpArgs false
set_option linter.unusedVariables false
namespace Go.Eng
open Go.RowKit
section
variable {P : Program} {T : Tab} {w : World} {M0 : Nat → Prop} {σ : AState} {a : Act}
def retA (rs : List ResultVar) (r : AV) (o : AObj) : APost := fun e σ =>
 match e with
 | .ret | .normal => match rs with
  | [.tmp t] => match lookS σ.slots t with
   | some (.agg (.own k :: ds)) => (ds.map (D.bor σ.H)).all D.flatOwn = true ∧ (ds.map (D.bor σ.H)).any D.tagged = false ∧ .agg (.own 0 :: ds.map (D.bor σ.H)) = r ∧ σ.H[k]? = some o ∧ isRow o = true
   | _ => False
  | _ => False
 | _ => False
def retC (T : Tab) (rs : List ResultVar) (r : AV) (o : AObj) : APost := fun e σ =>
 match e with
 | .ret | .normal => match rs with
  | [x] => (resW T σ x).1 ∧ (match (resW T σ x).2 with
   | .agg (.own k :: ds) => (ds.map (D.bor σ.H)).all D.flatOwn = true ∧ (ds.map (D.bor σ.H)).any D.tagged = false ∧ .agg (.own 0 :: ds.map (D.bor σ.H)) = r ∧ σ.H[k]? = some o ∧ isRow o = true
   | _ => False)
  | _ => False
 | _ => False
def retB (rs : List ResultVar) (r : AV) (o1 o2 : AObj) : APost := fun e σ =>
 match e with
 | .ret | .normal => match rs with
  | [.tmp t] => match lookS σ.slots t with
   | some (.agg [.own k, .own j]) => k ≠ j ∧ .agg [.own 0, .own 1] = r ∧ σ.H[k]? = some o1 ∧ isRow o1 = true ∧ σ.H[j]? = some o2 ∧ isRow o2 = true
   | _ => False
  | _ => False
 | _ => False
def retBC (T : Tab) (rs : List ResultVar) (r : AV) (o1 o2 : AObj) : APost := fun e σ =>
 match e with
 | .ret | .normal => match rs with
  | [x] => (resW T σ x).1 ∧ (match (resW T σ x).2 with
   | .agg [.own k, .own j] => k ≠ j ∧ .agg [.own 0, .own 1] = r ∧ σ.H[k]? = some o1 ∧ isRow o1 = true ∧ σ.H[j]? = some o2 ∧ isRow o2 = true
   | _ => False)
  | _ => False
 | _ => False
theorem retBC_sound (hT : TabOk P T) {fn : Func} {r : AV} {o1 o2 : AObj} (e : Exit) (σ : AState) (a : Act) (w1 : World) (hs : SimS w M0 [] σ a w1) (hq : retBC T fn.results.toList r o1 o2 e σ) : bodyPost P fn (fun e w' => ∃ v β, e = .returned v ∧ Res w w' M0 r [o1, o2] v β) e a w1 := by
 obtain ⟨β, hs⟩ := hs
 have main : (match fn.results.toList with
  | [x] => (resW T σ x).1 ∧ (match (resW T σ x).2 with
   | .agg [.own k, .own j] => k ≠ j ∧ .agg [.own 0, .own 1] = r ∧ σ.H[k]? = some o1 ∧ isRow o1 = true ∧ σ.H[j]? = some o2 ∧ isRow o2 = true
   | _ => False)
  | _ => False) → a.defers = [] ∧ ∃ v, (results fn a.tmps).run P w1 = .ok v w1 ∧ ∃ v' β, Ending.returned v = .returned v' ∧ Res w w1 M0 r [o1, o2] v' β := by
  intro hq
  refine ⟨hs.defers, ?_⟩
  split at hq
  ·rename_i x hx
   obtain ⟨hx1, hq⟩ := hq
   obtain ⟨u, hru, hv⟩ := resW_run (P := P) hT hs hx1
   split at hq
   ·rename_i k j hl
    obtain ⟨hkj, rfl, hH, hp, hH2, hp2⟩ := hq
    rw [hl] at hv
    have hres := results_run (P := P) (w1 := w1) hx (tmps := a.tmps) (us := [u]) rfl (fun i x' u' hx' hu => by cases i <;> simp_all)
    obtain ⟨vs, rfl, hlen, hcs⟩ := hv
    obtain ⟨y, z, rfl⟩ : ∃ y z, vs = [y, z] := by
     match vs, hlen with
     | [y, z], _ => exact ⟨y, z, rfl⟩
    have hc0 : RepC0 w1 (Mof M0 β) β (.own k) y := hcs 0 (.own k) y rfl rfl
    have hc1 : RepC0 w1 (Mof M0 β) β (.own j) z := hcs 1 (.own j) z rfl rfl
    have hone := hc0.2
    have hone1 := hc1.2
    have hpl : o1.plain = true := by cases o1 <;> first | rfl | cases hp
    have hpl2 : o2.plain = true := by cases o2 <;> first | rfl | cases hp2
    have hβ : β[k]? = some y := by
     cases o1 with
     | row e sz rows => exact own_live hc0 fun z hz => hs.objs k _ z hH hz
     | _ => cases hp
    have hβ2 : β[j]? = some z := by
     cases o2 with
     | row e sz rows => exact own_live hc1 fun z hz => hs.objs j _ z hH2 hz
     | _ => cases hp2
    have hown : ∀ g, owned [y, z] g → owned β g := by
     rintro g ⟨t', u, h1, h2⟩
     match t', h1 with
     | 0, h1 => simp at h1; subst h1; exact ⟨k, _, hβ, h2⟩
     | 1, h1 => simp at h1; subst h1; exact ⟨j, _, hβ2, h2⟩
    have hkeep : Keeps w1 (Mof M0 β) w1 (Mof M0 [y, z]) := ⟨Nat.le_refl _, fun _ _ _ => rfl, fun g _ hm hm' => hm (by rcases hm' with hm' | hm'; exact .inl hm'; exact .inr (hown g hm'))⟩
    refine ⟨_, hres, _, [y, z], rfl, ?_⟩
    refine ⟨hs.below.below fun _ => owned_nil, rfl, fun t' p u hp' hz => ?_, fun g hg => ⟨(hs.fresh g (hown g hg)).1.resolve_left owned_nil, (hs.fresh g (hown g hg)).2⟩, fun t1 t2 y1 y2 g h1 h2 h3 h4 => ?_, ?_⟩
    ·match t', hp', hz with
     | 0, hp', hz =>
      simp at hp' hz
      subst hp'; subst hz
      exact (hs.objs k _ _ hH hβ).plainMove hkeep hpl
     | 1, hp', hz =>
      simp at hp' hz
      subst hp'; subst hz
      exact (hs.objs j _ _ hH2 hβ2).plainMove hkeep hpl2
    ·match t1, t2, h1, h2 with
     | 0, 0, _, _ => rfl
     | 1, 1, _, _ => rfl
     | 0, 1, h1, h2 =>
      simp at h1 h2; subst h1; subst h2
      exact absurd (hs.dist k j _ _ g hβ hβ2 h3 h4) hkj
     | 1, 0, h1, h2 =>
      simp at h1 h2; subst h1; subst h2
      exact absurd (hs.dist j k _ _ g hβ2 hβ h3 h4).symm hkj
    ·refine ⟨[y, z], rfl, rfl, fun i d u hd hu => ?_⟩
     match i, hd, hu with
     | 0, hd, hu => simp at hd hu; subst hd; subst hu; exact ⟨.inl rfl, hone⟩
     | 1, hd, hu => simp at hd hu; subst hd; subst hu; exact ⟨.inl rfl, hone1⟩
   ·exact hq.elim
  ·exact hq.elim
 cases e <;> simp only [retBC] at hq <;> first | exact hq.elim | exact main hq
theorem ACalls.of_body_twoC (hT : TabOk P T) (hm : P.follows .mixedOrders = true) {f : FuncId} {fn : Func} {c : Code} {args : List AV} {r : AV} {o1 o2 : AObj} (hf : P.funcs[f]? = some fn) (hb : fn.body = some c) (hok : okFn P f = true) {n : Nat} (hnt : fn.ntmps = n) (hn : args.length ≤ n) {rs : List ResultVar} (hrs : fn.results.toList = rs)
  (h : awp P T c ⟨n, slotsOf 0 args, [], 0⟩ (retBC T rs r o1 o2)) : ACalls P f args r [o1, o2] := by
 subst hnt; subst hrs
 refine ⟨hok, fun w M vs hM hv => calls_of_wp hf hb ?_⟩
 refine wp_mono (awp_sound hT hm c _ _ _ _ (enter_sim hM hv hn) h) ?_
 rintro e a' w' ⟨σ, hq, hs⟩
 exact retBC_sound hT e σ a' w' hs hq
def retZ (ts : List Nat) (T : Tab) (rs : List ResultVar) (r : AV) : APost := fun e σ => retF T rs r e (AState.freezeAll ts σ)
theorem ACalls.of_body_fz (ts : List Nat) (hT : TabOk P T) (hm : P.follows .mixedOrders = true) {f : FuncId} {fn : Func} {c : Code} {args : List AV} {r : AV} (hf : P.funcs[f]? = some fn) (hb : fn.body = some c) (hok : okFn P f = true) {n : Nat} (hnt : fn.ntmps = n) (hn : args.length ≤ n) {rs : List ResultVar} (hrs : fn.results.toList = rs)
  (h : awp P T c ⟨n, slotsOf 0 args, [], 0⟩ (retZ ts T rs r)) : ACalls P f args r [] := by
 subst hnt; subst hrs
 refine ⟨hok, fun w M vs hM hv => calls_of_wp hf hb ?_⟩
 refine wp_mono (awp_sound hT hm c _ _ _ _ (enter_sim hM hv hn) h) ?_
 rintro e a' w' ⟨σ, hq, hs⟩
 obtain ⟨β, hs⟩ := hs
 obtain ⟨β', hs'⟩ := Sim.freezeAll ts σ β hs
 exact retF_sound hT e _ a' w' ⟨β', hs'⟩ hq
end
attribute [go_sem] retA retB retC retBC retZ
end Go.Eng
