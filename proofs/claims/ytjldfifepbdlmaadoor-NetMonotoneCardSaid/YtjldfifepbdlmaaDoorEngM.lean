/-
  The abstract machine: all operations, regions in the order of the text, code, contracts.
-/
import Derived.Test.YtjldfifepbdlmaaDoorEngL
set_option linter.unusedSimpArgs false
set_option linter.unusedVariables false
namespace Go.Eng
open Go.RowKit

def pickV (σ : AState) (c x y : Operand) : Prop × AV :=
  match σ.evs c, σ.evs x, σ.evs y with
  | .one (.bool b), .one (.bool bx), .one (.bool by') => ((σ.ev c).need ∧ (b = true → (σ.ev x).need) ∧ (b = false → (σ.ev y).need), .one (.bool (bif b then bx else by')))
  | _, _, _ => (False, .one .unk)
/-- whom a call calls, and with what -/
def callee (σ : AState) (fo : Operand) (args : List Operand) : Option (FuncId × List AV) :=
  match σ.evs fo with
  | .one (.clo f caps) => some (f, args.map σ.evs ++ caps.map AV.one)
  | _ => none
/-- whatever 'σ' tells of, 'σ1' tells of too -/
def Into (σ σ1 : AState) : Prop := ∀ (W0 : World) (M0 : Nat → Prop) (F : List Value) (a : Act) (w : World) (β : List Value), Sim W0 M0 F σ a w β → ∃ β', Sim W0 M0 F σ1 a w β'
structure CallAt (P : Program) (f : FuncId) (as as' : List AV) (nd : Prop) (fo : Operand) (args : List Operand) (d : Nat) (σ : AState) (K : AState → Prop) : Prop where
  out :
  (∃ r Hn, ((nd ∧ d < σ.n) ∧ ACalls P f as' r Hn ∧ callSafe as r Hn) ∧ K (AState.put { n := σ.n, slots := σ.slots, H := σ.H ++ Hn, pin := σ.pin } d (r.shift σ.H.length))) ∨
  ∃ (σ1 : AState) (ts : List Nat) (p : Nat) (f' : FuncId) (as1 : List AV) (r : AV) (Hout : List AObj), Into σ σ1 ∧ (callee σ1 fo args = some (f', as1) ∧ needs σ1 (fo :: args) ∧ d < σ1.n ∧ handOk σ1 ts p) ∧
    MCalls P f' p (handIn ts σ1.H) (as1.map (AV.ren (idxIn ts))) r Hout ∧ K ((σ1.handed ts p Hout).put d (r.ren (nthT ts)))
structure GCallAt (P : Program) (g : Bool) (f : FuncId) (as as' : List AV) (nd : Prop) (fo : Operand) (args : List Operand) (d : Nat) (σ : AState) (K : AState → Prop) : Prop where
  out :
  (∃ r, (d < σ.n ∧ (g = true → nd ∧ ACalls P f as' r [] ∧ callSafe as r [])) ∧ K (σ.put d (.cond g (r.shift σ.H.length)))) ∨
  ((g = true → CallAt P f as as' nd fo args d σ K) ∧ (g = false → ∃ v, d < σ.n ∧ K (σ.put d (.cond false v))))
structure DGCallAt (P : Program) (g : Bool) (f : FuncId) (as as' : List AV) (nd : Prop) (d : Nat) (σ : AState) (K : AState → Prop) : Prop where
  out :
  ∃ r, (d < σ.n ∧ (g = true → nd ∧ ACalls P f as' r [] ∧ callSafe as r [])) ∧ K (σ.put d (.cond g (r.shift σ.H.length)))
structure DCallAt (P : Program) (f : FuncId) (as as' : List AV) (nd : Prop) (d : Nat) (σ : AState) (K : AState → Prop) : Prop where
  out :
  ∃ r, (d < σ.n ∧ nd ∧ ACalls P f as' r [] ∧ callSafe as r []) ∧ K (σ.put d (r.shift σ.H.length))
def cstep (P : Program) (fo : Operand) (args : List Operand) (d : Nat) (σ : AState) (K : AState → Prop) : Prop :=
  match callee σ fo args with
  | some (f, as) => CallAt P f as (as.map (AV.bor σ.H)) (needs σ (fo :: args)) fo args d σ K
  | none => False
def gcstep (P : Program) (g : Bool) (fo : Operand) (args : List Operand) (d : Nat) (σ : AState) (K : AState → Prop) : Prop :=
  match callee σ fo args with
  | some (f, as) => GCallAt P g f as (as.map (AV.bor σ.H)) (needs σ (fo :: args)) fo args d σ K
  | none => False
def nstep (T : Tab) (op : Op) (d : Nat) (σ : AState) (K : AState → Prop) : Prop :=
  (needs σ op.operands.toList ∧ d < σ.n ∧ (aval T σ.H op σ.evs).1) ∧ K (σ.put d (aval T σ.H op σ.evs).2)
def gnstep (T : Tab) (g : Bool) (op : Op) (d : Nat) (σ : AState) (K : AState → Prop) : Prop :=
  (d < σ.n ∧ (g = true → needs σ op.operands.toList ∧ (aval T σ.H op σ.evs).1)) ∧ K (σ.put d (.cond g (aval T σ.H op σ.evs).2))
def pstep (c x y : Operand) (d : Nat) (σ : AState) (K : AState → Prop) : Prop := (d < σ.n ∧ (pickV σ c x y).1) ∧ K (σ.put d (pickV σ c x y).2)
def gpstep (g : Bool) (c x y : Operand) (d : Nat) (σ : AState) (K : AState → Prop) : Prop := (d < σ.n ∧ (g = true → (pickV σ c x y).1)) ∧ K (σ.put d (.cond g (pickV σ c x y).2))
def aop1 (P : Program) (T : Tab) (o : Oper) (σ : AState) (K : AState → Prop) : Prop :=
  match o.dst with
  | none => match o.op with
    | .store t ad v => tStore T t ad v σ K
    | .mapUpdate t m k v => tUpdate T t m k v σ K
    | .insert t m k v => tUpdate T t m k v σ K
    | _ => False
  | some d => match o.op with
    | .alloc e => tAlloc T e d σ K
    | .box e x => tBox e x d σ K
    | .buildSlice t len parts => tBuildSlice T t len parts.toList d σ K
    | .makeSlice t l c => tMake T t l c d σ K
    | .makeMap t none => tMakeMap T t d σ K
    | .assign (.const (.slice none 0 0)) => tNil T o.type d σ K
    | .pick c x y => pstep c x y d σ K
    | .binOp .eql t x (.const (.slice none 0 0)) _ => tNilCmp T t true x d σ K
    | .binOp .neq t x (.const (.slice none 0 0)) _ => tNilCmp T t false x d σ K
    | .call c => match c.callee with
      | .value fo => cstep P fo c.args.toList d σ K
      | .builtin .append => match c.args.toList, c.argTypes.toList with
        | [s, x], [t, t'] => t = t' ∧ tAppend T s x t d σ K
        | _, _ => False
      | .builtin .len => nstep T o.op d σ K
      | .builtin .max => nstep T o.op d σ K
      | .builtin .min => nstep T o.op d σ K
      | _ => False
    | op => nstep T op d σ K
def aopG (P : Program) (T : Tab) (g : Bool) (o : Oper) (σ : AState) (K : AState → Prop) : Prop :=
  match o.dst with
  | none => False
  | some d => match o.op with
    | .pick c x y => gpstep g c x y d σ K
    | .call c => match c.callee with
      | .value fo => gcstep P g fo c.args.toList d σ K
      | .builtin .len => gnstep T g o.op d σ K
      | .builtin .max => gnstep T g o.op d σ K
      | .builtin .min => gnstep T g o.op d σ K
      | _ => False
    | op => gnstep T g op d σ K
def guardAV (ops : Array Oper) (σ : AState) (j : Nat) : AV := (((ops[j]?).bind (·.dst)).bind (lookS σ.slots)).getD .any
/-- an operation that makes or turns an object: the cases of its guard are parted -/
def isSplit : Op → Bool
  | .buildSlice _ 0 _ => true
  | .alloc _ => true
  | .box .. => true
  | .makeSlice .. => true
  | .makeMap .. => true
  | .call c => match c.callee with | .builtin .append => true | _ => false
  | _ => false
def gsplit (P : Program) (T : Tab) (g : Bool) (o : Oper) (σ : AState) (K : AState → Prop) : Prop :=
  (g = true → aop1 P T o σ K) ∧ (g = false → match o.dst with | some d => d < σ.n ∧ K (σ.put d (.cond false .any)) | none => False)
def aop (P : Program) (T : Tab) (ops : Array Oper) (o : Oper) (σ : AState) (K : AState → Prop) : Prop :=
  match o.guard with
  | none => aop1 P T o σ K
  | some (j, want) => (guardAV ops σ j).isB = true ∧ (if isSplit o.op = true then gsplit P T ((guardAV ops σ j).says want) o σ K else aopG P T ((guardAV ops σ j).says want) o σ K)
def aops (P : Program) (T : Tab) (ops : Array Oper) : List Oper → AState → (AState → Prop) → Prop
  | [], σ, K => K σ
  | o :: rest, σ, K => aop P T ops o σ fun σ' => aops P T ops rest σ' K

section
variable {P : Program} {T : Tab} {W0 w : World} {M0 : Nat → Prop} {F : List Value} {σ : AState} {a : Act} {β : List Value} {Kc : Act → World → Prop} {Q : Exit → Act → World → Prop} {K : AState → Prop}
theorem says_sound (w : World) (M : Nat → Prop) (β : List Value) (want : Bool) : ∀ (v : AV) (x : Value), v.isB = true → RepV w M β v x → ((match x with | .bool b => some b | _ => none) == some want) = v.says want
  | .one d, x, hb, hr => by
    cases d <;> first | (cases hb; done) | skip
    rename_i b
    have : x = .bool b := hr
    subst this
    show (some b == some want) = (b == want)
    rfl
  | .cond g v, x, hb, hr => by
    have hr' : (g = true → RepV w M β v x) ∧ (g = false → x = undef) := hr
    cases g with
    | true => simpa [AV.says] using says_sound w M β want v x hb (hr'.1 rfl)
    | false => rw [hr'.2 rfl]; rfl
  | .agg _, _, hb, _ => by cases hb
  | .tup _, _, hb, _ => by cases hb
  | .any, _, hb, _ => by cases hb
theorem guard_sound (h : Sim W0 M0 F σ a w β) {ops : Array Oper} {o : Oper} {j : Nat} {want : Bool} (hg : o.guard = some (j, want)) (hb : (guardAV ops σ j).isB = true) : Region.wanted o (yielded ops a.tmps) = (guardAV ops σ j).says want := by
  unfold guardAV at hb ⊢
  cases hd : (ops[j]?).bind (·.dst) with
  | none => rw [hd] at hb; cases hb
  | some d =>
    rw [hd] at hb
    simp only [Option.bind_some] at hb ⊢
    cases hl : lookS σ.slots d with
    | none => rw [hl] at hb; cases hb
    | some v =>
      rw [hl] at hb
      simp only [Option.getD_some] at hb ⊢
      obtain ⟨x, h1, h2⟩ := h.slots d v hl
      rw [← says_sound _ _ _ want v x hb h2]
      simp only [Region.wanted, hg, yielded, hd, Option.bind_some, h1]
      cases x <;> rfl
theorem pickV_sound (h : Sim W0 M0 F σ a w β) {o : Oper} {c x y : Operand} (ho : o.op = .pick c x y) (hp : (pickV σ c x y).1) : ∃ u, (execOp a.eval o).run P w = .ok (.value u) w ∧ RepV w (Mof M0 β) β (pickV σ c x y).2 u := by
  unfold pickV at hp ⊢
  split at hp
  · rename_i b bx by' hc hx hy
    obtain ⟨h1, h2, h3⟩ := hp
    have ec := h.evs h1
    rw [hc] at ec
    have ec' := rep_bool_inv ec
    simp only [hc, hx, hy]
    cases b with
    | true =>
      have ex := h.evs (h2 rfl)
      rw [hx] at ex
      have ex' := rep_bool_inv ex
      exact ⟨.bool bx, by simp [execOp, ho, ec', asBool, ex'], rfl⟩
    | false =>
      have ey := h.evs (h3 rfl)
      rw [hy] at ey
      have ey' := rep_bool_inv ey
      exact ⟨.bool by', by simp [execOp, ho, ec', asBool, ey'], rfl⟩
  · exact hp.elim
theorem nval_sound (hT : TabOk P T) (h : Sim W0 M0 F σ a w β) {o : Oper} (hn : needs σ o.op.operands.toList) (hv : (aval T σ.H o.op σ.evs).1) :
    ∃ u w', (execOp a.eval o).run P w = .ok (.value u) w' ∧ Sim W0 M0 F σ a w' β ∧ RepV w' (Mof M0 β) β (aval T σ.H o.op σ.evs).2 u := by
  obtain ⟨u, w', h1, h2, h3⟩ := aval_sound hT (Mof_lt h) h.len h.objs o σ.evs a.eval (fun x hx => h.evs (needs_mem _ _ hn x hx)) hv
  exact ⟨u, w', h1, h.ext h2, h3⟩
theorem RepVL.append {w : World} {M : Nat → Prop} {β : List Value} : ∀ {as bs : List AV} {us vs : List Value}, RepVL w M β as us → RepVL w M β bs vs → RepVL w M β (as ++ bs) (us ++ vs)
  | [], bs, us, vs, h, k => by simp only [RepVL] at h; subst h; exact k
  | a :: as, bs, us, vs, h, k => by
    simp only [RepVL] at h
    obtain ⟨v, rest, rfl, h1, h2⟩ := h
    simp only [List.cons_append, RepVL]
    exact ⟨v, _, rfl, h1, RepVL.append h2 k⟩
theorem RepC0.toC' {w : World} {M : Nat → Prop} {β : List Value} {d : D} {v : Value} (h : RepC0 w M β d v) : RepC w M β d v := by
  cases d
  case clo f caps =>
    simp only [RepC0] at h
    exact RepD.toC h
  all_goals (simp only [RepC]; exact h)
theorem callee_sound (h : Sim W0 M0 F σ a w β) {o : Oper} {fo : Operand} {args : Array Operand} {ats : Array TypeId} (ho : o.op = .call { callee := .value fo, args := args, argTypes := ats }) {f : FuncId} {as : List AV} (hc : callee σ fo args.toList = some (f, as)) (hn : needs σ (fo :: args.toList)) (hok : okFn P f = true) :
    ∃ vs, (execOp a.eval o).run P w = .ok (.enter f ⟨vs⟩) w ∧ RepVL w (Mof M0 β) β as vs := by
  unfold callee at hc
  split at hc
  · rename_i f' caps hev
    cases hc
    have hfo := h.evs hn.1
    rw [hev] at hfo
    obtain ⟨cvs, hfv, hcl, hcr⟩ := hfo
    refine ⟨args.toList.map a.eval ++ cvs, ?_, RepVL.append (RepVL.mk _ _ (by simp) fun i b u hb hu => ?_) (RepVL.mk _ _ (by simpa using hcl) fun i b u hb hu => ?_)⟩
    · unfold okFn at hok
      cases hfn : P.funcs[f]? with
      | none => rw [hfn] at hok; cases hok
      | some fn =>
        rw [hfn] at hok
        simp only [Bool.and_eq_true, bne_iff_ne] at hok
        obtain ⟨c, hbody⟩ : ∃ c, fn.body = some c := by cases hb : fn.body with | none => rw [hb] at hok; simp at hok | some c => exact ⟨c, rfl⟩
        have hcf : ∀ xs, (callFunc f xs).run P w = .ok (.enter f xs) w := fun xs => by simp [callFunc, hfn, hok.1, hbody]
        have harr : (#[] ++ args.map a.eval) ++ (⟨cvs⟩ : Array Value) = ⟨args.toList.map a.eval ++ cvs⟩ := by apply Array.ext'; simp
        have hrun : (execOp a.eval o).run P w = (callFunc f ((#[] ++ args.map a.eval) ++ (⟨cvs⟩ : Array Value))).run P w := by
          simp only [execOp, ho, resolve, hfv, Deferred.ofValue, Sem.run_bind, Sem.run_pure, Result.andThen_ok, invoke]
        rw [hrun, hcf, harr]
    · rw [List.getElem?_map] at hb hu
      cases hg : args.toList[i]? with
      | none => rw [hg] at hb; cases hb
      | some x =>
        rw [hg] at hb hu
        simp at hb hu
        subst hb; subst hu
        exact h.evs (needs_mem _ _ hn.2 x (List.mem_of_getElem? hg))
    · rw [List.getElem?_map] at hb
      cases hg : caps[i]? with
      | none => rw [hg] at hb; cases hb
      | some x =>
        rw [hg] at hb
        simp at hb
        subst hb
        exact (hcr i x u hg hu).toC'
  · cases hc
theorem aop1_sound (hT : TabOk P T) {o : Oper} (h : Sim W0 M0 F σ a w β) (hop : aop1 P T o σ K) (hK : ∀ σ' a' w', K σ' → SimS W0 M0 F σ' a' w' → Kc a' w') : o.wp P a w Kc Q := by
  have neutral : ∀ d, o.dst = some d → nstep T o.op d σ K → o.wp P a w Kc Q := by
    rintro d hd ⟨⟨hn, hdn, hv⟩, hK'⟩
    obtain ⟨u, w', h1, h2, h3⟩ := nval_sound (P := P) hT h hn hv
    refine upon_value h1 ?_
    rw [hd]
    exact hK _ _ _ hK' ⟨β, h2.put hdn h3⟩
  unfold aop1 at hop
  split at hop
  · rename_i hd
    split at hop
    · rename_i t ad v ho
      exact tStore_sound hT ho hd h hop hK
    · rename_i t m k v ho; exact tUpdate_sound hT (.inl ho) hd h hop hK
    · rename_i t m k v ho; exact tUpdate_sound hT (.inr ho) hd h hop hK
    · exact hop.elim
  · rename_i d hd
    split at hop
    · rename_i e ho; exact tAlloc_sound hT ho hd h hop hK
    · rename_i e x ho; exact tBox_sound ho hd h hop hK
    · rename_i t len parts ho; exact tBuildSlice_sound hT ho hd h hop hK
    · rename_i t l c ho; exact tMake_sound hT ho hd h hop hK
    · rename_i t ho; exact tMakeMap_sound ho hd h hop hK
    · rename_i ho; exact tNil_sound ho hd h hop hK
    · rename_i c x y ho
      obtain ⟨⟨hdn, hp⟩, hK'⟩ := hop
      obtain ⟨u, h1, h2⟩ := pickV_sound (P := P) h ho hp
      refine upon_value h1 ?_
      rw [hd]
      exact hK _ _ _ hK' ⟨β, h.put hdn h2⟩
    · rename_i t x t' ho
      exact tNilCmp_sound (yes := true) hT ho hd h hop hK
    · rename_i t x t' ho
      exact tNilCmp_sound (yes := false) hT ho hd h hop hK
    · rename_i c ho
      obtain ⟨cal, args, ats⟩ := c
      simp only at hop
      split at hop
      · rename_i fo
        unfold cstep at hop
        split at hop
        · rename_i f as hc
          rcases hop.out with ⟨r, Hn, ⟨⟨hn, hdn⟩, hcall, hsafe⟩, hK'⟩ | ⟨σ1, ts, p, f', as1, r, Hout, hinto, ⟨hc1, hn, hdn, hok⟩, hcall, hK'⟩
          · obtain ⟨vs, h1, h2⟩ := callee_sound (P := P) h ho hc hn hcall.1
            unfold Oper.wp
            rw [h1]
            simp only [Oper.upon]
            refine (h.call h2 hcall hsafe).mono ?_
            rintro e w' ⟨v, β', rfl, hs, hr⟩
            simp only [hd]
            exact hK _ _ _ hK' ⟨β', Sim.put (σ := { σ with H := σ.H ++ Hn }) hs hdn hr⟩
          · obtain ⟨β1, hf⟩ := hinto _ _ _ _ _ β h
            obtain ⟨vs, h1, h2⟩ := callee_sound (P := P) hf ho hc1 hn hcall.1
            unfold Oper.wp
            rw [h1]
            simp only [Oper.upon]
            refine (hf.mcall hok h2 hcall).mono ?_
            rintro e w' ⟨v, β', rfl, hs, hr⟩
            simp only [hd]
            exact hK _ _ _ hK' ⟨β', hs.put hdn hr⟩
        · exact hop.elim
      · split at hop
        · rename_i s x t t' ha hat
          obtain ⟨rfl, hop⟩ := hop
          have e1 : args = #[s, x] := Array.ext' ha
          have e2 : ats = #[t, t] := Array.ext' hat
          subst e1; subst e2
          exact tAppend_sound hT ho hd h hop hK
        · exact hop.elim
      · exact neutral d hd hop
      · exact neutral d hd hop
      · exact neutral d hd hop
      · exact hop.elim
    · exact neutral d hd hop
theorem aopG_sound (hT : TabOk P T) {o : Oper} {g : Bool} (h : Sim W0 M0 F σ a w β) (hop : aopG P T g o σ K) (hK : ∀ σ' a' w', K σ' → SimS W0 M0 F σ' a' w' → Kc a' w') : if g = true then o.wp P a w Kc Q else Kc (a.put o.dst undef) w := by
  have key : ∀ d (v : AV), o.dst = some d → d < σ.n → K (σ.put d (.cond g v)) → (g = true → ∃ u w', (execOp a.eval o).run P w = .ok (.value u) w' ∧ Sim W0 M0 F σ a w' β ∧ RepV w' (Mof M0 β) β v u) → if g = true then o.wp P a w Kc Q else Kc (a.put o.dst undef) w := by
    intro d v hd hdn hK' hv
    cases g with
    | true =>
      obtain ⟨u, w', h1, h2, h3⟩ := hv rfl
      simp only [if_true]
      refine upon_value h1 ?_
      rw [hd]
      exact hK _ _ _ hK' ⟨β, h2.put hdn ⟨fun _ => h3, fun hh => by cases hh⟩⟩
    | false =>
      simp only [Bool.false_eq_true, if_false]
      rw [hd]
      exact hK _ _ _ hK' ⟨β, h.put hdn ⟨fun hh => (by cases hh), fun _ => rfl⟩⟩
  have neutral : ∀ d, o.dst = some d → gnstep T g o.op d σ K → if g = true then o.wp P a w Kc Q else Kc (a.put o.dst undef) w := by
    rintro d hd ⟨⟨hdn, hv⟩, hK'⟩
    exact key d _ hd hdn hK' fun hg => nval_sound (P := P) hT h (hv hg).1 (hv hg).2
  unfold aopG at hop
  split at hop
  · exact hop.elim
  · rename_i d hd
    split at hop
    · rename_i c x y ho
      obtain ⟨⟨hdn, hp⟩, hK'⟩ := hop
      exact key d _ hd hdn hK' fun hg => by
        obtain ⟨u, h1, h2⟩ := pickV_sound (P := P) h ho (hp hg)
        exact ⟨u, w, h1, h, h2⟩
    · rename_i c ho
      obtain ⟨cal, args, ats⟩ := c
      simp only at hop
      split at hop
      · rename_i fo
        unfold gcstep at hop
        split at hop
        · rename_i f as hc
          rcases hop.out with ⟨r, ⟨hdn, hcall⟩, hK'⟩ | ⟨hy, hn⟩
          case inr =>
            cases g with
            | true =>
              simp only [if_true]
              refine aop1_sound hT h ?_ hK
              unfold aop1
              rw [hd]
              simp only [ho]
              unfold cstep
              rw [hc]
              exact hy rfl
            | false =>
              simp only [Bool.false_eq_true, if_false]
              rw [hd]
              obtain ⟨v, hdn, hK'⟩ := hn rfl
              exact hK _ _ _ hK' ⟨β, h.put hdn ⟨fun hh => (by cases hh), fun _ => rfl⟩⟩
          cases g with
          | true =>
            obtain ⟨hn, hcall, hsafe⟩ := hcall rfl
            simp only [if_true]
            obtain ⟨vs, h1, h2⟩ := callee_sound (P := P) h ho hc hn hcall.1
            unfold Oper.wp
            rw [h1]
            simp only [Oper.upon]
            refine (h.call h2 hcall hsafe).mono ?_
            rintro e w' ⟨v, β', rfl, hs, hr⟩
            simp only [hd]
            have hs' : Sim W0 M0 F σ a w' β' := by simpa using hs
            exact hK _ _ _ hK' ⟨β', hs'.put hdn ⟨fun _ => hr, fun hh => by cases hh⟩⟩
          | false =>
            simp only [Bool.false_eq_true, if_false]
            rw [hd]
            exact hK _ _ _ hK' ⟨β, h.put hdn ⟨fun hh => (by cases hh), fun _ => rfl⟩⟩
        · exact hop.elim
      · exact neutral d hd hop
      · exact neutral d hd hop
      · exact neutral d hd hop
      · exact hop.elim
    · exact neutral d hd hop
theorem aop_sound (hT : TabOk P T) {ops : Array Oper} {o : Oper} (h : SimS W0 M0 F σ a w) (hop : aop P T ops o σ K) (hK : ∀ σ' a' w', K σ' → SimS W0 M0 F σ' a' w' → Kc a' w') : if Region.wanted o (yielded ops a.tmps) = true then o.wp P a w Kc Q else Kc (a.put o.dst undef) w := by
  obtain ⟨β, h⟩ := h
  unfold aop at hop
  split at hop
  · rename_i hg
    rw [if_pos (by simp [Region.wanted, hg])]
    exact aop1_sound hT h hop hK
  · rename_i j want hg
    rw [guard_sound h hg hop.1]
    have hop2 := hop.2
    split at hop2
    · generalize (guardAV ops σ j).says want = g at hop2 ⊢
      cases g with
      | true => simp only [if_true]; exact aop1_sound hT h (hop2.1 rfl) hK
      | false =>
        have h2 := hop2.2 rfl
        simp only [Bool.false_eq_true, if_false]
        cases hd : o.dst with
        | none => rw [hd] at h2; exact h2.elim
        | some d =>
          rw [hd] at h2
          exact hK _ _ _ h2.2 ⟨β, h.put h2.1 ⟨fun hh => (by cases hh), fun _ => rfl⟩⟩
    · exact aopG_sound hT h hop2 hK
theorem aops_sound (hT : TabOk P T) {ops : Array Oper} : ∀ (l : List Oper) (σ : AState) (a : Act) (w : World), SimS W0 M0 F σ a w → aops P T ops l σ K → (∀ σ' a' w', K σ' → SimS W0 M0 F σ' a' w' → Q .normal a' w') → wpList P ops Q l a w
  | [], σ, a, w, h, hop, hK => hK _ _ _ hop h
  | o :: rest, σ, a, w, h, hop, hK => by
    refine wpList_step fun Kk hKk => ?_
    exact aop_sound hT h hop fun σ' a' w' h1 h2 => hKk _ _ (aops_sound hT rest σ' a' w' h2 h1 hK)
end
end Go.Eng
