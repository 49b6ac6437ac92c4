/-
  The abstract machine: regions in phases: what makes or computes, in any order; what turns, alone.
-/
import Derived.Test.YtjldfifepbdlmaaDoorEngN6
set_option linter.unusedSimpArgs false
set_option linter.unusedVariables false
namespace Go.Eng
open Go.RowKit

/-! ### one operation of the middle, as a function -/
structure OCallAt (P : Program) (f : FuncId) (as as' : List AV) (nd : Prop) (d tg : Nat) (σ : AState) (K : AState → Prop) : Prop where
  out : (∃ r, (d < σ.n ∧ nd ∧ ACalls P f as' r [] ∧ callSafe as r [] ∧ ∀ n, r.shift n = r) ∧ K (σ.put d r)) ∨
    ∃ obj, (d < σ.n ∧ nd ∧ ACalls P f as' (.one (.own 0)) [obj] ∧ callSafe as (.one (.own 0)) [obj] ∧ obj.tagsLt 0 = true) ∧ K ⟨σ.n, (d, .one (.own tg)) :: σ.slots, σ.H.set tg obj, σ.pin⟩
structure MGCallAt (P : Program) (g : Bool) (f : FuncId) (as as' : List AV) (nd : Prop) (d : Nat) (σ : AState) (K : AState → Prop) : Prop where
  out : ∃ r, (d < σ.n ∧ (g = true → nd ∧ ACalls P f as' r [] ∧ callSafe as r [] ∧ ∀ n, r.shift n = r)) ∧ K (σ.put d (.cond g r))
def nstepV (T : Tab) (op : Op) (d : Nat) (V : List AObj) (σ : AState) (K : AState → Prop) : Prop :=
  (needs σ op.operands.toList ∧ d < σ.n ∧ (aval T V op σ.evs).1) ∧ K (σ.put d (aval T V op σ.evs).2)
def gnstepV (T : Tab) (g : Bool) (op : Op) (d : Nat) (V : List AObj) (σ : AState) (K : AState → Prop) : Prop :=
  (d < σ.n ∧ (g = true → needs σ op.operands.toList ∧ (aval T V op σ.evs).1)) ∧ K (σ.put d (.cond g (aval T V op σ.evs).2))
def mAppend (T : Tab) (s x : Operand) (t : TypeId) (d tg : Nat) (fz : Bool) (ks : List Nat) (V : List AObj) (σ : AState) (K : AState → Prop) : Prop :=
  match (T t).desc, σ.evs s, srcRows V (σ.evs x) with
  | .slice e, .one .nil, some news => ((σ.ev s).need ∧ (σ.ev x).need ∧ (T e).desc ≠ .other ∧ 0 < (T e).size ∧ (∀ r ∈ news, r.length = (T e).size) ∧ news.length * (T e).bytes ≤ 140737488355328 ∧ news.length ≤ 9223372036854775807 ∧ d < σ.n) ∧
      (match fz with | true => K ⟨σ.n, (d, .one (.list news)) :: σ.slots, σ.H, σ.pin⟩ | false => K ⟨σ.n, (d, .one (.own tg)) :: σ.slots, σ.H.set tg (.row e (T e).size news), σ.pin⟩)
  | .slice e, .one (.own k), some news => match V[k]? with
    | some (.row e' sz rows) => (e' = e ∧ sz = (T e).size ∧ memN k ks = true ∧ (σ.ev s).need ∧ (σ.ev x).need ∧ (T e).desc ≠ .other ∧ 0 < (T e).size ∧ (∀ r ∈ news, r.length = (T e).size) ∧ (rows.length + news.length) * (T e).bytes ≤ 140737488355328 ∧ rows.length + news.length ≤ 9223372036854775807 ∧ d < σ.n) ∧
        (match fz with | true => K ⟨σ.n, (d, .one (.list (rows ++ news))) :: σ.slots, σ.H.set k .gone, σ.pin⟩ | false => K ⟨σ.n, (d, .one (.own tg)) :: σ.slots, (σ.H.set k .gone).set tg (.row e (T e).size (rows ++ news)), σ.pin⟩)
    | _ => False
  | _, _, _ => False
def mMake (T : Tab) (t : TypeId) (l c : Operand) (d tg : Nat) (σ : AState) (K : AState → Prop) : Prop :=
  match (T t).desc, σ.evs l, σ.evs c with
  | .slice e, .one (.int .i64 n), .one (.int .i64 m) =>
    ((σ.ev l).need ∧ (σ.ev c).need ∧ (T e).desc ≠ .other ∧ 0 < (T e).size ∧ 0 ≤ n ∧ n ≤ m ∧ m ≤ 9223372036854775807 ∧ (T e).bytes * m ≤ 281474976710656 ∧ d < σ.n) ∧ K ⟨σ.n, (d, .one (.own tg)) :: σ.slots, σ.H.set tg (.row e (T e).size (List.replicate n.toNat (T e).zero)), σ.pin⟩
  | _, _, _ => False
def mMap (T : Tab) (t : TypeId) (d tg : Nat) (σ : AState) (K : AState → Prop) : Prop :=
  match (T t).desc with
  | .map kt _ => match (T kt).desc with
    | .string => d < σ.n ∧ K ⟨σ.n, (d, .one (.mp tg)) :: σ.slots, σ.H.set tg (.map .str []), σ.pin⟩
    | .int k => d < σ.n ∧ K ⟨σ.n, (d, .one (.mp tg)) :: σ.slots, σ.H.set tg (.map (.int k) []), σ.pin⟩
    | _ => False
  | _ => False
def mBox (e : TypeId) (x : Operand) (d tg : Nat) (σ : AState) (K : AState → Prop) : Prop :=
  match (σ.evs x).cells? with
  | some cs => ((σ.ev x).need ∧ d < σ.n ∧ cs.all (D.tagsLt 0) = true) ∧ K ⟨σ.n, (d, .one (.vp tg 0)) :: σ.slots, σ.H.set tg (.var e cs), σ.pin⟩
  | none => False
def mAlloc (T : Tab) (e : TypeId) (d tg : Nat) (σ : AState) (K : AState → Prop) : Prop :=
  ((T e).desc ≠ .other ∧ d < σ.n ∧ (T e).zero.all (D.tagsLt 0) = true) ∧ K ⟨σ.n, (d, .one (.vp tg 0)) :: σ.slots, σ.H.set tg (.var e (T e).zero), σ.pin⟩
def mcstep (P : Program) (fo : Operand) (args : List Operand) (d tg : Nat) (V : List AObj) (σ : AState) (K : AState → Prop) : Prop :=
  match callee σ fo args with
  | some (f, as) => OCallAt P f as (as.map (AV.bor V)) (needs σ (fo :: args)) d tg σ K
  | none => False
def mgcstep (P : Program) (g : Bool) (fo : Operand) (args : List Operand) (d : Nat) (V : List AObj) (σ : AState) (K : AState → Prop) : Prop :=
  match callee σ fo args with
  | some (f, as) => MGCallAt P g f as (as.map (AV.bor V)) (needs σ (fo :: args)) d σ K
  | none => False
def mop1 (P : Program) (T : Tab) (o : Oper) (tg : Nat) (fz : Bool) (ks : List Nat) (V : List AObj) (σ : AState) (K : AState → Prop) : Prop :=
  match o.dst with
  | none => False
  | some d => match o.op with
    | .alloc e => mAlloc T e d tg σ K
    | .box e x => mBox e x d tg σ K
    | .makeSlice t l c => mMake T t l c d tg σ K
    | .makeMap t none => mMap T t d tg σ K
    | .pick c x y => pstep c x y d σ K
    | .call c => match c.callee with
      | .value fo => mcstep P fo c.args.toList d tg V σ K
      | .builtin .append => match c.args.toList, c.argTypes.toList with
        | [s, x], [t, t'] => t = t' ∧ mAppend T s x t d tg fz ks V σ K
        | _, _ => False
      | _ => nstepV T o.op d V σ K
    | op => nstepV T op d V σ K
def mopG (P : Program) (T : Tab) (g : Bool) (o : Oper) (V : List AObj) (σ : AState) (K : AState → Prop) : Prop :=
  match o.dst with
  | none => False
  | some d => match o.op with
    | .pick c x y => gpstep g c x y d σ K
    | .call c => match c.callee with
      | .value fo => mgcstep P g fo c.args.toList d V σ K
      | _ => gnstepV T g o.op d V σ K
    | op => gnstepV T g op d V σ K
def mop (P : Program) (T : Tab) (ops : Array Oper) (o : Oper) (tg : Nat) (fz : Bool) (ks : List Nat) (V : List AObj) (σ : AState) (K : AState → Prop) : Prop :=
  match o.guard with
  | none => mop1 P T o tg fz ks V σ K
  | some (j, want) => (guardAV ops σ j).isB = true ∧ mopG P T ((guardAV ops σ j).says want) o V σ K
section
variable {P : Program} {T : Tab} {ops : Array Oper} {σ : AState} {K : AState → Prop}
theorem at_evs (V : List AObj) : (σ.at V).evs = σ.evs := funext fun x => evs_H V x
theorem at_ev (V : List AObj) (x : Operand) : (σ.at V).ev x = σ.ev x := ev_H V x
theorem at_pick (V : List AObj) (c x y : Operand) : pickV (σ.at V) c x y = pickV σ c x y := by
  unfold pickV
  rw [at_evs, at_ev, at_ev, at_ev]
theorem mop_sound {o : Oper} {tg : Nat} {fz : Bool} {ks : List Nat} {V : List AObj} (h : mop P T ops o tg fz ks V σ K) : ∃ u, mY P T ops V tg ks o u σ ∧ K (σ.up tg u) := by
  unfold mop at h
  split at h
  · rename_i hg
    have plain : ∀ (d : Nat) (v : AV), o.dst = some d → d < σ.n → dValS P T o v (σ.at V) → K (σ.put d v) → ∃ u, mY P T ops V tg ks o u σ ∧ K (σ.up tg u) := fun d v hd hdn hv hk =>
      ⟨⟨d, v, none, none⟩, .inl ⟨rfl, rfl, hd, hdn, by rw [hg]; exact hv⟩, hk⟩
    have make : ∀ (d : Nat) (p : HdK) (obj : AObj) (kill : Option Nat), o.dst = some d → d < σ.n → (∀ k, kill = some k → k ∈ ks) → aVal P T o p obj kill (σ.at V) → obj.tagsLt 0 = true → K ⟨σ.n, (d, hdl p tg) :: σ.slots, (killH kill σ.H).set tg obj, σ.pin⟩ → ∃ u, mY P T ops V tg ks o u σ ∧ K (σ.up tg u) := fun d p obj kill hd hdn hks hv ht hk =>
      ⟨⟨d, hdl p tg, some obj, kill⟩, .inr ⟨hg, hd, hdn, hks, p, obj, hv, ht, .inl ⟨rfl, rfl⟩⟩, hk⟩
    have makeF : ∀ (d : Nat) (e : TypeId) (sz : Nat) (rows : List (List D)) (kill : Option Nat), o.dst = some d → d < σ.n → (∀ k, kill = some k → k ∈ ks) → aVal P T o .own (.row e sz rows) kill (σ.at V) → K ⟨σ.n, (d, .one (.list rows)) :: σ.slots, killH kill σ.H, σ.pin⟩ → ∃ u, mY P T ops V tg ks o u σ ∧ K (σ.up tg u) := fun d e sz rows kill hd hdn hks hv hk =>
      ⟨⟨d, .one (.list rows), none, kill⟩, .inr ⟨hg, hd, hdn, hks, .own, .row e sz rows, hv, rfl, .inr ⟨e, sz, rows, rfl, rfl, rfl, rfl⟩⟩, hk⟩
    unfold mop1 at h
    split at h
    · exact h.elim
    · rename_i d hd
      have neut : (∀ c x y, o.op ≠ .pick c x y) → (∀ c, o.op = .call c → ∀ fo, c.callee ≠ .value fo) → nstepV T o.op d V σ K → ∃ u, mY P T ops V tg ks o u σ ∧ K (σ.up tg u) := by
        rintro h1 h2 ⟨⟨k1, k2, k3⟩, k4⟩
        refine plain d _ hd k2 ?_ k4
        unfold dValS
        split
        · rename_i c x y ho; exact absurd ho (h1 c x y)
        · rename_i c ho
          split
          · rename_i fo hc; exact absurd hc (h2 c ho fo)
          · rw [at_evs]; exact ⟨needs_H V _ k1, k3, rfl⟩
        · rw [at_evs]; exact ⟨needs_H V _ k1, k3, rfl⟩
      split at h
      · rename_i e ho
        obtain ⟨⟨h1, h2, h3⟩, h4⟩ := h
        exact make d .vp (.var e (T e).zero) none hd h2 (fun _ e => by cases e) (by unfold aVal; rw [ho]; exact ⟨h1, rfl, rfl, rfl⟩) h3 h4
      · rename_i e x ho
        unfold mBox at h
        split at h
        · rename_i cs hcs
          obtain ⟨⟨h1, h2, h3⟩, h4⟩ := h
          exact make d .vp (.var e cs) none hd h2 (fun _ e => by cases e) (by unfold aVal; rw [ho]; dsimp only; rw [at_ev, at_evs]; exact ⟨h1, ⟨cs, hcs, rfl⟩, rfl, rfl⟩) h3 h4
        · exact h.elim
      · rename_i t l c ho
        unfold mMake at h
        split at h
        · rename_i e n m k1 k2 k3
          obtain ⟨⟨h1, h2, h3, h4, h5, h6, h7, h8, h9⟩, h10⟩ := h
          exact make d .own (.row e (T e).size (List.replicate n.toNat (T e).zero)) none hd h9 (fun _ e => by cases e) (by unfold aVal; rw [ho]; dsimp only; rw [at_ev, at_evs, at_ev]; exact ⟨e, n, m, k1, k2, k3, ⟨h1, h2, h3, h4, h5, h6, h7, h8⟩, rfl, rfl, rfl⟩) rfl h10
        · exact h.elim
      · rename_i t ho
        unfold mMap at h
        split at h
        · rename_i kt et hdesc
          split at h
          · rename_i hk
            exact make d .mp (.map .str []) none hd h.1 (fun _ e => by cases e) (by unfold aVal; rw [ho]; exact ⟨rfl, rfl, kt, et, hdesc, .inl ⟨hk, rfl⟩⟩) rfl h.2
          · rename_i k hk
            exact make d .mp (.map (.int k) []) none hd h.1 (fun _ e => by cases e) (by unfold aVal; rw [ho]; exact ⟨rfl, rfl, kt, et, hdesc, .inr ⟨k, hk, rfl⟩⟩) rfl h.2
          · exact h.elim
        · exact h.elim
      · rename_i c x y ho
        obtain ⟨⟨h1, h2⟩, h3⟩ := h
        exact plain d _ hd h1 (by unfold dValS; rw [ho]; dsimp only; rw [at_pick]; exact ⟨h2, rfl⟩) h3
      · rename_i c ho
        obtain ⟨cal, args, ats⟩ := c
        simp only at h
        split at h
        · rename_i fo
          unfold mcstep at h
          split at h
          · rename_i f as hc
            have hc' : callee (σ.at V) fo args.toList = some (f, as) := by rw [show callee (σ.at V) fo args.toList = callee σ fo args.toList from callee_H V _ _]; exact hc
            rcases h.out with ⟨r, ⟨h1, h2, h3, h4, h5⟩, h6⟩ | ⟨obj, ⟨h1, h2, h3, h4, h5⟩, h6⟩
            · exact plain d r hd h1 (by unfold dValS; rw [ho]; exact ⟨f, as, hc', needs_H V _ h2, h3, h4, h5⟩) h6
            · exact make d .own obj none hd h1 (fun _ e => by cases e) (by unfold aVal; rw [ho]; exact ⟨f, as, hc', needs_H V _ h2, h3, h4, rfl, rfl⟩) h5 h6
          · exact h.elim
        · split at h
          · rename_i s x t t' ha hat
            obtain ⟨rfl, h⟩ := h
            have e1 : args = #[s, x] := Array.ext' ha
            have e2 : ats = #[t, t] := Array.ext' hat
            subst e1; subst e2
            unfold mAppend at h
            split at h
            · rename_i e news k1 k2 k3
              obtain ⟨⟨h1, h2, h3, h4, h5, h6, h7, h8⟩, h9⟩ := h
              have hv : aVal P T o .own (.row e (T e).size news) none (σ.at V) := by
                unfold aVal; rw [ho]; dsimp only; rw [at_evs]
                exact ⟨s, x, t, e, [], news, rfl, k1, k3, by rw [at_ev]; exact h1, by rw [at_ev]; exact h2, h3, h4, h5, by simpa using h6, by simpa using h7, rfl, rfl, .inl ⟨k2, rfl, rfl⟩⟩
              cases fz with
              | true => exact makeF d e _ news none hd h8 (fun _ e => by cases e) hv h9
              | false => exact make d .own _ none hd h8 (fun _ e => by cases e) hv rfl h9
            · rename_i e k news k1 k2 k3
              split at h
              · rename_i e' sz rows hV
                obtain ⟨⟨rfl, rfl, hm, h1, h2, h3, h4, h5, h6, h7, h8⟩, h9⟩ := h
                have hv : aVal P T o .own (.row e' (T e').size (rows ++ news)) (some k) (σ.at V) := by
                  unfold aVal; rw [ho]; dsimp only; rw [at_evs]
                  exact ⟨s, x, t, _, rows, news, rfl, k1, k3, by rw [at_ev]; exact h1, by rw [at_ev]; exact h2, h3, h4, h5, h6, h7, rfl, rfl, .inr ⟨k, k2, hV, rfl⟩⟩
                cases fz with
                | true => exact makeF d _ _ _ (some k) hd h8 (fun k' e => by cases e; exact memN_iff.1 hm) hv h9
                | false => exact make d .own _ (some k) hd h8 (fun k' e => by cases e; exact memN_iff.1 hm) hv rfl h9
              · exact h.elim
            · exact h.elim
          · exact h.elim
        · rename_i hnv hna
          refine neut (fun c x y e => by rw [ho] at e; cases e) (fun c e fo hcf => ?_) h
          rw [ho] at e
          cases e
          exact hnv fo hcf
      · rename_i hnp hnc
        exact neut (fun c x y e => hnp c x y e) (fun c e => absurd e (hnc c)) h
  · rename_i j want hg
    obtain ⟨hb, h⟩ := h
    have fin : ∀ (d : Nat) (v : AV), o.dst = some d → d < σ.n → ((guardAV ops σ j).says want = true → dValS P T o v (σ.at V)) → K (σ.put d (.cond ((guardAV ops σ j).says want) v)) → ∃ u, mY P T ops V tg ks o u σ ∧ K (σ.up tg u) := fun d v hd hdn hv hk =>
      ⟨⟨d, _, none, none⟩, .inl ⟨rfl, rfl, hd, hdn, by rw [hg]; exact ⟨hb, v, rfl, hv⟩⟩, hk⟩
    unfold mopG at h
    split at h
    · exact h.elim
    · rename_i d hd
      have neut : (∀ c x y, o.op ≠ .pick c x y) → (∀ c, o.op = .call c → ∀ fo, c.callee ≠ .value fo) → gnstepV T ((guardAV ops σ j).says want) o.op d V σ K → ∃ u, mY P T ops V tg ks o u σ ∧ K (σ.up tg u) := by
        rintro h1 h2 ⟨⟨k1, k2⟩, k4⟩
        refine fin d _ hd k1 (fun hh => ?_) k4
        obtain ⟨q1, q2⟩ := k2 hh
        unfold dValS
        split
        · rename_i c x y ho; exact absurd ho (h1 c x y)
        · rename_i c ho
          split
          · rename_i fo hc; exact absurd hc (h2 c ho fo)
          · rw [at_evs]; exact ⟨needs_H V _ q1, q2, rfl⟩
        · rw [at_evs]; exact ⟨needs_H V _ q1, q2, rfl⟩
      split at h
      · rename_i c x y ho
        obtain ⟨⟨h1, h2⟩, h3⟩ := h
        exact fin d _ hd h1 (fun hh => by unfold dValS; rw [ho]; dsimp only; rw [at_pick]; exact ⟨h2 hh, rfl⟩) h3
      · rename_i c ho
        obtain ⟨cal, args, ats⟩ := c
        simp only at h
        split at h
        · rename_i fo
          unfold mgcstep at h
          split at h
          · rename_i f as hc
            have hc' : callee (σ.at V) fo args.toList = some (f, as) := by rw [show callee (σ.at V) fo args.toList = callee σ fo args.toList from callee_H V _ _]; exact hc
            obtain ⟨r, ⟨h1, h2⟩, h3⟩ := h.out
            exact fin d r hd h1 (fun hh => by
              obtain ⟨q1, q2, q3, q4⟩ := h2 hh
              unfold dValS; rw [ho]; exact ⟨f, as, hc', needs_H V _ q1, q2, q3, q4⟩) h3
          · exact h.elim
        · rename_i hnv
          refine neut (fun c x y e => by rw [ho] at e; cases e) (fun c e fo hcf => ?_) h
          rw [ho] at e
          cases e
          exact hnv fo hcf
      · rename_i hnp hnc
        exact neut (fun c x y e => hnp c x y e) (fun c e => absurd e (hnc c)) h
end
/-! ### the walk over a plan -/
def mWalk (P : Program) (T : Tab) (ops : Array Oper) (n0 : Nat) : List PE → AState → (AState → Prop) → Prop
  | [], σ, K => K σ
  | e :: l, σ, K => match ops[e.i]? with
    | none => False
    | some o => mop P T ops o (n0 + e.c) e.fz (e.ks.map (n0 + ·)) (hideH (e.hs.map (n0 + ·)) σ.H) σ fun σ' => mWalk P T ops n0 l σ' K
def stF (n0 : Nat) : AState → List Ent → AState
  | σ, [] => σ
  | σ, x :: l => stF n0 (σ.up (n0 + x.e.c) x.u) l
theorem stF_append (n0 : Nat) : ∀ (l m : List Ent) (σ : AState), stF n0 σ (l ++ m) = stF n0 (stF n0 σ l) m
  | [], _, _ => rfl
  | x :: l, m, σ => stF_append n0 l m _
/-- what was seen on the walk -/
def SeenAt (P : Program) (T : Tab) (ops : Array Oper) (n0 : Nat) (σ : AState) (L : List Ent) : Prop :=
  ∀ L1 x L2, L = L1 ++ x :: L2 → ∃ o, ops[x.e.i]? = some o ∧ mY P T ops (hideH (x.e.hs.map (n0 + ·)) (stF n0 σ L1).H) (n0 + x.e.c) (x.e.ks.map (n0 + ·)) o x.u (stF n0 σ L1)
theorem mWalk_list {P : Program} {T : Tab} {ops : Array Oper} {n0 : Nat} {K : AState → Prop} : ∀ (l : List PE) (σ : AState), mWalk P T ops n0 l σ K → ∃ L : List Ent, L.map Ent.e = l ∧ K (stF n0 σ L) ∧ SeenAt P T ops n0 σ L
  | [], σ, h => ⟨[], rfl, h, fun L1 x L2 e => by cases L1 <;> cases e⟩
  | e :: l, σ, h => by
    simp only [mWalk] at h
    cases ho : ops[e.i]? with
    | none => rw [ho] at h; exact h.elim
    | some o =>
      rw [ho] at h
      obtain ⟨u, h1, h2⟩ := mop_sound h
      obtain ⟨L, k1, k2, k3⟩ := mWalk_list l _ h2
      refine ⟨⟨e, u⟩ :: L, by simp [k1], k2, fun L1 x L2 he => ?_⟩
      cases L1 with
      | nil =>
        simp only [List.nil_append, List.cons.injEq] at he
        obtain ⟨rfl, rfl⟩ := he
        exact ⟨o, ho, h1⟩
      | cons y L1 =>
        simp only [List.cons_append, List.cons.injEq] at he
        obtain ⟨rfl, rfl⟩ := he
        exact k3 L1 x L2 rfl
/-! ### is a plan a good one -/
def dstOf (ops : Array Oper) (i : Nat) : Option Nat := (ops[i]?).bind (·.dst)
def chk (A : List (Nat × List Nat)) (md : Region.Mode) (ops : Array Oper) (m : Nat) (all pre : List PE) (e : PE) (post : List PE) : Bool :=
  match ops[e.i]? with
  | none => false
  | some o => match o.dst with
    | none => false
    | some d =>
      (e.mkr == mkB o.op) && (!e.mkr || decide (e.c < m)) && pre.all (fun p => dstOf ops p.i != some d) &&
      (o.looksAt ops).all (fun s => (e :: post).all (fun q => dstOf ops q.i != some s) && pre.all (fun p => dstOf ops p.i != some s || Region.waitsFor md ops e.i p.i)) &&
      pre.all (fun p => !p.mkr || memN p.c e.hs || (ancB A e.i p.i && all.all (fun z => !memN p.c z.ks || z.i == e.i || ancB A z.i e.i))) &&
      e.ks.all (fun c => c != e.c && pre.any (fun p => p.c == c && p.mkr && Region.waitsFor md ops e.i p.i)) &&
      (!e.mkr || pre.all (fun p => !p.mkr || p.c != e.c)) &&
      (!e.tk || (takeB o && all.all (fun p => p.i == e.i || Region.waitsFor md ops p.i e.i || ancB A e.i p.i || match ops[p.i]? with | some oj => o.apart ops oj | none => true)))
def planB (A : List (Nat × List Nat)) (md : Region.Mode) (ops : Array Oper) (m : Nat) (all : List PE) : List PE → List PE → Bool
  | _, [] => true
  | pre, e :: l => chk A md ops m all pre e l && planB A md ops m all (e :: pre) l
theorem planB_at {A : List (Nat × List Nat)} {md : Region.Mode} {ops : Array Oper} {m : Nat} {all : List PE} : ∀ (l pre l1 : List PE) (e : PE) (l2 : List PE), planB A md ops m all pre l = true → l = l1 ++ e :: l2 → chk A md ops m all (l1.reverse ++ pre) e l2 = true
  | [], _, l1, e, l2, _, h => by cases l1 <;> cases h
  | e0 :: l, pre, [], e, l2, h, he => by
    simp only [List.nil_append, List.cons.injEq] at he
    obtain ⟨rfl, rfl⟩ := he
    simp only [planB, Bool.and_eq_true] at h
    exact h.1
  | e0 :: l, pre, x :: l1, e, l2, h, he => by
    simp only [List.cons_append, List.cons.injEq] at he
    obtain ⟨rfl, rfl⟩ := he
    simp only [planB, Bool.and_eq_true] at h
    have := planB_at _ (e0 :: pre) l1 e l2 h.2 rfl
    simpa using this
theorem two_places {α : Type} {L : List α} {x y : α} (hx : x ∈ L) (hy : y ∈ L) : x = y ∨ (∃ L1 L2, L = L1 ++ x :: L2 ∧ y ∈ L1) ∨ (∃ L1 L2, L = L1 ++ y :: L2 ∧ x ∈ L1) := by
  obtain ⟨A, B, rfl⟩ := List.append_of_mem hx
  rcases List.mem_append.1 hy with h | h
  · exact .inr (.inl ⟨A, B, rfl, h⟩)
  · rcases List.mem_cons.1 h with rfl | h
    · exact .inl rfl
    · obtain ⟨C, D, rfl⟩ := List.append_of_mem h
      exact .inr (.inr ⟨A ++ x :: C, D, by simp, by simp⟩)
theorem rev_ind {α : Type} {C : List α → Prop} (h0 : C []) (h1 : ∀ l x, C l → C (l ++ [x])) (l : List α) : C l := by
  have : ∀ l : List α, C l.reverse := fun l => by
    induction l with
    | nil => exact h0
    | cons x l ih => rw [List.reverse_cons]; exact h1 _ x ih
  have := this l.reverse
  rwa [List.reverse_reverse] at this
def lexR (md : Region.Mode) (ops : Array Oper) : List Nat → Array Bool → Bool
  | [], _ => true
  | i :: is, l => (Region.ready md ops l).contains i && lexR md ops is (l.setIfInBounds i true)
section
variable {P : Program} {T : Tab} {md : Region.Mode} {ops : Array Oper} {n0 m : Nat} {σ0 : AState} {L : List Ent} {A : List (Nat × List Nat)} {listed0 : Array Bool}
theorem lexR_split : ∀ (is1 : List Nat) (i : Nat) (is2 : List Nat) (l : Array Bool), Closed md ops l → lexR md ops (is1 ++ i :: is2) l = true → i ∈ Region.ready md ops (setAll is1 l) ∧ Closed md ops (setAll is1 l)
  | [], i, is2, l, hc, h => by
    simp only [List.nil_append, lexR, Bool.and_eq_true] at h
    exact ⟨by simpa [setAll] using h.1, hc⟩
  | j :: is1, i, is2, l, hc, h => by
    simp only [List.cons_append, lexR, Bool.and_eq_true] at h
    exact lexR_split is1 i is2 _ (hc.set (by simpa using h.1)) h.2
theorem setAll_in : ∀ (is : List Nat) (l : Array Bool) (j : Nat), l.getD j true = false → (setAll is l).getD j false = true → j ∈ is
  | [], l, j, h1, h2 => by rw [show setAll [] l = l from rfl, getD_both h1] at h2; cases h2
  | i :: is, l, j, h1, h2 => by
    by_cases hij : i = j
    · simp [hij]
    · exact List.mem_cons_of_mem _ (setAll_in is _ j (by rw [getD_set_ne true hij]; exact h1) h2)
/-- all that 'mid_run' asks of a plan -/
theorem plan_facts (hA : AncOk md ops A) (hlen : σ0.H.length = n0 + m) (hr : ∀ t o, n0 ≤ t → σ0.H[t]? = some o → o = .gone) (hB : planB A md ops m (L.map Ent.e) [] (L.map Ent.e) = true) (hseen : SeenAt P T ops n0 σ0 L)
    (hlex : lexR md ops (L.map fun x => x.e.i) listed0 = true) (hcl0 : Closed md ops listed0) (hun : ∀ x ∈ L, listed0.getD x.e.i true = false) (hsz : ∀ x ∈ L, x.e.i < listed0.size) :
    PlanOk md ops n0 σ0.H.length L ∧ (∀ x ∈ L, Seen P T md ops n0 σ0 L x) ∧ (∀ x ∈ L, ∀ c ∈ x.e.ks, c ≠ x.e.c) ∧ JS n0 σ0 L (fun _ => True) (stF n0 σ0 L) ∧ (∀ x ∈ L, x.e.mkr = true → x.e.c < m) ∧
    (∀ x ∈ L, x.e.tk = true → ∃ o, ops[x.e.i]? = some o ∧ takeB o = true ∧ ∀ y ∈ L, y.e.i = x.e.i ∨ Region.waitsFor md ops y.e.i x.e.i = true ∨ Anc md ops x.e.i y.e.i ∨ ∀ oj, ops[y.e.i]? = some oj → o.apart ops oj = true) := by
  have hmy : ∀ x ∈ L, ∃ o V σ, ops[x.e.i]? = some o ∧ mY P T ops V (n0 + x.e.c) (x.e.ks.map (n0 + ·)) o x.u σ := fun x hx => by
    obtain ⟨L1, L2, rfl⟩ := List.append_of_mem hx
    obtain ⟨o, h1, h2⟩ := hseen L1 x L2 rfl
    exact ⟨o, _, _, h1, h2⟩
  have hdst : ∀ x ∈ L, dstOf ops x.e.i = some x.u.d := fun x hx => by
    obtain ⟨o, V, σ, h1, h2⟩ := hmy x hx
    simp [dstOf, h1, mY_dst h2]
  have hchk : ∀ L1 x L2, L = L1 ++ x :: L2 → ∃ o, ops[x.e.i]? = some o ∧ o.dst = some x.u.d ∧ x.e.mkr = mkB o.op ∧ (x.e.mkr = true → x.e.c < m) ∧ (∀ y ∈ L1, y.u.d ≠ x.u.d) ∧
      (∀ s ∈ o.looksAt ops, (∀ y ∈ x :: L2, y.u.d ≠ s) ∧ ∀ y ∈ L1, y.u.d = s → Region.waitsFor md ops x.e.i y.e.i = true) ∧
      (∀ y ∈ L1, y.e.mkr = true → y.e.c ∉ x.e.hs → Anc md ops x.e.i y.e.i ∧ ∀ z ∈ L, y.e.c ∈ z.e.ks → z.e.i = x.e.i ∨ Anc md ops z.e.i x.e.i) ∧
      (∀ c ∈ x.e.ks, c ≠ x.e.c ∧ ∃ y ∈ L1, y.e.c = c ∧ y.e.mkr = true ∧ Region.waitsFor md ops x.e.i y.e.i = true) ∧
      (x.e.mkr = true → ∀ y ∈ L1, y.e.mkr = true → y.e.c ≠ x.e.c) ∧
      (x.e.tk = true → takeB o = true ∧ ∀ y ∈ L, y.e.i = x.e.i ∨ Region.waitsFor md ops y.e.i x.e.i = true ∨ Anc md ops x.e.i y.e.i ∨ ∀ oj, ops[y.e.i]? = some oj → o.apart ops oj = true) := by
    intro L1 x L2 he
    have hx : x ∈ L := by rw [he]; simp
    have h := planB_at (L.map Ent.e) [] (L1.map Ent.e) x.e (L2.map Ent.e) hB (by rw [he]; simp)
    obtain ⟨o, V, σ, h1, h2⟩ := hmy x hx
    have hd := mY_dst h2
    unfold chk at h
    simp only [h1, hd, Bool.and_eq_true, List.append_nil, List.all_eq_true, List.mem_reverse, List.any_eq_true, beq_iff_eq, bne_iff_ne, ne_eq, Bool.or_eq_true, Bool.not_eq_true', decide_eq_true_eq, memN_iff, List.mem_map, forall_exists_index, and_imp, forall_apply_eq_imp_iff₂, List.mem_cons, forall_eq_or_imp] at h
    obtain ⟨⟨⟨⟨⟨⟨⟨k1, k2⟩, k3⟩, k4⟩, k5⟩, k6⟩, k7⟩, k8⟩ := h
    have hL1 : ∀ y ∈ L1, y ∈ L := fun y hy => by rw [he]; simp [hy]
    refine ⟨o, h1, hd, k1, fun hm => k2.resolve_left (by rw [hm]; simp), fun y hy e => k3 y hy (by rw [hdst y (hL1 y hy), e]), fun s hs => ⟨fun y hy e => ?_, fun y hy e => ?_⟩, fun y hy hm hc => ?_, fun c hc => ?_, fun hm y hy hym => ?_, fun hm => ?_⟩
    · obtain ⟨q1, _⟩ := k4 s hs
      rcases List.mem_cons.1 hy with rfl | hy
      · exact q1.1 (by rw [hdst y hx, e])
      · exact q1.2 y hy (by rw [hdst y (by rw [he]; simp [hy]), e])
    · obtain ⟨_, q2⟩ := k4 s hs
      exact (q2 y hy).resolve_left fun h => h (by rw [hdst y (hL1 y hy), e])
    · rcases k5 y hy with (q | q) | q
      · rw [hm] at q; cases q
      · exact absurd q hc
      · refine ⟨ancB_ok hA q.1, fun z hz hzk => ?_⟩
        rcases q.2 z hz with (q2 | q2) | q2
        · exact absurd (memN_iff.2 hzk) (by rw [q2]; simp)
        · exact .inl q2
        · exact .inr (ancB_ok hA q2)
    · obtain ⟨q1, p, ⟨y, hy, rfl⟩, q2⟩ := k6 c hc
      exact ⟨q1, y, hy, q2.1.1, q2.1.2, q2.2⟩
    · rcases k7 with q | q
      · rw [hm] at q; cases q
      · exact (q y hy).resolve_left (by rw [hym]; simp)
    · rcases k8 with q | ⟨q1, q2⟩
      · rw [hm] at q; cases q
      · refine ⟨q1, fun y hy => ?_⟩
        rcases q2 y hy with ((q | q) | q) | q
        · exact .inl q
        · exact .inr (.inl q)
        · exact .inr (.inr (.inl (ancB_ok hA q)))
        · refine .inr (.inr (.inr fun oj hoj => ?_))
          rw [hoj] at q
          exact q
  have dst : ∀ x ∈ L, ∀ y ∈ L, x.u.d = y.u.d → x = y := fun x hx y hy e => by
    rcases two_places hx hy with h | ⟨L1, L2, h, hm⟩ | ⟨L1, L2, h, hm⟩
    · exact h
    · obtain ⟨_, _, _, _, _, q, _⟩ := hchk L1 x L2 h
      exact absurd e.symm (q y hm)
    · obtain ⟨_, _, _, _, _, q, _⟩ := hchk L1 y L2 h
      exact absurd e (q x hm)
  have idx : ∀ x ∈ L, ∀ y ∈ L, x.e.i = y.e.i → x = y := fun x hx y hy e => dst x hx y hy (by
    have h1 := hdst x hx
    rw [e, hdst y hy] at h1
    exact (Option.some.inj h1).symm)
  have made : ∀ x ∈ L, x.u.obj ≠ none → x.e.mkr = true := fun x hx hob => by
    obtain ⟨L1, L2, he⟩ := List.append_of_mem hx
    obtain ⟨o, h1, h2, h3, _⟩ := hchk L1 x L2 he
    obtain ⟨o', V, σ, k1, k2⟩ := hmy x hx
    have : o' = o := Option.some.inj (k1.symm.trans h1)
    subst this
    rw [h3]
    rcases k2 with ⟨q, _⟩ | ⟨_, _, _, _, p, obj, q, _⟩
    · exact absurd q hob
    · exact aVal_mk q
  have ksOf : ∀ x ∈ L, ∀ k, x.u.kill = some k → ∃ c ∈ x.e.ks, k = n0 + c := fun x hx k hk => by
    obtain ⟨o', V, σ, k1, k2⟩ := hmy x hx
    rcases k2 with ⟨_, q, _⟩ | ⟨_, _, _, q, _⟩
    · rw [hk] at q; cases q
    · obtain ⟨c, hc, rfl⟩ := List.mem_map.1 (q k hk)
      exact ⟨c, hc, rfl⟩
  have room : ∀ x ∈ L, x.e.mkr = true → x.e.c < m := fun x hx => by
    obtain ⟨L1, L2, he⟩ := List.append_of_mem hx
    obtain ⟨_, _, _, _, q, _⟩ := hchk L1 x L2 he
    exact q
  have G : PlanOk md ops n0 σ0.H.length L := by
    refine ⟨dst, idx, fun x hx y hy hxm hym e => ?_, made, fun x hx => ?_, fun x hx k hk => ?_⟩
    · rcases two_places hx hy with h | ⟨L1, L2, h, hm⟩ | ⟨L1, L2, h, hm⟩
      · exact h
      · obtain ⟨_, _, _, _, _, _, _, _, _, q, _⟩ := hchk L1 x L2 h
        exact absurd e.symm (q hxm y hm hym)
      · obtain ⟨_, _, _, _, _, _, _, _, _, q, _⟩ := hchk L1 y L2 h
        exact absurd e (q hym x hm hxm)
    · by_cases hob : x.u.obj = none
      · exact .inr hob
      · left
        have := room x hx (made x hx hob)
        rw [hlen]; omega
    · obtain ⟨c, hc, rfl⟩ := ksOf x hx k hk
      obtain ⟨L1, L2, he⟩ := List.append_of_mem hx
      obtain ⟨o, h1, h2, _, _, hne, _, _, q, _⟩ := hchk L1 x L2 he
      obtain ⟨_, y, hy, rfl, q2, q3⟩ := q c hc
      exact ⟨y, by rw [he]; simp [hy], rfl, q2, fun e => hne y hy (by rw [e]), .one q3⟩
  have prefixJS : ∀ L1 L2, L = L1 ++ L2 → JS n0 σ0 L (fun i => ∃ y ∈ L1, y.e.i = i) (stF n0 σ0 L1) := by
    refine rev_ind (fun L2 _ => (JS.init hr).congr fun x _ => by simp) fun L1 x ih L2 he => ?_
    · skip
      have he' : L = L1 ++ x :: L2 := by rw [he]; simp
      have hj := ih (x :: L2) he'
      have hx : x ∈ L := by rw [he']; simp
      obtain ⟨r1, r2⟩ := lexR_split (md := md) (ops := ops) (L1.map fun x => x.e.i) x.e.i (L2.map fun x => x.e.i) listed0 hcl0 (by rw [he'] at hlex; simpa using hlex)
      have isIn : ∀ y ∈ L, (setAll (L1.map fun x => x.e.i) listed0).getD y.e.i false = true → ∃ z ∈ L1, z.e.i = y.e.i := fun y hy h => by
        have := setAll_in _ _ _ (hun y hy) h
        simpa using this
      have inIs : ∀ y ∈ L, (∃ z ∈ L1, z.e.i = y.e.i) → (setAll (L1.map fun x => x.e.i) listed0).getD y.e.i false = true := fun y hy h => setAll_mem _ _ _ (hsz y hy) (by simpa using h)
      have hs := hj.step G hx (fun h => ?_) (fun y hy ha => isIn y hy (ha.ready r2 r1)) (fun y hy hys z hz ha => isIn z hz (ha.lst r2 (inIs y hy hys)))
      · rw [stF_append]
        exact hs.congr fun y _ => by
          simp only [List.mem_append, List.mem_singleton]
          constructor
          · rintro (⟨z, hz, e⟩ | e)
            · exact ⟨z, .inl hz, e⟩
            · exact ⟨x, .inr rfl, e.symm⟩
          · rintro ⟨z, hz | rfl, e⟩
            · exact .inl ⟨z, hz, e⟩
            · exact .inr e.symm
      · obtain ⟨z, hz, e⟩ := h
        obtain ⟨_, _, _, _, _, q, _⟩ := hchk L1 x L2 he'
        have : z = x := idx z (by rw [he']; simp [hz]) x hx e
        exact q z hz (by rw [this])
  refine ⟨G, fun x hx => ?_, fun x hx c hc => ?_, ?_, room, fun x hx ht => ?_⟩
  · obtain ⟨L1, L2, he⟩ := List.append_of_mem hx
    obtain ⟨o, h1, h2, h3, h4, h5, h6, h7, h8, h9⟩ := hchk L1 x L2 he
    obtain ⟨o', k1, k2⟩ := hseen L1 x L2 he
    have : o' = o := Option.some.inj (k1.symm.trans h1)
    subst this
    refine ⟨o', _, _, h1, prefixJS L1 (x :: L2) he, k2, fun s hs y hy e => ?_, fun y hy hys hm hc => ?_⟩
    · obtain ⟨q1, q2⟩ := h6 s hs
      rw [he] at hy
      rcases List.mem_append.1 hy with hy | hy
      · exact ⟨⟨y, hy, rfl⟩, q2 y hy e⟩
      · exact absurd e (q1 y hy)
    · obtain ⟨z, hz, e⟩ := hys
      have : z = y := idx z (by rw [he]; simp [hz]) y hy e
      subst this
      obtain ⟨q1, q2⟩ := h7 z hz hm hc
      refine ⟨q1, fun v hv hk => ?_⟩
      obtain ⟨c, hc, hk'⟩ := ksOf v hv _ hk
      have : z.e.c = c := by omega
      subst this
      exact (q2 v hv hc).imp (fun e => idx v hv x hx e) id
  · obtain ⟨L1, L2, he⟩ := List.append_of_mem hx
    obtain ⟨o, h1, h2, h3, h4, h5, h6, h7, h8, h9⟩ := hchk L1 x L2 he
    exact (h8 c hc).1
  · exact (prefixJS L [] (by simp)).congr fun x hx => ⟨fun _ => trivial, fun _ => ⟨x, hx, rfl⟩⟩
  · obtain ⟨L1, L2, he⟩ := List.append_of_mem hx
    obtain ⟨o, h1, _, _, _, _, _, _, _, _, q⟩ := hchk L1 x L2 he
    exact ⟨o, h1, q ht⟩
end
end Go.Eng
