/-
  The abstract machine: rules for walking a body.
-/
import Derived.Test.YtjldfifepbdlmaaDoorEngN8
set_option linter.unusedSimpArgs false
set_option linter.unusedVariables false
namespace Go.Eng
open Go.RowKit

def regDsts : List Oper → List Nat
  | [] => []
  | o :: os => match o.dst with | some d => d :: regDsts os | none => regDsts os
def codeDsts : Code → List Nat
  | .region _ ops _ => regDsts ops.toList
  | .seq a b => codeDsts a ++ codeDsts b
  | .cond _ a b => codeDsts a ++ codeDsts b
  | .block _ a => codeDsts a
  | .loop a => codeDsts a
  | .scope a => codeDsts a
  | _ => []
def keepSlots (ds : List Nat) : List (Nat × AV) → List (Nat × AV)
  | [] => []
  | s :: l => if memN s.1 ds = true then keepSlots ds l else s :: keepSlots ds l

section
variable {P : Program} {T : Tab} {σ : AState} {Q : APost}
theorem awp_seq (n0 : Nat) (xs : List Nat) {x y : Code} (h : ∀ K : AState → Prop, (∀ σ' τ, σ'.keepS n0 xs = τ → awp P T y τ Q → K σ') → awp P T x σ (APost.then K Q)) : awp P T (.seq x y) σ Q := h _ (fun _ _ e h => ⟨_, _, by rw [e]; exact h⟩)
theorem awp_seq1 (n0 : Nat) (xs : List Nat) {x a b : Code} {t : Nat} (h : ∀ K : AState → Prop, (∀ σ' τ, σ'.keepS n0 (t :: xs) = τ → awp P T (.cond (.tmp t) a b) τ Q → K σ') → awp P T x σ (APost.then K Q)) : awp P T (.seq x (.cond (.tmp t) a b)) σ Q := awp_seq n0 _ h
theorem awp_seq2 (n0 : Nat) (xs : List Nat) {x a b c : Code} {t : Nat} (h : ∀ K : AState → Prop, (∀ σ' τ, σ'.keepS n0 (t :: xs) = τ → awp P T (.seq (.cond (.tmp t) a b) c) τ Q → K σ') → awp P T x σ (APost.then K Q)) : awp P T (.seq x (.seq (.cond (.tmp t) a b) c)) σ Q := awp_seq n0 _ h
theorem awp_seq3 (n0 : Nat) (xs : List Nat) {x a b c : Code} {t id : Nat} (h : ∀ K : AState → Prop, (∀ σ' τ, σ'.keepS n0 (t :: xs) = τ → awp P T (.seq (.block id (.cond (.tmp t) a b)) c) τ Q → K σ') → awp P T x σ (APost.then K Q)) : awp P T (.seq x (.seq (.block id (.cond (.tmp t) a b)) c)) σ Q := awp_seq n0 _ h
theorem awp_seq4 (n0 : Nat) (xs : List Nat) {x a b : Code} {t id : Nat} (h : ∀ K : AState → Prop, (∀ σ' τ, σ'.keepS n0 (t :: xs) = τ → awp P T (.block id (.cond (.tmp t) a b)) τ Q → K σ') → awp P T x σ (APost.then K Q)) : awp P T (.seq x (.block id (.cond (.tmp t) a b))) σ Q := awp_seq n0 _ h
theorem awp_reg {id : Nat} {l : List Oper} (h : aops P T l.toArray l σ (Q .normal)) : awp P T (.region id l.toArray false) σ Q := by simpa [awp] using h
theorem awp_drw {id : Nat} {l : List Oper} (hB : Region.lexB .any l.toArray = true) (_ : hasEff l = false) (h : dopsF P T l.toArray l σ (Q .normal)) : awp P T (.region id l.toArray true) σ Q := by
  simp only [awp, if_true]
  exact .inl ⟨hB, dWalk_of _ _ _ h⟩
def LikeK (Q : APost) (σ : AState) : Prop := ∃ τ, Like τ σ ∧ Q .normal τ
theorem likeK_i (h : Q .normal σ) : LikeK Q σ := ⟨σ, Like.refl σ, h⟩
theorem awp_drwE {id : Nat} {l : List Oper} (h : ∀ is hd tl, splitFrom 0 l false [] [] [] = (is, hd, tl) → edB l.toArray is hd tl = true ∧ iWalk T l.toArray is σ fun σ1 => hWalk P T l.toArray hd σ1 fun σ2 => tWalk P T l.toArray tl σ2 (LikeK Q)) : awp P T (.region id l.toArray true) σ Q := by
  simp only [awp, if_true]
  obtain ⟨h1, h2⟩ := h _ _ _ rfl
  exact .inr (.inl ⟨_, _, _, LikeK Q, fun σ τ hl ⟨υ, k1, k2⟩ => ⟨υ, k1.trans hl, k2⟩, fun σ hk => hk, h1, h2⟩)
theorem awp_drwX {id : Nat} {l : List Oper} {is hd tl : List Nat} (hs : splitFrom 0 l false [] [] [] = (is.reverse, hd.reverse, tl.reverse)) (h1 : edB l.toArray is.reverse hd.reverse tl.reverse = true) (h2 : iWalk T l.toArray is.reverse σ fun σ1 => hWalk P T l.toArray hd.reverse σ1 fun σ2 => tWalk P T l.toArray tl.reverse σ2 (LikeK Q)) : awp P T (.region id l.toArray true) σ Q :=
  awp_drwE fun i h t e => by
    rw [hs] at e
    cases e
    exact ⟨h1, h2⟩
theorem iWalk_nil {ops : Array Oper} {K : AState → Prop} : iWalk T ops [] σ K = K σ := rfl
def iWalkR (T : Tab) (ops : Array Oper) (is : List Nat) (K : AState → Prop) (σ : AState) : Prop := iWalk T ops is σ K
def hWalkR (P : Program) (T : Tab) (ops : Array Oper) (is : List Nat) (K : AState → Prop) (σ : AState) : Prop := hWalk P T ops is σ K
def tWalkR (P : Program) (T : Tab) (ops : Array Oper) (is : List Nat) (K : AState → Prop) (σ : AState) : Prop := tWalk P T ops is σ K
theorem iWalk_cons {ops : Array Oper} {K : AState → Prop} {i : Nat} {is : List Nat} : iWalk T ops (i :: is) σ K = match ops[i]? with | some o => o.guard = none ∧ iStep T o σ (iWalkR T ops is K) | none => False := rfl
theorem hWalk_nil {ops : Array Oper} {K : AState → Prop} : hWalk P T ops [] σ K = K σ := rfl
theorem hWalk_cons {ops : Array Oper} {K : AState → Prop} {i : Nat} {is : List Nat} : hWalk P T ops (i :: is) σ K = match ops[i]? with | some o => dop P T ops o σ (hWalkR P T ops is K) | none => False := rfl
theorem tWalk_nil {ops : Array Oper} {K : AState → Prop} : tWalk P T ops [] σ K = K σ := rfl
theorem tWalk_cons {ops : Array Oper} {K : AState → Prop} {i : Nat} {is : List Nat} : tWalk P T ops (i :: is) σ K = match ops[i]? with | some o => aop P T ops o σ (tWalkR P T ops is K) | none => False := rfl
theorem awp_drwP (hT : TabOk P T) (hm : P.follows .mixedOrders = true) (id : Nat) {l : List Oper} (is : List Nat) (ps : List Ph) (hB : dregB l.toArray is ps = true) (h : iWalk T l.toArray is σ fun σ1 => pWalk P T l.toArray ps σ1 (Q .normal)) : awp P T (.region id l.toArray true) σ Q := by
  simp only [awp, if_true]
  exact .inr (.inr (dreg_sound hT hm hB h))
def pWalkR (P : Program) (T : Tab) (ops : Array Oper) (ps : List Ph) (K : AState → Prop) (σ : AState) : Prop := pWalk P T ops ps σ K
def mWalkR (P : Program) (T : Tab) (ops : Array Oper) (n0 : Nat) (l : List PE) (K : AState → Prop) (σ : AState) : Prop := mWalk P T ops n0 l σ K
theorem pWalk_nil {ops : Array Oper} {K : AState → Prop} : pWalk P T ops [] σ K = K σ := rfl
theorem pWalk_one {ops : Array Oper} {K : AState → Prop} {i : Nat} {ps : List Ph} : pWalk P T ops (.one i :: ps) σ K = match ops[i]? with | some o => aop P T ops o σ (pWalkR P T ops ps K) | none => False := rfl
theorem pWalk_mid {ops : Array Oper} {K : AState → Prop} {l : List PE} {m : Nat} {ps : List Ph} : pWalk P T ops (.mid l m :: ps) σ K = mWalk P T ops σ.H.length l (σ.reserve m) (pWalkR P T ops ps K) := rfl
theorem mWalk_nil {ops : Array Oper} {n0 : Nat} {K : AState → Prop} : mWalk P T ops n0 [] σ K = K σ := rfl
theorem mWalk_cons {ops : Array Oper} {n0 : Nat} {K : AState → Prop} {i c : Nat} {b b1 b2 : Bool} {hs ks : List Nat} {l : List PE} : mWalk P T ops n0 (⟨i, c, b, b1, b2, hs, ks⟩ :: l) σ K = match ops[i]? with | none => False | some o => mop P T ops o (n0 + c) b2 (ks.map (n0 + ·)) (hideH (hs.map (n0 + ·)) σ.H) σ (mWalkR P T ops n0 l K) := rfl
theorem OCallAt_i1 {f : FuncId} {as as' : List AV} {nd : Prop} {d tg : Nat} {K : AState → Prop} {r : AV} (hc : ACalls P f as' r []) (hnd : nd) (hd : d < σ.n) (hs : callSafe as r []) (hr : ∀ n, r.shift n = r) (hK : K (σ.put d r)) : OCallAt P f as as' nd d tg σ K := ⟨.inl ⟨r, ⟨hd, hnd, hc, hs, hr⟩, hK⟩⟩
theorem OCallAt_i2 {f : FuncId} {as as' : List AV} {nd : Prop} {d tg : Nat} {K : AState → Prop} {obj : AObj} (hc : ACalls P f as' (.one (.own 0)) [obj]) (hnd : nd) (hd : d < σ.n) (hs : callSafe as (.one (.own 0)) [obj]) (ht : obj.tagsLt 0 = true) (hK : K ⟨σ.n, (d, .one (.own tg)) :: σ.slots, σ.H.set tg obj, σ.pin⟩) : OCallAt P f as as' nd d tg σ K := ⟨.inr ⟨obj, ⟨hd, hnd, hc, hs, ht⟩, hK⟩⟩
theorem MGCallAt_i {g : Bool} {f : FuncId} {as as' : List AV} {nd : Prop} {d : Nat} {K : AState → Prop} {r : AV} (hc : g = true → ACalls P f as' r []) (hnd : g = true → nd) (hd : d < σ.n) (hs : callSafe as r []) (hr : ∀ n, r.shift n = r) (hK : K (σ.put d (.cond g r))) : MGCallAt P g f as as' nd d σ K := ⟨⟨r, ⟨hd, fun h => ⟨hnd h, hc h, hs, hr⟩⟩, hK⟩⟩
theorem awp_skip (h : Q .normal σ) : awp P T .skip σ Q := h
theorem awp_exit {id : Nat} (h : Q (.exit id) σ) : awp P T (.exit id) σ Q := h
theorem awp_ret (h : Q .ret σ) : awp P T .ret σ Q := h
theorem awp_block {id : Nat} {c : Code} (h : awp P T c σ (APost.blk id Q)) : awp P T (.block id c) σ Q := h
theorem awp_cond {c : Operand} {x y : Code} (b : Bool) (hc : σ.evs c = .one (.bool b)) (hn : (σ.ev c).need) (h1 : b = true → awp P T x σ Q) (h2 : b = false → awp P T y σ Q) : awp P T (.cond c x y) σ Q := by
  simp only [awp, hc]
  exact ⟨hn, h1, h2⟩
def AV.theB : AV → Bool | .one (.bool b) => b | _ => false
theorem awp_cond' {c : Operand} {x y : Code} (hc : σ.evs c = .one (.bool (σ.evs c).theB)) (hn : (σ.ev c).need) (h1 : (σ.evs c).theB = true → awp P T x σ Q) (h2 : (σ.evs c).theB = false → awp P T y σ Q) : awp P T (.cond c x y) σ Q :=
  awp_cond _ hc hn h1 h2
theorem awp_loop {c : Code} (ks : List (Nat × AV)) (hks : keepSlots (codeDsts c) σ.slots = ks) (S : Type) (I : S → Prop) (u : S → List (Nat × AV)) (hh : S → List AObj → List AObj) (μ : S → Nat) (s0 : S) (h0 : I s0)
    (hs : SubF σ ⟨σ.n, u s0 ++ ks, hh s0 σ.H, σ.pin⟩)
    (h : ∀ s, I s → ∀ K : AState → Prop, (∀ σ' s', I s' → SubF σ' ⟨σ.n, u s' ++ ks, hh s' σ.H, σ.pin⟩ → μ s' < μ s → K σ') → awp P T c ⟨σ.n, u s ++ ks, hh s σ.H, σ.pin⟩ (APost.then K Q)) : awp P T (.loop c) σ Q :=
  ⟨S, I, fun s => ⟨σ.n, u s ++ ks, hh s σ.H, σ.pin⟩, μ, s0, [], h0, ⟨trivial, hs⟩, fun s hI => h s hI _ fun σ' s' h1 h2 h3 => ⟨s', h1, h2, h3⟩⟩
/-- .. where nil becomes a slice of one's own first -/
theorem awp_loopT {c : Code} (ths : List Thaw) (ks : List (Nat × AV)) (hks : keepSlots (codeDsts c) σ.slots = ks) (S : Type) (I : S → Prop) (u : S → List (Nat × AV)) (hh : S → List AObj) (μ : S → Nat) (s0 : S) (h0 : I s0)
    (hs : thawsOk ths σ ∧ SubF (AState.thaw ths σ) ⟨σ.n, u s0 ++ ks, hh s0, σ.pin⟩)
    (h : ∀ s, I s → ∀ K : AState → Prop, (∀ σ' s', I s' → SubF σ' ⟨σ.n, u s' ++ ks, hh s', σ.pin⟩ → μ s' < μ s → K σ') → awp P T c ⟨σ.n, u s ++ ks, hh s, σ.pin⟩ (APost.then K Q)) : awp P T (.loop c) σ Q :=
  ⟨S, I, fun s => ⟨σ.n, u s ++ ks, hh s, σ.pin⟩, μ, s0, ths, h0, hs, fun s hI => h s hI _ fun σ' s' h1 h2 h3 => ⟨s', h1, h2, h3⟩⟩
def aopsR (P : Program) (T : Tab) (ops : Array Oper) (rest : List Oper) (K : AState → Prop) (σ : AState) : Prop := aops P T ops rest σ K
def dopsR (P : Program) (T : Tab) (ops : Array Oper) (rest : List Oper) (K : AState → Prop) (σ : AState) : Prop := dopsF P T ops rest σ K
theorem aops_nil {ops : Array Oper} {K : AState → Prop} : aops P T ops [] σ K = K σ := rfl
theorem aops_cons {ops : Array Oper} {K : AState → Prop} {o : Oper} {rest : List Oper} : aops P T ops (o :: rest) σ K = aop P T ops o σ (aopsR P T ops rest K) := rfl
theorem dopsF_nil {ops : Array Oper} {K : AState → Prop} : dopsF P T ops [] σ K = K σ := rfl
theorem dopsF_cons {ops : Array Oper} {K : AState → Prop} {o : Oper} {rest : List Oper} : dopsF P T ops (o :: rest) σ K = dop P T ops o σ (dopsR P T ops rest K) := rfl
theorem CallAt_i {f : FuncId} {as as' : List AV} {nd : Prop} {fo : Operand} {args : List Operand} {d : Nat} {K : AState → Prop} {r : AV} {Hn : List AObj} (hc : ACalls P f as' r Hn) (hnd : nd) (hd : d < σ.n) (hs : callSafe as r Hn)
    (hK : K ⟨σ.n, (d, r.shift σ.H.length) :: σ.slots, σ.H ++ Hn, σ.pin⟩) : CallAt P f as as' nd fo args d σ K := ⟨.inl ⟨r, Hn, ⟨⟨hnd, hd⟩, hc, hs⟩, hK⟩⟩
/-- what a call asks that turns what it is handed -/
def mside (σ : AState) (fo : Operand) (args : List Operand) (ts : List Nat) (p : Nat) (f : FuncId) (as' : List AV) (Hin : List AObj) (d : Nat) : Prop :=
  (match callee σ fo args with | some (f', as) => f' = f ∧ as.map (AV.ren (idxIn ts)) = as' | none => False) ∧ needs σ (fo :: args) ∧ d < σ.n ∧ handOk σ ts p ∧ handIn ts σ.H = Hin
theorem MCallAt_i (frz ts : List Nat) {f f' : FuncId} {as as' args1 : List AV} {nd : Prop} {fo : Operand} {args : List Operand} {d p : Nat} {K : AState → Prop} {r : AV} {Hin Hout : List AObj} (hc : MCalls P f' p Hin args1 r Hout)
    (hm : mside (AState.freezeAll frz σ) fo args ts p f' args1 Hin d) (hK : K (((AState.freezeAll frz σ).handed ts p Hout).put d (r.ren (nthT ts)))) : CallAt P f as as' nd fo args d σ K := by
  obtain ⟨h1, h2, h3, h4, h5⟩ := hm
  split at h1
  · rename_i g as1 he
    obtain ⟨rfl, rfl⟩ := h1
    subst h5
    exact ⟨.inr ⟨_, ts, p, g, as1, r, Hout, fun _ _ _ _ _ β h => Sim.freezeAll frz σ β h, ⟨he, h2, h3, h4⟩, hc, hK⟩⟩
  · exact h1.elim
/-- .. where nil becomes a slice of one's own first -/
theorem MCallAt_T (ths : List Thaw) (frz ts : List Nat) {f f' : FuncId} {as as' args1 : List AV} {nd : Prop} {fo : Operand} {args : List Operand} {d p : Nat} {K : AState → Prop} {r : AV} {Hin Hout : List AObj} (hc : MCalls P f' p Hin args1 r Hout) (ht : thawsOk ths σ)
    (hm : mside (AState.freezeAll frz (AState.thaw ths σ)) fo args ts p f' args1 Hin d) (hK : K (((AState.freezeAll frz (AState.thaw ths σ)).handed ts p Hout).put d (r.ren (nthT ts)))) : CallAt P f as as' nd fo args d σ K := by
  obtain ⟨h1, h2, h3, h4, h5⟩ := hm
  split at h1
  · rename_i g as1 he
    obtain ⟨rfl, rfl⟩ := h1
    subst h5
    exact ⟨.inr ⟨_, ts, p, g, as1, r, Hout, fun _ _ _ _ _ β h => by obtain ⟨β1, h1⟩ := Sim.thaw ths σ β h ht; exact Sim.freezeAll frz _ β1 h1, ⟨he, h2, h3, h4⟩, hc, hK⟩⟩
  · exact h1.elim
theorem GCallAt_i {g : Bool} {f : FuncId} {as as' : List AV} {nd : Prop} {fo : Operand} {args : List Operand} {d : Nat} {K : AState → Prop} {r : AV} (hc : g = true → ACalls P f as' r []) (hnd : g = true → nd) (hd : d < σ.n) (hs : callSafe as r [])
    (hK : K (σ.put d (.cond g (r.shift σ.H.length)))) : GCallAt P g f as as' nd fo args d σ K := ⟨.inl ⟨r, ⟨hd, fun h => ⟨hnd h, hc h, hs⟩⟩, hK⟩⟩
theorem DGCallAt_i {g : Bool} {f : FuncId} {as as' : List AV} {nd : Prop} {d : Nat} {K : AState → Prop} {r : AV} (hc : g = true → ACalls P f as' r []) (hnd : g = true → nd) (hd : d < σ.n) (hs : callSafe as r [])
    (hK : K (σ.put d (.cond g (r.shift σ.H.length)))) : DGCallAt P g f as as' nd d σ K := ⟨⟨r, ⟨hd, fun h => ⟨hnd h, hc h, hs⟩⟩, hK⟩⟩
/-- .. the two cases apart -/
theorem GCallAt_split (v : AV) {g : Bool} {f : FuncId} {as as' : List AV} {nd : Prop} {fo : Operand} {args : List Operand} {d : Nat} {K : AState → Prop} (h1 : g = true → CallAt P f as as' nd fo args d σ K) (h2 : g = false → d < σ.n ∧ K (σ.put d (.cond false v))) : GCallAt P g f as as' nd fo args d σ K := ⟨.inr ⟨h1, fun h => ⟨v, h2 h⟩⟩⟩
theorem DCallAt_i {f : FuncId} {as as' : List AV} {nd : Prop} {d : Nat} {K : AState → Prop} {r : AV} (hc : ACalls P f as' r []) (hnd : nd) (hd : d < σ.n) (hs : callSafe as r [])
    (hK : K (σ.put d (r.shift σ.H.length))) : DCallAt P f as as' nd d σ K := ⟨⟨r, ⟨hd, hnd, hc, hs⟩, hK⟩⟩
theorem GCallAt_no {f : FuncId} {as as' : List AV} {nd : Prop} {fo : Operand} {args : List Operand} {d : Nat} {K : AState → Prop} (hd : d < σ.n) (hK : K (σ.put d (.cond false .any))) : GCallAt P false f as as' nd fo args d σ K := ⟨.inl ⟨.any, ⟨hd, fun h => by cases h⟩, hK⟩⟩
theorem nilK_i {rows : List (List D)} {t : Bool} {k : Bool → Prop} (h : ∀ b, (b = t → rows = []) → k b) : NilK rows t k := h
theorem gsplit_i {o : Oper} {g : Bool} {K : AState → Prop} (h1 : g = true → aop1 P T o σ K) (h2 : g = false → match o.dst with | some d => d < σ.n ∧ K (σ.put d (.cond false .any)) | none => False) : gsplit P T g o σ K := ⟨h1, h2⟩
theorem then_normal (K : AState → Prop) (σ : AState) : APost.then K Q .normal σ = K σ := rfl
theorem then_ret (K : AState → Prop) (σ : AState) : APost.then K Q .ret σ = Q .ret σ := rfl
theorem then_exit (K : AState → Prop) (σ : AState) (id : Nat) : APost.then K Q (.exit id) σ = Q (.exit id) σ := rfl
theorem blk_normal (id : Nat) (σ : AState) : APost.blk id Q .normal σ = Q .normal σ := rfl
theorem blk_ret (id : Nat) (σ : AState) : APost.blk id Q .ret σ = Q .ret σ := rfl
theorem blk_exit (id id' : Nat) (σ : AState) : APost.blk id Q (.exit id') σ = if id' = id then Q .normal σ else Q (.exit id') σ := rfl
/-- how truth values read as propositions (for the walk's side conditions) -/
theorem bls : ((¬True) = False) ∧ (∀ p : Prop, (p ∨ p) = p) ∧ (∀ p : Prop, (False ∨ p) = p) ∧ (∀ p : Prop, (p ∨ False) = p) ∧ (∀ (p : Prop) [Decidable p], (decide p = true) = p) ∧ (∀ (p : Prop) [Decidable p], (decide p = false) = ¬p) ∧
    (∀ a b : Bool, ((a && b) = true) = (a = true ∧ b = true)) ∧ (∀ a b : Bool, ((a || b) = true) = (a = true ∨ b = true)) ∧ (∀ a b : Bool, ((a && b) = false) = (a = false ∨ b = false)) ∧ (∀ a b : Bool, ((a || b) = false) = (a = false ∧ b = false)) ∧
    (∀ b : Bool, ((!b) = true) = (b = false)) ∧ (∀ b : Bool, ((!b) = false) = (b = true)) ∧ (∀ (α : Type) [BEq α] [LawfulBEq α] (a b : α), ((a == b) = true) = (a = b)) ∧ (∀ (α : Type) [BEq α] [LawfulBEq α] (a b : α), ((a != b) = true) = (¬ a = b)) ∧
    (∀ (α : Type) [BEq α] [LawfulBEq α] (a b : α), ((a == b) = false) = (¬ a = b)) ∧ (∀ (α : Type) [BEq α] [LawfulBEq α] (a b : α), ((a != b) = false) = (a = b)) ∧ (∀ a b : Int, (¬ a < b) = (b ≤ a)) ∧ (∀ a b : Int, (¬ a ≤ b) = (b < a)) ∧ (∀ (α : Type) (a b : α), (a ≠ b) = ¬ a = b) := by
  refine ⟨by simp, by simp, by simp, by simp, fun p _ => by simp, fun p _ => by simp, by simp, by simp, by simp, by simp, by simp, by simp, fun α _ _ a b => by simp, fun α _ _ a b => by simp, fun α _ _ a b => by simp, fun α _ _ a b => by simp, fun a b => propext Int.not_lt, fun a b => propext Int.not_le, fun _ _ _ => rfl⟩
theorem bif_and (b c : Bool) : (bif b then c else false) = (b && c) := by cases b <;> rfl
theorem bif_or (b c : Bool) : (bif b then true else c) = (b || c) := by cases b <;> rfl
theorem beq_true' (b : Bool) : (b == true) = b := by cases b <;> rfl
theorem beq_false' (b : Bool) : (b == false) = !b := by cases b <;> rfl
end
def hInR (f : Nat → Option Nat) (H : List AObj) : List Nat → List AObj
  | [] => []
  | t :: ts => (H.getD t .gone).ren f :: hInR f H ts
theorem handIn_R (ts : List Nat) (H : List AObj) : handIn ts H = hInR (idxIn ts) H ts := by
  have : ∀ (f : Nat → Option Nat) (l : List Nat), l.map (fun t => (H.getD t .gone).ren f) = hInR f H l := by
    intro f l
    induction l with
    | nil => rfl
    | cons t l ih => rw [List.map_cons, ih]; rfl
  exact this _ _
/-! ### encoders -/
def ints (xs : List Int) : List (List D) := xs.map fun z => [.int .i64 z]
theorem ints_length (xs : List Int) : (ints xs).length = xs.length := by simp [ints]
theorem ints_getD (xs : List Int) (k : Nat) : (ints xs).getD k [.int .i64 0] = [.int .i64 (xs.getD k 0)] := by
  simp only [ints, List.getD, List.getElem?_map]
  cases xs[k]? <;> rfl
theorem ints_append (xs ys : List Int) : ints xs ++ ints ys = ints (xs ++ ys) := by simp [ints]
theorem ints_nil : ([] : List (List D)) = ints [] := rfl
theorem ints_one (z : Int) : [[D.int .i64 z]] = ints [z] := rfl
theorem ints_size (xs : List Int) : ∀ r ∈ ints xs, r.length = 1 := by
  intro r hr
  obtain ⟨z, _, rfl⟩ := List.mem_map.1 hr
  rfl
theorem ints_sz (xs : List Int) : (∀ r : List D, r ∈ ints xs → r.length = 1) ↔ True := ⟨fun _ => trivial, fun _ => ints_size xs⟩
theorem ints_take (xs : List Int) (k : Nat) : (ints xs).take k = ints (xs.take k) := by simp [ints]
theorem ints_drop (xs : List Int) (k : Nat) : (ints xs).drop k = ints (xs.drop k) := by simp [ints]
theorem ints_flat (xs : List Int) : ∀ r ∈ ints xs, r.all D.flat = true := by
  intro r hr
  obtain ⟨z, _, rfl⟩ := List.mem_map.1 hr
  rfl
theorem objLt_gone (m : Nat) : AObj.gone.tagsLt m = true := rfl
theorem objLt_row (m : Nat) (e : TypeId) (sz : Nat) (rows : List (List D)) : (AObj.row e sz rows).tagsLt m = true := rfl
theorem objLt_var (m : Nat) (e : TypeId) (cs : List D) : (AObj.var e cs).tagsLt m = cs.all (D.tagsLt m) := rfl
theorem objLt_map (m : Nat) (kd : KeyKind) (kvs : List (AV × AV)) : (AObj.map kd kvs).tagsLt m = kvs.all fun kv => kv.1.tagsLt m && kv.2.tagsLt m := rfl
theorem optArr_none {α : Type} : (none : Option α).toArray.toList = [] := rfl
theorem optArr_some {α : Type} (a : α) : (some a).toArray.toList = [a] := rfl
attribute [go_sem] Nat.reduceLeDiff Nat.reduceSub Int.reduceLT Int.reduceLE Int.reduceAdd Int.reduceSub Int.reduceMul Int.reduceNeg Int.reduceToNat Int.cast_ofNat_Int Int.reduceEq Int.reduceBEq Int.reduceNe Nat.reduceBEq decide_true decide_false
attribute [go_sem] D.pure
attribute [go_sem] optArr_none optArr_some ints_sz ints_take ints_drop
attribute [go_sem] AState.keepS keepL
attribute [go_sem ↓] reduceIte reduceDIte
attribute [go_sem] pWalk_nil pWalk_one pWalk_mid pWalkR mWalk_nil mWalk_cons mWalkR AState.reserve hideH mop mop1 mopG mAlloc mBox mMake mMap mAppend mcstep mgcstep nstepV gnstepV isVarAt isRowAt Nat.add_zero Nat.zero_add Bool.true_eq_false ite_true ite_false
attribute [go_sem] iWalk_nil iWalk_cons hWalk_nil hWalk_cons tWalk_nil tWalk_cons iWalkR hWalkR tWalkR iStep
attribute [go_sem] D.tags0 D.tags AV.tags AObj.tags slotTags objTags AState.pare newTags tagsOf dropObjs pickS slotIds isRow isVar AState.thaw AState.thaw1 thawOk thawsOk AState.handed handOut handIn_R hInR idxIn nthT keepT AV.ren D.ren D.ren0 AObj.ren tAppendAt tNilCmp resIds AState.withObjs Nat.zero_le
attribute [go_sem] nilV aop aop1 aopG guardAV nstep gnstep pstep gpstep cstep gcstep callee tAlloc tBox tNil tBuildSlice tMake tStore tAppend srcRows aval maxV minV bytesOf convBytes isSplit AV.str? pickV binV intBin boolBin strBin unV fieldAddrV fieldOff indexAddrV loadAtV loadV indexV fieldV partV extractV lenV bounds sliceV convV capsV makeFuncV buildV fillD Eng.setAt chunks sliceRows sliceCells AV.cells? AV.denil AV.strip AV.need AV.says AV.isB needs AState.ev AState.evs AState.put AState.pushObj AState.setObj AState.fz AState.freezeAll AState.freeze lookS constAV List.append_toArray Array.toList_append TyRow.isAgg Op.operands Call.operands D.fz D.fz0 AV.fz AObj.fz D.owns AV.owns then_normal then_ret then_exit blk_normal blk_ret blk_exit bif_and bif_or beq_true' beq_false' fits_i64 fits_u8 fits_u32 fits_i8 Nat.reduceEqDiff reduceCtorEq if_true if_false Option.getD_some Option.getD_none Option.bind_some Option.bind_none Option.map_some Option.map_none List.map_cons List.map_nil List.cons_append List.nil_append List.append_nil List.length_cons List.length_nil List.getElem?_cons_zero List.getElem?_cons_succ List.getElem?_nil List.getElem?_toArray List.toList_toArray List.flatMap_cons List.flatMap_nil List.replicate List.flatten_cons List.flatten_nil List.take_succ_cons List.take_zero List.drop_succ_cons List.drop_zero List.take_nil List.drop_nil List.headD_cons List.getD_cons_zero List.getD_cons_succ List.set_cons_zero List.set_cons_succ List.all_cons List.all_nil and_true true_and ne_eq not_false_eq_true Nat.reduceLT Nat.reduceAdd Nat.reduceMul Nat.zero_lt_succ Int.toNat_natCast ints_length ints_getD forall_const codeDsts regDsts memN keepSlots SubA subSlots subH subObj AV.tagsLt D.tagsLt D.tagsLt0 objLt_gone objLt_row objLt_var objLt_map slotsOf Bool.false_eq_true Option.some.injEq AV.one.injEq AV.agg.injEq AV.tup.injEq D.int.injEq D.bool.injEq D.str.injEq D.list.injEq D.own.injEq List.cons.injEq AObj.row.injEq implies_true imp_self and_self Bool.not_eq_eq_eq_not Bool.not_true Bool.not_false tMakeMap tUpdate lookupV keyDesc plainKey TyRow.zeroV Option.isSome_some Option.isSome_none structV eqRow eqD plainRows likeD beq_self_eq_true Bool.true_and Bool.and_true Bool.and_self aops_nil aops_cons aopsR dopsF_nil dopsF_cons dopsR dop dop1 dopG dgcstep dcstep AV.bor D.bor D.bor1 D.bor0 AV.shift D.shift D.shift0 List.isEmpty_nil List.map_map List.mem_cons List.not_mem_nil or_false forall_eq forall_eq_or_imp false_or List.forall_mem_cons
end Go.Eng
