/-
 The abstract machine over data, part 5: a region that draws its order, where the first operations are walked in every order; phases follow.
-/
import Derived.Test.YtljpfdehnjemlaaGreatDoorE3
set_option linter.unusedSimpArgs false
set_option linter.unusedVariables false
namespace Go.Eng
open Go.RowKit
inductive OT where
 | leaf
 | nil
 | alt (i : Nat) (n m : OT)
def OT.ids : OT → List Nat
 | .alt i _ m => i :: m.ids
 | _ => []
def OT.deep : OT → Nat → Bool
 | .leaf, k => k == 0
 | .nil, k => k != 0
 | .alt _ n m, k => (match k with | 0 => false | k + 1 => n.deep k) && m.deep k
def otB (md : Region.Mode) (ops : Array Oper) (e : Array Bool → Bool) : Bool → OT → Array Bool → Bool
 | _, .leaf, listed => e listed
 | hd, .nil, _ => !hd
 | hd, .alt i n m, listed => (!hd || ((Region.ready md ops listed).all (fun j => (i :: m.ids).contains j) && !(Region.ready md ops listed).isEmpty)) && otB md ops e true n (listed.setIfInBounds i true) && otB md ops e false m listed
def otW (P : Program) (T : Tab) (ops : Array Oper) (ps : List Ph) (K : AState → Prop) : OT → AState → Prop
 | .leaf, σ => pWalk P T ops ps σ K
 | .nil, _ => True
 | .alt i n m, σ => (match ops[i]? with | some o => aop P T ops o σ (otW P T ops ps K n) | none => False) ∧ otW P T ops ps K m σ
def otEnd (A : List (Nat × List Nat)) (ops : Array Oper) (ps : List Ph) (listed : Array Bool) : Bool :=
 phsB A .any ops ps listed && nodupB (idsOf ps) && (idsOf ps).all (fun j => decide (j < ops.size) && !listed.getD j true) && (List.range ops.size).all (fun j => listed.getD j true || memN j (idsOf ps))
section
variable {P : Program} {T : Tab} {W0 w : World} {M0 : Nat → Prop} {F : List Value} {σ : AState} {a : Act} {ops : Array Oper} {Q : Exit → Act → World → Prop} {K : AState → Prop} {A : List (Nat × List Nat)} {ps : List Ph}
theorem ot_pick {e : Array Bool → Bool} {listed : Array Bool} {k j : Nat} : ∀ {t : OT} {hd : Bool}, otB .any ops e hd t listed = true → t.deep (k + 1) = true → otW P T ops ps K t σ → j ∈ t.ids →
  ∃ n : OT, otB .any ops e true n (listed.setIfInBounds j true) = true ∧ n.deep k = true ∧ (match ops[j]? with | some o => aop P T ops o σ (otW P T ops ps K n) | none => False)
 | .leaf, _, _, hd, _, _ => by simp [OT.deep] at hd
 | .nil, _, _, _, _, hj => by simp [OT.ids] at hj
 | .alt i n m, hd, hB, hdp, hw, hj => by
  simp only [otB, Bool.and_eq_true] at hB
  simp only [OT.deep, Bool.and_eq_true] at hdp
  obtain ⟨⟨_, hBn⟩, hBm⟩ := hB
  rcases List.mem_cons.1 hj with rfl | hj
  ·exact ⟨n, hBn, hdp.1, hw.1⟩
  ·exact ot_pick hBm hdp.2 hw.2 hj
theorem ot_run (hT : TabOk P T) (hsel : Region.noSelect ops = true) (hQp : ∀ c a w, ¬ Q (.panic c) a w) (hA : AncOk .any ops A) (hk : ∀ σ' a' w', K σ' → SimS W0 M0 F σ' a' w' → Q .normal a' w') : ∀ (k : Nat) (t : OT) (listed : Array Bool) (σ : AState) (a : Act) (w : World), SimS W0 M0 F σ a w → listed.size = ops.size → Closed .any ops listed →
  otB .any ops (otEnd A ops ps) true t listed = true → t.deep k = true → otW P T ops ps K t σ → wpAny P .any ops Q (k + (idsOf ps).length) listed a w
 | 0, t, listed, σ, a, w, hs, hsz, hc, hB, hd, hw => by
  cases t with
  | nil => simp [OT.deep] at hd
  | alt i n m => simp [OT.deep] at hd
  | leaf =>
   rw [Nat.zero_add]
   simp only [otB, otEnd, Bool.and_eq_true, List.all_eq_true, decide_eq_true_eq, Bool.not_eq_true', Bool.or_eq_true, memN_iff] at hB
   obtain ⟨⟨⟨h1, h2⟩, h3⟩, h4⟩ := hB
   refine phs_run hT hsel hQp hA ps listed σ a w hs ⟨hsz, hc, h3, fun j hj hl => ?_⟩ (nodupB_iff h2) h1 hw hk
   rcases h4 j (List.mem_range.2 hj) with h | h
   ·rw [h] at hl; cases hl
   ·exact h
 | k + 1, t, listed, σ, a, w, hs, hsz, hc, hB, hd, hw => by
  have hB' := hB
  cases t with
  | leaf => simp [OT.deep] at hd
  | nil => simp [otB] at hB
  | alt i n m =>
   simp only [otB, Bool.not_true, Bool.false_or, Bool.and_eq_true, List.all_eq_true] at hB
   obtain ⟨⟨⟨hall, hne⟩, _⟩, _⟩ := hB
   rw [show k + 1 + (idsOf ps).length = k + (idsOf ps).length + 1 by omega]
   refine ⟨fun h0 => by rw [h0] at hne; simp at hne, fun j hj => ?_⟩
   have hji : j ∈ (OT.alt i n m).ids := by simpa [OT.ids] using hall j hj
   obtain ⟨u, hu1, hu2, hu3⟩ := ot_pick hB' hd hw hji
   cases ho : ops[j]? with
   | none => rw [ho] at hu3; exact hu3.elim
   | some o =>
    rw [ho] at hu3
    have := aop_sound (Q := Q) hT hs hu3 (Kc := wpAny P .any ops Q (k + (idsOf ps).length) (listed.setIfInBounds j true)) fun σ' a' w' h1 h2 => ot_run hT hsel hQp hA hk k u _ σ' a' w' h2 (by simp [hsz]) (hc.set hj) hu1 hu2 h1
    unfold wpOp
    rw [ho]
    simp only
    split
    ·rename_i hw'; rw [if_pos hw'] at this; exact .inl this
    ·rename_i hw'; rw [if_neg hw'] at this; exact this
end
def oregB (ops : Array Oper) (is : List Nat) (t : OT) (ps : List Ph) (k : Nat) : Bool :=
 Region.noSelect ops && lexI .any ops is (Array.replicate ops.size false) && otB .any ops (otEnd (ancAll ops) ops ps) true t (setAll is (Array.replicate ops.size false)) && t.deep k && decide (k + (idsOf ps).length + is.length = ops.size)
section
variable {P : Program} {T : Tab} {σ : AState} {ops : Array Oper} {K : AState → Prop} {Q : APost}
theorem oreg_sound (hT : TabOk P T) (hm : P.follows .mixedOrders = true) {is : List Nat} {t : OT} {ps : List Ph} {k : Nat} (hB : oregB ops is t ps k = true) (hw : iWalk T ops is σ fun σ1 => otW P T ops ps K t σ1) : SemReg P ops σ K := by
 intro W0 M0 F a w Q id h hq
 simp only [oregB, Bool.and_eq_true, decide_eq_true_eq] at hB
 obtain ⟨⟨⟨⟨hsel, hli⟩, hot⟩, hdp⟩, hnum⟩ := hB
 obtain ⟨Q', hQ'⟩ : ∃ Q' : Exit → Act → World → Prop, Q' = fun e a w => e = .normal ∧ Q .normal a w := ⟨_, rfl⟩
 have hmono : ∀ e a w, Q' e a w → Q e a w := fun e a w hh => by rw [hQ'] at hh; obtain ⟨rfl, h2⟩ := hh; exact h2
 have hnp : ∀ c a w, ¬ Q' (.panic c) a w := fun c a w hh => by rw [hQ'] at hh; cases hh.1
 have hdrew : SimS W0 M0 F σ a { w with drawn := w.drawn + 1 } := by
  obtain ⟨β, h⟩ := h
  exact ⟨β, h.ext (w' := w.drew) (Below.drew (Below.refl _ _))⟩
 have hun0 : ∀ j, (Array.replicate ops.size false).getD j false = false := fun j => getD_replicate_false _ _
 have hA : AncOk .any ops (ancAll ops) := ancFrom_ok _ _ fun jp hjp => by cases hjp
 have key : wpAny P .any ops Q' ((k + (idsOf ps).length) + is.length) (Array.replicate ops.size false) a { w with drawn := w.drawn + 1 } := by
  refine iWalk_sound (K := fun σ1 => otW P T ops ps K t σ1) hT hsel hnp is _ σ a _ hli hdrew hw fun σ1 a1 hw1 hs1 => ?_
  exact ot_run hT hsel hnp hA (fun σ' a' w' k3 k4 => by rw [hQ']; exact ⟨rfl, hq σ' a' w' k3 k4⟩) k t _ σ1 a1 _ hs1 (by rw [setAll_size]; simp) (closed_lex is _ hli (fun j oj _ hl => by rw [hun0] at hl; cases hl)) hot hdp hw1
 rw [hnum] at key
 exact wp_mono (wp_region_any hm key) hmono
def otWR (P : Program) (T : Tab) (ops : Array Oper) (ps : List Ph) (K : AState → Prop) (t : OT) (σ : AState) : Prop := otW P T ops ps K t σ
theorem otW_leaf {ps : List Ph} : otW P T ops ps K .leaf σ = pWalk P T ops ps σ K := rfl
theorem otW_nil {ps : List Ph} : otW P T ops ps K .nil σ = True := rfl
theorem otW_alt {ps : List Ph} {i : Nat} {n m : OT} : otW P T ops ps K (.alt i n m) σ = ((match ops[i]? with | some o => aop P T ops o σ (otWR P T ops ps K n) | none => False) ∧ otW P T ops ps K m σ) := rfl
theorem rO (hT : TabOk P T) (hm : P.follows .mixedOrders = true) (id : Nat) {l : List Oper} (is : List Nat) (t : OT) (ps : List Ph) (k : Nat) (h : iWalk T l.toArray is σ fun σ1 => otW P T l.toArray ps (Q .normal) t σ1) (hB : oregB l.toArray is t ps k = true := by kernel_rfl) : awp P T (.region id l.toArray true) σ Q := by
 simp only [awp, if_true]
 exact .inr (.inr (oreg_sound hT hm hB h))
theorem aOt {ps : List Ph} {t : OT} (h : otW P T ops ps K t σ) : otWR P T ops ps K t σ := h
instance sgOt {ps : List Ph} {t : OT} : Sg (otWR P T ops ps K t σ) (otW P T ops ps K t σ) := ⟨aOt⟩
attribute [go_sem] otW_leaf otW_nil otW_alt
end
end Go.Eng
