/-
 Contracts: language.check, search.
-/
import Derived.Test.YtkjllcmpjghmkaaGreatDoorE3
import Derived.Test.YtkjllcmpjghmkaaGreatDoorLA
set_option linter.unusedSimpArgs false
set_option linter.unusedVariables false
namespace Go.Eng
open Go.RowKit
inductive OT where
 | leaf
 | nil
 | alt (i : Nat) (n m : OT)
def OT.ids : OT → List Nat
 | .alt i _ m => i :: m.ids
 | _ => []
def OT.deep : OT → Nat → Bool
 | .leaf, k => k == 0
 | .nil, k => k != 0
 | .alt _ n m, k => (match k with | 0 => false | k + 1 => n.deep k) && m.deep k
def otB (md : Region.Mode) (ops : Array Oper) (e : Array Bool → Bool) : Bool → OT → Array Bool → Bool
 | _, .leaf, listed => e listed
 | hd, .nil, _ => !hd
 | hd, .alt i n m, listed => (!hd || ((Region.ready md ops listed).all (fun j => (i :: m.ids).contains j) && !(Region.ready md ops listed).isEmpty)) && otB md ops e true n (listed.setIfInBounds i true) && otB md ops e false m listed
def otW (P : Program) (T : Tab) (ops : Array Oper) (ps : List Ph) (K : AState → Prop) : OT → AState → Prop
 | .leaf, σ => pWalk P T ops ps σ K
 | .nil, _ => True
 | .alt i n m, σ => (match ops[i]? with | some o => aop P T ops o σ (otW P T ops ps K n) | none => False) ∧ otW P T ops ps K m σ
def otEnd (A : List (Nat × List Nat)) (ops : Array Oper) (ps : List Ph) (listed : Array Bool) : Bool :=
 phsB A .any ops ps listed && z9U (idsOf ps) && (idsOf ps).all (fun j => decide (j < ops.size) && !listed.getD j true) && (List.range ops.size).all (fun j => listed.getD j true || memN j (idsOf ps))
section
variable {P : Program} {T : Tab} {W0 w : World} {M0 : Nat → Prop} {F : List Value} {σ : AState} {a : Act} {ops : Array Oper} {Q : Exit → Act → World → Prop} {K : AState → Prop} {A : List (Nat × List Nat)} {ps : List Ph}
theorem zeN {e : Array Bool → Bool} {listed : Array Bool} {k j : Nat} : ∀ {t : OT} {hd : Bool}, otB .any ops e hd t listed = true → t.deep (k + 1) = true → otW P T ops ps K t σ → j ∈ t.ids →
  ∃ n : OT, otB .any ops e true n (listed.setIfInBounds j true) = true ∧ n.deep k = true ∧ (match ops[j]? with | some o => aop P T ops o σ (otW P T ops ps K n) | none => False)
 | .leaf, _, _, hd, _, _ => by simp [OT.deep] at hd
 | .nil, _, _, _, _, hj => by simp [OT.ids] at hj
 | .alt i n m, hd, hB, hdp, hw, hj => by
  simp only [otB, Bool.and_eq_true] at hB
  simp only [OT.deep, Bool.and_eq_true] at hdp
  obtain ⟨⟨_, hBn⟩, hBm⟩ := hB
  rcases List.mem_cons.1 hj with rfl | hj
  ·exact ⟨n, hBn, hdp.1, hw.1⟩
  ·exact zeN hBm hdp.2 hw.2 hj
theorem zi0 (hT : TabOk P T) (hsel : Region.noSelect ops = true) (hQp : ∀ c a w, ¬ Q (.panic c) a w) (hA : AncOk .any ops A) (hk : ∀ σ' a' w', K σ' → SimS W0 M0 F σ' a' w' → Q .normal a' w') : ∀ (k : Nat) (t : OT) (listed : Array Bool) (σ : AState) (a : Act) (w : World), SimS W0 M0 F σ a w → listed.size = ops.size → Closed .any ops listed →
  otB .any ops (otEnd A ops ps) true t listed = true → t.deep k = true → otW P T ops ps K t σ → wpAny P .any ops Q (k + (idsOf ps).length) listed a w
 | 0, t, listed, σ, a, w, hs, hsz, hc, hB, hd, hw => by
  cases t with
  | nil => simp [OT.deep] at hd
  | alt i n m => simp [OT.deep] at hd
  | leaf =>
   rw [Nat.zero_add]
   simp only [otB, otEnd, Bool.and_eq_true, List.all_eq_true, decide_eq_true_eq, Bool.not_eq_true', Bool.or_eq_true, memN_iff] at hB
   obtain ⟨⟨⟨h1, h2⟩, h3⟩, h4⟩ := hB
   refine z8J hT hsel hQp hA ps listed σ a w hs ⟨hsz, hc, h3, fun j hj hl => ?_⟩ (z4Q h2) h1 hw hk
   rcases h4 j (List.mem_range.2 hj) with h | h
   ·rw [h] at hl; cases hl
   ·exact h
 | k + 1, t, listed, σ, a, w, hs, hsz, hc, hB, hd, hw => by
  have hB' := hB
  cases t with
  | leaf => simp [OT.deep] at hd
  | nil => simp [otB] at hB
  | alt i n m =>
   simp only [otB, Bool.not_true, Bool.false_or, Bool.and_eq_true, List.all_eq_true] at hB
   obtain ⟨⟨⟨hall, hne⟩, _⟩, _⟩ := hB
   rw [show k + 1 + (idsOf ps).length = k + (idsOf ps).length + 1 by omega]
   refine ⟨fun h0 => by rw [h0] at hne; simp at hne, fun j hj => ?_⟩
   have hji : j ∈ (OT.alt i n m).ids := by simpa [OT.ids] using hall j hj
   obtain ⟨u, hu1, hu2, hu3⟩ := zeN hB' hd hw hji
   cases ho : ops[j]? with
   | none => rw [ho] at hu3; exact hu3.elim
   | some o =>
    rw [ho] at hu3
    have := z2y (Q := Q) hT hs hu3 (Kc := wpAny P .any ops Q (k + (idsOf ps).length) (listed.setIfInBounds j true)) fun σ' a' w' h1 h2 => zi0 hT hsel hQp hA hk k u _ σ' a' w' h2 (by simp [hsz]) (hc.set hj) hu1 hu2 h1
    unfold wpOp
    rw [ho]
    simp only
    split
    ·rename_i hw'; rw [if_pos hw'] at this; exact .inl this
    ·rename_i hw'; rw [if_neg hw'] at this; exact this
end
def oregB (ops : Array Oper) (is : List Nat) (t : OT) (ps : List Ph) (k : Nat) : Bool :=
 Region.noSelect ops && lexI .any ops is (Array.replicate ops.size false) && otB .any ops (otEnd (zcX ops) ops ps) true t (z0a is (Array.replicate ops.size false)) && t.deep k && decide (k + (idsOf ps).length + is.length = ops.size)
section
variable {P : Program} {T : Tab} {σ : AState} {ops : Array Oper} {K : AState → Prop} {Q : APost}
theorem zdm (hT : TabOk P T) (hm : P.follows .mixedOrders = true) {is : List Nat} {t : OT} {ps : List Ph} {k : Nat} (hB : oregB ops is t ps k = true) (hw : iWalk T ops is σ fun σ1 => otW P T ops ps K t σ1) : zgg P ops σ K := by
 intro W0 M0 F a w Q id h hq
 simp only [oregB, Bool.and_eq_true, decide_eq_true_eq] at hB
 obtain ⟨⟨⟨⟨hsel, hli⟩, hot⟩, hdp⟩, hnum⟩ := hB
 obtain ⟨Q', hQ'⟩ : ∃ Q' : Exit → Act → World → Prop, Q' = fun e a w => e = .normal ∧ Q .normal a w := ⟨_, rfl⟩
 have hmono : ∀ e a w, Q' e a w → Q e a w := fun e a w hh => by rw [hQ'] at hh; obtain ⟨rfl, h2⟩ := hh; exact h2
 have hnp : ∀ c a w, ¬ Q' (.panic c) a w := fun c a w hh => by rw [hQ'] at hh; cases hh.1
 have hdrew : SimS W0 M0 F σ a { w with drawn := w.drawn + 1 } := by
  obtain ⟨β, h⟩ := h
  exact ⟨β, h.ext (w' := w.drew) (Below.drew (Below.refl _ _))⟩
 have hun0 : ∀ j, (Array.replicate ops.size false).getD j false = false := fun j => getD_replicate_false _ _
 have hA : AncOk .any ops (zcX ops) := z59 _ _ fun jp hjp => by cases hjp
 have key : wpAny P .any ops Q' ((k + (idsOf ps).length) + is.length) (Array.replicate ops.size false) a { w with drawn := w.drawn + 1 } := by
  refine z2K (K := fun σ1 => otW P T ops ps K t σ1) hT hsel hnp is _ σ a _ hli hdrew hw fun σ1 a1 hw1 hs1 => ?_
  exact zi0 hT hsel hnp hA (fun σ' a' w' k3 k4 => by rw [hQ']; exact ⟨rfl, hq σ' a' w' k3 k4⟩) k t _ σ1 a1 _ hs1 (by rw [z17]; simp) (z3w is _ hli (fun j oj _ hl => by rw [hun0] at hl; cases hl)) hot hdp hw1
 rw [hnum] at key
 exact wp_mono (wp_region_any hm key) hmono
def otWR (P : Program) (T : Tab) (ops : Array Oper) (ps : List Ph) (K : AState → Prop) (t : OT) (σ : AState) : Prop := otW P T ops ps K t σ
theorem zgS {ps : List Ph} : otW P T ops ps K .leaf σ = pWalk P T ops ps σ K := rfl
theorem ziA {ps : List Ph} : otW P T ops ps K .nil σ = True := rfl
theorem ziB {ps : List Ph} {i : Nat} {n m : OT} : otW P T ops ps K (.alt i n m) σ = ((match ops[i]? with | some o => aop P T ops o σ (otWR P T ops ps K n) | none => False) ∧ otW P T ops ps K m σ) := rfl
theorem rO (hT : TabOk P T) (hm : P.follows .mixedOrders = true) (id : Nat) {l : List Oper} (is : List Nat) (t : OT) (ps : List Ph) (k : Nat) (h : iWalk T l.toArray is σ fun σ1 => otW P T l.toArray ps (Q .normal) t σ1) (hB : oregB l.toArray is t ps k = true := by kernel_rfl) : awp P T (.region id l.toArray true) σ Q := by
 simp only [awp, if_true]
 exact .inr (.inr (zdm hT hm hB h))
theorem aOt {ps : List Ph} {t : OT} (h : otW P T ops ps K t σ) : otWR P T ops ps K t σ := h
instance sgOt {ps : List Ph} {t : OT} : Sg (otWR P T ops ps K t σ) (otW P T ops ps K t σ) := ⟨aOt⟩
attribute [go_sem] zgS ziA ziB
end
end Go.Eng
set_option linter.unusedSimpArgs false
set_option linter.unusedVariables false
namespace Go.Proofs.YtkjllcmpjghmkaaGreatDoor
open Go.Eng Go.RowKit
def prK (l : List (Int × Int)) : List (AV × AV) := l.map fun x => (.agg [.int .i64 x.1, .int .i64 x.2], .one (.bool true))
def insP (l : List (Int × Int)) (p : Int × Int) : List (Int × Int) := if p ∈ l then l else l ++ [p]
theorem z8T {l : List (Int × Int)} {p q : Int × Int} : q ∈ insP l p ↔ q = p ∨ q ∈ l := by
 unfold insP
 split
 ·constructor
  ·exact .inr
  ·rintro (rfl | h)
   ·assumption
   ·exact h
 ·simp [or_comm]
theorem zah (x y : Int) : ∀ l : List (Int × Int), z0q (.agg [.int .i64 x, .int .i64 y]) (prK l) = if (x, y) ∈ l then some (.one (.bool true)) else none
 | [] => by simp [prK, z0q]
 | z :: l => by
  have h := zah x y l
  simp only [prK] at h
  simp only [prK, List.map_cons, z0q, eqKey, Bool.and_eq_true, beq_iff_eq, h]
  by_cases e : (x, y) = z
  ·subst e; simp
  ·rw [if_neg (fun hh => e (Prod.ext hh.1 hh.2))]; simp [e]
theorem z8B {x y : Int} : ∀ {l : List (Int × Int)}, setKV (.agg [.int .i64 x, .int .i64 y]) (.one (.bool true)) (prK l) = prK (insP l (x, y))
 | [] => by simp [prK, setKV, insP]
 | z :: l => by
  have ih := z8B (x := x) (y := y) (l := l)
  simp only [prK] at ih
  simp only [prK, List.map_cons, setKV, eqKey, Bool.and_eq_true, beq_iff_eq, ih]
  by_cases e : (x, y) = z
  ·subst e; simp [insP]
  ·rw [if_neg (fun hh => e (Prod.ext hh.1 hh.2))]
   unfold insP
   by_cases h : (x, y) ∈ l
   ·rw [if_pos h, if_pos (by simp [h])]; rfl
   ·rw [if_neg h, if_neg (by simp [e, h])]; rfl
theorem zey (x y : Int) : setKV (.agg [.int .i64 x, .int .i64 y]) (.one (.bool true)) [] = prK [(x, y)] := rfl
theorem zit (f : Nat → Option Nat) (kd : KeyKind) (l : List (Int × Int)) : AObj.ren f (.map kd (prK l)) = .map kd (prK l) := by
 simp only [AObj.ren, AObj.map.injEq, true_and, prK, List.map_map]; exact List.map_congr_left fun x _ => rfl
theorem zjP (t : Nat) (o : AObj) (kd : KeyKind) (l : List (Int × Int)) : AObj.fz t o (.map kd (prK l)) = .map kd (prK l) := by
 simp only [AObj.fz, AObj.map.injEq, true_and, prK, List.map_map]; exact List.map_congr_left fun x _ => rfl
theorem zjF (m : Nat) (kd : KeyKind) (l : List (Int × Int)) : (AObj.map kd (prK l)).tagsLt m = true := by
 simp only [AObj.tagsLt, prK, List.all_map, List.all_eq_true]; intro x _; rfl
attribute [go_sem ↓] zit zjP zjF
attribute [go_sem] zah z8B
theorem z9T {α : Type} [DecidableEq α] : ∀ {l m : List α}, l.Nodup → (∀ x ∈ l, x ∈ m) → l.length ≤ m.length
 | [], _, _, _ => by simp
 | x :: l, m, hn, h => by
  have hn' := List.nodup_cons.1 hn
  have hx := h x (by simp)
  have := z9T (l := l) (m := m.erase x) hn'.2 fun y hy => (List.mem_erase_of_ne (fun e => hn'.1 (by rw [← e]; exact hy))).2 (h y (by simp [hy]))
  rw [List.length_erase_of_mem hx] at this
  have : 0 < m.length := List.length_pos_of_mem hx
  simp only [List.length_cons]
  omega
abbrev Vis := Int × Int × Int × Int
def prs (V : List Vis) : List (Int × Int) := V.map fun v => (v.1, v.2.1)
def visD (V : List Vis) : List (List D) := V.map fun v => [.int .i64 v.1, .int .i64 v.2.1, .int .i64 v.2.2.1, .int .i64 v.2.2.2]
theorem zaX (V : List Vis) : (visD V).length = V.length := by simp [visD]
theorem zhT {V : List Vis} {k : Nat} (hk : k < V.length) (z : List D) : (visD V).getD k z = [.int .i64 (V.getD k (0, 0, 0, 0)).1, .int .i64 (V.getD k (0, 0, 0, 0)).2.1, .int .i64 (V.getD k (0, 0, 0, 0)).2.2.1, .int .i64 (V.getD k (0, 0, 0, 0)).2.2.2] := by
 simp [visD, List.getD, List.getElem?_map, List.getElem?_eq_getElem hk]
theorem zgs (V : List Vis) (p q i e : Int) : visD V ++ [[.int .i64 p, .int .i64 q, .int .i64 i, .int .i64 e]] = visD (V ++ [(p, q, i, e)]) := by simp [visD]
attribute [go_sem] zaX zgs
structure Srch (Good : Int → Int → Prop) (f1 f2 : Int) (V : List Vis) (S : List (Int × Int)) : Prop where
 seen : ∀ q, q ∈ S ↔ q = (-1, -1) ∨ q ∈ prs V
 nodup : (prs V).Nodup
 good : ∀ v ∈ V, Good v.1 v.2.1
 pos : 0 < V.length
theorem Srch.len {Good : Int → Int → Prop} {f1 f2 : Int} {V : List Vis} {S : List (Int × Int)} (h : Srch Good f1 f2 V S) (hr : ∀ p q, Good p q → (-1 ≤ p ∧ p ≤ 4096) ∧ -1 ≤ q ∧ q ≤ 4096) : V.length ≤ 16793604 := by
 have h1 : ((prs V).map fun p => (p.1 + 1).toNat * 4098 + (p.2 + 1).toNat).Nodup := by
  rw [List.Nodup, List.pairwise_map]
  have := h.nodup
  rw [List.Nodup] at this
  refine (List.Pairwise.and_mem.1 this).imp fun {x y} ⟨hx, hy, hne⟩ he => hne ?_
  simp only [prs, List.mem_map] at hx hy
  obtain ⟨v, hv, rfl⟩ := hx
  obtain ⟨u, hu, rfl⟩ := hy
  have a1 := hr _ _ (h.good v hv)
  have a2 := hr _ _ (h.good u hu)
  simp only at he
  exact Prod.ext (by simp only; omega) (by simp only; omega)
 have := z9T (m := List.range 16793604) h1 fun x hx => by
  simp only [prs, List.mem_map] at hx
  obtain ⟨p, ⟨v, hv, rfl⟩, rfl⟩ := hx
  have a1 := hr _ _ (h.good v hv)
  simp only [List.mem_range]
  omega
 simpa [prs] using this
theorem Srch.add {Good : Int → Int → Prop} {f1 f2 : Int} {V : List Vis} {S : List (Int × Int)} (h : Srch Good f1 f2 V S) {p q : Int} (i x : Int) (hn : (p, q) ∉ S) (hg : (p, q) ≠ (-1, -1) → Good p q) :
  Srch Good f1 f2 (V ++ [(p, q, i, x)]) (insP S (p, q)) := by
 have e : prs (V ++ [(p, q, i, x)]) = prs V ++ [(p, q)] := by simp [prs]
 refine ⟨fun r => ?_, ?_, fun v hv => ?_, by simp⟩
 ·rw [z8T, h.seen, e, List.mem_append, List.mem_singleton]
  constructor
  ·rintro (h | h | h)
   ·exact .inr (.inr h)
   ·exact .inl h
   ·exact .inr (.inl h)
  ·rintro (h | h | h)
   ·exact .inr (.inl h)
   ·exact .inr (.inr h)
   ·exact .inl h
 ·rw [e]
  refine List.nodup_append.2 ⟨h.nodup, List.pairwise_singleton _ _, fun a ha b hb => ?_⟩
  rw [List.mem_singleton] at hb
  subst hb
  rintro rfl
  exact hn ((h.seen _).2 (.inr ha))
 ·rcases List.mem_append.1 hv with hv | hv
  ·exact h.good v hv
  ·rw [List.mem_singleton] at hv
   subst hv
   exact hg fun h2 => hn (by rw [h2]; exact (h.seen _).2 (.inl rfl))
set_option maxHeartbeats 8000000 in
theorem zgJ (ev : List Int) (a b : Aut) (f : FuncId) (kd : Int) (Good : Int → Int → Prop) (hl : ev.length ≤ 1000000)
  (hr : ∀ p q, Good p q → (-1 ≤ p ∧ p ≤ 4096) ∧ -1 ≤ q ∧ q ≤ 4096) (h0 : Good (if a.states = 0 then -1 else 0) (if b.states = 0 then -1 else 0))
  (hst : ∀ p q x, Good p q → x ∈ ev → (lnext a p x, lnext b q x) ≠ (-1, -1) → Good (lnext a p x) (lnext b q x))
  (hch : ∀ p q, Good p q → ACalls Tryz.prog f (.agg [.int .i64 p, .int .i64 q] :: [.one (.ref [machD a]), .one (.ref [.int .i64 kd]), .one (.ref [machD b])]) (.one (.bool false)) []) :
  ACalls Tryz.prog 83 [.one (.list (ints ev)), .one (machD a), .one (machD b), .one (.clo f [.ref [machD a], .ref [.int .i64 kd], .ref [machD b]])] (.tup [.one (.own 0), .one (.bool false)]) [.row 3 1 []] := by
 have c1 := zf6 a
 have c2 := zf6 b
 (refine ACalls.of_body_own Ty_ok mixed Tryz.func83 rfl (by kernel_rfl) Tryz.ntmps83 (by simp) (congrArg Array.toList Tryz.results83) ?_)
 simp only [z00, machD] at c1 c2 hch ⊢
 generalize (if a.states = 0 then (-1 : Int) else 0) = f1 at *
 generalize (if b.states = 0 then (-1 : Int) else 0) = f2 at *
 (repeat' (first | (with_reducible (refine aS 18 [71, 70, 72] ?_; intro K hK)) | ((with_reducible first | refine aGo ?_ | refine rP Ty_ok mixed 1 [0, 4] [.mid [pe 1, pe 2, pe 3, pe 5, pe 6, pe 7, pe 8, ⟨9, 0, true, false, false, [], []⟩] 1, .one 10] ?_); simp only [go_sem]) | ((iterate 6 try ((fail_if_success with_reducible refine hK _ ?_ ?_ ?_); clear hK K)); with_reducible refine hK _ ?_ ?_ ?_; rotate_left; (focus (simp only [go_sem]; exact rfl)); clear hK K) | fail))
 have key : ∀ S, (∀ q, q ∈ S ↔ q = (-1, -1) ∨ q = (f1, f2)) → ∀ σ' : AState, σ'.keepS 18 [71, 70, 72] = ⟨109, [(12, .one (.mp 3)), (11, .one (.own 2)), (10, .one (.vp 1 0)), (9, .one (.bool false)), (8, .one (.own 0)), (0, .one (.list (ints ev))), (1, .one (.ref [.tab (.pair 3) (stT (edT a)), .tab (.int .i64) (mkTb a.marked), .int .i64 f1])), (2, .one (.ref [.tab (.pair 3) (stT (edT b)), .tab (.int .i64) (mkTb b.marked), .int .i64 f2])), (3, .one (.clo f [.ref [.ref [.tab (.pair 3) (stT (edT a)), .tab (.int .i64) (mkTb a.marked), .int .i64 f1]], .ref [.int .i64 kd], .ref [.ref [.tab (.pair 3) (stT (edT b)), .tab (.int .i64) (mkTb b.marked), .int .i64 f2]]]))],
   [.row 3 1 [], .var 164 [.int .i64 f1, .int .i64 f2], .row 204 4 (visD [(f1, f2, -1, 0)]), .map (.pair 3) (prK S)], 0⟩ → K σ' := by
  intro S hS σ' e
  refine hK _ _ e ?_
  clear hK K e
  (repeat' (first | (with_reducible first | refine aBl ?_ | (refine aS 18 [71, 70, 72] ?_; intro K hK)) | ((with_reducible refine aGo ?_); simp only [go_sem]) | ((iterate 6 try ((fail_if_success with_reducible refine hK _ ?_ ?_ ?_); clear hK K)); with_reducible refine hK _ ?_ ?_ ?_; rotate_left; (focus (simp only [go_sem]; exact rfl)); clear hK K) | fail))
  refine z02 _ (by simp only [go_sem]; rfl) (Nat × List Vis × List (Int × Int)) (fun s => s.1 ≤ s.2.1.length ∧ Srch Good f1 f2 s.2.1 s.2.2) (fun s => [(13, .one (.int .i64 s.1)), (11, .one (.own 2)), (9, .one (.bool false)), (8, .one (.own 0))]) (fun s H => (H.set 2 (.row 204 4 (visD s.2.1))).set 3 (.map (.pair 3) (prK s.2.2))) (fun s => 16793605 - s.1) (0, [(f1, f2, -1, 0)], S) ⟨by simp, fun q => by rw [hS q]; simp [prs], by simp [prs], fun v hv => by simp at hv; subst hv; exact h0, by simp⟩ ?_ ?_
  ·(simp only [SubF, go_sem]; (try simp only [go_sem]); repeat' (first | exact True.intro | with_reducible refine And.intro ?_ ?_ | rfl | omega))
  rintro ⟨i, V, S⟩ ⟨hi, hs⟩ L hL
  have hlen := hs.len hr
  simp only at hi hs
  by_cases hlt : i < V.length
  ·have hq : ((i : Nat) : Int).toNat = i := by omega
   have a1 := zhT hlt []
   have hgv := hs.good _ (z01 V i (0, 0, 0, 0) hlt)
   have hc := hch _ _ hgv
   generalize hv : V.getD i (0, 0, 0, 0) = v at *
   obtain ⟨p, q, bf, e⟩ := v
   simp only at a1 hc hgv
   (simp only [go_sem] at hL ⊢)
   (repeat' (first | (with_reducible first | refine And.intro ?_ ?_ | refine aBl ?_ | (refine aS 18 [71, 70, 72] ?_; intro K hK)) | ((with_reducible refine aGo ?_); simp only [hq, a1, go_sem]) | ((with_reducible refine aCd ?_ ?_ (fun hb => ?_) (fun hb => ?_)); (iterate 2 simp only [hq, a1, go_sem]); all_goals (simp only [hq, a1, go_sem] at hb; try simp only [bls] at hb)) | ((iterate 6 try ((fail_if_success with_reducible refine hK _ ?_ ?_ ?_); clear hK K)); with_reducible refine hK _ ?_ ?_ ?_; rotate_left; (focus (simp only [hq, a1, go_sem]; exact rfl)); clear hK K) | ((with_reducible refine xA ?_); simp only [hq, a1, go_sem]) | exact aZ | fail))
   all_goals first | omega | skip
   refine z02 _ (by simp only [go_sem]; rfl) (Nat × List Vis × List (Int × Int)) (fun s => s.1 ≤ ev.length ∧ Srch Good f1 f2 s.2.1 s.2.2 ∧ i < s.2.1.length ∧ s.2.1.getD i (0, 0, 0, 0) = (p, q, bf, e)) (fun s => [(72, .one (.int .i64 s.1)), (11, .one (.own 2))]) (fun s H => (H.set 2 (.row 204 4 (visD s.2.1))).set 3 (.map (.pair 3) (prK s.2.2))) (fun s => ev.length - s.1) (0, V, S) ⟨by simp, hs, hlt, hv⟩ ?_ ?_
   ·(simp only [SubF, go_sem]; (try simp only [go_sem]); repeat' (first | exact True.intro | with_reducible refine And.intro ?_ ?_ | rfl | omega))
   clear a1 hlen
   rintro ⟨k, V1, S1⟩ ⟨hk, hs1, hi1, hv1⟩ L2 hL2
   simp only at hk hs1 hi1 hv1
   have hlen := hs1.len hr
   by_cases hlt1 : k < ev.length
   ·have a1 := zhT hi1 []
    rw [hv1] at a1
    simp only at a1
    have hq1 : ((k : Nat) : Int).toNat = k := by omega
    have b1 := z0s (l := ev) hlt1
    have hx := z01 ev k 0 hlt1
    have d1 := c1 p (ev.getD k 0)
    have d2 := c2 q (ev.getD k 0)
    have hg2 := hst p q (ev.getD k 0) hgv hx
    generalize lnext a p (ev.getD k 0) = p2 at *
    generalize lnext b q (ev.getD k 0) = q2 at *
    have hA : (p2, q2) ∉ S1 → (k + 1 ≤ ev.length ∧ Srch Good f1 f2 (V1 ++ [(p2, q2, (i : Int), ev.getD k 0)]) (insP S1 (p2, q2)) ∧ i < (V1 ++ [(p2, q2, (i : Int), ev.getD k 0)]).length ∧ (V1 ++ [(p2, q2, (i : Int), ev.getD k 0)]).getD i (0, 0, 0, 0) = (p, q, bf, e)) := fun hn =>
     ⟨by omega, hs1.add _ _ hn hg2, by simp only [List.length_append, List.length_cons, List.length_nil]; omega, by rw [← hv1]; simp only [List.getD, List.getElem?_append_left hi1]⟩
    simp only [go_sem] at hL2 ⊢
    (repeat' (first | (with_reducible first | refine And.intro ?_ ?_ | refine aBl ?_ | (refine aS 18 [71, 70, 72] ?_; intro K hK)) | ((with_reducible first | refine aGo ?_ | refine rO Ty_ok mixed 19 [0, 2, 4, 5] (.alt 1 (.alt 3 (.alt 6 (.alt 7 (.alt 8 .leaf .nil) .nil) .nil) .nil) (.alt 3 (.alt 1 (.alt 6 (.alt 7 (.alt 8 .leaf .nil) .nil) .nil) (.alt 6 (.alt 1 (.alt 7 (.alt 8 .leaf .nil) .nil) (.alt 7 (.alt 1 (.alt 8 .leaf .nil) (.alt 8 (.alt 1 .leaf .nil) .nil)) .nil)) .nil)) .nil)) [.one 9, .one 10] 5 ?_ | refine rP Ty_ok mixed 17 [0, 1, 2, 7, 9, 10, 11, 16] [.mid [pe 3, pe 4, pe 5, pe 6, ⟨8, 0, true, false, false, [], []⟩, ⟨12, 1, false, false, false, [0], []⟩, ⟨13, 1, false, false, false, [0], []⟩, ⟨14, 1, false, false, false, [0], []⟩, ⟨15, 1, false, false, false, [0], []⟩, ⟨17, 1, true, false, false, [], []⟩, ⟨18, 2, false, false, false, [], []⟩, ⟨19, 2, true, false, false, [1, 0], []⟩] 3, .one 20] ?_); simp only [hq, hq1, a1, b1, go_sem]) | ((with_reducible refine aCd ?_ ?_ (fun hb => ?_) (fun hb => ?_)); (iterate 2 simp only [hq, hq1, a1, b1, go_sem]); all_goals (simp only [hq, hq1, a1, b1, go_sem] at hb; try simp only [bls] at hb)) | ((iterate 6 try ((fail_if_success with_reducible refine hK _ ?_ ?_ ?_); clear hK K)); with_reducible refine hK _ ?_ ?_ ?_; rotate_left; (focus (simp only [hq, hq1, a1, b1, go_sem]; exact rfl)); clear hK K) | ((with_reducible refine xO ?_); simp only [hq, hq1, a1, b1, go_sem]) | exact aZ | fail))
    all_goals first | omega | skip
    all_goals first
     | exact hL2 _ (k + 1, V1 ++ [(p2, q2, (i : Int), ev.getD k 0)], insP S1 (p2, q2)) (hA (by assumption)) (by (simp only [SubF, go_sem]; (try simp only [go_sem]); repeat' (first | exact True.intro | with_reducible refine And.intro ?_ ?_ | rfl | omega))) (by simp only; omega)
     | exact hL2 _ (k + 1, V1, S1) ⟨by simp only; omega, hs1, hi1, hv1⟩ (by (simp only [SubF, go_sem]; (try simp only [go_sem]); repeat' (first | exact True.intro | with_reducible refine And.intro ?_ ?_ | rfl | omega))) (by simp only; omega)
   ·simp only [go_sem] at hL2 ⊢
    (repeat' (first | (with_reducible first | refine And.intro ?_ ?_ | refine aBl ?_ | (refine aS 18 [71, 70, 72] ?_; intro K hK)) | ((with_reducible first | refine aGo ?_ | refine rP Ty_ok mixed 17 [0, 1, 2, 7, 9, 10, 11, 16] [.mid [pe 3, pe 4, pe 5, pe 6, ⟨8, 0, true, false, false, [], []⟩, ⟨12, 1, false, false, false, [0], []⟩, ⟨13, 1, false, false, false, [0], []⟩, ⟨14, 1, false, false, false, [0], []⟩, ⟨15, 1, false, false, false, [0], []⟩, ⟨17, 1, true, false, false, [], []⟩, ⟨18, 2, false, false, false, [], []⟩, ⟨19, 2, true, false, false, [1, 0], []⟩] 3, .one 20] ?_); simp only [go_sem]) | ((with_reducible refine aCd ?_ ?_ (fun hb => ?_) (fun hb => ?_)); (iterate 2 simp only [go_sem]); all_goals (simp only [go_sem] at hb; try simp only [bls] at hb)) | ((iterate 6 try ((fail_if_success with_reducible refine hK _ ?_ ?_ ?_); clear hK K)); with_reducible refine hK _ ?_ ?_ ?_; rotate_left; (focus (simp only [go_sem]; exact rfl)); clear hK K) | exact aZ | fail))
    all_goals first | omega | skip
    exact hL _ (i + 1, V1, S1) ⟨by simp only; omega, hs1⟩ (by (simp only [SubF, go_sem]; (try simp only [go_sem]); repeat' (first | exact True.intro | with_reducible refine And.intro ?_ ?_ | rfl | omega))) (by simp only; omega)
  ·(simp only [go_sem] at hL ⊢)
   (repeat' (first | (with_reducible first | refine And.intro ?_ ?_ | refine aBl ?_ | (refine aS 18 [71, 70, 72] ?_; intro K hK)) | ((with_reducible refine aGo ?_); simp only [go_sem]) | ((with_reducible refine aCd ?_ ?_ (fun hb => ?_) (fun hb => ?_)); (iterate 2 simp only [go_sem]); all_goals (simp only [go_sem] at hb; try simp only [bls] at hb)) | ((iterate 6 try ((fail_if_success with_reducible refine hK _ ?_ ?_ ?_); clear hK K)); with_reducible refine hK _ ?_ ?_ ?_; rotate_left; (focus (simp only [go_sem]; exact rfl)); clear hK K) | exact aZ | fail))
   all_goals first | omega | skip
 clear hK
 refine rO Ty_ok mixed 3 [] (.alt 0 (.alt 1 (.alt 2 (.alt 3 (.alt 4 .leaf .nil) .nil) (.alt 3 (.alt 2 (.alt 4 .leaf .nil) (.alt 4 (.alt 2 .leaf .nil) .nil)) .nil)) (.alt 3 (.alt 1 (.alt 2 (.alt 4 .leaf .nil) (.alt 4 (.alt 2 .leaf .nil) .nil)) (.alt 4 (.alt 1 (.alt 2 .leaf .nil) .nil) .nil)) .nil)) (.alt 1 (.alt 0 (.alt 2 (.alt 3 (.alt 4 .leaf .nil) .nil) (.alt 3 (.alt 2 (.alt 4 .leaf .nil) (.alt 4 (.alt 2 .leaf .nil) .nil)) .nil)) (.alt 3 (.alt 0 (.alt 2 (.alt 4 .leaf .nil) (.alt 4 (.alt 2 .leaf .nil) .nil)) .nil) .nil)) (.alt 3 (.alt 0 (.alt 1 (.alt 2 (.alt 4 .leaf .nil) (.alt 4 (.alt 2 .leaf .nil) .nil)) (.alt 4 (.alt 1 (.alt 2 .leaf .nil) .nil) .nil)) (.alt 1 (.alt 0 (.alt 2 (.alt 4 .leaf .nil) (.alt 4 (.alt 2 .leaf .nil) .nil)) .nil) .nil)) .nil))) [.one 5, .one 6] 5 ?_
 simp only [go_sem]
 (repeat' (first | (with_reducible refine And.intro ?_ ?_) | ((with_reducible refine aGo ?_); simp only [go_sem]) | fail))
 all_goals (simp only [zey, z8B])
 all_goals first
  | exact key (insP [(f1, f2)] (-1, -1)) (fun q => by rw [z8T, List.mem_singleton]) _ (by simp only [go_sem]; rfl)
  | exact key (insP [(-1, -1)] (f1, f2)) (fun q => by rw [z8T, List.mem_singleton, or_comm]) _ (by simp only [go_sem]; rfl)
end Go.Proofs.YtkjllcmpjghmkaaGreatDoor
