/-
 From a law's contract over data to the given row's statement.
-/
import Derived.ProofKit
import Derived.Deep.Slices
import Derived.Test.YtljpfdehnjemlaaDoorE3
set_option linter.unusedSimpArgs false
set_option linter.unusedVariables false
namespace Go.Eng
open Go.RowKit Go.ChangeShapes Go.WideShapes

section
variable {H : Type} {enc : TypeId × Value → H} {P : Program} {W : World}
def NoM : Nat → Prop := fun _ => False
def Opens (P : Program) (t : TypeId) {α : Type} (ok : α → Prop) (en : α → List D) : Prop :=
 ∀ (H : Type) (enc : TypeId × Value → H) (W : World) (fuel : Nat) (cs : List Value) (x : DataW H × List MemPlace), DataW.trod enc P W 0 (fun _ => true) true fuel t cs = some x → ∃ a, ok a ∧ RepL W NoM (en a) cs
theorem Opens.map {t : TypeId} {α β : Type} {ok : α → Prop} {en : α → List D} (h : Opens P t ok en) {ok' : β → Prop} {en' : β → List D} (g : α → β) (h1 : ∀ a, ok a → ok' (g a)) (h2 : ∀ a, en' (g a) = en a) : Opens P t ok' en' := by
 intro H enc W fuel cs x hx
 obtain ⟨a, ha, hr⟩ := h H enc W fuel cs x hx
 exact ⟨g a, h1 a ha, by rw [h2]; exact hr⟩
theorem opens_int {t : TypeId} {k : IntKind} (ht : P.underlying t = some (.int k)) : Opens P t (fun z => (Lit.int k z).wf = true) (fun z => [.int k z]) := by
 intro H enc W fuel cs x hx
 obtain ⟨z, rfl, _, hw⟩ := DataW.trod_int ht hx
 exact ⟨z, hw, by simp [RepL, RepD]⟩
theorem list_of {α : Type} (R : Nat → α → Prop) : ∀ n, (∀ i, i < n → ∃ a, R i a) → ∃ l : List α, l.length = n ∧ ∀ i a, l[i]? = some a → R i a
 | 0, _ => ⟨[], rfl, fun i a h => by simp at h⟩
 | n + 1, h => by
  obtain ⟨l, hl, hR⟩ := list_of R n fun i hi => h i (by omega)
  obtain ⟨b, hb⟩ := h n (by omega)
  refine ⟨l ++ [b], by simp [hl], fun i a hi => ?_⟩
  by_cases hin : i < l.length
  ·rw [List.getElem?_append_left hin] at hi; exact hR i a hi
  ·have hin' : i < (l ++ [b]).length := by
    have := List.getElem?_eq_some_iff.1 hi; exact this.1
   simp at hin'
   have : i = l.length := by omega
   subst this
   simp at hi
   subst hi
   rw [hl]; exact hb
/-! structs -/
def OpensF (P : Program) (n : Nat) (off : Nat) (fs : List Field) {α : Type} (ok : α → Prop) (en : α → List D) : Prop :=
 ∀ (H : Type) (enc : TypeId × Value → H) (W : World) (fuel : Nat) (cs : List Value), cs.length = n → (∀ f ∈ fs, ∃ x, DataW.trod enc P W 0 (fun _ => true) true fuel f.type ((cs.drop f.offset).take (P.cellsOf f.type)) = some x) →
  ∃ a, ok a ∧ RepL W NoM (en a) (cs.drop off)
theorem opensF_nil {n : Nat} : OpensF P n n [] (fun _ : Unit => True) (fun _ => []) := by
 intro H enc W fuel cs hl _
 exact ⟨(), trivial, by simp [RepL, ← hl]⟩
theorem opensF_cons {n off : Nat} {f : Field} {fs : List Field} {α β : Type} {ok : α → Prop} {en : α → List D} {ok' : β → Prop} {en' : β → List D} (ho : f.offset = off) (h : Opens P f.type ok en)
  (hr : OpensF P n (off + P.cellsOf f.type) fs ok' en') : OpensF P n off (f :: fs) (fun ab : α × β => ok ab.1 ∧ ok' ab.2) (fun ab => en ab.1 ++ en' ab.2) := by
 intro H enc W fuel cs hl hf
 obtain ⟨x, hx⟩ := hf f (by simp)
 obtain ⟨a, ha, h1⟩ := h H enc W fuel _ x hx
 obtain ⟨b, hb, h2⟩ := hr H enc W fuel cs hl fun g hg => hf g (by simp [hg])
 refine ⟨(a, b), ⟨ha, hb⟩, ?_⟩
 rw [ho] at h1
 have := RepL.append _ _ _ _ h1 h2
 rwa [← List.drop_drop, List.take_append_drop] at this
theorem opens_struct {t : TypeId} {fs : Array Field} {α : Type} {ok : α → Prop} {en : α → List D} (ht : P.underlying t = some (.struct fs)) (h : OpensF P (P.cellsOf t) 0 fs.toList ok en) : Opens P t ok en := by
 intro H enc W fuel cs x hx
 obtain ⟨xs, n, _, _, hl, hsz, hf⟩ := DataW.trod_struct ht hx
 obtain ⟨a, ha, hr⟩ := h H enc W n cs hl fun f hf' => by
  obtain ⟨i, hi, rfl⟩ := List.mem_iff_getElem.1 hf'
  have hi' : i < fs.size := by simpa using hi
  have := hf i (fs[i]) (by simp [hi'])
  rw [List.getElem?_eq_getElem (by omega)] at this
  exact ⟨_, by simpa using this⟩
 exact ⟨a, ha, by simpa using hr⟩
/-! arguments -/
def OpArg (P : Program) (t : TypeId) {α : Type} (ok : α → Prop) (av : α → AV) : Prop :=
 ∀ (H : Type) (enc : TypeId × Value → H) (W : World) (base : Nat) (v : Value) (d : DataW H) (ps : List MemPlace), Value.okWide P W .any base t v → DataW.Trod enc P W 0 (fun _ => true) true t v d ps → ∃ a, ok a ∧ RepV W NoM [] (av a) v
theorem arg_struct {t : TypeId} {fs : Array Field} {α : Type} {ok : α → Prop} {en : α → List D} (ht : P.underlying t = some (.struct fs)) (h : Opens P t ok en) : OpArg P t ok (fun a => .agg (en a)) := by
 intro H enc W base v d ps hok ⟨fuel, hf⟩
 obtain ⟨a, ha, hr⟩ := h H enc W fuel _ _ hf
 obtain ⟨cs, rfl, _⟩ := okWide_struct ht hok
 exact ⟨a, ha, cs.toList, rfl, hr.toC⟩
def HO (P : Program) (ts : List TypeId) (K : List AV → Prop) : Prop :=
 ∀ (H : Type) (enc : TypeId × Value → H) (W : World) (base : Nat) (vs : List Value) (ds : List (DataW H)) (ps : List MemPlace), (∀ (j : Nat) t v, ts[j]? = some t → vs[j]? = some v → Value.okWide P W .any base t v) →
  DataW.TrodAll enc P W 0 (fun _ => true) true ts vs ds ps → ∃ axs, RepVL W NoM [] axs vs ∧ K axs
theorem HO_nil {K : List AV → Prop} (h : K []) : HO P [] K := by
 intro H enc W base vs ds ps _ ht
 obtain ⟨rfl, _⟩ := trodAll_nil ht
 exact ⟨[], rfl, h⟩
theorem HO_cons {t : TypeId} {ts : List TypeId} {K : List AV → Prop} {α : Type} {ok : α → Prop} {av : α → AV} (h : OpArg P t ok av) (hc : ∀ a, ok a → HO P ts fun axs => K (av a :: axs)) : HO P (t :: ts) K := by
 intro H enc W base vs ds ps hok ht
 obtain ⟨v, vs1, d, ds1, a, b, rfl, rfl, rfl, h1, h2⟩ := trodAll_cons ht
 obtain ⟨x, hx, hr⟩ := h H enc W base v d a (hok 0 t v rfl rfl) h1
 obtain ⟨axs, has, hK⟩ := hc x hx H enc W base vs1 ds1 b (fun j t v h3 h4 => hok (j + 1) t v (by simpa using h3) (by simpa using h4)) h2
 exact ⟨av x :: axs, by simp only [RepVL]; exact ⟨v, vs1, rfl, hr, has⟩, hK⟩
theorem trodAll_len : ∀ {ts : List TypeId} {vs : List Value} {ds : List (DataW H)} {ps : List MemPlace}, DataW.TrodAll enc P W 0 (fun _ => true) true ts vs ds ps → vs.length = ts.length ∧ ds.length = ts.length
 | [], _, _, _, h => by
  obtain ⟨rfl, rfl, _⟩ := trodAll_nil h
  exact ⟨rfl, rfl⟩
 | _ :: _, _, _, _, h => by
  obtain ⟨v, vs1, d, ds1, a, b, rfl, rfl, rfl, _, h2⟩ := trodAll_cons h
  have := trodAll_len h2
  simp [this.1, this.2]
theorem trodAll_keep (hl : laidOutB P = true) {W W' : World} (hb : Below W.heap.size W W') {sp : Nat → Bool} : ∀ {ts : List TypeId} {vs : List Value} {ds : List (DataW H)} {ps : List MemPlace}, (ts.all fun t => P.readableRec t && decide (t < P.types.size)) = true →
  DataW.TrodAll enc P W 0 (fun _ => true) true ts vs ds ps → (∀ p ∈ ps, p.block < W.heap.size) → (∀ p ∈ ps, sp p.block = true) → DataW.TrodAll enc P W' 0 sp true ts vs ds ps
 | [], vs, ds, ps, _, h, _, _ => by
  obtain ⟨rfl, rfl, rfl⟩ := trodAll_nil h
  exact trodAll_mk0
 | t :: ts, vs, ds, ps, hr, h, hlt, hsp => by
  obtain ⟨v, vs1, d, ds1, a, b, rfl, rfl, rfl, h1, h2⟩ := trodAll_cons h
  simp only [List.all_cons, Bool.and_eq_true, decide_eq_true_eq] at hr
  exact ⟨a, b, WideElems.Trod_stays hl hr.1.1 hr.1.2 h1 (fun p hp => hb.same (hlt p (by simp [hp]))) (fun p hp => hsp p (by simp [hp])),
   trodAll_keep hl hb hr.2 h2 (fun p hp => hlt p (by simp [hp])) (fun p hp => hsp p (by simp [hp])), rfl⟩
theorem law_post {f : Func} {s : ChangeSpec} {W W' : World} {args : Array Value} {v : Value} {ds gs : List (DataW H)} {before : List MemPlace} {tb : TypeId} (hl : laidOutB P = true)
  (hW : DataW.Whole enc P f.params.toList s.vars false W args.toList ds gs before) (hvars : s.vars = []) (hts : (f.params.toList.all fun t => P.readableRec t && decide (t < P.types.size)) = true)
  (hrt : f.resultTypes = #[tb]) (htb : P.underlying tb = some .bool) (hv : v = .bool true) (hs : s.fn H ds = { results := [.lit (.bool true)], args := ds }) (hb : Below W.heap.size W W') :
  s.post enc P f false true false false W args v W' := by
 have hlt := hW.lt
 have hW' := hW
 obtain ⟨p, q, hA, hV, rfl, hfz, hnd⟩ := hW
 rw [hvars] at hV
 obtain ⟨rfl, rfl⟩ := trodVars_none hV
 subst hv
 simp only [List.append_nil] at hlt hW'
 refine ⟨ds, [], p, [], p, [], hW', ?_, ?_, ?_, hb.frame _, fun h => by cases h⟩
 ·rw [List.append_nil, hs, hrt]
  exact trodAll_mk1 (shut_bool htb true)
 ·rw [List.append_nil, hs]
  exact trodAll_keep hl hb hts hA hlt fun p hp => by simpa using hlt p hp
 ·rw [List.append_nil, hs, hvars]
  rfl
end
end Go.Eng
