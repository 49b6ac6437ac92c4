/-
 From a law's contract over data to the given row's statement.
-/
import Derived.ProofKit
import Derived.Deep.Slices
import Derived.Test.YtgbhmieaoaojoaaGreatDoorE3
set_option linter.unusedSimpArgs false
set_option linter.unusedVariables false
namespace Go.Eng
open Go.RowKit Go.ChangeShapes Go.WideShapes

section
variable {H : Type} {enc : TypeId × Value → H} {P : Program} {W : World}
def NoM : Nat → Prop := fun _ => False
def Opens (P : Program) (t : TypeId) {α : Type} (ok : α → Prop) (en : α → List D) : Prop :=
 ∀ (H : Type) (enc : TypeId × Value → H) (W : World) (fuel : Nat) (cs : List Value) (x : DataW H × List MemPlace), DataW.trod enc P W 0 (fun _ => true) true fuel t cs = some x → ∃ a, ok a ∧ RepL W NoM (en a) cs
theorem Opens.map {t : TypeId} {α β : Type} {ok : α → Prop} {en : α → List D} (h : Opens P t ok en) {ok' : β → Prop} {en' : β → List D} (g : α → β) (h1 : ∀ a, ok a → ok' (g a)) (h2 : ∀ a, en' (g a) = en a) : Opens P t ok' en' := by
 intro H enc W fuel cs x hx
 obtain ⟨a, ha, hr⟩ := h H enc W fuel cs x hx
 exact ⟨g a, h1 a ha, by rw [h2]; exact hr⟩
theorem opens_int {t : TypeId} {k : IntKind} (ht : P.underlying t = some (.int k)) : Opens P t (fun z => (Lit.int k z).wf = true) (fun z => [.int k z]) := by
 intro H enc W fuel cs x hx
 obtain ⟨z, rfl, _, hw⟩ := DataW.trod_int ht hx
 exact ⟨z, hw, by simp [RepL, RepD]⟩
theorem list_of {α : Type} (R : Nat → α → Prop) : ∀ n, (∀ i, i < n → ∃ a, R i a) → ∃ l : List α, l.length = n ∧ ∀ i a, l[i]? = some a → R i a
 | 0, _ => ⟨[], rfl, fun i a h => by simp at h⟩
 | n + 1, h => by
  obtain ⟨l, hl, hR⟩ := list_of R n fun i hi => h i (by omega)
  obtain ⟨b, hb⟩ := h n (by omega)
  refine ⟨l ++ [b], by simp [hl], fun i a hi => ?_⟩
  by_cases hin : i < l.length
  ·rw [List.getElem?_append_left hin] at hi; exact hR i a hi
  ·have hin' : i < (l ++ [b]).length := by
    have := List.getElem?_eq_some_iff.1 hi; exact this.1
   simp at hin'
   have : i = l.length := by omega
   subst this
   simp at hi
   subst hi
   rw [hl]; exact hb
theorem opens_slice {t e : TypeId} {α : Type} {ok : α → Prop} {en : α → List D} (ht : P.underlying t = some (.slice e)) (hp : 0 < P.cellsOf e) (h : Opens P e ok en) : Opens P t (fun axs : List α => axs.length ≤ maxLen ∧ ∀ a ∈ axs, ok a) (fun axs => [.list (axs.map en)]) := by
 intro H enc W fuel cs x hx
 rcases Go.Deep.open_slice ht hx with ⟨rfl, _⟩ | ⟨a, len, cap, m, n, Df, Pl, rfl, _, hlc, hcm, hm, _, hi⟩
 ·exact ⟨[], ⟨Nat.zero_le _, by simp⟩, by simp only [RepL, RepD]; exact ⟨_, _, rfl, ⟨none, 0, rfl, Nat.le_refl _, Nat.zero_le _, .inl rfl⟩, rfl⟩⟩
 simp only [if_true] at hm
 obtain ⟨axs, hl, hR⟩ := list_of (fun i b => ok b ∧ ∃ vs, vs.length = P.cellsOf e ∧ reads W a (i * P.cellsOf e) vs ∧ RepL W NoM (en b) vs ∧ a.block < W.heap.size) len fun i hil => by
  obtain ⟨cs', hc, htr⟩ := hi i (by omega)
  obtain ⟨b, hb, hr⟩ := h H enc W n cs' _ htr
  have hblk := World.cells?_block hc hp
  obtain ⟨_, hlen, hcell⟩ := World.cells?_some hc
  refine ⟨b, hb, cs', hlen, fun j u hj => ?_, hr, by simpa [block_add] using hblk⟩
  have hjl : j < cs'.length := by have := List.getElem?_eq_some_iff.1 hj; exact this.1
  rw [← add_add, hcell j (by omega), hj]
 refine ⟨axs, ⟨by omega, fun b hb => ?_⟩, ?_⟩
 ·obtain ⟨i, hi', rfl⟩ := List.mem_iff_getElem.1 hb
  exact (hR i _ (List.getElem?_eq_getElem hi')).1
 ·simp only [RepL, RepD]
  refine ⟨_, _, rfl, ⟨some a, cap, by simp [hl], by simp; omega, hcm, ?_⟩, rfl⟩
  cases axs with
  | nil => exact .inl rfl
  | cons b bs =>
   obtain ⟨_, _, _, _, _, hblk⟩ := hR 0 b rfl
   refine .inr ⟨a, P.cellsOf e, rfl, hblk, fun h => h, RepRows.of_get _ 0 fun i r hr => ?_⟩
   rw [List.getElem?_map] at hr
   cases hb' : (b :: bs)[i]? with
   | none => rw [hb'] at hr; cases hr
   | some c =>
    rw [hb'] at hr
    cases hr
    obtain ⟨_, vs, h1, h2, h3, _⟩ := hR i c hb'
    exact ⟨vs, h1, by simpa using h2, h3⟩
/-! structs -/
def OpensF (P : Program) (n : Nat) (off : Nat) (fs : List Field) {α : Type} (ok : α → Prop) (en : α → List D) : Prop :=
 ∀ (H : Type) (enc : TypeId × Value → H) (W : World) (fuel : Nat) (cs : List Value), cs.length = n → (∀ f ∈ fs, ∃ x, DataW.trod enc P W 0 (fun _ => true) true fuel f.type ((cs.drop f.offset).take (P.cellsOf f.type)) = some x) →
  ∃ a, ok a ∧ RepL W NoM (en a) (cs.drop off)
theorem opensF_nil {n : Nat} : OpensF P n n [] (fun _ : Unit => True) (fun _ => []) := by
 intro H enc W fuel cs hl _
 exact ⟨(), trivial, by simp [RepL, ← hl]⟩
theorem opensF_cons {n off : Nat} {f : Field} {fs : List Field} {α β : Type} {ok : α → Prop} {en : α → List D} {ok' : β → Prop} {en' : β → List D} (ho : f.offset = off) (h : Opens P f.type ok en)
  (hr : OpensF P n (off + P.cellsOf f.type) fs ok' en') : OpensF P n off (f :: fs) (fun ab : α × β => ok ab.1 ∧ ok' ab.2) (fun ab => en ab.1 ++ en' ab.2) := by
 intro H enc W fuel cs hl hf
 obtain ⟨x, hx⟩ := hf f (by simp)
 obtain ⟨a, ha, h1⟩ := h H enc W fuel _ x hx
 obtain ⟨b, hb, h2⟩ := hr H enc W fuel cs hl fun g hg => hf g (by simp [hg])
 refine ⟨(a, b), ⟨ha, hb⟩, ?_⟩
 rw [ho] at h1
 have := RepL.append _ _ _ _ h1 h2
 rwa [← List.drop_drop, List.take_append_drop] at this
theorem opens_struct {t : TypeId} {fs : Array Field} {α : Type} {ok : α → Prop} {en : α → List D} (ht : P.underlying t = some (.struct fs)) (h : OpensF P (P.cellsOf t) 0 fs.toList ok en) : Opens P t ok en := by
 intro H enc W fuel cs x hx
 obtain ⟨xs, n, _, _, hl, hsz, hf⟩ := DataW.trod_struct ht hx
 obtain ⟨a, ha, hr⟩ := h H enc W n cs hl fun f hf' => by
  obtain ⟨i, hi, rfl⟩ := List.mem_iff_getElem.1 hf'
  have hi' : i < fs.size := by simpa using hi
  have := hf i (fs[i]) (by simp [hi'])
  rw [List.getElem?_eq_getElem (by omega)] at this
  exact ⟨_, by simpa using this⟩
 exact ⟨a, ha, by simpa using hr⟩
/-! arguments -/
def OpArg (P : Program) (t : TypeId) {α : Type} (ok : α → Prop) (av : α → AV) : Prop :=
 ∀ (H : Type) (enc : TypeId × Value → H) (W : World) (base : Nat) (v : Value) (d : DataW H) (ps : List MemPlace), Value.okWide P W .any base t v → DataW.Trod enc P W 0 (fun _ => true) true t v d ps → ∃ a, ok a ∧ RepV W NoM [] (av a) v
theorem arg_one {t : TypeId} {α : Type} {ok : α → Prop} {en : α → D} (hv : ∀ (W : World) (base : Nat) (v : Value), Value.okWide P W .any base t v → v.cells = #[v]) (h : Opens P t ok (fun a => [en a])) : OpArg P t ok (fun a => .one (en a)) := by
 intro H enc W base v d ps hok ⟨fuel, hf⟩
 obtain ⟨a, ha, hr⟩ := h H enc W fuel _ _ hf
 rw [hv W base v hok] at hr
 simp only [RepL] at hr
 obtain ⟨u, rest, h1, h2, h3⟩ := hr
 cases h1
 exact ⟨a, ha, h2.toC⟩
theorem arg_slice {t e : TypeId} {α : Type} {ok : α → Prop} {en : α → List D} (ht : P.underlying t = some (.slice e)) (hp : 0 < P.cellsOf e) (h : Opens P e ok en) : OpArg P t (fun axs : List α => axs.length ≤ maxLen ∧ ∀ a ∈ axs, ok a) (fun axs => .one (.list (axs.map en))) :=
 arg_one (fun _ _ _ h => by obtain ⟨_, _, _, rfl⟩ := okWide_slice ht h; rfl) (opens_slice ht hp h)
theorem arg_struct {t : TypeId} {fs : Array Field} {α : Type} {ok : α → Prop} {en : α → List D} (ht : P.underlying t = some (.struct fs)) (h : Opens P t ok en) : OpArg P t ok (fun a => .agg (en a)) := by
 intro H enc W base v d ps hok ⟨fuel, hf⟩
 obtain ⟨a, ha, hr⟩ := h H enc W fuel _ _ hf
 obtain ⟨cs, rfl, _⟩ := okWide_struct ht hok
 exact ⟨a, ha, cs.toList, rfl, hr.toC⟩
def HO (P : Program) (ts : List TypeId) (K : List AV → Prop) : Prop :=
 ∀ (H : Type) (enc : TypeId × Value → H) (W : World) (base : Nat) (vs : List Value) (ds : List (DataW H)) (ps : List MemPlace), (∀ (j : Nat) t v, ts[j]? = some t → vs[j]? = some v → Value.okWide P W .any base t v) →
  DataW.TrodAll enc P W 0 (fun _ => true) true ts vs ds ps → ∃ axs, RepVL W NoM [] axs vs ∧ K axs
theorem HO_nil {K : List AV → Prop} (h : K []) : HO P [] K := by
 intro H enc W base vs ds ps _ ht
 obtain ⟨rfl, _⟩ := trodAll_nil ht
 exact ⟨[], rfl, h⟩
theorem HO_cons {t : TypeId} {ts : List TypeId} {K : List AV → Prop} {α : Type} {ok : α → Prop} {av : α → AV} (h : OpArg P t ok av) (hc : ∀ a, ok a → HO P ts fun axs => K (av a :: axs)) : HO P (t :: ts) K := by
 intro H enc W base vs ds ps hok ht
 obtain ⟨v, vs1, d, ds1, a, b, rfl, rfl, rfl, h1, h2⟩ := trodAll_cons ht
 obtain ⟨x, hx, hr⟩ := h H enc W base v d a (hok 0 t v rfl rfl) h1
 obtain ⟨axs, has, hK⟩ := hc x hx H enc W base vs1 ds1 b (fun j t v h3 h4 => hok (j + 1) t v (by simpa using h3) (by simpa using h4)) h2
 exact ⟨av x :: axs, by simp only [RepVL]; exact ⟨v, vs1, rfl, hr, has⟩, hK⟩
theorem trodAll_len : ∀ {ts : List TypeId} {vs : List Value} {ds : List (DataW H)} {ps : List MemPlace}, DataW.TrodAll enc P W 0 (fun _ => true) true ts vs ds ps → vs.length = ts.length ∧ ds.length = ts.length
 | [], _, _, _, h => by
  obtain ⟨rfl, rfl, _⟩ := trodAll_nil h
  exact ⟨rfl, rfl⟩
 | _ :: _, _, _, _, h => by
  obtain ⟨v, vs1, d, ds1, a, b, rfl, rfl, rfl, _, h2⟩ := trodAll_cons h
  have := trodAll_len h2
  simp [this.1, this.2]
theorem trodAll_keep (hl : laidOutB P = true) {W W' : World} (hb : Below W.heap.size W W') {sp : Nat → Bool} : ∀ {ts : List TypeId} {vs : List Value} {ds : List (DataW H)} {ps : List MemPlace}, (ts.all fun t => P.readableRec t && decide (t < P.types.size)) = true →
  DataW.TrodAll enc P W 0 (fun _ => true) true ts vs ds ps → (∀ p ∈ ps, p.block < W.heap.size) → (∀ p ∈ ps, sp p.block = true) → DataW.TrodAll enc P W' 0 sp true ts vs ds ps
 | [], vs, ds, ps, _, h, _, _ => by
  obtain ⟨rfl, rfl, rfl⟩ := trodAll_nil h
  exact trodAll_mk0
 | t :: ts, vs, ds, ps, hr, h, hlt, hsp => by
  obtain ⟨v, vs1, d, ds1, a, b, rfl, rfl, rfl, h1, h2⟩ := trodAll_cons h
  simp only [List.all_cons, Bool.and_eq_true, decide_eq_true_eq] at hr
  exact ⟨a, b, WideElems.Trod_stays hl hr.1.1 hr.1.2 h1 (fun p hp => hb.same (hlt p (by simp [hp]))) (fun p hp => hsp p (by simp [hp])),
   trodAll_keep hl hb hr.2 h2 (fun p hp => hlt p (by simp [hp])) (fun p hp => hsp p (by simp [hp])), rfl⟩
theorem law_post {f : Func} {s : ChangeSpec} {W W' : World} {args : Array Value} {v : Value} {ds gs : List (DataW H)} {before : List MemPlace} {tb : TypeId} (hl : laidOutB P = true)
  (hW : DataW.Whole enc P f.params.toList s.vars false W args.toList ds gs before) (hvars : s.vars = []) (hts : (f.params.toList.all fun t => P.readableRec t && decide (t < P.types.size)) = true)
  (hrt : f.resultTypes = #[tb]) (htb : P.underlying tb = some .bool) (hv : v = .bool true) (hs : s.fn H ds = { results := [.lit (.bool true)], args := ds }) (hb : Below W.heap.size W W') :
  s.post enc P f false true false false W args v W' := by
 have hlt := hW.lt
 have hW' := hW
 obtain ⟨p, q, hA, hV, rfl, hfz, hnd⟩ := hW
 rw [hvars] at hV
 obtain ⟨rfl, rfl⟩ := trodVars_none hV
 subst hv
 simp only [List.append_nil] at hlt hW'
 refine ⟨ds, [], p, [], p, [], hW', ?_, ?_, ?_, hb.frame _, fun h => by cases h⟩
 ·rw [List.append_nil, hs, hrt]
  exact trodAll_mk1 (shut_bool htb true)
 ·rw [List.append_nil, hs]
  exact trodAll_keep hl hb hts hA hlt fun p hp => by simpa using hlt p hp
 ·rw [List.append_nil, hs, hvars]
  rfl
end
end Go.Eng
