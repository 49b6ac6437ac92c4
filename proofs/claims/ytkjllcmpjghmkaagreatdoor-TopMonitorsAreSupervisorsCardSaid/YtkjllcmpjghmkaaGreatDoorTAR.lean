/-
 The row and the card: TopMonitorsAreSupervisors.
-/
import Derived.ProofKit
import Derived.Deep.Slices
import Derived.Test.YtkjllcmpjghmkaaGreatDoorE3
import Derived.OpenShut
import Derived.LaidLaws
import Derived.Lay
import Derived.MakeChecks
import Derived.Stop.LaidErr
import Derived.Lib.LaidTab
import Derived.Lib.ItoaNum
import Derived.SevenTiedAt
import Derived.Test.YtkjllcmpjghmkaaGreatDoorCards
import Derived.Test.YtkjllcmpjghmkaaGreatDoorTie
import Derived.Test.YtkjllcmpjghmkaaGreatDoorN3
import Derived.Test.YtkjllcmpjghmkaaGreatDoorT9
set_option linter.unusedSimpArgs false
set_option linter.unusedVariables false
namespace Go.Eng
open Go.RowKit Go.ChangeShapes Go.WideShapes
section
variable {H : Type} {enc : TypeId × Value → H} {P : Program} {W : World}
def NoM : Nat → Prop := fun _ => False
def Opens (P : Program) (t : TypeId) {α : Type} (ok : α → Prop) (en : α → List D) : Prop :=
 ∀ (H : Type) (enc : TypeId × Value → H) (W : World) (fuel : Nat) (cs : List Value) (x : DataW H × List MemPlace), DataW.trod enc P W 0 (fun _ => true) true fuel t cs = some x → ∃ a, ok a ∧ RepL W NoM (en a) cs
theorem Opens.map {t : TypeId} {α β : Type} {ok : α → Prop} {en : α → List D} (h : Opens P t ok en) {ok' : β → Prop} {en' : β → List D} (g : α → β) (h1 : ∀ a, ok a → ok' (g a)) (h2 : ∀ a, en' (g a) = en a) : Opens P t ok' en' := by
 intro H enc W fuel cs x hx
 obtain ⟨a, ha, hr⟩ := h H enc W fuel cs x hx
 exact ⟨g a, h1 a ha, by rw [h2]; exact hr⟩
theorem z23 {t : TypeId} {k : IntKind} (ht : P.underlying t = some (.int k)) : Opens P t (fun z => (Lit.int k z).wf = true) (fun z => [.int k z]) := by
 intro H enc W fuel cs x hx
 obtain ⟨z, rfl, _, hw⟩ := DataW.trod_int ht hx
 exact ⟨z, hw, by simp [RepL, RepD]⟩
theorem zfa {α : Type} (R : Nat → α → Prop) : ∀ n, (∀ i, i < n → ∃ a, R i a) → ∃ l : List α, l.length = n ∧ ∀ i a, l[i]? = some a → R i a
 | 0, _ => ⟨[], rfl, fun i a h => by simp at h⟩
 | n + 1, h => by
  obtain ⟨l, hl, hR⟩ := zfa R n fun i hi => h i (by omega)
  obtain ⟨b, hb⟩ := h n (by omega)
  refine ⟨l ++ [b], by simp [hl], fun i a hi => ?_⟩
  by_cases hin : i < l.length
  ·rw [List.getElem?_append_left hin] at hi; exact hR i a hi
  ·have hin' : i < (l ++ [b]).length := by
    have := List.getElem?_eq_some_iff.1 hi; exact this.1
   simp at hin'
   have : i = l.length := by omega
   subst this
   simp at hi
   subst hi
   rw [hl]; exact hb
def zd1 (P : Program) (n : Nat) (off : Nat) (fs : List Field) {α : Type} (ok : α → Prop) (en : α → List D) : Prop :=
 ∀ (H : Type) (enc : TypeId × Value → H) (W : World) (fuel : Nat) (cs : List Value), cs.length = n → (∀ f ∈ fs, ∃ x, DataW.trod enc P W 0 (fun _ => true) true fuel f.type ((cs.drop f.offset).take (P.cellsOf f.type)) = some x) →
  ∃ a, ok a ∧ RepL W NoM (en a) (cs.drop off)
theorem zdn {n : Nat} : zd1 P n n [] (fun _ : Unit => True) (fun _ => []) := by
 intro H enc W fuel cs hl _
 exact ⟨(), trivial, by simp [RepL, ← hl]⟩
theorem z26 {n off : Nat} {f : Field} {fs : List Field} {α β : Type} {ok : α → Prop} {en : α → List D} {ok' : β → Prop} {en' : β → List D} (ho : f.offset = off) (h : Opens P f.type ok en)
  (hr : zd1 P n (off + P.cellsOf f.type) fs ok' en') : zd1 P n off (f :: fs) (fun ab : α × β => ok ab.1 ∧ ok' ab.2) (fun ab => en ab.1 ++ en' ab.2) := by
 intro H enc W fuel cs hl hf
 obtain ⟨x, hx⟩ := hf f (by simp)
 obtain ⟨a, ha, h1⟩ := h H enc W fuel _ x hx
 obtain ⟨b, hb, h2⟩ := hr H enc W fuel cs hl fun g hg => hf g (by simp [hg])
 refine ⟨(a, b), ⟨ha, hb⟩, ?_⟩
 rw [ho] at h1
 have := RepL.append _ _ _ _ h1 h2
 rwa [← List.drop_drop, List.take_append_drop] at this
theorem z9R {t : TypeId} {fs : Array Field} {α : Type} {ok : α → Prop} {en : α → List D} (ht : P.underlying t = some (.struct fs)) (h : zd1 P (P.cellsOf t) 0 fs.toList ok en) : Opens P t ok en := by
 intro H enc W fuel cs x hx
 obtain ⟨xs, n, _, _, hl, hsz, hf⟩ := DataW.trod_struct ht hx
 obtain ⟨a, ha, hr⟩ := h H enc W n cs hl fun f hf' => by
  obtain ⟨i, hi, rfl⟩ := List.mem_iff_getElem.1 hf'
  have hi' : i < fs.size := by simpa using hi
  have := hf i (fs[i]) (by simp [hi'])
  rw [List.getElem?_eq_getElem (by omega)] at this
  exact ⟨_, by simpa using this⟩
 exact ⟨a, ha, by simpa using hr⟩
def OpArg (P : Program) (t : TypeId) {α : Type} (ok : α → Prop) (av : α → AV) : Prop :=
 ∀ (H : Type) (enc : TypeId × Value → H) (W : World) (base : Nat) (v : Value) (d : DataW H) (ps : List MemPlace), Value.okWide P W .any base t v → DataW.Trod enc P W 0 (fun _ => true) true t v d ps → ∃ a, ok a ∧ RepV W NoM [] (av a) v
theorem zja {t : TypeId} {α : Type} {ok : α → Prop} {en : α → D} (hv : ∀ (W : World) (base : Nat) (v : Value), Value.okWide P W .any base t v → v.cells = #[v]) (h : Opens P t ok (fun a => [en a])) : OpArg P t ok (fun a => .one (en a)) := by
 intro H enc W base v d ps hok ⟨fuel, hf⟩
 obtain ⟨a, ha, hr⟩ := h H enc W fuel _ _ hf
 rw [hv W base v hok] at hr
 simp only [RepL] at hr
 obtain ⟨u, rest, h1, h2, h3⟩ := hr
 cases h1
 exact ⟨a, ha, h2.toC⟩
theorem zjb {t : TypeId} {k : IntKind} (ht : P.underlying t = some (.int k)) : OpArg P t (fun z => (Lit.int k z).wf = true) (fun z => .one (.int k z)) :=
 zja (fun _ _ _ h => by obtain ⟨_, rfl⟩ := okWide_int ht h; rfl) (z23 ht)
theorem ze4 {t : TypeId} {fs : Array Field} {α : Type} {ok : α → Prop} {en : α → List D} (ht : P.underlying t = some (.struct fs)) (h : Opens P t ok en) : OpArg P t ok (fun a => .agg (en a)) := by
 intro H enc W base v d ps hok ⟨fuel, hf⟩
 obtain ⟨a, ha, hr⟩ := h H enc W fuel _ _ hf
 obtain ⟨cs, rfl, _⟩ := okWide_struct ht hok
 exact ⟨a, ha, cs.toList, rfl, hr.toC⟩
def HO (P : Program) (ts : List TypeId) (K : List AV → Prop) : Prop :=
 ∀ (H : Type) (enc : TypeId × Value → H) (W : World) (base : Nat) (vs : List Value) (ds : List (DataW H)) (ps : List MemPlace), (∀ (j : Nat) t v, ts[j]? = some t → vs[j]? = some v → Value.okWide P W .any base t v) →
  DataW.TrodAll enc P W 0 (fun _ => true) true ts vs ds ps → ∃ axs, RepVL W NoM [] axs vs ∧ K axs
theorem zkr {K : List AV → Prop} (h : K []) : HO P [] K := by
 intro H enc W base vs ds ps _ ht
 obtain ⟨rfl, _⟩ := trodAll_nil ht
 exact ⟨[], rfl, h⟩
theorem zbU {t : TypeId} {ts : List TypeId} {K : List AV → Prop} {α : Type} {ok : α → Prop} {av : α → AV} (h : OpArg P t ok av) (hc : ∀ a, ok a → HO P ts fun axs => K (av a :: axs)) : HO P (t :: ts) K := by
 intro H enc W base vs ds ps hok ht
 obtain ⟨v, vs1, d, ds1, a, b, rfl, rfl, rfl, h1, h2⟩ := trodAll_cons ht
 obtain ⟨x, hx, hr⟩ := h H enc W base v d a (hok 0 t v rfl rfl) h1
 obtain ⟨axs, has, hK⟩ := hc x hx H enc W base vs1 ds1 b (fun j t v h3 h4 => hok (j + 1) t v (by simpa using h3) (by simpa using h4)) h2
 exact ⟨av x :: axs, by simp only [RepVL]; exact ⟨v, vs1, rfl, hr, has⟩, hK⟩
theorem z67 : ∀ {ts : List TypeId} {vs : List Value} {ds : List (DataW H)} {ps : List MemPlace}, DataW.TrodAll enc P W 0 (fun _ => true) true ts vs ds ps → vs.length = ts.length ∧ ds.length = ts.length
 | [], _, _, _, h => by
  obtain ⟨rfl, rfl, _⟩ := trodAll_nil h
  exact ⟨rfl, rfl⟩
 | _ :: _, _, _, _, h => by
  obtain ⟨v, vs1, d, ds1, a, b, rfl, rfl, rfl, _, h2⟩ := trodAll_cons h
  have := z67 h2
  simp [this.1, this.2]
theorem z5g (hl : laidOutB P = true) {W W' : World} (hb : Below W.heap.size W W') {sp : Nat → Bool} : ∀ {ts : List TypeId} {vs : List Value} {ds : List (DataW H)} {ps : List MemPlace}, (ts.all fun t => P.readableRec t && decide (t < P.types.size)) = true →
  DataW.TrodAll enc P W 0 (fun _ => true) true ts vs ds ps → (∀ p ∈ ps, p.block < W.heap.size) → (∀ p ∈ ps, sp p.block = true) → DataW.TrodAll enc P W' 0 sp true ts vs ds ps
 | [], vs, ds, ps, _, h, _, _ => by
  obtain ⟨rfl, rfl, rfl⟩ := trodAll_nil h
  exact trodAll_mk0
 | t :: ts, vs, ds, ps, hr, h, hlt, hsp => by
  obtain ⟨v, vs1, d, ds1, a, b, rfl, rfl, rfl, h1, h2⟩ := trodAll_cons h
  simp only [List.all_cons, Bool.and_eq_true, decide_eq_true_eq] at hr
  exact ⟨a, b, WideElems.Trod_stays hl hr.1.1 hr.1.2 h1 (fun p hp => hb.same (hlt p (by simp [hp]))) (fun p hp => hsp p (by simp [hp])),
   z5g hl hb hr.2 h2 (fun p hp => hlt p (by simp [hp])) (fun p hp => hsp p (by simp [hp])), rfl⟩
theorem zhc {f : Func} {s : ChangeSpec} {W W' : World} {args : Array Value} {v : Value} {ds gs : List (DataW H)} {before : List MemPlace} {tb : TypeId} (hl : laidOutB P = true)
  (hW : DataW.Whole enc P f.params.toList s.vars false W args.toList ds gs before) (hvars : s.vars = []) (hts : (f.params.toList.all fun t => P.readableRec t && decide (t < P.types.size)) = true)
  (hrt : f.resultTypes = #[tb]) (htb : P.underlying tb = some .bool) (hv : v = .bool true) (hs : s.fn H ds = { results := [.lit (.bool true)], args := ds }) (hb : Below W.heap.size W W') :
  s.post enc P f false true false false W args v W' := by
 have hlt := hW.lt
 have hW' := hW
 obtain ⟨p, q, hA, hV, rfl, hfz, hnd⟩ := hW
 rw [hvars] at hV
 obtain ⟨rfl, rfl⟩ := trodVars_none hV
 subst hv
 simp only [List.append_nil] at hlt hW'
 refine ⟨ds, [], p, [], p, [], hW', ?_, ?_, ?_, hb.frame _, fun h => by cases h⟩
 ·rw [List.append_nil, hs, hrt]
  exact trodAll_mk1 (shut_bool htb true)
 ·rw [List.append_nil, hs]
  exact z5g hl hb hts hA hlt fun p hp => by simpa using hlt p hp
 ·rw [List.append_nil, hs, hvars]
  rfl
end
end Go.Eng
set_option linter.unusedSimpArgs false
set_option linter.unusedVariables false
namespace Go.Eng
open Go.RowKit Go.ChangeShapes Go.WideShapes
section
variable {P : Program}
theorem z9I {W : World} {α : Type} {en : α → List D} {cs : List Value} {c : Nat} : ∀ (l : List α) (k : Nat), cs.length = (k + l.length) * c → (∀ i a, l[i]? = some a → RepL W NoM (en a) ((cs.drop ((k + i) * c)).take c)) → RepL W NoM (l.flatMap en) (cs.drop (k * c))
 | [], k, hl, _ => by
  rw [List.drop_of_length_le (by simpa using Nat.le_of_eq hl)]
  simp [RepL]
 | a :: l, k, hl, h => by
  have h1 := h 0 a rfl
  have h2 := z9I (W := W) (en := en) (cs := cs) (c := c) l (k + 1) (by rw [hl]; simp [Nat.add_comm, Nat.add_left_comm]) fun i b hb => by
   have := h (i + 1) b (by simpa using hb)
   rwa [show k + (i + 1) = k + 1 + i by omega] at this
  have h3 := RepL.append _ _ _ _ h1 h2
  rw [List.flatMap_cons]
  have e : (cs.drop ((k + 0) * c)).take c ++ cs.drop ((k + 1) * c) = cs.drop (k * c) := by
   rw [Nat.add_zero, Nat.add_mul, Nat.one_mul, ← List.drop_drop, List.take_append_drop]
  rwa [e] at h3
theorem z24 {t e : TypeId} {n : Nat} {α : Type} {ok : α → Prop} {en : α → List D} (ht : P.underlying t = some (.array n e)) (hs : P.cellsOf t = n * P.cellsOf e) (h : Opens P e ok en) : Opens P t (fun l : List α => l.length = n ∧ ∀ a ∈ l, ok a) (fun l => l.flatMap en) := by
 intro H enc W fuel cs x hx
 obtain ⟨xs, m, _, _, hl, hn, hi⟩ := DataW.trod_array ht hx
 obtain ⟨l, hll, hR⟩ := zfa (fun i a => ok a ∧ RepL W NoM (en a) ((cs.drop (i * P.cellsOf e)).take (P.cellsOf e))) n fun i hin => by
  have := hi i hin
  rw [List.getElem?_eq_getElem (by omega)] at this
  obtain ⟨a, ha, hr⟩ := h H enc W m _ _ this
  exact ⟨a, ha, hr⟩
 refine ⟨l, ⟨hll, fun a ha => ?_⟩, ?_⟩
 ·obtain ⟨i, hi', rfl⟩ := List.mem_iff_getElem.1 ha
  exact (hR i _ (List.getElem?_eq_getElem hi')).1
 ·have := z9I (W := W) (en := en) (cs := cs) (c := P.cellsOf e) l 0 (by rw [hl, hs, hll]; simp) fun i a ha => by
   rw [Nat.zero_add]
   exact (hR i a ha).2
  simpa using this
theorem zgb {t e : TypeId} {n : Nat} {α : Type} {ok : α → Prop} {en : α → List D} (ht : P.underlying t = some (.array n e)) (h : Opens P t ok en) : OpArg P t ok (fun a => .agg (en a)) := by
 intro H enc W base v d ps hok ⟨fuel, hf⟩
 obtain ⟨a, ha, hr⟩ := h H enc W fuel _ _ hf
 simp only [Value.okWide, ht] at hok
 obtain ⟨cs, rfl, _⟩ := hok
 exact ⟨a, ha, cs.toList, rfl, hr.toC⟩
end
end Go.Eng
set_option linter.unusedSimpArgs false
set_option linter.unusedVariables false
namespace Go.Eng
open Go.RowKit Go.ChangeShapes Go.WideShapes
section
variable {H : Type} {enc : TypeId × Value → H}
theorem z6G {C : Checked} {os : Os} {f : FuncId} {fn : Func} {s : ChangeSpec} {tb : TypeId} {laid : List (String × DataW Unit)} (own : ownKnob C.prog.godebug = none) (started : os.Started) (noInit : C.prog.inits.idxOf? f = none) (hfn : C.prog.funcs[f]? = some fn)
  (hl : laidOutB C.prog = true) (hvars : s.vars = []) (hts : (fn.params.toList.all fun t => C.prog.readableRec t && decide (t < C.prog.types.size)) = true)
  (hrt : fn.resultTypes = #[tb]) (htb : C.prog.underlying tb = some .bool) (hs : ∀ ds : List (DataW H), ds.length = fn.params.toList.length → s.fn H ds = { results := [.lit (.bool true)], args := ds })
  (witness : ∃ (w : World) (tape : Tape) (i : Input), w.os = os ∧ (w.forCall tape i).Shaped C.prog ∧ i.vars = [] ∧ Input.okWide C.prog (w.forCall tape i) .any w.heap.size f i ∧
   ((s.pre enc C.prog fn [] false (w.forCall tape i).memory i.args ∧ laidMetH C.prog laid (w.forCall tape i).memory) ∧ sizedMet enc C.prog fn (OpenSpec.ofChange s) false (w.forCall tape i).memory i.args) ∧ ({} : Assume).holds C.prog (lone (Frame.enter C.prog f i.args .normal) [] (w.forCall tape i)))
  (hg : ∀ W : World, laidMetH C.prog laid W → ∀ x ∈ globs, x.1 < W.heap.size ∧ ∃ e fz, W.heap[x.1]? = some (.cells x.2 e fz))
  (hc : HO C.prog fn.params.toList fun axs => ACalls C.prog f axs (.one (.bool true)) []) :
  ReturnsInHanded {} C os f .any (fun w args => (s.pre enc C.prog fn [] false w args ∧ laidMetH C.prog laid w) ∧ sizedMet enc C.prog fn (OpenSpec.ofChange s) false w args) (s.post enc C.prog fn false true false false) := by
 refine returnsInHanded_of_change_and (X := fun w _ => laidMetH C.prog laid w) (fun _ _ _ hh h => h.of_heap hh) own started noInit hfn witness ?_
 intro W base args ds gs before hval hW _ _ hL _
 have hA := hW
 obtain ⟨p, q, hA, hV, rfl, _, _⟩ := hA
 have hlen := (z67 hA).2
 obtain ⟨axs, hr, hcall⟩ := hc H enc W base args.toList ds p (fun j t v h1 h2 => hval j t v (by simpa using h1) (by simpa using h2)) hA
 refine (hcall.2 W NoM args.toList ⟨fun g h => h.elim, fun x hx => ?_⟩ hr).mono fun e W' ⟨v, β, he, hres⟩ => ⟨v, he, ?_⟩
 ·obtain ⟨h1, h2⟩ := hg W hL x hx
  exact ⟨h1, ⟨fun h => h.elim, fun h => z3o h⟩, h2⟩
 ·exact zhc hl hW hvars hts hrt htb hres.val (hs ds hlen) hres.below
theorem zbn {P : Program} {W : World} {name : String} {g : Nat} {zs : List Int} (hg : P.globalNamed name = some g) (h : Lib.TabIs P W name .u64 zs) : g < W.heap.size ∧ ∃ e fz, W.heap[g]? = some (.cells (zs.map fun z => Value.int .u64 z).toArray e fz) := by
 unfold Lib.TabIs World.var? at h
 rw [hg] at h
 simp only [Option.bind_some] at h
 split at h
 ·rename_i cs e fz hh
  cases h
  exact ⟨(Array.getElem?_eq_some_iff.1 hh).1, e, fz, hh⟩
 ·cases h
end
end Go.Eng
set_option linter.unusedSimpArgs false
set_option linter.unusedVariables false
namespace Go.Proofs.YtkjllcmpjghmkaaGreatDoor
open Go.Eng Go.RowKit Go.ChangeShapes
def laidL : List (String × DataW Unit) := [("math/bits.deBruijn32tab", Rows.laid_math_bits_deBruijn32tab), ("math/bits.deBruijn64tab", Rows.laid_math_bits_deBruijn64tab), ("internal/strconv.uint64pow10", Rows.laid_internal_strconv_uint64pow10)]
theorem zhd (os : Os) (args : Array Value) : laidMetH Tryz.prog laidL ((World.laidAll Tryz.prog os laidL).forCall (fun _ _ => 0) ⟨#[], args, []⟩).memory := by
 rw [MakeChecks.laidMetH_plain _ _ _ (by kernel_rfl)]
 exact laidMet_laidAll _ (by kernel_rfl) (by kernel_rfl)
theorem zcj : Tryz.prog.globalNamed "internal/strconv.uint64pow10" = some 0 := by kernel_rfl
theorem zdL (W : World) (h : laidMetH Tryz.prog laidL W) : ∀ x ∈ globs, x.1 < W.heap.size ∧ ∃ e fz, W.heap[x.1]? = some (.cells x.2 e fz) := by
 intro x hx
 rw [MakeChecks.laidMetH_plain _ _ _ (by kernel_rfl)] at h
 have ht : Lib.TabIs Tryz.prog W "internal/strconv.uint64pow10" .u64 Lib.pow10Tab :=
  Lib.tabIs_of_head (rest := []) (t := 286) (e := 238) (n := 20) zcj (by kernel_rfl) Tryz.underlying286 Tryz.underlying238 (by kernel_rfl) (by kernel_rfl) (laidMet.tail (laidMet.tail h))
 obtain rfl := List.mem_singleton.1 hx
 exact zbn zcj ht
theorem z9P : ownKnob Tryz.prog.godebug = none := by kernel_rfl
theorem ziN : laidOutB Tryz.prog = true := by kernel_rfl
end Go.Proofs.YtkjllcmpjghmkaaGreatDoor
set_option linter.unusedSimpArgs false
set_option linter.unusedVariables false
namespace Go.Proofs.YtkjllcmpjghmkaaGreatDoor
open Go.Eng Go.RowKit Go.ChangeShapes
theorem z4d {z : Int} (h : (Lit.int .u8 z).wf = true) : 0 ≤ z ∧ z ≤ 255 := by
 simp only [Lit.wf, Bool.and_eq_true, decide_eq_true_eq] at h
 exact ⟨h.1, Int.le_trans h.2 (by decide)⟩
def zca (x : Int × Int × List Int × List Int × List (List Int) × Unit) : List Int := x.1 :: x.2.1 :: (x.2.2.1 ++ x.2.2.2.1 ++ x.2.2.2.2.1.flatten)
theorem zfB (l : List Int) : l.flatMap (fun z => [D.int .u8 z]) = l.map fun z => D.int .u8 z := by
 induction l with
 | nil => rfl
 | cons a l ih => simp [ih]
theorem zfC (l : List (List Int)) : l.flatMap (fun l => l.flatMap fun z => [D.int .u8 z]) = l.flatten.map fun z => D.int .u8 z := by
 induction l with
 | nil => rfl
 | cons a l ih => rw [List.flatMap_cons, ih, zfB]; simp
theorem z7B {l : List (List Int)} {n : Nat} (h : ∀ x ∈ l, x.length = n) : l.flatten.length = l.length * n := by
 induction l with
 | nil => simp
 | cons a l ih => simp [ih fun x hx => h x (by simp [hx]), h a (by simp), Nat.add_mul, Nat.add_comm]
set_option maxRecDepth 100000 in
theorem zba : Opens Tryz.prog 25 (fun l : List Int => l.length = 37 ∧ ∀ x ∈ l, 0 ≤ x ∧ x ≤ 255) (fun l => l.map fun z => D.int .u8 z) :=
 (z9R Tryz.underlying25 (z26 rfl (z23 Tryz.underlying5) (z26 (by kernel_rfl) (z23 Tryz.underlying5) (z26 (by kernel_rfl) (z24 Tryz.underlying22 (by kernel_rfl) (z23 Tryz.underlying5)) (z26 (by kernel_rfl) (z24 Tryz.underlying22 (by kernel_rfl) (z23 Tryz.underlying5))
  (z26 (by kernel_rfl) (z24 Tryz.underlying23 (by kernel_rfl) (z24 Tryz.underlying22 (by kernel_rfl) (z23 Tryz.underlying5))) zdn)))))).map zca
  (fun x h => by
   obtain ⟨a, b, l, m, n, u⟩ := x
   simp only at h
   obtain ⟨h1, h2, ⟨h3, h4⟩, ⟨h5, h6⟩, ⟨h7, h8⟩, _⟩ := h
   have h9 := z7B fun x hx => (h8 x hx).1
   refine ⟨?_, fun y hy => ?_⟩
   ·simp only [zca, List.length_cons, List.length_append]; omega
   ·simp only [zca, List.mem_cons, List.mem_append, List.mem_flatten] at hy
    rcases hy with rfl | rfl | (hy | hy) | ⟨z, hz, hy⟩
    ·exact z4d h1
    ·exact z4d h2
    ·exact z4d (h4 _ hy)
    ·exact z4d (h6 _ hy)
    ·exact z4d ((h8 z hz).2 _ hy))
  (fun x => by
   obtain ⟨a, b, l, m, n, u⟩ := x
   simp only [zca, zfC]
   simp only [zfB, List.map_cons, List.map_append, List.append_nil, List.cons_append, List.nil_append, List.append_assoc])
theorem zfU {l : List Int} {n : Nat} (h : l.length = n) : z0Y n (fun i => l.getD i 0) = l.map fun z => D.int .u8 z := by
 subst h
 apply List.ext_getElem
 ·simp [z0Y]
 ·intro i h1 h2
  simp [z0Y] at h1 ⊢
  simp [List.getElem?_eq_getElem h1]
set_option maxRecDepth 100000 in
theorem zgU : OpArg Tryz.prog 25 Bytes (fun s => .agg (z0Y 37 s)) := by
 intro H enc W base v d ps hok hd
 obtain ⟨l, ⟨h1, h2⟩, hr⟩ := ze4 Tryz.underlying25 zba H enc W base v d ps hok hd
 refine ⟨fun i => l.getD i 0, fun i => ?_, by show RepV W NoM [] (.agg (z0Y 37 fun i => l.getD i 0)) v; rw [zfU h1]; exact hr⟩
 by_cases hi : i < l.length
 ·exact h2 _ (z01 l i 0 hi)
 ·have : l.getD i 0 = 0 := by rw [List.getD, List.getElem?_eq_none (Nat.le_of_not_lt hi)]; rfl
  simp only [this]; omega
theorem op_u8 : OpArg Tryz.prog 5 (fun z : Int => (Lit.int .u8 z).wf = true) (fun z => .one (.int .u8 z)) := zjb Tryz.underlying5
end Go.Proofs.YtkjllcmpjghmkaaGreatDoor
set_option linter.unusedSimpArgs false
set_option linter.unusedVariables false
namespace Go.Proofs.YtkjllcmpjghmkaaGreatDoor
open Go.Eng Go.RowKit Go.ChangeShapes
theorem six (l : List Int) (h : l.length = 6) : l.flatMap (fun z => [D.int .i8 z]) = [.int .i8 (l.getD 0 0), .int .i8 (l.getD 1 0), .int .i8 (l.getD 2 0), .int .i8 (l.getD 3 0), .int .i8 (l.getD 4 0), .int .i8 (l.getD 5 0)] := by
 match l, h with
 | [a, b, c, d, e, f], _ => rfl
set_option maxRecDepth 100000 in
theorem op_f6 : OpArg Tryz.prog 27 (fun _ : Nat → Int => True) (fun f => .agg [.int .i8 (f 0), .int .i8 (f 1), .int .i8 (f 2), .int .i8 (f 3), .int .i8 (f 4), .int .i8 (f 5)]) := by
 intro H enc W base v d ps hok hd
 obtain ⟨l, ⟨h1, h2⟩, hr⟩ := zgb Tryz.underlying27 (z24 Tryz.underlying27 (by kernel_rfl) (z23 Tryz.underlying26)) H enc W base v d ps hok hd
 change RepV W NoM [] (.agg (l.flatMap fun z => [D.int .i8 z])) v at hr
 rw [six l h1] at hr
 exact ⟨fun i => l.getD i 0, trivial, hr⟩
end Go.Proofs.YtkjllcmpjghmkaaGreatDoor
set_option linter.unusedSimpArgs false
set_option linter.unusedVariables false
namespace Go.Proofs.YtkjllcmpjghmkaaGreatDoor
open Go.Eng Go.RowKit Go.ChangeShapes
theorem zjk {z : Int} (h : (Lit.int .u8 z).wf = true) : 0 ≤ z ∧ z ≤ 255 := by
 simp only [Lit.wf, Bool.and_eq_true, decide_eq_true_eq] at h
 exact ⟨h.1, Int.le_trans h.2 (by decide)⟩
set_option maxRecDepth 100000 in
theorem TopMonitorsAreSupervisors_lifted (os : Os) (started : os.Started) (H : Type) (enc : TypeId × Value → H) :
  ReturnsInHanded {} Tryz.checked os 3 .any (fun w args => (Rows.topMonitorsAreSupervisorsSpec.pre enc Tryz.prog Tryz.f3 [] false w args ∧ laidMetH Tryz.prog laidL w) ∧ sizedMet enc Tryz.prog Tryz.f3 (OpenSpec.ofChange Rows.topMonitorsAreSupervisorsSpec) false w args) (Rows.topMonitorsAreSupervisorsSpec.post enc Tryz.prog Tryz.f3 false true false false) :=
 z6G (C := Tryz.checked) (tb := 4) (laid := laidL) z9P started (by kernel_rfl) Tryz.func3 ziN rfl (by kernel_rfl) (by kernel_rfl) Tryz.underlying4
  (fun ds h => by
   match ds, h with
   | [_, _, _], _ => rfl)
  (ChangeSpec.witness_shaped (enc := enc) (C := Tryz.checked) (os := os) (X := fun w _ => laidMetH Tryz.prog laidL w) false (World.laidAll Tryz.prog os laidL) #[.agg (.replicate 37 (.int .u8 0)), .agg (.replicate 6 (.int .i8 0)), .int .u8 0] 8 (World.laidAll_os _ _ _) (World.shaped_of_ZipB (by kernel_rfl) (by kernel_rfl)) (by kernel_rfl) (by kernel_rfl) (by kernel_rfl) (zhd os _))
  zdL (zbU zgU fun s hs => zbU op_f6 fun f _ => zbU op_u8 fun b hb => zkr (z9l s hs f b (zjk hb)))
theorem TopMonitorsAreSupervisors_row : Rows.TopMonitorsAreSupervisorsSaid :=
 OpenClaim.holds_of_wide 3 Tryz.f3 rfl rfl rfl rfl rfl rfl rfl ⟨rfl, rfl, rfl, rfl, rfl⟩ rfl rfl rfl rfl rfl (by kernel_rfl) Tryz.func3 (by kernel_rfl)
  (of_decide_eq_true (by kernel_rfl)) (by unfold Func.isWrapper; rw [if_neg (by decide +kernel)]; exact ⟨rfl, rfl⟩)
  (fun os started H enc _ => TopMonitorsAreSupervisors_lifted os started H enc)
theorem TopMonitorsAreSupervisors_holds : Rows.TopMonitorsAreSupervisorsCardSaid :=
 Claim7.holds_tied_plain_at .later [] [.data, .data, .data] true (true, "b894e5d3643d55624f4bbc5f2ca7db6ece32859e9d9aa9c4720edea5f3017c2c") false
  TopMonitorsAreSupervisors_row (fun _ h => by cases h) (by kernel_rfl) (fun _ h => by cases h) topMonitorsAreSupervisors_row_tie rfl ⟨rfl, rfl⟩ (by kernel_rfl) rfl
  (fun f fn hf hfn => by
   obtain rfl : f = 3 := (Option.some.inj ((show Tryz.prog.funcNamed "overseer/overseertop.TopMonitorsAreSupervisors" = some 3 by kernel_rfl).symm.trans hf)).symm
   obtain rfl : fn = Tryz.f3 := (Option.some.inj (Tryz.func3.symm.trans hfn)).symm
   exact ⟨by kernel_rfl, fun j t ht => by
    have hm : t ∈ Tryz.f3.params.toList := by simpa using Array.mem_of_getElem? ht
    have hall : (Tryz.f3.params.toList.all fun u => !Tryz.prog.wantsStandIn u) = true := by kernel_rfl
    exact (show Tryz.prog.wantsStandIn t = false by simpa using List.all_eq_true.1 hall t hm)⟩)
  (by kernel_rfl)
end Go.Proofs.YtkjllcmpjghmkaaGreatDoor
