/-
  The abstract machine: a region that draws its order, phase by phase.
-/
import Derived.Test.YtjldfifepbdlmaaDoorEngN7
set_option linter.unusedSimpArgs false
set_option linter.unusedVariables false
namespace Go.Eng
open Go.RowKit

inductive Ph where
  | mid (l : List PE) (m : Nat)
  | one (i : Nat)
def Ph.ids : Ph → List Nat
  | .mid l _ => l.map PE.i
  | .one i => [i]
def idsOf : List Ph → List Nat
  | [] => []
  | p :: ps => p.ids ++ idsOf ps
def phB (A : List (Nat × List Nat)) (md : Region.Mode) (ops : Array Oper) (later : List Nat) (listed : Array Bool) : Ph → Bool
  | .one i => (Region.ready md ops listed).contains i && later.all (fun t => ancB A t i)
  | .mid l m => lexR md ops (l.map PE.i) listed && planB A md ops m l [] l && later.all (fun t => l.all fun e => e.tk || ancB A t e.i) && l.all (fun e => !e.tk || later.all fun t => Region.waitsFor md ops t e.i || ancB A e.i t || match ops[e.i]?, ops[t]? with | some o, some oj => o.apart ops oj | _, _ => true)
def phsB (A : List (Nat × List Nat)) (md : Region.Mode) (ops : Array Oper) : List Ph → Array Bool → Bool
  | [], listed => (Region.ready md ops listed).isEmpty
  | p :: ps, listed => phB A md ops (idsOf ps) listed p && phsB A md ops ps (setAll p.ids listed)
def nodupB : List Nat → Bool
  | [] => true
  | i :: is => !memN i is && nodupB is
def pWalk (P : Program) (T : Tab) (ops : Array Oper) : List Ph → AState → (AState → Prop) → Prop
  | [], σ, K => K σ
  | .one i :: ps, σ, K => match ops[i]? with | some o => aop P T ops o σ (fun σ' => pWalk P T ops ps σ' K) | none => False
  | .mid l m :: ps, σ, K => mWalk P T ops σ.H.length l (σ.reserve m) fun σ' => pWalk P T ops ps σ' K
theorem nodupB_iff : ∀ {l : List Nat}, nodupB l = true → l.Nodup
  | [], _ => List.nodup_nil
  | i :: l, h => by
    simp only [nodupB, Bool.and_eq_true, Bool.not_eq_true'] at h
    exact List.nodup_cons.2 ⟨fun hm => absurd h.1 (by rw [memN_iff.2 hm]; simp), nodupB_iff h.2⟩
section
variable {P : Program} {T : Tab} {W0 w : World} {M0 : Nat → Prop} {F β : List Value} {σ τ σ0 : AState} {a : Act} {md : Region.Mode} {ops : Array Oper} {Q : Exit → Act → World → Prop} {K : AState → Prop} {A : List (Nat × List Nat)}
theorem lex_first : ∀ (ids : List Nat) (l0 listed : Array Bool) (rem : List Nat), lexR md ops ids l0 = true → (∀ j, l0.getD j false = true → listed.getD j false = true) → (∀ i ∈ ids, i ∉ rem → listed.getD i false = true) → (∀ i ∈ rem, listed.getD i true = false) → (∃ i ∈ rem, i ∈ ids) → ∃ i ∈ rem, i ∈ Region.ready md ops listed
  | [], _, _, _, _, _, _, _, h => by obtain ⟨i, _, hi⟩ := h; cases hi
  | i :: ids, l0, listed, rem, hl, h1, h2, h3, h4 => by
    simp only [lexR, Bool.and_eq_true] at hl
    by_cases hir : i ∈ rem
    · have hr : i ∈ Region.ready md ops l0 := by simpa using hl.1
      obtain ⟨_, o, ho, hall⟩ := mem_ready.1 hr
      exact ⟨i, hir, mem_ready.2 ⟨h3 i hir, o, ho, fun e he hb => h1 _ (hall e he hb)⟩⟩
    · refine lex_first ids _ listed rem hl.2 (fun j hj => ?_) (fun j hj => h2 j (by simp [hj])) h3 ?_
      · by_cases hij : i = j
        · subst hij; exact h2 i (by simp) hir
        · rw [getD_set_ne false hij] at hj; exact h1 j hj
      · obtain ⟨j, hj, hji⟩ := h4
        rcases List.mem_cons.1 hji with rfl | hji
        · exact absurd hj hir
        · exact ⟨j, hj, hji⟩
theorem setAll_look : ∀ (is : List Nat) (l : Array Bool) (j : Nat), (setAll is l).getD j true = if j ∈ is then true else l.getD j true
  | [], _, _ => by simp [setAll]
  | i :: is, l, j => by
    simp only [setAll]
    rw [setAll_look is _ j]
    by_cases hj : j ∈ is
    · rw [if_pos hj, if_pos (by simp [hj])]
    · rw [if_neg hj]
      by_cases hij : i = j
      · subst hij
        rw [if_pos (by simp)]
        rcases Nat.lt_or_ge i l.size with h | h
        · simp [h]
        · simp [Array.getElem?_eq_none h]
      · rw [getD_set_ne true hij, if_neg (by simp [hj, Ne.symm hij])]
/-- what is listed at a phase's head -/
structure Head (md : Region.Mode) (ops : Array Oper) (ids : List Nat) (listed : Array Bool) : Prop where
  size : listed.size = ops.size
  closed : Closed md ops listed
  un : ∀ j ∈ ids, j < ops.size ∧ listed.getD j true = false
  cover : ∀ j, j < ops.size → listed.getD j true = false → j ∈ ids
theorem phs_run (hT : TabOk P T) (hsel : Region.noSelect ops = true) (hQp : ∀ c a w, ¬ Q (.panic c) a w) (hA : AncOk md ops A) : ∀ (ps : List Ph) (listed : Array Bool) (σ : AState) (a : Act) (w : World), SimS W0 M0 F σ a w → Head md ops (idsOf ps) listed → (idsOf ps).Nodup → phsB A md ops ps listed = true → pWalk P T ops ps σ K →
    (∀ σ' a' w', K σ' → SimS W0 M0 F σ' a' w' → Q .normal a' w') → wpAny P md ops Q (idsOf ps).length listed a w
  | [], listed, σ, a, w, hs, _, _, hB, hw, hk => ⟨by simpa [phsB] using hB, hk _ _ _ hw hs⟩
  | .one i :: ps, listed, σ, a, w, hs, hh, hnd, hB, hw, hk => by
    simp only [phsB, phB, Bool.and_eq_true, List.all_eq_true] at hB
    obtain ⟨⟨hr, hlater⟩, hB'⟩ := hB
    have hr' : i ∈ Region.ready md ops listed := by simpa using hr
    simp only [idsOf, Ph.ids, List.cons_append, List.nil_append, List.length_cons] at hh hnd ⊢
    have hiu := hh.un i (by simp)
    refine ⟨fun h0 => (by rw [h0] at hr'; cases hr'), fun j hj => ?_⟩
    have hji : j = i := by
      obtain ⟨hju, oj, hoj, _⟩ := mem_ready.1 hj
      have hjs := (Array.getElem?_eq_some_iff.1 hoj).1
      rcases List.mem_cons.1 (hh.cover j hjs hju) with h | h
      · exact h
      · have := (ancB_ok hA (hlater j h)).ready hh.closed hj
        rw [getD_both hiu.2] at this
        cases this
    subst hji
    simp only [pWalk] at hw
    cases ho : ops[j]? with
    | none => rw [ho] at hw; exact hw.elim
    | some o =>
      rw [ho] at hw
      rw [List.nodup_cons] at hnd
      have hh' : Head md ops (idsOf ps) (listed.setIfInBounds j true) := ⟨by simp [hh.size], hh.closed.set hj, fun k hk => ⟨(hh.un k (by simp [hk])).1, by rw [getD_set_ne true (fun (e : j = k) => hnd.1 (by rw [e]; exact hk))]; exact (hh.un k (by simp [hk])).2⟩, fun k hks hku => by
        by_cases hjk : j = k
        · subst hjk
          have : j < listed.size := by rw [hh.size]; exact hks
          simp [this] at hku
        · rw [getD_set_ne true hjk] at hku
          rcases List.mem_cons.1 (hh.cover k hks hku) with h | h
          · exact absurd h.symm hjk
          · exact h⟩
      have := aop_sound (Q := Q) hT hs hw (Kc := wpAny P md ops Q (idsOf ps).length (listed.setIfInBounds j true)) fun σ' a' w' h1 h2 => phs_run hT hsel hQp hA ps _ σ' a' w' h2 hh' hnd.2 hB' h1 hk
      unfold wpOp
      rw [ho]
      simp only
      split
      · rename_i hw'; rw [if_pos hw'] at this; exact .inl this
      · rename_i hw'; rw [if_neg hw'] at this; exact this
  | .mid l m :: ps, listed, σ, a, w, hs, hh, hnd, hB, hw, hk => by
    simp only [phsB, phB, Bool.and_eq_true, List.all_eq_true] at hB
    obtain ⟨⟨⟨⟨hlex, hplan⟩, hlater⟩, htake⟩, hB'⟩ := hB
    obtain ⟨L, hL, hwk, hseen⟩ := mWalk_list l _ hw
    subst hL
    obtain ⟨β, hs⟩ := hs
    have hids : Ph.ids (.mid (L.map Ent.e) m) = L.map fun x => x.e.i := by simp [Ph.ids]
    have hlist : (L.map Ent.e).map PE.i = L.map fun x => x.e.i := by simp
    simp only [idsOf] at hh hnd ⊢
    rw [hids] at hh hnd hB' ⊢
    rw [hlist] at hlex
    have hmem : ∀ x ∈ L, x.e.i ∈ L.map fun x => x.e.i := fun x hx => List.mem_map.2 ⟨x, hx, rfl⟩
    have hun : ∀ x ∈ L, x.e.i < ops.size ∧ listed.getD x.e.i true = false := fun x hx => hh.un _ (by simp only [List.mem_append]; exact .inl (hmem x hx))
    obtain ⟨G, hsn, hks, hall, hroom, htk⟩ := plan_facts (σ0 := σ.reserve m) (n0 := σ.H.length) (m := m) (listed0 := listed) hA (by simp [AState.reserve]) (fun t o ht ho => by
      have ho' : (σ.H ++ List.replicate m AObj.gone)[t]? = some o := ho
      rw [List.getElem?_append_right ht, List.getElem?_replicate] at ho'
      split at ho'
      · cases ho'; rfl
      · cases ho') hplan hseen hlex hh.closed (fun x hx => (hun x hx).2) (fun x hx => by rw [hh.size]; exact (hun x hx).1)
    have hndL := (List.nodup_append.1 hnd).1
    have hdisj : ∀ j ∈ idsOf ps, j ∉ L.map fun x => x.e.i := fun j hj hm => (List.nodup_append.1 hnd).2.2 _ hm _ hj rfl
    have hLFl : ∀ j, (setAll (L.map fun x => x.e.i) listed).getD j true = if j ∈ (L.map fun x => x.e.i) then true else listed.getD j true := fun j => setAll_look _ _ j
    have hin : ∀ x ∈ L, x.e.i < ops.size ∧ (setAll (L.map fun x => x.e.i) listed).getD x.e.i true = true := fun x hx => ⟨(hun x hx).1, by rw [hLFl, if_pos (hmem x hx)]⟩
    rw [List.length_append, List.length_map]
    have closedLF : Closed md ops (setAll (L.map fun x => x.e.i) listed) := by
      have go : ∀ (is : List Nat) (l : Array Bool), Closed md ops l → lexR md ops is l = true → Closed md ops (setAll is l) := by
        intro is
        induction is with
        | nil => exact fun l h _ => h
        | cons i is ih =>
          intro l hc hl
          simp only [lexR, Bool.and_eq_true] at hl
          exact ih _ (hc.set (by simpa using hl.1)) hl.2
      exact go _ _ hh.closed hlex
    have hh' : Head md ops (idsOf ps) (setAll (L.map fun x => x.e.i) listed) := by
      refine ⟨by rw [setAll_size, hh.size], closedLF, fun j hj => ⟨(hh.un j (by simp [hj])).1, ?_⟩, fun j hjs hju => ?_⟩
      · rw [hLFl, if_neg (hdisj j hj)]; exact (hh.un j (by simp [hj])).2
      · rw [hLFl] at hju
        by_cases hjm : j ∈ (L.map fun x => x.e.i)
        · rw [if_pos hjm] at hju; cases hju
        · rw [if_neg hjm] at hju
          exact (List.mem_append.1 (hh.cover j hjs hju)).resolve_left hjm
    refine mid_run hT hsel hQp (later := idsOf ps) (LF := setAll (L.map fun x => x.e.i) listed) (σ0 := σ.reserve m) G hsn hs.pin_le (by rw [setAll_size, hh.size]) hin (fun t ht x hx hxt => by
      have := hlater t ht x.e (List.mem_map.2 ⟨x, hx, rfl⟩)
      rw [hxt, Bool.false_or] at this
      exact ancB_ok hA this) (fun x hx hxt => ?_) (fun rem listed' hne hrem hm => ?_) hks (fun σ1 a1 w1 hj1 hs1 => ?_) L.length (L.map fun x => x.e.i) listed (σ.reserve m) a w _ (by simp) hndL (fun i hi => by simpa using hi) (hs.reserve m)
      ((JS.init (fun t o ht ho => by
      have ho' : (σ.H ++ List.replicate m AObj.gone)[t]? = some o := ho
      rw [List.getElem?_append_right ht, List.getElem?_replicate] at ho'
      split at ho'
      · cases ho'; rfl
      · cases ho')).congr fun x hx => ⟨fun h => h.elim, fun h => h (hmem x hx)⟩) (fun x hx _ hmk => ?_) ⟨hh.size, hh.closed, fun j => ?_, fun j hjs hju => by simpa using hh.cover j hjs hju⟩
    · obtain ⟨o, ho, h1, h2⟩ := htk x hx hxt
      refine ⟨o, ho, h1, fun j hj => ?_⟩
      rcases hj with hj | ⟨y, hy, rfl⟩
      · have := htake x.e (List.mem_map.2 ⟨x, hx, rfl⟩)
        simp only [hxt, Bool.not_true, Bool.false_or, List.all_eq_true, Bool.or_eq_true] at this
        rcases this j hj with (h | h) | h
        · exact .inr (.inl h)
        · exact .inr (.inr (.inl (ancB_ok hA h)))
        · refine .inr (.inr (.inr fun oj hoj => ?_))
          rw [ho, hoj] at h
          exact h
      · exact h2 y hy
    · obtain ⟨j, hj⟩ := List.exists_mem_of_ne_nil rem hne
      refine lex_first _ listed listed' rem hlex (fun k hk => ?_) (fun i hi hir => ?_) (fun i hi => by rw [hm.look i, if_pos hi]) ⟨j, hj, ?_⟩
      · have hkl : k < listed.size := by
          rcases Nat.lt_or_ge k listed.size with h | h
          · exact h
          · simp [Array.getElem?_eq_none h] at hk
        have hkt : listed.getD k true = true := by simp [hkl] at hk ⊢; exact hk
        have hkr : k ∉ rem := fun hkr => by
          obtain ⟨x, hx, rfl⟩ := hrem k hkr
          rw [(hun x hx).2] at hkt; cases hkt
        have := hm.look k
        rw [if_neg hkr, hLFl] at this
        have hk2 : listed'.getD k true = true := by
          rw [this, hkt]
          split <;> rfl
        have hkl' : k < listed'.size := by rw [hm.size, ← hh.size]; exact hkl
        simp [hkl'] at hk2 ⊢; exact hk2
      · have := hm.look i
        rw [if_neg hir, hLFl, if_pos hi] at this
        obtain ⟨x, hx, rfl⟩ := List.mem_map.1 hi
        have hil : x.e.i < listed'.size := by rw [hm.size]; exact (hun x hx).1
        simp [hil] at this ⊢; exact this
      · obtain ⟨x, hx, rfl⟩ := hrem j hj
        exact hmem x hx
    · exact phs_run hT hsel hQp hA ps _ _ a1 w1 (hs1.like (hj1.like hall)) hh' (List.nodup_append.1 hnd).2.1 hB' hwk hk
    · have := hroom x hx hmk
      rw [← hs.len, List.getElem?_append_right (by omega), List.getElem?_replicate, if_pos (by omega)]
    · rw [hLFl]
      by_cases hj : j ∈ (L.map fun x => x.e.i)
      · rw [if_pos hj]
        obtain ⟨x, hx, rfl⟩ := List.mem_map.1 hj
        exact (hun x hx).2
      · rw [if_neg hj, if_neg hj]
end
def ancAll (ops : Array Oper) : List (Nat × List Nat) := ancFrom .any ops (List.range ops.size) []
def dregB (ops : Array Oper) (is : List Nat) (ps : List Ph) : Bool :=
  Region.noSelect ops && lexI .any ops is (Array.replicate ops.size false) && phsB (ancAll ops) .any ops ps (setAll is (Array.replicate ops.size false)) &&
  (List.range ops.size).all (fun i => memN i is || memN i (idsOf ps)) && nodupB (idsOf ps) && (idsOf ps).all (fun i => decide (i < ops.size) && !memN i is) && decide ((idsOf ps).length + is.length = ops.size)
section
variable {P : Program} {T : Tab} {σ : AState} {ops : Array Oper} {K : AState → Prop}
theorem dreg_sound (hT : TabOk P T) (hm : P.follows .mixedOrders = true) {is : List Nat} {ps : List Ph} (hB : dregB ops is ps = true) (hw : iWalk T ops is σ fun σ1 => pWalk P T ops ps σ1 K) : SemReg P ops σ K := by
  intro W0 M0 F a w Q id h hq
  simp only [dregB, Bool.and_eq_true, decide_eq_true_eq, List.all_eq_true, Bool.or_eq_true, memN_iff, Bool.not_eq_true'] at hB
  obtain ⟨⟨⟨⟨⟨⟨hsel, hli⟩, hph⟩, hcov⟩, hnd⟩, hin⟩, hnum⟩ := hB
  obtain ⟨Q', hQ'⟩ : ∃ Q' : Exit → Act → World → Prop, Q' = fun e a w => e = .normal ∧ Q .normal a w := ⟨_, rfl⟩
  have hmono : ∀ e a w, Q' e a w → Q e a w := fun e a w hh => by rw [hQ'] at hh; obtain ⟨rfl, h2⟩ := hh; exact h2
  have hnp : ∀ c a w, ¬ Q' (.panic c) a w := fun c a w hh => by rw [hQ'] at hh; cases hh.1
  have hdrew : SimS W0 M0 F σ a { w with drawn := w.drawn + 1 } := by
    obtain ⟨β, h⟩ := h
    exact ⟨β, h.ext (w' := w.drew) (Below.drew (Below.refl _ _))⟩
  have hun0 : ∀ j, (Array.replicate ops.size false).getD j false = false := fun j => getD_replicate_false _ _
  have hA : AncOk .any ops (ancAll ops) := ancFrom_ok _ _ fun jp hjp => by cases hjp
  have key : wpAny P .any ops Q' ((idsOf ps).length + is.length) (Array.replicate ops.size false) a { w with drawn := w.drawn + 1 } := by
    refine iWalk_sound (K := fun σ1 => pWalk P T ops ps σ1 K) hT hsel hnp is _ σ a _ hli hdrew hw fun σ1 a1 hw1 hs1 => ?_
    refine phs_run hT hsel hnp hA ps _ σ1 a1 _ hs1 ⟨by rw [setAll_size]; simp, closed_lex is _ hli (fun j oj _ hl => by rw [hun0] at hl; cases hl), fun j hj => ?_, fun j hjs hju => ?_⟩ (nodupB_iff hnd) hph hw1 (fun σ' a' w' k3 k4 => by rw [hQ']; exact ⟨rfl, hq σ' a' w' k3 k4⟩)
    · obtain ⟨h1, h2⟩ := hin j hj
      refine ⟨h1, ?_⟩
      rw [setAll_look, if_neg (fun hm => by rw [memN_iff.2 hm] at h2; cases h2)]
      simp [h1]
    · rcases hcov j (List.mem_range.2 hjs) with h1 | h1
      · rw [setAll_look, if_pos h1] at hju; cases hju
      · exact h1
  rw [hnum] at key
  exact wp_mono (wp_region_any hm key) hmono
end
/-! ### how a region is parted -/
def emptyLit : Op → Bool | .buildSlice _ 0 _ => true | _ => false
def okAppend (ops : Array Oper) (cur : List Nat) (args : List Operand) : Bool :=
  match args with
  | .const (.slice none 0 0) :: _ => true
  | .tmp t :: _ => cur.any fun p => match ops[p]? with | some q => (q.dst == some t) && (mkB q.op || emptyLit q.op) | none => false
  | _ => false
/-- must it stand alone; calls from number 'b' on do -/
def hardB (b : Nat) (ops : Array Oper) (cur : List Nat) (i : Nat) : Bool :=
  match ops[i]? with
  | none => true
  | some o => match o.op with
    | .store .. => true
    | .mapUpdate .. => true
    | .insert .. => true
    | .makeMap _ (some _) => true
    | .call c => match c.callee with
      | .value _ => decide (b ≤ i)
      | .builtin .append => o.guard.isSome || !okAppend ops cur c.args.toList
      | .builtin .len => false
      | .builtin .max => false
      | .builtin .min => false
      | _ => true
    | op => mkB op && o.guard.isSome
def firstSoft (b : Nat) (ops : Array Oper) (cur : List Nat) : List Nat → Option Nat
  | [] => none
  | i :: is => if hardB b ops cur i = true then firstSoft b ops cur is else some i
def flushG : List Nat → List (List Nat × Bool) → List (List Nat × Bool)
  | [], r => r
  | c :: cs, r => ((c :: cs).reverse, false) :: r
def groups (b : Nat) (ops : Array Oper) : Nat → Array Bool → List Nat → List (List Nat × Bool)
  | 0, _, cur => flushG cur []
  | f + 1, listed, cur =>
    let rs := Region.ready .any ops listed
    match firstSoft b ops cur rs with
    | some i => groups b ops f (listed.setIfInBounds i true) (i :: cur)
    | none => match rs with
      | [] => flushG cur []
      | i :: _ => flushG cur (([i], true) :: groups b ops f (listed.setIfInBounds i true) [])
def useOf (o : Oper) : Option Nat := match o.op with | .call c => (match c.callee, c.args.toList with | .builtin .append, .tmp t :: _ => some t | _, _ => none) | _ => none
def usesB (ops : Array Oper) (i p : Nat) : Bool := match ops[i]? with | some o => (match useOf o with | some t => dstOf ops p == some t | none => false) | none => false
def seesB (A : List (Nat × List Nat)) (ops : Array Oper) (all : List Nat) (j p : Nat) : Bool := ancB A j p && all.all fun z => !usesB ops z p || z == j || ancB A z j
def mkAt (ops : Array Oper) (i : Nat) : Bool := match ops[i]? with | some o => mkB o.op | none => false
def takeAt (ops : Array Oper) (i : Nat) : Bool := match ops[i]? with | some o => takeB o | none => false
def callAt (ops : Array Oper) (i : Nat) : Bool := match ops[i]? with | some o => (match o.op with | .call c => (match c.callee with | .value _ => true | _ => false) | _ => false) | none => false
def appAt (ops : Array Oper) (i : Nat) : Bool := match ops[i]? with | some o => (match o.op with | .call c => (match c.callee with | .builtin .append => true | _ => false) | _ => false) | none => false
def planFrom (A : List (Nat × List Nat)) (ops : Array Oper) (all later : List Nat) : List Nat → Nat → List (Nat × Nat) → List PE
  | [], _, _ => []
  | j :: js, c, made => ⟨j, c, mkAt ops j, takeAt ops j && later.any (fun t => !ancB A t j), appAt ops j && all.any (fun z => callAt ops z && ancB A z j) && !all.any (fun z => usesB ops z j),
      made.filterMap (fun pt => if seesB A ops all j pt.1 then none else some pt.2), made.filterMap (fun pt => if usesB ops j pt.1 then some pt.2 else none)⟩ ::
    planFrom A ops all later js (if mkAt ops j then c + 1 else c) (if mkAt ops j then (j, c) :: made else made)
def phOf (A : List (Nat × List Nat)) (ops : Array Oper) (later : List Nat) (g : List Nat × Bool) : Ph :=
  match g with
  | ([i], true) => .one i
  | (l, _) => match l with
    | [i] => if later.all (fun t => ancB A t i) then .one i else .mid (planFrom A ops l later l 0 []) (l.countP (mkAt ops))
    | l => .mid (planFrom A ops l later l 0 []) (l.countP (mkAt ops))
def phsOf (A : List (Nat × List Nat)) (ops : Array Oper) : List (List Nat × Bool) → List Ph
  | [] => []
  | g :: gs => phOf A ops (gs.flatMap (·.1)) g :: phsOf A ops gs
def inertFrom : Nat → List Oper → List Nat → List Nat
  | _, [], is => is.reverse
  | k, o :: os, is => if (isInert o.op && o.guard.isNone && onAll is o.after.toList) = true then inertFrom (k + 1) os (k :: is) else inertFrom (k + 1) os is
def partReg (b : Nat) (l : List Oper) : List Nat × List Ph :=
  let is := inertFrom 0 l []
  (is, phsOf (ancAll l.toArray) l.toArray (groups b l.toArray (l.length + 1) (setAll is (Array.replicate l.length false)) []))
end Go.Eng
