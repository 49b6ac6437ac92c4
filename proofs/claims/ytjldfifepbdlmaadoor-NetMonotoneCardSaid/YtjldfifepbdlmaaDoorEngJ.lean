/-
  The abstract machine: what is lent to a callee; what a call hands back; contracts.
-/
import Derived.Test.YtjldfifepbdlmaaDoorEngI
set_option linter.unusedSimpArgs false
set_option linter.unusedVariables false
namespace Go.Eng
open Go.RowKit

def D.bor0 (H : List AObj) : D → D
  | .own t => match H[t]? with | some (.row _ _ rows) => .list rows | _ => .unk
  | .vp .. => .unk
  | .rp .. => .unk
  | .mp .. => .unk
  | .nil => .list []
  | .clo f caps => if caps.isEmpty then .clo f [] else .unk
  | d => d
def D.bor1 (H : List AObj) : D → D
  | .vp t off => match H[t]? with | some (.var _ cs) => if (cs.map (D.bor0 H)).all D.pure then .ref ((cs.map (D.bor0 H)).drop off) else .unk | _ => .unk
  | d => d.bor0 H
def D.bor (H : List AObj) : D → D
  | .clo f caps => .clo f (caps.map (D.bor1 H))
  | d => d.bor1 H
def AV.bor (H : List AObj) : AV → AV
  | .one d => .one (d.bor H)
  | .agg ds => .agg (ds.map (D.bor H))
  | .tup vs => .tup (vs.map fun | .one d => .one (d.bor H) | .agg ds => .agg (ds.map (D.bor H)) | _ => .any)
  | _ => .any
def D.tagged : D → Bool
  | .own _ => true
  | .vp .. => true
  | .rp .. => true
  | .mp _ => true
  | .clo _ caps => caps.any fun | .own _ => true | .vp .. => true | .rp .. => true | .mp _ => true | _ => false
  | _ => false
def AV.tagged : AV → Bool
  | .one d => d.tagged
  | .agg ds => ds.any D.tagged
  | _ => true
/-- says nothing of memory -/
def D.flat : D → Bool
  | .int .. => true
  | .bool _ => true
  | .str _ => true
  | .nil => true
  | .raw _ => true
  | _ => false
def D.flatOwn : D → Bool
  | .own _ => true
  | d => d.flat
def AV.flatOwn : AV → Bool
  | .one d => d.flatOwn
  | .agg ds => ds.all D.flatOwn
  | .tup vs => vs.all fun | .one d => d.flatOwn | .agg ds => ds.all D.flatOwn | _ => false
  | _ => false
def AObj.flatP : AObj → Prop
  | .row _ _ rows => ∀ r ∈ rows, r.all D.flat = true
  | .gone => True
  | _ => False
def D.shift0 (n : Nat) : D → D
  | .own t => .own (n + t)
  | .vp t off => .vp (n + t) off
  | .rp t i sz sub => .rp (n + t) i sz sub
  | .mp t => .mp (n + t)
  | d => d
def D.shift (n : Nat) : D → D
  | .clo f caps => .clo f (caps.map (D.shift0 n))
  | d => d.shift0 n
def AV.shift (n : Nat) : AV → AV
  | .one d => .one (d.shift n)
  | .agg ds => .agg (ds.map (D.shift n))
  | .tup vs => .tup (vs.map fun | .one d => .one (d.shift n) | .agg ds => .agg (ds.map (D.shift n)) | _ => .any)
  | _ => .any
def AObj.plain : AObj → Bool
  | .row .. => true
  | .gone => true
  | _ => false

section
variable {w w' : World} {M M0 M1 M' : Nat → Prop} {F : List Value} {β β' βn : List Value} {H : List AObj}
structure Lend (w : World) (M0 : Nat → Prop) (β : List Value) (H : List AObj) : Prop where
  objs : ∀ (t : Nat) (o : AObj) (h : Value), H[t]? = some o → β[t]? = some h → ObjRep w (Mof M0 β) β o h
  out : ∀ g, owned β g → ¬ M0 g ∧ g < w.heap.size
theorem Lend.keeps (_ : Lend w M0 β H) : Keeps w (Mof M0 β) w M0 := ⟨Nat.le_refl _, fun _ _ _ => rfl, fun _ _ hm hm' => hm (.inl hm')⟩
theorem bor0_sound (hl : Lend w M0 β H) {d : D} {v : Value} (h : RepC0 w (Mof M0 β) β d v) : RepC0 w M0 [] (d.bor0 H) v := by
  have hone := h.oneCell
  cases d
  case own t =>
    simp only [D.bor0]
    cases hH : H[t]? with
    | none => exact hone
    | some o =>
      cases o with
      | row e sz rows =>
        have hβ := own_live h fun y hy => hl.objs t _ y hH hy
        obtain ⟨A, c, rfl, h2, h3, h4⟩ := hl.objs t _ v hH hβ
        refine ⟨A, c, rfl, h2, h3, ?_⟩
        rcases h4 with rfl | ⟨hc0, g, cur, rfl, h5, h6, h7⟩
        · left; exact List.eq_nil_of_length_eq_zero (by omega)
        · have ho := hl.out g ⟨t, _, hβ, hblk_row hc0⟩
          exact .inr ⟨⟨g, 0, none⟩, sz, rfl, ho.2, ho.1, h7.keeps hl.keeps fun _ _ x => x⟩
      | _ => exact hone
  case nil =>
    obtain ⟨A, e0⟩ : ∃ A, v = .slice A 0 0 := h
    subst e0
    exact ⟨A, 0, rfl, Nat.le_refl _, Nat.zero_le _, .inl rfl⟩
  case clo f caps =>
    simp only [D.bor0]
    split
    · rename_i he
      rw [List.isEmpty_iff] at he
      subst he
      simp only [RepC0] at h ⊢
      exact RepD.keep hl.keeps _ _ h
    · exact hone
  case vp => exact hone
  case rp => exact hone
  case mp => exact hone
  case unk => exact h
  all_goals (simp only [RepC0, D.bor0] at h ⊢; exact RepD.keep hl.keeps _ _ h)
theorem borC_sound (hl : Lend w M0 β H) {d : D} {v : Value} (h : RepC w (Mof M0 β) β d v) : RepC w M0 [] (d.bor0 H) v := by
  cases d
  case clo f caps =>
    have hone := h.oneCell
    simp only [D.bor0]
    split
    · rename_i he
      rw [List.isEmpty_iff] at he
      subst he
      obtain ⟨vs, h1, h2, h3⟩ := h
      exact ⟨vs, h1, h2, fun i d u hd => by simp at hd⟩
    · exact hone
  all_goals
    simp only [RepC] at h
    have := bor0_sound hl h
    simp only [D.bor0] at this ⊢
    first
      | exact this
      | (split <;> simp_all [RepC])
theorem RepCL.map {f : D → D} (hf : ∀ (d : D) (v : Value), RepC w M β d v → RepC w' M' β' (f d) v) {ds : List D} {vs : List Value} (h : RepCL w M β ds vs) : RepCL w' M' β' (ds.map f) vs :=
  ⟨by simpa using h.1, fun i d u a b => by
    rw [List.getElem?_map] at a
    cases hc : ds[i]? with
    | none => rw [hc] at a; cases a
    | some c => rw [hc] at a; simp at a; subst a; exact hf c u (h.2 i c u hc b)⟩
theorem RepC0.of_pure {d : D} {v : Value} (h : RepC w M β d v) (hp : d.pure = true) : RepC0 w M [] d v := (h.toD hp).toC0
theorem bor1_sound (hl : Lend w M0 β H) {d : D} {v : Value} (h : RepC0 w (Mof M0 β) β d v) : RepC0 w M0 [] (d.bor1 H) v := by
  cases d
  case vp t off =>
    have hone := h.oneCell
    simp only [D.bor1]
    cases hH : H[t]? with
    | none => exact hone
    | some o =>
      cases o with
      | var e cs =>
        obtain ⟨g, hβ, rfl⟩ := vp_live h fun y hy => hl.objs t _ y hH hy
        simp only
        split
        · rename_i hp
          obtain ⟨g', cur, he, hg, hcl⟩ := hl.objs t _ _ hH hβ
          cases he
          have ho := hl.out g ⟨t, _, hβ, rfl⟩
          have h2 := RepCL.toL (RepCL.map (fun d v h => borC_sound hl h) hcl) hp
          have hat : AtRow w M0 ⟨g, 0, none⟩ (cs.map (D.bor0 H)) := ⟨cur.toList, reads_cells hg, h2⟩
          have := hat.shift off
          rw [add_lit, Nat.zero_add] at this
          exact ⟨⟨g, off, none⟩, rfl, ho.2, ho.1, this⟩
        · exact hone
      | _ => exact hone
  all_goals exact bor0_sound hl h
theorem bor_sound (hl : Lend w M0 β H) {d : D} {v : Value} (h : RepC w (Mof M0 β) β d v) : RepC w M0 [] (d.bor H) v := by
  cases d
  case clo f caps =>
    obtain ⟨vs, h1, h2, h3⟩ := h
    refine ⟨vs, h1, by simpa using h2, fun i d u a b => ?_⟩
    rw [List.getElem?_map] at a
    cases hc : caps[i]? with
    | none => rw [hc] at a; cases a
    | some c => rw [hc] at a; simp at a; subst a; exact bor1_sound hl (h3 i c u hc b)
  all_goals
    simp only [RepC] at h
    have := bor1_sound hl h
    simp only [D.bor, D.bor1, D.bor0] at this ⊢
    first
      | exact this
      | ((repeat' split) <;> simp_all [RepC])
theorem RepV.map2 {f : D → D} {F : AV → AV} (hF1 : ∀ d, F (.one d) = .one (f d)) (hF2 : ∀ ds, F (.agg ds) = .agg (ds.map f)) (hF3 : ∀ vs, F (.tup vs) = .tup (vs.map fun | .one d => .one (f d) | .agg ds => .agg (ds.map f) | _ => .any)) (hF4 : ∀ g v, F (.cond g v) = .any) (hF5 : F .any = .any)
    (hf : ∀ (d : D) (v : Value), RepC w M β d v → RepC w' M' β' (f d) v) (a : AV) (v : Value) (h : RepV w M β a v) : RepV w' M' β' (F a) v := by
  have h1 : ∀ (d : D) (v : Value), RepV w M β (.one d) v → RepV w' M' β' (.one (f d)) v := fun d v h => hf d v h
  have h2 : ∀ (ds : List D) (v : Value), RepV w M β (.agg ds) v → RepV w' M' β' (.agg (ds.map f)) v := fun ds v h => by
    obtain ⟨vs, e, hl⟩ := h
    exact ⟨vs, e, RepCL.map hf hl⟩
  cases a with
  | one d => rw [hF1]; exact h1 d v h
  | agg ds => rw [hF2]; exact h2 ds v h
  | tup avs =>
    rw [hF3]
    obtain ⟨vs, e, hl⟩ := h
    have hg' := RepVL.get avs vs hl
    refine ⟨vs, e, RepVL.mk _ _ (by simpa using hg'.1) fun i b u hb hu => ?_⟩
    rw [List.getElem?_map] at hb
    cases hc : avs[i]? with
    | none => rw [hc] at hb; cases hb
    | some c =>
      rw [hc] at hb
      simp at hb
      subst hb
      have := hg'.2 i c u hc hu
      cases c <;> first | exact h1 _ _ this | exact h2 _ _ this | exact trivial
  | cond g x => rw [hF4]; exact trivial
  | any => rw [hF5]; exact trivial
theorem borV_sound (hl : Lend w M0 β H) (a : AV) (v : Value) (h : RepV w (Mof M0 β) β a v) : RepV w M0 [] (a.bor H) v :=
  RepV.map2 (F := AV.bor H) (fun _ => rfl) (fun _ => rfl) (fun _ => rfl) (fun _ _ => rfl) rfl (fun d v h => bor_sound hl h) a v h
/-- what bears no tag is lent as it is -/
theorem borC_free {d : D} {v : Value} (h : RepC w M β d v) (ht : d.tagged = false) : RepC w M [] (d.bor H) v := by
  have hone := h.oneCell
  have h0 : ∀ (d : D) (v : Value), RepC0 w M β d v → (match d with | .own _ => true | .vp .. => true | .rp .. => true | .mp _ => true | _ => false) = false → RepC0 w M [] (d.bor1 H) v := by
    intro d v h ht
    have hone := h.oneCell
    cases d <;> first | (cases ht; done) | skip
    case nil =>
      obtain ⟨A, e0⟩ : ∃ A, v = .slice A 0 0 := h
      subst e0
      exact ⟨A, 0, rfl, Nat.le_refl _, Nat.zero_le _, .inl rfl⟩
    case clo f caps =>
      simp only [D.bor1, D.bor0]
      split
      · rename_i he
        rw [List.isEmpty_iff] at he
        subst he
        exact h
      · exact hone
    all_goals exact h
  cases d
  case clo f caps =>
    obtain ⟨vs, h1, h2, h3⟩ := h
    refine ⟨vs, h1, by simpa using h2, fun i d u a b => ?_⟩
    rw [List.getElem?_map] at a
    cases hc : caps[i]? with
    | none => rw [hc] at a; cases a
    | some c =>
      rw [hc] at a
      simp at a
      subst a
      refine h0 c u (h3 i c u hc b) ?_
      simp only [D.tagged, List.any_eq_false] at ht
      have := ht c (List.mem_of_getElem? hc)
      simpa using this
  case own => cases ht
  case vp => cases ht
  case rp => cases ht
  case mp => cases ht
  all_goals
    simp only [RepC] at h
    have := h0 _ v h ht
    simp only [D.bor, D.bor1, D.bor0] at this ⊢
    first
      | exact this
      | (simp_all [RepC])
theorem borV_free (a : AV) (v : Value) (h : RepV w M β a v) (ht : a.tagged = false) : RepV w M [] (a.bor H) v := by
  cases a with
  | one d => exact borC_free h ht
  | agg ds =>
    obtain ⟨vs, e, hl⟩ := h
    refine ⟨vs, e, by simpa using hl.1, fun i d u hd hu => ?_⟩
    rw [List.getElem?_map] at hd
    cases hc : ds[i]? with
    | none => rw [hc] at hd; cases hd
    | some c =>
      rw [hc] at hd
      simp at hd
      subst hd
      simp only [AV.tagged, List.any_eq_false] at ht
      exact borC_free (hl.2 i c u hc hu) (by simpa using ht c (List.mem_of_getElem? hc))
  | tup => simp [AV.tagged] at ht
  | cond => simp [AV.tagged] at ht
  | any => simp [AV.tagged] at ht

/-! ### what a call hands back -/
structure Res (w w' : World) (M : Nat → Prop) (r : AV) (Hn : List AObj) (v : Value) (β : List Value) : Prop where
  below : Below w.heap.size w w'
  len : β.length = Hn.length
  objs : ∀ (t : Nat) (o : AObj) (h : Value), Hn[t]? = some o → β[t]? = some h → ObjRep w' (Mof M β) β o h
  fresh : ∀ g, owned β g → w.heap.size ≤ g ∧ g < w'.heap.size
  dist : ∀ (t t' : Nat) (x x' : Value) (g : Nat), β[t]? = some x → β[t']? = some x' → hblk x = some g → hblk x' = some g → t = t'
  val : RepV w' (Mof M β) β r v
def okFn (P : Program) (f : FuncId) : Bool := match P.funcs[f]? with | some fn => fn.name != "runtime.NumGoroutine" && fn.body.isSome | none => false
/-- THE CONTRACT: called with what reads as 'args', function 'f' returns what reads as 'r' (over the new objects 'Hn'); of what there was nothing has turned -/
structure ACalls (P : Program) (f : FuncId) (args : List AV) (r : AV) (Hn : List AObj) : Prop where
  ok : okFn P f = true
  run : ∀ (w : World) (M : Nat → Prop) (vs : List Value), MOk w M [] → RepVL w M [] args vs →
    Calls P f ⟨vs⟩ w fun e w' => ∃ v β, e = .returned v ∧ Res w w' M r Hn v β

theorem RepD.flat {d : D} {v : Value} (h : RepD w M d v) (hf : d.flat = true) : RepD w' M' d v := by
  cases d <;> first | (cases hf; done) | exact h
theorem RepL.flat : ∀ {ds : List D} {vs : List Value}, RepL w M ds vs → ds.all D.flat = true → RepL w' M' ds vs
  | [], vs, h, _ => h
  | d :: ds, vs, h, hf => by
    simp only [List.all_cons, Bool.and_eq_true] at hf
    simp only [RepL] at h ⊢
    obtain ⟨v, rest, rfl, h1, h2⟩ := h
    exact ⟨v, rest, rfl, h1.flat hf.1, RepL.flat h2 hf.2⟩
theorem RepC0.shift (hk : Keeps w M w M') (ht : ∀ (t : Nat) (h : Value) , βn[t]? = some h → β'[β.length + t]? = some h) {d : D} {v : Value} (h : RepC0 w M βn d v) : RepC0 w M' β' (d.shift0 β.length) v := by
  cases d
  case unk => exact h
  case own t => exact ⟨h.1.imp (ht _ _) (ht _ _), h.2⟩
  case vp t off => rcases h with ⟨g, h1, h2⟩ | h; exact .inl ⟨g, ht _ _ h1, h2⟩; exact .inr ⟨ht _ _ h.1, h.2⟩
  case rp t i sz sub => rcases h with ⟨g, n, c, h1, h2⟩ | h; exact .inl ⟨g, n, c, ht _ _ h1, h2⟩; exact .inr ⟨ht _ _ h.1, h.2⟩
  case mp t => rcases h with ⟨g, h1, h2⟩ | h; exact .inl ⟨g, ht _ _ h1, h2⟩; exact .inr ⟨ht _ _ h.1, h.2⟩
  all_goals (simp only [RepC0, D.shift0] at h ⊢; exact RepD.keep hk _ _ h)
theorem RepC.shift (hk : Keeps w M w M') (ht : ∀ (t : Nat) (h : Value) , βn[t]? = some h → β'[β.length + t]? = some h) {d : D} {v : Value} (h : RepC w M βn d v) : RepC w M' β' (d.shift β.length) v := by
  cases d
  case clo f caps =>
    obtain ⟨vs, h1, h2, h3⟩ := h
    refine ⟨vs, h1, by simpa using h2, fun i d u a b => ?_⟩
    rw [List.getElem?_map] at a
    cases hc : caps[i]? with
    | none => rw [hc] at a; cases a
    | some c => rw [hc] at a; simp at a; subst a; exact (h3 i c u hc b).shift hk ht
  all_goals
    simp only [RepC] at h
    have := h.shift hk ht
    simp only [D.shift, D.shift0] at this ⊢
    exact this
theorem RepV.shift (hk : Keeps w M w M') (ht : ∀ (t : Nat) (h : Value) , βn[t]? = some h → β'[β.length + t]? = some h) (a : AV) (v : Value) (h : RepV w M βn a v) : RepV w M' β' (a.shift β.length) v :=
  RepV.map2 (F := AV.shift β.length) (fun _ => rfl) (fun _ => rfl) (fun _ => rfl) (fun _ _ => rfl) rfl (fun d v h => h.shift hk ht) a v h
/-- where it is flat but for tags, nothing is asked of what is immutable -/
theorem RepC.shiftFlat (ht : ∀ (t : Nat) (h : Value) , βn[t]? = some h → β'[β.length + t]? = some h) {d : D} {v : Value} (h : RepC w M βn d v) (hf : d.flatOwn = true) : RepC w M' β' (d.shift β.length) v := by
  cases d <;> first | (cases hf; done) | skip
  case own t => exact ⟨h.1.imp (ht _ _) (ht _ _), h.2⟩
  all_goals (simp only [RepC, RepC0] at h; simp only [D.shift, D.shift0, RepC, RepC0]; exact RepD.flat h rfl)
theorem RepV.shiftFlat (ht : ∀ (t : Nat) (h : Value) , βn[t]? = some h → β'[β.length + t]? = some h) (a : AV) (v : Value) (h : RepV w M βn a v) (hf : a.flatOwn = true) : RepV w M' β' (a.shift β.length) v := by
  have h2 : ∀ (ds : List D) (v : Value), RepV w M βn (.agg ds) v → ds.all D.flatOwn = true → RepV w M' β' (.agg (ds.map (D.shift β.length))) v := fun ds v h hf => by
    obtain ⟨vs, e, hl⟩ := h
    refine ⟨vs, e, by simpa using hl.1, fun i d u a b => ?_⟩
    rw [List.getElem?_map] at a
    cases hc : ds[i]? with
    | none => rw [hc] at a; cases a
    | some c =>
      rw [hc] at a; simp at a; subst a
      rw [List.all_eq_true] at hf
      exact (hl.2 i c u hc b).shiftFlat ht (hf c (List.mem_of_getElem? hc))
  cases a with
  | one d => exact RepC.shiftFlat (d := d) ht h hf
  | agg ds => exact h2 ds v h hf
  | tup avs =>
    obtain ⟨vs, e, hl⟩ := h
    have hg' := RepVL.get avs vs hl
    simp only [AV.flatOwn, List.all_eq_true] at hf
    refine ⟨vs, e, RepVL.mk _ _ (by simpa using hg'.1) fun i b u hb hu => ?_⟩
    rw [List.getElem?_map] at hb
    cases hc : avs[i]? with
    | none => rw [hc] at hb; cases hb
    | some c =>
      rw [hc] at hb
      simp at hb
      subst hb
      have h1 := hg'.2 i c u hc hu
      have h3 := hf c (List.mem_of_getElem? hc)
      cases c <;> first | (cases h3; done) | exact RepC.shiftFlat ht h1 h3 | exact h2 _ _ h1 h3
  | cond => cases hf
  | any => cases hf
theorem ObjRep.plainMove (hk : Keeps w M w M') {o : AObj} {h : Value} (hr : ObjRep w M β o h) (hp : o.plain = true) : ObjRep w M' β' o h := by
  cases o with
  | gone => exact hr
  | row e sz rows =>
    obtain ⟨A, c, h1, h2, h3, h4⟩ := hr
    refine ⟨A, c, h1, h2, h3, ?_⟩
    rcases h4 with h4 | ⟨hc0, g, cur, rfl, h5, h6, h7⟩
    · exact .inl h4
    · exact .inr ⟨hc0, g, cur, rfl, h5, h6, h7.keeps hk fun vs o x => x⟩
  | _ => cases hp
theorem ObjRep.flatMove {o : AObj} {h : Value} (hr : ObjRep w M β o h) (hp : o.flatP) : ObjRep w M' β' o h := by
  cases o with
  | gone => exact hr
  | row e sz rows =>
    obtain ⟨A, c, h1, h2, h3, h4⟩ := hr
    refine ⟨A, c, h1, h2, h3, ?_⟩
    rcases h4 with h4 | ⟨hc0, g, cur, rfl, h5, h6, h7⟩
    · exact .inl h4
    · refine .inr ⟨hc0, g, cur, rfl, h5, h6, RepRows.of_get rows 0 fun i r hi => ?_⟩
      obtain ⟨vs, a, b, c⟩ := RepRows.get rows 0 h7 i r hi
      exact ⟨vs, a, b, c.flat (hp r (List.mem_of_getElem? hi))⟩
  | _ => exact hp.elim
end
/-- may the result be taken while objects are lent -/
def callSafe (args : List AV) (r : AV) (Hn : List AObj) : Prop :=
  (args.all (fun a => !a.tagged) = true ∧ Hn.all AObj.plain = true) ∨ (r.flatOwn = true ∧ ∀ o ∈ Hn, o.flatP)

section
variable {P : Program} {W0 w : World} {M0 : Nat → Prop} {F : List Value} {σ : AState} {a : Act} {β : List Value}
theorem Sim.lend (h : Sim W0 M0 F σ a w β) : Lend w M0 β σ.H := ⟨h.objs, fun g hg => ⟨fun hm => by
  rcases (h.fresh g hg).1 with h1 | h1
  · exact (h.out g h1).1 hm
  · have := h.m0.1 g hm; omega, (h.fresh g hg).2⟩⟩
/-- A CALL -/
theorem Sim.call (h : Sim W0 M0 F σ a w β) {f : FuncId} {args : List AV} {vs : List Value} {r : AV} {Hn : List AObj} (hv : RepVL w (Mof M0 β) β args vs) (hc : ACalls P f (args.map (AV.bor σ.H)) r Hn) (hs : callSafe args r Hn) :
    Calls P f ⟨vs⟩ w fun e w' => ∃ v β', e = .returned v ∧ Sim W0 M0 F { σ with H := σ.H ++ Hn } a w' β' ∧ RepV w' (Mof M0 β') β' (r.shift σ.H.length) v := by
  have hg := RepVL.get args vs hv
  have hmap : ∀ (M1 : Nat → Prop), (∀ (x : AV) (v : Value), x ∈ args → RepV w (Mof M0 β) β x v → RepV w M1 [] (x.bor σ.H) v) → RepVL w M1 [] (args.map (AV.bor σ.H)) vs := fun M1 k =>
    RepVL.mk _ _ (by simpa using hg.1) fun i b u hb hu => by
      rw [List.getElem?_map] at hb
      cases hx : args[i]? with
      | none => rw [hx] at hb; cases hb
      | some x => rw [hx] at hb; simp at hb; subst hb; exact k x u (List.mem_of_getElem? hx) (hg.2 i x u hx hu)
  have htags : ∀ (βn : List Value) (t : Nat) (x : Value), βn[t]? = some x → (β ++ βn)[β.length + t]? = some x := fun βn t x hx => by
    rw [List.getElem?_append_right (by omega)]; simpa using hx
  rcases hs with ⟨hs1, hs2⟩ | ⟨hs1, hs2⟩
  · refine (hc.2 w (Mof M0 β) vs (h.mok_of (fun _ h => h) fun _ h => (owned_none h).elim) (hmap _ fun x v hx hr => borV_free x v hr ?_)).mono ?_
    · rw [List.all_eq_true] at hs1
      simpa using hs1 x hx
    · rintro e w' ⟨v, βn, rfl, hR⟩
      have hM : ∀ g, Mof (Mof M0 β) βn g ↔ Mof M0 (β ++ βn) g := fun g => by
        constructor
        · rintro ((hm | ⟨t, x, h1, h2⟩) | ⟨t, x, h1, h2⟩)
          · exact .inl hm
          · exact .inr ⟨t, x, by rw [List.getElem?_append, if_pos (List.getElem?_eq_some_iff.1 h1).1]; exact h1, h2⟩
          · exact .inr ⟨_, x, htags βn t x h1, h2⟩
        · rintro (hm | ⟨t, x, h1, h2⟩)
          · exact .inl (.inl hm)
          · rw [List.getElem?_append] at h1
            split at h1
            · exact .inl (.inr ⟨t, x, h1, h2⟩)
            · exact .inr ⟨_, x, h1, h2⟩
      have hk : Keeps w' (Mof (Mof M0 β) βn) w' (Mof M0 (β ++ βn)) := ⟨Nat.le_refl _, fun _ _ _ => rfl, fun g _ hm hm' => hm ((hM g).2 hm')⟩
      refine ⟨v, β ++ βn, rfl, h.push hR.below hR.len hR.fresh hR.dist fun t o x ho hx => ?_, ?_⟩
      · rw [List.all_eq_true] at hs2
        exact (hR.objs t o x ho hx).plainMove hk (hs2 o (List.mem_of_getElem? ho))
      · rw [← h.len]
        exact RepV.shift hk (htags βn) r v hR.val
  · refine (hc.2 w M0 vs h.mok0 (hmap _ fun x v hx hr => borV_sound h.lend x v hr)).mono ?_
    rintro e w' ⟨v, βn, rfl, hR⟩
    refine ⟨v, β ++ βn, rfl, h.push hR.below hR.len hR.fresh hR.dist fun t o x ho hx => ?_, ?_⟩
    · exact (hR.objs t o x ho hx).flatMove (hs2 o (List.mem_of_getElem? ho))
    · rw [← h.len]
      exact RepV.shiftFlat (htags βn) r v hR.val hs1
end
end Go.Eng
