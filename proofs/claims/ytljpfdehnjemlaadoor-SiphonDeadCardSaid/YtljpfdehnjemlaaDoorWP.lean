/-
 SiphonDead in plain Lean: dead markings of a net with weights 1; Commoner's condition.
-/
import Derived.Test.YtljpfdehnjemlaaDoorWJ
import Derived.Test.YtljpfdehnjemlaaDoorWR
import Derived.Test.YtljpfdehnjemlaaDoorSD
import Derived.Test.YtljpfdehnjemlaaDoorSG
set_option linter.unusedSimpArgs false
set_option linter.unusedVariables false
namespace Go.Proofs.YtljpfdehnjemlaaDoor
open Go.Eng Go.RowKit
def Ones (n : Net) : Prop := ∀ t ∈ n.trs, ∀ a ∈ t.inn, a.weight = 1
theorem dead_touch {n : Net} (hn : NetOk n) (h1 : Ones n) {m : List Int} (hl : m.length = n.init.length) (hm : ∀ x ∈ m, 0 ≤ x) (hd : ableL n m n.trs.length = []) : ∀ t ∈ n.trs, touchL t.inn (zeroL m) = true := by
 intro t ht
 obtain ⟨k, hk, rfl⟩ := List.getElem_of_mem ht
 have e : n.trs.getD k Tr.no = n.trs[k] := by rw [List.getD, List.getElem?_eq_getElem hk]; rfl
 have hne : enB m (n.trs.getD k Tr.no) ≠ true := fun he => by
  have : (k : Int) ∈ ableL n m n.trs.length := able_of ⟨by omega, by omega, by rw [Int.toNat_natCast]; exact he⟩
  rw [hd] at this; cases this
 rw [e, enB] at hne
 have hne2 : n.trs[k].inn.any (lacksB m) = true := by
  cases h : n.trs[k].inn.any (lacksB m) with
  | true => rfl
  | false => exact absurd (by rw [h]; rfl) hne
 rw [List.any_eq_true] at hne2
 obtain ⟨a, ha, hlk⟩ := hne2
 have hs := h1 _ ht a ha
 have hp := (hn.inn _ ht).place a ha
 rw [lacksB, decide_eq_true_eq] at hlk
 have h0 := hm _ (getD_mem m a.place.toNat 0 (by omega))
 exact (touchL_iff _ _).2 ⟨a, ha, mem_zeroL.2 ⟨a.place.toNat, by omega, by omega, by omega⟩⟩
theorem red_same {ts : List Tr} {s : List Int} (h : ∀ t ∈ ts, touchL t.inn s = true) : redL 1 ts s = s := by
 have h2 : redR 1 ts s = s := by
  induction ts with
  | nil => rfl
  | cons t ts ih =>
   rw [redR, List.foldl_cons, redT_same 1 t s (h t (by simp))]
   exact ih fun x hx => h x (by simp [hx])
 rw [redL]
 cases hl : s.length with
 | zero => rfl
 | succ k => rw [redF, h2, if_neg (by omega)]
structure DeadIn (n : Net) (m : List Int) : Prop where
 ne : zeroL m ≠ []
 is : isL 1 n.trs (zeroL m) = true
 emp : empL n m = zeroL m
 mark : markE n m = 0
theorem dead_in {n : Net} (hn : NetOk n) (h1 : Ones n) (hp : 0 < n.trs.length) {m : List Int} (hl : m.length = n.init.length) (hm : ∀ x ∈ m, 0 ≤ x ∧ x ≤ 65536) (hd : ableL n m n.trs.length = []) : DeadIn n m := by
 have ht := dead_touch hn h1 hl (fun x hx => (hm x hx).1) hd
 have hk := markE_of hn hl hm
 refine ⟨?_, (isL_iff _ _ _).2 fun t h _ => ht t h, by rw [empL, if_pos hk, red_same ht], hk⟩
 obtain ⟨a, _, ha⟩ := (touchL_iff _ _).1 (ht _ (getD_mem n.trs 0 Tr.no hp))
 exact List.ne_nil_of_mem ha
/-! minimal siphons -/
theorem pick_mono (k : Int) (ts : List Tr) : ∀ (l out : List (List Int)), ∀ x ∈ out, x ∈ pickL k ts l out
 | [], out, x, hx => hx
 | s :: l, out, x, hx => by
  rw [pickL]
  refine pick_mono k ts l _ x ?_
  split
  ·exact List.mem_append.2 (.inl hx)
  ·exact hx
theorem pick_has {k : Int} {ts : List Tr} {s : List Int} (hs : isL k ts s = true) (hi : inB s s = true) : ∀ (l out : List (List Int)), s ∈ l → ∃ x ∈ pickL k ts l out, inB x s = true
 | [], _, h => by cases h
 | y :: l, out, h => by
  rw [pickL]
  rcases List.mem_cons.1 h with rfl | h
  ·cases ha : out.any fun x => inB x s with
   | true =>
    obtain ⟨x, hx, hx2⟩ := List.any_eq_true.1 ha
    exact ⟨x, pick_mono k ts l _ x (by simp [hx]), hx2⟩
   | false =>
    rw [if_pos (by simp [hs])]
    exact ⟨s, pick_mono k ts l _ s (by simp), hi⟩
  ·exact pick_has hs hi l _ h
theorem min_in {n : Net} {s : List Int} (hs : Incr s) (hr : ∀ x ∈ s, 0 ≤ x ∧ x < n.init.length) (h0 : s ≠ []) (hi : isL 1 n.trs s = true) : ∃ x ∈ minL 1 n, ∀ p ∈ x, p ∈ s := by
 have h1 : inB s s = true := by
  rw [inB_wi hs hs]
  exact (wiB_iff _ _).2 fun p h => h
 obtain ⟨x, hx, hx2⟩ := pick_has hi h1 (setsY n.init.length) [] (mem_setsY' hs hr h0)
 refine ⟨x, hx, ?_⟩
 rw [inB_wi (setsY_el (minL_el hx).1).2.1 hs] at hx2
 exact (wiB_iff _ _).1 hx2
/-! Commoner's condition: no minimal siphon is emptied, no marking is dead -/
theorem comF_none {n : Net} : ∀ {l : List (List Int)}, comF n l = none → ∀ s ∈ l, sumAt n.init (redL 2 n.trs s) ≠ 0
 | [], _, s, hs => by cases hs
 | y :: l, h, s, hs => by
  rw [comF] at h
  split at h
  ·cases h
  ·rcases List.mem_cons.1 hs with rfl | hs
   ·assumption
   ·exact comF_none h s hs
theorem bnd_sr {n : Net} {nd : List SN} {ed : List Edg} (h : bndF n = .inr (nd, ed)) : searchF n 4096 = .cont nd ed := by
 unfold bndF at h
 split at h
 ·cases h
 ·cases hs : searchF n 4096 with
  | err e => rw [hs] at h; cases h
  | pump a b p => rw [hs] at h; cases h
  | cont a b => rw [hs] at h; cases h; rfl
theorem bnd_errs {n : Net} {e : Int} (hn : netE n = 0) (h : bndF n = .inl e) : e = 3 ∨ e = 23 := by
 unfold bndF at h
 rw [if_neg (by omega)] at h
 have hO := outer_err n 4096 4098 0 [⟨n.init, -1, -1⟩] []
 rw [show outerF n 4096 4098 0 [⟨n.init, -1, -1⟩] [] = searchF n 4096 from rfl] at hO
 cases hS : searchF n 4096 with
 | err e' => rw [hS] at h; cases h; exact .inl (hO.1 _ hS)
 | pump nd ed p => rw [hS] at h; cases h; exact .inr rfl
 | cont nd ed => rw [hS] at h; cases h
theorem trap_marked {n : Net} {nd : List SN} {ed : List Edg} (hb : bndF n = .inr (nd, ed)) {T : List Int} (hT : isL 2 n.trs T = true) (hr : ∀ p ∈ T, 0 ≤ p ∧ p < n.init.length) (h0 : 0 < sumAt n.init T) : ∀ k : Nat, k < nd.length → 0 < sumAt (nd.getD k SN.no).m T := by
 obtain ⟨hok, hN, _⟩ := bnd_ok hb
 have hL := (search_linked n 4096).2 _ _ (bnd_sr hb)
 intro k
 induction k using Nat.strongRecOn with
 | _ k ih =>
  intro hk
  rcases Nat.eq_zero_or_pos k with rfl | hk0
  ·rw [hL.first]; exact h0
  ·obtain ⟨b0, b1, ⟨t0, t1, hen⟩, hm⟩ := hL.link k hk0 hk
   have hbl : (nd.getD k SN.no).before.toNat < nd.length := by omega
   have i1 := ih (nd.getD k SN.no).before.toNat (by omega) hbl
   have hmem := getD_mem nd (nd.getD k SN.no).before.toNat SN.no hbl
   have hlen := hN.len _ hmem
   have htok := hN.tok _ hmem
   have htr := getD_mem n.trs (nd.getD k SN.no).tr.toNat Tr.no (by omega)
   have hk2 := hN.tok _ (getD_mem nd k SN.no hk)
   rw [hm] at hk2 ⊢
   refine trap_stays (by rw [hlen]; exact hok.inn _ htr) (by rw [hlen]; exact hok.out _ htr) (fun x hx => (hk2 x hx).1) hen (fun x hx => (htok x hx).1) (fun p hp => by rw [hlen]; exact hr p hp) ?_ i1
   have := (isL_iff 2 n.trs T).1 hT _ htr
   simpa [askedL, answL] using this
theorem sumAt_sub {m : List Int} (hm : ∀ x ∈ m, 0 ≤ x) {T s : List Int} (h : T.Sublist s) : sumAt m T ≤ sumAt m s := by
 induction h with
 | slnil => exact Int.le_refl _
 | cons a _ ih =>
  rw [sumAt_cons]
  have : 0 ≤ m.getD a.toNat 0 := by
   rcases Nat.lt_or_ge a.toNat m.length with h | h
   ·exact hm _ (getD_mem m _ 0 h)
   ·rw [List.getD, List.getElem?_eq_none h]; exact Int.le_refl _
  omega
 | cons_cons a _ ih => rw [sumAt_cons, sumAt_cons]; omega
theorem sumAt_zero {m : List Int} : ∀ {s : List Int}, (∀ p ∈ s, m.getD p.toNat 0 = 0) → sumAt m s = 0
 | [], _ => rfl
 | p :: s, h => by rw [sumAt_cons, h p (by simp), sumAt_zero fun q hq => h q (by simp [hq])]; rfl
theorem com_ok {n : Net} {nd : List SN} {ed : List Edg} (hb : bndF n = .inr (nd, ed)) (h1 : Ones n) (hp : 0 < n.trs.length) (hc : comO n = none) : (∀ s ∈ minL 1 n, ∀ x ∈ nd, 0 < sumAt x.m s) ∧ deadsF n nd = [] := by
 obtain ⟨hok, hN, _⟩ := bnd_ok hb
 have key : ∀ s ∈ minL 1 n, ∀ x ∈ nd, 0 < sumAt x.m s := fun s hs x hx => by
  have h2 := comF_none hc s hs
  obtain ⟨_, _, hr⟩ := setsY_el (minL_el hs).1
  have hsub := redL_sub 2 n.trs s
  have h3 := sumAt_nonneg (fun x hx => (hok.tok x hx).1) (redL 2 n.trs s)
  obtain ⟨k, hk, rfl⟩ := List.getElem_of_mem hx
  have e : nd.getD k SN.no = nd[k] := by rw [List.getD, List.getElem?_eq_getElem hk]; rfl
  have h4 := trap_marked hb (redL_is 2 n.trs s) (fun p hp => hr p (hsub.subset hp)) (by omega) k hk
  rw [e] at h4
  have h5 := sumAt_sub (fun y hy => (hN.tok _ hx y hy).1) hsub
  omega
 refine ⟨key, ?_⟩
 rw [deadsF, List.map_eq_nil_iff, List.filter_eq_nil_iff]
 intro x hx hst
 rw [stuckB, decide_eq_true_eq] at hst
 have hd := dead_in hok h1 hp (hN.len x hx) (hN.tok x hx) (List.eq_nil_of_length_eq_zero hst)
 obtain ⟨s, hs, hsub⟩ := min_in (zeroK_pw _ _) (fun y hy => by
  obtain ⟨q, q1, rfl, _⟩ := mem_zeroL.1 hy
  have := hN.len x hx
  omega) hd.ne hd.is
 have h2 := key s hs x hx
 rw [sumAt_zero fun p hp => by
  obtain ⟨q, q1, rfl, q3⟩ := mem_zeroL.1 (hsub p hp)
  rw [Int.toNat_natCast]; exact q3] at h2
 omega
theorem em_none {n : Net} {nd : List SN} {ed : List Edg} (hb : bndF n = .inr (nd, ed)) {s : List Int} (hs : s ∈ minL 1 n) (h : ∀ x ∈ nd, 0 < sumAt x.m s) : emX n s = ([], false, 0) := by
 obtain ⟨hok, _, _⟩ := bnd_ok hb
 obtain ⟨_, hpw, hr⟩ := setsY_el (minL_el hs).1
 have h0 := netE_of hok
 have hc : checkSet s n.init.length = 0 := checkSet_ok hpw hr
 have hsi : siE n s 1 = 0 := by rw [siE, if_neg (by omega), if_neg (by omega), if_neg (by omega)]
 have hx : ¬ 0 ≤ emT s nd := by
  have h2 := ix_any (fun m => decide (sumAt m s = 0)) (nd.map SN.m) 0
  have h3 : (nd.map SN.m).any (fun m => decide (sumAt m s = 0)) = false := by
   rw [List.any_eq_false]
   intro m hm
   obtain ⟨x, hx, rfl⟩ := List.mem_map.1 hm
   have := h x hx
   rw [decide_eq_true_eq]; omega
  rw [h3] at h2
  exact of_decide_eq_false h2
 rw [emX, if_neg (by omega), hb]
 simp only
 rw [if_neg hx]
end Go.Proofs.YtljpfdehnjemlaaDoor
