/-
 Contracts: the library's sorts and what thins slices out, over a slice of the call's own.
-/
import Derived.Test.YtljpfdehnjemlaaDoorE4
import Derived.Test.YtljpfdehnjemlaaDoorS4
import Derived.Test.YtljpfdehnjemlaaDoorSh2
import Derived.Shelf.SlSortCmp.Kit1
import Derived.Shelf.SlSortFuncK.RowK2
import Derived.Lib.SlKept
import Derived.Lib.RowBridge
import Derived.Lib.SliceRun
import Derived.Deep.LoopGhost
set_option linter.unusedSimpArgs false
set_option linter.unusedVariables false
namespace Go.Proofs.YtljpfdehnjemlaaDoor
open Go.RowKit Go.Eng Go.Sort Go.Lib Go.Proofs
theorem own_ret {n c g : Nat} : ∀ (w' : World) (M : Nat → Prop) (β : List Value), β = [.slice (some ⟨g, 0, none⟩) n c] → RepV w' M β (.one (.own 0)) (.slice (some ⟨g, 0, none⟩) n c) := by
 rintro w' M β rfl
 exact ⟨.inl rfl, rfl⟩
theorem ints_cells {w : World} {M : Nat → Prop} {g c : Nat} {e : TypeId} {cur : Array Value} {l : List Int} (h5 : w.heap[g]? = some (.cells cur e (0, 0))) (h7 : RepRows w M ⟨g, 0, none⟩ 1 0 (ints l)) :
  ∀ j, j < l.length → cur[j]? = some (.int .i64 (l.getD j 0)) := by
 intro j hj
 obtain ⟨us, q1, q2, q3⟩ := RepRows.get (ints l) 0 h7 j [.int .i64 (l.getD j 0)] (by simp [ints, List.getD, List.getElem?_eq_getElem hj])
 obtain ⟨u, rest, rfl, q4, q5⟩ := q3
 obtain rfl : rest = [] := q5
 obtain rfl : u = .int .i64 (l.getD j 0) := q4
 have := q2 0 _ rfl
 rw [add_lit] at this
 unfold World.cell? at this
 simp only [h5] at this
 rwa [show 0 + (0 + j * 1 + 0) = j by omega] at this
theorem arr_getD (l : List Int) (j : Nat) (h : j < l.length) : (l.toArray)[j]! = l.getD j 0 := by
 simp [getElem!_pos, List.getD, h]
theorem ints_holds {w : World} {M : Nat → Prop} {g : Nat} {e : TypeId} {cur : Array Value} {l : List Int} (h5 : w.heap[g]? = some (.cells cur e (0, 0))) (h7 : RepRows w M ⟨g, 0, none⟩ 1 0 (ints l)) : Holds (Value.int .i64) w g 0 l.toArray :=
 holds_of_cells h5 fun j hj => by
  have hj' : j < l.length := by simpa using hj
  rw [arr_getD l j hj']
  exact ints_cells (c := 0) h5 h7 j hj'
theorem ints_rep {w : World} {M : Nat → Prop} {l : List Int} {d : Array Int} (hl : ∀ j, j < l.length → j < d.size ∧ d[j]! = l.getD j 0) : ∀ (j : Nat) (x : List D), (ints l)[j]? = some x → j < d.size ∧ RepL w M x [Value.int .i64 d[j]!] := by
 intro j x hx
 have hj : j < l.length := by have := (List.getElem?_eq_some_iff.1 hx).1; simpa [ints_length] using this
 obtain ⟨h1, h2⟩ := hl j hj
 refine ⟨h1, ?_⟩
 have : x = [.int .i64 (l.getD j 0)] := by
  simp [ints, List.getElem?_eq_getElem hj] at hx
  simp [← hx, List.getD, List.getElem?_eq_getElem hj]
 subst this
 rw [h2]
 exact ⟨_, [], rfl, rfl, rfl⟩
theorem vargs2 {w : World} {M : Nat → Prop} {β vs : List Value} {a b : AV} (h : RepVL w M β [a, b] vs) : ∃ v u, vs = [v, u] ∧ RepV w M β a v ∧ RepV w M β b u := by
 obtain ⟨v, rest, rfl, h1, h2⟩ := h
 obtain ⟨u, rest, rfl, h3, h4⟩ := h2
 obtain rfl : rest = [] := h4
 exact ⟨v, u, rfl, h1, h3⟩
/-! lists of numbers, by length, then one by one -/
def lexI : List Int → List Int → Int
 | [], [] => 0
 | [], _ :: _ => -1
 | _ :: _, [] => 1
 | x :: a, y :: b => if x < y then -1 else if y < x then 1 else lexI a b
def ltLL (a b : List Int) : Bool := decide (a.length < b.length) || (a.length == b.length && decide (lexI a b < 0))
theorem lexI_refl : ∀ a, lexI a a = 0
 | [] => rfl
 | x :: a => by simp [lexI, lexI_refl a]
theorem lexI_trans : ∀ a b c, lexI a b < 0 → lexI b c < 0 → lexI a c < 0
 | [], [], _, h, _ => by simp [lexI] at h
 | [], _ :: _, [], _, h => by simp [lexI] at h
 | [], _ :: _, _ :: _, _, _ => by simp [lexI]
 | _ :: _, [], _, h, _ => by simp [lexI] at h
 | _ :: _, _ :: _, [], _, h => by simp [lexI] at h
 | x :: a, y :: b, z :: c, h, k => by
  simp only [lexI] at *
  split at h
  ·split at k
   ·rw [if_pos (by omega)]; omega
   ·split at k
    ·omega
    ·rw [if_pos (by omega)]; omega
  ·split at h
   ·omega
   ·split at k
    ·rw [if_pos (by omega)]; omega
    ·split at k
     ·omega
     ·rw [if_neg (by omega), if_neg (by omega)]
      exact lexI_trans a b c h k
theorem lexI_ntrans : ∀ a b c, ¬ lexI a b < 0 → ¬ lexI b c < 0 → ¬ lexI a c < 0
 | [], [], [], _, _ => by simp [lexI]
 | [], [], _ :: _, _, h => by simp [lexI] at h
 | [], _ :: _, _, h, _ => by simp [lexI] at h
 | _ :: _, _, [], _, _ => by simp [lexI]
 | _ :: _, [], _ :: _, _, h => by simp [lexI] at h
 | x :: a, y :: b, z :: c, h, k => by
  simp only [lexI] at *
  split at h
  ·omega
  ·split at k
   ·omega
   ·rw [if_neg (by omega)]
    split
    ·omega
    ·split at h
     ·omega
     ·split at k
      ·omega
      ·exact lexI_ntrans a b c h k
theorem ltLL_swo : SWO ltLL := by
 refine ⟨fun x => ?_, fun x y z => ?_, fun x y z => ?_⟩
 ·simp [ltLL, lexI_refl]
 ·simp only [ltLL, Bool.or_eq_true, Bool.and_eq_true, decide_eq_true_eq, beq_iff_eq]
  rintro (h | ⟨h, h'⟩) (k | ⟨k, k'⟩)
  ·omega
  ·omega
  ·omega
  ·exact .inr ⟨by omega, lexI_trans _ _ _ h' k'⟩
 ·have key : ∀ a b, ltLL a b = false ↔ (b.length ≤ a.length ∧ (a.length = b.length → ¬ lexI a b < 0)) := by
   intro a b
   rw [← Bool.not_eq_true]
   simp only [ltLL, Bool.or_eq_true, Bool.and_eq_true, decide_eq_true_eq, beq_iff_eq, not_or, Nat.not_lt, not_and]
  rw [key, key, key]
  rintro ⟨h, h'⟩ ⟨k, k'⟩
  exact ⟨by omega, fun e => lexI_ntrans x y z (h' (by omega)) (k' (by omega))⟩
theorem sorted_one {α : Type} {lt : α → α → Bool} : ∀ {ys zs : List α}, zs.Perm ys → ys.Pairwise (fun a b => lt a b = true) → zs.Pairwise (fun a b => lt b a = false) → zs = ys
 | [], zs, h, _, _ => h.eq_nil
 | y :: ys, [], h, _, _ => by have := h.length_eq; simp at this
 | y :: ys, z :: zs, h, hy, hz => by
  have e : z = y := by
   by_cases he : z = y
   ·exact he
   ·have h1 : z ∈ ys := by
     have : z ∈ y :: ys := h.subset (by simp)
     rcases List.mem_cons.1 this with h | h
     ·exact absurd h he
     ·exact h
    have h2 : y ∈ zs := by
     have : y ∈ z :: zs := h.symm.subset (by simp)
     rcases List.mem_cons.1 this with h | h
     ·exact absurd h.symm he
     ·exact h
    have a := (List.pairwise_cons.1 hy).1 z h1
    have b := (List.pairwise_cons.1 hz).1 y h2
    rw [a] at b
    cases b
  subst e
  rw [sorted_one h.cons_inv (List.pairwise_cons.1 hy).2 (List.pairwise_cons.1 hz).2]
/-! DeleteFunc, of a function that may lay blocks -/
theorem SW_set {w0 W : World} {g : Nat} {dk : Array Int} (h : SW (Value.int .i64) w0 g 0 dk W) (hblk : g < w0.heap.size) (i : Nat) (x : Int) (hi : i < dk.size) : SW (Value.int .i64) w0 g 0 (dk.setIfInBounds i x) (W.setCell ⟨g, 0 + i, none⟩ (.int .i64 x)) := by
 obtain ⟨n, os, rfl⟩ := h
 refine ⟨n, os, ?_⟩
 unfold sortWorld
 rw [setCell_eq, mapBlock_grow _ _ _ _ (by rw [size_putRow]; exact hblk), ← setCell_eq, putRow_set (Value.int .i64) _ g 0 dk i x hi]
theorem SW_lay {w0 W : World} {g : Nat} {dk : Array Int} (h : SW (Value.int .i64) w0 g 0 dk W) (hblk : g < w0.heap.size) (k : Nat) (xs : List Int) (hk : k + xs.length ≤ dk.size) : SW (Value.int .i64) w0 g 0 (lay dk k xs) (W.setCells g (0 + k) (xs.map (Value.int .i64))) := by
 obtain ⟨n, os, rfl⟩ := h
 refine ⟨n, os, ?_⟩
 unfold sortWorld
 rw [setCells_grow _ _ _ _ _ (by rw [size_putRow]; exact hblk), putRow_setCells (Value.int .i64) _ g 0 xs dk k hk]
theorem ixFrom_spec (p : Int → Bool) : ∀ (l : List Int) (i : Nat), (ixFrom p i l = -1 ∧ ∀ j, j < l.length → p (l.getD j 0) = false) ∨ ∃ k, k < l.length ∧ ixFrom p i l = ((i + k : Nat) : Int) ∧ p (l.getD k 0) = true ∧ ∀ j, j < k → p (l.getD j 0) = false
 | [], _ => .inl ⟨rfl, fun j hj => absurd hj (Nat.not_lt_zero _)⟩
 | y :: r, i => by
  cases h : p y with
  | true => exact .inr ⟨0, by simp, by simp [ixFrom, h], by simpa using h, fun j hj => absurd hj (Nat.not_lt_zero _)⟩
  | false =>
   have e0 : ixFrom p i (y :: r) = ixFrom p (i + 1) r := by simp [ixFrom, h]
   rcases ixFrom_spec p r (i + 1) with ⟨e, ha⟩ | ⟨k, hk, e, ht, ha⟩
   ·refine .inl ⟨by rw [e0, e], fun j hj => ?_⟩
    cases j with
    | zero => simpa using h
    | succ j => simpa using ha j (by simpa using hj)
   ·refine .inr ⟨k + 1, by simpa using hk, by rw [e0, e]; congr 1; omega, by simpa using ht, fun j hj => ?_⟩
    cases j with
    | zero => simpa using h
    | succ j => simpa using ha j (by omega)
set_option maxHeartbeats 4000000 in
set_option maxRecDepth 1000000 in
theorem DeleteFunc_w (l : List Int) (p : Int → Bool) (f : FuncId) (lb : Array Value) (g cap : Nat) (w : World) (eg : ∀ args w, (callFunc f args).run Tryd.prog w = .ok (.enter f args) w)
  (hpo : ∀ (W : World) (dk : Array Int) (x : Int), dk.size = l.length → SW (Value.int .i64) w g 0 dk W → Calls Tryd.prog f (#[.int .i64 x] ++ lb) W fun e w' => e = .returned (.bool (p x)) ∧ SW (Value.int .i64) w g 0 dk w')
  (hIF : Calls Tryd.prog 59 #[.slice (some ⟨g, 0, none⟩) l.length cap, .func (.func f) #[] lb] w fun e w' => e = .returned (.int .i64 (ixFrom p 0 l)) ∧ SW (Value.int .i64) w g 0 l.toArray w')
  (hH : Holds (Value.int .i64) w g 0 l.toArray) (hblk : g < w.heap.size) (hsz : l.length ≤ 1000000) (hcap : l.length ≤ cap) :
  Calls Tryd.prog 41 #[.slice (some ⟨g, 0, none⟩) l.length cap, .func (.func f) #[] lb] w fun e w' => e = .returned (.slice (some ⟨g, 0, none⟩) (l.filter fun x => !p x).length cap) ∧
   ∃ d', d'.size = l.length ∧ (∀ j, j < (l.filter fun x => !p x).length → d'[j]! = (l.filter fun x => !p x).getD j 0) ∧ SW (Value.int .i64) w g 0 d' w' := by
 obtain ⟨d, hd⟩ : ∃ d : Array Int, d = l.toArray := ⟨_, rfl⟩
 have hds : d.size = l.length := by rw [hd]; simp
 have hdl : d.toList = l := by rw [hd]
 have tl : ∀ j, j < l.length → l.getD j 0 = d[j]! := fun j hj => by rw [hd, arr_getD l j hj]
 rw [← hd] at hIF hH
 obtain ⟨kp, HKP⟩ : ∃ kp : Nat → Bool, Hid (kp = fun j => !p d[j]!) := ⟨_, rfl⟩
 have hfil : (l.filter fun x => !p x) = keptUpTo kp d d.size := by rw [HKP.out, ← hdl]; exact (keptUpTo_filter (fun x => !p x) d).symm
 rw [hfil]
 rcases ixFrom_spec p l 0 with ⟨e1, hall⟩ | ⟨k0, hk0, e1, ht, hall⟩
 ·rw [e1] at hIF
  have hkeep : ∀ j, j < d.size → kp j = true := fun j hj => by rw [HKP.out]; show (!p d[j]!) = true; rw [← tl j (by omega), hall j (by omega)]; rfl
  have e3 : keptUpTo kp d d.size = d.toList := by rw [keptUpTo_all kp d _ hkeep, range_map_get]
  rw [e3, hdl]
  clear hH hpo
  go_enter Tryd.func41, Tryd.ntmps41
  go_wp2_with (go_at_call 59; refine hIF.mono ?_; rintro e w' ⟨rfl, hsw⟩)
  go_ret
  exact ⟨rfl, d, hds, fun j hj => (tl j hj).symm, hsw⟩
 ·have hk0' : k0 < d.size := by omega
  rw [e1] at hIF
  have hkeep : ∀ j, j < k0 → kp j = true := fun j hj => by rw [HKP.out]; show (!p d[j]!) = true; rw [← tl j (by omega), hall j hj]; rfl
  have hdrop : kp k0 = false := by rw [HKP.out]; show (!p d[k0]!) = false; rw [← tl k0 (by omega), ht]; rfl
  rw [show 0 + k0 = k0 by omega] at hIF
  have hne1 : ((k0 : Int) == -1) = false := beq_eq_false_iff_ne.2 (by omega)
  have HC : Aside _ := hpo
  have HH : Aside (Holds (Value.int .i64) w g 0 d) := hH
  have HB : Aside (g < w.heap.size) := hblk
  have hlen : (l.length : Int) = (d.size : Int) := by omega
  have hsz2 : d.size ≤ 1000000 ∧ d.size ≤ cap := by omega
  clear hpo hH hall ht e1 tl hdl hd hfil
  rw [← hds] at *
  go_enter Tryd.func41, Tryd.ntmps41
  go_wp2_with (go_at_call 59; refine hIF.mono ?_; rintro e w' ⟨rfl, hsw⟩)
  go_loopg [5, 6, 7] d.size (fun gg s5 s6 _ wr => ∃ (i j : Nat) (dk : Array Int), s5 = .int .i64 i ∧ s6 = .int .i64 j ∧ j ≤ d.size ∧ d.size - j ≤ gg ∧ Aside (SW (Value.int .i64) w g 0 dk wr) ∧ Aside (KeptInv kp d j i dk))
  case atStart => exact ⟨k0, k0 + 1, d, rfl, by go_num, by omega, by omega, hsw, KeptInv.start hkeep hdrop⟩
  case round =>
   obtain ⟨i, j, dk, rfl, rfl, hjd, hgg, W2, I2⟩ := hrel
   have hI := I2.out
   have hij := hI.lt
   have hks := hI.size
   have hHk : Holds (Value.int .i64) wr g 0 dk := W2.out.holds HB.out HH.out hks
   by_cases hlt : j < d.size
   ·have hltz : (j : Int) < (d.size : Int) := by omega
    obtain ⟨cj, _⟩ := hHk j (by omega)
    obtain ⟨ci, fi⟩ := hHk i (by omega)
    rw [hI.high j (by omega)] at cj
    rw [Nat.zero_add] at cj ci fi
    have hio : i < dk.size := by omega
    have hcall := HC.out wr dk d[j]! hks W2.out
    clear hHk hI
    generalize hu : d[j]! = u at cj hcall
    generalize dk[i]! = old at ci
    have C : Aside (d[j]! = u) := hu
    clear hu
    cases hq : p u with
    | false =>
     rw [hq] at hcall
     go_wp2_with (go_at_fn f; refine hcall.mono ?_; rintro e w' ⟨rfl, hw2⟩; obtain ⟨ci2, fi2⟩ := hw2.holds HB.out HH.out hks i hio; rw [Nat.zero_add] at ci2 fi2)
     go_roundg (d.size - (j + 1))
     case measure => omega
     case rel =>
      refine ⟨i + 1, j + 1, dk.setIfInBounds i u, by go_num, by go_num, by omega, Nat.le_refl _, (show Aside _ from ?_), (show Aside _ from ?_)⟩
      ·have := SW_set hw2 HB.out i u hio
       rwa [Nat.zero_add] at this
      ·have := I2.out.keep hlt (by rw [HKP.out]; show (!p d[j]!) = true; rw [C.out, hq]; rfl)
       rwa [C.out] at this
    | true =>
     rw [hq] at hcall
     go_wp2_with (go_at_fn f; refine hcall.mono ?_; rintro e w' ⟨rfl, hw2⟩)
     go_roundg (d.size - (j + 1))
     case measure => omega
     case rel => exact ⟨i, j + 1, dk, rfl, by go_num, by omega, Nat.le_refl _, hw2, I2.out.skip (by rw [HKP.out]; show (!p d[j]!) = false; rw [C.out, hq]; rfl)⟩
   ·obtain rfl : j = d.size := by omega
    have hltz : ¬ (d.size : Int) < (d.size : Int) := by omega
    have hcl : ∀ ty, (Builtin.clear_ #[27] ty #[.slice (some ⟨g, 0 + i, none⟩) (d.size - i) (cap - i)]).run Tryd.prog wr = .ok (.tuple #[]) (wr.setCells g (0 + i) (List.replicate (d.size - i) (.int .i64 0))) :=
     fun ty => Lib.run_clear_slice wr _ _ ty _ Tryd.underlying27 Tryd.zeroValue3 rfl rfl g (0 + i) _ _ (by omega) (fun t ht => by rw [show 0 + i + t = 0 + (i + t) by omega, (hHk (i + t) (by omega)).1]; rfl) (fun t ht => by rw [show 0 + i + t = 0 + (i + t) by omega]; exact (hHk (i + t) (by omega)).2)
    rw [Nat.zero_add] at hcl
    have hci : ¬ cap = i := by omega
    clear hHk hI
    go_wp2
    go_ret
    have hI := I2.out
    refine ⟨by rw [hI.len]; rfl, _, ?_, ?_, by have := SW_lay W2.out HB.out i (List.replicate (d.size - i) 0) (by simp; omega); rwa [Nat.zero_add, List.map_replicate] at this⟩
    ·rw [hI.done 0]
     simp only [List.size_toArray, List.length_append, List.length_replicate, hI.len]
     omega
    ·intro j hj
     rw [hI.done 0, arr_getD _ _ (by simp only [List.length_append]; omega)]
     simp only [List.getD, List.getElem?_append_left hj]
theorem DeleteFunc_none (A : Option Addr) (n cap : Nat) (f : FuncId) (lb : Array Value) (w : World) (R : World → Prop)
  (hIF : Calls Tryd.prog 59 #[.slice A n cap, .func (.func f) #[] lb] w fun e w' => e = .returned (.int .i64 (-1)) ∧ R w') :
  Calls Tryd.prog 41 #[.slice A n cap, .func (.func f) #[] lb] w fun e w' => e = .returned (.slice A n cap) ∧ R w' := by
 go_enter Tryd.func41, Tryd.ntmps41
 go_wp2_with (go_at_call 59; refine hIF.mono ?_; rintro e w' ⟨rfl, hsw⟩)
 go_ret
 exact ⟨rfl, hsw⟩
theorem capsRep {w : World} {M : Nat → Prop} {β : List Value} {caps : List D} {cvs : List Value} (hc : CapsOk caps) (hl : caps.length = cvs.length) (h : ∀ (i : Nat) (d : D) (u : Value), caps[i]? = some d → cvs[i]? = some u → RepC0 w M β d u) :
  ∀ (i : Nat) (d : D) (u : Value), caps[i]? = some d → cvs[i]? = some u → RepD w M d u :=
 fun i d u hd hu => repD_of_free (by have := hc.lt; rw [List.all_eq_true] at this; exact this d (List.mem_of_getElem? hd)) (h i d u hd hu)
theorem capsVL {w : World} {M : Nat → Prop} {caps : List D} {cvs : List Value} (hl : caps.length = cvs.length) (h : ∀ (i : Nat) (d : D) (u : Value), caps[i]? = some d → cvs[i]? = some u → RepD w M d u) : RepVL w M [] (caps.map AV.one) cvs :=
 RepVL.mk _ _ (by simpa using hl) fun i b u hb hu => by
  rw [List.getElem?_map] at hb
  cases hd : caps[i]? with
  | none => rw [hd] at hb; cases hb
  | some d =>
   rw [hd] at hb
   simp at hb
   subst hb
   exact (h i d u hd hu).toC
theorem DeleteFunc_c (l : List Int) (f : FuncId) (caps : List D) (p : Int → Bool) (hn : l.length ≤ 1000000) (hc : CapsOk caps) (hp : ∀ x, ACalls Tryd.prog f (.one (.int .i64 x) :: caps.map AV.one) (.one (.bool (p x))) []) :
  MCalls Tryd.prog 41 0 [.row 3 1 (ints l)] [.one (.own 0), .one (.clo f caps)] (.one (.own 0)) [.row 3 1 (ints (l.filter fun x => !p x))] := by
 refine ⟨by kernel_rfl, rfl, fun w M0 F vs hM hp0 hv => ?_⟩
 obtain ⟨v, u, rfl, hv1, cvs, rfl, hcl, hcr⟩ := vargs2 hv
 obtain ⟨A, c, rfl, rfl, h2, h3, h4⟩ := row_in hp0 hv1
 have hcd := capsRep hc hcl hcr
 have hd0 := fun i d u a b => RepD.keep (keeps_less (w := w) (M := Mof M0 [.slice A (ints l).length c]) (M' := M0) fun g h => .inl h) d u (hcd i d u a b)
 have hM0 : MOk w M0 [] := mok_less hM hM.1 fun g h => .inl h
 have hcap0 : RepC w M0 [] (.clo f caps) (.func (.func f) #[] ⟨cvs⟩) := ⟨cvs, rfl, hcl, fun i d u a b => (hd0 i d u a b).toC0⟩
 have hI := IndexFuncInts_c l f caps p hn hc (fun e _ => hp e)
 rw [ints_length] at *
 by_cases h0 : l.length = 0
 ·obtain rfl : l = [] := List.length_eq_zero_iff.1 h0
  have hIF := hI.run w M0 [.slice A 0 c, .func (.func f) #[] ⟨cvs⟩] hM0 ⟨_, _, rfl, ⟨A, c, rfl, Nat.zero_le _, h3, .inl rfl⟩, _, _, rfl, hcap0, rfl⟩
  refine (DeleteFunc_none A 0 c f ⟨cvs⟩ w (fun w' => Go.Eng.Below w.heap.size w w') (hIF.mono ?_)).mono ?_
  ·rintro e w' ⟨v, β, rfl, hr⟩
   have : v = .int .i64 (-1) := hr.val
   exact ⟨by rw [this], hr.below⟩
  ·rintro e w' ⟨rfl, hb⟩
   exact resM_below hp0 hb ⟨.inl rfl, rfl⟩
 ·rcases h4 with h4 | ⟨hc0, g, cur, rfl, hg, h5, h6, h7, h8⟩
  ·omega
  ·have hH := ints_holds h5 h7
   have hrl : RepRows w M0 ⟨g, 0, none⟩ 1 0 (ints l) := RepRows.of_get _ _ fun i x hx => by
    obtain ⟨us, q1, q2, q3⟩ := RepRows.get (ints l) 0 h7 i x hx
    exact ⟨us, q1, q2, RepL.flat q3 (ints_flat l x (List.mem_of_getElem? hx))⟩
   have hIF := hI.run w M0 [.slice (some ⟨g, 0, none⟩) l.length c, .func (.func f) #[] ⟨cvs⟩] hM0 ⟨_, _, rfl, ⟨some ⟨g, 0, none⟩, c, by rw [ints_length], by rw [ints_length]; exact h2, h3, .inr ⟨⟨g, 0, none⟩, 1, rfl, hg.2, hg.1, hrl⟩⟩, _, _, rfl, hcap0, rfl⟩
   have hMg : Mof M0 [.slice (some ⟨g, 0, none⟩) l.length c] g := (h8 g).2 (.inr rfl)
   have hM1 := mok_less hM (mof_lt hM hp0) fun g h => h
   refine (DeleteFunc_w l p f ⟨cvs⟩ g c w (okFn_enter (hp 0).ok) ?_ (hIF.mono ?_) hH hg.2 hn h2).mono ?_
   ·rintro W dk x hs ⟨m, os, rfl⟩
    have hk := sortWorld_keeps (enc := Value.int .i64) (w := w) (m := m) (dk := dk) (os := os) hMg
    refine ((hp x).run _ (Mof M0 [.slice (some ⟨g, 0, none⟩) l.length c]) (.int .i64 x :: cvs) (mok_sorted hM1 hMg) ⟨_, _, rfl, rfl, capsVL hcl fun i d u a b => RepD.keep hk d u (hcd i d u a b)⟩ |> fun h => ?_)
    have e : (#[Value.int .i64 x] ++ (⟨cvs⟩ : Array Value)) = ⟨.int .i64 x :: cvs⟩ := by apply Array.ext'; simp
    rw [e]
    refine h.mono ?_
    rintro e w' ⟨v, β, rfl, hr⟩
    have : v = .bool (p x) := hr.val
    obtain ⟨q, os', rfl⟩ := grow_of_below hr.below
    exact ⟨by rw [this], SW.grown ⟨m, os, rfl⟩ q os'⟩
   ·rintro e w' ⟨v, β, rfl, hr⟩
    have : v = .int .i64 (ixFrom p 0 l) := hr.val
    obtain ⟨q, os', rfl⟩ := grow_of_below hr.below
    exact ⟨by rw [this], SW.grown (SW.start hH) q os'⟩
   ·rintro e w' ⟨rfl, d', hs, hd, q, os, rfl⟩
    have hfl := List.length_filter_le (fun x => !p x) l
    have e1 : (l.filter fun x => !p x).length = (ints (l.filter fun x => !p x)).length := by rw [ints_length]
    rw [e1]
    exact resM_sorted (enc := Value.int .i64) (os := os) (q := q) hg (by rw [ints_length]; omega) (.inl rfl) hc0 h3 h5 h6 (ints_rep fun j hj => ⟨by omega, hd j hj⟩) own_ret (Nat.zero_le _)
theorem SortLists_c (xs ys : List (List Int)) (f : FuncId) (cf : List Int → List Int → Int) (lt : List Int → List Int → Bool) (hO : SWO lt) (hcf : ∀ a b, decide (cf a b < 0) = lt a b) (hperm : ys.Perm xs)
  (hys : ys.Pairwise fun a b => lt a b = true) (h0 : xs ≠ []) (hn : xs.length ≤ 1000000) (hc : ∀ a b, a ∈ xs → b ∈ xs → ACalls Tryd.prog f [.one (.list (ints a)), .one (.list (ints b))] (.one (.int .i64 (cf a b))) []) :
  MCalls Tryd.prog 21 1 [.row 27 1 (wordsD xs)] [.one (.own 0), .one (.clo f [])] (.tup []) [.row 27 1 (wordsD ys)] := by
 obtain ⟨x0, hx0⟩ : ∃ x0, x0 ∈ xs := List.exists_mem_of_ne_nil _ h0
 have hw : ∀ l : List (List Int), (wordsD l).length = l.length := fun l => by simp [wordsD]
 refine ⟨by kernel_rfl, rfl, fun w M0 F vs hM hp hv => ?_⟩
 obtain ⟨v, u, rfl, hv1, cvs, rfl, hcl, hcr⟩ := vargs2 hv
 obtain rfl : cvs = [] := List.length_eq_zero_iff.1 hcl.symm
 obtain ⟨A, c, rfl, rfl, h2, h3, h4⟩ := row_in hp hv1
 rw [hw] at *
 have hpos : 0 < xs.length := List.length_pos_iff.2 h0
 rcases h4 with h4 | ⟨hc0, g, cur, rfl, hg, h5, h6, h7, h8⟩
 ·omega
 -- the handles, by number; beyond the row the first one again
 let X : Nat → List Int := fun i => xs.getD i (xs.getD 0 [])
 let enc : Nat → Value := fun i => if i < xs.length then cur.getD i default else cur.getD 0 default
 have hXm : ∀ i, X i ∈ xs := fun i => by
  by_cases hi : i < xs.length
  ·have : X i = xs[i] := by simp [X, List.getD, List.getElem?_eq_getElem hi]
   rw [this]; exact List.getElem_mem hi
  ·have : X i = xs[0] := by simp [X, List.getD, List.getElem?_eq_none (Nat.le_of_not_lt hi), List.getElem?_eq_getElem hpos]
   rw [this]; exact List.getElem_mem hpos
 have hMg : Mof M0 [.slice (some ⟨g, 0, none⟩) xs.length c] g := (h8 g).2 (.inr rfl)
 have hat : ∀ i, i < xs.length → ∃ v, cur[i]? = some v ∧ RepD w (Mof M0 [.slice (some ⟨g, 0, none⟩) xs.length c]) (.list (ints xs[i]!)) v := fun i hi => by
  obtain ⟨us, q1, q2, q3⟩ := RepRows.get (wordsD xs) 0 h7 i [.list (ints xs[i]!)] (by simp [wordsD, List.getElem?_eq_getElem hi, getElem!_pos xs i hi])
  obtain ⟨u, rest, rfl, q4, q5⟩ := q3
  obtain rfl : rest = [] := q5
  refine ⟨u, ?_, q4⟩
  have := q2 0 _ rfl
  rw [add_lit] at this
  unfold World.cell? at this
  simp only [h5] at this
  rwa [show 0 + (0 + i * 1 + 0) = i by omega] at this
 have hrep : ∀ i, RepD w (Mof M0 [.slice (some ⟨g, 0, none⟩) xs.length c]) (.list (ints (X i))) (enc i) := fun i => by
  by_cases hi : i < xs.length
  ·obtain ⟨v, h1, h2⟩ := hat i hi
   have e1 : X i = xs[i]! := by simp [X, List.getD, List.getElem?_eq_getElem hi, getElem!_pos xs i hi]
   have e2 : enc i = v := by simp [enc, hi, Array.getD_eq_getD_getElem?, h1]
   rw [e1, e2]; exact h2
  ·obtain ⟨v, h1, h2⟩ := hat 0 hpos
   have e1 : X i = xs[0]! := by simp [X, List.getD, List.getElem?_eq_none (Nat.le_of_not_lt hi), List.getElem?_eq_getElem hpos, getElem!_pos xs 0 hpos]
   have e2 : enc i = v := by simp [enc, hi, Array.getD_eq_getD_getElem?, h1]
   rw [e1, e2]; exact h2
 have h1c : OneCell enc := fun i => RepD.one_cell _ _ (hrep i)
 have hds : ((List.range xs.length).toArray).size = xs.length := by simp
 have hH : Holds enc w g 0 (List.range xs.length).toArray := holds_of_cells h5 fun j hj => by
  have hj' : j < xs.length := by simpa using hj
  obtain ⟨v, h1, _⟩ := hat j hj'
  have : ((List.range xs.length).toArray)[j]! = j := by simp [getElem!_pos, hj']
  rw [this, h1]
  simp [enc, hj', Array.getD_eq_getD_getElem?, h1]
 have hO' : SWO (ltOf fun i j => cf (X i) (X j)) := by
  have e : (ltOf fun i j => cf (X i) (X j)) = fun i j => lt (X i) (X j) := by funext i j; exact hcf _ _
  rw [e]
  exact ⟨fun x => hO.irrefl _, fun x y z => hO.trans _ _ _, fun x y z => hO.ntrans _ _ _⟩
 have hM1 := mok_less hM (mof_lt hM hp) fun g h => h
 have hok := (hc x0 x0 hx0 hx0).ok
 have hcmp : CmpLays1 Tryd.prog f #[] enc (fun i j => cf (X i) (X j)) g 0 (List.range xs.length).toArray.size w := by
  intro m os dk hs x y
  have hk := sortWorld_keeps (enc := enc) (w := w) (m := m) (dk := dk) (os := os) hMg
  have h := (hc (X x) (X y) (hXm x) (hXm y)).run (sortWorld enc w g 0 m dk os) _ [enc x, enc y] (mok_sorted hM1 hMg) ⟨_, _, rfl, (RepD.keep hk _ _ (hrep x)).toC, _, _, rfl, (RepD.keep hk _ _ (hrep y)).toC, rfl⟩
  refine h.mono ?_
  rintro e w' ⟨v, β, rfl, hr⟩
  have : v = .int .i64 (cf (X x) (X y)) := hr.val
  obtain ⟨q, os', e'⟩ := grow_of_below hr.below
  exact ⟨by rw [this], q, os', e'⟩
 have hS := Tryd.slices_SortFunc enc h1c (fun i j => cf (X i) (X j)) hO' f #[] g 0 c (List.range xs.length).toArray w (okFn_enter hok) hcmp hH hg.2 (by rw [hds]; omega)
 rw [hds] at hS
 refine hS.mono ?_
 rintro e w' ⟨rfl, d', q, os, hP, hSo, rfl⟩
 have hsz : d'.size = xs.length := by rw [hP.1]; simp
 have hyl : ys.length = xs.length := hperm.length_eq
 have hPl : d'.toList.Perm (List.range xs.length) := by
  have := hP.2.2
  rwa [Array.extract_eq_self_of_le (by omega), Array.extract_eq_self_of_le (by simp)] at this
 have hmap : (List.range xs.length).map X = xs := by
  apply List.ext_getElem
  ·simp
  ·intro i h1 h2
   simp [X, List.getD, List.getElem?_eq_getElem h2]
 have hz : d'.toList.map X = ys := by
  refine sorted_one (lt := lt) (((hPl.map X).trans (by rw [hmap])).trans hperm.symm) hys ?_
  rw [List.pairwise_iff_getElem]
  intro i j hi hj hij
  have hi' : i < d'.size := by simpa using hi
  have hj' : j < d'.size := by simpa using hj
  have := hSo i j (Nat.zero_le _) hij (by omega)
  simp only [ltOf, hcf] at this
  simpa [getElem!_pos d' i hi', getElem!_pos d' j hj'] using this
 have hyX : ∀ j, j < ys.length → ys[j]! = X d'[j]! := fun j hj => by
  have hj' : j < d'.size := by omega
  subst hz
  simp [getElem!_pos, hj']
 refine resM_sorted (enc := enc) (d' := d') (q := q) (os := os) hg (by rw [hw]; omega) (.inr (by rw [hw]; omega)) hc0 h3 h5 h6 ?_ (fun _ _ _ _ => ⟨[], rfl, rfl⟩) (Nat.le_refl _)
 intro j x hx
 have hj : j < ys.length := by have := (List.getElem?_eq_some_iff.1 hx).1; simpa [hw] using this
 refine ⟨by omega, ?_⟩
 have : x = [.list (ints ys[j]!)] := by
  simp [wordsD, List.getElem?_eq_getElem hj] at hx
  simp [← hx, getElem!_pos ys j hj]
 subst this
 rw [hyX j hj]
 have hr := hrep d'[j]!
 have e : Mof M0 [.slice (some ⟨g, 0, none⟩) xs.length c] = fun k => M0 k ∨ k = g := funext fun k => propext (h8 k)
 rw [e] at hr
 exact ⟨_, [], rfl, hr, rfl⟩
end Go.Proofs.YtljpfdehnjemlaaDoor
