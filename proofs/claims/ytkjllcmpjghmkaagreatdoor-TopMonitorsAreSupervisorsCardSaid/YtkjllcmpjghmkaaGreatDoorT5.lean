/-
 Contracts: slices.SortFunc over removals: how many, nothing else.
-/
import Derived.Test.YtkjllcmpjghmkaaGreatDoorSV
import Derived.Shelf.GgSortFunc.InsertionK
import Derived.Ground.SlsfProg
import Derived.Shelf.SlSortCmp.WholeK
import Derived.Shelf.SlSortCmp.NoneTotal
import Derived.Test.YtkjllcmpjghmkaaGreatDoorProg
import Derived.Test.YtkjllcmpjghmkaaGreatDoorTX
set_option linter.unusedSimpArgs false
set_option linter.unusedVariables false
namespace Go.Eng
open Go.RowKit Go.Sort Go.Lib Go.Proofs
variable {α : Type} [Inhabited α]
theorem z6M {enc : α → List Value} {k : Nat} {w : World} {g : Nat} {d : Array α} {cur : Array Value} {e : TypeId} (h : w.heap[g]? = some (.cells cur e (0, 0))) (hd : ∀ t, t < d.size * k → cur[t]? = some (enc d[t / k]!)[t % k]!) : HoldsK enc k w g 0 d :=
 z3I (enc := id) h fun j hj => by
  rw [size_flatK] at hj
  rw [hd j hj, get_flatK _ _ _ _ hj]; rfl
section
variable {w : World} {M0 : Nat → Prop} {F : List Value} {e : TypeId} {sz : Nat} {rows : List (List D)} {v : Value}
theorem zil (hp : MPre w M0 F [.row e sz rows]) (hv : RepV w (Mof M0 F) F (.one (.own 0)) v) :
  ∃ A c, F = [.slice A rows.length c] ∧ v = .slice A rows.length c ∧ rows.length ≤ c ∧ c ≤ maxLen ∧ (c = 0 ∨ 0 < c ∧ ∃ g cur, A = some ⟨g, 0, none⟩ ∧ (¬ M0 g ∧ g < w.heap.size) ∧
   w.heap[g]? = some (.cells cur e (0, 0)) ∧ cur.size = c * sz ∧ RepRows w (Mof M0 F) ⟨g, 0, none⟩ sz 0 rows ∧ ∀ k, Mof M0 F k ↔ (M0 k ∨ k = g)) := by
 obtain ⟨h, rfl⟩ : ∃ h, F = [h] := List.length_eq_one_iff.1 hp.len
 have ho := hp.objs 0 _ h rfl rfl
 have hv0 := z0u (e := e) (sz := sz) (rows := rows) hv (fun x hx => by simp at hx; subst hx; exact ho)
 simp at hv0
 subst hv0
 obtain ⟨A, c, h1, h2, h3, h4⟩ := ho
 subst h1
 refine ⟨A, c, rfl, rfl, h2, h3, ?_⟩
 rcases h4 with h4 | ⟨hc0, g, cur, rfl, h5, h6, h7⟩
 ·exact .inl h4
 ·have hbl : hblk (.slice (some ⟨g, 0, none⟩) rows.length c) = some g := hblk_row hc0
  have hown : owned [.slice (some ⟨g, 0, none⟩) rows.length c] g := ⟨0, _, rfl, hbl⟩
  refine .inr ⟨hc0, g, cur, rfl, hp.out g hown, h5, h6, h7, fun k => ?_⟩
  unfold Mof
  constructor
  ·rintro (h | ⟨t, x, ht, hx⟩)
   ·exact .inl h
   ·cases t with
    | zero => simp at ht; subst ht; rw [hbl] at hx; exact .inr (by simpa using hx.symm)
    | succ t => simp at ht
  ·rintro (h | rfl)
   ·exact .inl h
   ·exact .inr hown
theorem ziH (hM : MOk w M0 F) (hp : MPre w M0 F [.row e sz rows]) : ∀ g, Mof M0 F g → g < w.heap.size := by
 rintro g (h | h)
 ·exact hM.1 g h
 ·exact (hp.out g h).2
theorem zgN {p : Nat} {r : AV} (hp : MPre w M0 F [.row e sz rows]) (hv : RepV w (Mof M0 F) F r v) : ∃ v' β, Ending.returned v = .returned v' ∧ ResM w w M0 F p r [.row e sz rows] v' β :=
 ⟨v, F, rfl, BelowX.refl _ _, hp.len, fun _ _ => rfl, hp.objs, fun g hg => ⟨.inl hg, (hp.out g hg).2⟩, hp.dist, hv⟩
end
theorem zeC {w w' : World} {M0 : Nat → Prop} {g n c e p sz : Nat} {rows' : List (List D)} {cur' : Array Value} {r : AV} {v : Value}
  (hg : ¬ M0 g ∧ g < w.heap.size) (hn' : rows'.length ≤ c) (hp : p = 0 ∨ rows'.length = n) (hc : 0 < c) (hcm : c ≤ maxLen)
  (hw : BelowX (fun k => k = g) w w') (h1 : w'.heap[g]? = some (.cells cur' e (0, 0))) (h2 : cur'.size = c * sz)
  (h3 : RepRows w' (fun k => M0 k ∨ k = g) ⟨g, 0, none⟩ sz 0 rows')
  (hv : ∀ M β, β = [.slice (some ⟨g, 0, none⟩) rows'.length c] → RepV w' M β r v) (hp1 : p ≤ 1) :
  ∃ v' β, Ending.returned v = .returned v' ∧ ResM w w' M0 [.slice (some ⟨g, 0, none⟩) n c] p r [.row e sz rows'] v' β := by
 have hb : ∀ m, hblk (.slice (some ⟨g, 0, none⟩) m c) = some g := fun m => hblk_row hc
 have ho : ∀ m k, owned [.slice (some ⟨g, 0, none⟩) m c] k ↔ k = g := by
  intro m k
  constructor
  ·rintro ⟨t, h, ht, hh⟩
   cases t with
   | zero => simp at ht; subst ht; rw [hb] at hh; simpa using hh.symm
   | succ t => simp at ht
  ·rintro rfl
   exact ⟨0, _, rfl, hb m⟩
 refine ⟨v, [.slice (some ⟨g, 0, none⟩) rows'.length c], rfl, ?_, rfl, ?_, ?_, ?_, ?_, hv _ _ rfl⟩
 ·exact ⟨hw.os, hw.tape, hw.output, hw.size, fun k hk hx => hw.block k hk (fun e => hx ((ho _ _).2 e)), hw.drawn⟩
 ·intro t ht
  have : t = 0 := by omega
  subst this
  rcases hp with h | h
  ·omega
  ·rw [h]
 ·intro t o h hto hth
  cases t with
  | succ t => simp at hto
  | zero =>
   simp at hto hth
   subst hto hth
   refine ⟨_, c, rfl, hn', hcm, .inr ⟨hc, g, cur', rfl, h1, h2, ?_⟩⟩
   have : Mof M0 [.slice (some ⟨g, 0, none⟩) rows'.length c] = fun k => M0 k ∨ k = g := by
    funext k
    unfold Mof
    rw [ho]
   rw [this]
   exact h3
 ·intro k hk
  have := (ho _ _).1 hk
  subst this
  exact ⟨.inl ((ho _ _).2 rfl), Nat.lt_of_lt_of_le hg.2 hw.size⟩
 ·intro t t' x x' g' h1 h2 _ _
  cases t <;> cases t' <;> simp at h1 h2 ⊢
theorem z9H {w : World} {M0 : Nat → Prop} {e sz : Nat} {v : Value} {enc : α → List Value} (hk : ∀ x, (enc x).length = sz) {d' : Array α} {os : Array Obj} {q g n c p : Nat} {cur : Array Value} {rows' : List (List D)} {r : AV}
  (hg : ¬ M0 g ∧ g < w.heap.size) (hn' : rows'.length ≤ c) (hp : p = 0 ∨ rows'.length = n) (hc : 0 < c) (hcm : c ≤ maxLen)
  (h1 : w.heap[g]? = some (.cells cur e (0, 0))) (h2 : cur.size = c * sz) (hdc : d'.size ≤ c)
  (hrep : ∀ (j : Nat) (x : List D), rows'[j]? = some x → j < d'.size ∧ RepL w (fun k => M0 k ∨ k = g) x (enc d'[j]!))
  (hv : ∀ w' M β, β = [.slice (some ⟨g, 0, none⟩) rows'.length c] → RepV w' M β r v) (hp1 : p ≤ 1) :
  ∃ v' β, Ending.returned v = .returned v' ∧ ResM w (sortWorldK enc sz w g 0 q d' os) M0 [.slice (some ⟨g, 0, none⟩) n c] p r [.row e sz rows'] v' β := by
 show ∃ v' β, Ending.returned v = .returned v' ∧ ResM w (sortWorld id w g 0 q (flatK enc sz d') os) M0 [.slice (some ⟨g, 0, none⟩) n c] p r [.row e sz rows'] v' β
 refine zeC hg hn' hp hc hcm (z2S rfl) (z2d h1) (by rw [z4l]; exact h2) ?_ (fun M β hb => hv _ M β hb) hp1
 refine RepRows.of_get _ _ fun i x hx => ?_
 obtain ⟨hi, hr⟩ := hrep i x hx
 refine ⟨enc d'[i]!, hk _, ?_, RepL.keep (z2Y (.inr rfl)) _ _ hr⟩
 intro j u hu
 have hj : j < sz := by have := (List.getElem?_eq_some_iff.1 hu).1; rwa [hk] at this
 have hat := z2d (enc := id) (off := 0) (m := q) (dk := flatK enc sz d') (os := os) h1
 have hlt : i * sz + j < d'.size * sz := by
  have := Nat.mul_le_mul_right sz (show i + 1 ≤ d'.size from hi)
  rw [Nat.add_mul, Nat.one_mul] at this
  omega
 have hlc : d'.size * sz ≤ c * sz := Nat.mul_le_mul_right sz hdc
 rw [add_lit]
 unfold World.cell?
 simp only [hat]
 rw [show 0 + (0 + i * sz + j) = i * sz + j by omega, z5p id (flatK enc sz d') cur _ (by rw [size_flatK]; exact hlt) (by omega), get_flatK _ _ _ _ hlt]
 have e1 : (i * sz + j) / sz = i := by
  rw [Nat.add_comm, Nat.add_mul_div_right _ _ (by omega), Nat.div_eq_of_lt hj, Nat.zero_add]
 have e2 : (i * sz + j) % sz = j := by
  rw [Nat.add_comm, Nat.add_mul_mod_self_right, Nat.mod_eq_of_lt hj]
 rw [e1, e2]
 show some ((enc d'[i]!)[j]!) = some u
 rw [← hu]
 have := (List.getElem?_eq_some_iff.1 hu).1
 rw [List.getElem?_eq_getElem this, getElem!_pos _ j this]
end Go.Eng
namespace Go.Proofs
open Go.Shelf
def Tryz.laysSlF06_f72_ren : Go.Shelf.Ren := ⟨fun | 6 => 72 | 15 => 111 | 14 => 116 | 28 => 146 | 29 => 147 | 20 => 148 | 21 => 149 | 22 => 150 | 23 => 151 | 24 => 152 | 25 => 153 | 26 => 154 | 27 => 155 | 46 => 176 | 47 => 171 | 48 => 172 | 49 => 177 | 50 => 178 | 57 => 186 | n => n, fun | 22 => 48 | 24 => 142 | 25 => 149 | 3 => 3 | 39 => 193 | 0 => 0 | 53 => 236 | 55 => 238 | 4 => 4 | 46 => 230 | 45 => 229 | 50 => 99 | 5 => 5 | 9 => 9 | 66 => 255 | 70 => 259 | 76 => 269 | 77 => 270 | n => n, fun | n => n⟩
theorem Tryz.laysSlF06_f72 : Go.Proofs.SlLaysF0.n6 Tryz.prog Tryz.laysSlF06_f72_ren := {
 mixed := by kernel_rfl
 f6 := ⟨Tryz.f72.name, by decide, Tryz.func72.trans (congrArg some (by kernel_rfl))⟩
 f14 := ⟨Tryz.f116.name, by decide, Tryz.func116.trans (congrArg some (by kernel_rfl))⟩
 f15 := Tryz.func111.trans (congrArg some (by kernel_rfl))
 f20 := ⟨Tryz.f148.name, by decide, Tryz.func148.trans (congrArg some (by kernel_rfl))⟩
 f21 := ⟨Tryz.f149.name, by decide, Tryz.func149.trans (congrArg some (by kernel_rfl))⟩
 f22 := ⟨Tryz.f150.name, by decide, Tryz.func150.trans (congrArg some (by kernel_rfl))⟩
 f23 := ⟨Tryz.f151.name, by decide, Tryz.func151.trans (congrArg some (by kernel_rfl))⟩
 f24 := ⟨Tryz.f152.name, by decide, Tryz.func152.trans (congrArg some (by kernel_rfl))⟩
 f25 := ⟨Tryz.f153.name, by decide, Tryz.func153.trans (congrArg some (by kernel_rfl))⟩
 f26 := ⟨Tryz.f154.name, by decide, Tryz.func154.trans (congrArg some (by kernel_rfl))⟩
 f27 := ⟨Tryz.f155.name, by decide, Tryz.func155.trans (congrArg some (by kernel_rfl))⟩
 f28 := Tryz.func146.trans (congrArg some (by kernel_rfl))
 f29 := Tryz.func147.trans (congrArg some (by kernel_rfl))
 f46 := ⟨Tryz.f176.name, by decide, Tryz.func176.trans (congrArg some (by kernel_rfl))⟩
 f47 := Tryz.func171.trans (congrArg some (by kernel_rfl))
 f48 := Tryz.func172.trans (congrArg some (by kernel_rfl))
 f49 := ⟨Tryz.f177.name, by decide, Tryz.func177.trans (congrArg some (by kernel_rfl))⟩
 f50 := ⟨Tryz.f178.name, by decide, Tryz.func178.trans (congrArg some (by kernel_rfl))⟩
 f57 := ⟨Tryz.f186.name, by decide, Tryz.func186.trans (congrArg some (by kernel_rfl))⟩
 t0 := Tryz.underlying0
 a0 := Tryz.isAgg0
 z0 := Tryz.sizeOf0
 v0 := Tryz.zeroValue0
 t3 := Tryz.underlying3
 a3 := Tryz.isAgg3
 z3 := Tryz.sizeOf3
 v3 := Tryz.zeroValue3
 t4 := Tryz.underlying4
 a4 := Tryz.isAgg4
 z4 := Tryz.sizeOf4
 v4 := Tryz.zeroValue4
 t5 := Tryz.underlying5
 a5 := Tryz.isAgg5
 z5 := Tryz.sizeOf5
 v5 := Tryz.zeroValue5
 t9 := Tryz.underlying9
 a9 := Tryz.isAgg9
 z9 := Tryz.sizeOf9
 v9 := Tryz.zeroValue9
 t22 := Tryz.underlying48
 a22 := Tryz.isAgg48
 z22 := Tryz.sizeOf48
 v22 := Tryz.zeroValue48
 t25 := Tryz.underlying149
 a25 := Tryz.isAgg149
 z25 := Tryz.sizeOf149
 v25 := Tryz.zeroValue149
 t39 := Tryz.underlying193
 a39 := Tryz.isAgg193
 z39 := Tryz.sizeOf193
 v39 := Tryz.zeroValue193
 t45 := Tryz.underlying229
 a45 := Tryz.isAgg229
 z45 := Tryz.sizeOf229
 v45 := Tryz.zeroValue229
 t46 := Tryz.underlying230
 a46 := Tryz.isAgg230
 z46 := Tryz.sizeOf230
 v46 := Tryz.zeroValue230
 t50 := Tryz.underlying99
 a50 := Tryz.isAgg99
 z50 := Tryz.sizeOf99
 v50 := Tryz.zeroValue99
 t53 := Tryz.underlying236
 a53 := Tryz.isAgg236
 z53 := Tryz.sizeOf236
 v53 := Tryz.zeroValue236
 t55 := Tryz.underlying238
 a55 := Tryz.isAgg238
 z55 := Tryz.sizeOf238
 v55 := Tryz.zeroValue238
 t66 := Tryz.underlying255
 a66 := Tryz.isAgg255
 z66 := Tryz.sizeOf255
 v66 := Tryz.zeroValue255
 t70 := Tryz.underlying259
 a70 := Tryz.isAgg259
 z70 := Tryz.sizeOf259
 v70 := Tryz.zeroValue259
 t76 := Tryz.underlying269
 a76 := Tryz.isAgg269
 z76 := Tryz.sizeOf269
 v76 := Tryz.zeroValue269
 t77 := Tryz.underlying270
 a77 := Tryz.isAgg270
 z77 := Tryz.sizeOf270
 v77 := Tryz.zeroValue270 }
open Go.RowKit Go.Lib Go.Sort in
theorem Tryz.slices_SortFunc {α : Type} [Inhabited α] (k : Nat) (aE : ∀ w, (isAgg 142).run Tryz.prog w = .ok true w) (zE : ∀ w, (Go.sizeOf 142).run Tryz.prog w = .ok k w) (enc : α → List Value) (hk : ∀ x, (enc x).length = k) (h1 : ∀ x, ∀ v ∈ enc x, v.oneCell' = true) (cf : α → α → Int) (hO : SWO (ltOf cf)) (g : Nat) (cb : Array Value) (blk off cap : Nat) (d : Array α) (w : World) (eg : ∀ args w, (callFunc g args).run Tryz.prog w = .ok (.enter g args) w) (hcmp : CmpLays Tryz.prog g cb enc k cf blk off d.size w) (hH : HoldsK enc k w blk off d) (hblk : blk < w.heap.size) (hsz : d.size < 4611686018427387904) :
  Calls Tryz.prog 72 #[.slice (some ⟨blk, off, none⟩) d.size cap, .func (.func g) #[] cb] w fun e w' =>
   e = .returned (.tuple #[]) ∧ ∃ d' n os, PermIn 0 d.size d d' ∧ SortedIn (ltOf cf) 0 d.size d' ∧ w' = sortWorldK enc k w blk off n d' os := AnyQ.slices_SortFunc Tryz.laysSlF06_f72 k aE zE enc hk h1 cf hO g cb blk off cap d w eg hcmp hH hblk hsz
open Go.RowKit Go.Lib Go.Sort in
theorem Tryz.slices_SortFunc_none_f72 {α : Type} [Inhabited α] (p : Option Addr) (cap : Nat) (fv : Value) (w : World) :
  Calls Tryz.prog 72 #[.slice p 0 cap, fv] w fun e w' => e = .returned (.tuple #[]) ∧ w' = w := AnyF.slices_SortFunc_none Tryz.laysSlF06_f72 p cap fv w
end Go.Proofs
set_option linter.unusedSimpArgs false
set_option linter.unusedVariables false
namespace Go.Proofs.YtkjllcmpjghmkaaGreatDoor
open Go.RowKit Go.Eng Go.Sort Go.Lib Go.Proofs
instance : Inhabited Rmv := ⟨Rmv.no⟩
def rmV (r : Rmv) : List Value := [.int .i64 r.st, .int .i64 r.rk, .int .i64 r.re, .int .i64 r.ev]
theorem z3n (r : Rmv) : (rmV r).length = 4 := rfl
theorem zio (r : Rmv) : ∀ v ∈ rmV r, v.oneCell' = true := by
 intro v hv
 simp only [rmV, List.mem_cons, List.not_mem_nil, or_false] at hv
 rcases hv with rfl | rfl | rfl | rfl <;> rfl
theorem zin (w : World) (M : Nat → Prop) (r : Rmv) : RepL w M [.unk, .unk, .unk, .unk] (rmV r) := ⟨_, _, rfl, rfl, _, _, rfl, rfl, _, _, rfl, rfl, _, _, rfl, rfl, rfl⟩
theorem zcd (w : World) (M : Nat → Prop) (β : List Value) (r : Rmv) : RepCL w M β r.d (rmV r) := by
 refine ⟨rfl, fun i d u h1 h2 => ?_⟩
 match i, h1, h2 with
 | 0, h1, h2 => cases h1; cases h2; rfl
 | 1, h1, h2 => cases h1; cases h2; rfl
 | 2, h1, h2 => cases h1; cases h2; rfl
 | 3, h1, h2 => cases h1; cases h2; rfl
 | n + 4, h1, h2 => cases h1
theorem zjr {w : World} {M : Nat → Prop} {r : Rmv} {us : List Value} (h : RepL w M r.d us) : us = rmV r := by
 obtain ⟨a, r1, rfl, h1, b, r2, rfl, h2, c, r3, rfl, h3, d, r4, rfl, h4, h5⟩ := h
 obtain rfl : a = _ := h1
 obtain rfl : b = _ := h2
 obtain rfl : c = _ := h3
 obtain rfl : d = _ := h4
 obtain rfl : r4 = [] := h5
 rfl
def zay (z : Int) : Int := if 0 ≤ z ∧ z ≤ 4096 then z else 0
theorem z8h (z : Int) : 0 ≤ zay z ∧ zay z ≤ 4096 := by
 unfold zay
 split <;> omega
def rmC (r : Rmv) : Rmv := ⟨zay r.st, r.rk, r.re, r.ev⟩
theorem zjs {r : Rmv} (h : 0 ≤ r.st ∧ r.st ≤ 4096) : rmC r = r := by
 rw [rmC, zay, if_pos h]
def cmpR (x y : Rmv) : Int := (rmC x).st - (rmC y).st
theorem zhy : SWO (ltOf cmpR) := by
 have e : ltOf cmpR = fun x y => decide ((rmC x).st < (rmC y).st) := by
  funext x y
  exact decide_eq_decide.2 (by unfold cmpR; omega)
 rw [e]
 refine ⟨fun x => by simp, fun x y z h k => ?_, fun x y z h k => ?_⟩
 ·simp only [decide_eq_true_eq] at *
  omega
 ·simp only [decide_eq_false_iff_not] at *
  omega
set_option maxHeartbeats 4000000 in
theorem z9G (x y : Rmv) (hx : 0 ≤ x.st ∧ x.st ≤ 4096) (hy : 0 ≤ y.st ∧ y.st ≤ 4096) : ACalls Tryz.prog 73 [.agg x.d, .agg y.d] (.one (.int .i64 (x.st - y.st))) [] := by
 (refine ACalls.of_body Ty_ok mixed Tryz.func73 rfl (by kernel_rfl) Tryz.ntmps73 (by simp) (congrArg Array.toList Tryz.results73) ?_)
 simp only [z00, Rmv.d]
 (repeat' (first | (with_reducible first | refine And.intro ?_ ?_ | (refine aS 5 [] ?_; intro K hK)) | ((with_reducible refine aGo ?_); simp only [go_sem]) | ((iterate 6 try ((fail_if_success with_reducible refine hK _ ?_ ?_ ?_); clear hK K)); with_reducible refine hK _ ?_ ?_ ?_; rotate_left; (focus (simp only [go_sem]; exact rfl)); clear hK K) | exact aZ | fail))
 all_goals first | omega | skip
theorem zeA {w : World} {M : Nat → Prop} {g c : Nat} {e : TypeId} {cur : Array Value} {l : List Rmv} (hl : ∀ r ∈ l, 0 ≤ r.st ∧ r.st ≤ 4096) (h5 : w.heap[g]? = some (.cells cur e (0, 0))) (h7 : RepRows w M ⟨g, 0, none⟩ 4 0 (rmvsD l)) :
  ∀ t, t < l.toArray.size * 4 → cur[t]? = some (rmV (rmC (l.toArray)[t / 4]!))[t % 4]! := by
 intro t ht
 have hj : t / 4 < l.length := by simp at ht; omega
 obtain ⟨us, q1, q2, q3⟩ := RepRows.get (rmvsD l) 0 h7 (t / 4) l[t / 4].d (by simp [rmvsD, List.getElem?_eq_getElem hj])
 obtain rfl := zjr q3
 have hm : t % 4 < 4 := Nat.mod_lt _ (by decide)
 have := q2 (t % 4) (rmV l[t / 4])[t % 4]! (by rw [List.getElem?_eq_getElem (by rw [z3n]; exact hm), getElem!_pos _ _ (by rw [z3n]; exact hm)])
 rw [add_lit] at this
 unfold World.cell? at this
 simp only [h5] at this
 rw [show 0 + (0 + t / 4 * 4 + t % 4) = t by omega] at this
 have h8 : cur[t]? = some ((rmV l[t / 4])[t % 4]!) := this
 rw [h8, List.getElem!_toArray, getElem!_pos l (t / 4) hj, zjs (hl _ (List.getElem_mem hj))]
theorem rms_holds {w : World} {M : Nat → Prop} {g : Nat} {e : TypeId} {cur : Array Value} {l : List Rmv} (hl : ∀ r ∈ l, 0 ≤ r.st ∧ r.st ≤ 4096) (h5 : w.heap[g]? = some (.cells cur e (0, 0))) (h7 : RepRows w M ⟨g, 0, none⟩ 4 0 (rmvsD l)) : HoldsK (fun r => rmV (rmC r)) 4 w g 0 l.toArray :=
 z6M h5 (zeA (c := 0) hl h5 h7)
theorem zgf (l : List Rmv) (hl : ∀ r ∈ l, 0 ≤ r.st ∧ r.st ≤ 4096) (hn : l.length ≤ 1000000000) : MCalls Tryz.prog 72 1 [.row 142 4 (rmvsD l)] [.one (.own 0), .one (.clo 73 [])] (.tup []) [.row 142 4 (List.replicate l.length [.unk, .unk, .unk, .unk])] := by
 refine ⟨by kernel_rfl, rfl, fun w M0 F vs hM hp hv => ?_⟩
 obtain ⟨v, u, rfl, hv1, cvs, rfl, hcl, hcr⟩ := zjj hv
 obtain rfl : cvs = [] := List.length_eq_zero_iff.1 hcl.symm
 obtain ⟨A, c, rfl, rfl, h2, h3, h4⟩ := zil hp hv1
 have hel : ∀ l : List Rmv, (rmvsD l).length = l.length := fun l => by simp [rmvsD]
 rw [hel] at *
 by_cases h0 : l = []
 ·subst h0
  refine (Tryz.slices_SortFunc_none_f72 (α := Rmv) A c _ w).mono ?_
  rintro e w' ⟨rfl, rfl⟩
  exact zgN hp ⟨[], rfl, rfl⟩
 have hpos : 0 < l.length := List.length_pos_iff.2 h0
 rcases h4 with h4 | ⟨hc0, g, cur, rfl, hg, h5, h6, h7, h8⟩
 ·omega
 have hMg : Mof M0 [.slice (some ⟨g, 0, none⟩) l.length c] g := (h8 g).2 (.inr rfl)
 have hM1 := zh1 hM (ziH hM hp) fun g h => h
 have hok := (z9G Rmv.no Rmv.no ⟨by decide, by decide⟩ ⟨by decide, by decide⟩).ok
 have hcmp : CmpLays Tryz.prog 73 #[] (fun r => rmV (rmC r)) 4 cmpR g 0 l.toArray.size w := by
  intro m os dk hs x y
  have h := (z9G (rmC x) (rmC y) (z8h _) (z8h _)).run (sortWorldK (fun r => rmV (rmC r)) 4 w g 0 m dk os) _ [.agg (rmV (rmC x)).toArray, .agg (rmV (rmC y)).toArray] (zdt (enc := id) (dk := flatK (fun r => rmV (rmC r)) 4 dk) hM1 hMg) ⟨_, _, rfl, ⟨_, rfl, zcd _ _ _ (rmC x)⟩, _, _, rfl, ⟨_, rfl, zcd _ _ _ (rmC y)⟩, rfl⟩
  refine h.mono ?_
  rintro e w' ⟨v, β, rfl, hr⟩
  have : v = .int .i64 (cmpR x y) := hr.val
  obtain ⟨q, os', e'⟩ := z91 hr.below
  exact ⟨by rw [this], q, os', e'⟩
 have hS := Tryz.slices_SortFunc 4 (fun w => by kernel_rfl) (fun w => by kernel_rfl) (fun r => rmV (rmC r)) (fun r => z3n _) (fun r => zio _) cmpR zhy 73 #[] g 0 c l.toArray w (zdo hok) hcmp (rms_holds hl h5 h7) hg.2 (by simp; omega)
 simp only [List.size_toArray] at hS
 refine hS.mono ?_
 rintro e w' ⟨rfl, d', q, os, hP, hSo, rfl⟩
 have hsz : d'.size = l.length := by rw [hP.1]; simp
 refine z9H (enc := fun r => rmV (rmC r)) (fun r => z3n _) (d' := d') (q := q) (os := os) hg (by simp; omega) (.inr (by simp)) hc0 h3 h5 h6 (by omega) (fun j x hx => ?_) (fun _ _ _ _ => ⟨[], rfl, rfl⟩) (Nat.le_refl _)
 rw [List.getElem?_replicate] at hx
 split at hx
 ·cases hx
  exact ⟨by omega, zin _ _ _⟩
 ·cases hx
end Go.Proofs.YtkjllcmpjghmkaaGreatDoor
