/-
 SiphonDead: all weights made 1 (by hand, over segments of the engine).
-/
import Derived.Test.YtljpfdehnjemlaaDoorWY
import Derived.Test.YtljpfdehnjemlaaDoorWM
import Derived.Test.YtljpfdehnjemlaaDoorWP
set_option linter.unusedSimpArgs false
set_option linter.unusedVariables false
namespace Go.Proofs.YtljpfdehnjemlaaDoor
open Go.Eng Go.RowKit
/-! the first weights made 1 -/
def oneK (k : Nat) (l : List Arc) : List Arc := (List.range l.length).map fun j => if j < k then ⟨(l.getD j Arc.no).place, 1⟩ else l.getD j Arc.no
def oneA (l : List Arc) : List Arc := oneK l.length l
theorem oneK_length (k : Nat) (l : List Arc) : (oneK k l).length = l.length := by simp [oneK]
theorem oneK_get {k j : Nat} {l : List Arc} (h : j < l.length) : (oneK k l).getD j Arc.no = if j < k then ⟨(l.getD j Arc.no).place, 1⟩ else l.getD j Arc.no := by
 simp only [oneK, List.getD, List.getElem?_map, List.getElem?_range h, Option.map_some, Option.getD_some]
theorem oneK_zero (l : List Arc) : oneK 0 l = l := by
 apply List.ext_getElem
 ·simp [oneK]
 ·intro k h1 h2; simp [oneK, List.getD, List.getElem?_eq_getElem h2]
theorem oneK_set {l : List Arc} {k : Nat} (h : k < l.length) : (arcsD (oneK k l)).set k [.int .i64 (l.getD k Arc.no).place, .int .i64 1] = arcsD (oneK (k + 1) l) := by
 apply List.ext_getElem
 ·simp [arcsD, oneK]
 ·intro j h1 h2
  have hj : j < l.length := by simpa [arcsD, oneK] using h2
  rw [List.getElem_set]
  simp only [arcsD, oneK, List.getElem_map, List.getElem_range]
  by_cases e : k = j
  ·subst e
   rw [if_pos rfl, if_pos (by omega)]; rfl
  ·rw [if_neg e]
   by_cases e2 : j < k
   ·rw [if_pos e2, if_pos (by omega)]
   ·rw [if_neg e2, if_neg (by omega)]
theorem bytesD_flat (n : Nat) (s : Nat → Int) : (bytesD n s).all D.flat = true := by
 simp only [bytesD, List.all_map, List.all_eq_true]; intro x _; rfl
theorem rawT_at (s : Nat → Int) (z : List D) : ∀ (l : List (Value × Value)) (j i : Nat) (p : Value × Value), l[i]? = some p → (rawT s j l).getD i z = [.int .i64 (s (7 + (j + i)) % 5), .raw p.1, .raw p.2]
 | [], _, _, _, h => by cases h
 | q :: r, j, 0, p, h => by cases h; rfl
 | q :: r, j, i + 1, p, h => by
  rw [rawT, List.getD_cons_succ, rawT_at s z r (j + 1) i p h, show j + 1 + i = j + (i + 1) by omega]
def arcI (s : Nat → Int) (j : Nat) : List Arc := arcsL (inW s j) (np s)
def arcO (s : Nat → Int) (j : Nat) : List Arc := arcsL (outW s j) (np s)
def dnA (b : Bool) (l : List Arc) : List Arc := if b = true then oneA l else l
def lwH (s : Nat → Int) (p : List (Value × Value)) : List AObj := [.var 25 (bytesD 37 s), .row 3 1 (ints (initL s (np s))), .row 34 3 (rawT s 0 p), .var 30 [.own 1, .own 2]]
def lwS (i n : Nat) : List (Nat × AV) := [(33, .one (.int .i64 i)), (32, .one (.int .i64 n)), (3, .one (.vp 3 0)), (2, .one (.bool false)), (1, .one (.vp 0 0))]
structure LawAt (w0 : World) (M0 : Nat → Prop) (s : Nat → Int) (p : List (Value × Value)) (i : Nat) (a : Act) (w : World) (β : List Value) : Prop where
 sim : Sim w (fun g => M0 g ∨ inBk (flatP p) g) β ⟨185, lwS i p.length, lwH s p, 0⟩ a w β
 below : Eng.Below w0.heap.size w0 w
 inn : ∀ (j : Nat) (z : Value × Value), p[j]? = some z → InnAt w z.1 (dnA (decide (j < i)) (arcI s j)) ∧ InnAt w z.2 (dnA (decide (j < i)) (arcO s j))
 freshB : ∀ g, owned β g → w0.heap.size ≤ g
theorem ApartL.sep {l r : List Value} (h : ApartL (l ++ r)) {g : Nat} (hr : inBk r g) : ¬ inBk l g := by
 rintro ⟨x, hx, hxg⟩
 obtain ⟨y, hy, hyg⟩ := hr
 obtain ⟨i, hi, rfl⟩ := List.getElem_of_mem hx
 obtain ⟨j, hj, rfl⟩ := List.getElem_of_mem hy
 have := h i (l.length + j) _ _ g (by rw [List.getElem?_append_left hi]; exact List.getElem?_eq_getElem hi) (by rw [List.getElem?_append_right (by omega), Nat.add_sub_cancel_left]; exact List.getElem?_eq_getElem hj) hxg hyg
 omega
theorem ApartL.right {l r : List Value} (h : ApartL (l ++ r)) : ∀ (t t' : Nat) (x x' : Value) (g : Nat), r[t]? = some x → r[t']? = some x' → hblk x = some g → hblk x' = some g → t = t' := by
 intro t t' x x' g h1 h2 h3 h4
 have := h (l.length + t) (l.length + t') x x' g (by rw [List.getElem?_append_right (by omega), Nat.add_sub_cancel_left]; exact h1) (by rw [List.getElem?_append_right (by omega), Nat.add_sub_cancel_left]; exact h2) h3 h4
 omega
theorem ApartL.left {l r : List Value} (h : ApartL (l ++ r)) : ApartL l := by
 intro t t' x x' g h1 h2 h3 h4
 exact h t t' x x' g (by rw [List.getElem?_append_left (List.getElem?_eq_some_iff.1 h1).1]; exact h1) (by rw [List.getElem?_append_left (List.getElem?_eq_some_iff.1 h2).1]; exact h2) h3 h4
theorem flatP_at : ∀ (p : List (Value × Value)) (j : Nat) (z : Value × Value), p[j]? = some z → (flatP p)[2 * j]? = some z.1 ∧ (flatP p)[2 * j + 1]? = some z.2
 | [], _, _, h => by cases h
 | q :: r, 0, z, h => by cases h; exact ⟨rfl, rfl⟩
 | q :: r, j + 1, z, h => by
  have ih := flatP_at r j z h
  rw [show 2 * (j + 1) = 2 * j + 2 by omega, show 2 * j + 2 + 1 = (2 * j + 1) + 2 by omega]
  exact ih
theorem inBk_at {p : List (Value × Value)} {j : Nat} {z : Value × Value} (h : p[j]? = some z) {g : Nat} (hg : hblk z.1 = some g ∨ hblk z.2 = some g) : inBk (flatP p) g := by
 obtain ⟨h1, h2⟩ := flatP_at p j z h
 rcases hg with hg | hg
 ·exact ⟨z.1, List.mem_of_getElem? h1, hg⟩
 ·exact ⟨z.2, List.mem_of_getElem? h2, hg⟩
theorem owned_in {l : List Value} {g : Nat} (h : owned l g) : inBk l g := by
 obtain ⟨t, x, h1, h2⟩ := h
 exact ⟨x, List.mem_of_getElem? h1, h2⟩
structure InAt (wA : World) (M1 : Nat → Prop) (F : List Value) (σ : Nat → AState) (n : Nat) (a : Act) (w : World) : Prop where
 ex : ∃ k, k ≤ n ∧ SimS wA M1 F (σ k) a w
theorem oneA_map (l : List Arc) : oneA l = l.map fun a => ⟨a.place, 1⟩ := by
 apply List.ext_getElem
 ·simp [oneA, oneK]
 ·intro k h1 h2
  have hk : k < l.length := by simpa using h2
  simp [oneA, oneK, List.getD, List.getElem?_eq_getElem hk, hk]
def oneN (n : Net) : Net := ⟨n.init, n.trs.map fun t => ⟨t.event, oneA t.inn, oneA t.out⟩⟩
theorem one_arcs {k : Nat} {l : List Arc} (h : ArcsIn k l) : ArcsIn k (oneA l) := by
 rw [oneA_map]
 refine ⟨fun a ha => ?_, fun a ha => ?_, ?_⟩
 ·obtain ⟨b, hb, rfl⟩ := List.mem_map.1 ha; exact h.place b hb
 ·obtain ⟨b, hb, rfl⟩ := List.mem_map.1 ha; exact ⟨Int.le_refl 1, by show (1 : Int) ≤ 8; decide⟩
 ·rw [List.pairwise_map]; exact h.ord
theorem one_ok {n : Net} (h : NetOk n) : NetOk (oneN n) := by
 refine ⟨h.init, h.tok, by simp only [oneN, List.length_map]; exact h.trs, fun t ht => ?_, fun t ht => ?_, fun t ht => ?_⟩ <;> obtain ⟨u, hu, rfl⟩ := List.mem_map.1 ht
 ·exact h.ev u hu
 ·exact one_arcs (h.inn u hu)
 ·exact one_arcs (h.out u hu)
theorem one_ones (n : Net) : Ones (oneN n) := fun t ht a ha => by
 obtain ⟨u, hu, rfl⟩ := List.mem_map.1 ht
 rw [oneA_map] at ha
 obtain ⟨b, _, rfl⟩ := List.mem_map.1 ha
 rfl
def trR (s : Nat → Int) : Nat → List (Value × Value) → List Tr
 | _, [] => []
 | j, _ :: r => ⟨s (7 + j) % 5, oneA (arcI s j), oneA (arcO s j)⟩ :: trR s (j + 1) r
theorem trR_eq (s : Nat → Int) : ∀ (p : List (Value × Value)) (j : Nat), trR s j p = (List.range' j p.length).map fun i => ⟨s (7 + i) % 5, oneA (arcI s i), oneA (arcO s i)⟩
 | [], _ => rfl
 | q :: r, j => by rw [trR, trR_eq s r (j + 1), List.length_cons, List.range'_succ, List.map_cons]
theorem trR_net (s : Nat → Int) {p : List (Value × Value)} (h : p.length = nt s) : trR s 0 p = (oneN (makeNet s)).trs := by
 rw [trR_eq, h, ← List.range_eq_range', oneN, makeNet, trsL, List.map_map]
 rfl
theorem inn_list {w : World} {M : Nat → Prop} {v : Value} {l : List Arc} (h : InnAt w v l) (hM : ∀ g, hblk v = some g → g < w.heap.size ∧ ¬ M g) : RepD w M (.list (arcsD l)) v := by
 obtain ⟨A, c, rfl, h2, h3, h4⟩ := row_flat (M' := M) (β' := []) (arcs_flat9 l) (fun _ _ => rfl) h
 refine ⟨A, c, rfl, h2, h3, ?_⟩
 rcases h4 with rfl | ⟨hc, g, cur, rfl, q1, q2, q3⟩
 ·exact .inl (List.eq_nil_of_length_eq_zero (by omega))
 ·have := hM g (hblk_row hc)
  exact .inr ⟨⟨g, 0, none⟩, 2, rfl, this.1, this.2, q3⟩
theorem raw_rows {w : World} {M M' : Nat → Prop} {s : Nat → Int} {ad : Addr} : ∀ (p : List (Value × Value)) (j o : Nat), (∀ (i : Nat) (z : Value × Value), p[i]? = some z → RepD w M' (.list (arcsD (oneA (arcI s (j + i))))) z.1 ∧ RepD w M' (.list (arcsD (oneA (arcO s (j + i))))) z.2) → RepRows w M ad 3 o (rawT s j p) → RepRows w M' ad 3 o (trsD (trR s j p))
 | [], _, _, _, _ => trivial
 | q :: r, j, o, h, hr => by
  obtain ⟨⟨vs, h1, h2, h3⟩, h4⟩ := hr
  obtain ⟨x1, r1, rfl, y1, x2, r2, rfl, y2, x3, r3, rfl, y3, rfl⟩ := h3
  obtain ⟨z1, z2⟩ := h 0 q rfl
  refine ⟨⟨_, h1, h2, _, _, rfl, y1, _, _, rfl, ?_, _, _, rfl, ?_, rfl⟩, raw_rows r (j + 1) (o + 3) (fun i z hz => ?_) h4⟩
  ·rw [y2.1]; exact z1
  ·rw [y3.1]; exact z2
  ·have := h (i + 1) z hz
   rw [show j + 1 + i = j + (i + 1) by omega]
   exact this
set_option maxHeartbeats 16000000 in
theorem law_one (s : Nat → Int) (hs : Bytes s) (w0 : World) (M : Nat → Prop) (vs : List Value) (hM : MOk w0 M []) (hv : RepVL w0 M [] [.agg (bytesD 37 s)] vs) :
  Calls Tryd.prog 3 ⟨vs⟩ w0 fun e w' => ∃ v β, e = .returned v ∧ Res w0 w' M (.one (.bool true)) [] v β := by
 have hK := known_c
 refine calls_sem Tryd.func3 rfl Tryd.ntmps3 (by simp) (congrArg Array.toList Tryd.results3) hM hv ?_
 intro a Q h0 hQ
 refine wp_seq (seg Ty_ok mixed (s1 := ⟨185, [(2, .one (.bool false)), (1, .one (.vp 0 0))], [.var 25 (bytesD 37 s)], 0⟩) h0 ?_ fun a1 w1 h1 => ?_)
 ·simp only [slotsOf]
  (repeat' (first | (with_reducible first | exact True.intro | refine And.intro ?_ ?_ | refine aBl ?_ | (refine aS 16 [32, 42, 43, 62, 63, 33, 101, 100, 107, 106, 108, 102, 17, 18, 20, 19, 167, 166, 22, 25, 24, 168] ?_; intro K hK)) | ((with_reducible first | refine aGo ?_); simp only [go_sem]) | ((with_reducible refine aCd ?_ ?_ (fun hb => ?_) (fun hb => ?_)); (iterate 2 simp only [go_sem]); all_goals (simp only [go_sem] at hb; try simp only [bls] at hb)) | ((iterate 6 try ((fail_if_success with_reducible refine hK _ ?_ ?_ ?_); clear hK K)); with_reducible refine hK _ ?_ ?_ ?_; rotate_left; (focus (simp only [go_sem]; exact rfl)); clear hK K) | (with_reducible refine aGs (fun hg0 => ?_) (fun hg0 => ?_) <;> first | (with_reducible first | exact aF1 hg0 | exact aF2 hg0) | (simp only [hg0, go_sem])) | (with_reducible refine aNk ?_; intro bnil hnil; try simp only []) | exact aZ | fail))
  simp only [ends]
  (simp only [SubF, go_sem]; (try simp only [go_sem]); repeat' (first | exact True.intro | with_reducible refine And.intro ?_ ?_ | rfl | omega))
 refine wp_seq (seg Ty_ok mixed (s1 := ⟨185, [(2, .one (.bool false)), (1, .one (.vp 0 0))], [.var 25 (bytesD 37 s)], 0⟩) h1 ?_ fun a2 w2 h2 => ?_)
 ·(repeat' (first | (with_reducible first | exact True.intro | refine And.intro ?_ ?_ | refine aBl ?_ | (refine aS 16 [32, 42, 43, 62, 63, 33, 101, 100, 107, 106, 108, 102, 17, 18, 20, 19, 167, 166, 22, 25, 24, 168] ?_; intro K hK)) | ((with_reducible first | refine aGo ?_); simp only [go_sem]) | ((with_reducible refine aCd ?_ ?_ (fun hb => ?_) (fun hb => ?_)); (iterate 2 simp only [go_sem]); all_goals (simp only [go_sem] at hb; try simp only [bls] at hb)) | ((iterate 6 try ((fail_if_success with_reducible refine hK _ ?_ ?_ ?_); clear hK K)); with_reducible refine hK _ ?_ ?_ ?_; rotate_left; (focus (simp only [go_sem]; exact rfl)); clear hK K) | ((first | (with_reducible first | refine cA (known_c) ?_ | refine cD (known_c) ?_ | refine cO (known_c) ?_ | refine cR (known_c) ?_ | refine cG (fun hg => (known_c)) ?_ | refine cH (fun hg => (known_c)) ?_ | refine cM (fun hg => (known_c)) ?_) | ((with_reducible refine gA ?_); refine cA (known_c) ?_) | ((with_reducible refine gD ?_); refine cD (known_c) ?_) | ((with_reducible refine gG ?_); refine cG (fun hg => (known_c)) ?_)); simp only [go_sem]) | (with_reducible refine aGs (fun hg0 => ?_) (fun hg0 => ?_) <;> first | (with_reducible first | exact aF1 hg0 | exact aF2 hg0) | (simp only [hg0, go_sem])) | (with_reducible refine aNk ?_; intro bnil hnil; try simp only []) | exact aZ | fail))
  all_goals first | omega | skip
  simp only [awp, ends]
  (simp only [SubF, go_sem]; (try simp only [go_sem]); repeat' (first | exact True.intro | with_reducible refine And.intro ?_ ?_ | rfl | omega))
 refine wp_seq (region_split Ty_ok (s1 := ⟨185, [(28, .agg (bytesD 37 s)), (2, .one (.bool false)), (1, .one (.vp 0 0))], [.var 25 (bytesD 37 s)], 0⟩) 1 h2 ?_ fun a3 w3 h3 => ?_)
 ·simp only [List.take_succ_cons, List.take_zero, go_sem]
  (repeat' (first | (with_reducible first | exact True.intro | refine And.intro ?_ ?_ | refine aBl ?_ | (refine aS 16 [32, 42, 43, 62, 63, 33, 101, 100, 107, 106, 108, 102, 17, 18, 20, 19, 167, 166, 22, 25, 24, 168] ?_; intro K hK)) | ((with_reducible first | refine aGo ?_); simp only [go_sem]) | ((with_reducible refine aCd ?_ ?_ (fun hb => ?_) (fun hb => ?_)); (iterate 2 simp only [go_sem]); all_goals (simp only [go_sem] at hb; try simp only [bls] at hb)) | ((iterate 6 try ((fail_if_success with_reducible refine hK _ ?_ ?_ ?_); clear hK K)); with_reducible refine hK _ ?_ ?_ ?_; rotate_left; (focus (simp only [go_sem]; exact rfl)); clear hK K) | (with_reducible refine aGs (fun hg0 => ?_) (fun hg0 => ?_) <;> first | (with_reducible first | exact aF1 hg0 | exact aF2 hg0) | (simp only [hg0, go_sem])) | (with_reducible refine aNk ?_; intro bnil hnil; try simp only []) | exact aZ | fail))
  (simp only [SubF, go_sem]; (try simp only [go_sem]); repeat' (first | exact True.intro | with_reducible refine And.intro ?_ ?_ | rfl | omega))
 simp only [List.drop_succ_cons, List.drop_zero]
 obtain ⟨β3, h3⟩ := h3
 have hl3 : β3.length = 1 := h3.len
 refine call_step h3 (f := 5) (us := [.agg (bytesD 37 s)]) (d := 29) (R := fun e w' => ∃ p x1 x2, e = .returned (.agg ⟨[x1, x2]⟩) ∧ MadeAt w3 w' s p x1 x2) rfl rfl rfl (by simp only [go_sem]) (by simp only [go_sem]) (by kernel_rfl) (fun vs3 hvs => Make_w s hs w3 (Mof M β3) vs3 (h3.mok_of (fun _ h => h) fun g hg => (owned_nil hg).elim) ?_) (fun e w' he => ?_) (fun v w4 he => ?_)
 ·obtain ⟨v, rest, rfl, ⟨us, rfl, hu⟩, hr⟩ := hvs
  exact ⟨_, _, rfl, ⟨us, rfl, repCL_flat hu (bytesD_flat 37 s)⟩, hr⟩
 ·obtain ⟨p, x1, x2, rfl, _⟩ := he
  exact ⟨_, rfl⟩
 obtain ⟨p, x1, x2, hv4, hm⟩ := he
 cases hv4
 have hfrX : ∀ g, inBk (flatP p) g → inBk (flatP p ++ [x1, x2]) g := fun g hg => inBk_snoc.2 (.inl (.inl hg))
 have hfrN : ∀ g, owned [x1, x2] g → inBk (flatP p ++ [x1, x2]) g := fun g hg => by
  obtain ⟨x, hx, h⟩ := owned_in hg
  exact ⟨x, List.mem_append.2 (.inr hx), h⟩
 have hg := h3.gain rfl hm.below (X := inBk (flatP p)) (ns := [x1, x2]) (Hn := [.row 3 1 (ints (initL s (np s))), .row 34 3 (rawT s 0 p)]) (fun g hg => hm.fresh g (hfrX g hg)) rfl (fun g hg => hm.fresh g (hfrN g hg)) (fun g hg => hm.apart.sep (owned_in hg)) hm.apart.right (fun t o x q1 q2 M β => by
  match t, q1, q2 with
  | 0, q1, q2 => cases q1; cases q2; exact row_flat (fun r hr => by obtain ⟨z, _, rfl⟩ := List.mem_map.1 hr; rfl) (fun _ _ => rfl) hm.rowI
  | 1, q1, q2 => cases q1; cases q2; exact row_flat (rawT_flat s p 0) (fun _ _ => rfl) hm.rowT)
 have hone : x1.oneCell' = true ∧ x2.oneCell' = true := by
  obtain ⟨A, c, e1, _⟩ := hm.rowI
  obtain ⟨A2, c2, e2, _⟩ := hm.rowT
  exact ⟨by rw [e1]; rfl, by rw [e2]; rfl⟩
 have hp := hg.put (d := 29) (v := .agg [.own 1, .own 2]) (x := .agg ⟨[x1, x2]⟩) (by simp) ⟨[x1, x2], rfl, rfl, fun i d u q1 q2 => by
  match i, q1, q2 with
  | 0, q1, q2 => cases q1; cases q2; exact ⟨.inl (by rw [List.getElem?_append_right (by omega), hl3]; rfl), hone.1⟩
  | 1, q1, q2 => cases q1; cases q2; exact ⟨.inl (by rw [List.getElem?_append_right (by omega), hl3]; rfl), hone.2⟩⟩
 have hlt := rawT_length s p 0
 refine ops_rest Ty_ok (s1 := ⟨185, [(3, .one (.vp 3 0)), (2, .one (.bool false)), (1, .one (.vp 0 0))], lwH s p, 0⟩) ⟨_, hp⟩ ?_ fun a5 w5 h5 => ?_
 ·simp only [AState.put, List.cons_append, List.nil_append, lwH, go_sem]
  (repeat' (first | (with_reducible first | exact True.intro | refine And.intro ?_ ?_ | refine aBl ?_ | (refine aS 16 [32, 42, 43, 62, 63, 33, 101, 100, 107, 106, 108, 102, 17, 18, 20, 19, 167, 166, 22, 25, 24, 168] ?_; intro K hK)) | ((with_reducible first | refine aGo ?_); simp only [go_sem]) | ((with_reducible refine aCd ?_ ?_ (fun hb => ?_) (fun hb => ?_)); (iterate 2 simp only [go_sem]); all_goals (simp only [go_sem] at hb; try simp only [bls] at hb)) | ((iterate 6 try ((fail_if_success with_reducible refine hK _ ?_ ?_ ?_); clear hK K)); with_reducible refine hK _ ?_ ?_ ?_; rotate_left; (focus (simp only [go_sem]; exact rfl)); clear hK K) | (with_reducible refine aGs (fun hg0 => ?_) (fun hg0 => ?_) <;> first | (with_reducible first | exact aF1 hg0 | exact aF2 hg0) | (simp only [hg0, go_sem])) | (with_reducible refine aNk ?_; intro bnil hnil; try simp only []) | exact aZ | fail))
  (simp only [SubF, go_sem]; (try simp only [go_sem]); repeat' (first | exact True.intro | with_reducible refine And.intro ?_ ?_ | rfl | omega))
 refine wp_seq (wp_seq (seg Ty_ok mixed (s1 := ⟨185, lwS 0 p.length, lwH s p, 0⟩) h5 ?_ fun a6 w6 h6 => ?_))
 ·simp only [lwH, lwS]
  (repeat' (first | (with_reducible first | exact True.intro | refine And.intro ?_ ?_ | refine aBl ?_ | (refine aS 16 [32, 42, 43, 62, 63, 33, 101, 100, 107, 106, 108, 102, 17, 18, 20, 19, 167, 166, 22, 25, 24, 168] ?_; intro K hK)) | ((with_reducible first | refine aGo ?_); simp only [go_sem]) | ((with_reducible refine aCd ?_ ?_ (fun hb => ?_) (fun hb => ?_)); (iterate 2 simp only [go_sem]); all_goals (simp only [go_sem] at hb; try simp only [bls] at hb)) | ((iterate 6 try ((fail_if_success with_reducible refine hK _ ?_ ?_ ?_); clear hK K)); with_reducible refine hK _ ?_ ?_ ?_; rotate_left; (focus (simp only [go_sem]; exact rfl)); clear hK K) | (with_reducible refine aGs (fun hg0 => ?_) (fun hg0 => ?_) <;> first | (with_reducible first | exact aF1 hg0 | exact aF2 hg0) | (simp only [hg0, go_sem])) | (with_reducible refine aNk ?_; intro bnil hnil; try simp only []) | exact aZ | fail))
  all_goals first | omega | skip
  simp only [ends]
  (simp only [SubF, go_sem]; (try simp only [go_sem]); repeat' (first | exact True.intro | with_reducible refine And.intro ?_ ?_ | rfl | omega))
 have hH : ∃ β6, LawAt w0 M s p 0 a6 w6 β6 := by
  obtain ⟨β6, h6⟩ := h6
  have hFo : ∀ g, owned (β3 ++ [x1, x2]) g → w0.heap.size ≤ g := fun g hg => by
   rcases owned_app hg with hg | hg
   ·exact (h3.fresh g hg).1.resolve_left owned_nil
   ·exact Nat.le_trans h3.below.size (hm.fresh g (hfrN g hg)).1
  have hb3 : Eng.Below w0.heap.size w0 w3 := h3.below.below fun _ => owned_nil
  have hb4 : Eng.Below w0.heap.size w0 w4 := hb3.trans (hm.below.mono h3.below.size)
  have hk : ∀ g, inBk (flatP p) g → w6.heap[g]? = w4.heap[g]? := fun g hg => h6.below.block g (hm.fresh g (hfrX g hg)).2 fun ho => (h6.out g ho).1 (.inr hg)
  refine ⟨β6, h6.again rfl, below_on hb4 h6.below hFo, fun j z hz => ?_, fun g hg => ?_⟩
  ·obtain ⟨q1, q2⟩ := hm.inn j z hz
   have e : ∀ l, dnA (decide (j < 0)) l = l := fun l => by simp [dnA]
   rw [e, e]
   exact ⟨q1.to fun g hg => hk g (inBk_at hz (.inl hg)), q2.to fun g hg => hk g (inBk_at hz (.inr hg))⟩
  ·rcases (h6.fresh g hg).1 with h | h
   ·exact hFo g h
   ·exact Nat.le_trans hb4.size h
 obtain ⟨β6, hH⟩ := hH
 have hap : ApartL (flatP p) := hm.apart.left
 have hpl := hm.len
 have hfr0 : ∀ g, inBk (flatP p) g → w0.heap.size ≤ g := fun g hg => Nat.le_trans h3.below.size (hm.fresh g (hfrX g hg)).1
 clear h6 h5 hp hg h3 h2 h1 h0
 refine wp_block (wp_loop_ghost (fun n a w => ∃ i β, p.length - i = n ∧ i ≤ p.length ∧ LawAt w0 M s p i a w β) p.length ⟨0, β6, rfl, Nat.zero_le _, hH⟩ ?_)
 clear hH β6 a6 w6 a5 w5 hfrN hfrX hm
 rintro n a w ⟨i, β, rfl, hle, hh⟩
 by_cases hi : i < p.length
 ·refine wp_seq (seg Ty_ok mixed (s1 := ⟨185, (34, .one (.bool true)) :: lwS i p.length, lwH s p, 0⟩) ⟨β, hh.sim⟩ ?_ fun a1 w1 h1 => ?_)
  ·have hd : decide ((i : Int) < (p.length : Int)) = true := decide_eq_true (by omega)
   simp only [lwH, lwS]
   (repeat' (first | (with_reducible first | exact True.intro | refine And.intro ?_ ?_ | refine aBl ?_ | (refine aS 16 [32, 42, 43, 62, 63, 33, 101, 100, 107, 106, 108, 102, 17, 18, 20, 19, 167, 166, 22, 25, 24, 168] ?_; intro K hK)) | ((with_reducible first | refine aGo ?_); simp only [hd, go_sem]) | ((with_reducible refine aCd ?_ ?_ (fun hb => ?_) (fun hb => ?_)); (iterate 2 simp only [hd, go_sem]); all_goals (simp only [hd, go_sem] at hb; try simp only [bls] at hb)) | ((iterate 6 try ((fail_if_success with_reducible refine hK _ ?_ ?_ ?_); clear hK K)); with_reducible refine hK _ ?_ ?_ ?_; rotate_left; (focus (simp only [hd, go_sem]; exact rfl)); clear hK K) | (with_reducible refine aGs (fun hg0 => ?_) (fun hg0 => ?_) <;> first | (with_reducible first | exact aF1 hg0 | exact aF2 hg0) | (simp only [hg0, hd, go_sem])) | (with_reducible refine aNk ?_; intro bnil hnil; try simp only []) | exact aZ | fail))
   all_goals first | omega | skip
   simp only [ends]
   (simp only [SubF, go_sem]; (try simp only [go_sem]); repeat' (first | exact True.intro | with_reducible refine And.intro ?_ ?_ | rfl | omega))
  refine wp_seq (seg Ty_ok mixed (s1 := ⟨185, lwS i p.length, lwH s p, 0⟩) h1 ?_ fun a2 w2 h2 => ?_)
  ·simp only [lwH, lwS]
   (repeat' (first | (with_reducible first | exact True.intro | refine And.intro ?_ ?_ | refine aBl ?_ | (refine aS 16 [32, 42, 43, 62, 63, 33, 101, 100, 107, 106, 108, 102, 17, 18, 20, 19, 167, 166, 22, 25, 24, 168] ?_; intro K hK)) | ((with_reducible first | refine aGo ?_); simp only [go_sem]) | ((with_reducible refine aCd ?_ ?_ (fun hb => ?_) (fun hb => ?_)); (iterate 2 simp only [go_sem]); all_goals (simp only [go_sem] at hb; try simp only [bls] at hb)) | ((iterate 6 try ((fail_if_success with_reducible refine hK _ ?_ ?_ ?_); clear hK K)); with_reducible refine hK _ ?_ ?_ ?_; rotate_left; (focus (simp only [go_sem]; exact rfl)); clear hK K) | (with_reducible refine aGs (fun hg0 => ?_) (fun hg0 => ?_) <;> first | (with_reducible first | exact aF1 hg0 | exact aF2 hg0) | (simp only [hg0, go_sem])) | (with_reducible refine aNk ?_; intro bnil hnil; try simp only []) | exact aZ | fail))
   all_goals first | omega | skip
   simp only [awp, ends]
   (simp only [SubF, go_sem]; (try simp only [go_sem]); repeat' (first | exact True.intro | with_reducible refine And.intro ?_ ?_ | rfl | omega))
  refine wp_seq (wp_block (wp_seq (seg Ty_ok mixed (s1 := ⟨185, (4, .one (.int .i64 i)) :: lwS i p.length, lwH s p, 0⟩) h2 ?_ fun a6 w6 h6 => ?_)))
  ·simp only [lwH, lwS]
   (repeat' (first | (with_reducible first | exact True.intro | refine And.intro ?_ ?_ | refine aBl ?_ | (refine aS 16 [32, 42, 43, 62, 63, 33, 101, 100, 107, 106, 108, 102, 17, 18, 20, 19, 167, 166, 22, 25, 24, 168] ?_; intro K hK)) | ((with_reducible first | refine aGo ?_); simp only [go_sem]) | ((with_reducible refine aCd ?_ ?_ (fun hb => ?_) (fun hb => ?_)); (iterate 2 simp only [go_sem]); all_goals (simp only [go_sem] at hb; try simp only [bls] at hb)) | ((iterate 6 try ((fail_if_success with_reducible refine hK _ ?_ ?_ ?_); clear hK K)); with_reducible refine hK _ ?_ ?_ ?_; rotate_left; (focus (simp only [go_sem]; exact rfl)); clear hK K) | (with_reducible refine aGs (fun hg0 => ?_) (fun hg0 => ?_) <;> first | (with_reducible first | exact aF1 hg0 | exact aF2 hg0) | (simp only [hg0, go_sem])) | (with_reducible refine aNk ?_; intro bnil hnil; try simp only []) | exact aZ | fail))
   all_goals first | omega | skip
   simp only [ends]
   (simp only [SubF, go_sem]; (try simp only [go_sem]); repeat' (first | exact True.intro | with_reducible refine And.intro ?_ ?_ | rfl | omega))
  clear h1 h2
  obtain ⟨β6, h6⟩ := h6
  have hl6 : β6.length = 4 := h6.len
  obtain ⟨z, hz⟩ : ∃ z, p[i]? = some z := ⟨p[i], List.getElem?_eq_getElem hi⟩
  obtain ⟨f1, f2⟩ := flatP_at p i z hz
  have hk6 : ∀ g, inBk (flatP p) g → g < w.heap.size ∧ w6.heap[g]? = w.heap[g]? := fun g hg => by
   have h1 := hh.sim.m0.1 g (.inr hg)
   exact ⟨h1, h6.below.block g h1 fun ho => (h6.out g ho).1 (.inr hg)⟩
  have hI : InnAt w6 z.1 (arcI s i) ∧ InnAt w6 z.2 (arcO s i) := by
   obtain ⟨q1, q2⟩ := hh.inn i z hz
   have e : ∀ l, dnA (decide (i < i)) l = l := fun l => by simp [dnA]
   rw [e] at q1 q2
   exact ⟨q1.to fun g hg => (hk6 g (inBk_at hz (.inl hg))).2, q2.to fun g hg => (hk6 g (inBk_at hz (.inr hg))).2⟩
  have hne : ∀ g, hblk z.2 = some g → hblk z.1 ≠ some g := fun g h2 h1 => by
   have := hap _ _ _ _ g f1 f2 h1 h2
   omega
  have hA := (h6.adopt (x := z.1) (o := .row 36 2 (arcsD (arcI s i))) (fun g hg => .inr (inBk_at hz (.inl hg))) fun M β => hI.1.to fun _ _ => rfl).adopt (x := z.2) (o := .row 36 2 (arcsD (arcO s i))) (fun g hg => ⟨.inr (inBk_at hz (.inr hg)), hne g hg⟩) fun M β => hI.2.to fun _ _ => rfl
  have hA := hA.pinned 6 (by simp only [List.length_append, List.length_singleton, hl6]; decide)
  have hβ4 : ((β6 ++ [z.1]) ++ [z.2])[4]? = some z.1 := by
   rw [List.append_assoc, List.getElem?_append_right (by omega), hl6]; rfl
  have hβ5 : ((β6 ++ [z.1]) ++ [z.2])[5]? = some z.2 := by
   rw [List.append_assoc, List.getElem?_append_right (by omega), hl6]; rfl
  generalize hFA : (β6 ++ [z.1]) ++ [z.2] = βA at *
  have hq : ((i : Nat) : Int).toNat = i := by omega
  have hg := rawT_at s [] p 0 i z hz
  have hg2 := rawT_at s [.int .i64 0, .nil, .nil] p 0 i z hz
  rw [Nat.zero_add] at hg hg2
  have hal : ∀ l : List Arc, (arcsD l).length = l.length := fun l => by simp [arcsD]
  have hal2 : ∀ k (l : List Arc), (arcsD (oneK k l)).length = l.length := fun k l => by rw [hal, oneK_length]
  have hnp5 : np s ≤ 5 := by
   unfold np; omega
  have hLI : (arcI s i).length ≤ 10 := by
   have := arcsL_length (inW s i) (np s)
   unfold arcI; omega
  have hLO : (arcO s i).length ≤ 10 := by
   have := arcsL_length (outW s i) (np s)
   unfold arcO; omega
  generalize hEI : arcI s i = LI at *
  generalize hEO : arcO s i = LO at *
  generalize hM1 : (fun g => ((M g ∨ inBk (flatP p) g) ∧ hblk z.1 ≠ some g) ∧ hblk z.2 ≠ some g) = M1 at *
  -- LOOPS
  refine wp_seq (wp_seq (region_split Ty_ok (s1 := ⟨185, (41, .one (.raw z.1)) :: (4, .one (.int .i64 i)) :: lwS i p.length, lwH s p ++ [.row 36 2 (arcsD LI)] ++ [.row 36 2 (arcsD LO)], 6⟩) 6 ⟨_, hA⟩ ?_ fun a7 w7 h7 => ?_))
  ·simp only [hq, hg, hg2, hlt, List.take_succ_cons, List.take_zero, lwH, lwS, List.cons_append, List.nil_append, go_sem]
   (repeat' (first | (with_reducible first | exact True.intro | refine And.intro ?_ ?_ | refine aBl ?_ | (refine aS 16 [32, 42, 43, 62, 63, 33, 101, 100, 107, 106, 108, 102, 17, 18, 20, 19, 167, 166, 22, 25, 24, 168] ?_; intro K hK)) | ((with_reducible first | refine aGo ?_); simp only [hq, hg, hg2, hlt, go_sem]) | ((with_reducible refine aCd ?_ ?_ (fun hb => ?_) (fun hb => ?_)); (iterate 2 simp only [hq, hg, hg2, hlt, go_sem]); all_goals (simp only [hq, hg, hg2, hlt, go_sem] at hb; try simp only [bls] at hb)) | ((iterate 6 try ((fail_if_success with_reducible refine hK _ ?_ ?_ ?_); clear hK K)); with_reducible refine hK _ ?_ ?_ ?_; rotate_left; (focus (simp only [hq, hg, hg2, hlt, go_sem]; exact rfl)); clear hK K) | (with_reducible refine aGs (fun hg0 => ?_) (fun hg0 => ?_) <;> first | (with_reducible first | exact aF1 hg0 | exact aF2 hg0) | (simp only [hg0, hq, hg, hg2, hlt, go_sem])) | (with_reducible refine aNk ?_; intro bnil hnil; try simp only []) | exact aZ | fail))
   all_goals first | omega | skip
   (simp only [SubF, go_sem]; (try simp only [go_sem]); repeat' (first | exact True.intro | with_reducible refine And.intro ?_ ?_ | rfl | omega))
  replace h7 := rename h7 (t := 4) (by decide) hβ4
  simp only [List.drop_succ_cons, List.drop_zero]
  refine ops_rest Ty_ok (s1 := ⟨185, (43, .one (.int .i64 (0 : Nat))) :: (42, .one (.int .i64 LI.length)) :: (4, .one (.int .i64 i)) :: lwS i p.length, lwH s p ++ [.row 36 2 (arcsD LI)] ++ [.row 36 2 (arcsD LO)], 6⟩) h7 ?_ fun a8 w8 h8 => ?_
  ·simp only [hal, hal2, oneK_length, lwH, lwS, List.cons_append, List.nil_append, go_sem]
   (repeat' (first | (with_reducible first | exact True.intro | refine And.intro ?_ ?_ | refine aBl ?_ | (refine aS 16 [32, 42, 43, 62, 63, 33, 101, 100, 107, 106, 108, 102, 17, 18, 20, 19, 167, 166, 22, 25, 24, 168] ?_; intro K hK)) | ((with_reducible first | refine aGo ?_); simp only [hal, hal2, go_sem]) | ((with_reducible refine aCd ?_ ?_ (fun hb => ?_) (fun hb => ?_)); (iterate 2 simp only [hal, hal2, go_sem]); all_goals (simp only [hal, hal2, go_sem] at hb; try simp only [bls] at hb)) | ((iterate 6 try ((fail_if_success with_reducible refine hK _ ?_ ?_ ?_); clear hK K)); with_reducible refine hK _ ?_ ?_ ?_; rotate_left; (focus (simp only [hal, hal2, go_sem]; exact rfl)); clear hK K) | (with_reducible refine aGs (fun hg0 => ?_) (fun hg0 => ?_) <;> first | (with_reducible first | exact aF1 hg0 | exact aF2 hg0) | (simp only [hg0, hal, hal2, go_sem])) | (with_reducible refine aNk ?_; intro bnil hnil; try simp only []) | exact aZ | fail))
   all_goals first | omega | skip
   (simp only [SubF, go_sem]; (try simp only [go_sem]); repeat' (first | exact True.intro | with_reducible refine And.intro ?_ ?_ | rfl | omega))
  refine wp_block (wp_loop_ghost (fun n a w => ∃ k, LI.length - k = n ∧ k ≤ LI.length ∧ SimS w6 M1 βA ⟨185, (43, .one (.int .i64 (k : Nat))) :: (42, .one (.int .i64 LI.length)) :: (4, .one (.int .i64 i)) :: lwS i p.length, lwH s p ++ [.row 36 2 (arcsD (oneK (k) LI))] ++ [.row 36 2 (arcsD LO)], 6⟩ a w) LI.length ⟨0, rfl, Nat.zero_le _, by rw [oneK_zero]; exact h8⟩ ?_)
  clear h8 h7 a8 w8 a7 w7
  rintro nI a8 w8 ⟨k, rfl, hk, h8⟩
  by_cases hlk : k < LI.length
  ·refine wp_seq (seg Ty_ok mixed (s1 := ⟨185, (44, .one (.bool true)) :: (43, .one (.int .i64 (k : Nat))) :: (42, .one (.int .i64 LI.length)) :: (4, .one (.int .i64 i)) :: lwS i p.length, lwH s p ++ [.row 36 2 (arcsD (oneK (k) LI))] ++ [.row 36 2 (arcsD LO)], 6⟩) h8 ?_ fun a9 w9 h9 => ?_)
   ·have hd : decide ((k : Int) < (LI.length : Int)) = true := decide_eq_true (by omega)
    simp only [hal, hal2, oneK_length, lwH, lwS, List.cons_append, List.nil_append, go_sem]
    (repeat' (first | (with_reducible first | exact True.intro | refine And.intro ?_ ?_ | refine aBl ?_ | (refine aS 16 [32, 42, 43, 62, 63, 33, 101, 100, 107, 106, 108, 102, 17, 18, 20, 19, 167, 166, 22, 25, 24, 168] ?_; intro K hK)) | ((with_reducible first | refine aGo ?_); simp only [hd, go_sem]) | ((with_reducible refine aCd ?_ ?_ (fun hb => ?_) (fun hb => ?_)); (iterate 2 simp only [hd, go_sem]); all_goals (simp only [hd, go_sem] at hb; try simp only [bls] at hb)) | ((iterate 6 try ((fail_if_success with_reducible refine hK _ ?_ ?_ ?_); clear hK K)); with_reducible refine hK _ ?_ ?_ ?_; rotate_left; (focus (simp only [hd, go_sem]; exact rfl)); clear hK K) | (with_reducible refine aGs (fun hg0 => ?_) (fun hg0 => ?_) <;> first | (with_reducible first | exact aF1 hg0 | exact aF2 hg0) | (simp only [hg0, hd, go_sem])) | (with_reducible refine aNk ?_; intro bnil hnil; try simp only []) | exact aZ | fail))
    all_goals first | omega | skip
    simp only [ends]
    (simp only [SubF, go_sem]; (try simp only [go_sem]); repeat' (first | exact True.intro | with_reducible refine And.intro ?_ ?_ | rfl | omega))
   refine wp_seq (seg Ty_ok mixed (s1 := ⟨185, (43, .one (.int .i64 (k : Nat))) :: (42, .one (.int .i64 LI.length)) :: (4, .one (.int .i64 i)) :: lwS i p.length, lwH s p ++ [.row 36 2 (arcsD (oneK (k) LI))] ++ [.row 36 2 (arcsD LO)], 6⟩) h9 ?_ fun a10 w10 h10 => ?_)
   ·simp only [hal, hal2, oneK_length, lwH, lwS, List.cons_append, List.nil_append, go_sem]
    (repeat' (first | (with_reducible first | exact True.intro | refine And.intro ?_ ?_ | refine aBl ?_ | (refine aS 16 [32, 42, 43, 62, 63, 33, 101, 100, 107, 106, 108, 102, 17, 18, 20, 19, 167, 166, 22, 25, 24, 168] ?_; intro K hK)) | ((with_reducible first | refine aGo ?_); simp only [go_sem]) | ((with_reducible refine aCd ?_ ?_ (fun hb => ?_) (fun hb => ?_)); (iterate 2 simp only [go_sem]); all_goals (simp only [go_sem] at hb; try simp only [bls] at hb)) | ((iterate 6 try ((fail_if_success with_reducible refine hK _ ?_ ?_ ?_); clear hK K)); with_reducible refine hK _ ?_ ?_ ?_; rotate_left; (focus (simp only [go_sem]; exact rfl)); clear hK K) | (with_reducible refine aGs (fun hg0 => ?_) (fun hg0 => ?_) <;> first | (with_reducible first | exact aF1 hg0 | exact aF2 hg0) | (simp only [hg0, go_sem])) | (with_reducible refine aNk ?_; intro bnil hnil; try simp only []) | exact aZ | fail))
    all_goals first | omega | skip
    simp only [awp, ends]
    (simp only [SubF, go_sem]; (try simp only [go_sem]); repeat' (first | exact True.intro | with_reducible refine And.intro ?_ ?_ | rfl | omega))
   refine wp_seq (wp_block (wp_seq (seg Ty_ok mixed (s1 := ⟨185, (5, .one (.int .i64 k)) :: (43, .one (.int .i64 (k : Nat))) :: (42, .one (.int .i64 LI.length)) :: (4, .one (.int .i64 i)) :: lwS i p.length, lwH s p ++ [.row 36 2 (arcsD (oneK (k) LI))] ++ [.row 36 2 (arcsD LO)], 6⟩) h10 ?_ fun a11 w11 h11 => ?_)))
   ·simp only [hal, hal2, oneK_length, lwH, lwS, List.cons_append, List.nil_append, go_sem]
    (repeat' (first | (with_reducible first | exact True.intro | refine And.intro ?_ ?_ | refine aBl ?_ | (refine aS 16 [32, 42, 43, 62, 63, 33, 101, 100, 107, 106, 108, 102, 17, 18, 20, 19, 167, 166, 22, 25, 24, 168] ?_; intro K hK)) | ((with_reducible first | refine aGo ?_); simp only [go_sem]) | ((with_reducible refine aCd ?_ ?_ (fun hb => ?_) (fun hb => ?_)); (iterate 2 simp only [go_sem]); all_goals (simp only [go_sem] at hb; try simp only [bls] at hb)) | ((iterate 6 try ((fail_if_success with_reducible refine hK _ ?_ ?_ ?_); clear hK K)); with_reducible refine hK _ ?_ ?_ ?_; rotate_left; (focus (simp only [go_sem]; exact rfl)); clear hK K) | (with_reducible refine aGs (fun hg0 => ?_) (fun hg0 => ?_) <;> first | (with_reducible first | exact aF1 hg0 | exact aF2 hg0) | (simp only [hg0, go_sem])) | (with_reducible refine aNk ?_; intro bnil hnil; try simp only []) | exact aZ | fail))
    all_goals first | omega | skip
    simp only [ends]
    (simp only [SubF, go_sem]; (try simp only [go_sem]); repeat' (first | exact True.intro | with_reducible refine And.intro ?_ ?_ | rfl | omega))
   refine region_split Ty_ok (s1 := ⟨185, (51, .one (.raw z.1)) :: (5, .one (.int .i64 k)) :: (43, .one (.int .i64 (k : Nat))) :: (42, .one (.int .i64 LI.length)) :: (4, .one (.int .i64 i)) :: lwS i p.length, lwH s p ++ [.row 36 2 (arcsD (oneK (k) LI))] ++ [.row 36 2 (arcsD LO)], 6⟩) 6 h11 ?_ fun a12 w12 h12 => ?_
   ·simp only [hq, hg, hg2, hlt, List.take_succ_cons, List.take_zero, lwH, lwS, List.cons_append, List.nil_append, go_sem]
    (repeat' (first | (with_reducible first | exact True.intro | refine And.intro ?_ ?_ | refine aBl ?_ | (refine aS 16 [32, 42, 43, 62, 63, 33, 101, 100, 107, 106, 108, 102, 17, 18, 20, 19, 167, 166, 22, 25, 24, 168] ?_; intro K hK)) | ((with_reducible first | refine aGo ?_); simp only [hq, hg, hg2, hlt, go_sem]) | ((with_reducible refine aCd ?_ ?_ (fun hb => ?_) (fun hb => ?_)); (iterate 2 simp only [hq, hg, hg2, hlt, go_sem]); all_goals (simp only [hq, hg, hg2, hlt, go_sem] at hb; try simp only [bls] at hb)) | ((iterate 6 try ((fail_if_success with_reducible refine hK _ ?_ ?_ ?_); clear hK K)); with_reducible refine hK _ ?_ ?_ ?_; rotate_left; (focus (simp only [hq, hg, hg2, hlt, go_sem]; exact rfl)); clear hK K) | (with_reducible refine aGs (fun hg0 => ?_) (fun hg0 => ?_) <;> first | (with_reducible first | exact aF1 hg0 | exact aF2 hg0) | (simp only [hg0, hq, hg, hg2, hlt, go_sem])) | (with_reducible refine aNk ?_; intro bnil hnil; try simp only []) | exact aZ | fail))
    all_goals first | omega | skip
    (simp only [SubF, go_sem]; (try simp only [go_sem]); repeat' (first | exact True.intro | with_reducible refine And.intro ?_ ?_ | rfl | omega))
   replace h12 := rename h12 (t := 4) (by decide) hβ4
   simp only [List.drop_succ_cons, List.drop_zero]
   have hqk : ((k : Nat) : Int).toNat = k := by omega
   have hgk := arcs_at (l := oneK k LI) (k := k) (by rw [oneK_length]; exact hlk)
   rw [oneK_get hlk, if_neg (by omega)] at hgk
   have hsk := oneK_set hlk
   refine ops_rest Ty_ok (s1 := ⟨185, (43, .one (.int .i64 (k : Nat))) :: (42, .one (.int .i64 LI.length)) :: (4, .one (.int .i64 i)) :: lwS i p.length, lwH s p ++ [.row 36 2 (arcsD (oneK (k + 1) LI))] ++ [.row 36 2 (arcsD LO)], 6⟩) h12 ?_ fun a13 w13 h13 => ?_
   ·simp only [hqk, hgk, hal, hal2, oneK_length, lwH, lwS, List.cons_append, List.nil_append, go_sem]
    (repeat' (first | (with_reducible first | exact True.intro | refine And.intro ?_ ?_ | refine aBl ?_ | (refine aS 16 [32, 42, 43, 62, 63, 33, 101, 100, 107, 106, 108, 102, 17, 18, 20, 19, 167, 166, 22, 25, 24, 168] ?_; intro K hK)) | ((with_reducible first | refine aGo ?_); simp only [hqk, hgk, hal, hal2, oneK_length, go_sem]) | ((with_reducible refine aCd ?_ ?_ (fun hb => ?_) (fun hb => ?_)); (iterate 2 simp only [hqk, hgk, hal, hal2, oneK_length, go_sem]); all_goals (simp only [hqk, hgk, hal, hal2, oneK_length, go_sem] at hb; try simp only [bls] at hb)) | ((iterate 6 try ((fail_if_success with_reducible refine hK _ ?_ ?_ ?_); clear hK K)); with_reducible refine hK _ ?_ ?_ ?_; rotate_left; (focus (simp only [hqk, hgk, hal, hal2, oneK_length, go_sem]; exact rfl)); clear hK K) | (with_reducible refine aGs (fun hg0 => ?_) (fun hg0 => ?_) <;> first | (with_reducible first | exact aF1 hg0 | exact aF2 hg0) | (simp only [hg0, hqk, hgk, hal, hal2, oneK_length, go_sem])) | (with_reducible refine aNk ?_; intro bnil hnil; try simp only []) | exact aZ | fail))
    all_goals first | omega | skip
    rw [hsk]
    (simp only [SubF, go_sem]; (try simp only [go_sem]); repeat' (first | exact True.intro | with_reducible refine And.intro ?_ ?_ | rfl | omega))
   refine seg Ty_ok mixed (s1 := ⟨185, (43, .one (.int .i64 (k + 1 : Nat))) :: (42, .one (.int .i64 LI.length)) :: (4, .one (.int .i64 i)) :: lwS i p.length, lwH s p ++ [.row 36 2 (arcsD (oneK (k + 1) LI))] ++ [.row 36 2 (arcsD LO)], 6⟩) h13 ?_ fun a14 w14 h14 => ?_
   ·simp only [hal, hal2, oneK_length, lwH, lwS, List.cons_append, List.nil_append, go_sem]
    (repeat' (first | (with_reducible first | exact True.intro | refine And.intro ?_ ?_ | refine aBl ?_ | (refine aS 16 [32, 42, 43, 62, 63, 33, 101, 100, 107, 106, 108, 102, 17, 18, 20, 19, 167, 166, 22, 25, 24, 168] ?_; intro K hK)) | ((with_reducible first | refine aGo ?_); simp only [go_sem]) | ((with_reducible refine aCd ?_ ?_ (fun hb => ?_) (fun hb => ?_)); (iterate 2 simp only [go_sem]); all_goals (simp only [go_sem] at hb; try simp only [bls] at hb)) | ((iterate 6 try ((fail_if_success with_reducible refine hK _ ?_ ?_ ?_); clear hK K)); with_reducible refine hK _ ?_ ?_ ?_; rotate_left; (focus (simp only [go_sem]; exact rfl)); clear hK K) | (with_reducible refine aGs (fun hg0 => ?_) (fun hg0 => ?_) <;> first | (with_reducible first | exact aF1 hg0 | exact aF2 hg0) | (simp only [hg0, go_sem])) | (with_reducible refine aNk ?_; intro bnil hnil; try simp only []) | exact aZ | fail))
    all_goals first | omega | skip
    simp only [ends]
    (simp only [SubF, go_sem]; (try simp only [go_sem]); repeat' (first | exact True.intro | with_reducible refine And.intro ?_ ?_ | rfl | omega))
   exact ⟨LI.length - (k + 1), by omega, k + 1, rfl, by omega, h14⟩
  have hke : k = LI.length := by omega
  subst hke
  refine wp_seq (seg Ty_ok mixed (s1 := ⟨185, (44, .one (.bool false)) :: (4, .one (.int .i64 i)) :: lwS i p.length, lwH s p ++ [.row 36 2 (arcsD (oneK (LI.length) LI))] ++ [.row 36 2 (arcsD LO)], 6⟩) h8 ?_ fun a9 w9 h9 => ?_)
  ·have hd : decide ((LI.length : Int) < (LI.length : Int)) = false := decide_eq_false (by omega)
   simp only [hal, hal2, oneK_length, lwH, lwS, List.cons_append, List.nil_append, go_sem]
   (repeat' (first | (with_reducible first | exact True.intro | refine And.intro ?_ ?_ | refine aBl ?_ | (refine aS 16 [32, 42, 43, 62, 63, 33, 101, 100, 107, 106, 108, 102, 17, 18, 20, 19, 167, 166, 22, 25, 24, 168] ?_; intro K hK)) | ((with_reducible first | refine aGo ?_); simp only [hd, go_sem]) | ((with_reducible refine aCd ?_ ?_ (fun hb => ?_) (fun hb => ?_)); (iterate 2 simp only [hd, go_sem]); all_goals (simp only [hd, go_sem] at hb; try simp only [bls] at hb)) | ((iterate 6 try ((fail_if_success with_reducible refine hK _ ?_ ?_ ?_); clear hK K)); with_reducible refine hK _ ?_ ?_ ?_; rotate_left; (focus (simp only [hd, go_sem]; exact rfl)); clear hK K) | (with_reducible refine aGs (fun hg0 => ?_) (fun hg0 => ?_) <;> first | (with_reducible first | exact aF1 hg0 | exact aF2 hg0) | (simp only [hg0, hd, go_sem])) | (with_reducible refine aNk ?_; intro bnil hnil; try simp only []) | exact aZ | fail))
   all_goals first | omega | skip
   simp only [ends]
   (simp only [SubF, go_sem]; (try simp only [go_sem]); repeat' (first | exact True.intro | with_reducible refine And.intro ?_ ?_ | rfl | omega))
  refine wp_seq (segX Ty_ok mixed (s2 := ⟨185, (4, .one (.int .i64 i)) :: lwS i p.length, lwH s p ++ [.row 36 2 (arcsD (oneK (LI.length) LI))] ++ [.row 36 2 (arcsD LO)], 6⟩) (k := 2) h9 ?_ fun a10 w10 hB => ?_)
  ·simp only [hal, hal2, oneK_length, lwH, lwS, List.cons_append, List.nil_append, go_sem]
   (repeat' (first | (with_reducible first | exact True.intro | refine And.intro ?_ ?_ | refine aBl ?_ | (refine aS 16 [32, 42, 43, 62, 63, 33, 101, 100, 107, 106, 108, 102, 17, 18, 20, 19, 167, 166, 22, 25, 24, 168] ?_; intro K hK)) | ((with_reducible first | refine aGo ?_); simp only [go_sem]) | ((with_reducible refine aCd ?_ ?_ (fun hb => ?_) (fun hb => ?_)); (iterate 2 simp only [go_sem]); all_goals (simp only [go_sem] at hb; try simp only [bls] at hb)) | ((iterate 6 try ((fail_if_success with_reducible refine hK _ ?_ ?_ ?_); clear hK K)); with_reducible refine hK _ ?_ ?_ ?_; rotate_left; (focus (simp only [go_sem]; exact rfl)); clear hK K) | (with_reducible refine aGs (fun hg0 => ?_) (fun hg0 => ?_) <;> first | (with_reducible first | exact aF1 hg0 | exact aF2 hg0) | (simp only [hg0, go_sem])) | (with_reducible refine aNk ?_; intro bnil hnil; try simp only []) | exact aZ | fail))
   all_goals first | omega | skip
   simp only [awp, endsX]
   (simp only [SubF, go_sem]; (try simp only [go_sem]); repeat' (first | exact True.intro | with_reducible refine And.intro ?_ ?_ | rfl | omega))
  clear h9 h8
  refine wp_seq (region_split Ty_ok (s1 := ⟨185, (61, .one (.raw z.2)) :: (4, .one (.int .i64 i)) :: lwS i p.length, lwH s p ++ [.row 36 2 (arcsD (oneK LI.length LI))] ++ [.row 36 2 (arcsD LO)], 6⟩) 6 hB ?_ fun a7 w7 h7 => ?_)
  ·simp only [hq, hg, hg2, hlt, List.take_succ_cons, List.take_zero, lwH, lwS, List.cons_append, List.nil_append, go_sem]
   (repeat' (first | (with_reducible first | exact True.intro | refine And.intro ?_ ?_ | refine aBl ?_ | (refine aS 16 [32, 42, 43, 62, 63, 33, 101, 100, 107, 106, 108, 102, 17, 18, 20, 19, 167, 166, 22, 25, 24, 168] ?_; intro K hK)) | ((with_reducible first | refine aGo ?_); simp only [hq, hg, hg2, hlt, go_sem]) | ((with_reducible refine aCd ?_ ?_ (fun hb => ?_) (fun hb => ?_)); (iterate 2 simp only [hq, hg, hg2, hlt, go_sem]); all_goals (simp only [hq, hg, hg2, hlt, go_sem] at hb; try simp only [bls] at hb)) | ((iterate 6 try ((fail_if_success with_reducible refine hK _ ?_ ?_ ?_); clear hK K)); with_reducible refine hK _ ?_ ?_ ?_; rotate_left; (focus (simp only [hq, hg, hg2, hlt, go_sem]; exact rfl)); clear hK K) | (with_reducible refine aGs (fun hg0 => ?_) (fun hg0 => ?_) <;> first | (with_reducible first | exact aF1 hg0 | exact aF2 hg0) | (simp only [hg0, hq, hg, hg2, hlt, go_sem])) | (with_reducible refine aNk ?_; intro bnil hnil; try simp only []) | exact aZ | fail))
   all_goals first | omega | skip
   (simp only [SubF, go_sem]; (try simp only [go_sem]); repeat' (first | exact True.intro | with_reducible refine And.intro ?_ ?_ | rfl | omega))
  replace h7 := rename h7 (t := 5) (by decide) hβ5
  simp only [List.drop_succ_cons, List.drop_zero]
  refine ops_rest Ty_ok (s1 := ⟨185, (63, .one (.int .i64 (0 : Nat))) :: (62, .one (.int .i64 LO.length)) :: (4, .one (.int .i64 i)) :: lwS i p.length, lwH s p ++ [.row 36 2 (arcsD (oneK LI.length LI))] ++ [.row 36 2 (arcsD LO)], 6⟩) h7 ?_ fun a8 w8 h8 => ?_
  ·simp only [hal, hal2, oneK_length, lwH, lwS, List.cons_append, List.nil_append, go_sem]
   (repeat' (first | (with_reducible first | exact True.intro | refine And.intro ?_ ?_ | refine aBl ?_ | (refine aS 16 [32, 42, 43, 62, 63, 33, 101, 100, 107, 106, 108, 102, 17, 18, 20, 19, 167, 166, 22, 25, 24, 168] ?_; intro K hK)) | ((with_reducible first | refine aGo ?_); simp only [hal, hal2, go_sem]) | ((with_reducible refine aCd ?_ ?_ (fun hb => ?_) (fun hb => ?_)); (iterate 2 simp only [hal, hal2, go_sem]); all_goals (simp only [hal, hal2, go_sem] at hb; try simp only [bls] at hb)) | ((iterate 6 try ((fail_if_success with_reducible refine hK _ ?_ ?_ ?_); clear hK K)); with_reducible refine hK _ ?_ ?_ ?_; rotate_left; (focus (simp only [hal, hal2, go_sem]; exact rfl)); clear hK K) | (with_reducible refine aGs (fun hg0 => ?_) (fun hg0 => ?_) <;> first | (with_reducible first | exact aF1 hg0 | exact aF2 hg0) | (simp only [hg0, hal, hal2, go_sem])) | (with_reducible refine aNk ?_; intro bnil hnil; try simp only []) | exact aZ | fail))
   all_goals first | omega | skip
   (simp only [SubF, go_sem]; (try simp only [go_sem]); repeat' (first | exact True.intro | with_reducible refine And.intro ?_ ?_ | rfl | omega))
  refine wp_block (wp_loop_ghost (fun n a w => ∃ k, LO.length - k = n ∧ k ≤ LO.length ∧ SimS w6 M1 βA ⟨185, (63, .one (.int .i64 (k : Nat))) :: (62, .one (.int .i64 LO.length)) :: (4, .one (.int .i64 i)) :: lwS i p.length, lwH s p ++ [.row 36 2 (arcsD (oneK LI.length LI))] ++ [.row 36 2 (arcsD (oneK (k) LO))], 6⟩ a w) LO.length ⟨0, rfl, Nat.zero_le _, by rw [oneK_zero]; exact h8⟩ ?_)
  clear h8 h7 a8 w8 a7 w7
  rintro nO a8 w8 ⟨k, rfl, hk, h8⟩
  by_cases hlk : k < LO.length
  ·refine wp_seq (seg Ty_ok mixed (s1 := ⟨185, (64, .one (.bool true)) :: (63, .one (.int .i64 (k : Nat))) :: (62, .one (.int .i64 LO.length)) :: (4, .one (.int .i64 i)) :: lwS i p.length, lwH s p ++ [.row 36 2 (arcsD (oneK LI.length LI))] ++ [.row 36 2 (arcsD (oneK (k) LO))], 6⟩) h8 ?_ fun a9 w9 h9 => ?_)
   ·have hd : decide ((k : Int) < (LO.length : Int)) = true := decide_eq_true (by omega)
    simp only [hal, hal2, oneK_length, lwH, lwS, List.cons_append, List.nil_append, go_sem]
    (repeat' (first | (with_reducible first | exact True.intro | refine And.intro ?_ ?_ | refine aBl ?_ | (refine aS 16 [32, 42, 43, 62, 63, 33, 101, 100, 107, 106, 108, 102, 17, 18, 20, 19, 167, 166, 22, 25, 24, 168] ?_; intro K hK)) | ((with_reducible first | refine aGo ?_); simp only [hd, go_sem]) | ((with_reducible refine aCd ?_ ?_ (fun hb => ?_) (fun hb => ?_)); (iterate 2 simp only [hd, go_sem]); all_goals (simp only [hd, go_sem] at hb; try simp only [bls] at hb)) | ((iterate 6 try ((fail_if_success with_reducible refine hK _ ?_ ?_ ?_); clear hK K)); with_reducible refine hK _ ?_ ?_ ?_; rotate_left; (focus (simp only [hd, go_sem]; exact rfl)); clear hK K) | (with_reducible refine aGs (fun hg0 => ?_) (fun hg0 => ?_) <;> first | (with_reducible first | exact aF1 hg0 | exact aF2 hg0) | (simp only [hg0, hd, go_sem])) | (with_reducible refine aNk ?_; intro bnil hnil; try simp only []) | exact aZ | fail))
    all_goals first | omega | skip
    simp only [ends]
    (simp only [SubF, go_sem]; (try simp only [go_sem]); repeat' (first | exact True.intro | with_reducible refine And.intro ?_ ?_ | rfl | omega))
   refine wp_seq (seg Ty_ok mixed (s1 := ⟨185, (63, .one (.int .i64 (k : Nat))) :: (62, .one (.int .i64 LO.length)) :: (4, .one (.int .i64 i)) :: lwS i p.length, lwH s p ++ [.row 36 2 (arcsD (oneK LI.length LI))] ++ [.row 36 2 (arcsD (oneK (k) LO))], 6⟩) h9 ?_ fun a10 w10 h10 => ?_)
   ·simp only [hal, hal2, oneK_length, lwH, lwS, List.cons_append, List.nil_append, go_sem]
    (repeat' (first | (with_reducible first | exact True.intro | refine And.intro ?_ ?_ | refine aBl ?_ | (refine aS 16 [32, 42, 43, 62, 63, 33, 101, 100, 107, 106, 108, 102, 17, 18, 20, 19, 167, 166, 22, 25, 24, 168] ?_; intro K hK)) | ((with_reducible first | refine aGo ?_); simp only [go_sem]) | ((with_reducible refine aCd ?_ ?_ (fun hb => ?_) (fun hb => ?_)); (iterate 2 simp only [go_sem]); all_goals (simp only [go_sem] at hb; try simp only [bls] at hb)) | ((iterate 6 try ((fail_if_success with_reducible refine hK _ ?_ ?_ ?_); clear hK K)); with_reducible refine hK _ ?_ ?_ ?_; rotate_left; (focus (simp only [go_sem]; exact rfl)); clear hK K) | (with_reducible refine aGs (fun hg0 => ?_) (fun hg0 => ?_) <;> first | (with_reducible first | exact aF1 hg0 | exact aF2 hg0) | (simp only [hg0, go_sem])) | (with_reducible refine aNk ?_; intro bnil hnil; try simp only []) | exact aZ | fail))
    all_goals first | omega | skip
    simp only [awp, ends]
    (simp only [SubF, go_sem]; (try simp only [go_sem]); repeat' (first | exact True.intro | with_reducible refine And.intro ?_ ?_ | rfl | omega))
   refine wp_seq (wp_block (wp_seq (seg Ty_ok mixed (s1 := ⟨185, (6, .one (.int .i64 k)) :: (63, .one (.int .i64 (k : Nat))) :: (62, .one (.int .i64 LO.length)) :: (4, .one (.int .i64 i)) :: lwS i p.length, lwH s p ++ [.row 36 2 (arcsD (oneK LI.length LI))] ++ [.row 36 2 (arcsD (oneK (k) LO))], 6⟩) h10 ?_ fun a11 w11 h11 => ?_)))
   ·simp only [hal, hal2, oneK_length, lwH, lwS, List.cons_append, List.nil_append, go_sem]
    (repeat' (first | (with_reducible first | exact True.intro | refine And.intro ?_ ?_ | refine aBl ?_ | (refine aS 16 [32, 42, 43, 62, 63, 33, 101, 100, 107, 106, 108, 102, 17, 18, 20, 19, 167, 166, 22, 25, 24, 168] ?_; intro K hK)) | ((with_reducible first | refine aGo ?_); simp only [go_sem]) | ((with_reducible refine aCd ?_ ?_ (fun hb => ?_) (fun hb => ?_)); (iterate 2 simp only [go_sem]); all_goals (simp only [go_sem] at hb; try simp only [bls] at hb)) | ((iterate 6 try ((fail_if_success with_reducible refine hK _ ?_ ?_ ?_); clear hK K)); with_reducible refine hK _ ?_ ?_ ?_; rotate_left; (focus (simp only [go_sem]; exact rfl)); clear hK K) | (with_reducible refine aGs (fun hg0 => ?_) (fun hg0 => ?_) <;> first | (with_reducible first | exact aF1 hg0 | exact aF2 hg0) | (simp only [hg0, go_sem])) | (with_reducible refine aNk ?_; intro bnil hnil; try simp only []) | exact aZ | fail))
    all_goals first | omega | skip
    simp only [ends]
    (simp only [SubF, go_sem]; (try simp only [go_sem]); repeat' (first | exact True.intro | with_reducible refine And.intro ?_ ?_ | rfl | omega))
   refine region_split Ty_ok (s1 := ⟨185, (71, .one (.raw z.2)) :: (6, .one (.int .i64 k)) :: (63, .one (.int .i64 (k : Nat))) :: (62, .one (.int .i64 LO.length)) :: (4, .one (.int .i64 i)) :: lwS i p.length, lwH s p ++ [.row 36 2 (arcsD (oneK LI.length LI))] ++ [.row 36 2 (arcsD (oneK (k) LO))], 6⟩) 6 h11 ?_ fun a12 w12 h12 => ?_
   ·simp only [hq, hg, hg2, hlt, List.take_succ_cons, List.take_zero, lwH, lwS, List.cons_append, List.nil_append, go_sem]
    (repeat' (first | (with_reducible first | exact True.intro | refine And.intro ?_ ?_ | refine aBl ?_ | (refine aS 16 [32, 42, 43, 62, 63, 33, 101, 100, 107, 106, 108, 102, 17, 18, 20, 19, 167, 166, 22, 25, 24, 168] ?_; intro K hK)) | ((with_reducible first | refine aGo ?_); simp only [hq, hg, hg2, hlt, go_sem]) | ((with_reducible refine aCd ?_ ?_ (fun hb => ?_) (fun hb => ?_)); (iterate 2 simp only [hq, hg, hg2, hlt, go_sem]); all_goals (simp only [hq, hg, hg2, hlt, go_sem] at hb; try simp only [bls] at hb)) | ((iterate 6 try ((fail_if_success with_reducible refine hK _ ?_ ?_ ?_); clear hK K)); with_reducible refine hK _ ?_ ?_ ?_; rotate_left; (focus (simp only [hq, hg, hg2, hlt, go_sem]; exact rfl)); clear hK K) | (with_reducible refine aGs (fun hg0 => ?_) (fun hg0 => ?_) <;> first | (with_reducible first | exact aF1 hg0 | exact aF2 hg0) | (simp only [hg0, hq, hg, hg2, hlt, go_sem])) | (with_reducible refine aNk ?_; intro bnil hnil; try simp only []) | exact aZ | fail))
    all_goals first | omega | skip
    (simp only [SubF, go_sem]; (try simp only [go_sem]); repeat' (first | exact True.intro | with_reducible refine And.intro ?_ ?_ | rfl | omega))
   replace h12 := rename h12 (t := 5) (by decide) hβ5
   simp only [List.drop_succ_cons, List.drop_zero]
   have hqk : ((k : Nat) : Int).toNat = k := by omega
   have hgk := arcs_at (l := oneK k LO) (k := k) (by rw [oneK_length]; exact hlk)
   rw [oneK_get hlk, if_neg (by omega)] at hgk
   have hsk := oneK_set hlk
   refine ops_rest Ty_ok (s1 := ⟨185, (63, .one (.int .i64 (k : Nat))) :: (62, .one (.int .i64 LO.length)) :: (4, .one (.int .i64 i)) :: lwS i p.length, lwH s p ++ [.row 36 2 (arcsD (oneK LI.length LI))] ++ [.row 36 2 (arcsD (oneK (k + 1) LO))], 6⟩) h12 ?_ fun a13 w13 h13 => ?_
   ·simp only [hqk, hgk, hal, hal2, oneK_length, lwH, lwS, List.cons_append, List.nil_append, go_sem]
    (repeat' (first | (with_reducible first | exact True.intro | refine And.intro ?_ ?_ | refine aBl ?_ | (refine aS 16 [32, 42, 43, 62, 63, 33, 101, 100, 107, 106, 108, 102, 17, 18, 20, 19, 167, 166, 22, 25, 24, 168] ?_; intro K hK)) | ((with_reducible first | refine aGo ?_); simp only [hqk, hgk, hal, hal2, oneK_length, go_sem]) | ((with_reducible refine aCd ?_ ?_ (fun hb => ?_) (fun hb => ?_)); (iterate 2 simp only [hqk, hgk, hal, hal2, oneK_length, go_sem]); all_goals (simp only [hqk, hgk, hal, hal2, oneK_length, go_sem] at hb; try simp only [bls] at hb)) | ((iterate 6 try ((fail_if_success with_reducible refine hK _ ?_ ?_ ?_); clear hK K)); with_reducible refine hK _ ?_ ?_ ?_; rotate_left; (focus (simp only [hqk, hgk, hal, hal2, oneK_length, go_sem]; exact rfl)); clear hK K) | (with_reducible refine aGs (fun hg0 => ?_) (fun hg0 => ?_) <;> first | (with_reducible first | exact aF1 hg0 | exact aF2 hg0) | (simp only [hg0, hqk, hgk, hal, hal2, oneK_length, go_sem])) | (with_reducible refine aNk ?_; intro bnil hnil; try simp only []) | exact aZ | fail))
    all_goals first | omega | skip
    rw [hsk]
    (simp only [SubF, go_sem]; (try simp only [go_sem]); repeat' (first | exact True.intro | with_reducible refine And.intro ?_ ?_ | rfl | omega))
   refine seg Ty_ok mixed (s1 := ⟨185, (63, .one (.int .i64 (k + 1 : Nat))) :: (62, .one (.int .i64 LO.length)) :: (4, .one (.int .i64 i)) :: lwS i p.length, lwH s p ++ [.row 36 2 (arcsD (oneK LI.length LI))] ++ [.row 36 2 (arcsD (oneK (k + 1) LO))], 6⟩) h13 ?_ fun a14 w14 h14 => ?_
   ·simp only [hal, hal2, oneK_length, lwH, lwS, List.cons_append, List.nil_append, go_sem]
    (repeat' (first | (with_reducible first | exact True.intro | refine And.intro ?_ ?_ | refine aBl ?_ | (refine aS 16 [32, 42, 43, 62, 63, 33, 101, 100, 107, 106, 108, 102, 17, 18, 20, 19, 167, 166, 22, 25, 24, 168] ?_; intro K hK)) | ((with_reducible first | refine aGo ?_); simp only [go_sem]) | ((with_reducible refine aCd ?_ ?_ (fun hb => ?_) (fun hb => ?_)); (iterate 2 simp only [go_sem]); all_goals (simp only [go_sem] at hb; try simp only [bls] at hb)) | ((iterate 6 try ((fail_if_success with_reducible refine hK _ ?_ ?_ ?_); clear hK K)); with_reducible refine hK _ ?_ ?_ ?_; rotate_left; (focus (simp only [go_sem]; exact rfl)); clear hK K) | (with_reducible refine aGs (fun hg0 => ?_) (fun hg0 => ?_) <;> first | (with_reducible first | exact aF1 hg0 | exact aF2 hg0) | (simp only [hg0, go_sem])) | (with_reducible refine aNk ?_; intro bnil hnil; try simp only []) | exact aZ | fail))
    all_goals first | omega | skip
    simp only [ends]
    (simp only [SubF, go_sem]; (try simp only [go_sem]); repeat' (first | exact True.intro | with_reducible refine And.intro ?_ ?_ | rfl | omega))
   exact ⟨LO.length - (k + 1), by omega, k + 1, rfl, by omega, h14⟩
  have hke : k = LO.length := by omega
  subst hke
  refine wp_seq (seg Ty_ok mixed (s1 := ⟨185, (64, .one (.bool false)) :: (4, .one (.int .i64 i)) :: lwS i p.length, lwH s p ++ [.row 36 2 (arcsD (oneK LI.length LI))] ++ [.row 36 2 (arcsD (oneK (LO.length) LO))], 6⟩) h8 ?_ fun a9 w9 h9 => ?_)
  ·have hd : decide ((LO.length : Int) < (LO.length : Int)) = false := decide_eq_false (by omega)
   simp only [hal, hal2, oneK_length, lwH, lwS, List.cons_append, List.nil_append, go_sem]
   (repeat' (first | (with_reducible first | exact True.intro | refine And.intro ?_ ?_ | refine aBl ?_ | (refine aS 16 [32, 42, 43, 62, 63, 33, 101, 100, 107, 106, 108, 102, 17, 18, 20, 19, 167, 166, 22, 25, 24, 168] ?_; intro K hK)) | ((with_reducible first | refine aGo ?_); simp only [hd, go_sem]) | ((with_reducible refine aCd ?_ ?_ (fun hb => ?_) (fun hb => ?_)); (iterate 2 simp only [hd, go_sem]); all_goals (simp only [hd, go_sem] at hb; try simp only [bls] at hb)) | ((iterate 6 try ((fail_if_success with_reducible refine hK _ ?_ ?_ ?_); clear hK K)); with_reducible refine hK _ ?_ ?_ ?_; rotate_left; (focus (simp only [hd, go_sem]; exact rfl)); clear hK K) | (with_reducible refine aGs (fun hg0 => ?_) (fun hg0 => ?_) <;> first | (with_reducible first | exact aF1 hg0 | exact aF2 hg0) | (simp only [hg0, hd, go_sem])) | (with_reducible refine aNk ?_; intro bnil hnil; try simp only []) | exact aZ | fail))
   all_goals first | omega | skip
   simp only [ends]
   (simp only [SubF, go_sem]; (try simp only [go_sem]); repeat' (first | exact True.intro | with_reducible refine And.intro ?_ ?_ | rfl | omega))
  refine wp_seq (segX Ty_ok mixed (s2 := ⟨185, (4, .one (.int .i64 i)) :: lwS i p.length, lwH s p ++ [.row 36 2 (arcsD (oneK LI.length LI))] ++ [.row 36 2 (arcsD (oneK (LO.length) LO))], 6⟩) (k := 4) h9 ?_ fun a10 w10 hC => ?_)
  ·simp only [hal, hal2, oneK_length, lwH, lwS, List.cons_append, List.nil_append, go_sem]
   (repeat' (first | (with_reducible first | exact True.intro | refine And.intro ?_ ?_ | refine aBl ?_ | (refine aS 16 [32, 42, 43, 62, 63, 33, 101, 100, 107, 106, 108, 102, 17, 18, 20, 19, 167, 166, 22, 25, 24, 168] ?_; intro K hK)) | ((with_reducible first | refine aGo ?_); simp only [go_sem]) | ((with_reducible refine aCd ?_ ?_ (fun hb => ?_) (fun hb => ?_)); (iterate 2 simp only [go_sem]); all_goals (simp only [go_sem] at hb; try simp only [bls] at hb)) | ((iterate 6 try ((fail_if_success with_reducible refine hK _ ?_ ?_ ?_); clear hK K)); with_reducible refine hK _ ?_ ?_ ?_; rotate_left; (focus (simp only [go_sem]; exact rfl)); clear hK K) | (with_reducible refine aGs (fun hg0 => ?_) (fun hg0 => ?_) <;> first | (with_reducible first | exact aF1 hg0 | exact aF2 hg0) | (simp only [hg0, go_sem])) | (with_reducible refine aNk ?_; intro bnil hnil; try simp only []) | exact aZ | fail))
   all_goals first | omega | skip
   simp only [awp, endsX]
   (simp only [SubF, go_sem]; (try simp only [go_sem]); repeat' (first | exact True.intro | with_reducible refine And.intro ?_ ?_ | rfl | omega))
  clear h9 h8
  -- ENDLOOPS
  obtain ⟨βC, hC⟩ := hC
  have hp4 : βC[4]? = some z.1 := (hC.pins.2 4 (by show 4 < 6; decide)).trans hβ4
  have hp5 : βC[5]? = some z.2 := (hC.pins.2 5 (by show 5 < 6; decide)).trans hβ5
  obtain ⟨x, hx, hox, hD⟩ := (hC.pinned 0 (Nat.zero_le _)).retire rfl (t := 4) (e := 36) (sz := 2) (rows := arcsD (oneK LI.length LI)) rfl
  obtain rfl : x = z.1 := by
   rw [hp4] at hx; exact (Option.some.inj hx).symm
  obtain ⟨y, hy, hoy, hE⟩ := hD.retire rfl (t := 5) (e := 36) (sz := 2) (rows := arcsD (oneK LO.length LO)) rfl
  obtain rfl : y = z.2 := by
   rw [List.getElem?_set, if_neg (by decide), hp5] at hy; exact (Option.some.inj hy).symm
  refine seg Ty_ok mixed (s1 := ⟨185, lwS (i + 1) p.length, lwH s p, 0⟩) ⟨_, hE⟩ ?_ fun a17 w17 h17 => ?_
  ·simp only [lwH, lwS, List.cons_append, List.nil_append, AState.rt, AV.rt, AObj.rt, D.rt, D.rt0, List.map_cons, List.map_nil, bytesD_rt, go_sem, List.set_cons_succ, List.set_cons_zero]
   have hnt5 : nt s ≤ 5 := by
    unfold nt; omega
   (repeat' (first | (with_reducible first | exact True.intro | refine And.intro ?_ ?_ | refine aBl ?_ | (refine aS 16 [32, 42, 43, 62, 63, 33, 101, 100, 107, 106, 108, 102, 17, 18, 20, 19, 167, 166, 22, 25, 24, 168] ?_; intro K hK)) | ((with_reducible first | refine aGo ?_); simp only [go_sem]) | ((with_reducible refine aCd ?_ ?_ (fun hb => ?_) (fun hb => ?_)); (iterate 2 simp only [go_sem]); all_goals (simp only [go_sem] at hb; try simp only [bls] at hb)) | ((iterate 6 try ((fail_if_success with_reducible refine hK _ ?_ ?_ ?_); clear hK K)); with_reducible refine hK _ ?_ ?_ ?_; rotate_left; (focus (simp only [go_sem]; exact rfl)); clear hK K) | (with_reducible refine aGs (fun hg0 => ?_) (fun hg0 => ?_) <;> first | (with_reducible first | exact aF1 hg0 | exact aF2 hg0) | (simp only [hg0, go_sem])) | (with_reducible refine aNk ?_; intro bnil hnil; try simp only []) | exact aZ | fail))
   all_goals first | omega | skip
   simp only [ends]
   (simp only [SubF, go_sem]; (try simp only [go_sem]); repeat' (first | exact True.intro | with_reducible refine And.intro ?_ ?_ | rfl | omega))
  obtain ⟨β17, h17⟩ := h17
  have hsz6 := h6.below.size
  have hwb := hh.below.size
  have hA0 : ∀ g, owned βA g → (owned β6 g ∨ hblk z.1 = some g) ∨ hblk z.2 = some g := fun g hg => by
   rw [← hFA] at hg
   rcases owned_app hg with hg | hg
   ·rcases owned_app hg with hg | hg
    ·exact .inl (.inl hg)
    ·obtain ⟨x, hx, h⟩ := owned_in hg
     rw [List.mem_singleton.1 hx] at h; exact .inl (.inr h)
   ·obtain ⟨x, hx, h⟩ := owned_in hg
    rw [List.mem_singleton.1 hx] at h; exact .inr h
  have hf6 : ∀ g, owned β6 g → w0.heap.size ≤ g := fun g hg => by
   rcases (h6.fresh g hg).1 with h | h
   ·exact hh.freshB g h
   ·omega
  have hfA : ∀ g, owned βA g → w0.heap.size ≤ g := fun g hg => by
   rcases hA0 g hg with (h | h) | h
   ·exact hf6 g h
   ·exact hfr0 g (inBk_at hz (.inl h))
   ·exact hfr0 g (inBk_at hz (.inr h))
  have hfC : ∀ g, owned βC g → w0.heap.size ≤ g := fun g hg => by
   rcases (hC.fresh g hg).1 with h | h
   ·exact hfA g h
   ·omega
  have hoth : ∀ (j : Nat) (y : Value × Value), p[j]? = some y → j ≠ i → ∀ g, (hblk y.1 = some g ∨ hblk y.2 = some g) → ¬ owned βA g := fun j y hy hne2 g hg ho => by
   obtain ⟨e1, e2⟩ := flatP_at p j y hy
   rcases hA0 g ho with (h | h) | h
   ·exact h6.disj h (.inr (inBk_at hy hg))
   ·rcases hg with hg | hg
    ·have := hap _ _ _ _ g e1 f1 hg h; omega
    ·have := hap _ _ _ _ g e2 f1 hg h; omega
   ·rcases hg with hg | hg
    ·have := hap _ _ _ _ g e1 f2 hg h; omega
    ·have := hap _ _ _ _ g e2 f2 hg h; omega
  have eM : (fun g => (M1 g ∨ hblk z.1 = some g) ∨ hblk z.2 = some g) = fun g => M g ∨ inBk (flatP p) g := by
   rw [← hM1]
   funext g
   apply propext
   constructor
   ·rintro ((h | h) | h)
    ·exact h.1.1
    ·exact .inr (inBk_at hz (.inl h))
    ·exact .inr (inBk_at hz (.inr h))
   ·intro h
    by_cases q1 : hblk z.1 = some g
    ·exact .inl (.inr q1)
    ·by_cases q2 : hblk z.2 = some g
     ·exact .inr q2
     ·exact .inl (.inl ⟨⟨h, q1⟩, q2⟩)
  refine ⟨p.length - (i + 1), by omega, i + 1, β17, rfl, by omega, ⟨by rw [← eM]; exact h17.again rfl, below_on (below_on (below_on hh.below h6.below fun g hg => hh.freshB g hg) hC.below hfA) h17.below fun g hg => hfC g (owned_undead (owned_undead hg)), fun j y hy => ?_, fun g hg => ?_⟩⟩
  ·by_cases e : j = i
   ·subst e
    rw [hz] at hy
    cases hy
    have e2 : ∀ l, dnA (decide (j < j + 1)) l = oneA l := fun l => by simp [dnA]
    rw [e2, e2, hEI, hEO]
    exact ⟨(InnAt.of hox).to fun g hg => h17.below.block g (Nat.lt_of_lt_of_le (by have := (hk6 g (inBk_at hz (.inl hg))).1; omega) hC.below.size) fun ho => (h17.out g ho).1 (.inl (.inr hg)),
     (InnAt.of hoy).to fun g hg => h17.below.block g (Nat.lt_of_lt_of_le (by have := (hk6 g (inBk_at hz (.inr hg))).1; omega) hC.below.size) fun ho => (h17.out g ho).1 (.inr hg)⟩
   ·obtain ⟨q1, q2⟩ := hh.inn j y hy
    have e2 : decide (j < i + 1) = decide (j < i) := by
     by_cases h : j < i
     ·rw [decide_eq_true h, decide_eq_true (by omega)]
     ·rw [decide_eq_false h, decide_eq_false (by omega)]
    rw [e2]
    have key : ∀ g, (hblk y.1 = some g ∨ hblk y.2 = some g) → w17.heap[g]? = w.heap[g]? := fun g hg => by
     obtain ⟨z1, z2⟩ := hk6 g (inBk_at hy hg)
     have hno := hoth j y hy e g hg
     rw [h17.below.block g (Nat.lt_of_lt_of_le (by omega) hC.below.size) fun ho => ?_, hC.below.block g (by omega) hno, z2]
     rcases (hC.fresh g (owned_undead (owned_undead ho))).1 with h | h
     ·exact hno h
     ·omega
    exact ⟨q1.to fun g hg => key g (.inl hg), q2.to fun g hg => key g (.inr hg)⟩
  ·rcases (h17.fresh g hg).1 with h | h
   ·exact hfC g (owned_undead (owned_undead h))
   ·have := hC.below.size
    omega
 have hie : i = p.length := by omega
 subst hie
 refine wp_seq (seg Ty_ok mixed (s1 := ⟨185, (34, .one (.bool false)) :: lwS p.length p.length, lwH s p, 0⟩) ⟨β, hh.sim⟩ ?_ fun a1 w1 h1 => ?_)
 ·have hd : decide ((p.length : Int) < (p.length : Int)) = false := decide_eq_false (by omega)
  simp only [lwH, lwS]
  (repeat' (first | (with_reducible first | exact True.intro | refine And.intro ?_ ?_ | refine aBl ?_ | (refine aS 16 [32, 42, 43, 62, 63, 33, 101, 100, 107, 106, 108, 102, 17, 18, 20, 19, 167, 166, 22, 25, 24, 168] ?_; intro K hK)) | ((with_reducible first | refine aGo ?_); simp only [hd, go_sem]) | ((with_reducible refine aCd ?_ ?_ (fun hb => ?_) (fun hb => ?_)); (iterate 2 simp only [hd, go_sem]); all_goals (simp only [hd, go_sem] at hb; try simp only [bls] at hb)) | ((iterate 6 try ((fail_if_success with_reducible refine hK _ ?_ ?_ ?_); clear hK K)); with_reducible refine hK _ ?_ ?_ ?_; rotate_left; (focus (simp only [hd, go_sem]; exact rfl)); clear hK K) | (with_reducible refine aGs (fun hg0 => ?_) (fun hg0 => ?_) <;> first | (with_reducible first | exact aF1 hg0 | exact aF2 hg0) | (simp only [hg0, hd, go_sem])) | (with_reducible refine aNk ?_; intro bnil hnil; try simp only []) | exact aZ | fail))
  all_goals first | omega | skip
  simp only [ends]
  (simp only [SubF, go_sem]; (try simp only [go_sem]); repeat' (first | exact True.intro | with_reducible refine And.intro ?_ ?_ | rfl | omega))
 refine wp_seq (segX Ty_ok mixed (s2 := ⟨185, lwS p.length p.length, lwH s p, 0⟩) (k := 0) h1 ?_ fun aX wX hX => ?_)
 ·simp only [lwH, lwS]
  (repeat' (first | (with_reducible first | exact True.intro | refine And.intro ?_ ?_ | refine aBl ?_ | (refine aS 16 [32, 42, 43, 62, 63, 33, 101, 100, 107, 106, 108, 102, 17, 18, 20, 19, 167, 166, 22, 25, 24, 168] ?_; intro K hK)) | ((with_reducible first | refine aGo ?_); simp only [go_sem]) | ((with_reducible refine aCd ?_ ?_ (fun hb => ?_) (fun hb => ?_)); (iterate 2 simp only [go_sem]); all_goals (simp only [go_sem] at hb; try simp only [bls] at hb)) | ((iterate 6 try ((fail_if_success with_reducible refine hK _ ?_ ?_ ?_); clear hK K)); with_reducible refine hK _ ?_ ?_ ?_; rotate_left; (focus (simp only [go_sem]; exact rfl)); clear hK K) | (with_reducible refine aGs (fun hg0 => ?_) (fun hg0 => ?_) <;> first | (with_reducible first | exact aF1 hg0 | exact aF2 hg0) | (simp only [hg0, go_sem])) | (with_reducible refine aNk ?_; intro bnil hnil; try simp only []) | exact aZ | fail))
  all_goals first | omega | skip
  simp only [awp, endsX]
  (simp only [SubF, go_sem]; (try simp only [go_sem]); repeat' (first | exact True.intro | with_reducible refine And.intro ?_ ?_ | rfl | omega))
 clear h1
 obtain ⟨βX, hX⟩ := hX
 have hlX : βX.length = 4 := hX.len
 have hno : ∀ g, inBk (flatP p) g → g < wX.heap.size ∧ ¬ Mof M βX g ∧ wX.heap[g]? = w.heap[g]? := fun g hg => by
  have h1 := hh.sim.m0.1 g (.inr hg)
  refine ⟨Nat.lt_of_lt_of_le h1 hX.below.size, ?_, hX.below.block g h1 fun ho => (hX.out g ho).1 (.inr hg)⟩
  rintro (hm | hm)
  ·have := hM.1 g hm
   have := hfr0 g hg
   omega
  ·exact hX.disj hm (.inr hg)
 have hR : Sim wX M βX ⟨185, lwS p.length p.length, [.var 25 (bytesD 37 s), .row 3 1 (ints (initL s (np s))), .row 34 3 (trsD (oneN (makeNet s)).trs), .var 30 [.own 1, .own 2]], 0⟩ aX wX βX := by
  have hMM : ∀ g, Mof M βX g → Mof (fun g => M g ∨ inBk (flatP p) g) βX g := fun g hg => hg.imp .inl id
  have hgr : Grow wX (Mof (fun g => M g ∨ inBk (flatP p) g) βX) βX wX (Mof M βX) βX := ⟨⟨Nat.le_refl _, fun _ _ _ => rfl, fun g _ hm hm' => hm (hMM g hm')⟩, fun _ _ h => h⟩
  refine hX.renew (Eng.Below.refl _ _) hX.size hX.defers (Nat.zero_le _) (fun g _ => hMM g) (fun g hg => ?_) hlX (fun t o x q1 q2 => ?_) hX.dist (fun j v hv => ?_) fun g hg hm => hX.disj hg (.inl hm)
  ·rcases hg with hg | hg
   ·exact Nat.lt_of_lt_of_le (hX.m0.1 g (.inl hg)) hX.below.size
   ·exact (hX.fresh g hg).2
  ·match t, q1 with
   | 0, q1 => cases q1; exact (hX.objs 0 _ x rfl q2).grow hgr fun _ _ => rfl
   | 1, q1 => cases q1; exact (hX.objs 1 _ x rfl q2).grow hgr fun _ _ => rfl
   | 3, q1 => cases q1; exact (hX.objs 3 _ x rfl q2).grow hgr fun _ _ => rfl
   | 2, q1 =>
    cases q1
    obtain ⟨A, c, rfl, h2, h3, h4⟩ := hX.objs 2 _ x rfl q2
    rw [← trR_net s hpl]
    have hl1 : (trsD (trR s 0 p)).length = (rawT s 0 p).length := by rw [hlt, trs_length, trR_eq, List.length_map, List.length_range']
    refine ⟨A, c, by rw [hl1], by rw [hl1]; exact h2, h3, h4.imp id ?_⟩
    rintro ⟨hc, g, cur, rfl, r1, r2, r3⟩
    refine ⟨hc, g, cur, rfl, r1, r2, raw_rows p 0 0 (fun i z hz => ?_) r3⟩
    obtain ⟨k1, k2⟩ := hh.inn i z hz
    have hil := (List.getElem?_eq_some_iff.1 hz).1
    have e : ∀ l, dnA (decide (i < p.length)) l = oneA l := fun l => by simp [dnA, hil]
    rw [e] at k1 k2
    rw [Nat.zero_add]
    exact ⟨inn_list (k1.to fun g hg => (hno g (inBk_at hz (.inl hg))).2.2) fun g hg => ⟨(hno g (inBk_at hz (.inl hg))).1, (hno g (inBk_at hz (.inl hg))).2.1⟩,
     inn_list (k2.to fun g hg => (hno g (inBk_at hz (.inr hg))).2.2) fun g hg => ⟨(hno g (inBk_at hz (.inr hg))).1, (hno g (inBk_at hz (.inr hg))).2.1⟩⟩
  ·obtain ⟨x, q1, q2⟩ := hX.slots j v hv
   exact ⟨x, q1, q2.grow hgr _ _⟩
 have hbX : Eng.Below w0.heap.size w0 wX := below_on hh.below hX.below fun g hg => hh.freshB g hg
 have hfX : ∀ g, owned βX g → w0.heap.size ≤ g := fun g hg => by
  rcases (hX.fresh g hg).1 with h | h
  ·exact hh.freshB g h
  ·have := hh.below.size; omega
 have hn0 := netOk_of (makeNet_ok s hs)
 have hok := one_ok hn0
 have h1s := one_ones (makeNet s)
 have hini : initL s (np s) = (oneN (makeNet s)).init := rfl
 rw [hini] at hR
 have hne : (oneN (makeNet s)).init ≠ [] := (shape_net s hs).2.2.2.2.2
 generalize oneN (makeNet s) = n at hR hok h1s hne
 clear hX hh hno hini
 refine wp_mono (awp_sound Ty_ok mixed _ _ (retR Ty [.tmp 2] (.one (.bool true))) _ _ ⟨βX, hR⟩ ?_) ?_
 ·have hfit := hok.fits
  have hi10 := hok.init
  have ht10 := hok.trs
  have hD := Dead_c n hfit hne
  have h0 := netE_of hok
  have hsi : siE n [] 1 = 0 := by
   have hc : checkSet [] (n.init.length : Int) = 0 := rfl
   rw [siE, if_neg (by omega), if_neg (by omega), if_neg (by omega)]
  have hC := Commoner_c n hfit fun _ => hne
  have hMi := Minimal_c n 1 hfit fun _ => hne
  rw [hsi] at hC
  rw [if_pos hsi, hsi] at hMi
  have hbe := fun e => bnd_errs (n := n) (e := e) h0
  simp only [Net.d] at hD hC hMi
  simp only [lwS]
  (repeat' (first | (with_reducible first | exact True.intro | refine And.intro ?_ ?_ | refine aBl ?_ | (refine aS 16 [32, 42, 43, 62, 63, 33, 101, 100, 107, 106, 108, 102, 17, 18, 20, 19, 167, 166, 22, 25, 24, 168] ?_; intro K hK)) | ((with_reducible first | refine aGo ?_); simp only [go_sem]) | ((with_reducible refine aCd ?_ ?_ (fun hb => ?_) (fun hb => ?_)); (iterate 2 simp only [go_sem]); all_goals (simp only [go_sem] at hb; try simp only [bls] at hb)) | ((iterate 6 try ((fail_if_success with_reducible refine hK _ ?_ ?_ ?_); clear hK K)); with_reducible refine hK _ ?_ ?_ ?_; rotate_left; (focus (simp only [go_sem]; exact rfl)); clear hK K) | (with_reducible refine aGs (fun hg0 => ?_) (fun hg0 => ?_) <;> first | (with_reducible first | exact aF1 hg0 | exact aF2 hg0) | (simp only [hg0, go_sem])) | (with_reducible refine aNk ?_; intro bnil hnil; try simp only []) | exact aZ | fail))
  all_goals first | omega | skip
  cases hB : bndF n with
  | inl e =>
   have hbe := hbe e hB
   rw [hB] at hD
   simp only [ddR] at hD
   (refine MCallAt_i [1, 2] [] (calls_toM hD) ?_ ?_; (focus (simp only [mside, handOk, go_sem]; (first | done | exact (by decide) | exact ⟨by decide, fun t ht => ht.elim⟩ | (refine ⟨by decide, ?_⟩; simp; done)))); simp only [go_sem])
   (repeat' (first | (with_reducible first | exact True.intro | refine And.intro ?_ ?_ | refine aBl ?_ | (refine aS 16 [32, 42, 43, 62, 63, 33, 101, 100, 107, 106, 108, 102, 17, 18, 20, 19, 167, 166, 22, 25, 24, 168] ?_; intro K hK)) | ((with_reducible first | refine aGo ?_); simp only [go_sem]) | ((with_reducible refine aCd ?_ ?_ (fun hb => ?_) (fun hb => ?_)); (iterate 2 simp only [go_sem]); all_goals (simp only [go_sem] at hb; try simp only [bls] at hb)) | ((iterate 6 try ((fail_if_success with_reducible refine hK _ ?_ ?_ ?_); clear hK K)); with_reducible refine hK _ ?_ ?_ ?_; rotate_left; (focus (simp only [go_sem]; exact rfl)); clear hK K) | (with_reducible refine aGs (fun hg0 => ?_) (fun hg0 => ?_) <;> first | (with_reducible first | exact aF1 hg0 | exact aF2 hg0) | (simp only [hg0, go_sem])) | (with_reducible refine aNk ?_; intro bnil hnil; try simp only []) | exact aZ | fail))
   all_goals first | omega | skip
   rcases hbe with rfl | rfl <;> rfl
  | inr r =>
   obtain ⟨nd, ed⟩ := r
   rw [hB] at hD
   simp only [ddR] at hD
   obtain ⟨_, hN, hnl⟩ := bnd_ok hB
   have hdk : ∀ a ∈ deadsF n nd, a.length = n.init.length ∧ (∀ x ∈ a, 0 ≤ x ∧ x ≤ 65536) ∧ ableL n a n.trs.length = [] := fun a ha => by
    obtain ⟨x, hx, rfl⟩ := List.mem_map.1 ha
    obtain ⟨x1, x2⟩ := List.mem_filter.1 hx
    rw [stuckB, decide_eq_true_eq] at x2
    exact ⟨hN.len x x1, hN.tok x x1, List.eq_nil_of_length_eq_zero x2⟩
   have hdl : (deadsF n nd).length ≤ 4096 := by
    have := List.length_filter_le (stuckB n) nd
    rw [deadsF, List.length_map]; omega
   have hcm := fun h => com_ok hB h1s h
   (refine MCallAt_i [1, 2] [] (calls_toM hD) ?_ ?_; (focus (simp only [mside, handOk, go_sem]; (first | done | exact (by decide) | exact ⟨by decide, fun t ht => ht.elim⟩ | (refine ⟨by decide, ?_⟩; simp; done)))); simp only [go_sem])
   by_cases htz : n.trs.length = 0
   ·(repeat' (first | (with_reducible first | exact True.intro | refine And.intro ?_ ?_ | refine aBl ?_ | (refine aS 16 [32, 42, 43, 62, 63, 33, 101, 100, 107, 106, 108, 102, 17, 18, 20, 19, 167, 166, 22, 25, 24, 168] ?_; intro K hK)) | ((with_reducible first | refine aGo ?_); simp only [trs_length, htz, go_sem]) | ((with_reducible refine aCd ?_ ?_ (fun hb => ?_) (fun hb => ?_)); (iterate 2 simp only [trs_length, htz, go_sem]); all_goals (simp only [trs_length, htz, go_sem] at hb; try simp only [bls] at hb)) | ((iterate 6 try ((fail_if_success with_reducible refine hK _ ?_ ?_ ?_); clear hK K)); with_reducible refine hK _ ?_ ?_ ?_; rotate_left; (focus (simp only [trs_length, htz, go_sem]; exact rfl)); clear hK K) | (with_reducible refine aGs (fun hg0 => ?_) (fun hg0 => ?_) <;> first | (with_reducible first | exact aF1 hg0 | exact aF2 hg0) | (simp only [hg0, trs_length, htz, go_sem])) | (with_reducible refine aNk ?_; intro bnil hnil; try simp only []) | exact aZ | fail))
    all_goals first | omega | skip
    all_goals done
   ·have hcm := hcm (by omega)
    generalize deadsF n nd = DL at *
    (repeat' (first | (with_reducible first | exact True.intro | refine And.intro ?_ ?_ | refine aBl ?_ | (refine aS 16 [32, 42, 43, 62, 63, 33, 101, 100, 107, 106, 108, 102, 17, 18, 20, 19, 167, 166, 22, 25, 24, 168] ?_; intro K hK)) | ((with_reducible first | refine aGo ?_); simp only [trs_length, go_sem]) | ((with_reducible refine aCd ?_ ?_ (fun hb => ?_) (fun hb => ?_)); (iterate 2 simp only [trs_length, go_sem]); all_goals (simp only [trs_length, go_sem] at hb; try simp only [bls] at hb)) | ((iterate 6 try ((fail_if_success with_reducible refine hK _ ?_ ?_ ?_); clear hK K)); with_reducible refine hK _ ?_ ?_ ?_; rotate_left; (focus (simp only [trs_length, go_sem]; exact rfl)); clear hK K) | (with_reducible refine aGs (fun hg0 => ?_) (fun hg0 => ?_) <;> first | (with_reducible first | exact aF1 hg0 | exact aF2 hg0) | (simp only [hg0, trs_length, go_sem])) | (with_reducible refine aNk ?_; intro bnil hnil; try simp only []) | exact aZ | fail))
    all_goals first | omega | skip
    refine awp_loop _ (by simp only [go_sem]; rfl) Nat (fun k => k ≤ DL.length) (fun k => [(102, .one (.int .i64 k))]) (fun _ H => H) (fun k => DL.length - k) 0 (by omega) ?_ ?_
    ·(simp only [SubF, go_sem]; (try simp only [go_sem]); repeat' (first | exact True.intro | with_reducible refine And.intro ?_ ?_ | rfl | omega))
    rintro k hk L2 hL2
    by_cases hlt : k < DL.length
    ·have hq2 : ((k : Nat) : Int).toNat = k := by omega
     have b1 := words_at (l := DL) hlt [.nil]
     have b2 := words_at (l := DL) hlt []
     obtain ⟨d1, d2, d3⟩ := hdk _ (getD_mem DL k [] hlt)
     generalize DL.getD k [] = m at *
     have hdi := dead_in hok h1s (by omega) d1 d2 d3
     simp only [go_sem] at hL2 ⊢
     (repeat' (first | (with_reducible first | exact True.intro | refine And.intro ?_ ?_ | refine aBl ?_ | (refine aS 16 [32, 42, 43, 62, 63, 33, 101, 100, 107, 106, 108, 102, 17, 18, 20, 19, 167, 166, 22, 25, 24, 168] ?_; intro K hK)) | ((with_reducible first | refine aGo ?_); simp only [hq2, b1, b2, go_sem]) | ((with_reducible refine aCd ?_ ?_ (fun hb => ?_) (fun hb => ?_)); (iterate 2 simp only [hq2, b1, b2, go_sem]); all_goals (simp only [hq2, b1, b2, go_sem] at hb; try simp only [bls] at hb)) | ((iterate 6 try ((fail_if_success with_reducible refine hK _ ?_ ?_ ?_); clear hK K)); with_reducible refine hK _ ?_ ?_ ?_; rotate_left; (focus (simp only [hq2, b1, b2, go_sem]; exact rfl)); clear hK K) | (with_reducible refine aGs (fun hg0 => ?_) (fun hg0 => ?_) <;> first | (with_reducible first | exact aF1 hg0 | exact aF2 hg0) | (simp only [hg0, hq2, b1, b2, go_sem])) | (with_reducible refine aNk ?_; intro bnil hnil; try simp only []) | exact aZ | fail))
     all_goals first | omega | skip
     refine awp_loop _ (by simp only [go_sem]; rfl) Nat (fun q => q ≤ m.length) (fun q => [(11, .one (.own 4)), (108, .one (.int .i64 q))]) (fun q _ => [.var 25 (bytesD 37 s), .gone, .gone, .var 30 [.list (ints n.init), .list (trsD n.trs)], .row 3 1 (ints (zeroK m q))]) (fun q => m.length - q) 0 (by omega) ?_ ?_
     ·have e0 : ints (zeroK m 0) = [] := rfl
      rw [e0]
      (simp only [SubF, go_sem]; (try simp only [go_sem]); repeat' (first | exact True.intro | with_reducible refine And.intro ?_ ?_ | rfl | omega))
     rintro q hq L3 hL3
     have hzk := zeroK_length m q
     have hs3 := zeroK_succ m q
     by_cases hltp : q < m.length
     ·have hq3 : ((q : Nat) : Int).toNat = q := by omega
      have c1 := ints_at (l := m) hltp
      simp only [go_sem] at hL3 ⊢
      (repeat' (first | (with_reducible first | exact True.intro | refine And.intro ?_ ?_ | refine aBl ?_ | (refine aS 16 [32, 42, 43, 62, 63, 33, 101, 100, 107, 106, 108, 102, 17, 18, 20, 19, 167, 166, 22, 25, 24, 168] ?_; intro K hK)) | ((with_reducible first | refine aGo ?_); simp only [hq3, c1, go_sem]) | ((with_reducible refine aCd ?_ ?_ (fun hb => ?_) (fun hb => ?_)); (iterate 2 simp only [hq3, c1, go_sem]); all_goals (simp only [hq3, c1, go_sem] at hb; try simp only [bls] at hb)) | ((iterate 6 try ((fail_if_success with_reducible refine hK _ ?_ ?_ ?_); clear hK K)); with_reducible refine hK _ ?_ ?_ ?_; rotate_left; (focus (simp only [hq3, c1, go_sem]; exact rfl)); clear hK K) | (with_reducible refine aGs (fun hg0 => ?_) (fun hg0 => ?_) <;> first | (with_reducible first | exact aF1 hg0 | exact aF2 hg0) | (simp only [hg0, hq3, c1, go_sem])) | (with_reducible refine aNk ?_; intro bnil hnil; try simp only []) | exact aZ | fail))
      all_goals first | omega | skip
      ·rw [if_pos hb] at hs3
       simp only [ints_one, ints_append, ← hs3]
       exact hL3 _ (q + 1) (by omega) (by (simp only [SubF, go_sem]; (try simp only [go_sem]); repeat' (first | exact True.intro | with_reducible refine And.intro ?_ ?_ | rfl | omega))) (by omega)
      ·rw [if_neg hb, List.append_nil] at hs3
       simp only [← hs3]
       exact hL3 _ (q + 1) (by omega) (by (simp only [SubF, go_sem]; (try simp only [go_sem]); repeat' (first | exact True.intro | with_reducible refine And.intro ?_ ?_ | rfl | omega))) (by omega)
     ·have : q = m.length := by omega
      subst this
      rw [show zeroK m m.length = zeroL m from rfl] at hzk ⊢
      have hEm := Empty_c n m hfit (by omega)
      have hEq := EqualInts_c (zeroL m) (zeroL m) (by omega)
      rw [hdi.emp, hdi.mark] at hEm
      have hpos0 := List.length_pos_iff.2 hdi.ne
      generalize zeroL m = Z at *
      simp only [Net.d, decide_true] at hEm hEq
      simp only [go_sem] at hL2 ⊢
      (repeat' (first | (with_reducible first | exact True.intro | refine And.intro ?_ ?_ | refine aBl ?_ | (refine aS 16 [32, 42, 43, 62, 63, 33, 101, 100, 107, 106, 108, 102, 17, 18, 20, 19, 167, 166, 22, 25, 24, 168] ?_; intro K hK)) | ((with_reducible first | refine aGo ?_); simp only [go_sem]) | ((with_reducible refine aCd ?_ ?_ (fun hb => ?_) (fun hb => ?_)); (iterate 2 simp only [go_sem]); all_goals (simp only [go_sem] at hb; try simp only [bls] at hb)) | ((iterate 6 try ((fail_if_success with_reducible refine hK _ ?_ ?_ ?_); clear hK K)); with_reducible refine hK _ ?_ ?_ ?_; rotate_left; (focus (simp only [go_sem]; exact rfl)); clear hK K) | ((first | (with_reducible first | refine xA ?_ | refine xD ?_ | refine xO ?_ | refine xR ?_ | refine xG ?_ | refine xH ?_ | refine xM ?_) | ((with_reducible refine gA ?_); refine xA ?_) | ((with_reducible refine gD ?_); refine xD ?_) | ((with_reducible refine gG ?_); refine xG ?_)); simp only [go_sem]) | (with_reducible refine aGs (fun hg0 => ?_) (fun hg0 => ?_) <;> first | (with_reducible first | exact aF1 hg0 | exact aF2 hg0) | (simp only [hg0, go_sem])) | (with_reducible refine aNk ?_; intro bnil hnil; try simp only []) | exact aZ | fail))
      all_goals first | omega | skip
      exact hL2 _ (k + 1) (by omega) (by (simp only [SubF, go_sem]; (try simp only [go_sem]); repeat' (first | exact True.intro | with_reducible refine And.intro ?_ ?_ | rfl | omega))) (by omega)
    ·cases hch : comH n with
     | false =>
      rw [hch] at hC
      simp only [go_sem] at hL2 ⊢
      (repeat' (first | (with_reducible first | exact True.intro | refine And.intro ?_ ?_ | refine aBl ?_ | (refine aS 16 [32, 42, 43, 62, 63, 33, 101, 100, 107, 106, 108, 102, 17, 18, 20, 19, 167, 166, 22, 25, 24, 168] ?_; intro K hK)) | ((with_reducible first | refine aGo ?_); simp only [go_sem]) | ((with_reducible refine aCd ?_ ?_ (fun hb => ?_) (fun hb => ?_)); (iterate 2 simp only [go_sem]); all_goals (simp only [go_sem] at hb; try simp only [bls] at hb)) | ((iterate 6 try ((fail_if_success with_reducible refine hK _ ?_ ?_ ?_); clear hK K)); with_reducible refine hK _ ?_ ?_ ?_; rotate_left; (focus (simp only [go_sem]; exact rfl)); clear hK K) | ((first | (with_reducible first | refine xA ?_ | refine xD ?_ | refine xO ?_ | refine xR ?_ | refine xG ?_ | refine xH ?_ | refine xM ?_) | ((with_reducible refine gA ?_); refine xA ?_) | ((with_reducible refine gD ?_); refine xD ?_) | ((with_reducible refine gG ?_); refine xG ?_)); simp only [go_sem]) | (with_reducible refine aGs (fun hg0 => ?_) (fun hg0 => ?_) <;> first | (with_reducible first | exact aF1 hg0 | exact aF2 hg0) | (simp only [hg0, go_sem])) | (with_reducible refine aNk ?_; intro bnil hnil; try simp only []) | exact aZ | fail))
      all_goals first | omega | skip
     | true =>
      rw [hch] at hC
      have hcn : comO n = none := by
       rw [comH, Bool.and_eq_true, Option.isNone_iff_eq_none] at hch
       exact hch.2
      obtain ⟨hkey, hDL⟩ := hcm hcn
      subst hDL
      have hml := minL_length 1 n
      have hpw : 2 ^ n.init.length ≤ 2 ^ 10 := Nat.pow_le_pow_right (by omega) hi10
      have hEd : ∀ s ∈ minL 1 n, ACalls Tryd.prog 11 [.agg [.list (ints n.init), .list (trsD n.trs)], .one (.list (ints s))] (.tup [.one (.list []), .one (.bool false), .one (.int .i64 0)]) [] := fun s hs => by
       have h1 := Emptied_c n s hfit (fun _ => hne) (by have := (setsY_el (minL_el hs).1).1; omega)
       rw [em_none hB hs (hkey s hs)] at h1
       exact h1
      generalize minL 1 n = L at *
      simp only [go_sem] at hL2 ⊢
      (repeat' (first | (with_reducible first | exact True.intro | refine And.intro ?_ ?_ | refine aBl ?_ | (refine aS 16 [32, 42, 43, 62, 63, 33, 101, 100, 107, 106, 108, 102, 17, 18, 20, 19, 167, 166, 22, 25, 24, 168] ?_; intro K hK)) | ((with_reducible first | refine aGo ?_); simp only [go_sem]) | ((with_reducible refine aCd ?_ ?_ (fun hb => ?_) (fun hb => ?_)); (iterate 2 simp only [go_sem]); all_goals (simp only [go_sem] at hb; try simp only [bls] at hb)) | ((iterate 6 try ((fail_if_success with_reducible refine hK _ ?_ ?_ ?_); clear hK K)); with_reducible refine hK _ ?_ ?_ ?_; rotate_left; (focus (simp only [go_sem]; exact rfl)); clear hK K) | ((first | (with_reducible first | refine xA ?_ | refine xD ?_ | refine xO ?_ | refine xR ?_ | refine xG ?_ | refine xH ?_ | refine xM ?_) | ((with_reducible refine gA ?_); refine xA ?_) | ((with_reducible refine gD ?_); refine xD ?_) | ((with_reducible refine gG ?_); refine xG ?_)); simp only [go_sem]) | (with_reducible refine aGs (fun hg0 => ?_) (fun hg0 => ?_) <;> first | (with_reducible first | exact aF1 hg0 | exact aF2 hg0) | (simp only [hg0, go_sem])) | (with_reducible refine aNk ?_; intro bnil hnil; try simp only []) | exact aZ | fail))
      all_goals first | omega | skip
      refine awp_loop _ (by simp only [go_sem]; rfl) Nat (fun j => j ≤ L.length) (fun j => [(168, .one (.int .i64 j))]) (fun _ H => H) (fun j => L.length - j) 0 (by omega) ?_ ?_
      ·(simp only [SubF, go_sem]; (try simp only [go_sem]); repeat' (first | exact True.intro | with_reducible refine And.intro ?_ ?_ | rfl | omega))
      rintro j hj L4 hL4
      by_cases hlj : j < L.length
      ·have hq2 : ((j : Nat) : Int).toNat = j := by omega
       have b1 := words_at (l := L) hlj [.nil]
       have b2 := words_at (l := L) hlj []
       have hE1 := hEd _ (getD_mem L j [] hlj)
       generalize L.getD j [] = m at *
       simp only [go_sem] at hL4 ⊢
       (repeat' (first | (with_reducible first | exact True.intro | refine And.intro ?_ ?_ | refine aBl ?_ | (refine aS 16 [32, 42, 43, 62, 63, 33, 101, 100, 107, 106, 108, 102, 17, 18, 20, 19, 167, 166, 22, 25, 24, 168] ?_; intro K hK)) | ((with_reducible first | refine aGo ?_); simp only [hq2, b1, b2, go_sem]) | ((with_reducible refine aCd ?_ ?_ (fun hb => ?_) (fun hb => ?_)); (iterate 2 simp only [hq2, b1, b2, go_sem]); all_goals (simp only [hq2, b1, b2, go_sem] at hb; try simp only [bls] at hb)) | ((iterate 6 try ((fail_if_success with_reducible refine hK _ ?_ ?_ ?_); clear hK K)); with_reducible refine hK _ ?_ ?_ ?_; rotate_left; (focus (simp only [hq2, b1, b2, go_sem]; exact rfl)); clear hK K) | ((first | (with_reducible first | refine xA ?_ | refine xD ?_ | refine xO ?_ | refine xR ?_ | refine xG ?_ | refine xH ?_ | refine xM ?_) | ((with_reducible refine gA ?_); refine xA ?_) | ((with_reducible refine gD ?_); refine xD ?_) | ((with_reducible refine gG ?_); refine xG ?_)); simp only [hq2, b1, b2, go_sem]) | (with_reducible refine aGs (fun hg0 => ?_) (fun hg0 => ?_) <;> first | (with_reducible first | exact aF1 hg0 | exact aF2 hg0) | (simp only [hg0, hq2, b1, b2, go_sem])) | (with_reducible refine aNk ?_; intro bnil hnil; try simp only []) | exact aZ | fail))
       all_goals first | omega | skip
       exact hL4 _ (j + 1) (by omega) (by (simp only [SubF, go_sem]; (try simp only [go_sem]); repeat' (first | exact True.intro | with_reducible refine And.intro ?_ ?_ | rfl | omega))) (by omega)
      ·simp only [go_sem] at hL4 ⊢
       (repeat' (first | (with_reducible first | exact True.intro | refine And.intro ?_ ?_ | refine aBl ?_ | (refine aS 16 [32, 42, 43, 62, 63, 33, 101, 100, 107, 106, 108, 102, 17, 18, 20, 19, 167, 166, 22, 25, 24, 168] ?_; intro K hK)) | ((with_reducible first | refine aGo ?_); simp only [go_sem]) | ((with_reducible refine aCd ?_ ?_ (fun hb => ?_) (fun hb => ?_)); (iterate 2 simp only [go_sem]); all_goals (simp only [go_sem] at hb; try simp only [bls] at hb)) | ((iterate 6 try ((fail_if_success with_reducible refine hK _ ?_ ?_ ?_); clear hK K)); with_reducible refine hK _ ?_ ?_ ?_; rotate_left; (focus (simp only [go_sem]; exact rfl)); clear hK K) | (with_reducible refine aGs (fun hg0 => ?_) (fun hg0 => ?_) <;> first | (with_reducible first | exact aF1 hg0 | exact aF2 hg0) | (simp only [hg0, go_sem])) | (with_reducible refine aNk ?_; intro bnil hnil; try simp only []) | exact aZ | fail))
       all_goals first | omega | skip
 rintro e a' w' ⟨σ', hq, β', hs'⟩
 cases e with
 | ret =>
  refine hQ a' w' hs'.defers ?_
  obtain ⟨v, r1, rfl⟩ := ret_flat (P := Tryd.prog) Ty_ok (congrArg Array.toList Tryd.results3) hs' hq
  exact ⟨_, r1, _, [], rfl, below_on hbX hs'.below hfX, rfl, fun t o x ho => by simp at ho, fun g ⟨t, x, h, _⟩ => by simp at h, fun t t' x x' g h1 => by simp at h1, rfl⟩
 | _ => exact hq.elim
theorem SiphonDead_c (s : Nat → Int) (hs : Bytes s) : ACalls Tryd.prog 3 [.agg (bytesD 37 s)] (.one (.bool true)) [] := ⟨by kernel_rfl, fun w M vs hM hv => law_one s hs w M vs hM hv⟩
end Go.Proofs.YtljpfdehnjemlaaDoor
