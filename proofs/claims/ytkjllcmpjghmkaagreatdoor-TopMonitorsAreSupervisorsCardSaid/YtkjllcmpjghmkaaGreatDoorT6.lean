/-
 Contracts: synthesis.result (for controllability alone).
-/
import Derived.Test.YtkjllcmpjghmkaaGreatDoorT4
import Derived.Test.YtkjllcmpjghmkaaGreatDoorT5
set_option linter.unusedSimpArgs false
set_option linter.unusedVariables false
namespace Go.Proofs.YtkjllcmpjghmkaaGreatDoor
open Go.Eng Go.RowKit
def cloN (u : List Int) (es : List Edg) : Nat → Int → List Bool → List Rmv → Int → List Rmv × Int
 | 0, _, _, rems, r => (rems, r)
 | f + 1, rank, left, rems, r => if (lostF u left rank es []).length = 0 then (rems, r) else cloN u es f (rank + 1) (z0o ((lostF u left rank es []).map Rmv.st) left) (rems ++ lostF u left rank es []) rank
def keptL (left : List Bool) (k : Nat) : List Int := ((List.range k).filter fun j => left.getD j false).map Int.ofNat
theorem zdE (left : List Bool) (k : Nat) : keptL left (k + 1) = keptL left k ++ if left.getD k false = true then [(k : Int)] else [] := by
 rw [keptL, List.range_succ, List.filter_append, List.map_append, ← keptL]
 congr 1
 rw [List.filter_cons, List.filter_nil]
 cases left.getD k false <;> simp
theorem za4 (left : List Bool) (k : Nat) : (keptL left k).length ≤ k := by
 rw [keptL, List.length_map]
 exact Nat.le_trans (List.length_filter_le _ _) (by simp)
def rems0 (bad : List Int) : List Rmv := bad.map fun x => ⟨x, 1, 1, -1⟩
theorem zdj (l : List Int) (x : Int) : rmvsD (rems0 l) ++ [[.int .i64 x, .int .i64 1, .int .i64 1, .int .i64 (-1)]] = rmvsD (rems0 (l ++ [x])) := by simp [rmvsD, rems0, Rmv.d]
def resL (a : Aut) (bad u : List Int) (N : Nat) : List Bool := cloF u a.edges (N + 1) 2 (left0 N bad)
def resN (a : Aut) (bad u : List Int) (N : Nat) : List Rmv × Int := cloN u a.edges (N + 1) 2 (left0 N bad) (rems0 bad) (if bad.length = 0 then 0 else 1)
def unkL (n : Nat) : List (List D) := List.replicate n [.unk, .unk, .unk, .unk]
def resD (A : Aut) (O K : List Int) (R : List Rmv × Int) : List D := [.list (ints K), .list (ints (List.replicate K.length (-1))), .list (unkL R.1.length), .int .i64 R.2, .list (ints A.alph), .int .i64 A.states, .list (ints A.marked), .list (edgsD A.edges), .list (ints O)]
def resD0 (a : Aut) (bad u : List Int) (N : Nat) : List D := resD (supA a (resL a bad u N)) (supO a (resL a bad u N)).1 (keptL (resL a bad u N) N) (resN a bad u N)
theorem zd3 (n : Nat) : (unkL n).length = n := by simp [unkL]
theorem zim (l : List Rmv) : (∀ r : List D, r ∈ rmvsD l → r.length = 4) ↔ True := ⟨fun _ => trivial, fun _ r hr => by
 obtain ⟨x, _, rfl⟩ := List.mem_map.1 hr; rfl⟩
attribute [go_sem] zim
def rsA (a : Aut) (N : Nat) : AObj := .var 41 [.list (ints a.alph), .int .i64 N, .list (ints a.marked), .list (edgsD a.edges)]
def rsZ : AObj := .var 52 [.nil, .nil, .nil, .int .i64 0, .nil, .int .i64 0, .nil, .nil, .nil]
def rsP (a : Aut) (N : Nat) (u : List Int) : AObj := .var 147 [.list (ints a.alph), .int .i64 N, .list (ints a.marked), .list (edgsD a.edges), .list (ints u), .unk, .own 3]
def rsR (r : Int) : AObj := .var 52 [.nil, .nil, .own 5, .int .i64 r, .nil, .int .i64 0, .nil, .nil, .nil]
set_option maxRecDepth 20000 in
set_option maxHeartbeats 32000000 in
theorem zgL (a : Aut) (bad u : List Int) (ha : a.Ok) (hm : a.marked = []) (hl : a.edges.length ≤ 50000) (hbad : ∀ x ∈ bad, 0 ≤ x ∧ x < a.states) (hbl : bad.length ≤ 1000000) (hul : u.length ≤ 1000000) (N : Nat) (hN : a.states = N) :
  ACalls Tryz.prog 38 [.agg a.d, .one (.list (ints bad)), .one (.list (ints u)), .one (.bool false)] (.agg (resD0 a bad u N)) [] := by
 have hst := ha.states
 have hd : a.d = [.list (ints a.alph), .int .i64 N, .list (ints a.marked), .list (edgsD a.edges)] := by rw [Aut.d, hN]
 have hP : ∀ left, prbD a u left = prbN a N u left := fun left => by rw [prbD, hN]; rfl
 rw [hd]
 refine ACalls.of_sem Ty_ok Tryz.func38 rfl (by kernel_rfl) Tryz.ntmps38 (by simp) (congrArg Array.toList Tryz.results38) ?_
 intro w0 M a0 Q hM hh hQ
 refine wp_seq (seg Ty_ok mixed (s1 := ⟨116, [(8, .one (.vp 1 0)), (4, .one (.vp 0 0)), (1, .one (.list (ints bad))), (2, .one (.list (ints u))), (3, .one (.bool false))], [rsA a N, rsZ], 0⟩) hh ?_ fun a1 w1 h1 => ?_)
 ·simp only [z00, rsA, rsZ]
  (repeat' (first | ((with_reducible refine aGo ?_); simp only [go_sem]) | fail))
  simp only [ends]
  (simp only [SubF, go_sem]; (try simp only [go_sem]); repeat' (first | exact True.intro | with_reducible refine And.intro ?_ ?_ | rfl | omega))
 refine wp_seq (z9J Ty_ok (s1 := ⟨116, [(19, .agg [.list (ints a.alph), .int .i64 N, .list (ints a.marked), .list (edgsD a.edges)]), (20, .one (.list (ints bad))), (21, .one (.list (ints u))), (8, .one (.vp 1 0)), (1, .one (.list (ints bad))), (3, .one (.bool false))], [rsA a N, rsZ], 0⟩) 3 h1 ?_ fun a2 w2 h2 => ?_)
 ·simp only [List.take_succ_cons, List.take_zero, rsA, rsZ, go_sem]
  skip
  (simp only [SubF, go_sem]; (try simp only [go_sem]); repeat' (first | exact True.intro | with_reducible refine And.intro ?_ ?_ | rfl | omega))
 simp only [List.drop_succ_cons, List.drop_zero]
 obtain ⟨β2, h2⟩ := h2
 have hl2 : β2.length = 2 := h2.len
 refine zfT h2 (f := 70) (us := [.agg [.list (ints a.alph), .int .i64 N, .list (ints a.marked), .list (edgsD a.edges)], .one (.list (ints bad)), .one (.list (ints u))]) (d := 22) (R := fun e w' => ∃ xp xl, e = .returned xp ∧ StAt w2 w' (Mof M β2) a N u (left0 N bad) xp xl) rfl rfl rfl (by simp only [go_sem]) (by simp only [go_sem]) (by kernel_rfl) (fun vs hvs => zii a bad u ha hl hbad hbl N hN w2 (Mof M β2) vs (h2.mok_of (fun _ h => h) fun g hg => (z0j hg).elim) ?_) (fun e w' he => ?_) (fun v w3 he => ?_)
 ·rw [hd]
  obtain ⟨v, rest, rfl, ⟨us, rfl, hu⟩, hr⟩ := hvs
  refine ⟨_, _, rfl, ⟨us, rfl, hu.1, fun i d y q1 q2 => ?_⟩, hr⟩
  match i, q1 with
  | 0, q1 => cases q1; exact hu.2 0 _ y rfl q2
  | 1, q1 => cases q1; exact hu.2 1 _ y rfl q2
  | 2, q1 => cases q1; exact hu.2 2 _ y rfl q2
  | 3, q1 => cases q1; exact hu.2 3 _ y rfl q2
  | n + 4, q1 => cases q1
 ·obtain ⟨xp, xl, rfl, _⟩ := he
  exact ⟨_, rfl⟩
 obtain ⟨xp, xl, hv3, hS⟩ := he
 have hvx : xp = v := by cases hv3; rfl
 subst hvx
 clear hv3
 have hg := h2.gainD rfl hS.below (ns := [xp, xl]) (Hn := [rsP a N u, .row 4 1 (blsD (left0 N bad))]) rfl hS.fresh hS.dist (fun t o x q1 q2 => by
  match t, q1, q2 with
  | 0, q1, q2 =>
   cases q1; cases q2
   obtain ⟨gp, cur, e, c1, c2⟩ := hS.var
   exact ⟨gp, cur, e, c1, c2 M (β2 ++ [xp, xl]) 3 (fun g hg => hg.elim (fun h => .inl (.inl h)) fun h => (z1E h).imp .inr id) (by rw [List.getElem?_append_right (by omega), hl2]; rfl)⟩
  | 1, q1, q2 => cases q1; cases q2; exact z2e (zcQ _) (fun _ _ => rfl) hS.row
  | n + 2, q1, _ => cases q1)
 have hp := hg.put (d := 22) (v := .one (.vp 2 0)) (x := xp) (by simp) (by
  obtain ⟨gp, cur, e, _⟩ := hS.var
  exact .inl ⟨gp, by rw [List.getElem?_append_right (by omega), hl2, ← e]; rfl, e⟩)
 refine zgT Ty_ok (s1 := ⟨116, [(9, .one (.vp 2 0)), (8, .one (.vp 1 0)), (1, .one (.list (ints bad))), (3, .one (.bool false))], [rsA a N, rsZ, rsP a N u, .row 4 1 (blsD (left0 N bad))], 0⟩) ⟨_, hp⟩ ?_ fun a4 w4 h4 => ?_
 ·simp only [AState.put, List.cons_append, List.nil_append, rsA, rsZ, rsP, go_sem]
  skip
  (simp only [SubF, go_sem]; (try simp only [go_sem]); repeat' (first | exact True.intro | with_reducible refine And.intro ?_ ?_ | rfl | omega))
 have hbw : Eng.Below w0.heap.size w0 w3 := (h2.below.below fun _ => z0j).trans (hS.below.mono h2.below.size)
 refine zg3 Ty_ok mixed h4 (rs := _) (r := .agg (resD0 a bad u N)) ?_ fun σ' a' w' k1 k2 => hQ w3 _ σ' a' w' hbw (fun g hg => ?_) k1 k2
 ·clear hp hg hS h4 h2 h1 hQ hh hbw
  generalize hLf : resL a bad u N = Lf
  have hLf2 : cloF u a.edges (N + 1) 2 (left0 N bad) = Lf := hLf
  generalize hRf : resN a bad u N = Rf
  have hRf2 : cloN u a.edges (N + 1) 2 (left0 N bad) (rems0 bad) (if bad.length = 0 then 0 else 1) = Rf := hRf
  have hr0 : resD0 a bad u N = resD (supA a Lf) (supO a Lf).1 (keptL Lf N) Rf := by rw [resD0, hLf, hRf]
  rw [hr0]
  clear hr0 hLf hRf
  simp only [rsA, rsZ, rsP]
  (repeat' (first | (with_reducible first | refine aBl ?_ | (refine aS 19 [24, 23, 25, 50, 49, 51, 78, 77, 79] ?_; intro K hK)) | ((with_reducible refine aGo ?_); simp only [go_sem]) | ((iterate 6 try ((fail_if_success with_reducible refine hK _ ?_ ?_ ?_); clear hK K)); with_reducible refine hK _ ?_ ?_ ?_; rotate_left; (focus (simp only [go_sem]; exact rfl)); clear hK K) | fail))
  all_goals first | omega | skip
  refine z14 [.cell 4 2 142 4] _ (by simp only [go_sem]; rfl) Nat (fun k => k ≤ bad.length) (fun k => [(25, .one (.int .i64 k))])
   (fun k => [rsA a N, rsZ, rsP a N u, .row 4 1 (blsD (left0 N bad)), rsR (if k = 0 then 0 else 1), .row 142 4 (rmvsD (rems0 (bad.take k)))])
   (fun k => bad.length - k) 0 (by omega) ?_ ?_
  ·simp only [rsA, rsZ, rsP, rsR, List.take_zero, show rmvsD (rems0 []) = [] from rfl, if_true]
   (simp only [SubF, go_sem]; (try simp only [go_sem]); repeat' (first | exact True.intro | with_reducible refine And.intro ?_ ?_ | rfl | omega))
  rintro k hk L hL
  have hq : ((k : Nat) : Int).toNat = k := by omega
  have hrl := z1Y (rems0 (bad.take k))
  have hrl2 : (rems0 (bad.take k)).length ≤ k := by simp [rems0]; omega
  by_cases hlt : k < bad.length
  ·have hx := hbad _ (z01 bad k 0 hlt)
   have hsn := zdj (bad.take k) (bad.getD k 0)
   rw [← z07 bad k 0 hlt] at hsn
   generalize hxe : bad.getD k 0 = x at *
   (simp only [rsA, rsZ, rsP, rsR, go_sem] at hL ⊢)
   (repeat' (first | (with_reducible first | refine And.intro ?_ ?_ | refine aBl ?_ | (refine aS 19 [24, 23, 25, 50, 49, 51, 78, 77, 79] ?_; intro K hK)) | ((with_reducible refine aGo ?_); simp only [hq, hxe, hrl, go_sem]) | ((with_reducible refine aCd ?_ ?_ (fun hb => ?_) (fun hb => ?_)); (iterate 2 simp only [hq, hxe, hrl, go_sem]); all_goals (simp only [hq, hxe, hrl, go_sem] at hb; try simp only [bls] at hb)) | ((iterate 6 try ((fail_if_success with_reducible refine hK _ ?_ ?_ ?_); clear hK K)); with_reducible refine hK _ ?_ ?_ ?_; rotate_left; (focus (simp only [hq, hxe, hrl, go_sem]; exact rfl)); clear hK K) | exact aZ | fail))
   all_goals first | omega | skip
   refine hL _ (k + 1) (by omega) ?_ (by omega)
   rw [if_neg (show ¬ k + 1 = 0 by omega), ← hsn]
   (simp only [SubF, go_sem]; (try simp only [go_sem]); repeat' (first | exact True.intro | with_reducible refine And.intro ?_ ?_ | rfl | omega))
  have hkl : k = bad.length := by omega
  subst hkl
  simp only [List.take_length] at hrl hrl2 ⊢
  (simp only [rsA, rsZ, rsP, rsR, go_sem] at hL ⊢)
  (repeat' (first | (with_reducible first | refine And.intro ?_ ?_ | refine aBl ?_ | (refine aS 19 [24, 23, 25, 50, 49, 51, 78, 77, 79] ?_; intro K hK)) | ((with_reducible refine aGo ?_); simp only [go_sem]) | ((with_reducible refine aCd ?_ ?_ (fun hb => ?_) (fun hb => ?_)); (iterate 2 simp only [go_sem]); all_goals (simp only [go_sem] at hb; try simp only [bls] at hb)) | ((iterate 6 try ((fail_if_success with_reducible refine hK _ ?_ ?_ ?_); clear hK K)); with_reducible refine hK _ ?_ ?_ ?_; rotate_left; (focus (simp only [go_sem]; exact rfl)); clear hK K) | exact aZ | fail))
  all_goals first | omega | skip
  clear hL L hq hlt hk
  have hcnt : (left0 N bad).count true < N + 1 := by
   have h1 := List.count_le_length (a := true) (l := left0 N bad)
   have h2 := z33 N bad
   omega
  refine z02 _ (by simp only [go_sem]; rfl) (Nat × Nat × List Bool × List Rmv × Int) (fun s => cloF u a.edges s.1 ((s.2.1 : Int) + 2) s.2.2.1 = Lf ∧ cloN u a.edges s.1 ((s.2.1 : Int) + 2) s.2.2.1 s.2.2.2.1 s.2.2.2.2 = Rf ∧ s.2.2.1.count true < s.1 ∧ s.1 + s.2.1 = N + 1 ∧ s.2.2.1.length = N ∧ (∀ r ∈ s.2.2.2.1, 0 ≤ r.st ∧ r.st ≤ 4096) ∧ s.2.2.2.1.length ≤ 1000000 + 50000 * s.2.1)
   (fun s => [(13, .one (.int .i64 (s.2.1 + 2)))]) (fun s H => ((H.set 3 (.row 4 1 (blsD s.2.2.1))).set 4 (rsR s.2.2.2.2)).set 5 (.row 142 4 (rmvsD s.2.2.2.1))) (fun s => s.1) (N + 1, 0, left0 N bad, rems0 bad, if bad.length = 0 then 0 else 1)
   ⟨hLf2, hRf2, hcnt, by simp, z33 N bad, (fun r hr => by
    obtain ⟨x, hx, rfl⟩ := List.mem_map.1 hr
    have := hbad x hx
    exact ⟨by simp only; omega, by simp only; omega⟩), by simp only [rems0, List.length_map]; omega⟩ ?_ ?_
  ·simp only [rsR]
   (simp only [SubF, List.set_cons_succ, List.set_cons_zero, go_sem]; (try simp only [List.set_cons_succ, List.set_cons_zero, go_sem]); repeat' (first | exact True.intro | with_reducible refine And.intro ?_ ?_ | rfl | omega))
  clear hLf2 hRf2 hcnt hrl hrl2
  rintro ⟨f, t, left, rems, r⟩ ⟨hF, hR, hc, hft, hll, hrs, hrl⟩ L hL
  simp only at hF hR hc hft hll hrs hrl
  obtain ⟨f, rfl⟩ : ∃ g, f = g + 1 := ⟨f - 1, by omega⟩
  rw [cloF] at hF
  rw [cloN] at hR
  have hnx := zik a u left ((t : Int) + 2) ha hl hul (by omega)
  have hlm := fun x => z4o (u := u) (left := left) (rank := (t : Int) + 2) (r := x) a.edges []
  have hle := zct u left ((t : Int) + 2) a.edges []
  have hlc := zdB u left ((t : Int) + 2) a.edges
  have hfl := zez (lostF u left ((t : Int) + 2) a.edges [])
  rw [hP] at hnx
  simp only [prbN] at hnx
  generalize lostF u left ((t : Int) + 2) a.edges [] = l at *
  have hrll := z1Y l
  have hrlr := z1Y rems
  have hbln := z1c left
  simp only [List.length_nil, Nat.zero_add] at hle
  by_cases hz : l.length = 0
  ·rw [if_pos hz] at hF hR
   subst hF hR
   (simp only [rsR, List.set_cons_succ, List.set_cons_zero, go_sem] at hL ⊢)
   (repeat' (first | (with_reducible first | refine aBl ?_ | (refine aS 19 [24, 23, 25, 50, 49, 51, 78, 77, 79] ?_; intro K hK)) | ((with_reducible refine aGo ?_); simp only [hrll, go_sem]) | ((with_reducible refine aCd ?_ ?_ (fun hb => ?_) (fun hb => ?_)); (iterate 2 simp only [hrll, go_sem]); all_goals (simp only [hrll, go_sem] at hb; try simp only [bls] at hb)) | ((iterate 6 try ((fail_if_success with_reducible refine hK _ ?_ ?_ ?_); clear hK K)); with_reducible refine hK _ ?_ ?_ ?_; rotate_left; (focus (simp only [hrll, go_sem]; exact rfl)); clear hK K) | ((with_reducible refine xA ?_); simp only [hrll, go_sem]) | exact aZ | fail))
   all_goals first | omega | skip
   clear hL L hnx hlm hle hlc hfl hrll hbln hz hc
   have hS := zgf rems hrs (by omega)
   (refine z0Z [] [5] (hS) ?_ ?_; (focus (simp only [mside, z2a, go_sem]; (first | done | exact (by decide) | exact ⟨by decide, fun t ht => ht.elim⟩ | (refine ⟨by decide, ?_⟩; simp; done)))); simp only [go_sem])
   have hul2 := zd3 rems.length
   have hdi := zbs a u left ha hm
   have hsu := z9w a u left ha hl (by omega)
   rw [hP] at hdi hsu
   rw [show a.states.toNat = N by omega] at hdi
   simp only [prbN, Aut.d] at hdi hsu
   rw [show List.replicate rems.length [D.unk, D.unk, D.unk, D.unk] = unkL rems.length from rfl]
   have hdl : (List.replicate N (-1 : Int)).length = N := by simp
   have hda : ∀ k, k < N → (List.replicate N (-1 : Int)).getD k 0 = -1 := fun k hk => by simp [List.getD, List.getElem?_replicate, hk]
   have hbls := z1c left
   clear hS hrs hrlr
   generalize hU : unkL rems.length = U at *
   generalize List.replicate N (-1 : Int) = Ds at *
   generalize supA a left = A at *
   generalize supO a left = O at *
   (repeat' (first | (with_reducible first | refine aBl ?_ | (refine aS 19 [24, 23, 25, 50, 49, 51, 78, 77, 79] ?_; intro K hK)) | ((with_reducible refine aGo ?_); simp only [hdl, go_sem]) | ((iterate 6 try ((fail_if_success with_reducible refine hK _ ?_ ?_ ?_); clear hK K)); with_reducible refine hK _ ?_ ?_ ?_; rotate_left; (focus (simp only [hdl, go_sem]; exact rfl)); clear hK K) | ((with_reducible refine xA ?_); simp only [hdl, go_sem]) | fail))
   all_goals first | omega | skip
   refine z14 [.cell 4 0 3 1, .cell 4 1 3 1] _ (by simp only [go_sem]; rfl) Nat (fun k => k ≤ N) (fun k => [(79, .one (.int .i64 k)), (77, .one (.own 7))])
    (fun k => [rsA a N, rsZ, rsP a N u, .row 4 1 (blsD left), .var 52 [.own 8, .own 9, .own 5, .int .i64 r, .nil, .int .i64 0, .nil, .nil, .nil], .row 142 4 U, .gone, .row 3 1 (ints Ds), .row 3 1 (ints (keptL left k)), .row 3 1 (ints (List.replicate (keptL left k).length (-1)))])
    (fun k => N - k) 0 (by omega) ?_ ?_
   ·simp only [rsA, rsZ, rsP, show ints (keptL left 0) = [] from rfl, show ints (List.replicate (keptL left 0).length (-1)) = [] from rfl]
    (simp only [SubF, go_sem]; (try simp only [go_sem]); repeat' (first | exact True.intro | with_reducible refine And.intro ?_ ?_ | rfl | omega))
   rintro k hk L hL
   have hq : ((k : Nat) : Int).toNat = k := by omega
   have hkl := za4 left k
   by_cases hlt : k < N
   ·have hdk := hda k hlt
    have hb1 := z2b (l := left) (k := k) (by omega) []
    have hb2 := z2b (l := left) (k := k) (by omega) [.bool false]
    have hks := zdE left k
    have hat := z0s (l := Ds) (k := k) (by omega)
    rw [hdk] at hat
    generalize left.getD k false = p at *
    have hrpl : (List.replicate (keptL left k).length (-1 : Int)).length = (keptL left k).length := by simp
    (simp only [rsA, rsZ, rsP, go_sem] at hL ⊢)
    cases p with
    | true =>
     rw [if_pos rfl] at hks
     have hrp : ints (List.replicate (keptL left k).length (-1)) ++ [[.int .i64 (-1)]] = ints (List.replicate (keptL left (k + 1)).length (-1)) := by
      rw [show (keptL left (k + 1)).length = (keptL left k).length + 1 by rw [hks]; simp, List.replicate_succ']
      simp [ints]
     generalize hR1 : ints (List.replicate (keptL left (k + 1)).length (-1)) = R1 at hrp
     (repeat' (first | (with_reducible first | refine And.intro ?_ ?_ | refine aBl ?_ | (refine aS 19 [24, 23, 25, 50, 49, 51, 78, 77, 79] ?_; intro K hK)) | ((with_reducible refine aGo ?_); simp only [hq, hdl, hat, hbls, hb1, hb2, hrp, hrpl, go_sem]) | ((with_reducible refine aCd ?_ ?_ (fun hb => ?_) (fun hb => ?_)); (iterate 2 simp only [hq, hdl, hat, hbls, hb1, hb2, hrp, hrpl, go_sem]); all_goals (simp only [hq, hdl, hat, hbls, hb1, hb2, hrp, hrpl, go_sem] at hb; try simp only [bls] at hb)) | ((iterate 6 try ((fail_if_success with_reducible refine hK _ ?_ ?_ ?_); clear hK K)); with_reducible refine hK _ ?_ ?_ ?_; rotate_left; (focus (simp only [hq, hdl, hat, hbls, hb1, hb2, hrp, hrpl, go_sem]; exact rfl)); clear hK K) | exact aZ | fail))
     all_goals first | omega | skip
     refine hL _ (k + 1) (by omega) ?_ (by omega)
     simp only [hR1]
     simp only [hks, ← z0f]
     (simp only [SubF, z0e, go_sem]; (try simp only [z0e, go_sem]); repeat' (first | exact True.intro | with_reducible refine And.intro ?_ ?_ | rfl | omega))
    | false =>
     rw [if_neg (by decide), List.append_nil] at hks
     (repeat' (first | (with_reducible first | refine And.intro ?_ ?_ | refine aBl ?_ | (refine aS 19 [24, 23, 25, 50, 49, 51, 78, 77, 79] ?_; intro K hK)) | ((with_reducible refine aGo ?_); simp only [hq, hdl, hat, hbls, hb1, hb2, go_sem]) | ((with_reducible refine aCd ?_ ?_ (fun hb => ?_) (fun hb => ?_)); (iterate 2 simp only [hq, hdl, hat, hbls, hb1, hb2, go_sem]); all_goals (simp only [hq, hdl, hat, hbls, hb1, hb2, go_sem] at hb; try simp only [bls] at hb)) | ((iterate 6 try ((fail_if_success with_reducible refine hK _ ?_ ?_ ?_); clear hK K)); with_reducible refine hK _ ?_ ?_ ?_; rotate_left; (focus (simp only [hq, hdl, hat, hbls, hb1, hb2, go_sem]; exact rfl)); clear hK K) | exact aZ | fail))
     all_goals first | omega | skip
     refine hL _ (k + 1) (by omega) ?_ (by omega)
     simp only [hks]
     (simp only [SubF, go_sem]; (try simp only [go_sem]); repeat' (first | exact True.intro | with_reducible refine And.intro ?_ ?_ | rfl | omega))
   have hkN : k = N := by omega
   subst hkN
   clear hlt hL
   (simp only [rsA, rsZ, rsP, go_sem] at *)
   (repeat' (first | (with_reducible first | refine And.intro ?_ ?_ | refine aBl ?_ | (refine aS 19 [24, 23, 25, 50, 49, 51, 78, 77, 79] ?_; intro K hK)) | ((with_reducible refine aGo ?_); simp only [hdl, go_sem]) | ((with_reducible refine aCd ?_ ?_ (fun hb => ?_) (fun hb => ?_)); (iterate 2 simp only [hdl, go_sem]); all_goals (simp only [hdl, go_sem] at hb; try simp only [bls] at hb)) | ((iterate 6 try ((fail_if_success with_reducible refine hK _ ?_ ?_ ?_); clear hK K)); with_reducible refine hK _ ?_ ?_ ?_; rotate_left; (focus (simp only [hdl, go_sem]; exact rfl)); clear hK K) | exact aZ | fail))
   all_goals first | omega | skip
   (refine z0Z [3, 2] [] (zfS hsu) ?_ ?_; (focus (simp only [mside, z2a, go_sem]; (first | done | exact (by decide) | exact ⟨by decide, fun t ht => ht.elim⟩ | (refine ⟨by decide, ?_⟩; simp; done)))); simp only [go_sem])
   (repeat' (first | (with_reducible (refine aS 19 [24, 23, 25, 50, 49, 51, 78, 77, 79] ?_; intro K hK)) | ((with_reducible refine aGo ?_); simp only [go_sem]) | ((iterate 6 try ((fail_if_success with_reducible refine hK _ ?_ ?_ ?_); clear hK K)); with_reducible refine hK _ ?_ ?_ ?_; rotate_left; (focus (simp only [go_sem]; exact rfl)); clear hK K) | fail))
   all_goals first | omega | skip
   simp only [resD, hU]
  ·rw [if_neg hz] at hF hR
   have hlc := hlc hz
   (simp only [rsR, List.set_cons_succ, List.set_cons_zero, go_sem] at hL ⊢)
   (repeat' (first | (with_reducible first | refine aBl ?_ | (refine aS 19 [24, 23, 25, 50, 49, 51, 78, 77, 79] ?_; intro K hK)) | ((with_reducible refine aGo ?_); simp only [hrll, go_sem]) | ((with_reducible refine aCd ?_ ?_ (fun hb => ?_) (fun hb => ?_)); (iterate 2 simp only [hrll, go_sem]); all_goals (simp only [hrll, go_sem] at hb; try simp only [bls] at hb)) | ((iterate 6 try ((fail_if_success with_reducible refine hK _ ?_ ?_ ?_); clear hK K)); with_reducible refine hK _ ?_ ?_ ?_; rotate_left; (focus (simp only [hrll, go_sem]; exact rfl)); clear hK K) | ((with_reducible refine xA ?_); simp only [hrll, go_sem]) | exact aZ | fail))
   all_goals first | omega | skip
   refine z02 _ (by simp only [go_sem]; rfl) Nat (fun j => j ≤ l.length) (fun j => [(51, .one (.int .i64 j))]) (fun j H => H.set 3 (.row 4 1 (blsD (z0o ((l.take j).map Rmv.st) left)))) (fun j => l.length - j) 0 (by omega) ?_ ?_
   ·have e0 : z0o ((l.take 0).map Rmv.st) left = left := rfl
    rw [e0]
    (simp only [SubF, List.set_cons_succ, List.set_cons_zero, go_sem]; (try simp only [List.set_cons_succ, List.set_cons_zero, go_sem]); repeat' (first | exact True.intro | with_reducible refine And.intro ?_ ?_ | rfl | omega))
   rintro j hj L2 hL2
   have hq : ((j : Nat) : Int).toNat = j := by omega
   have hsl := z2B ((l.take j).map Rmv.st) left
   by_cases hjl : j < l.length
   ·have a1 := zb3 (l := l) hjl [.int .i64 0, .int .i64 0, .int .i64 0, .int .i64 0]
    have a2 := zb3 (l := l) hjl []
    have hxr : 0 ≤ (l.getD j Rmv.no).st ∧ (l.getD j Rmv.no).st < N := by
     rcases hlm _ (z01 l j Rmv.no hjl) with h | ⟨x, hx, h1, _⟩
     ·cases h
     ·have := (ha.edges.1 x hx).1.1
      omega
    have hset : z0o ((l.take (j + 1)).map Rmv.st) left = (z0o ((l.take j).map Rmv.st) left).set (l.getD j Rmv.no).st.toNat false := by
     rw [z07 l j Rmv.no hjl, List.map_append, List.map_cons, List.map_nil, z6i]
    generalize l.getD j Rmv.no = x at *
    have hput := zbI (z0o ((l.take j).map Rmv.st) left) x.st.toNat false
    rw [← hset] at hput
    have hb1 := z2b (l := z0o ((l.take j).map Rmv.st) left) (k := x.st.toNat) (by omega) []
    have hbl2 := z1c (z0o ((l.take j).map Rmv.st) left)
    rw [hsl, hll] at hbl2
    generalize z0o ((l.take j).map Rmv.st) left = Z at *
    generalize hZ2 : z0o ((l.take (j + 1)).map Rmv.st) left = Z2 at *
    (simp only [List.set_cons_succ, List.set_cons_zero, go_sem] at hL2 ⊢)
    (repeat' (first | (with_reducible first | refine And.intro ?_ ?_ | refine aBl ?_ | (refine aS 19 [24, 23, 25, 50, 49, 51, 78, 77, 79] ?_; intro K hK)) | ((with_reducible first | refine aGo ?_ | refine rP Ty_ok mixed 16 [0, 4] [.mid [pe 1, pe 2, pe 3, pe 5, pe 6] 0, .one 7] ?_); simp only [hq, a1, a2, hrll, hbl2, hput, hb1, go_sem]) | ((with_reducible refine aCd ?_ ?_ (fun hb => ?_) (fun hb => ?_)); (iterate 2 simp only [hq, a1, a2, hrll, hbl2, hput, hb1, go_sem]); all_goals (simp only [hq, a1, a2, hrll, hbl2, hput, hb1, go_sem] at hb; try simp only [bls] at hb)) | ((iterate 6 try ((fail_if_success with_reducible refine hK _ ?_ ?_ ?_); clear hK K)); with_reducible refine hK _ ?_ ?_ ?_; rotate_left; (focus (simp only [hq, a1, a2, hrll, hbl2, hput, hb1, go_sem]; exact rfl)); clear hK K) | exact aZ | fail))
    all_goals first | omega | skip
    exact hL2 _ (j + 1) (by omega) (by (simp only [SubF, hZ2, List.set_cons_succ, List.set_cons_zero, go_sem]; (try simp only [hZ2, List.set_cons_succ, List.set_cons_zero, go_sem]); repeat' (first | exact True.intro | with_reducible refine And.intro ?_ ?_ | rfl | omega))) (by omega)
   ·have hjl2 : j = l.length := by omega
    subst hjl2
    rw [List.take_length] at hsl
    simp only [List.take_length] at hL2 ⊢
    (simp only [List.set_cons_succ, List.set_cons_zero, go_sem] at hL2 ⊢)
    (repeat' (first | (with_reducible first | refine And.intro ?_ ?_ | refine aBl ?_ | (refine aS 19 [24, 23, 25, 50, 49, 51, 78, 77, 79] ?_; intro K hK)) | ((with_reducible first | refine aGo ?_ | refine rP Ty_ok mixed 16 [0, 4] [.mid [pe 1, pe 2, pe 3, pe 5, pe 6] 0, .one 7] ?_); simp only [hrlr, hrll, go_sem]) | ((with_reducible refine aCd ?_ ?_ (fun hb => ?_) (fun hb => ?_)); (iterate 2 simp only [hrlr, hrll, go_sem]); all_goals (simp only [hrlr, hrll, go_sem] at hb; try simp only [bls] at hb)) | ((iterate 6 try ((fail_if_success with_reducible refine hK _ ?_ ?_ ?_); clear hK K)); with_reducible refine hK _ ?_ ?_ ?_; rotate_left; (focus (simp only [hrlr, hrll, go_sem]; exact rfl)); clear hK K) | exact aZ | fail))
    all_goals first | omega | skip
    have et : ((t : Int) + 2 + 1) = (((t + 1 : Nat) : Int) + 2) := by omega
    rw [et] at hF hR
    refine hL _ (f, t + 1, z0o (l.map Rmv.st) left, rems ++ l, (t : Int) + 2) ⟨hF, hR, by simp only; omega, by simp only; omega, by simp only; omega, fun y hy => ?_, ?_⟩ ?_ (by simp only; omega)
    ·rcases List.mem_append.1 hy with hy | hy
     ·exact hrs y hy
     ·rcases hlm y hy with h | ⟨x, hx, h1, _⟩
      ·cases h
      ·have := (ha.edges.1 x hx).1.1
       omega
    ·simp only [List.length_append]
     omega
    ·simp only [← zb4]
     (simp only [SubF, List.set_cons_succ, List.set_cons_zero, go_sem]; (try simp only [List.set_cons_succ, List.set_cons_zero, go_sem]); repeat' (first | exact True.intro | with_reducible refine And.intro ?_ ?_ | rfl | omega))
 ·rcases z1E hg with hg | hg
  ·exact (h2.fresh g hg).1.resolve_left z0j
  ·exact Nat.le_trans h2.below.size (hS.fresh g hg).1
end Go.Proofs.YtkjllcmpjghmkaaGreatDoor
