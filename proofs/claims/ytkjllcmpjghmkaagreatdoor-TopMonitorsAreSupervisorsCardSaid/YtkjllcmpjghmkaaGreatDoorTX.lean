/-
 Contracts: synthesis: lost, next, distances (where no state is marked).
-/
import Derived.Test.YtkjllcmpjghmkaaGreatDoorMI
set_option linter.unusedSimpArgs false
set_option linter.unusedVariables false
namespace Go.Proofs.YtkjllcmpjghmkaaGreatDoor
open Go.Eng Go.RowKit
def blsD (l : List Bool) : List (List D) := l.map fun b => [.bool b]
theorem z1c (l : List Bool) : (blsD l).length = l.length := by simp [blsD]
theorem z2b {l : List Bool} {k : Nat} (hk : k < l.length) (z : List D) : (blsD l).getD k z = [.bool (l.getD k false)] := by
 simp only [blsD, List.getD, List.getElem?_map, List.getElem?_eq_getElem hk]; rfl
theorem zbI (l : List Bool) (k : Nat) (b : Bool) : (blsD l).set k [.bool b] = blsD (l.set k b) := by
 simp only [blsD, List.map_set]
theorem zcQ (l : List Bool) : ∀ r ∈ blsD l, r.all D.flat = true := fun r hr => by
 obtain ⟨b, _, rfl⟩ := List.mem_map.1 hr; rfl
structure Rmv where
 st : Int
 rk : Int
 re : Int
 ev : Int
def Rmv.no : Rmv := ⟨0, 0, 0, 0⟩
def Rmv.d (r : Rmv) : List D := [.int .i64 r.st, .int .i64 r.rk, .int .i64 r.re, .int .i64 r.ev]
def rmvsD (l : List Rmv) : List (List D) := l.map Rmv.d
theorem z1Y (l : List Rmv) : (rmvsD l).length = l.length := by simp [rmvsD]
theorem zb3 {l : List Rmv} {k : Nat} (hk : k < l.length) (z : List D) : (rmvsD l).getD k z = [.int .i64 (l.getD k Rmv.no).st, .int .i64 (l.getD k Rmv.no).rk, .int .i64 (l.getD k Rmv.no).re, .int .i64 (l.getD k Rmv.no).ev] := by
 simp only [rmvsD, List.getD, List.getElem?_map, List.getElem?_eq_getElem hk]; rfl
theorem z9E (l : List Rmv) (a b c d : Int) : rmvsD l ++ [[.int .i64 a, .int .i64 b, .int .i64 c, .int .i64 d]] = rmvsD (l ++ [⟨a, b, c, d⟩]) := by simp [rmvsD, Rmv.d]
theorem zb4 (a b : List Rmv) : rmvsD a ++ rmvsD b = rmvsD (a ++ b) := by simp [rmvsD]
theorem zez (l : List Rmv) : ∀ r ∈ rmvsD l, r.all D.flat = true := fun r hr => by
 obtain ⟨b, _, rfl⟩ := List.mem_map.1 hr; rfl
def prbD (a : Aut) (u : List Int) (left : List Bool) : List D := [.list (ints a.alph), .int .i64 a.states, .list (ints a.marked), .list (edgsD a.edges), .list (ints u), .unk, .list (blsD left)]
def lostI (u : List Int) (left : List Bool) (rank : Int) (x : Edg) (out : List Rmv) : List Rmv :=
 if left.getD x.src.toNat false = true ∧ left.getD x.dst.toNat false = false ∧ x.ev ∈ u then
  if 0 < out.length ∧ (out.getD (out.length - 1) Rmv.no).st = x.src then out else out ++ [⟨x.src, rank, 2, x.ev⟩]
 else out
def lostF (u : List Int) (left : List Bool) (rank : Int) : List Edg → List Rmv → List Rmv
 | [], out => out
 | x :: xs, out => lostF u left rank xs (lostI u left rank x out)
theorem zcs (u : List Int) (left : List Bool) (rank : Int) (x : Edg) (out : List Rmv) : (lostI u left rank x out).length ≤ out.length + 1 := by
 unfold lostI
 split
 ·split
  ·omega
  ·simp
 ·omega
theorem zeU {p q : Bool} {x : Int} {u : List Int} (hb : (p = false ∨ q = true) ∨ ¬ x ∈ u) : ¬ (p = true ∧ q = false ∧ x ∈ u) := by
 rintro ⟨rfl, rfl, h⟩
 rcases hb with (h1 | h1) | h1
 ·cases h1
 ·cases h1
 ·exact h1 h
set_option maxHeartbeats 8000000 in
theorem zjH (a : Aut) (u : List Int) (left : List Bool) (rank : Int) (ha : a.Ok) (hl : a.edges.length ≤ 50000) (hu : u.length ≤ 1000000) (hlen : (left.length : Int) = a.states) :
  ACalls Tryz.prog 114 [.one (.ref (prbD a u left)), .one (.int .i64 rank)] (.one (.own 0)) [.row 142 4 (rmvsD (lostF u left rank a.edges []))] := by
 have hbl := z1c left
 have hst := ha.states
 obtain ⟨hed, _⟩ := ha.edges
 have hc := fun x => z2D u x hu
 (refine ACalls.of_body_own Ty_ok mixed Tryz.func114 rfl (by kernel_rfl) Tryz.ntmps114 (by simp) (congrArg Array.toList Tryz.results114) ?_)
 simp only [z00, prbD]
 (repeat' (first | (with_reducible first | refine aBl ?_ | (refine aS 9 [14, 13, 15] ?_; intro K hK)) | ((with_reducible refine aGo ?_); simp only [go_sem]) | ((iterate 6 try ((fail_if_success with_reducible refine hK _ ?_ ?_ ?_); clear hK K)); with_reducible refine hK _ ?_ ?_ ?_; rotate_left; (focus (simp only [go_sem]; exact rfl)); clear hK K) | fail))
 all_goals first | omega | skip
 generalize hF : lostF u left rank a.edges [] = R
 refine z02 _ (by simp only [go_sem]; rfl) (Nat × List Rmv) (fun s => s.1 ≤ a.edges.length ∧ s.2.length ≤ s.1 ∧ lostF u left rank (a.edges.drop s.1) s.2 = R) (fun s => [(5, .one (.own 1)), (15, .one (.int .i64 s.1))]) (fun s _ => [.row 142 4 [], .row 142 4 (rmvsD s.2)]) (fun s => a.edges.length - s.1) (0, []) ⟨by simp, by simp, hF⟩ ?_ ?_
 ·have e0 : rmvsD [] = [] := rfl
  simp only [e0]
  (simp only [SubF, go_sem]; (try simp only [go_sem]); repeat' (first | exact True.intro | with_reducible refine And.intro ?_ ?_ | rfl | omega))
 rintro ⟨k, out⟩ ⟨hk, hol, hR⟩ L hL
 simp only at hk hol hR
 have hq : ((k : Nat) : Int).toNat = k := by omega
 have hrl := z1Y out
 by_cases hlt : k < a.edges.length
 ·have a1 := z0p (l := a.edges) hlt [.int .i64 0, .int .i64 0, .int .i64 0]
  have a2 := z0p (l := a.edges) hlt []
  obtain ⟨⟨⟨x1, x2⟩, x3, x4⟩, _⟩ := hed _ (z01 a.edges k Edg.no hlt)
  rw [z0H _ _ Edg.no hlt, lostF] at hR
  have hle := zcs u left rank (a.edges.getD k Edg.no) out
  have hI : lostI u left rank (a.edges.getD k Edg.no) out = _ := rfl
  generalize a.edges.getD k Edg.no = x at *
  have b1 := z2b (l := left) (k := x.src.toNat) (by omega) []
  have b2 := z2b (l := left) (k := x.dst.toNat) (by omega) []
  have b3 := z2b (l := left) (k := x.src.toNat) (by omega) [.bool false]
  have b4 := z2b (l := left) (k := x.dst.toNat) (by omega) [.bool false]
  have hcx := hc x.ev
  have o1 := fun h => zb3 (l := out) (k := out.length - 1) h []
  have hn1 : ((out.length : Int) - 1).toNat = out.length - 1 := by omega
  conv at hI => rhs; unfold lostI
  generalize left.getD x.src.toNat false = p at *
  generalize left.getD x.dst.toNat false = q at *
  generalize (out.getD (out.length - 1) Rmv.no).st = st at *
  rcases Nat.eq_zero_or_pos out.length with hz | hz
  ·obtain rfl : out = [] := List.eq_nil_of_length_eq_zero hz
   have e0 : rmvsD [] = [] := rfl
   have s0 := z9E [] x.src rank 2 x.ev
   rw [if_neg (show ¬ (0 < ([] : List Rmv).length ∧ st = x.src) by simp)] at hI
   rw [e0] at s0
   have g0 : ([] : List (List D)).getD 0 [] = [] := rfl
   have g1 : ([] : List D).headD (D.int .i64 0) = D.int .i64 0 := rfl
   simp only [e0]
   (simp only [go_sem] at hL ⊢)
   (repeat' (first | (with_reducible first | refine And.intro ?_ ?_ | refine aBl ?_ | (refine aS 9 [14, 13, 15] ?_; intro K hK)) | ((with_reducible first | refine aGo ?_ | refine rP Ty_ok mixed 5 [0, 4] [.mid [pe 1, pe 2, pe 3, pe 5, pe 6, pe 7, pe 8, pe 9, pe 10, pe 11, pe 12, pe 13, pe 14, pe 15, pe 16, pe 17, pe 18, pe 19, pe 20, pe 21, pe 22, pe 23, pe 24, pe 25] 0, .one 26, .mid [pe 27, pe 28] 0] ?_ | refine rD (id := 7) ?_); simp only [hq, a1, a2, b1, b2, b3, b4, hn1, g0, g1, go_sem]) | ((with_reducible refine aCd ?_ ?_ (fun hb => ?_) (fun hb => ?_)); (iterate 2 simp only [hq, a1, a2, b1, b2, b3, b4, hn1, g0, g1, go_sem]); all_goals (simp only [hq, a1, a2, b1, b2, b3, b4, hn1, g0, g1, go_sem] at hb; try simp only [bls] at hb)) | ((iterate 6 try ((fail_if_success with_reducible refine hK _ ?_ ?_ ?_); clear hK K)); with_reducible refine hK _ ?_ ?_ ?_; rotate_left; (focus (simp only [hq, a1, a2, b1, b2, b3, b4, hn1, g0, g1, go_sem]; exact rfl)); clear hK K) | ((with_reducible refine xG ?_); simp only [hq, a1, a2, b1, b2, b3, b4, hn1, g0, g1, go_sem]) | exact aZ | fail))
   all_goals first | omega | (intro h; refine ⟨h, ?_, ?_⟩ <;> omega) | skip
   ·rw [if_neg (zeU hb)] at hI
    rw [hI] at hR
    exact hL _ (k + 1, []) ⟨by omega, by simp, hR⟩ (by rw [e0]; (simp only [SubF, go_sem]; (try simp only [go_sem]); repeat' (first | exact True.intro | with_reducible refine And.intro ?_ ?_ | rfl | omega))) (by simp only; omega)
   ·rename_i hb2
    rw [if_pos ⟨hb2.1.1, hb2.1.2, hb2.2⟩] at hI
    rw [hI] at hR hle
    exact hL _ (k + 1, [] ++ [⟨x.src, rank, 2, x.ev⟩]) ⟨by omega, by simp, hR⟩ (by rw [← s0]; (simp only [SubF, go_sem]; (try simp only [go_sem]); repeat' (first | exact True.intro | with_reducible refine And.intro ?_ ?_ | rfl | omega))) (by simp only; omega)
  ·have o2 := o1 (by omega)
   have hd : decide ((0 : Int) < out.length) = true := decide_eq_true (by omega)
   (simp only [go_sem] at hL ⊢)
   (repeat' (first | (with_reducible first | refine And.intro ?_ ?_ | refine aBl ?_ | (refine aS 9 [14, 13, 15] ?_; intro K hK)) | ((with_reducible first | refine aGo ?_ | refine rP Ty_ok mixed 5 [0, 4] [.mid [pe 1, pe 2, pe 3, pe 5, pe 6, pe 7, pe 8, pe 9, pe 10, pe 11, pe 12, pe 13, pe 14, pe 15, pe 16, pe 17, pe 18, pe 19, pe 20, pe 21, pe 22, pe 23, pe 24, pe 25] 0, .one 26, .mid [pe 27, pe 28] 0] ?_ | refine rD (id := 7) ?_); simp only [hq, a1, a2, b1, b2, b3, b4, hn1, hrl, o2, hd, go_sem]) | ((with_reducible refine aCd ?_ ?_ (fun hb => ?_) (fun hb => ?_)); (iterate 2 simp only [hq, a1, a2, b1, b2, b3, b4, hn1, hrl, o2, hd, go_sem]); all_goals (simp only [hq, a1, a2, b1, b2, b3, b4, hn1, hrl, o2, hd, go_sem] at hb; try simp only [bls] at hb)) | ((iterate 6 try ((fail_if_success with_reducible refine hK _ ?_ ?_ ?_); clear hK K)); with_reducible refine hK _ ?_ ?_ ?_; rotate_left; (focus (simp only [hq, a1, a2, b1, b2, b3, b4, hn1, hrl, o2, hd, go_sem]; exact rfl)); clear hK K) | ((with_reducible refine xG ?_); simp only [hq, a1, a2, b1, b2, b3, b4, hn1, hrl, o2, hd, go_sem]) | exact aZ | fail))
   all_goals first | omega | (intro h; refine ⟨h, ?_, ?_⟩ <;> omega) | skip
   ·rw [if_neg (zeU hb)] at hI
    rw [hI] at hR
    exact hL _ (k + 1, out) ⟨by omega, by simp only; omega, hR⟩ (by (simp only [SubF, go_sem]; (try simp only [go_sem]); repeat' (first | exact True.intro | with_reducible refine And.intro ?_ ?_ | rfl | omega))) (by simp only; omega)
   ·rename_i hb2
    rw [if_pos ⟨hb2.1.1, hb2.1.2, hb2.2⟩, if_pos ⟨hz, hb⟩] at hI
    rw [hI] at hR
    exact hL _ (k + 1, out) ⟨by omega, by simp only; omega, hR⟩ (by (simp only [SubF, go_sem]; (try simp only [go_sem]); repeat' (first | exact True.intro | with_reducible refine And.intro ?_ ?_ | rfl | omega))) (by simp only; omega)
   ·rename_i hb2
    rw [if_pos ⟨hb2.1.1, hb2.1.2, hb2.2⟩, if_neg (fun q => hb q.2)] at hI
    rw [hI] at hR hle
    rw [z9E]
    exact hL _ (k + 1, out ++ [⟨x.src, rank, 2, x.ev⟩]) ⟨by omega, by simp only; simp; omega, hR⟩ (by (simp only [SubF, go_sem]; (try simp only [go_sem]); repeat' (first | exact True.intro | with_reducible refine And.intro ?_ ?_ | rfl | omega))) (by simp only; omega)
 ·have : k = a.edges.length := by omega
  subst this
  rw [List.drop_length, lostF] at hR
  (simp only [go_sem] at hL ⊢)
  (repeat' (first | (with_reducible first | refine And.intro ?_ ?_ | refine aBl ?_ | (refine aS 9 [14, 13, 15] ?_; intro K hK)) | ((with_reducible first | refine aGo ?_ | refine rP Ty_ok mixed 5 [0, 4] [.mid [pe 1, pe 2, pe 3, pe 5, pe 6, pe 7, pe 8, pe 9, pe 10, pe 11, pe 12, pe 13, pe 14, pe 15, pe 16, pe 17, pe 18, pe 19, pe 20, pe 21, pe 22, pe 23, pe 24, pe 25] 0, .one 26, .mid [pe 27, pe 28] 0] ?_); simp only [go_sem]) | ((with_reducible refine aCd ?_ ?_ (fun hb => ?_) (fun hb => ?_)); (iterate 2 simp only [go_sem]); all_goals (simp only [go_sem] at hb; try simp only [bls] at hb)) | ((iterate 6 try ((fail_if_success with_reducible refine hK _ ?_ ?_ ?_); clear hK K)); with_reducible refine hK _ ?_ ?_ ?_; rotate_left; (focus (simp only [go_sem]; exact rfl)); clear hK K) | exact aZ | fail))
  all_goals first | omega | skip
  rw [hF, hR]
set_option maxHeartbeats 8000000 in
theorem zik (a : Aut) (u : List Int) (left : List Bool) (rank : Int) (ha : a.Ok) (hl : a.edges.length ≤ 50000) (hu : u.length ≤ 1000000) (hlen : (left.length : Int) = a.states) :
  ACalls Tryz.prog 71 [.one (.ref (prbD a u left)), .one (.int .i64 rank), .one (.bool false)] (.one (.own 0)) [.row 142 4 (rmvsD (lostF u left rank a.edges []))] := by
 have c := zjH a u left rank ha hl hu hlen
 generalize lostF u left rank a.edges [] = R at *
 have hrl := z1Y R
 simp only [prbD] at c
 (refine ACalls.of_body_own Ty_ok mixed Tryz.func71 rfl (by kernel_rfl) Tryz.ntmps71 (by simp) (congrArg Array.toList Tryz.results71) ?_)
 simp only [z00, prbD]
 (repeat' (first | (with_reducible (refine aS 8 [] ?_; intro K hK)) | ((with_reducible refine aGo ?_); simp only [go_sem]) | ((with_reducible refine aCd ?_ ?_ (fun hb => ?_) (fun hb => ?_)); (iterate 2 simp only [go_sem]); all_goals (simp only [go_sem] at hb; try simp only [bls] at hb)) | ((iterate 6 try ((fail_if_success with_reducible refine hK _ ?_ ?_ ?_); clear hK K)); with_reducible refine hK _ ?_ ?_ ?_; rotate_left; (focus (simp only [go_sem]; exact rfl)); clear hK K) | ((with_reducible refine xA ?_); simp only [go_sem]) | fail))
 all_goals first | omega | skip
 done
set_option maxHeartbeats 8000000 in
theorem zbs (a : Aut) (u : List Int) (left : List Bool) (ha : a.Ok) (hm : a.marked = []) :
  ACalls Tryz.prog 74 [.one (.ref (prbD a u left))] (.one (.own 0)) [.row 3 1 (ints (List.replicate a.states.toNat (-1)))] := by
 have hst := ha.states
 obtain ⟨N, hN⟩ : ∃ N : Nat, a.states = N := ⟨a.states.toNat, by omega⟩
 obtain ⟨alph, states, marked, edges⟩ := a
 simp only at hst hN hm
 subst hN hm
 have e0 : ints [] = [] := rfl
 (refine ACalls.of_body_own Ty_ok mixed Tryz.func74 rfl (by kernel_rfl) Tryz.ntmps74 (by simp) (congrArg Array.toList Tryz.results74) ?_)
 simp only [z00, prbD, e0, Int.toNat_natCast]
 (repeat' (first | (with_reducible first | refine And.intro ?_ ?_ | refine aBl ?_ | (refine aS 11 [18, 19, 31, 30, 32, 66, 65, 67] ?_; intro K hK)) | ((with_reducible refine aGo ?_); simp only [List.length_replicate, go_sem]) | ((iterate 6 try ((fail_if_success with_reducible refine hK _ ?_ ?_ ?_); clear hK K)); with_reducible refine hK _ ?_ ?_ ?_; rotate_left; (focus (simp only [List.length_replicate, go_sem]; exact rfl)); clear hK K) | exact aZ | fail))
 all_goals first | omega | skip
 have hz : ∀ k, k ≤ N → ints (List.replicate k (-1 : Int) ++ List.replicate (N - k) 0) = ints (List.replicate k (-1)) ++ List.replicate (N - k) [.int .i64 0] := fun k hk => by simp [ints]
 refine z02 _ (by simp only [go_sem]; rfl) Nat (fun k => k ≤ N) (fun k => [(3, .one (.own 1)), (19, .one (.int .i64 k))]) (fun k _ => [.row 3 1 [], .row 3 1 (ints (List.replicate k (-1) ++ List.replicate (N - k) 0))]) (fun k => N - k) 0 (by omega) ?_ ?_
 ·have e0 : ints (List.replicate 0 (-1) ++ List.replicate (N - 0) 0) = List.replicate N [.int .i64 0] := by simp [ints]
  rw [e0]
  (simp only [SubF, go_sem]; (try simp only [go_sem]); repeat' (first | exact True.intro | with_reducible refine And.intro ?_ ?_ | rfl | omega))
 rintro k hk L hL
 have hq : ((k : Nat) : Int).toNat = k := by omega
 have hnl : (List.replicate k (-1 : Int) ++ List.replicate (N - k) 0).length = N := by simp; omega
 by_cases hlt : k < N
 ·have hset : (List.replicate k (-1 : Int) ++ List.replicate (N - k) 0).set k (-1) = List.replicate (k + 1) (-1) ++ List.replicate (N - (k + 1)) 0 := by
   rw [show N - k = (N - (k + 1)) + 1 by omega, List.replicate_succ (n := N - (k + 1))]
   simp [List.set_append, List.replicate_succ']
  have hput := zhh (l := List.replicate k (-1 : Int) ++ List.replicate (N - k) 0) (k := k) (by omega) (-1)
  rw [hset] at hput
  generalize List.replicate k (-1 : Int) ++ List.replicate (N - k) 0 = X at *
  (simp only [go_sem] at hL ⊢)
  (repeat' (first | (with_reducible first | refine And.intro ?_ ?_ | refine aBl ?_ | (refine aS 11 [18, 19, 31, 30, 32, 66, 65, 67] ?_; intro K hK)) | ((with_reducible refine aGo ?_); simp only [hq, hnl, hput, go_sem]) | ((with_reducible refine aCd ?_ ?_ (fun hb => ?_) (fun hb => ?_)); (iterate 2 simp only [hq, hnl, hput, go_sem]); all_goals (simp only [hq, hnl, hput, go_sem] at hb; try simp only [bls] at hb)) | ((iterate 6 try ((fail_if_success with_reducible refine hK _ ?_ ?_ ?_); clear hK K)); with_reducible refine hK _ ?_ ?_ ?_; rotate_left; (focus (simp only [hq, hnl, hput, go_sem]; exact rfl)); clear hK K) | exact aZ | fail))
  all_goals first | omega | skip
  exact hL _ (k + 1) (by omega) (by (simp only [SubF, go_sem]; (try simp only [go_sem]); repeat' (first | exact True.intro | with_reducible refine And.intro ?_ ?_ | rfl | omega))) (by omega)
 have hkl : k = N := by omega
 subst hkl
 have hX : List.replicate k (-1 : Int) ++ List.replicate (k - k) 0 = List.replicate k (-1) := by simp
 rw [hX] at hnl
 simp only [hX]
 clear hX
 generalize List.replicate k (-1 : Int) = X at *
 (simp only [go_sem] at hL ⊢)
 (repeat' (first | (with_reducible first | refine And.intro ?_ ?_ | refine aBl ?_ | (refine aS 11 [18, 19, 31, 30, 32, 66, 65, 67] ?_; intro K hK)) | ((with_reducible refine aGo ?_); simp only [hnl, go_sem]) | ((with_reducible refine aCd ?_ ?_ (fun hb => ?_) (fun hb => ?_)); (iterate 2 simp only [hnl, go_sem]); all_goals (simp only [hnl, go_sem] at hb; try simp only [bls] at hb)) | ((iterate 6 try ((fail_if_success with_reducible refine hK _ ?_ ?_ ?_); clear hK K)); with_reducible refine hK _ ?_ ?_ ?_; rotate_left; (focus (simp only [hnl, go_sem]; exact rfl)); clear hK K) | exact aZ | fail))
 all_goals first | omega | skip
 refine z02 _ (by simp only [go_sem]; rfl) Unit (fun _ => True) (fun _ => [(32, .one (.int .i64 0)), (3, .one (.own 1)), (5, .one (.own 2))]) (fun _ H => H) (fun _ => 0) () trivial ?_ ?_
 ·(simp only [SubF, go_sem]; (try simp only [go_sem]); repeat' (first | exact True.intro | with_reducible refine And.intro ?_ ?_ | rfl | omega))
 rintro _ _ L2 hL2
 clear hL L
 (simp only [go_sem] at hL2 ⊢)
 (repeat' (first | (with_reducible first | refine aBl ?_ | (refine aS 11 [18, 19, 31, 30, 32, 66, 65, 67] ?_; intro K hK)) | ((with_reducible refine aGo ?_); simp only [hnl, go_sem]) | ((with_reducible refine aCd ?_ ?_ (fun hb => ?_) (fun hb => ?_)); (iterate 2 simp only [hnl, go_sem]); all_goals (simp only [hnl, go_sem] at hb; try simp only [bls] at hb)) | ((iterate 6 try ((fail_if_success with_reducible refine hK _ ?_ ?_ ?_); clear hK K)); with_reducible refine hK _ ?_ ?_ ?_; rotate_left; (focus (simp only [hnl, go_sem]; exact rfl)); clear hK K) | fail))
 all_goals first | omega | skip
 refine z02 _ (by simp only [go_sem]; rfl) Unit (fun _ => True) (fun _ => [(8, .one (.int .i64 0)), (3, .one (.own 1)), (5, .one (.own 2))]) (fun _ H => H) (fun _ => 0) () trivial ?_ ?_
 ·(simp only [SubF, go_sem]; (try simp only [go_sem]); repeat' (first | exact True.intro | with_reducible refine And.intro ?_ ?_ | rfl | omega))
 rintro _ _ L3 hL3
 clear hL2 L2
 (simp only [go_sem] at hL3 ⊢)
 (repeat' (first | (with_reducible (refine aS 11 [18, 19, 31, 30, 32, 66, 65, 67] ?_; intro K hK)) | ((with_reducible refine aGo ?_); simp only [hnl, go_sem]) | ((with_reducible refine aCd ?_ ?_ (fun hb => ?_) (fun hb => ?_)); (iterate 2 simp only [hnl, go_sem]); all_goals (simp only [hnl, go_sem] at hb; try simp only [bls] at hb)) | ((iterate 6 try ((fail_if_success with_reducible refine hK _ ?_ ?_ ?_); clear hK K)); with_reducible refine hK _ ?_ ?_ ?_; rotate_left; (focus (simp only [hnl, go_sem]; exact rfl)); clear hK K) | fail))
 all_goals first | omega | skip
 done
end Go.Proofs.YtkjllcmpjghmkaaGreatDoor
