/-
 Contracts: a marking is added; which one pumps.
-/
import Derived.Test.YtkjllcmpjghmkaaGreatDoorS1
set_option linter.unusedSimpArgs false
set_option linter.unusedVariables false
namespace Go.Proofs.YtkjllcmpjghmkaaGreatDoor
open Go.Eng Go.RowKit
set_option maxHeartbeats 8000000 in
theorem add_c (l : List SN) (es : List Edg) (m : List Int) (bf tr : Int) (sh : Int) (hl : l.length ≤ 10000) (h0 : m ≠ []) (hm1 : m.length ≤ 1000) (hm : ∀ y ∈ m, 0 ≤ y ∧ y ≤ 65536) (hk : ∀ y ∈ l, ∀ z ∈ y.m, 0 ≤ z) (hn : fndF m 0 l = none) :
  MCalls Tryz.prog 106 3 [.var 94 [.own 3, .own 2, .mp 1, .int .i64 sh], .map .str (z0P 0 l), .row 96 3 (edgsD es), .row 103 3 (snsD l)] [.one (.vp 0 0), .agg [.list (ints m), .int .i64 bf, .int .i64 tr]] (.tup [])
   [.var 94 [.own 3, .own 2, .mp 1, .int .i64 sh], .map .str (z0P 0 (l ++ [⟨m, bf, tr⟩])), .row 96 3 (edgsD es), .row 103 3 (snsD (l ++ [⟨m, bf, tr⟩]))] := by
 have hKy := key_c m h0 (by omega) (fun y hy => by have := hm y hy; omega)
 have hset := z6o (m := m) (before := bf) (tr := tr) (fun y hy => (hm y hy).1) l 0 hk hn
 rw [Nat.zero_add] at hset
 rw [← zdf, ← zij]
 (refine MCalls.of_body Ty_ok mixed Tryz.func106 rfl (by kernel_rfl) Tryz.ntmps106 (by simp) (congrArg Array.toList Tryz.results106) (by simp) (by simp) ?_)
 simp only [z00]
 (repeat' (first | (with_reducible first | refine And.intro ?_ ?_ | (refine aS 4 [] ?_; intro K hK)) | ((with_reducible first | refine aGo ?_ | refine rP Ty_ok mixed 1 [0, 4, 7] [.mid [pe 1, pe 2, pe 3, pe 5, ⟨6, 0, true, false, false, [], []⟩, ⟨8, 1, false, false, false, [0], []⟩, ⟨9, 1, false, false, false, [0], []⟩, ⟨10, 1, false, false, false, [0], []⟩, ⟨11, 1, false, false, false, [0], []⟩] 1, .one 12] ?_ | refine rP Ty_ok mixed 2 [0, 1] [.mid [pe 2, pe 3, pe 4, pe 5, pe 6] 0, .one 7, .mid [pe 8, pe 9] 0, .one 10] ?_); simp only [hset, go_sem]) | ((iterate 6 try ((fail_if_success with_reducible refine hK _ ?_ ?_ ?_); clear hK K)); with_reducible refine hK _ ?_ ?_ ?_; rotate_left; (focus (simp only [hset, go_sem]; exact rfl)); clear hK K) | ((with_reducible refine xO ?_); simp only [hset, go_sem]) | exact aZ | fail))
 all_goals ((try simp only [retF, retM, retL, resV, resW, retO, resAV, AV.bor, D.bor, D.bor1, D.bor0, AV.flatOwn, D.flatOwn, D.flat, AV.tagged, D.tagged, AObj.plain, go_sem]); repeat' (first | exact True.intro | with_reducible refine And.intro ?_ ?_ | rfl))
theorem zcz : ∀ (a b : List Int) (k : Nat), k < a.length → k < b.length → leqB (a.take (k + 1)) (b.take (k + 1)) = (leqB (a.take k) (b.take k) && decide (a.getD k 0 ≤ b.getD k 0))
 | [], _, k, h, _ => by simp at h
 | _ :: _, [], k, _, h => by simp at h
 | x :: a, y :: b, 0, _, _ => by simp [leqB]
 | x :: a, y :: b, k + 1, h1, h2 => by
  simp only [List.take_succ_cons, leqB, List.getD_cons_succ]
  rw [zcz a b k (by simpa using h1) (by simpa using h2), Bool.and_assoc]
structure NodesOk (places : Nat) (l : List SN) : Prop where
 len : ∀ x ∈ l, x.m.length = places
 tok : ∀ x ∈ l, ∀ y ∈ x.m, 0 ≤ y ∧ y ≤ 65536
 back : ∀ k, k < l.length → -1 ≤ (l.getD k SN.no).before ∧ (l.getD k SN.no).before < (k : Int)
set_option maxHeartbeats 8000000 in
theorem ziy (places : Nat) (l : List SN) (es : List (List D)) (sh : Int) (hl : l.length ≤ 10000) (h0 : l ≠ []) (hp : places ≤ 1000) (hN : NodesOk places l) :
  ACalls Tryz.prog 109 [.one (.ref [.list (snsD l), .list es, .unk, .int .i64 sh])] (.one (.int .i64 (z0D l))) [] := by
 have hlen0 : 0 < l.length := List.length_pos_iff.2 h0
 have hlast := z1X (l := l) (k := l.length - 1) (by omega) [.nil, .int .i64 0, .int .i64 0]
 have hlm := hN.len _ (z01 l (l.length - 1) SN.no (by omega))
 have hlb := hN.back (l.length - 1) (by omega)
 have e1 : ((l.length : Int) - 1).toNat = l.length - 1 := by omega
 have hP : z0D l = pumpF l (l.getD (l.length - 1) SN.no).m (l.length + 1) (l.getD (l.length - 1) SN.no).before (-1) := rfl
 generalize l.getD (l.length - 1) SN.no = x at *
 (refine ACalls.of_body Ty_ok mixed Tryz.func109 rfl (by kernel_rfl) Tryz.ntmps109 (by simp) (congrArg Array.toList Tryz.results109) ?_)
 simp only [z00]
 (repeat' (first | (with_reducible first | refine And.intro ?_ ?_ | refine aBl ?_ | (refine aS 9 [41, 40, 42] ?_; intro K hK)) | ((with_reducible first | refine aGo ?_ | refine rP Ty_ok mixed 1 [0, 4] [.mid [pe 1, pe 2, pe 3, pe 5, pe 6, pe 7, pe 8, pe 9, pe 10, pe 11, ⟨12, 0, true, false, false, [], []⟩] 1, .one 13] ?_); simp only [e1, hlast, go_sem]) | ((iterate 6 try ((fail_if_success with_reducible refine hK _ ?_ ?_ ?_); clear hK K)); with_reducible refine hK _ ?_ ?_ ?_; rotate_left; (focus (simp only [e1, hlast, go_sem]; exact rfl)); clear hK K) | exact aZ | fail))
 all_goals first | omega | skip
 all_goals
  refine z02 _ (by simp only [go_sem]; rfl) (Nat × Int × Int) (fun s => s.2.1 < s.1 ∧ s.2.1 < l.length ∧ -1 ≤ s.2.1 ∧ z0D l = pumpF l x.m s.1 s.2.1 s.2.2)
   (fun s => [(4, .one (.int .i64 s.2.2)), (5, .one (.int .i64 s.2.1))]) (fun _ H => H) (fun s => (s.2.1 + 1).toNat) (l.length + 1, x.before, -1) ⟨by simp only; omega, by simp only; omega, by simp only; omega, hP⟩ ?_ ?_
  ·(simp only [SubF, go_sem]; (try simp only [go_sem]); repeat' (first | exact True.intro | with_reducible refine And.intro ?_ ?_ | rfl | omega))
  rintro ⟨f, i, first⟩ ⟨hi1, hi2, hi3, hres⟩ L hL
  simp only at hi1 hi2 hi3 hres
  by_cases hi0 : 0 ≤ i
  ·have hik : i.toNat < l.length := by omega
   have hat := z1X (l := l) (k := i.toNat) hik [.nil, .int .i64 0, .int .i64 0]
   have hat2 := z1X (l := l) (k := i.toNat) hik []
   have hml := hN.len _ (z01 l i.toNat SN.no hik)
   have hb := hN.back i.toNat hik
   obtain ⟨f, rfl⟩ : ∃ g, f = g + 1 := ⟨f - 1, by omega⟩
   rw [pumpF, if_pos hi0] at hres
   generalize l.getD i.toNat SN.no = y at *
   (simp only [go_sem] at hL ⊢)
   (repeat' (first | (with_reducible first | refine And.intro ?_ ?_ | refine aBl ?_ | (refine aS 9 [41, 40, 42] ?_; intro K hK)) | ((with_reducible refine aGo ?_); simp only [hat, hat2, go_sem]) | ((with_reducible refine aCd ?_ ?_ (fun hb => ?_) (fun hb => ?_)); (iterate 2 simp only [hat, hat2, go_sem]); all_goals (simp only [hat, hat2, go_sem] at hb; try simp only [bls] at hb)) | ((iterate 6 try ((fail_if_success with_reducible refine hK _ ?_ ?_ ?_); clear hK K)); with_reducible refine hK _ ?_ ?_ ?_; rotate_left; (focus (simp only [hat, hat2, go_sem]; exact rfl)); clear hK K) | exact aZ | fail))
   all_goals first | omega | skip
   refine z02 _ (by simp only [go_sem]; rfl) Nat (fun k => k ≤ y.m.length) (fun k => [(6, .one (.bool (leqB (y.m.take k) (x.m.take k)))), (42, .one (.int .i64 k))]) (fun _ H => H) (fun k => y.m.length - k) 0 (by omega) ?_ ?_
   ·(simp only [SubF, List.take_zero, leqB, go_sem]; (try simp only [List.take_zero, leqB, go_sem]); repeat' (first | exact True.intro | with_reducible refine And.intro ?_ ?_ | rfl | omega))
   rintro k hk L2 hL2
   have hq : ((k : Nat) : Int).toNat = k := by omega
   by_cases hlk : k < y.m.length
   ·have e2 := zcz y.m x.m k hlk (by omega)
    have b1 := z0s (l := y.m) hlk
    have b2 := z0s (l := x.m) (k := k) (by omega)
    (simp only [go_sem] at hL2 ⊢)
    (repeat' (first | (with_reducible first | refine And.intro ?_ ?_ | refine aBl ?_ | (refine aS 9 [41, 40, 42] ?_; intro K hK)) | ((with_reducible refine aGo ?_); simp only [hq, b1, b2, go_sem]) | ((with_reducible refine aCd ?_ ?_ (fun hb => ?_) (fun hb => ?_)); (iterate 2 simp only [hq, b1, b2, go_sem]); all_goals (simp only [hq, b1, b2, go_sem] at hb; try simp only [bls] at hb)) | ((iterate 6 try ((fail_if_success with_reducible refine hK _ ?_ ?_ ?_); clear hK K)); with_reducible refine hK _ ?_ ?_ ?_; rotate_left; (focus (simp only [hq, b1, b2, go_sem]; exact rfl)); clear hK K) | exact aZ | fail))
    all_goals first | omega | exact (fun hg => ⟨hg, by omega, by omega⟩) | skip
    refine hL2 _ (k + 1) (by omega) ?_ (by omega)
    rw [e2]
    (simp only [SubF, go_sem]; (try simp only [go_sem]); repeat' (first | exact True.intro | with_reducible refine And.intro ?_ ?_ | rfl | omega))
   ·have hkl : k = y.m.length := by omega
    subst hkl
    rw [List.take_length, show y.m.length = x.m.length by omega, List.take_length]
    (simp only [go_sem] at hL2 ⊢)
    (repeat' (first | (with_reducible first | refine And.intro ?_ ?_ | refine aBl ?_ | (refine aS 9 [41, 40, 42] ?_; intro K hK)) | ((with_reducible refine aGo ?_); simp only [hat, hat2, hb, go_sem]) | ((with_reducible refine aCd ?_ ?_ (fun hb => ?_) (fun hb => ?_)); (iterate 2 simp only [hat, hat2, hb, go_sem]); all_goals (simp only [hat, hat2, hb, go_sem] at hb; try simp only [bls] at hb)) | ((iterate 6 try ((fail_if_success with_reducible refine hK _ ?_ ?_ ?_); clear hK K)); with_reducible refine hK _ ?_ ?_ ?_; rotate_left; (focus (simp only [hat, hat2, hb, go_sem]; exact rfl)); clear hK K) | exact aZ | fail))
    all_goals first | omega | skip
    ·rw [if_pos (by assumption)] at hres
     refine hL _ (f, y.before, i) ⟨by simp only; omega, by simp only; omega, by simp only; omega, hres⟩ ?_ (by simp only; omega)
     (simp only [SubF, go_sem]; (try simp only [go_sem]); repeat' (first | exact True.intro | with_reducible refine And.intro ?_ ?_ | rfl | omega))
    ·rw [if_neg (by simp only [*]; decide)] at hres
     refine hL _ (f, y.before, first) ⟨by simp only; omega, by simp only; omega, by simp only; omega, hres⟩ ?_ (by simp only; omega)
     (simp only [SubF, go_sem]; (try simp only [go_sem]); repeat' (first | exact True.intro | with_reducible refine And.intro ?_ ?_ | rfl | omega))
  ·(simp only [go_sem] at hL ⊢)
   (repeat' (first | (with_reducible first | refine And.intro ?_ ?_ | refine aBl ?_ | (refine aS 9 [41, 40, 42] ?_; intro K hK)) | ((with_reducible refine aGo ?_); simp only [go_sem]) | ((with_reducible refine aCd ?_ ?_ (fun hb => ?_) (fun hb => ?_)); (iterate 2 simp only [go_sem]); all_goals (simp only [go_sem] at hb; try simp only [bls] at hb)) | ((iterate 6 try ((fail_if_success with_reducible refine hK _ ?_ ?_ ?_); clear hK K)); with_reducible refine hK _ ?_ ?_ ?_; rotate_left; (focus (simp only [go_sem]; exact rfl)); clear hK K) | exact aZ | fail))
   all_goals first | omega | skip
   cases f with
   | zero => rw [hres]; rfl
   | succ f => rw [hres, pumpF, if_neg hi0]
end Go.Proofs.YtkjllcmpjghmkaaGreatDoor
