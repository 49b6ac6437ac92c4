/-
 Contracts: Events of a net.
-/
import Derived.Test.YtkjllcmpjghmkaaGreatDoorSV
set_option linter.unusedSimpArgs false
set_option linter.unusedVariables false
namespace Go.Proofs.YtkjllcmpjghmkaaGreatDoor
open Go.Eng Go.RowKit
set_option maxHeartbeats 8000000 in
theorem zhs (n : Net) (hf : n.Fits) : ACalls Tryz.prog 30 [.agg n.d] (.one (.own 0)) [.row 3 1 (ints (evsN n))] := by
 have h2 := hf.trs
 (refine ACalls.of_body_own Ty_ok mixed Tryz.func30 rfl (by kernel_rfl) Tryz.ntmps30 (by simp) (congrArg Array.toList Tryz.results30) ?_)
 simp only [z00, Net.d]
 (repeat' (first | (with_reducible first | refine aBl ?_ | (refine aS 6 [8, 7, 9] ?_; intro K hK)) | ((with_reducible refine aGo ?_); simp only [go_sem]) | ((iterate 6 try ((fail_if_success with_reducible refine hK _ ?_ ?_ ?_); clear hK K)); with_reducible refine hK _ ?_ ?_ ?_; rotate_left; (focus (simp only [go_sem]; exact rfl)); clear hK K) | fail))
 all_goals first | omega | skip
 refine z02 _ (by simp only [go_sem]; rfl) Nat (fun k => k ≤ n.trs.length) (fun k => [(3, .one (.own 2)), (9, .one (.int .i64 k))]) (fun k H => H.set 2 (.row 3 1 (ints ((n.trs.take k).map Tr.event)))) (fun k => n.trs.length - k) 0 (by omega) ?_ ?_
 ·have e0 : ints ((n.trs.take 0).map Tr.event) = [] := rfl
  rw [e0]
  (simp only [SubF, List.set_cons_succ, List.set_cons_zero, go_sem]; (try simp only [List.set_cons_succ, List.set_cons_zero, go_sem]); repeat' (first | exact True.intro | with_reducible refine And.intro ?_ ?_ | rfl | omega))
 rintro k hk L hL
 have hq : ((k : Nat) : Int).toNat = k := by omega
 have hml : ((n.trs.take k).map Tr.event).length = k := by rw [List.length_map, List.length_take]; omega
 by_cases hlt : k < n.trs.length
 ·have hg := z1K hlt [.int .i64 0, .nil, .nil]
  have hs := zht n.trs k hlt
  generalize n.trs.getD k Tr.no = t at *
  (simp only [List.set_cons_succ, List.set_cons_zero, go_sem] at hL ⊢)
  (repeat' (first | (with_reducible first | refine And.intro ?_ ?_ | refine aBl ?_ | (refine aS 6 [8, 7, 9] ?_; intro K hK)) | ((with_reducible refine aGo ?_); simp only [hg, hq, go_sem]) | ((with_reducible refine aCd ?_ ?_ (fun hb => ?_) (fun hb => ?_)); (iterate 2 simp only [hg, hq, go_sem]); all_goals (simp only [hg, hq, go_sem] at hb; try simp only [bls] at hb)) | ((iterate 6 try ((fail_if_success with_reducible refine hK _ ?_ ?_ ?_); clear hK K)); with_reducible refine hK _ ?_ ?_ ?_; rotate_left; (focus (simp only [hg, hq, go_sem]; exact rfl)); clear hK K) | exact aZ | fail))
  all_goals first | omega | skip
  refine hL _ (k + 1) (by omega) ?_ (by omega)
  rw [hs, ← z0f, ← z0e]
  (simp only [SubF, List.set_cons_succ, List.set_cons_zero, go_sem]; (try simp only [List.set_cons_succ, List.set_cons_zero, go_sem]); repeat' (first | exact True.intro | with_reducible refine And.intro ?_ ?_ | rfl | omega))
 ·have hkl : k = n.trs.length := by omega
  subst hkl
  have hso := zec (evL n) (by rw [evL, List.length_map]; omega)
  have hco := z9m (sortI (evL n)) (by rw [z1z, evL, List.length_map]; omega)
  have he : evsN n = compI (sortI (evL n)) := rfl
  have htk : (List.take n.trs.length n.trs).map Tr.event = evL n := by rw [List.take_length]; rfl
  rw [htk] at *
  rw [he]
  (simp only [List.set_cons_succ, List.set_cons_zero, go_sem] at hL ⊢)
  (repeat' (first | (with_reducible first | refine And.intro ?_ ?_ | refine aBl ?_ | (refine aS 6 [8, 7, 9] ?_; intro K hK)) | ((with_reducible refine aGo ?_); simp only [go_sem]) | ((with_reducible refine aCd ?_ ?_ (fun hb => ?_) (fun hb => ?_)); (iterate 2 simp only [go_sem]); all_goals (simp only [go_sem] at hb; try simp only [bls] at hb)) | ((iterate 6 try ((fail_if_success with_reducible refine hK _ ?_ ?_ ?_); clear hK K)); with_reducible refine hK _ ?_ ?_ ?_; rotate_left; (focus (simp only [go_sem]; exact rfl)); clear hK K) | exact aZ | fail))
  all_goals first | omega | skip
  (refine z0Z [] [2] (hso) ?_ ?_; (focus (simp only [mside, z2a, go_sem]; (first | done | exact (by decide) | exact ⟨by decide, fun t ht => ht.elim⟩ | (refine ⟨by decide, ?_⟩; simp; done)))); simp only [go_sem])
  (repeat' (first | (with_reducible (refine aS 6 [8, 7, 9] ?_; intro K hK)) | ((with_reducible refine aGo ?_); simp only [go_sem]) | ((iterate 6 try ((fail_if_success with_reducible refine hK _ ?_ ?_ ?_); clear hK K)); with_reducible refine hK _ ?_ ?_ ?_; rotate_left; (focus (simp only [go_sem]; exact rfl)); clear hK K) | fail))
  all_goals first | omega | skip
  (refine z0Z [] [2] (hco) ?_ ?_; (focus (simp only [mside, z2a, go_sem]; (first | done | exact (by decide) | exact ⟨by decide, fun t ht => ht.elim⟩ | (refine ⟨by decide, ?_⟩; simp; done)))); simp only [go_sem])
  (repeat' (first | ((with_reducible refine aGo ?_); simp only [go_sem]) | ((iterate 6 try ((fail_if_success with_reducible refine hK _ ?_ ?_ ?_); clear hK K)); with_reducible refine hK _ ?_ ?_ ?_; rotate_left; (focus (simp only [go_sem]; exact rfl)); clear hK K) | fail))
  all_goals first | omega | rfl | skip
end Go.Proofs.YtkjllcmpjghmkaaGreatDoor
