/-
 Contracts: chapter 49's examples: known.
-/
import Derived.Test.YtljpfdehnjemlaaDoorWI
set_option linter.unusedSimpArgs false
set_option linter.unusedVariables false
namespace Go.Proofs.YtljpfdehnjemlaaDoor
open Go.Eng Go.RowKit
def oneT (f t : Int) : Tr := ⟨f, [⟨f, 1⟩], [⟨t, 1⟩]⟩
def chainN (ring : Bool) : Net := ⟨[1, 0, 0], if ring then [oneT 0 1, oneT 1 2, oneT 2 0] else [oneT 0 1, oneT 1 2]⟩
theorem chain1_c (f t : Int) : ACalls Tryd.prog 33 [.one (.int .i64 f), .one (.int .i64 t)] (.agg [.int .i64 f, .list [[.int .i64 f, .int .i64 1]], .list [[.int .i64 t, .int .i64 1]]]) [] := by
 (refine ACalls.of_body Ty_ok mixed Tryd.func33 rfl (by kernel_rfl) Tryd.ntmps33 (by simp) (congrArg Array.toList Tryd.results33) ?_)
 simp only [slotsOf]
 (repeat' (first | (with_reducible first | exact True.intro | refine And.intro ?_ ?_ | refine aBl ?_ | (refine aS 5 [] ?_; intro K hK)) | ((with_reducible first | refine aGo ?_); simp only [go_sem]) | ((with_reducible refine aCd ?_ ?_ (fun hb => ?_) (fun hb => ?_)); (iterate 2 simp only [go_sem]); all_goals (simp only [go_sem] at hb; try simp only [bls] at hb)) | ((iterate 6 try ((fail_if_success with_reducible refine hK _ ?_ ?_ ?_); clear hK K)); with_reducible refine hK _ ?_ ?_ ?_; rotate_left; (focus (simp only [go_sem]; exact rfl)); clear hK K) | (with_reducible refine aGs (fun hg0 => ?_) (fun hg0 => ?_) <;> first | (with_reducible first | exact aF1 hg0 | exact aF2 hg0) | (simp only [hg0, go_sem])) | (with_reducible refine aNk ?_; intro bnil hnil; try simp only []) | exact aZ | fail))
theorem chainN_d0 : (chainN false).d = [.list [[.int .i64 1], [.int .i64 0], [.int .i64 0]], .list [[.int .i64 0, .list [[.int .i64 0, .int .i64 1]], .list [[.int .i64 1, .int .i64 1]]], [.int .i64 1, .list [[.int .i64 1, .int .i64 1]], .list [[.int .i64 2, .int .i64 1]]]]] := rfl
theorem chainN_d1 : (chainN true).d = [.list [[.int .i64 1], [.int .i64 0], [.int .i64 0]], .list [[.int .i64 0, .list [[.int .i64 0, .int .i64 1]], .list [[.int .i64 1, .int .i64 1]]], [.int .i64 1, .list [[.int .i64 1, .int .i64 1]], .list [[.int .i64 2, .int .i64 1]]], [.int .i64 2, .list [[.int .i64 2, .int .i64 1]], .list [[.int .i64 0, .int .i64 1]]]]] := rfl
set_option maxHeartbeats 4000000 in
theorem chain_c (ring : Bool) : ACalls Tryd.prog 13 [.one (.bool ring)] (.agg (chainN ring).d) [] := by
 have h1 := chain1_c 0 1
 have h2 := chain1_c 1 2
 have h3 := chain1_c 2 0
 cases ring
 ·rw [chainN_d0]
  (refine ACalls.of_body Ty_ok mixed Tryd.func13 rfl (by kernel_rfl) Tryd.ntmps13 (by simp) (congrArg Array.toList Tryd.results13) ?_)
  simp only [slotsOf]
  (repeat' (first | (with_reducible first | exact True.intro | refine And.intro ?_ ?_ | refine aBl ?_ | (refine aS 5 [] ?_; intro K hK)) | ((with_reducible first | refine aGo ?_ | refine rP Ty_ok mixed 4 [0, 2] [.mid [pe 1, ⟨3, 0, true, false, false, [], []⟩, ⟨4, 1, false, false, false, [], []⟩] 1, .one 5, .one 6, .one 7] ?_); simp only [go_sem]) | ((with_reducible refine aCd ?_ ?_ (fun hb => ?_) (fun hb => ?_)); (iterate 2 simp only [go_sem]); all_goals (simp only [go_sem] at hb; try simp only [bls] at hb)) | ((iterate 6 try ((fail_if_success with_reducible refine hK _ ?_ ?_ ?_); clear hK K)); with_reducible refine hK _ ?_ ?_ ?_; rotate_left; (focus (simp only [go_sem]; exact rfl)); clear hK K) | ((first | (with_reducible first | refine xA ?_ | refine xD ?_ | refine xO ?_ | refine xR ?_ | refine xG ?_ | refine xH ?_ | refine xM ?_) | ((with_reducible refine gA ?_); refine xA ?_) | ((with_reducible refine gD ?_); refine xD ?_) | ((with_reducible refine gG ?_); refine xG ?_)); simp only [go_sem]) | (with_reducible refine aGs (fun hg0 => ?_) (fun hg0 => ?_) <;> first | (with_reducible first | exact aF1 hg0 | exact aF2 hg0) | (simp only [hg0, go_sem])) | (with_reducible refine aNk ?_; intro bnil hnil; try simp only []) | exact aZ | fail))
 ·rw [chainN_d1]
  (refine ACalls.of_body Ty_ok mixed Tryd.func13 rfl (by kernel_rfl) Tryd.ntmps13 (by simp) (congrArg Array.toList Tryd.results13) ?_)
  simp only [slotsOf]
  (repeat' (first | (with_reducible first | exact True.intro | refine And.intro ?_ ?_ | refine aBl ?_ | (refine aS 5 [] ?_; intro K hK)) | ((with_reducible first | refine aGo ?_ | refine rP Ty_ok mixed 4 [0, 2] [.mid [pe 1, ⟨3, 0, true, false, false, [], []⟩, ⟨4, 1, false, false, false, [], []⟩] 1, .one 5, .one 6, .one 7] ?_); simp only [go_sem]) | ((with_reducible refine aCd ?_ ?_ (fun hb => ?_) (fun hb => ?_)); (iterate 2 simp only [go_sem]); all_goals (simp only [go_sem] at hb; try simp only [bls] at hb)) | ((iterate 6 try ((fail_if_success with_reducible refine hK _ ?_ ?_ ?_); clear hK K)); with_reducible refine hK _ ?_ ?_ ?_; rotate_left; (focus (simp only [go_sem]; exact rfl)); clear hK K) | ((first | (with_reducible first | refine xA ?_ | refine xD ?_ | refine xO ?_ | refine xR ?_ | refine xG ?_ | refine xH ?_ | refine xM ?_) | ((with_reducible refine gA ?_); refine xA ?_) | ((with_reducible refine gD ?_); refine xD ?_) | ((with_reducible refine gG ?_); refine xG ?_)); simp only [go_sem]) | (with_reducible refine aGs (fun hg0 => ?_) (fun hg0 => ?_) <;> first | (with_reducible first | exact aF1 hg0 | exact aF2 hg0) | (simp only [hg0, go_sem])) | (with_reducible refine aNk ?_; intro bnil hnil; try simp only []) | exact aZ | fail))
theorem setsY_3 : setsY 3 = [[0], [1], [2], [0, 1], [0, 2], [1, 2], [0, 1, 2]] :=
 (sorted_one (lt := ltLL) (ys := setsY 3) (zs := [[0], [1], [2], [0, 1], [0, 2], [1, 2], [0, 1, 2]]) (List.Perm.trans (by decide) (setsY_perm 3).symm) (setsY_pw 3) (by decide)).symm
theorem minL_ex : minL 1 (chainN true) = [[0, 1, 2]] := by
 unfold minL
 rw [show (chainN true).init.length = 3 from rfl, setsY_3]
 decide +kernel
theorem minL_ex0 : minL 1 (chainN false) = [[0]] := by
 unfold minL
 rw [show (chainN false).init.length = 3 from rfl, setsY_3]
 decide +kernel
theorem comO_ex : comO (chainN false) = some [0] := by
 unfold comO
 rw [minL_ex0]
 decide +kernel
theorem emX_ex : emX (chainN false) [0] = ([0], true, 0) := by kernel_rfl
set_option maxRecDepth 100000 in
set_option maxHeartbeats 8000000 in
theorem known_c : ACalls Tryd.prog 4 [] (.one (.bool true)) [] := by
 have hf0 : (chainN false).Fits := by constructor <;> decide +kernel
 have hf1 : (chainN true).Fits := by constructor <;> decide +kernel
 have c0 := chain_c false
 have c1 := chain_c true
 have i1 := Is_c (chainN false) [0] 1 hf0 (by decide)
 have i2 := Is_c (chainN false) [0] 2 hf0 (by decide)
 have m1 := Minimal_c (chainN true) 1 hf1 (fun _ => by decide)
 have o1 := Commoner_c (chainN false) hf0 (fun _ => by decide)
 have e1 := Emptied_c (chainN false) [0] hf0 (fun _ => by decide) (by decide)
 rw [show siE (chainN false) [0] 1 = 0 from by decide +kernel, show isL 1 (chainN false).trs [0] = true from by decide +kernel] at i1
 rw [show siE (chainN false) [0] 2 = 0 from by decide +kernel, show isL 2 (chainN false).trs [0] = false from by decide +kernel] at i2
 rw [show siE (chainN true) [] 1 = 0 from by decide +kernel, if_pos rfl, minL_ex] at m1
 have hs0 : siE (chainN false) [] 1 = 0 := by decide +kernel
 have hcs : comS (chainN false) = [0] := by rw [comS, if_pos hs0, comO_ex]; rfl
 have hch : comH (chainN false) = false := by rw [comH, hs0, comO_ex]; rfl
 rw [hcs, hch, hs0] at o1
 rw [emX_ex] at e1
 have s1 := EqualInts_c [0, 1, 2] [0, 1, 2] (by decide)
 have s2 := EqualInts_c [0] [0] (by decide)
 simp only [chainN_d0, chainN_d1, wordsD, ints, List.map_cons, List.map_nil, decide_true, Bool.and_true, Bool.and_false] at c0 c1 i1 i2 m1 o1 e1 s1 s2
 (refine ACalls.of_body Ty_ok mixed Tryd.func4 rfl (by kernel_rfl) Tryd.ntmps4 (by simp) (congrArg Array.toList Tryd.results4) ?_)
 simp only [slotsOf]
 (repeat' (first | (with_reducible first | exact True.intro | refine And.intro ?_ ?_ | refine aBl ?_ | (refine aS 13 [] ?_; intro K hK)) | ((with_reducible first | refine aGo ?_); simp only [go_sem]) | ((with_reducible refine aCd ?_ ?_ (fun hb => ?_) (fun hb => ?_)); (iterate 2 simp only [go_sem]); all_goals (simp only [go_sem] at hb; try simp only [bls] at hb)) | ((iterate 6 try ((fail_if_success with_reducible refine hK _ ?_ ?_ ?_); clear hK K)); with_reducible refine hK _ ?_ ?_ ?_; rotate_left; (focus (simp only [go_sem]; exact rfl)); clear hK K) | ((first | (with_reducible first | refine xA ?_ | refine xD ?_ | refine xO ?_ | refine xR ?_ | refine xG ?_ | refine xH ?_ | refine xM ?_) | ((with_reducible refine gA ?_); refine xA ?_) | ((with_reducible refine gD ?_); refine xD ?_) | ((with_reducible refine gG ?_); refine xG ?_)); simp only [go_sem]) | (with_reducible refine aGs (fun hg0 => ?_) (fun hg0 => ?_) <;> first | (with_reducible first | exact aF1 hg0 | exact aF2 hg0) | (simp only [hg0, go_sem])) | (with_reducible refine aNk ?_; intro bnil hnil; try simp only []) | exact aZ | fail))
 (refine MCallAt_i [2] [] (calls_toM e1) ?_ ?_; (focus (simp only [mside, handOk, go_sem]; (first | done | exact (by decide) | exact ⟨by decide, fun t ht => ht.elim⟩ | (refine ⟨by decide, ?_⟩; simp; done)))); simp only [go_sem])
 (repeat' (first | (with_reducible first | exact True.intro | refine And.intro ?_ ?_ | refine aBl ?_ | (refine aS 13 [] ?_; intro K hK)) | ((with_reducible first | refine aGo ?_); simp only [go_sem]) | ((with_reducible refine aCd ?_ ?_ (fun hb => ?_) (fun hb => ?_)); (iterate 2 simp only [go_sem]); all_goals (simp only [go_sem] at hb; try simp only [bls] at hb)) | ((iterate 6 try ((fail_if_success with_reducible refine hK _ ?_ ?_ ?_); clear hK K)); with_reducible refine hK _ ?_ ?_ ?_; rotate_left; (focus (simp only [go_sem]; exact rfl)); clear hK K) | ((first | (with_reducible first | refine xA ?_ | refine xD ?_ | refine xO ?_ | refine xR ?_ | refine xG ?_ | refine xH ?_ | refine xM ?_) | ((with_reducible refine gA ?_); refine xA ?_) | ((with_reducible refine gD ?_); refine xD ?_) | ((with_reducible refine gG ?_); refine xG ?_)); simp only [go_sem]) | (with_reducible refine aGs (fun hg0 => ?_) (fun hg0 => ?_) <;> first | (with_reducible first | exact aF1 hg0 | exact aF2 hg0) | (simp only [hg0, go_sem])) | (with_reducible refine aNk ?_; intro bnil hnil; try simp only []) | exact aZ | fail))
 all_goals first | omega | skip
end Go.Proofs.YtljpfdehnjemlaaDoor
