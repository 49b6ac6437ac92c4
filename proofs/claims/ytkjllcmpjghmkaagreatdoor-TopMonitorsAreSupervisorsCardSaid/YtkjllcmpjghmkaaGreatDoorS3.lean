/-
 Contracts: the search.
-/
import Derived.Test.YtkjllcmpjghmkaaGreatDoorS2
set_option linter.unusedSimpArgs false
set_option linter.unusedVariables false
namespace Go.Proofs.YtkjllcmpjghmkaaGreatDoor
open Go.Eng Go.RowKit
def soRes : SOut → AV
 | .err e => .tup [.one (.raw (.pointer none)), .one (.int .i64 e)]
 | .pump nodes edges p => .tup [.one (.ref [.list (snsD nodes), .list (edgsD edges), .unk, .int .i64 p]), .one (.int .i64 0)]
 | .cont nodes edges => .tup [.one (.ref [.list (snsD nodes), .list (edgsD edges), .unk, .int .i64 (-1)]), .one (.int .i64 0)]
def restF (n : Net) (lim f i : Nat) (ts : List Int) (nodes : List SN) (edges : List Edg) : SOut :=
 match z0t n lim i ts nodes edges with
 | .cont nodes' edges' => z0x n lim f (i + 1) nodes' edges'
 | r => r
theorem zgM (n : Net) (lim f i : Nat) (nodes : List SN) (edges : List Edg) : restF n lim f i [] nodes edges = z0x n lim f (i + 1) nodes edges := rfl
theorem zeB (n : Net) (lim f i : Nat) (t : Int) (ts : List Int) (nodes : List SN) (edges : List Edg) : restF n lim f i (t :: ts) nodes edges = match stepF n lim i t nodes edges with
  | .cont nodes' edges' => restF n lim f i ts nodes' edges'
  | r => r := by
 simp only [restF, z0t]
 cases stepF n lim i t nodes edges <;> rfl
theorem z7Y (n : Net) (lim f i : Nat) (nodes : List SN) (edges : List Edg) : z0x n lim (f + 1) i nodes edges = if i < nodes.length then restF n lim f i (ableL n (nodes.getD i SN.no).m n.trs.length) nodes edges else .cont nodes edges := rfl
theorem z08 {α : Type} (l l' : List α) (k : Nat) (d : α) (h : k < l.length) : (l ++ l').getD k d = l.getD k d := by
 simp [List.getD, List.getElem?_append_left h]
theorem z15 {α : Type} (l : List α) (x d : α) : (l ++ [x]).getD l.length d = x := by simp [List.getD]
theorem NodesOk.snoc {p : Nat} {l : List SN} (h : NodesOk p l) {m : List Int} {i : Nat} {t : Int} (hl : m.length = p) (hm : ∀ y ∈ m, 0 ≤ y ∧ y ≤ 65536) (hi : i < l.length) : NodesOk p (l ++ [⟨m, i, t⟩]) := by
 refine ⟨fun x hx => ?_, fun x hx => ?_, fun k hk => ?_⟩
 ·rcases List.mem_append.1 hx with hx | hx
  ·exact h.len x hx
  ·rw [List.mem_singleton] at hx; subst hx; exact hl
 ·rcases List.mem_append.1 hx with hx | hx
  ·exact h.tok x hx
  ·rw [List.mem_singleton] at hx; subst hx; exact hm
 ·rw [List.length_append, List.length_singleton] at hk
  by_cases e : k < l.length
  ·rw [z08 _ _ _ _ e]; exact h.back k e
  ·rw [show k = l.length by omega, z15]
   simp only; omega
theorem z3U {m : List Int} (hm : ∀ y ∈ m, 0 ≤ y ∧ y ≤ 65536) : NodesOk m.length [⟨m, -1, -1⟩] := by
 refine ⟨fun x hx => ?_, fun x hx => ?_, fun k hk => ?_⟩
 ·rw [List.mem_singleton] at hx; subst hx; rfl
 ·rw [List.mem_singleton] at hx; subst hx; exact hm
 ·rw [List.length_singleton] at hk
  obtain rfl : k = 0 := by omega
  exact ⟨by show (-1 : Int) ≤ -1; omega, by show (-1 : Int) < ((0 : Nat) : Int); omega⟩
theorem zci (l : List SN) (last : List Int) : ∀ (f : Nat) (i first : Int), -1 ≤ first → -1 ≤ pumpF l last f i first
 | 0, _, _, h => h
 | f + 1, i, first, h => by
  simp only [pumpF]
  split
  ·refine zci l last f _ _ ?_
   split <;> omega
  ·exact h
theorem zeG (l : List SN) : -1 ≤ z0D l := zci _ _ _ _ _ (by omega)
theorem z2v (l : List Edg) (a b c : Int) : edgsD (l ++ [⟨a, b, c⟩]) = edgsD l ++ [[.int .i64 a, .int .i64 b, .int .i64 c]] := by rw [← zbr]; rfl
set_option maxHeartbeats 64000000 in
set_option maxRecDepth 20000 in
theorem z7Q (n : Net) (hn : NetOk n) (h0 : n.init ≠ []) : ACalls Tryz.prog 63 [.agg n.d] (soRes (z0w n 4096)) [] := by
 have hi10 := hn.init
 have ht10 := hn.trs
 have htok := hn.tok
 have hadd0 := add_c [] [] n.init (-1) (-1) (-1) (by decide) h0 (by omega) htok (fun y hy => by simp at hy) rfl
 rw [List.nil_append, show z0P 0 [] = [] from rfl, show edgsD [] = [] from rfl, show snsD [] = [] from rfl] at hadd0
 have hR : z0w n 4096 = z0x n 4096 4098 0 [⟨n.init, -1, -1⟩] [] := rfl
 generalize z0w n 4096 = R at *
 (refine ACalls.of_body Ty_ok mixed Tryz.func63 rfl (by kernel_rfl) Tryz.ntmps63 (by simp) (congrArg Array.toList Tryz.results63) ?_)
 simp only [z00, Net.d]
 (repeat' (first | (with_reducible (refine aS 12 [40, 39, 41] ?_; intro K hK)) | ((with_reducible refine aGo ?_); simp only [go_sem]) | ((iterate 6 try ((fail_if_success with_reducible refine hK _ ?_ ?_ ?_); clear hK K)); with_reducible refine hK _ ?_ ?_ ?_; rotate_left; (focus (simp only [go_sem]; exact rfl)); clear hK K) | ((with_reducible refine cA (z10 n.init (by omega)) ?_); simp only [go_sem]) | fail))
 (refine zgj [.cell 2 0 103 3, .cell 2 1 96 3] [3] [2, 1, 5, 4] (hadd0) ?_ ?_ ?_; (focus (simp only [go_sem]; done)); (focus (simp only [mside, z2a, go_sem]; (first | done | exact (by decide) | exact ⟨by decide, fun t ht => ht.elim⟩ | (refine ⟨by decide, ?_⟩; simp; done)))); simp only [go_sem])
 (repeat' (first | (with_reducible first | refine aBl ?_ | (refine aS 12 [40, 39, 41] ?_; intro K hK)) | ((with_reducible refine aGo ?_); simp only [go_sem]) | ((iterate 6 try ((fail_if_success with_reducible refine hK _ ?_ ?_ ?_); clear hK K)); with_reducible refine hK _ ?_ ?_ ?_; rotate_left; (focus (simp only [go_sem]; exact rfl)); clear hK K) | fail))
 refine z02 _ (by simp only [go_sem]; rfl) (Nat × Nat × List SN × List Edg)
  (fun s => R = z0x n 4096 s.1 s.2.1 s.2.2.1 s.2.2.2 ∧ NodesOk n.init.length s.2.2.1 ∧ s.2.1 ≤ s.2.2.1.length ∧ s.2.2.1.length ≤ 4096 ∧ s.2.2.2.length ≤ 10 * s.2.1 ∧ s.1 + s.2.1 = 4098)
  (fun s => [(5, .one (.int .i64 s.2.1))])
  (fun s _ => [.var 32 [.list (ints n.init), .list (trsD n.trs)], .map .str (z0P 0 s.2.2.1), .var 94 [.own 4, .own 5, .mp 1, .int .i64 (-1)], .gone, .row 103 3 (snsD s.2.2.1), .row 96 3 (edgsD s.2.2.2)])
  (fun s => s.1) (4098, 0, [⟨n.init, -1, -1⟩], []) ⟨hR, z3U htok, by simp only; omega, by simp only [List.length_singleton]; omega, by simp only [List.length_nil]; omega, rfl⟩ ?_ ?_
 ·rw [show edgsD [] = [] from rfl]
  (simp only [SubF, go_sem]; (try simp only [go_sem]); repeat' (first | exact True.intro | with_reducible refine And.intro ?_ ?_ | rfl | omega))
 rintro ⟨f, i, nodes, edges⟩ ⟨hres, hN, hi, hl, he, hf⟩ L hL
 simp only at hres hN hi hl he hf
 by_cases hik : i < nodes.length
 ·have hat := z1X (l := nodes) (k := i) hik [.nil, .int .i64 0, .int .i64 0]
  have hat2 := z1X (l := nodes) (k := i) hik []
  have hml := hN.len _ (z01 nodes i SN.no hik)
  have hmt := hN.tok _ (z01 nodes i SN.no hik)
  obtain ⟨f, rfl⟩ : ∃ g, f = g + 1 := ⟨f - 1, by omega⟩
  rw [z7Y, if_pos hik] at hres
  have hx : nodes.getD i SN.no = nodes.getD i SN.no := rfl
  generalize hxx : nodes.getD i SN.no = x at hres hat hat2 hml hmt
  have hA := zge n x.m hn hml
  have hAl := z2k n x.m n.trs.length
  have hAm : ∀ t ∈ ableL n x.m n.trs.length, 0 ≤ t ∧ t < n.trs.length := fun t ht => ⟨(z4G ht).1, (z4G ht).2.1⟩
  generalize ableL n x.m n.trs.length = ts at hres hA hAl hAm
  simp only [Net.d] at hA
  (simp only [go_sem] at hL ⊢)
  (repeat' (first | (with_reducible first | refine And.intro ?_ ?_ | refine aBl ?_ | (refine aS 12 [40, 39, 41] ?_; intro K hK)) | ((with_reducible first | refine aGo ?_ | refine rP Ty_ok mixed 6 [1, 5, 11] [.mid [pe 0, pe 2, pe 3, pe 4, pe 6, pe 7, pe 8] 0, .one 9, .one 10] ?_); simp only [hat, hat2, Int.toNat_natCast, go_sem]) | ((with_reducible refine aCd ?_ ?_ (fun hb => ?_) (fun hb => ?_)); (iterate 2 simp only [hat, hat2, Int.toNat_natCast, go_sem]); all_goals (simp only [hat, hat2, Int.toNat_natCast, go_sem] at hb; try simp only [bls] at hb)) | ((iterate 6 try ((fail_if_success with_reducible refine hK _ ?_ ?_ ?_); clear hK K)); with_reducible refine hK _ ?_ ?_ ?_; rotate_left; (focus (simp only [hat, hat2, Int.toNat_natCast, go_sem]; exact rfl)); clear hK K) | ((with_reducible refine xA ?_); simp only [hat, hat2, Int.toNat_natCast, go_sem]) | exact aZ | fail))
  all_goals first | omega | skip
  refine z02 _ (by simp only [go_sem]; rfl) (Nat × List SN × List Edg)
   (fun s => s.1 ≤ ts.length ∧ R = restF n 4096 f i (ts.drop s.1) s.2.1 s.2.2 ∧ NodesOk n.init.length s.2.1 ∧ i < s.2.1.length ∧ s.2.1.length ≤ 4096 ∧ s.2.2.length ≤ 10 * i + s.1 ∧ s.2.1.getD i SN.no = x)
   (fun s => [(41, .one (.int .i64 s.1))])
   (fun s _ => [.var 32 [.list (ints n.init), .list (trsD n.trs)], .map .str (z0P 0 s.2.1), .var 94 [.own 4, .own 5, .mp 1, .int .i64 (-1)], .gone, .row 103 3 (snsD s.2.1), .row 96 3 (edgsD s.2.2), .row 3 1 (ints ts)])
   (fun s => ts.length - s.1) (0, nodes, edges) ⟨by simp only; omega, by simpa using hres, hN, hik, hl, by simp only; omega, hxx⟩ ?_ ?_
  ·(simp only [SubF, go_sem]; (try simp only [go_sem]); repeat' (first | exact True.intro | with_reducible refine And.intro ?_ ?_ | rfl | omega))
  clear hres hN he hl hat hat2 hik hx hxx hi
  rintro ⟨j, nd, es⟩ ⟨hj, hres, hN, hik, hl, he, hxx⟩ L2 hL2
  simp only at hj hres hN hik hl he hxx
  have hq : ((j : Nat) : Int).toNat = j := by omega
  by_cases hjl : j < ts.length
  ·have ha := z0s (l := ts) hjl
   have htm := hAm _ (z01 ts j 0 hjl)
   rw [z0H ts j 0 hjl, zeB] at hres
   generalize ts.getD j 0 = t at ha htm hres
   have htl : t.toNat < n.trs.length := by omega
   have hat := z1X (l := nd) (k := i) hik [.nil, .int .i64 0, .int .i64 0]
   have hat2 := z1X (l := nd) (k := i) hik []
   rw [hxx] at hat hat2
   have hg := z1K htl [.int .i64 0, .nil, .nil]
   have hg2 := z1K htl []
   have hin := hn.inn _ (z01 n.trs t.toNat Tr.no htl)
   have hout := hn.out _ (z01 n.trs t.toNat Tr.no htl)
   rw [← hml] at hin hout
   have hst : stepF n 4096 i t nd es = if (z05 (n.trs.getD t.toNat Tr.no) x.m).any tokB = true then .err 3 else match fndF (z05 (n.trs.getD t.toNat Tr.no) x.m) 0 nd with
    | some k => .cont nd (es ++ [(⟨i, t, k⟩ : Edg)])
    | none => if 0 ≤ z0D (nd ++ [(⟨z05 (n.trs.getD t.toNat Tr.no) x.m, i, t⟩ : SN)]) then .pump (nd ++ [(⟨z05 (n.trs.getD t.toNat Tr.no) x.m, i, t⟩ : SN)]) es (z0D (nd ++ [(⟨z05 (n.trs.getD t.toNat Tr.no) x.m, i, t⟩ : SN)])) else if 4096 < (nd ++ [(⟨z05 (n.trs.getD t.toNat Tr.no) x.m, i, t⟩ : SN)]).length then .err 3 else .cont (nd ++ [(⟨z05 (n.trs.getD t.toNat Tr.no) x.m, i, t⟩ : SN)]) (es ++ [(⟨i, t, nd.length⟩ : Edg)]) := by
    rw [← hxx]; rfl
   rw [hst] at hres
   clear hst
   generalize n.trs.getD t.toNat Tr.no = tr at *
   have hfi := ziT x.m tr hin hout (by omega) ⟨fun y hy => by have := hmt y hy; omega⟩
   have hfl := z0y tr x.m
   rw [zfD, zfE] at hfi
   simp only [Tr.d] at hfi
   by_cases hbad : (z05 tr x.m).any tokB = true
   ·rw [if_pos hbad] at hres
    rw [if_pos hbad, if_pos hbad] at hfi
    simp only at hres
    subst hres
    (simp only [go_sem] at hL2 ⊢)
    (repeat' (first | (with_reducible first | refine And.intro ?_ ?_ | refine aBl ?_ | (refine aS 12 [40, 39, 41] ?_; intro K hK)) | ((with_reducible first | refine aGo ?_ | refine rP Ty_ok mixed 9 [0, 2, 5, 9] [.mid [pe 1, pe 3, pe 4, pe 6, pe 7, pe 8, pe 10, pe 11, pe 12] 0, .one 13, .mid [pe 14, pe 15, pe 16, pe 17, pe 18] 0] ?_ | refine rP Ty_ok mixed 12 [0, 4] [.mid [pe 1, pe 2, pe 3, ⟨5, 0, true, false, false, [], []⟩, ⟨6, 1, false, false, false, [], []⟩, ⟨7, 1, false, false, false, [], []⟩, ⟨8, 1, false, false, false, [], []⟩, ⟨9, 1, false, false, false, [], []⟩, ⟨10, 1, false, false, false, [], []⟩, ⟨11, 1, false, false, false, [], []⟩] 1] ?_); simp only [hq, ha, hat, hat2, hg, hg2, Int.toNat_natCast, go_sem]) | ((with_reducible refine aCd ?_ ?_ (fun hb => ?_) (fun hb => ?_)); (iterate 2 simp only [hq, ha, hat, hat2, hg, hg2, Int.toNat_natCast, go_sem]); all_goals (simp only [hq, ha, hat, hat2, hg, hg2, Int.toNat_natCast, go_sem] at hb; try simp only [bls] at hb)) | ((iterate 6 try ((fail_if_success with_reducible refine hK _ ?_ ?_ ?_); clear hK K)); with_reducible refine hK _ ?_ ?_ ?_; rotate_left; (focus (simp only [hq, ha, hat, hat2, hg, hg2, Int.toNat_natCast, go_sem]; exact rfl)); clear hK K) | ((with_reducible refine xA ?_); simp only [hq, ha, hat, hat2, hg, hg2, Int.toNat_natCast, go_sem]) | exact aZ | fail))
    all_goals first | omega | rfl | skip
   ·rw [if_neg hbad] at hres
    rw [if_neg hbad, if_neg hbad] at hfi
    have hok : ∀ y ∈ z05 tr x.m, 0 ≤ y ∧ y ≤ 65536 := fun y hy => by
     have : tokB y ≠ true := fun hh => hbad (List.any_eq_true.2 ⟨y, hy, hh⟩)
     simp [tokB] at this
     omega
    generalize z05 tr x.m = m at *
    have hm0 : m ≠ [] := fun e => h0 (List.eq_nil_of_length_eq_zero (by rw [e] at hfl; simp at hfl; omega))
    have hky := key_c m hm0 (by omega) fun y hy => by have := hok y hy; omega
    have hfk := z5y (m := m) (fun y hy => (hok y hy).1) nd 0 fun y hy z hz => (hN.tok y hy z hz).1
    cases hf : fndF m 0 nd with
    | some k =>
     have hkl := zfA hf
     rw [hf] at hres hfk
     simp only [Option.map_some] at hfk
     simp only at hres
     (simp only [go_sem] at hL2 ⊢)
     (repeat' (first | (with_reducible first | refine And.intro ?_ ?_ | refine aBl ?_ | (refine aS 12 [40, 39, 41] ?_; intro K hK)) | ((with_reducible first | refine aGo ?_ | refine rP Ty_ok mixed 9 [0, 2, 5, 9] [.mid [pe 1, pe 3, pe 4, pe 6, pe 7, pe 8, pe 10, pe 11, pe 12] 0, .one 13, .mid [pe 14, pe 15, pe 16, pe 17, pe 18] 0] ?_ | refine rP Ty_ok mixed 12 [0, 4] [.mid [pe 1, pe 2, pe 3, ⟨5, 0, true, false, false, [], []⟩, ⟨6, 1, false, false, false, [], []⟩, ⟨7, 1, false, false, false, [], []⟩, ⟨8, 1, false, false, false, [], []⟩, ⟨9, 1, false, false, false, [], []⟩, ⟨10, 1, false, false, false, [], []⟩, ⟨11, 1, false, false, false, [], []⟩] 1] ?_); simp only [hq, ha, hat, hat2, hg, hg2, hfk, Int.toNat_natCast, Option.getD_some, Option.isSome_some, go_sem]) | ((with_reducible refine aCd ?_ ?_ (fun hb => ?_) (fun hb => ?_)); (iterate 2 simp only [hq, ha, hat, hat2, hg, hg2, hfk, Int.toNat_natCast, Option.getD_some, Option.isSome_some, go_sem]); all_goals (simp only [hq, ha, hat, hat2, hg, hg2, hfk, Int.toNat_natCast, Option.getD_some, Option.isSome_some, go_sem] at hb; try simp only [bls] at hb)) | ((iterate 6 try ((fail_if_success with_reducible refine hK _ ?_ ?_ ?_); clear hK K)); with_reducible refine hK _ ?_ ?_ ?_; rotate_left; (focus (simp only [hq, ha, hat, hat2, hg, hg2, hfk, Int.toNat_natCast, Option.getD_some, Option.isSome_some, go_sem]; exact rfl)); clear hK K) | ((with_reducible first | refine xA ?_ | refine xO ?_); simp only [hq, ha, hat, hat2, hg, hg2, hfk, Int.toNat_natCast, Option.getD_some, Option.isSome_some, go_sem]) | exact aZ | fail))
     all_goals first | omega | skip
     refine hL2 _ (j + 1, nd, es ++ [⟨i, t, k⟩]) ⟨by simp only; omega, hres, hN, hik, hl, by simp only [List.length_append, List.length_singleton]; omega, hxx⟩ ?_ (by simp only; omega)
     simp only [z2v]
     (simp only [SubF, go_sem]; (try simp only [go_sem]); repeat' (first | exact True.intro | with_reducible refine And.intro ?_ ?_ | rfl | omega))
    | none =>
     rw [hf] at hres hfk
     simp only [Option.map_none] at hfk
     simp only at hres
     have hadd := add_c nd es m i t (-1) (by omega) hm0 (by omega) hok (fun y hy z hz => (hN.tok y hy z hz).1) hf
     have hN2 := hN.snoc (m := m) (i := i) (t := t) (by omega) hok hik
     have hpu := ziy n.init.length (nd ++ [(⟨m, (i : Int), t⟩ : SN)]) (edgsD es) (-1) (by simp; omega) (by simp) (by omega) hN2
     have hpge := zeG (nd ++ [(⟨m, (i : Int), t⟩ : SN)])
     have hnl : (nd ++ [(⟨m, (i : Int), t⟩ : SN)]).length = nd.length + 1 := by simp
     generalize hnd : nd ++ [(⟨m, (i : Int), t⟩ : SN)] = nd2 at *
     generalize z0D nd2 = pv at *
     (simp only [go_sem] at hL2 ⊢)
     (repeat' (first | (with_reducible first | refine And.intro ?_ ?_ | refine aBl ?_ | (refine aS 12 [40, 39, 41] ?_; intro K hK)) | ((with_reducible first | refine aGo ?_ | refine rP Ty_ok mixed 9 [0, 2, 5, 9] [.mid [pe 1, pe 3, pe 4, pe 6, pe 7, pe 8, pe 10, pe 11, pe 12] 0, .one 13, .mid [pe 14, pe 15, pe 16, pe 17, pe 18] 0] ?_ | refine rP Ty_ok mixed 12 [0, 4] [.mid [pe 1, pe 2, pe 3, ⟨5, 0, true, false, false, [], []⟩, ⟨6, 1, false, false, false, [], []⟩, ⟨7, 1, false, false, false, [], []⟩, ⟨8, 1, false, false, false, [], []⟩, ⟨9, 1, false, false, false, [], []⟩, ⟨10, 1, false, false, false, [], []⟩, ⟨11, 1, false, false, false, [], []⟩] 1] ?_); simp only [hq, ha, hat, hat2, hg, hg2, hfk, Int.toNat_natCast, Option.getD_none, Option.isSome_none, go_sem]) | ((with_reducible refine aCd ?_ ?_ (fun hb => ?_) (fun hb => ?_)); (iterate 2 simp only [hq, ha, hat, hat2, hg, hg2, hfk, Int.toNat_natCast, Option.getD_none, Option.isSome_none, go_sem]); all_goals (simp only [hq, ha, hat, hat2, hg, hg2, hfk, Int.toNat_natCast, Option.getD_none, Option.isSome_none, go_sem] at hb; try simp only [bls] at hb)) | ((iterate 6 try ((fail_if_success with_reducible refine hK _ ?_ ?_ ?_); clear hK K)); with_reducible refine hK _ ?_ ?_ ?_; rotate_left; (focus (simp only [hq, ha, hat, hat2, hg, hg2, hfk, Int.toNat_natCast, Option.getD_none, Option.isSome_none, go_sem]; exact rfl)); clear hK K) | ((with_reducible first | refine xA ?_ | refine xO ?_); simp only [hq, ha, hat, hat2, hg, hg2, hfk, Int.toNat_natCast, Option.getD_none, Option.isSome_none, go_sem]) | exact aZ | fail))
     all_goals first | omega | skip
     (refine z0Z [] [2, 1, 5, 4] (hadd) ?_ ?_; (focus (simp only [mside, z2a, go_sem]; (first | done | exact (by decide) | exact ⟨by decide, fun t ht => ht.elim⟩ | (refine ⟨by decide, ?_⟩; simp; done)))); simp only [go_sem])
     (repeat' (first | (with_reducible first | refine And.intro ?_ ?_ | (refine aS 12 [40, 39, 41] ?_; intro K hK)) | ((with_reducible refine aGo ?_); simp only [hq, ha, Int.toNat_natCast, hnl, go_sem]) | ((with_reducible refine aCd ?_ ?_ (fun hb => ?_) (fun hb => ?_)); (iterate 2 simp only [hq, ha, Int.toNat_natCast, hnl, go_sem]); all_goals (simp only [hq, ha, Int.toNat_natCast, hnl, go_sem] at hb; try simp only [bls] at hb)) | ((iterate 6 try ((fail_if_success with_reducible refine hK _ ?_ ?_ ?_); clear hK K)); with_reducible refine hK _ ?_ ?_ ?_; rotate_left; (focus (simp only [hq, ha, Int.toNat_natCast, hnl, go_sem]; exact rfl)); clear hK K) | ((with_reducible refine xA ?_); simp only [hq, ha, Int.toNat_natCast, hnl, go_sem]) | exact aZ | fail))
     all_goals first | omega | skip
     ·rw [hres, if_pos ‹0 ≤ pv›]; rfl
     ·rw [hres, if_neg (by omega), if_pos (by omega)]; rfl
     ·have hpv : pv = -1 := by omega
      rw [if_neg (by omega), if_neg (by omega)] at hres
      subst hpv
      refine hL2 _ (j + 1, nd2, es ++ [(⟨i, t, nd.length⟩ : Edg)]) ⟨by simp only; omega, hres, hN2, by simp only; omega, by simp only; omega, by simp only [List.length_append, List.length_singleton]; omega, by simp only; rw [← hnd, z08 _ _ _ _ hik]; exact hxx⟩ ?_ (by simp only; omega)
      simp only [z2v]
      (simp only [SubF, go_sem]; (try simp only [go_sem]); repeat' (first | exact True.intro | with_reducible refine And.intro ?_ ?_ | rfl | omega))
  ·have hjj : j = ts.length := by omega
   subst hjj
   rw [List.drop_of_length_le (Nat.le_refl _), zgM] at hres
   (simp only [go_sem] at hL2 ⊢)
   (repeat' (first | (with_reducible first | refine And.intro ?_ ?_ | refine aBl ?_ | (refine aS 12 [40, 39, 41] ?_; intro K hK)) | ((with_reducible first | refine aGo ?_ | refine rP Ty_ok mixed 9 [0, 2, 5, 9] [.mid [pe 1, pe 3, pe 4, pe 6, pe 7, pe 8, pe 10, pe 11, pe 12] 0, .one 13, .mid [pe 14, pe 15, pe 16, pe 17, pe 18] 0] ?_); simp only [go_sem]) | ((with_reducible refine aCd ?_ ?_ (fun hb => ?_) (fun hb => ?_)); (iterate 2 simp only [go_sem]); all_goals (simp only [go_sem] at hb; try simp only [bls] at hb)) | ((iterate 6 try ((fail_if_success with_reducible refine hK _ ?_ ?_ ?_); clear hK K)); with_reducible refine hK _ ?_ ?_ ?_; rotate_left; (focus (simp only [go_sem]; exact rfl)); clear hK K) | exact aZ | fail))
   all_goals first | omega | skip
   refine hL _ (f, i + 1, nd, es) ⟨hres, hN, by simp only; omega, hl, by simp only; omega, by simp only; omega⟩ ?_ (by simp only; omega)
   (simp only [SubF, go_sem]; (try simp only [go_sem]); repeat' (first | exact True.intro | with_reducible refine And.intro ?_ ?_ | rfl | omega))
 ·have hil : i = nodes.length := by omega
  obtain ⟨f, rfl⟩ : ∃ g, f = g + 1 := ⟨f - 1, by omega⟩
  rw [z7Y, if_neg hik] at hres
  subst hres
  (simp only [go_sem] at hL ⊢)
  (repeat' (first | (with_reducible first | refine And.intro ?_ ?_ | refine aBl ?_ | (refine aS 12 [40, 39, 41] ?_; intro K hK)) | ((with_reducible first | refine aGo ?_ | refine rP Ty_ok mixed 6 [1, 5, 11] [.mid [pe 0, pe 2, pe 3, pe 4, pe 6, pe 7, pe 8] 0, .one 9, .one 10] ?_); simp only [go_sem]) | ((with_reducible refine aCd ?_ ?_ (fun hb => ?_) (fun hb => ?_)); (iterate 2 simp only [go_sem]); all_goals (simp only [go_sem] at hb; try simp only [bls] at hb)) | ((iterate 6 try ((fail_if_success with_reducible refine hK _ ?_ ?_ ?_); clear hK K)); with_reducible refine hK _ ?_ ?_ ?_; rotate_left; (focus (simp only [go_sem]; exact rfl)); clear hK K) | exact aZ | fail))
  all_goals first | omega | rfl | skip
end Go.Proofs.YtkjllcmpjghmkaaGreatDoor
