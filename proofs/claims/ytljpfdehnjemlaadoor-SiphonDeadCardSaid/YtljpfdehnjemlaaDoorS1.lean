/-
 The search of a net, in plain Lean: markings as keys; nodes, edges; what is found.
-/
import Derived.Test.YtljpfdehnjemlaaDoorN17
import Derived.Test.YtljpfdehnjemlaaDoorB2
set_option linter.unusedSimpArgs false
set_option linter.unusedVariables false
namespace Go.Proofs.YtljpfdehnjemlaaDoor
open Go.Eng Go.RowKit
/-! keys tell markings apart -/
def digVal (l : List UInt8) : Nat := l.foldl (fun a b => 10 * a + (b.toNat - 48)) 0
theorem digVal_snoc (l : List UInt8) (b : UInt8) : digVal (l ++ [b]) = 10 * digVal l + (b.toNat - 48) := by simp [digVal, List.foldl_append]
theorem dig_toNat (d : Nat) (h : d < 10) : (UInt8.ofNat (48 + d)).toNat = 48 + d := by
 simp [UInt8.toNat_ofNat']
 omega
theorem digVal_dec (u : Nat) : digVal (Lib.decDigits u) = u := by
 induction u using Nat.strongRecOn with
 | ind u ih =>
  rw [Lib.decDigits]
  split
  ·rename_i h
   have e := dig_toNat u h
   simp only [digVal, List.foldl_cons, List.foldl_nil, e]
   omega
  ·rename_i h
   rw [digVal_snoc, ih (u / 10) (by omega), dig_toNat _ (Nat.mod_lt _ (by omega))]
   omega
theorem dec_no32 (u : Nat) : ∀ b ∈ Lib.decDigits u, b ≠ 32 := by
 have hd : ∀ d : Nat, d < 10 → UInt8.ofNat (48 + d) ≠ 32 := fun d h e => by
  have := congrArg UInt8.toNat e
  rw [dig_toNat d h] at this
  have e32 : (32 : UInt8).toNat = 32 := rfl
  omega
 induction u using Nat.strongRecOn with
 | ind u ih =>
  intro b hb
  rw [Lib.decDigits] at hb
  split at hb
  ·rename_i h
   rw [List.mem_singleton] at hb; subst hb
   exact hd u h
  ·rename_i h
   rcases List.mem_append.1 hb with hb | hb
   ·exact ih (u / 10) (by omega) b hb
   ·rw [List.mem_singleton] at hb; subst hb
    exact hd _ (Nat.mod_lt _ (by omega))
theorem cut_at {l l' r r' : List UInt8} (h1 : ∀ b ∈ l, b ≠ 32) (h2 : ∀ b ∈ l', b ≠ 32) (h : l ++ 32 :: r = l' ++ 32 :: r') : l = l' ∧ r = r' := by
 induction l generalizing l' with
 | nil =>
  cases l' with
  | nil => simp at h; exact ⟨rfl, h⟩
  | cons b l' => simp at h; exact absurd h.1.symm (h2 b (by simp))
 | cons a l ih =>
  cases l' with
  | nil => simp at h; exact absurd h.1 (h1 a (by simp))
  | cons b l' =>
   simp only [List.cons_append, List.cons.injEq] at h
   obtain ⟨e1, e2⟩ := ih (fun b hb => h1 b (by simp [hb])) (fun b hb => h2 b (by simp [hb])) h.2
   exact ⟨by rw [h.1, e1], e2⟩
theorem itoa_nat {x : Int} (h : 0 ≤ x) : Lib.itoa x = Lib.decDigits x.toNat := by rw [Lib.itoa, if_neg (by omega)]
theorem keyB_inj : ∀ (a b : List Int), (∀ x ∈ a, 0 ≤ x) → (∀ x ∈ b, 0 ≤ x) → keyB a = keyB b → a = b
 | [], [], _, _, _ => rfl
 | [], y :: b, _, _, h => by simp [keyB] at h
 | x :: a, [], _, _, h => by simp [keyB] at h
 | x :: a, y :: b, h1, h2, h => by
  have hx := h1 x (by simp)
  have hy := h2 y (by simp)
  simp only [keyB, List.flatMap_cons, List.append_assoc, List.cons_append, List.nil_append, itoa_nat hx, itoa_nat hy] at h
  obtain ⟨e1, e2⟩ := cut_at (dec_no32 _) (dec_no32 _) h
  have e3 := congrArg digVal e1
  rw [digVal_dec, digVal_dec] at e3
  rw [keyB_inj a b (fun z hz => h1 z (by simp [hz])) (fun z hz => h2 z (by simp [hz])) e2, show x = y by omega]
/-! nodes, edges -/
structure SN where
 m : List Int
 before : Int
 tr : Int
 deriving DecidableEq
def SN.no : SN := ⟨[], 0, 0⟩
def SN.d (x : SN) : List D := [.list (ints x.m), .int .i64 x.before, .int .i64 x.tr]
def snsD (l : List SN) : List (List D) := l.map SN.d
theorem sns_length (l : List SN) : (snsD l).length = l.length := by simp [snsD]
theorem sns_at {l : List SN} {k : Nat} (hk : k < l.length) (z : List D) : (snsD l).getD k z = [.list (ints (l.getD k SN.no).m), .int .i64 (l.getD k SN.no).before, .int .i64 (l.getD k SN.no).tr] := by
 simp only [snsD, List.getD, List.getElem?_map, List.getElem?_eq_getElem hk]; rfl
theorem sns_sz (l : List SN) : (∀ r : List D, r ∈ snsD l → r.length = 3) ↔ True := ⟨fun _ => trivial, fun _ r hr => by obtain ⟨e, _, rfl⟩ := List.mem_map.1 hr; rfl⟩
theorem sns_append (xs ys : List SN) : snsD xs ++ snsD ys = snsD (xs ++ ys) := by simp [snsD]
theorem sns_one (m : List Int) (b t : Int) : [[D.list (ints m), D.int .i64 b, D.int .i64 t]] = snsD [⟨m, b, t⟩] := rfl
structure Edg where
 src : Int
 ev : Int
 dst : Int
 deriving DecidableEq
def Edg.no : Edg := ⟨0, 0, 0⟩
def Edg.d (x : Edg) : List D := [.int .i64 x.src, .int .i64 x.ev, .int .i64 x.dst]
def edgsD (l : List Edg) : List (List D) := l.map Edg.d
theorem edgs_length (l : List Edg) : (edgsD l).length = l.length := by simp [edgsD]
theorem edgs_at {l : List Edg} {k : Nat} (hk : k < l.length) (z : List D) : (edgsD l).getD k z = [.int .i64 (l.getD k Edg.no).src, .int .i64 (l.getD k Edg.no).ev, .int .i64 (l.getD k Edg.no).dst] := by
 simp only [edgsD, List.getD, List.getElem?_map, List.getElem?_eq_getElem hk]; rfl
theorem edgs_sz (l : List Edg) : (∀ r : List D, r ∈ edgsD l → r.length = 3) ↔ True := ⟨fun _ => trivial, fun _ r hr => by obtain ⟨e, _, rfl⟩ := List.mem_map.1 hr; rfl⟩
theorem edgs_append (xs ys : List Edg) : edgsD xs ++ edgsD ys = edgsD (xs ++ ys) := by simp [edgsD]
attribute [go_sem] sns_length sns_sz edgs_length edgs_sz
/-! the table of what was found -/
def nodesK : Nat → List SN → List (AV × AV)
 | _, [] => []
 | i, x :: r => (.one (.str (keyB x.m)), .one (.int .i64 i)) :: nodesK (i + 1) r
def fndF (m : List Int) : Nat → List SN → Option Nat
 | _, [] => none
 | i, x :: r => if x.m = m then some i else fndF m (i + 1) r
theorem eqKey_str (a b : List UInt8) : eqKey (.one (.str a)) (.one (.str b)) = (a == b) := rfl
theorem findKV_nodes {m : List Int} (hm : ∀ x ∈ m, 0 ≤ x) : ∀ (l : List SN) (i : Nat), (∀ x ∈ l, ∀ y ∈ x.m, 0 ≤ y) → findKV (.one (.str (keyB m))) (nodesK i l) = (fndF m i l).map fun (k : Nat) => AV.one (.int .i64 (k : Int))
 | [], i, _ => rfl
 | x :: r, i, h => by
  simp only [nodesK, findKV, fndF, eqKey_str, beq_iff_eq]
  by_cases e : x.m = m
  ·rw [if_pos e, if_pos (by rw [e])]; rfl
  ·rw [if_neg e, if_neg fun e' => e (keyB_inj _ _ (h x (by simp)) hm e'.symm)]
   exact findKV_nodes hm r (i + 1) fun y hy => h y (by simp [hy])
theorem setKV_nodes {m : List Int} {before tr : Int} (hm : ∀ x ∈ m, 0 ≤ x) : ∀ (l : List SN) (i : Nat), (∀ x ∈ l, ∀ y ∈ x.m, 0 ≤ y) → fndF m i l = none → setKV (.one (.str (keyB m))) (.one (.int .i64 ((i + l.length : Nat) : Int))) (nodesK i l) = nodesK i (l ++ [⟨m, before, tr⟩])
 | [], i, _, _ => rfl
 | x :: r, i, h, hn => by
  simp only [fndF] at hn
  split at hn
  ·cases hn
  ·rename_i e
   simp only [nodesK, setKV, eqKey_str, beq_iff_eq, List.cons_append]
   rw [if_neg fun e' => e (keyB_inj _ _ (h x (by simp)) hm e'.symm)]
   congr 1
   have := setKV_nodes (before := before) (tr := tr) hm r (i + 1) (fun y hy => h y (by simp [hy])) hn
   rw [← this]
   congr 3
   simp only [List.length_cons]; omega
theorem fz_nodes (t : Nat) (o : AObj) (kd : KeyKind) : ∀ (l : List SN) (i : Nat), AObj.fz t o (.map kd (nodesK i l)) = .map kd (nodesK i l)
 | [], i => rfl
 | x :: r, i => by
  have := fz_nodes t o kd r (i + 1)
  simp only [AObj.fz, nodesK, List.map_cons, AObj.map.injEq, true_and] at this ⊢
  rw [this]; rfl
theorem ren_nodes (f : Nat → Option Nat) (kd : KeyKind) : ∀ (l : List SN) (i : Nat), AObj.ren f (.map kd (nodesK i l)) = .map kd (nodesK i l)
 | [], i => rfl
 | x :: r, i => by
  have := ren_nodes f kd r (i + 1)
  simp only [AObj.ren, nodesK, List.map_cons, AObj.map.injEq, true_and] at this ⊢
  rw [this]; rfl
theorem lt_nodes (m : Nat) (kd : KeyKind) : ∀ (l : List SN) (i : Nat), (AObj.map kd (nodesK i l)).tagsLt m = true
 | [], i => rfl
 | x :: r, i => by
  have := lt_nodes m kd r (i + 1)
  simp only [AObj.tagsLt, nodesK, List.all_cons, Bool.and_eq_true] at this ⊢
  exact ⟨⟨rfl, rfl⟩, this⟩
theorem ren_nodes' (f : Nat → Option Nat) (l : List SN) (i : Nat) : (nodesK i l).map (fun kv => (kv.1.ren f, kv.2.ren f)) = nodesK i l := by
 have := ren_nodes f .str l i
 simp only [AObj.ren, AObj.map.injEq, true_and] at this
 exact this
theorem fz_nodes' (t : Nat) (o : AObj) (l : List SN) (i : Nat) : (nodesK i l).map (fun kv => (kv.1.fz t o, kv.2.fz t o)) = nodesK i l := by
 have := fz_nodes t o .str l i
 simp only [AObj.fz, AObj.map.injEq, true_and] at this
 exact this
theorem lt_nodes' (m : Nat) (l : List SN) (i : Nat) : ((nodesK i l).all fun kv => kv.1.tagsLt m && kv.2.tagsLt m) = true := lt_nodes m .str l i
attribute [go_sem ↓] fz_nodes ren_nodes lt_nodes ren_nodes' fz_nodes' lt_nodes'
theorem fndF_lt {m : List Int} : ∀ {l : List SN} {i k : Nat}, fndF m i l = some k → i ≤ k ∧ k < i + l.length
 | [], _, _, h => by cases h
 | x :: r, i, k, h => by
  simp only [fndF] at h
  split at h
  ·cases h; simp
  ·have := fndF_lt h
   simp only [List.length_cons]; omega
/-! which earlier markings are no greater -/
def leqB : List Int → List Int → Bool
 | x :: a, y :: b => decide (x ≤ y) && leqB a b
 | _, _ => true
def pumpF (l : List SN) (last : List Int) : Nat → Int → Int → Int
 | 0, _, first => first
 | f + 1, i, first => if 0 ≤ i then pumpF l last f (l.getD i.toNat SN.no).before (if leqB (l.getD i.toNat SN.no).m last = true then i else first) else first
def pumpsF (l : List SN) : Int := pumpF l (l.getD (l.length - 1) SN.no).m (l.length + 1) (l.getD (l.length - 1) SN.no).before (-1)
/-! the search -/
inductive SOut where
 | err (e : Int)
 | pump (nodes : List SN) (edges : List Edg) (p : Int)
 | cont (nodes : List SN) (edges : List Edg)
def stepF (n : Net) (lim : Nat) (i : Nat) (t : Int) (nodes : List SN) (edges : List Edg) : SOut :=
 let m := firedL (n.trs.getD t.toNat Tr.no) (nodes.getD i SN.no).m
 if m.any tokB = true then .err 3
 else match fndF m 0 nodes with
  | some k => .cont nodes (edges ++ [⟨i, t, k⟩])
  | none =>
   let nodes' := nodes ++ [⟨m, i, t⟩]
   if 0 ≤ pumpsF nodes' then .pump nodes' edges (pumpsF nodes') else if lim < nodes'.length then .err 3 else .cont nodes' (edges ++ [⟨i, t, nodes.length⟩])
def innerF (n : Net) (lim : Nat) (i : Nat) : List Int → List SN → List Edg → SOut
 | [], nodes, edges => .cont nodes edges
 | t :: ts, nodes, edges => match stepF n lim i t nodes edges with
  | .cont nodes' edges' => innerF n lim i ts nodes' edges'
  | r => r
def outerF (n : Net) (lim : Nat) : Nat → Nat → List SN → List Edg → SOut
 | 0, _, _, _ => .err 3
 | f + 1, i, nodes, edges => if i < nodes.length then
   match innerF n lim i (ableL n (nodes.getD i SN.no).m n.trs.length) nodes edges with
   | .cont nodes' edges' => outerF n lim f (i + 1) nodes' edges'
   | r => r
  else .cont nodes edges
def searchF (n : Net) (lim : Nat) : SOut := outerF n lim (lim + 2) 0 [⟨n.init, -1, -1⟩] []
end Go.Proofs.YtljpfdehnjemlaaDoor
