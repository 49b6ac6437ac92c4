/-
 Chapter 50 in plain Lean: a constraint that all markings keep: the net with the control place is searched alike.
-/
import Derived.Test.YtgbhmieaoaojoaaDoorSG
import Derived.Test.YtgbhmieaoaojoaaDoorQ0
set_option linter.unusedSimpArgs false
set_option linter.unusedVariables false
namespace Go.Proofs.YtgbhmieaoaojoaaDoor
open Go.Eng Go.RowKit
def upM (c : Con) (a : List Int) : List Int := a ++ [c.bound - dot c.fac a]
def upS (c : Con) (x : SN) : SN := ⟨upM c x.m, x.before, x.tr⟩
def upL (c : Con) (l : List SN) : List SN := l.map (upS c)
theorem up_length (c : Con) (l : List SN) : (upL c l).length = l.length := by simp [upL]
theorem up_getD (c : Con) (l : List SN) {k : Nat} (h : k < l.length) : (upL c l).getD k SN.no = upS c (l.getD k SN.no) := by
 simp only [upL, List.getD, List.getElem?_map, List.getElem?_eq_getElem h]; rfl
theorem upM_inj {c : Con} {a b : List Int} (hl : a.length = b.length) : upM c a = upM c b ↔ a = b := by
 constructor
 ·intro h; exact (List.append_inj h hl).1
 ·rintro rfl; rfl
theorem fndF_up (c : Con) (m : List Int) : ∀ (l : List SN) (i : Nat), (∀ x ∈ l, x.m.length = m.length) → fndF (upM c m) i (upL c l) = fndF m i l
 | [], _, _ => rfl
 | x :: l, i, h => by
  have h1 := upM_inj (c := c) (h x (by simp))
  have ih := fndF_up c m l (i + 1) fun y hy => h y (by simp [hy])
  show (if upM c x.m = upM c m then some i else fndF (upM c m) (i + 1) (upL c l)) = if x.m = m then some i else fndF m (i + 1) l
  rw [ih]
  by_cases h2 : x.m = m
  ·rw [if_pos h2, if_pos (h1.2 h2)]
  ·rw [if_neg h2, if_neg fun e => h2 (h1.1 e)]
theorem leqB_snoc : ∀ (a b : List Int) (x y : Int), a.length = b.length → leqB (a ++ [x]) (b ++ [y]) = true → leqB a b = true
 | [], [], _, _, _, _ => rfl
 | p :: a, q :: b, x, y, h, hl => by
  simp only [List.cons_append, leqB, Bool.and_eq_true] at hl ⊢
  exact ⟨hl.1, leqB_snoc a b x y (by simpa using h) hl.2⟩
theorem pumpF_up (c : Con) (l : List SN) (last : List Int) (hl : ∀ x ∈ l, x.m.length = last.length) : ∀ (f : Nat) (i p q : Int), i < l.length → (∀ k, k < l.length → (l.getD k SN.no).before < (l.length : Int)) → (0 ≤ p → 0 ≤ q) → 0 ≤ pumpF (upL c l) (upM c last) f i p → 0 ≤ pumpF l last f i q
 | 0, _, _, _, _, _, h, h1 => h h1
 | f + 1, i, p, q, hi, hb, h, h1 => by
  rw [pumpF] at h1 ⊢
  by_cases h0 : 0 ≤ i
  ·have hlt : i.toNat < l.length := by omega
   rw [if_pos h0, up_getD c l hlt] at h1
   rw [if_pos h0]
   refine pumpF_up c l last hl f _ _ _ (hb _ hlt) hb (fun hp => ?_) h1
   split
   ·exact h0
   ·rename_i hn
    refine h ?_
    rw [if_neg (show ¬ leqB (upS c (l.getD i.toNat SN.no)).m (upM c last) = true from fun e => hn (leqB_snoc _ _ _ _ (hl _ (getD_mem l i.toNat SN.no hlt)) e))] at hp
    exact hp
  ·rw [if_neg h0] at h1 ⊢
   exact h h1
section
variable {n : Net} {c : Con} {nd : List SN}
structure KeptOk (n : Net) (c : Con) (nd : List SN) : Prop where
 mon : MonOk n c
 len : ∀ x ∈ nd, x.m.length = n.init.length
 tok : ∀ x ∈ nd, ∀ y ∈ x.m, 0 ≤ y ∧ y ≤ 65536
 keep : ∀ x ∈ nd, 0 ≤ c.bound - dot c.fac x.m ∧ c.bound - dot c.fac x.m ≤ 65536
 back : ∀ k, k < nd.length → (nd.getD k SN.no).before < (k : Int)
theorem pre_mem {a : List SN} (hp : a <+: nd) {x : SN} (h : x ∈ a) : x ∈ nd := by
 obtain ⟨r, rfl⟩ := hp; exact List.mem_append_left _ h
theorem able_up (H : KeptOk n c nd) {a : List Int} (hl : a.length = n.init.length) (hx : 0 ≤ c.bound - dot c.fac a) (hf : ∀ t, t ∈ ableL n a n.trs.length → 0 ≤ c.bound - dot c.fac (firedL (n.trs.getD t.toNat Tr.no) a)) :
  ableL (monNet n c) (upM c a) (monNet n c).trs.length = ableL n a n.trs.length := by
 rw [mon_len, upM, ← able_mon H.mon hl hx]
 refine List.filter_eq_self.2 fun t ht => ?_
 obtain ⟨h0, h1, h2⟩ := able_mem ht
 have hk : t.toNat < n.trs.length := by omega
 have hin := H.mon.ok.inn _ (getD_mem n.trs t.toNat Tr.no hk)
 have hout := H.mon.ok.out _ (getD_mem n.trs t.toNat Tr.no hk)
 rw [← hl] at hin hout
 have hd := dot_fired (f := c.fac) hin hout (by rw [H.mon.len, hl])
 have h3 := hf t ht
 rw [roomB, decide_eq_true_eq, effL_get n c _ hk]
 omega
theorem step_up (H : KeptOk n c nd) {lim i : Nat} {t : Int} {nodes nd1 : List SN} {edges ed1 : List Edg} (hs : stepF n lim i t nodes edges = .cont nd1 ed1) (hp : nd1 <+: nd) (hi : i < nodes.length) (ht : t ∈ ableL n (nodes.getD i SN.no).m n.trs.length) :
  stepF (monNet n c) lim i t (upL c nodes) edges = .cont (upL c nd1) ed1 := by
 obtain ⟨q1, k, q2, q3⟩ := step_closed hs
 have hnp := q1.trans hp
 have hmi := pre_mem hnp (getD_mem nodes i SN.no hi)
 have hmk := pre_mem hp (getD_mem nd1 k SN.no q2)
 have kk := H.keep _ hmk
 have kt := H.tok _ hmk
 rw [q3] at kk kt
 have ki := H.keep _ hmi
 have li := H.len _ hmi
 obtain ⟨h0, h1, h2⟩ := able_mem ht
 have hk : t.toNat < n.trs.length := by omega
 have hin := H.mon.ok.inn _ (getD_mem n.trs t.toNat Tr.no hk)
 have hout := H.mon.ok.out _ (getD_mem n.trs t.toNat Tr.no hk)
 rw [← li] at hin hout
 have hd := dot_fired (f := c.fac) hin hout (by rw [H.mon.len, li])
 have hfire : firedL ((monNet n c).trs.getD t.toNat Tr.no) (upM c (nodes.getD i SN.no).m) = upM c (firedL (n.trs.getD t.toNat Tr.no) (nodes.getD i SN.no).m) := by
  rw [mon_tr _ hk, ← li, upM, firedL_mon hin hout, upM, hd]
  congr 2; omega
 have lm : (firedL (n.trs.getD t.toNat Tr.no) (nodes.getD i SN.no).m).length = n.init.length := by rw [firedL_length, li]
 unfold stepF at hs ⊢
 simp only at hs ⊢
 rw [up_getD c nodes hi]
 show (if (firedL ((monNet n c).trs.getD t.toNat Tr.no) (upM c (nodes.getD i SN.no).m)).any tokB = true then _ else _) = _
 simp only [upS, hfire]
 generalize firedL (n.trs.getD t.toNat Tr.no) (nodes.getD i SN.no).m = m at *
 have ha : (upM c m).any tokB = false := any_tok fun x hx => by
  rcases List.mem_append.1 hx with h | h
  ·exact kt x h
  ·simp only [List.mem_singleton] at h; omega
 rw [if_neg (by rw [ha]; decide), fndF_up c m nodes 0 fun x hx => by rw [H.len _ (pre_mem hnp hx), lm]]
 split at hs
 ·cases hs
 ·split at hs
  ·rename_i k' hk'
   cases hs
   first | rfl | rw [hk']
  ·rename_i hk'
   try rw [hk']
   split at hs
   ·cases hs
   ·rename_i hpu
    split at hs
    ·cases hs
    ·rename_i hlim
     cases hs
     have e : upL c nodes ++ [⟨upM c m, (i : Int), t⟩] = upL c (nodes ++ [⟨m, i, t⟩]) := by simp [upL, upS]
     simp only [e, up_length]
     have hN : ∀ x ∈ nodes ++ [(⟨m, i, t⟩ : SN)], x.m.length = m.length := fun x hx => by rw [H.len _ (pre_mem hp hx), lm]
     have hlast : (nodes ++ [(⟨m, i, t⟩ : SN)]).getD ((nodes ++ [(⟨m, i, t⟩ : SN)]).length - 1) SN.no = ⟨m, i, t⟩ := by
      rw [show (nodes ++ [(⟨m, i, t⟩ : SN)]).length - 1 = nodes.length by simp, getD_append_last]
     have hup : ¬ 0 ≤ pumpsF (upL c (nodes ++ [⟨m, i, t⟩])) := by
      intro h
      apply hpu
      unfold pumpsF at h ⊢
      rw [up_length, up_getD c _ (by simp), hlast] at h
      rw [hlast]
      refine pumpF_up c _ m hN _ _ _ _ (by simp only [List.length_append, List.length_singleton]; omega) (fun k hk => ?_) (fun h => h) h
      have := H.back k (Nat.lt_of_lt_of_le hk hp.length_le)
      rw [prefix_getD hp hk] at this
      omega
     rw [if_neg hup, if_neg hlim]
theorem inner_up (H : KeptOk n c nd) {lim i : Nat} : ∀ (ts : List Int) {nodes nd1 : List SN} {edges ed1 : List Edg}, innerF n lim i ts nodes edges = .cont nd1 ed1 → nd1 <+: nd → i < nodes.length → (∀ t ∈ ts, t ∈ ableL n (nodes.getD i SN.no).m n.trs.length) →
  innerF (monNet n c) lim i ts (upL c nodes) edges = .cont (upL c nd1) ed1
 | [], nodes, nd1, edges, ed1, h, _, _, _ => by
  simp only [innerF] at h ⊢
  cases h; rfl
 | t :: ts, nodes, nd1, edges, ed1, h, hp, hi, ht => by
  simp only [innerF] at h
  cases hst : stepF n lim i t nodes edges with
  | err e => rw [hst] at h; cases h
  | pump a b p => rw [hst] at h; cases h
  | cont nd2 ed2 =>
   rw [hst] at h
   obtain ⟨p1, _⟩ := step_closed hst
   have hi2 := Nat.lt_of_lt_of_le hi p1.length_le
   obtain ⟨p2, _⟩ := inner_closed ts h hi2
   simp only [innerF]
   rw [step_up H hst (p2.trans hp) hi (ht t (by simp))]
   exact inner_up H ts h hp hi2 fun u hu => by rw [prefix_getD p1 hi]; exact ht u (by simp [hu])
theorem outer_pre {n : Net} {lim : Nat} {nd : List SN} {ed : List Edg} : ∀ (f i : Nat) {nodes : List SN} {edges : List Edg}, outerF n lim f i nodes edges = .cont nd ed → nodes <+: nd
 | 0, _, _, _, h => by cases h
 | f + 1, i, nodes, edges, h => by
  simp only [outerF] at h
  split at h
  ·rename_i hi
   cases hst : innerF n lim i (ableL n (nodes.getD i SN.no).m n.trs.length) nodes edges with
   | err e => rw [hst] at h; cases h
   | pump a b p => rw [hst] at h; cases h
   | cont nd1 ed1 =>
    rw [hst] at h
    exact (inner_closed _ hst hi).1.trans (outer_pre f (i + 1) h)
  ·cases h; exact List.prefix_refl _
theorem outer_up (H : KeptOk n c nd) (hc : ∀ j, j < nd.length → ClosedAt n nd j) {lim : Nat} {ed : List Edg} : ∀ (f i : Nat) {nodes : List SN} {edges : List Edg}, outerF n lim f i nodes edges = .cont nd ed → nodes <+: nd →
  outerF (monNet n c) lim f i (upL c nodes) edges = .cont (upL c nd) ed
 | 0, _, _, _, h, _ => by cases h
 | f + 1, i, nodes, edges, h, hp => by
  simp only [outerF] at h ⊢
  rw [up_length]
  split at h
  ·rename_i hi
   rw [if_pos hi]
   have hmi := pre_mem hp (getD_mem nodes i SN.no hi)
   have hab := able_up H (H.len _ hmi) (H.keep _ hmi).1 fun t ht => by
    obtain ⟨k, k1, k2⟩ := hc i (Nat.lt_of_lt_of_le hi hp.length_le) t (by rw [prefix_getD hp hi]; exact Able.mem ht)
    rw [prefix_getD hp hi] at k2
    rw [← k2]; exact (H.keep _ (getD_mem nd k SN.no k1)).1
   rw [up_getD c nodes hi]
   simp only [upS, hab]
   cases hst : innerF n lim i (ableL n (nodes.getD i SN.no).m n.trs.length) nodes edges with
   | err e => rw [hst] at h; cases h
   | pump a b p => rw [hst] at h; cases h
   | cont nd1 ed1 =>
    rw [hst] at h
    have hp1 : nd1 <+: nd := outer_pre f (i + 1) h
    rw [inner_up H _ hst hp1 hi fun t ht => ht]
    exact outer_up H hc f (i + 1) h hp1
  ·rename_i hi
   cases h
   rw [if_neg hi]
end
theorem control_le {n : Net} {c : Con} {nd : List SN} (h : MonOk n c) (hL : Linked n nd) (hN : NodesOk n.init.length nd) : ∀ k, k < nd.length → c.bound - dot c.fac (nd.getD k SN.no).m ≤ c.bound - dot c.fac n.init + 8 * k := by
 intro k
 induction k using Nat.strongRecOn with
 | _ k ih =>
  intro hk
  by_cases h0 : k = 0
  ·subst h0
   rw [hL.first]; simp
  ·obtain ⟨l1, l2, l3, l4⟩ := hL.link k (by omega) hk
   have hb := ih (nd.getD k SN.no).before.toNat (by omega) (by omega)
   obtain ⟨a1, a2, a3⟩ := l3
   have ht : (nd.getD k SN.no).tr.toNat < n.trs.length := by omega
   have hmem := getD_mem n.trs _ Tr.no ht
   have hlen := hN.len _ (getD_mem nd (nd.getD k SN.no).before.toNat SN.no (by omega))
   have hin := h.ok.inn _ hmem
   have hout := h.ok.out _ hmem
   rw [← hlen] at hin hout
   have hd := dot_fired (f := c.fac) hin hout (by rw [h.len, hlen])
   rw [← l4] at hd
   have he := h.eff _ hmem
   omega
theorem bnd_mon {n : Net} {c : Con} {nd : List SN} {ed : List Edg} (h : MonOk n c) (hb : bndF n = .inr (nd, ed)) (hk : ∀ x ∈ nd, dot c.fac x.m ≤ c.bound) (hr : c.bound - dot c.fac n.init ≤ 1000) : bndF (monNet n c) = .inr (upL c nd, ed) := by
 have hs : searchF n 4096 = .cont nd ed := by
  unfold bndF at hb
  split at hb
  ·cases hb
  ·cases hs : searchF n 4096 with
   | err e => rw [hs] at hb; cases hb
   | pump a b p => rw [hs] at hb; cases hb
   | cont a b => rw [hs] at hb; cases hb; rfl
 obtain ⟨_, hN, hl⟩ := bnd_ok hb
 have hL := (search_linked n 4096).2 _ _ hs
 have H : KeptOk n c nd := ⟨h, hN.len, hN.tok, fun x hx => by
  obtain ⟨k, h1, rfl⟩ : ∃ k, k < nd.length ∧ nd.getD k SN.no = x := by
   obtain ⟨k, h1, h2⟩ := List.getElem_of_mem hx
   exact ⟨k, h1, by rw [List.getD, List.getElem?_eq_getElem h1]; exact h2⟩
  have := control_le h hL hN k h1
  have := hk _ hx
  omega, fun k h1 => (hN.back k h1).2⟩
 have ho := outer_up H (search_closed hs) 4098 0 hs (outer_pre 4098 0 hs)
 have hs2 : searchF (monNet n c) 4096 = .cont (upL c nd) ed := ho
 rw [bndF, if_neg (by rw [netE_of (mon_ok h)]; decide), hs2]
theorem up_words (c : Con) (nd : List SN) : (upL c nd).map SN.m = (nd.map SN.m).map (upM c) := by
 simp only [upL, List.map_map]
 exact List.map_congr_left fun x _ => rfl
theorem upM_length (c : Con) (a : List Int) : (upM c a).length = a.length + 1 := by simp [upM]
theorem upM_take (c : Con) (a : List Int) : (upM c a).take a.length = a := by simp [upM]
def holdF (c : Con) (l : List (List Int)) : Option (List Int) := l.find? fun m => decide (c.bound < dot c.fac m)
theorem hold_all {c : Con} {l : List (List Int)} (h : holdF c l = none) : ∀ m ∈ l, dot c.fac m ≤ c.bound := by
 intro m hm
 have := List.find?_eq_none.1 h m hm
 simpa using this
theorem search_first {n : Net} {nd : List SN} {ed : List Edg} (hb : bndF n = .inr (nd, ed)) : n.init ∈ nd.map SN.m := by
 have hs : searchF n 4096 = .cont nd ed := by
  unfold bndF at hb
  split at hb
  ·cases hb
  ·cases hs : searchF n 4096 with
   | err e => rw [hs] at hb; cases hb
   | pump a b p => rw [hs] at hb; cases hb
   | cont a b => rw [hs] at hb; cases hb; rfl
 have hp := outer_pre (n := n) (lim := 4096) 4098 0 hs
 obtain ⟨r, rfl⟩ := hp
 simp
theorem mon_lim {n : Net} {c : Con} (hc : conE n c = 0) (hk : dot c.fac n.init ≤ c.bound) (h : monE n c ≠ 0) : monE n c = 3 := by
 unfold monE at h ⊢
 rw [if_neg (by omega), if_neg (by omega)] at h ⊢
 split
 ·rfl
 ·rename_i h2
  rw [if_neg h2] at h
  exact absurd rfl h
end Go.Proofs.YtgbhmieaoaojoaaDoor
