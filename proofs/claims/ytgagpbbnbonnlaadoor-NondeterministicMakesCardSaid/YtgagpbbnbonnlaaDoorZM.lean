/-
 Chapter 05: the law's Make.
-/
import Derived.Test.YtgagpbbnbonnlaaDoorZD
import Derived.Test.YtgagpbbnbonnlaaDoorZN
set_option linter.unusedSimpArgs false
set_option linter.unusedVariables false
namespace Go.Proofs.YtgagpbbnbonnlaaDoor
open Go.Eng Go.RowKit
structure Dft where
 s : Int
 al : Int
 ini : Int
 mr : Int
 es : List Ed
def edB (l : List Ed) : List (List D) := l.map fun e => [.int .u8 e.src, .int .u8 e.ev, .int .u8 e.dst]
theorem edB_length (l : List Ed) : (edB l).length = l.length := by simp [edB]
theorem edB_at {l : List Ed} {k : Nat} (hk : k < l.length) (z : List D) : (edB l).getD k z = [.int .u8 (l.getD k Ed.no).src, .int .u8 (l.getD k Ed.no).ev, .int .u8 (l.getD k Ed.no).dst] := by
 simp only [edB, List.getD, List.getElem?_map, List.getElem?_eq_getElem hk]; rfl
theorem edB_sz (l : List Ed) : (∀ r : List D, r ∈ edB l → r.length = 3) ↔ True := ⟨fun _ => trivial, fun _ r hr => by obtain ⟨e, _, rfl⟩ := List.mem_map.1 hr; rfl⟩
attribute [go_sem] edB_length edB_sz
def Dft.d (d : Dft) : List D := [.int .u8 d.s, .int .u8 d.al, .int .u8 d.ini, .int .u8 d.mr, .list (edB d.es)]
def U8 (z : Int) : Prop := 0 ≤ z ∧ z ≤ 255
structure Dft.Ok (d : Dft) : Prop where
 s : U8 d.s
 al : U8 d.al
 ini : U8 d.ini
 mr : U8 d.mr
 es : ∀ e ∈ d.es, U8 e.src ∧ U8 e.ev ∧ U8 e.dst
 len : d.es.length ≤ maxLen
def Dft.n (d : Dft) : Nat := d.s.toNat % 6
def Dft.alL (d : Dft) : List Int := setOf (d.al.toNat % 16)
def Dft.iniL (d : Dft) : List Int := setOf (d.ini.toNat % 2 ^ d.n)
def Dft.mkL (d : Dft) : List Int := setOf (d.mr.toNat % 2 ^ d.n)
def Dft.off (d : Dft) (e : Ed) : Nat := e.src.toNat % d.n * 30 + e.ev.toNat % (d.alL.length + 1) * 6 + e.dst.toNat % d.n
def Dft.kb (d : Dft) (k : Nat) : List Bool := (d.es.take k).foldl (fun kb e => kb.set (d.off e) true) (List.replicate 180 false)
def Dft.cnt (d : Dft) : Nat := if d.n = 0 then 0 else min d.es.length 20
def Dft.kp (d : Dft) (i k j : Nat) : Bool := (d.kb d.cnt).getD (i * 30 + k * 6 + j) false
def Dft.na (d : Dft) : NA := ⟨d.alL, d.n, d.iniL, d.mkL, rowI d.kp d.alL d.n d.n⟩
theorem inc_len' {s : List Int} {n : Nat} (h : IncI s) (hr : ∀ x ∈ s, 0 ≤ x ∧ x < n) : s.length ≤ n := by
 have e : s = selI n fun x => decide (x ∈ s) := selI_of h fun z => by
  simp only [decide_eq_true_eq]
  exact ⟨fun hz => ⟨hr z hz, hz⟩, fun hz => hz.2⟩
 rw [e]; exact selI_length _ _
theorem setOf_lt {m k : Nat} (h : m < 2 ^ k) : ∀ x ∈ setOf m, 0 ≤ x ∧ x < (k : Int) := fun x hx => by
 obtain ⟨h1, h2, h3⟩ := (mem_bitsL m 32 x).1 hx
 refine ⟨h1, Decidable.byContradiction fun h4 => ?_⟩
 have : m < 2 ^ x.toNat := Nat.lt_of_lt_of_le h (Nat.pow_le_pow_right (by omega) (by omega))
 rw [Nat.testBit_lt_two_pow this] at h3
 cases h3
theorem Dft.al_len (d : Dft) : d.alL.length ≤ 4 := inc_len' (incr_set _) (setOf_lt (k := 4) (Nat.mod_lt _ (by decide)))
theorem Dft.n_lt (d : Dft) : d.n < 6 := Nat.mod_lt _ (by decide)
theorem Dft.ini_len (d : Dft) : d.iniL.length ≤ d.n := inc_len' (incr_set _) (setOf_lt (Nat.mod_lt _ (Nat.pow_pos (by decide))))
theorem Dft.mk_len (d : Dft) : d.mkL.length ≤ d.n := inc_len' (incr_set _) (setOf_lt (Nat.mod_lt _ (Nat.pow_pos (by decide))))
theorem Dft.ok (d : Dft) : NaOk d.na :=
 draft_ok (incr_set _) (fun x hx => (setOf_lt (k := 4) (Nat.mod_lt _ (by decide)) x hx).1) (incr_set _) (setOf_lt (Nat.mod_lt _ (Nat.pow_pos (by decide)))) (incr_set _) (setOf_lt (Nat.mod_lt _ (Nat.pow_pos (by decide))))
theorem Dft.ed_len (d : Dft) (i : Nat) (hi : i ≤ d.n) : (rowI d.kp d.alL d.n i).length ≤ 125 := by
 have h1 := rowI_len d.kp d.alL d.n i
 have h2 := d.al_len
 have h3 := d.n_lt
 have h4 : (d.alL.length + 1) * d.n ≤ 5 * 5 := Nat.mul_le_mul (by omega) (by omega)
 have h5 : i * ((d.alL.length + 1) * d.n) ≤ 5 * (5 * 5) := Nat.mul_le_mul (by omega) h4
 omega
theorem Dft.fits (d : Dft) : d.na.Fits := by
 have h1 := d.al_len
 have h2 := d.n_lt
 have h3 := d.ini_len
 have h4 := d.mk_len
 have h5 := d.ed_len d.n (Nat.le_refl _)
 exact ⟨by show d.alL.length ≤ 1000; omega, by show d.iniL.length ≤ 1000; omega, by show d.mkL.length ≤ 1000; omega, by show (rowI d.kp d.alL d.n d.n).length ≤ 1000; omega⟩
theorem Dft.chk (d : Dft) : chkNA d.na = 0 := by
 have h2 := d.n_lt
 refine chkNA_zero.2 ⟨d.ok, by show ((d.n : Nat) : Int) ≤ 4096; omega, fun x hx => ?_, fun e he => rowI_ev he⟩
 have := setOf_lt (k := 4) (Nat.mod_lt _ (by decide)) x hx
 omega
/-! the array of what is kept -/
def kD (kb : List Bool) : List D := kb.map D.bool
theorem kD_length (kb : List Bool) : (kD kb).length = kb.length := by simp [kD]
theorem kD_set' (kb : List Bool) (k : Nat) : (kD kb).set k (.bool true) = kD (kb.set k true) := by simp [kD, List.map_set]
theorem kD_fz (kb : List Bool) (t : Nat) (o : AObj) : (kD kb).map (D.fz t o) = kD kb := by
 simp only [kD, List.map_map]; rfl
theorem kD_lt (kb : List Bool) (m : Nat) : (kD kb).all (D.tagsLt m) = true := by
 simp only [kD, List.all_map, List.all_eq_true]
 intro x _; rfl
theorem kD_tags (kb : List Bool) : (kD kb).flatMap D.tags = [] := by
 simp only [kD, List.flatMap_map]
 exact List.flatMap_eq_nil_iff.2 fun _ _ => rfl
theorem kD_at {kb : List Bool} {k : Nat} (h : k < kb.length) : ((kD kb).drop k).headD .unk = .bool (kb.getD k false) := by
 simp [kD, List.drop_eq_getElem_cons, List.getD, h]
theorem Dft.kb_length (d : Dft) (k : Nat) : (d.kb k).length = 180 := by
 have : ∀ (l : List Ed) (kb : List Bool), (l.foldl (fun kb e => kb.set (d.off e) true) kb).length = kb.length := fun l => by
  induction l with
  | nil => intro kb; rfl
  | cons e l ih => intro kb; rw [List.foldl_cons, ih, List.length_set]
 rw [Dft.kb, this, List.length_replicate]
theorem Dft.kb_succ (d : Dft) (k : Nat) (h : k < d.es.length) : d.kb (k + 1) = (d.kb k).set (d.off (d.es.getD k Ed.no)) true := by
 rw [Dft.kb, take_succ_getD d.es k Ed.no h, List.foldl_append]; rfl
attribute [go_sem] kD_length kD_fz kD_lt kD_tags
set_option maxHeartbeats 64000000 in
set_option maxRecDepth 20000 in
theorem Make_c (d : Dft) (h : d.Ok) : ACalls Tryd.prog 14 [.agg d.d] (.agg d.na.d) [] := by
 obtain ⟨⟨s1, s2⟩, ⟨a1, a2⟩, ⟨i1, i2⟩, ⟨m1, m2⟩, hes, hlen⟩ := h
 unfold maxLen at hlen
 have hn6 := d.n_lt
 have hw : IntKind.u32.wrap (1 * 2 ^ min d.n 32) = ((2 ^ d.n : Nat) : Int) := by
  have : d.n = 0 ∨ d.n = 1 ∨ d.n = 2 ∨ d.n = 3 ∨ d.n = 4 ∨ d.n = 5 := by omega
  rcases this with e | e | e | e | e | e <;> rw [e] <;> rfl
 have hz : ((2 ^ d.n : Nat) : Int) ≠ 0 := by have := Nat.pow_pos (n := d.n) (show 0 < 2 by decide); omega
 have hs : d.s.tmod 6 = (d.n : Int) := by
  rw [Int.tmod_eq_emod_of_nonneg s1, Dft.n]; omega
 have ha : d.al.tmod 16 = ((d.al.toNat % 16 : Nat) : Int) := by
  rw [Int.tmod_eq_emod_of_nonneg a1]; omega
 have hi : d.ini.tmod ((2 ^ d.n : Nat) : Int) = ((d.ini.toNat % 2 ^ d.n : Nat) : Int) := by
  rw [Int.tmod_eq_emod_of_nonneg i1, Int.natCast_emod, Int.toNat_of_nonneg i1]
 have hm : d.mr.tmod ((2 ^ d.n : Nat) : Int) = ((d.mr.toNat % 2 ^ d.n : Nat) : Int) := by
  rw [Int.tmod_eq_emod_of_nonneg m1, Int.natCast_emod, Int.toNat_of_nonneg m1]
 have c1 := refSet_c (d.al.toNat % 16) (by omega)
 have c2 := refSet_c (d.ini.toNat % 2 ^ d.n) (Nat.lt_of_lt_of_le (Nat.mod_lt _ (Nat.pow_pos (by decide))) (Nat.le_trans (Nat.pow_le_pow_right (by decide) (Nat.le_of_lt hn6)) (by decide)))
 have c3 := refSet_c (d.mr.toNat % 2 ^ d.n) (Nat.lt_of_lt_of_le (Nat.mod_lt _ (Nat.pow_pos (by decide))) (Nat.le_trans (Nat.pow_le_pow_right (by decide) (Nat.le_of_lt hn6)) (by decide)))
 have q1 : IntKind.i64.wrap (d.n : Int) = d.n := by simp [IntKind.wrap, IntKind.bits, IntKind.signed]; omega
 have q2 : IntKind.u32.wrap ((d.al.toNat % 16 : Nat) : Int) = ((d.al.toNat % 16 : Nat) : Int) := by simp [IntKind.wrap, IntKind.bits, IntKind.signed]; omega
 have q3 : IntKind.u32.wrap d.ini = d.ini := by simp [IntKind.wrap, IntKind.bits, IntKind.signed]; omega
 have q4 : IntKind.u32.wrap d.mr = d.mr := by simp [IntKind.wrap, IntKind.bits, IntKind.signed]; omega
 (refine ACalls.of_body Ty_ok mixed Tryd.func14 rfl (by kernel_rfl) Tryd.ntmps14 (by simp) (congrArg Array.toList Tryd.results14) ?_)
 simp only [slotsOf, Dft.d]
 (repeat' (first | (with_reducible first | exact True.intro | refine And.intro ?_ ?_ | refine awp_block ?_ | ((first | refine awp_seq1 12 [] ?_ | refine awp_seq2 12 [] ?_ | refine awp_seq3 12 [] ?_ | refine awp_seq4 12 [] ?_ | refine awp_seq 12 [] ?_); intro K hK)) | ((with_reducible first | refine awp_reg ?_ | refine awp_exit ?_ | refine awp_skip ?_ | refine likeK_i ?_ | refine otWR_i ?_ | refine rP Ty_ok mixed 3 [0, 3] [.mid [pe 1, pe 2, pe 4, pe 5] 0, .one 6, .one 7, .one 8] ?_ | refine rP Ty_ok mixed 4 [0, 3] [.mid [pe 1, pe 2, pe 4, pe 5] 0, .one 6, .one 7, .one 8] ?_ | refine rD (id := 9) ?_ | refine rP Ty_ok mixed 10 [0, 2, 7, 9, 10, 12, 17] [.mid [pe 1, pe 3, pe 4, pe 5, pe 6, pe 8, pe 11, pe 13, pe 14, pe 15, pe 16, pe 18, pe 19, pe 20, pe 21] 0, .one 22] ?_); simp only [hs, ha, hi, hm, hw, hz, q1, q2, q3, q4, go_sem]) | (with_reducible refine awp_ret ?_; simp only [retF, retM, retL, resV, resW, retO, resAV, AV.bor, D.bor, D.bor1, D.bor0, AV.flatOwn, D.flatOwn, D.flat, AV.tagged, D.tagged, AObj.plain, hs, ha, hi, hm, hw, hz, q1, q2, q3, q4, go_sem]) | ((with_reducible refine awp_cond' ?_ ?_ (fun hb => ?_) (fun hb => ?_)); (simp only [hs, ha, hi, hm, hw, hz, q1, q2, q3, q4, go_sem]); (simp only [hs, ha, hi, hm, hw, hz, q1, q2, q3, q4, go_sem]); all_goals (simp only [hs, ha, hi, hm, hw, hz, q1, q2, q3, q4, go_sem] at hb; try simp only [bls] at hb)) | ((iterate 6 try ((fail_if_success with_reducible refine hK _ ?_ ?_ ?_); clear hK K)); with_reducible refine hK _ ?_ ?_ ?_; rotate_left; (focus (simp only [hs, ha, hi, hm, hw, hz, q1, q2, q3, q4, go_sem]; exact rfl)); clear hK K) | ((first | (with_reducible first | refine cA c1 ?_ | refine cA c2 ?_ | refine cA c3 ?_ | refine cD c1 ?_ | refine cD c2 ?_ | refine cD c3 ?_ | refine cO c1 ?_ | refine cO c2 ?_ | refine cO c3 ?_ | refine cR c1 ?_ | refine cR c2 ?_ | refine cR c3 ?_ | refine cG (fun hg => c1) ?_ | refine cG (fun hg => c2) ?_ | refine cG (fun hg => c3) ?_ | refine cH (fun hg => c1) ?_ | refine cH (fun hg => c2) ?_ | refine cH (fun hg => c3) ?_ | refine cM (fun hg => c1) ?_ | refine cM (fun hg => c2) ?_ | refine cM (fun hg => c3) ?_) | (guard_target = CallAt _ _ _ _ _ _ _ _ _ _; first | refine cA c1 ?_ | refine cA c2 ?_ | refine cA c3 ?_) | (guard_target = DCallAt _ _ _ _ _ _ _ _; first | refine cD c1 ?_ | refine cD c2 ?_ | refine cD c3 ?_) | (guard_target = GCallAt _ _ _ _ _ _ _ _ _ _ _; first | refine cG (fun hg => c1) ?_ | refine cG (fun hg => c2) ?_ | refine cG (fun hg => c3) ?_)); simp only [hs, ha, hi, hm, hw, hz, q1, q2, q3, q4, go_sem]) | (with_reducible refine gsplit_i (fun hg0 => ?_) (fun hg0 => ?_) <;> first | (with_reducible first | exact absurd hg0 Bool.false_ne_true | exact absurd hg0.symm Bool.false_ne_true) | (simp only [hg0, hs, ha, hi, hm, hw, hz, q1, q2, q3, q4, go_sem])) | (with_reducible refine nilK_i ?_; intro bnil hnil; try simp only []) | (omega; done) | (intro hv; (try simp only [bls] at hv); (try simp only [bls]); omega) | (intro hg; (simp only [hg, Bool.true_and, true_and, implies_true]; try (intro hg2; simp only [hg2, Bool.not_false, Bool.not_true])); done)))
 all_goals first | omega | skip
 have hcnt1 : d.cnt ≤ d.es.length := by unfold Dft.cnt; split <;> omega
 have hcnt2 : d.cnt ≤ 20 := by unfold Dft.cnt; split <;> omega
 have hcn : d.cnt = d.es.length ∨ d.cnt = 20 ∨ d.n = 0 := by unfold Dft.cnt; split <;> omega
 refine awp_loop _ (by simp only [go_sem]; rfl) Nat (fun k => k ≤ d.cnt) (fun k => [(6, .one (.int .i64 k))])
  (fun k H => [.var 24 [.int .u8 d.s, .int .u8 d.al, .int .u8 d.ini, .int .u8 d.mr, .list (edB d.es)], .var 29 [.nil, .int .i64 0, .nil, .nil, .nil], .var 29 [.list (ints d.alL), .int .i64 d.n, .list (ints d.iniL), .list (ints d.mkL), .nil], .var 81 (kD (d.kb k))]) (fun k => d.cnt - k) 0 (by omega) ?_ ?_
 ·(simp only [SubF, go_sem]; (try simp only [go_sem]); repeat' (first | exact True.intro | with_reducible refine And.intro ?_ ?_ | rfl | omega))
 rintro k hk L hL
 have hq : ((k : Nat) : Int).toNat = k := by omega
 by_cases hkc : k < d.cnt
 ·have hn0 : 0 < d.n := by
   have := hkc
   unfold Dft.cnt at this
   split at this <;> omega
  have hkl : k < d.es.length := by omega
  have hx := hes _ (getD_mem d.es k Ed.no hkl)
  have hat := edB_at hkl
  have hsucc := d.kb_succ k hkl
  have hkbl := d.kb_length k
  have hal := d.al_len
  generalize d.es.getD k Ed.no = x at *
  obtain ⟨⟨x1, x2⟩, ⟨x3, x4⟩, x5, x6⟩ := hx
  have p1 : IntKind.i64.wrap x.src = x.src := by simp [IntKind.wrap, IntKind.bits, IntKind.signed]; omega
  have p2 : IntKind.i64.wrap x.ev = x.ev := by simp [IntKind.wrap, IntKind.bits, IntKind.signed]; omega
  have p3 : IntKind.i64.wrap x.dst = x.dst := by simp [IntKind.wrap, IntKind.bits, IntKind.signed]; omega
  have r1 : x.src.tmod (d.n : Int) = ((x.src.toNat % d.n : Nat) : Int) := by
   rw [Int.tmod_eq_emod_of_nonneg x1, Int.natCast_emod, Int.toNat_of_nonneg x1]
  have r2 : x.ev.tmod ((d.alL.length : Int) + 1) = ((x.ev.toNat % (d.alL.length + 1) : Nat) : Int) := by
   rw [Int.tmod_eq_emod_of_nonneg x3, Int.natCast_emod, Int.toNat_of_nonneg x3]; rfl
  have r3 : x.dst.tmod (d.n : Int) = ((x.dst.toNat % d.n : Nat) : Int) := by
   rw [Int.tmod_eq_emod_of_nonneg x5, Int.natCast_emod, Int.toNat_of_nonneg x5]
  have t1 : x.src.toNat % d.n < d.n := Nat.mod_lt _ hn0
  have t2 : x.ev.toNat % (d.alL.length + 1) < d.alL.length + 1 := Nat.mod_lt _ (by omega)
  have t3 : x.dst.toNat % d.n < d.n := Nat.mod_lt _ hn0
  have hoff : d.off x = x.src.toNat % d.n * 30 + x.ev.toNat % (d.alL.length + 1) * 6 + x.dst.toNat % d.n := rfl
  generalize x.src.toNat % d.n = y1 at *
  generalize x.ev.toNat % (d.alL.length + 1) = y2 at *
  generalize x.dst.toNat % d.n = y3 at *
  (simp only [go_sem] at hL ⊢)
  (repeat' (first | (with_reducible first | exact True.intro | refine And.intro ?_ ?_ | refine awp_block ?_ | ((first | refine awp_seq1 12 [] ?_ | refine awp_seq2 12 [] ?_ | refine awp_seq3 12 [] ?_ | refine awp_seq4 12 [] ?_ | refine awp_seq 12 [] ?_); intro K hK)) | ((with_reducible first | refine awp_reg ?_ | refine awp_exit ?_ | refine awp_skip ?_ | refine likeK_i ?_ | refine otWR_i ?_ | refine rP Ty_ok mixed 3 [0, 3] [.mid [pe 1, pe 2, pe 4, pe 5] 0, .one 6, .one 7, .one 8] ?_ | refine rP Ty_ok mixed 4 [0, 3] [.mid [pe 1, pe 2, pe 4, pe 5] 0, .one 6, .one 7, .one 8] ?_ | refine rD (id := 9) ?_ | refine rP Ty_ok mixed 10 [0, 2, 7, 9, 10, 12, 17] [.mid [pe 1, pe 3, pe 4, pe 5, pe 6, pe 8, pe 11, pe 13, pe 14, pe 15, pe 16, pe 18, pe 19, pe 20, pe 21] 0, .one 22] ?_); simp only [hq, hat, p1, p2, p3, r1, r2, r3, Int.toNat_natCast, kD_set', Nat.mul_one, go_sem]) | (with_reducible refine awp_ret ?_; simp only [retF, retM, retL, resV, resW, retO, resAV, AV.bor, D.bor, D.bor1, D.bor0, AV.flatOwn, D.flatOwn, D.flat, AV.tagged, D.tagged, AObj.plain, hq, hat, p1, p2, p3, r1, r2, r3, Int.toNat_natCast, kD_set', Nat.mul_one, go_sem]) | ((with_reducible refine awp_cond' ?_ ?_ (fun hb => ?_) (fun hb => ?_)); (simp only [hq, hat, p1, p2, p3, r1, r2, r3, Int.toNat_natCast, kD_set', Nat.mul_one, go_sem]); (simp only [hq, hat, p1, p2, p3, r1, r2, r3, Int.toNat_natCast, kD_set', Nat.mul_one, go_sem]); all_goals (simp only [hq, hat, p1, p2, p3, r1, r2, r3, Int.toNat_natCast, kD_set', Nat.mul_one, go_sem] at hb; try simp only [bls] at hb)) | ((iterate 6 try ((fail_if_success with_reducible refine hK _ ?_ ?_ ?_); clear hK K)); with_reducible refine hK _ ?_ ?_ ?_; rotate_left; (focus (simp only [hq, hat, p1, p2, p3, r1, r2, r3, Int.toNat_natCast, kD_set', Nat.mul_one, go_sem]; exact rfl)); clear hK K) | (with_reducible refine gsplit_i (fun hg0 => ?_) (fun hg0 => ?_) <;> first | (with_reducible first | exact absurd hg0 Bool.false_ne_true | exact absurd hg0.symm Bool.false_ne_true) | (simp only [hg0, hq, hat, p1, p2, p3, r1, r2, r3, Int.toNat_natCast, kD_set', Nat.mul_one, go_sem])) | (with_reducible refine nilK_i ?_; intro bnil hnil; try simp only []) | (omega; done) | (intro hv; (try simp only [bls] at hv); (try simp only [bls]); omega) | (intro hg; (simp only [hg, Bool.true_and, true_and, implies_true]; try (intro hg2; simp only [hg2, Bool.not_false, Bool.not_true])); done)))
  all_goals first | omega | skip
  rw [← hoff, ← hsucc]
  exact hL _ (k + 1) (by omega) (by (simp only [SubF, go_sem]; (try simp only [go_sem]); repeat' (first | exact True.intro | with_reducible refine And.intro ?_ ?_ | rfl | omega))) (by omega)
 ·obtain rfl : k = d.cnt := by omega
  (simp only [go_sem] at hL ⊢)
  (repeat' (first | (with_reducible first | exact True.intro | refine And.intro ?_ ?_ | refine awp_block ?_ | ((first | refine awp_seq1 12 [] ?_ | refine awp_seq2 12 [] ?_ | refine awp_seq3 12 [] ?_ | refine awp_seq4 12 [] ?_ | refine awp_seq 12 [] ?_); intro K hK)) | ((with_reducible first | refine awp_reg ?_ | refine awp_exit ?_ | refine awp_skip ?_ | refine likeK_i ?_ | refine otWR_i ?_ | refine rP Ty_ok mixed 3 [0, 3] [.mid [pe 1, pe 2, pe 4, pe 5] 0, .one 6, .one 7, .one 8] ?_ | refine rP Ty_ok mixed 4 [0, 3] [.mid [pe 1, pe 2, pe 4, pe 5] 0, .one 6, .one 7, .one 8] ?_ | refine rD (id := 9) ?_ | refine rP Ty_ok mixed 10 [0, 2, 7, 9, 10, 12, 17] [.mid [pe 1, pe 3, pe 4, pe 5, pe 6, pe 8, pe 11, pe 13, pe 14, pe 15, pe 16, pe 18, pe 19, pe 20, pe 21] 0, .one 22] ?_); simp only [hq, go_sem]) | (with_reducible refine awp_ret ?_; simp only [retF, retM, retL, resV, resW, retO, resAV, AV.bor, D.bor, D.bor1, D.bor0, AV.flatOwn, D.flatOwn, D.flat, AV.tagged, D.tagged, AObj.plain, hq, go_sem]) | ((with_reducible refine awp_cond' ?_ ?_ (fun hb => ?_) (fun hb => ?_)); (simp only [hq, go_sem]); (simp only [hq, go_sem]); all_goals (simp only [hq, go_sem] at hb; try simp only [bls] at hb)) | ((iterate 6 try ((fail_if_success with_reducible refine hK _ ?_ ?_ ?_); clear hK K)); with_reducible refine hK _ ?_ ?_ ?_; rotate_left; (focus (simp only [hq, go_sem]; exact rfl)); clear hK K) | (with_reducible refine gsplit_i (fun hg0 => ?_) (fun hg0 => ?_) <;> first | (with_reducible first | exact absurd hg0 Bool.false_ne_true | exact absurd hg0.symm Bool.false_ne_true) | (simp only [hg0, hq, go_sem])) | (with_reducible refine nilK_i ?_; intro bnil hnil; try simp only []) | (omega; done) | (intro hv; (try simp only [bls] at hv); (try simp only [bls]); omega) | (intro hg; (simp only [hg, Bool.true_and, true_and, implies_true]; try (intro hg2; simp only [hg2, Bool.not_false, Bool.not_true])); done)))
  all_goals first | omega | skip
  clear hL
  refine awp_loopT [.cell 2 4 43 3] _ (by simp only [go_sem]; rfl) Nat (fun i => i ≤ d.n) (fun i => [(8, .one (.int .i64 i))])
   (fun i => [.var 24 [.int .u8 d.s, .int .u8 d.al, .int .u8 d.ini, .int .u8 d.mr, .list (edB d.es)], .var 29 [.nil, .int .i64 0, .nil, .nil, .nil], .var 29 [.list (ints d.alL), .int .i64 d.n, .list (ints d.iniL), .list (ints d.mkL), .own 4], .var 81 (kD (d.kb d.cnt)), .row 43 3 (edD (rowI d.kp d.alL d.n i))]) (fun i => d.n - i) 0 (by omega) ?_ ?_
  ·rw [show edD (rowI d.kp d.alL d.n 0) = [] from rfl]
   (simp only [SubF, go_sem]; (try simp only [go_sem]); repeat' (first | exact True.intro | with_reducible refine And.intro ?_ ?_ | rfl | omega))
  rintro i hi L hL
  have hqi : ((i : Nat) : Int).toNat = i := by omega
  have hal := d.al_len
  have hkbl := d.kb_length d.cnt
  by_cases hin : i < d.n
  ·have hlen1 := d.ed_len (i + 1) hin
   rw [rowI, List.length_append] at hlen1
   (simp only [go_sem] at hL ⊢)
   (repeat' (first | (with_reducible first | exact True.intro | refine And.intro ?_ ?_ | refine awp_block ?_ | ((first | refine awp_seq1 12 [] ?_ | refine awp_seq2 12 [] ?_ | refine awp_seq3 12 [] ?_ | refine awp_seq4 12 [] ?_ | refine awp_seq 12 [] ?_); intro K hK)) | ((with_reducible first | refine awp_reg ?_ | refine awp_exit ?_ | refine awp_skip ?_ | refine likeK_i ?_ | refine otWR_i ?_ | refine rP Ty_ok mixed 3 [0, 3] [.mid [pe 1, pe 2, pe 4, pe 5] 0, .one 6, .one 7, .one 8] ?_ | refine rP Ty_ok mixed 4 [0, 3] [.mid [pe 1, pe 2, pe 4, pe 5] 0, .one 6, .one 7, .one 8] ?_ | refine rD (id := 9) ?_ | refine rP Ty_ok mixed 10 [0, 2, 7, 9, 10, 12, 17] [.mid [pe 1, pe 3, pe 4, pe 5, pe 6, pe 8, pe 11, pe 13, pe 14, pe 15, pe 16, pe 18, pe 19, pe 20, pe 21] 0, .one 22] ?_); simp only [hqi, go_sem]) | (with_reducible refine awp_ret ?_; simp only [retF, retM, retL, resV, resW, retO, resAV, AV.bor, D.bor, D.bor1, D.bor0, AV.flatOwn, D.flatOwn, D.flat, AV.tagged, D.tagged, AObj.plain, hqi, go_sem]) | ((with_reducible refine awp_cond' ?_ ?_ (fun hb => ?_) (fun hb => ?_)); (simp only [hqi, go_sem]); (simp only [hqi, go_sem]); all_goals (simp only [hqi, go_sem] at hb; try simp only [bls] at hb)) | ((iterate 6 try ((fail_if_success with_reducible refine hK _ ?_ ?_ ?_); clear hK K)); with_reducible refine hK _ ?_ ?_ ?_; rotate_left; (focus (simp only [hqi, go_sem]; exact rfl)); clear hK K) | (with_reducible refine gsplit_i (fun hg0 => ?_) (fun hg0 => ?_) <;> first | (with_reducible first | exact absurd hg0 Bool.false_ne_true | exact absurd hg0.symm Bool.false_ne_true) | (simp only [hg0, hqi, go_sem])) | (with_reducible refine nilK_i ?_; intro bnil hnil; try simp only []) | (omega; done) | (intro hv; (try simp only [bls] at hv); (try simp only [bls]); omega) | (intro hg; (simp only [hg, Bool.true_and, true_and, implies_true]; try (intro hg2; simp only [hg2, Bool.not_false, Bool.not_true])); done)))
   all_goals first | omega | skip
   have hO := hL
   clear hL
   refine awp_loop _ (by simp only [go_sem]; rfl) Nat (fun k => k ≤ d.alL.length + 1) (fun k => [(9, .one (.int .i64 k))])
    (fun k _ => [.var 24 [.int .u8 d.s, .int .u8 d.al, .int .u8 d.ini, .int .u8 d.mr, .list (edB d.es)], .var 29 [.nil, .int .i64 0, .nil, .nil, .nil], .var 29 [.list (ints d.alL), .int .i64 d.n, .list (ints d.iniL), .list (ints d.mkL), .own 4], .var 81 (kD (d.kb d.cnt)), .row 43 3 (edD (rowI d.kp d.alL d.n i ++ rowK d.kp d.alL d.n i k))]) (fun k => d.alL.length + 1 - k) 0 (by omega) ?_ ?_
   ·rw [show rowI d.kp d.alL d.n i ++ rowK d.kp d.alL d.n i 0 = rowI d.kp d.alL d.n i from List.append_nil _]
    (simp only [SubF, go_sem]; (try simp only [go_sem]); repeat' (first | exact True.intro | with_reducible refine And.intro ?_ ?_ | rfl | omega))
   rintro k hk L2 hL
   have hqk : ((k : Nat) : Int).toNat = k := by omega
   by_cases hkk : k < d.alL.length + 1
   ·have hlen2 := rowK_len d.kp d.alL d.n i (k + 1)
    have hmul : (k + 1) * d.n ≤ 5 * 5 := Nat.mul_le_mul (by omega) (by omega)
    rw [rowK, List.length_append] at hlen2
    have e1 := toNat_pred k
    obtain ⟨ev, hev, hk0⟩ : ∃ ev, evK d.alL k = ev ∧ (k = 0 ∧ ev = -1 ∨ 0 < k ∧ ev = d.alL.getD (k - 1) 0) := by
     cases k with
     | zero => exact ⟨_, rfl, .inl ⟨rfl, rfl⟩⟩
     | succ k => exact ⟨_, rfl, .inr ⟨by omega, rfl⟩⟩
    have hO2 := hL
    rcases hk0 with ⟨hk0, rfl⟩ | ⟨hk0, rfl⟩
    all_goals
     (simp only [go_sem] at hL ⊢)
     (repeat' (first | (with_reducible first | exact True.intro | refine And.intro ?_ ?_ | refine awp_block ?_ | ((first | refine awp_seq1 12 [] ?_ | refine awp_seq2 12 [] ?_ | refine awp_seq3 12 [] ?_ | refine awp_seq4 12 [] ?_ | refine awp_seq 12 [] ?_); intro K hK)) | ((with_reducible first | refine awp_reg ?_ | refine awp_exit ?_ | refine awp_skip ?_ | refine likeK_i ?_ | refine otWR_i ?_ | refine rP Ty_ok mixed 3 [0, 3] [.mid [pe 1, pe 2, pe 4, pe 5] 0, .one 6, .one 7, .one 8] ?_ | refine rP Ty_ok mixed 4 [0, 3] [.mid [pe 1, pe 2, pe 4, pe 5] 0, .one 6, .one 7, .one 8] ?_ | refine rD (id := 9) ?_ | refine rP Ty_ok mixed 10 [0, 2, 7, 9, 10, 12, 17] [.mid [pe 1, pe 3, pe 4, pe 5, pe 6, pe 8, pe 11, pe 13, pe 14, pe 15, pe 16, pe 18, pe 19, pe 20, pe 21] 0, .one 22] ?_); simp only [hqi, hqk, e1, go_sem]) | (with_reducible refine awp_ret ?_; simp only [retF, retM, retL, resV, resW, retO, resAV, AV.bor, D.bor, D.bor1, D.bor0, AV.flatOwn, D.flatOwn, D.flat, AV.tagged, D.tagged, AObj.plain, hqi, hqk, e1, go_sem]) | ((with_reducible refine awp_cond' ?_ ?_ (fun hb => ?_) (fun hb => ?_)); (simp only [hqi, hqk, e1, go_sem]); (simp only [hqi, hqk, e1, go_sem]); all_goals (simp only [hqi, hqk, e1, go_sem] at hb; try simp only [bls] at hb)) | ((iterate 6 try ((fail_if_success with_reducible refine hK _ ?_ ?_ ?_); clear hK K)); with_reducible refine hK _ ?_ ?_ ?_; rotate_left; (focus (simp only [hqi, hqk, e1, go_sem]; exact rfl)); clear hK K) | (with_reducible refine gsplit_i (fun hg0 => ?_) (fun hg0 => ?_) <;> first | (with_reducible first | exact absurd hg0 Bool.false_ne_true | exact absurd hg0.symm Bool.false_ne_true) | (simp only [hg0, hqi, hqk, e1, go_sem])) | (with_reducible refine nilK_i ?_; intro bnil hnil; try simp only []) | (omega; done) | (intro hv; (try simp only [bls] at hv); (try simp only [bls]); omega) | (intro hg; (simp only [hg, Bool.true_and, true_and, implies_true]; try (intro hg2; simp only [hg2, Bool.not_false, Bool.not_true])); done)))
     all_goals first | omega | skip
     clear hL
     refine awp_loop _ (by simp only [go_sem]; rfl) Nat (fun j => j ≤ d.n) (fun j => [(11, .one (.int .i64 j))])
      (fun j _ => [.var 24 [.int .u8 d.s, .int .u8 d.al, .int .u8 d.ini, .int .u8 d.mr, .list (edB d.es)], .var 29 [.nil, .int .i64 0, .nil, .nil, .nil], .var 29 [.list (ints d.alL), .int .i64 d.n, .list (ints d.iniL), .list (ints d.mkL), .own 4], .var 81 (kD (d.kb d.cnt)), .row 43 3 (edD (rowI d.kp d.alL d.n i ++ rowK d.kp d.alL d.n i k ++ rowJ d.kp d.alL i k j))]) (fun j => d.n - j) 0 (by omega) ?_ ?_
     ·rw [show rowI d.kp d.alL d.n i ++ rowK d.kp d.alL d.n i k ++ rowJ d.kp d.alL i k 0 = rowI d.kp d.alL d.n i ++ rowK d.kp d.alL d.n i k from List.append_nil _]
      (simp only [SubF, go_sem]; (try simp only [go_sem]); repeat' (first | exact True.intro | with_reducible refine And.intro ?_ ?_ | rfl | omega))
     rintro j hj L3 hL
     have hqj : ((j : Nat) : Int).toNat = j := by omega
     have hlen3 := rowJ_len d.kp d.alL i k j
     have hlen4 : (rowI d.kp d.alL d.n i ++ rowK d.kp d.alL d.n i k ++ rowJ d.kp d.alL i k j).length ≤ 1000 := by
      rw [List.length_append, List.length_append]
      have := d.ed_len i (by omega)
      have := rowK_len d.kp d.alL d.n i k
      have : k * d.n ≤ 5 * 5 := Nat.mul_le_mul (by omega) (by omega)
      omega
     by_cases hjn : j < d.n
     ·have hkat := kD_at (kb := d.kb d.cnt) (k := i * 30 + k * 6 + j) (by omega)
      have hkp : d.kp i k j = (d.kb d.cnt).getD (i * 30 + k * 6 + j) false := rfl
      have hrow : rowJ d.kp d.alL i k (j + 1) = rowJ d.kp d.alL i k j ++ if d.kp i k j = true then [⟨i, evK d.alL k, j⟩] else [] := rfl
      rw [hev] at hrow
      rw [← hkp] at hkat
      (simp only [go_sem] at hL ⊢)
      (repeat' (first | (with_reducible first | exact True.intro | refine And.intro ?_ ?_ | refine awp_block ?_ | ((first | refine awp_seq1 12 [] ?_ | refine awp_seq2 12 [] ?_ | refine awp_seq3 12 [] ?_ | refine awp_seq4 12 [] ?_ | refine awp_seq 12 [] ?_); intro K hK)) | ((with_reducible first | refine awp_reg ?_ | refine awp_exit ?_ | refine awp_skip ?_ | refine likeK_i ?_ | refine otWR_i ?_ | refine rP Ty_ok mixed 3 [0, 3] [.mid [pe 1, pe 2, pe 4, pe 5] 0, .one 6, .one 7, .one 8] ?_ | refine rP Ty_ok mixed 4 [0, 3] [.mid [pe 1, pe 2, pe 4, pe 5] 0, .one 6, .one 7, .one 8] ?_ | refine rD (id := 9) ?_ | refine rP Ty_ok mixed 10 [0, 2, 7, 9, 10, 12, 17] [.mid [pe 1, pe 3, pe 4, pe 5, pe 6, pe 8, pe 11, pe 13, pe 14, pe 15, pe 16, pe 18, pe 19, pe 20, pe 21] 0, .one 22] ?_); simp only [hqi, hqk, hqj, Nat.mul_one, hkat, eds_snoc, go_sem]) | (with_reducible refine awp_ret ?_; simp only [retF, retM, retL, resV, resW, retO, resAV, AV.bor, D.bor, D.bor1, D.bor0, AV.flatOwn, D.flatOwn, D.flat, AV.tagged, D.tagged, AObj.plain, hqi, hqk, hqj, Nat.mul_one, hkat, eds_snoc, go_sem]) | ((with_reducible refine awp_cond' ?_ ?_ (fun hb => ?_) (fun hb => ?_)); (simp only [hqi, hqk, hqj, Nat.mul_one, hkat, eds_snoc, go_sem]); (simp only [hqi, hqk, hqj, Nat.mul_one, hkat, eds_snoc, go_sem]); all_goals (simp only [hqi, hqk, hqj, Nat.mul_one, hkat, eds_snoc, go_sem] at hb; try simp only [bls] at hb)) | ((iterate 6 try ((fail_if_success with_reducible refine hK _ ?_ ?_ ?_); clear hK K)); with_reducible refine hK _ ?_ ?_ ?_; rotate_left; (focus (simp only [hqi, hqk, hqj, Nat.mul_one, hkat, eds_snoc, go_sem]; exact rfl)); clear hK K) | (with_reducible refine gsplit_i (fun hg0 => ?_) (fun hg0 => ?_) <;> first | (with_reducible first | exact absurd hg0 Bool.false_ne_true | exact absurd hg0.symm Bool.false_ne_true) | (simp only [hg0, hqi, hqk, hqj, Nat.mul_one, hkat, eds_snoc, go_sem])) | (with_reducible refine nilK_i ?_; intro bnil hnil; try simp only []) | (omega; done) | (intro hv; (try simp only [bls] at hv); (try simp only [bls]); omega) | (intro hg; (simp only [hg, Bool.true_and, true_and, implies_true]; try (intro hg2; simp only [hg2, Bool.not_false, Bool.not_true])); done)))
      all_goals first | omega | skip
      ·rw [List.length_drop, kD_length]; omega
      ·rw [if_pos hb] at hrow
       rw [List.append_assoc, ← hrow]
       exact hL _ (j + 1) (by omega) (by (simp only [SubF, go_sem]; (try simp only [go_sem]); repeat' (first | exact True.intro | with_reducible refine And.intro ?_ ?_ | rfl | omega))) (by omega)
      ·rw [if_neg (by rw [hb]; simp), List.append_nil] at hrow
       rw [← hrow]
       exact hL _ (j + 1) (by omega) (by (simp only [SubF, go_sem]; (try simp only [go_sem]); repeat' (first | exact True.intro | with_reducible refine And.intro ?_ ?_ | rfl | omega))) (by omega)
     ·obtain rfl : j = d.n := by omega
      (simp only [go_sem] at hL ⊢)
      (repeat' (first | (with_reducible first | exact True.intro | refine And.intro ?_ ?_ | refine awp_block ?_ | ((first | refine awp_seq1 12 [] ?_ | refine awp_seq2 12 [] ?_ | refine awp_seq3 12 [] ?_ | refine awp_seq4 12 [] ?_ | refine awp_seq 12 [] ?_); intro K hK)) | ((with_reducible first | refine awp_reg ?_ | refine awp_exit ?_ | refine awp_skip ?_ | refine likeK_i ?_ | refine otWR_i ?_ | refine rP Ty_ok mixed 3 [0, 3] [.mid [pe 1, pe 2, pe 4, pe 5] 0, .one 6, .one 7, .one 8] ?_ | refine rP Ty_ok mixed 4 [0, 3] [.mid [pe 1, pe 2, pe 4, pe 5] 0, .one 6, .one 7, .one 8] ?_ | refine rD (id := 9) ?_ | refine rP Ty_ok mixed 10 [0, 2, 7, 9, 10, 12, 17] [.mid [pe 1, pe 3, pe 4, pe 5, pe 6, pe 8, pe 11, pe 13, pe 14, pe 15, pe 16, pe 18, pe 19, pe 20, pe 21] 0, .one 22] ?_); simp only [hqj, go_sem]) | (with_reducible refine awp_ret ?_; simp only [retF, retM, retL, resV, resW, retO, resAV, AV.bor, D.bor, D.bor1, D.bor0, AV.flatOwn, D.flatOwn, D.flat, AV.tagged, D.tagged, AObj.plain, hqj, go_sem]) | ((with_reducible refine awp_cond' ?_ ?_ (fun hb => ?_) (fun hb => ?_)); (simp only [hqj, go_sem]); (simp only [hqj, go_sem]); all_goals (simp only [hqj, go_sem] at hb; try simp only [bls] at hb)) | ((iterate 6 try ((fail_if_success with_reducible refine hK _ ?_ ?_ ?_); clear hK K)); with_reducible refine hK _ ?_ ?_ ?_; rotate_left; (focus (simp only [hqj, go_sem]; exact rfl)); clear hK K) | (with_reducible refine gsplit_i (fun hg0 => ?_) (fun hg0 => ?_) <;> first | (with_reducible first | exact absurd hg0 Bool.false_ne_true | exact absurd hg0.symm Bool.false_ne_true) | (simp only [hg0, hqj, go_sem])) | (with_reducible refine nilK_i ?_; intro bnil hnil; try simp only []) | (omega; done) | (intro hv; (try simp only [bls] at hv); (try simp only [bls]); omega) | (intro hg; (simp only [hg, Bool.true_and, true_and, implies_true]; try (intro hg2; simp only [hg2, Bool.not_false, Bool.not_true])); done)))
      all_goals first | omega | skip
      rw [List.append_assoc]
      exact hO2 _ (k + 1) (by omega) (by (simp only [SubF, go_sem]; (try simp only [go_sem]); repeat' (first | exact True.intro | with_reducible refine And.intro ?_ ?_ | rfl | omega))) (by omega)
   ·obtain rfl : k = d.alL.length + 1 := by omega
    (simp only [go_sem] at hL ⊢)
    (repeat' (first | (with_reducible first | exact True.intro | refine And.intro ?_ ?_ | refine awp_block ?_ | ((first | refine awp_seq1 12 [] ?_ | refine awp_seq2 12 [] ?_ | refine awp_seq3 12 [] ?_ | refine awp_seq4 12 [] ?_ | refine awp_seq 12 [] ?_); intro K hK)) | ((with_reducible first | refine awp_reg ?_ | refine awp_exit ?_ | refine awp_skip ?_ | refine likeK_i ?_ | refine otWR_i ?_ | refine rP Ty_ok mixed 3 [0, 3] [.mid [pe 1, pe 2, pe 4, pe 5] 0, .one 6, .one 7, .one 8] ?_ | refine rP Ty_ok mixed 4 [0, 3] [.mid [pe 1, pe 2, pe 4, pe 5] 0, .one 6, .one 7, .one 8] ?_ | refine rD (id := 9) ?_ | refine rP Ty_ok mixed 10 [0, 2, 7, 9, 10, 12, 17] [.mid [pe 1, pe 3, pe 4, pe 5, pe 6, pe 8, pe 11, pe 13, pe 14, pe 15, pe 16, pe 18, pe 19, pe 20, pe 21] 0, .one 22] ?_); simp only [hqk, go_sem]) | (with_reducible refine awp_ret ?_; simp only [retF, retM, retL, resV, resW, retO, resAV, AV.bor, D.bor, D.bor1, D.bor0, AV.flatOwn, D.flatOwn, D.flat, AV.tagged, D.tagged, AObj.plain, hqk, go_sem]) | ((with_reducible refine awp_cond' ?_ ?_ (fun hb => ?_) (fun hb => ?_)); (simp only [hqk, go_sem]); (simp only [hqk, go_sem]); all_goals (simp only [hqk, go_sem] at hb; try simp only [bls] at hb)) | ((iterate 6 try ((fail_if_success with_reducible refine hK _ ?_ ?_ ?_); clear hK K)); with_reducible refine hK _ ?_ ?_ ?_; rotate_left; (focus (simp only [hqk, go_sem]; exact rfl)); clear hK K) | (with_reducible refine gsplit_i (fun hg0 => ?_) (fun hg0 => ?_) <;> first | (with_reducible first | exact absurd hg0 Bool.false_ne_true | exact absurd hg0.symm Bool.false_ne_true) | (simp only [hg0, hqk, go_sem])) | (with_reducible refine nilK_i ?_; intro bnil hnil; try simp only []) | (omega; done) | (intro hv; (try simp only [bls] at hv); (try simp only [bls]); omega) | (intro hg; (simp only [hg, Bool.true_and, true_and, implies_true]; try (intro hg2; simp only [hg2, Bool.not_false, Bool.not_true])); done)))
    all_goals first | omega | skip
    exact hO _ (i + 1) (by omega) (by (simp only [SubF, go_sem]; (try simp only [go_sem]); repeat' (first | exact True.intro | with_reducible refine And.intro ?_ ?_ | rfl | omega))) (by omega)
  ·obtain rfl : i = d.n := by omega
   (simp only [go_sem] at hL ⊢)
   (repeat' (first | (with_reducible first | exact True.intro | refine And.intro ?_ ?_ | refine awp_block ?_ | ((first | refine awp_seq1 12 [] ?_ | refine awp_seq2 12 [] ?_ | refine awp_seq3 12 [] ?_ | refine awp_seq4 12 [] ?_ | refine awp_seq 12 [] ?_); intro K hK)) | ((with_reducible first | refine awp_reg ?_ | refine awp_exit ?_ | refine awp_skip ?_ | refine likeK_i ?_ | refine otWR_i ?_ | refine rP Ty_ok mixed 3 [0, 3] [.mid [pe 1, pe 2, pe 4, pe 5] 0, .one 6, .one 7, .one 8] ?_ | refine rP Ty_ok mixed 4 [0, 3] [.mid [pe 1, pe 2, pe 4, pe 5] 0, .one 6, .one 7, .one 8] ?_ | refine rD (id := 9) ?_ | refine rP Ty_ok mixed 10 [0, 2, 7, 9, 10, 12, 17] [.mid [pe 1, pe 3, pe 4, pe 5, pe 6, pe 8, pe 11, pe 13, pe 14, pe 15, pe 16, pe 18, pe 19, pe 20, pe 21] 0, .one 22] ?_); simp only [hqi, go_sem]) | (with_reducible refine awp_ret ?_; simp only [retF, retM, retL, resV, resW, retO, resAV, AV.bor, D.bor, D.bor1, D.bor0, AV.flatOwn, D.flatOwn, D.flat, AV.tagged, D.tagged, AObj.plain, hqi, go_sem]) | ((with_reducible refine awp_cond' ?_ ?_ (fun hb => ?_) (fun hb => ?_)); (simp only [hqi, go_sem]); (simp only [hqi, go_sem]); all_goals (simp only [hqi, go_sem] at hb; try simp only [bls] at hb)) | ((iterate 6 try ((fail_if_success with_reducible refine hK _ ?_ ?_ ?_); clear hK K)); with_reducible refine hK _ ?_ ?_ ?_; rotate_left; (focus (simp only [hqi, go_sem]; exact rfl)); clear hK K) | (with_reducible refine gsplit_i (fun hg0 => ?_) (fun hg0 => ?_) <;> first | (with_reducible first | exact absurd hg0 Bool.false_ne_true | exact absurd hg0.symm Bool.false_ne_true) | (simp only [hg0, hqi, go_sem])) | (with_reducible refine nilK_i ?_; intro bnil hnil; try simp only []) | (omega; done) | (intro hv; (try simp only [bls] at hv); (try simp only [bls]); omega) | (intro hg; (simp only [hg, Bool.true_and, true_and, implies_true]; try (intro hg2; simp only [hg2, Bool.not_false, Bool.not_true])); done)))
   all_goals first | omega | skip
   all_goals rfl
end Go.Proofs.YtgagpbbnbonnlaaDoor
