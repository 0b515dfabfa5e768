/- Several parts in one text. -/
import Derived.Test.YtmnojbkakgfinaaGreatDoorK2
import Derived.Test.YtmnojbkakgfinaaGreatDoorK4
import Derived.Test.YtmnojbkakgfinaaGreatDoorK6
open Go PG Go.Proofs
namespace Go.Proofs.YtmnojbkakgfinaaGreatDoor
attribute [local go_sem] Lay2 Lay3 Lay4 Lay5 Lay6 Lay7 Lay8 Lay9 Lay10 Lay11 Lay12 Lay13 Lay14 Lay15 Lay16 Lay17 Lay18 Lay19 Lay21 Lay23 Lay24 Lay25 Lay26 Lay27 Lay28 Lay31 Lay32 Lay33 Lay40 Lay43 Lay44 Lay49 Lay50 Lay57 Lay58 Lay61 Lay68 Lay69 Lay72 Lay77 Lay125 Lay133 Lay134 Lay150 Lay167 Lay168 Lay169 Lay170 Lay180 Lay181 Lay185 Lay186 Lay189 Lay205 Lay208 Lay223 Lay227 Lay228 Lay231 Lay232 Lay233 Lay234 Lay235 Lay236 Lay237 Lay238 Lay240 Lay241 Lay242 Lay243 Lay244 Lay245 Lay246 Lay247 Lay249 Lay250 qexec_seq qexec_skip qexec_exit qexec_ret qexec_block qexec_loop qexec_range qexec_cond qexec_region qexec_drawn qops_nil qops_none qops_some put_some put_none pblk_exit pblk_other newDsts_nil inlDsts_nil isInl sget_cons sget_nil qval_some qbool_some qgs_bool qgs_und qfree_some qgrd_true qgrd_false qif_true qif_false qval_ite qval_itn qand_true map_ite map_some' map_none' qdo_move qdo_assign qdo_binOp qdo_pick qdo_unOp qdo_convert qdo_extract qdo_field qdo_fieldAddr qdo_alloc qdo_box qdo_build qdo_buildSlice qdo_load qdo_store qdo_nilCheck qdo_makeFunc qdo_makeSlice qdo_slice qdo_indexAddr qdo_call qcont_val qcont_new qcont_st qcont_app0 qcont_app qcont_inl qcont_call njSV_val njSV_nil njSV_row njSV_ptr njSV_sub binV_val binV_nil binV_nn binV_ptr bin_np bin_nnp nilCmp bin_add bin_sub bin_mul bin_quo bin_rem bin_and bin_or bin_xor bin_andNot bin_eql bin_neq bin_lss bin_leq bin_gtr bin_geq bin_shl bin_shr bin_seql bin_sneq bin_sadd bin_beql bin_aeql bin_aneq eqAnd_some eqCells_nil eqCells_cons fieldTypes isStruct eqCell bin_bneq un_not un_neg nj_ite Nat.beq stepA stepR isNew opSV constSV RV.sv allSome E_mu E_own qkeyIn_none qkeyIn_some qkeyAt_none qkeyAt_some Bool.or_false Bool.false_or Bool.or_true Bool.true_or cst setB res resSV pstart startL killL kill1 eraL frzL svPV rvPV rvInt rvSlice rvBytes frzOf close closeL pconv pbuiltin pmax2 partPV setCells fillPV zrow bound newSV PV.cells Bk.cells Bk.with SV.key pres presL_nil presL_tmp presL_cell presC2_some cellPV_ptr presC List.toList_toArray List.size_toArray List.getElem?_drop Nat.mul_one Int.toNat_natCast Nat.not_lt_zero Nat.lt_irrefl decide_true decide_false Nat.not_lt Option.some.injEq PV.lst.injEq PV.int.injEq PV.bool.injEq PV.tuple.injEq List.cons.injEq Option.map_some Option.map_none Option.bind_some Option.toList List.map_cons List.map_nil List.nil_append List.cons_append List.append_nil List.zip_cons_cons List.zip_nil_left List.zip_nil_right List.getElem?_cons_zero List.getElem?_cons_succ List.drop_zero List.drop_succ_cons List.take_succ_cons List.take_zero List.set_cons_zero List.set_cons_succ List.length_cons List.length_nil List.length_set List.replicate_one List.replicate_zero bne_self_eq_false beq_self_eq_true Nat.zero_add Nat.add_zero Nat.zero_mul Bool.false_eq_true Bool.true_eq_false Bool.not_true Bool.not_false and_true true_and false_and and_false or_false false_or or_true true_or not_true_eq_false not_false_eq_true ne_eq gt_iff_lt List.mem_cons List.not_mem_nil
attribute [local go_sem ↓] pseq_normal pseq_ret pseq_exit pblk_normal pblk_ret newDsts_cons inlDsts_cons gdst_zero gdst_succ retQ_normal retQ_ret qneed_nil qneed_cons retM_normal retM_ret endR_normal endR_ret endR_exit
attribute [local go_sem] Int.reduceToNat Int.reduceEq Int.reduceNe Int.reduceLT Int.reduceLE Int.reduceNeg Int.reduceAdd Nat.reduceEqDiff Nat.reduceAdd Nat.reduceSub Nat.reduceMul Nat.reduceLeDiff Nat.reduceLT
attribute [local go_sem ↓] reduceIte reduceCtorEq
/- decimal: texts put together from parts are read part by part: plain laws. No program stands here. -/
section
open Go PG Go.Proofs
set_option maxRecDepth 100000
set_option linter.unusedSimpArgs false
set_option linter.unusedVariables false

theorem dgt_not {l : List UInt8} (h : l.all dgt = true) : 101 ∉ l ∧ 46 ∉ l ∧ 45 ∉ l := by
  refine ⟨fun hm => ?_, fun hm => ?_, fun hm => ?_⟩ <;>
  · have := List.all_eq_true.1 h _ hm
    exact absurd this (by decide)
/-- A sign ahead of digits. -/
def sgT (neg : Bool) : List UInt8 := if neg = true then [45] else []
theorem sgT_hasP {neg : Bool} {ds t : List UInt8} (h : ds.all dgt = true) (h0 : ds ≠ []) : hasP (sgT neg ++ (ds ++ t)) [45] = neg ∧ (sgT neg ++ (ds ++ t)).drop (if neg = true then 1 else 0) = ds ++ t := by
  cases neg
  · refine ⟨?_, rfl⟩
    cases ds with
    | nil => exact absurd rfl h0
    | cons a ds =>
      rw [List.all_cons, Bool.and_eq_true] at h
      cases hh : hasP (sgT false ++ (a :: ds ++ t)) [45] with
      | false => rfl
      | true =>
        have h2 := of_decide_eq_true hh
        have h3 : [a] = [45] := h2
        rw [List.cons.injEq] at h3
        rw [h3.1] at h
        exact absurd h.1 (by decide)
  · refine ⟨?_, rfl⟩
    unfold hasP
    rw [decide_eq_true_eq]
    rfl
theorem sgT_exp {neg : Bool} {ds : List UInt8} (h : ds.all dgt = true) (h0 : ds ≠ []) : hasP (sgT neg ++ ds) [45] = neg ∧ expS (sgT neg ++ ds) = ds := by
  have h1 := sgT_hasP (neg := neg) (t := []) h h0
  rw [List.append_nil] at h1
  refine ⟨h1.1, ?_⟩
  unfold expS
  rw [h1.1]
  cases neg
  · rfl
  · rfl
/-- A text of decimal digits, put together. -/
def decT (sg : Bool) (A : List UInt8) (pt : Bool) (D : List UInt8) (he neg : Bool) (ds : List UInt8) : List UInt8 :=
  sgT sg ++ ((A ++ (if pt = true then 46 :: D else [])) ++ (if he = true then 101 :: (sgT neg ++ ds) else []))
structure DecOk (A : List UInt8) (pt : Bool) (D : List UInt8) (he : Bool) (ds : List UInt8) : Prop where
  hA : A.all dgt = true
  hA0 : A ≠ []
  hD : D.all dgt = true
  hpt : pt = true → D ≠ []
  hpf : pt = false → D = []
  hds : he = true → ds.all dgt = true ∧ ds ≠ [] ∧ ds.length ≤ 4 ∧ dn ds ≤ 2000
theorem dec_read {sg : Bool} {A D ds : List UInt8} {pt he neg : Bool} (h : DecOk A pt D he ds) :
    dcOk (decT sg A pt D he neg ds) = true ∧ dcN (decT sg A pt D he neg ds) = sg ∧ dcW (decT sg A pt D he neg ds) = A ∧ dcF (decT sg A pt D he neg ds) = D ∧
    dcE (decT sg A pt D he neg ds) = (if he = true then (if neg = true then -((dn ds : Nat) : Int) else (dn ds : Nat)) else 0) - (D.length : Nat) := by
  obtain ⟨hA, hA0, hD, hpt, hpf, hds⟩ := h
  obtain ⟨A1, A2, A3⟩ := dgt_not hA
  obtain ⟨D1, D2, D3⟩ := dgt_not hD
  obtain ⟨l, hl⟩ : ∃ l, l = decT sg A pt D he neg ds := ⟨_, rfl⟩
  rw [← hl]
  unfold decT at hl
  have hs := sgT_hasP (neg := sg) (t := (if pt = true then 46 :: D else []) ++ (if he = true then 101 :: (sgT neg ++ ds) else [])) hA hA0
  rw [← List.append_assoc A, ← hl] at hs
  have hN : dcN l = sg := hs.1
  have hR : dcR l = (A ++ (if pt = true then 46 :: D else [])) ++ (if he = true then 101 :: (sgT neg ++ ds) else []) := by
    unfold dcR
    rw [hs.1, ← hs.2]
    cases sg <;> rfl
  have hno : hasC 101 (A ++ (if pt = true then 46 :: D else [])) = false := hasC_not (by
    rw [List.mem_append, not_or]
    refine ⟨A1, ?_⟩
    split
    · rw [List.mem_cons, not_or]; exact ⟨by decide, D1⟩
    · simp)
  obtain ⟨c1, c2, c3⟩ := cut_out (if he = true then 101 :: (sgT neg ++ ds) else []) hno
  have hB : dcB l = A ++ (if pt = true then 46 :: D else []) := by
    unfold dcB; rw [hR, c1]
    cases he
    · exact List.append_nil _
    · rw [if_pos rfl, cutA_cons, if_pos rfl]; exact List.append_nil _
  have hH : dcH l = he := by
    unfold dcH; rw [hR, c3]
    cases he
    · rfl
    · rw [if_pos rfl, hasC_cons, if_pos rfl]
  have hX : he = true → dcX l = sgT neg ++ ds := fun e => by
    unfold dcX; rw [hR, c2, if_pos e, cutB_cons, if_pos rfl]
  obtain ⟨d1, d2, d3⟩ := cut_out (if pt = true then 46 :: D else []) (hasC_not A2)
  have hWF : dcW l = A ∧ dcF l = D ∧ dcP l = pt := by
    unfold dcW dcF dcP
    rw [hB, d1, d2, d3]
    cases pt
    · rw [hpf rfl]; exact ⟨List.append_nil _, rfl, rfl⟩
    · rw [if_pos rfl, cutA_cons, if_pos rfl, cutB_cons, if_pos rfl, hasC_cons, if_pos rfl]
      exact ⟨List.append_nil _, rfl, rfl⟩
  obtain ⟨w1, w2, w3⟩ := hWF
  have hok1 : dcOk1 l = true := by
    unfold dcOk1 digs
    rw [w1, w2, w3, hA, hD, decide_eq_true hA0]
    cases pt
    · rfl
    · rw [decide_eq_true (hpt rfl)]; rfl
  cases he
  · have hok2 : dcOk2 l = true := by unfold dcOk2; rw [hH]; rfl
    refine ⟨by unfold dcOk; rw [hok1, hok2]; rfl, hN, w1, w2, ?_⟩
    unfold dcE
    rw [hH, w2]
    rfl
  · obtain ⟨e1, e2, e3, e4⟩ := hds rfl
    obtain ⟨s1, s2⟩ := sgT_exp (neg := neg) e1 e2
    have hX := hX rfl
    have hok2 : dcOk2 l = true := by
      unfold dcOk2 digs
      rw [hH, hX, s2, e1, decide_eq_true e2, decide_eq_true e3, decide_eq_true e4]; rfl
    refine ⟨by unfold dcOk; rw [hok1, hok2]; rfl, hN, w1, w2, ?_⟩
    unfold dcE
    rw [hH, hX, s1, s2, w2, if_pos rfl]
theorem decT_word {sg : Bool} {A D ds : List UInt8} {pt he neg : Bool} (h : DecOk A pt D he ds) : isW (decT sg A pt D he neg ds) = false := by
  obtain ⟨hA, hA0, -, -, -, -⟩ := h
  cases A with
  | nil => exact absurd rfl hA0
  | cons a A =>
    rw [List.all_cons, Bool.and_eq_true] at hA
    have h1 : ∀ t : List UInt8, isW (a :: t) = false := fun t => by
      have e1 : a ≠ 110 := fun e => by rw [e] at hA; exact absurd hA.1 (by decide)
      have e2 : a ≠ 105 := fun e => by rw [e] at hA; exact absurd hA.1 (by decide)
      have e3 : a ≠ 45 := fun e => by rw [e] at hA; exact absurd hA.1 (by decide)
      unfold isW wNaN wInf wNeg
      rw [decide_eq_false (fun e => e1 (List.cons.inj e).1), decide_eq_false (fun e => e2 (List.cons.inj e).1), decide_eq_false (fun e => e3 (List.cons.inj e).1)]
      rfl
    have h2 : ∀ t : List UInt8, isW (45 :: a :: t) = false := fun t => by
      have e2 : a ≠ 105 := fun e => by rw [e] at hA; exact absurd hA.1 (by decide)
      unfold isW wNaN wInf wNeg
      rw [decide_eq_false (fun e => absurd (List.cons.inj e).1 (by decide)), decide_eq_false (fun e => absurd (List.cons.inj e).1 (by decide)), decide_eq_false (fun e => e2 (List.cons.inj (List.cons.inj e).2).1)]
      rfl
    unfold decT sgT
    cases sg
    · simp only [Bool.false_eq_true, if_false, List.nil_append, List.cons_append]
      exact h1 _
    · simp only [if_true, List.nil_append, List.cons_append]
      exact h2 _
/-- Bits and flags of digits at an exponent. -/
def decR (s : Bool) (m : Nat) (e : Int) (dir : Int) : Nat × Nat :=
  if m = 0 then ((if s = true then 9223372036854775808 else 0), 0)
  else if 0 ≤ e then toS (mkD s (m * 10 ^ e.toNat) 0) false dir
  else tenT s m (-e).toNat dir
theorem decP_T {sg : Bool} {A D ds : List UInt8} {pt he neg : Bool} (h : DecOk A pt D he ds) (hl : (decT sg A pt D he neg ds).length ≤ 800) (dir : Int) :
    decP (decT sg A pt D he neg ds) dir = (decR sg (dn (A ++ D)) ((if he = true then (if neg = true then -((dn ds : Nat) : Int) else (dn ds : Nat)) else 0) - (D.length : Nat)) dir, 0) := by
  obtain ⟨h1, h2, h3, h4, h5⟩ := dec_read (sg := sg) (neg := neg) h
  have h6 := decT_word (sg := sg) (neg := neg) h
  unfold decP decR
  rw [if_neg (by rw [h6]; decide), if_neg (by omega), if_pos h1, h2, h5]
  have e : dcM (decT sg A pt D he neg ds) = dn (A ++ D) := by unfold dcM; rw [h3, h4]
  rw [e]
end

/- So many digits of a number: plain laws. No program stands here. -/
section
open Go PG Go.Proofs
set_option maxRecDepth 100000
set_option linter.unusedSimpArgs false
set_option linter.unusedVariables false

theorem rne_spec {a b : Nat} (hb : b ≠ 0) : 2 * a ≤ (2 * rne a b + 1) * b ∧ 2 * rne a b * b ≤ 2 * a + b ∧ (2 * a = (2 * rne a b + 1) * b → rne a b % 2 = 0) ∧ (2 * rne a b * b = 2 * a + b → rne a b % 2 = 0) ∧ a / b ≤ rne a b ∧ rne a b ≤ a / b + 1 := by
  have h1 := Nat.div_add_mod a b
  have h2 := Nat.mod_lt a (Nat.pos_of_ne_zero hb)
  unfold rne
  generalize a / b = q at *
  generalize a % b = r at *
  split
  · rename_i h
    have e1 : (2 * (q + 1) + 1) * b = 2 * (b * q) + 3 * b := by rw [Nat.add_mul, Nat.mul_add, Nat.add_mul, Nat.mul_assoc, Nat.mul_comm q b]; omega
    have e2 : 2 * (q + 1) * b = 2 * (b * q) + 2 * b := by rw [Nat.mul_add, Nat.add_mul, Nat.mul_assoc, Nat.mul_comm q b]
    rw [e1, e2]
    refine ⟨by omega, by omega, fun h3 => by omega, fun h3 => ?_, by omega, by omega⟩
    rcases h with h | h
    · omega
    · omega
  · rename_i h
    have e1 : (2 * q + 1) * b = 2 * (b * q) + b := by rw [Nat.add_mul, Nat.mul_assoc, Nat.mul_comm q b]; omega
    have e2 : 2 * q * b = 2 * (b * q) := by rw [Nat.mul_assoc, Nat.mul_comm q b]
    rw [e1, e2]
    refine ⟨by omega, by omega, fun h3 => ?_, fun h3 => by omega, by omega, by omega⟩
    rcases Nat.mod_two_eq_zero_or_one q with h4 | h4
    · exact h4
    · exact absurd (.inr ⟨by omega, h4⟩) h
theorem rne_ge {a b k : Nat} (hb : b ≠ 0) (h : k * b ≤ a) : k ≤ rne a b := by
  have h1 := (rne_spec (a := a) hb).2.2.2.2.1
  have h2 := (Nat.le_div_iff_mul_le (Nat.pos_of_ne_zero hb)).2 h
  omega
theorem rne_le {a b k : Nat} (hb : b ≠ 0) (h : a < k * b) : rne a b ≤ k := by
  have h1 := (rne_spec (a := a) hb).2.2.2.2.2
  have h2 := (Nat.div_lt_iff_lt_mul (Nat.pos_of_ne_zero hb)).2 h
  omega
theorem p10_pos (n : Nat) : 0 < 10 ^ n := Nat.pow_pos (by decide)
theorem scN_ne (de e : Int) : scN de e ≠ 0 := Nat.mul_ne_zero (Nat.ne_of_gt (Nat.two_pow_pos _)) (Nat.ne_of_gt (p10_pos _))
/-- One exponent more. -/
theorem sc_step (m : Nat) (de e : Int) : scM m de e * scN de (e + 1) = 10 * scM m de (e + 1) * scN de e := by
  unfold scM scN
  by_cases h : 0 ≤ e
  · rw [show (-e).toNat = 0 by omega, show (-(e + 1)).toNat = 0 by omega, show (e + 1).toNat = e.toNat + 1 by omega, Nat.pow_succ]
    generalize 10 ^ e.toNat = t
    generalize 2 ^ de.toNat = a
    generalize 2 ^ (-de).toNat = b
    rw [Nat.pow_zero, Nat.mul_one]
    generalize m * a = c
    rw [← Nat.mul_assoc b, Nat.mul_comm (b * t) 10, ← Nat.mul_assoc c, Nat.mul_comm c 10]
  · rw [show (-e).toNat = (-(e + 1)).toNat + 1 by omega, show (e + 1).toNat = 0 by omega, show e.toNat = 0 by omega, Nat.pow_succ]
    generalize 10 ^ (-(e + 1)).toNat = t
    generalize 2 ^ de.toNat = a
    generalize 2 ^ (-de).toNat = b
    rw [Nat.pow_zero, Nat.mul_one]
    generalize m * a = c
    rw [← Nat.mul_assoc c, Nat.mul_comm (c * t) 10]
theorem mul_lt_r {a b c : Nat} (hc : c ≠ 0) : a * c < b * c ↔ a < b := Nat.mul_lt_mul_right (Nat.pos_of_ne_zero hc)
theorem mul_le_r {a b c : Nat} (hc : c ≠ 0) : a * c ≤ b * c ↔ a ≤ b := Nat.mul_le_mul_right_iff (Nat.pos_of_ne_zero hc)
/-- Below so many digits. -/
def blw (m : Nat) (de : Int) (n : Nat) (e : Int) : Prop := scM m de e < 10 ^ n * scN de e
theorem blw_step {m : Nat} {de : Int} {n : Nat} {e : Int} : blw m de (n + 1) e ↔ blw m de n (e + 1) := by
  unfold blw
  have h := sc_step m de e
  have h1 := scN_ne de e
  have h2 := scN_ne de (e + 1)
  rw [← mul_lt_r h2, h, Nat.pow_succ]
  generalize scM m de (e + 1) = A at *
  generalize scN de (e + 1) = B at *
  generalize scN de e = C at *
  rw [show 10 ^ n * 10 * C * B = 10 ^ n * B * 10 * C by rw [Nat.mul_right_comm _ C B, Nat.mul_right_comm _ 10 B], mul_lt_r h1]
  omega
theorem blw_more {m : Nat} {de : Int} {n : Nat} {e : Int} (h : blw m de n e) : blw m de (n + 1) e := by
  unfold blw at *
  have := Nat.mul_le_mul_right (scN de e) (Nat.pow_le_pow_right (n := 10) (by decide) (Nat.le_succ n))
  have h2 : n.succ = n + 1 := rfl
  rw [h2] at this
  omega
theorem blw_up {m : Nat} {de : Int} {n : Nat} {e : Int} (h : blw m de n e) (k : Nat) : blw m de n (e + k) := by
  induction k with
  | zero => rwa [show e + ((0 : Nat) : Int) = e by omega]
  | succ k ih =>
    rw [show e + ((k + 1 : Nat) : Int) = e + k + 1 by omega, ← blw_step]
    exact blw_more ih
theorem first_true {p : Nat → Prop} : ∀ N, ¬ p 0 → p N → ∃ k, k < N ∧ ¬ p k ∧ p (k + 1)
  | 0, h0, h1 => absurd h1 h0
  | N + 1, h0, h1 => by
    by_cases h : p N
    · obtain ⟨k, a, b, c⟩ := first_true N h0 h
      exact ⟨k, by omega, b, c⟩
    · exact ⟨N, by omega, h, h1⟩
theorem pow2_le {a : Nat} (k : Nat) (h : a ≤ k) : 2 ^ a ≤ 2 ^ k := Nat.pow_le_pow_right (by decide) h
/-- The exponent with which a number has so many digits ahead of its point. -/
theorem star {m : Nat} {de : Int} {n : Nat} (hm : m ≠ 0) (hb : m < 2 ^ 53) (hde : -1074 ≤ de ∧ de ≤ 1025) (hn : n ≤ 60) :
    ∃ s : Int, -399 ≤ s ∧ s ≤ 400 ∧ (∀ e, s ≤ e → blw m de n e) ∧ (∀ e, e < s → ¬ blw m de n e) := by
  have h0 : ¬ blw m de n (((0 : Nat) : Int) - 400) := by
    unfold blw scM scN
    rw [show (((0 : Nat) : Int) - 400).toNat = 0 from rfl, show (-(((0 : Nat) : Int) - 400)).toNat = 400 from rfl, Nat.pow_zero, Nat.mul_one, Nat.not_lt]
    have h1 := pow2_le (a := (-de).toNat) 1074 (by omega)
    have h2 : 10 ^ n ≤ 10 ^ 60 := Nat.pow_le_pow_right (by decide) hn
    have h3 := Nat.mul_le_mul h2 h1
    have h4 : 10 ^ 60 * 2 ^ 1074 ≤ 10 ^ 400 := by decide +kernel
    exact Nat.le_trans h3 (Nat.le_trans h4 (Nat.le_mul_of_pos_left _ (Nat.pos_of_ne_zero (Nat.mul_ne_zero hm (Nat.ne_of_gt (Nat.two_pow_pos _))))))
  have h1 : blw m de n (((800 : Nat) : Int) - 400) := by
    unfold blw scM scN
    rw [show (((800 : Nat) : Int) - 400).toNat = 400 from rfl, show (-(((800 : Nat) : Int) - 400)).toNat = 0 from rfl, Nat.pow_zero, Nat.mul_one]
    obtain ⟨K, hK⟩ : ∃ K, K = 1025 := ⟨_, rfl⟩
    have h1 : 2 ^ de.toNat ≤ 2 ^ K := pow2_le K (by omega)
    have h2 : m * 2 ^ de.toNat < 2 ^ 53 * 2 ^ K := Nat.lt_of_lt_of_le (Nat.mul_lt_mul_of_pos_right hb (Nat.two_pow_pos _)) (Nat.mul_le_mul_left _ h1)
    have h4 : 2 ^ 53 * 2 ^ K ≤ 10 ^ 400 := by rw [hK]; decide +kernel
    exact Nat.lt_of_lt_of_le h2 (Nat.le_trans h4 (Nat.le_trans (Nat.le_mul_of_pos_left _ (Nat.two_pow_pos _)) (Nat.le_mul_of_pos_left _ (p10_pos n))))
  obtain ⟨k, g1, g2, g3⟩ := first_true (p := fun k : Nat => blw m de n ((k : Int) - 400)) 800 h0 h1
  refine ⟨((k + 1 : Nat) : Int) - 400, by omega, by omega, fun e he => ?_, fun e he hb => ?_⟩
  · have := blw_up g3 (e - (((k + 1 : Nat) : Int) - 400)).toNat
    rwa [show ((k + 1 : Nat) : Int) - 400 + ((e - (((k + 1 : Nat) : Int) - 400)).toNat : Nat) = e by omega] at this
  · have := blw_up hb ((k : Int) - 400 - e).toNat
    rw [show e + (((k : Int) - 400 - e).toNat : Nat) = (k : Int) - 400 by omega] at this
    exact g2 this
/-- Just so many digits that are nearest. -/
structure Near (m : Nat) (de : Int) (n : Nat) (x : Int) (M : Nat) : Prop where
  lo : 10 ^ (n - 1) ≤ M
  hi : M < 10 ^ n
  up : 2 * scM m de x ≤ (2 * M + 1) * scN de x
  dn : 2 * M * scN de x ≤ 2 * scM m de x + scN de x
  ev1 : 2 * scM m de x = (2 * M + 1) * scN de x → M % 2 = 0
  ev2 : 2 * M * scN de x = 2 * scM m de x + scN de x → M % 2 = 0
def rE (m : Nat) (de e : Int) : Nat := rne (scM m de e) (scN de e)
/-- The search for the exponent. -/
def expoL (m : Nat) (de : Int) (n : Nat) : Nat → Int → Int × Nat
  | 0, e => (e, 0)
  | k + 1, e => if 10 ^ n ≤ rE m de e then (if rE m de e = 10 ^ n then (e + 1, 10 ^ (n - 1)) else expoL m de n k (e + 1)) else if rE m de e < 10 ^ (n - 1) then expoL m de n k (e - 1) else (e, rE m de e)
/-- Which way it goes. -/
theorem expo_way {m : Nat} {de : Int} {n : Nat} {s : Int} (hn : 1 ≤ n) (h1 : ∀ e, s ≤ e → blw m de n e) (h2 : ∀ e, e < s → ¬ blw m de n e) (e : Int) :
    (10 ^ n ≤ rE m de e → rE m de e ≠ 10 ^ n → e < s) ∧ (rE m de e < 10 ^ (n - 1) → s < e) ∧ (10 ^ n ≤ rE m de e → e ≤ s) := by
  obtain ⟨k, rfl⟩ : ∃ k, n = k + 1 := ⟨n - 1, by omega⟩
  have hN := scN_ne de e
  have hup : s < e → blw m de k e := fun h => by
    have := h1 (e - 1) (by omega)
    rw [blw_step, show e - 1 + 1 = e by omega] at this
    exact this
  have hlt : 10 ^ k < 10 ^ (k + 1) := Nat.pow_lt_pow_right (by decide) (Nat.lt_succ_self k)
  refine ⟨fun g1 g2 => Int.not_le.1 fun hc => ?_, fun g1 => Int.not_le.1 fun hc => ?_, fun g1 => Int.not_lt.1 fun hc => ?_⟩
  · have := rne_le hN (h1 e hc)
    unfold rE at g1 g2
    omega
  · have h3 : ¬ blw m de (k + 1) (e - 1) := h2 _ (by omega)
    rw [blw_step, show e - 1 + 1 = e by omega] at h3
    have := rne_ge hN (Nat.not_lt.1 h3)
    unfold rE at g1
    rw [Nat.add_sub_cancel] at g1
    omega
  · have := rne_le hN (hup hc)
    unfold rE at g1
    omega
theorem expo_near {m : Nat} {de : Int} {n : Nat} {s : Int} (hn : 1 ≤ n) (hs : -399 ≤ s ∧ s ≤ 400) (h1 : ∀ e, s ≤ e → blw m de n e) (h2 : ∀ e, e < s → ¬ blw m de n e) :
    ∀ (k : Nat) (e : Int), -399 ≤ e ∧ e ≤ 400 → (e - s).natAbs < k → Near m de n (expoL m de n k e).1 (expoL m de n k e).2 ∧ -399 ≤ (expoL m de n k e).1 ∧ (expoL m de n k e).1 ≤ 401
  | 0, e, _, h => absurd h (Nat.not_lt_zero _)
  | k + 1, e, he, h => by
    obtain ⟨w1, w2, w3⟩ := expo_way hn h1 h2 e
    have hsp := rne_spec (a := scM m de e) (scN_ne de e)
    rw [expoL]
    by_cases g1 : 10 ^ n ≤ rE m de e
    · rw [if_pos g1]
      have g3 := w3 g1
      by_cases g2 : rE m de e = 10 ^ n
      · rw [if_pos g2]
        refine ⟨?_, by dsimp only; omega, by dsimp only; omega⟩
        unfold rE at g2
        rw [g2] at hsp
        obtain ⟨c1, c2, -⟩ := hsp
        obtain ⟨j, rfl⟩ : ∃ j, n = j + 1 := ⟨n - 1, by omega⟩
        have hst := sc_step m de e
        have hN := scN_ne de e
        have hN1 := scN_ne de (e + 1)
        rw [← mul_le_r hN1] at c1 c2
        have e1 : 2 * scM m de e * scN de (e + 1) = 20 * scM m de (e + 1) * scN de e := by rw [Nat.mul_assoc, hst, show (20 : Nat) = 2 * 10 from rfl]; simp only [Nat.mul_assoc]
        have e2 : (2 * 10 ^ (j + 1) + 1) * scN de e * scN de (e + 1) = (2 * 10 ^ (j + 1) + 1) * scN de (e + 1) * scN de e := Nat.mul_right_comm _ _ _
        have e3 : 2 * 10 ^ (j + 1) * scN de e * scN de (e + 1) = 2 * 10 ^ (j + 1) * scN de (e + 1) * scN de e := Nat.mul_right_comm _ _ _
        rw [e1, e2, mul_le_r hN] at c1
        rw [Nat.add_mul, e1, e3, Nat.mul_comm (scN de e) (scN de (e + 1)), ← Nat.add_mul, mul_le_r hN, Nat.pow_succ] at c2
        rw [Nat.pow_succ] at c1
        rw [Nat.add_mul, Nat.one_mul] at c1
        have hpos := Nat.pos_of_ne_zero hN1
        have f1 : 2 * (10 ^ j * 10) * scN de (e + 1) = 10 * (2 * 10 ^ j * scN de (e + 1)) := by
          rw [← Nat.mul_assoc 2, Nat.mul_comm _ 10, Nat.mul_assoc]
        rw [f1] at c1 c2
        dsimp only
        rw [Nat.add_sub_cancel]
        have f2 : (2 * 10 ^ j + 1) * scN de (e + 1) = 2 * 10 ^ j * scN de (e + 1) + scN de (e + 1) := by rw [Nat.add_mul, Nat.one_mul]
        refine ⟨by rw [Nat.add_sub_cancel]; exact Nat.le_refl _, Nat.pow_lt_pow_right (by decide) (Nat.lt_succ_self j), ?_, ?_, fun h => ?_, fun h => ?_⟩
        · rw [f2]; omega
        · omega
        · rw [f2] at h; omega
        · omega
      · rw [if_neg g2]
        have := w1 g1 g2
        exact expo_near hn hs h1 h2 k (e + 1) (by omega) (by omega)
    · rw [if_neg g1]
      by_cases g2 : rE m de e < 10 ^ (n - 1)
      · rw [if_pos g2]
        have := w2 g2
        exact expo_near hn hs h1 h2 k (e - 1) (by omega) (by omega)
      · rw [if_neg g2]
        obtain ⟨c1, c2, c3, c4, -⟩ := hsp
        exact ⟨⟨Nat.not_lt.1 g2, Nat.not_le.1 g1, c1, c2, c3, c4⟩, he.1, by dsimp only; omega⟩
/-- The digits of a number; nothing for 0. -/
def dl (x : Nat) : List UInt8 := if x = 0 then [] else Lib.decDigits x
theorem dl_len (n x : Nat) : (dl x).length ≤ n ↔ x < 10 ^ n := by
  unfold dl
  by_cases h0 : x = 0
  · rw [if_pos h0, h0]; exact ⟨fun _ => p10_pos n, fun _ => Nat.zero_le _⟩
  · rw [if_neg h0]
    constructor
    · intro h
      obtain ⟨h1, h2, -⟩ := dec_dn x
      have := dn_lt _ h2
      rw [h1] at this
      exact Nat.lt_of_lt_of_le this (Nat.pow_le_pow_right (by decide) h)
    · intro h
      cases n with
      | zero => rw [Nat.pow_zero] at h; omega
      | succ n => exact dec_len n x h
theorem dec_mul10 {x : Nat} (h : x ≠ 0) : Lib.decDigits (x * 10) = Lib.decDigits x ++ [48] := by
  rw [dec_ge (by omega), Nat.mul_div_cancel _ (by decide), Nat.mul_mod_left]
  rfl
/-- One and noughts. -/
theorem dec_p10 : ∀ n, Lib.decDigits (10 ^ n) = 49 :: List.replicate n 48
  | 0 => by rw [Nat.pow_zero, dec_lt (by decide)]; rfl
  | n + 1 => by
    rw [Nat.pow_succ, dec_mul10 (Nat.ne_of_gt (p10_pos n)), dec_p10 n, List.replicate_succ']
    rfl
theorem dec_inj {x y : Nat} : Lib.decDigits x = Lib.decDigits y ↔ x = y :=
  ⟨fun h => by have := congrArg dn h; rwa [(dec_dn x).1, (dec_dn y).1] at this, fun h => by rw [h]⟩
end

/- decimal.exponent, decimal.Print. -/
section
open Go PG Go.Proofs Go.RowKit
set_option maxRecDepth 100000
set_option linter.unusedSimpArgs false
set_option linter.unusedVariables false

theorem guess_rng {t : Int} (h : -1100 ≤ t ∧ t ≤ 1100) : -332 ≤ (t * 30103).tdiv 100000 ∧ (t * 30103).tdiv 100000 ≤ 332 := by
  by_cases h0 : 0 ≤ t
  · rw [Int.tdiv_eq_ediv_of_nonneg (by omega)]; omega
  · have : (t * 30103).tdiv 100000 = -((-(t * 30103)) / 100000) := by
      rw [← Int.tdiv_eq_ediv_of_nonneg (by omega), Int.neg_tdiv, Int.neg_neg]
    rw [this]; omega
theorem rE_bits {m : Nat} {de e : Int} (hb : m < 2 ^ 53) (hde : -1074 ≤ de ∧ de ≤ 1025) (he : -400 ≤ e ∧ e ≤ 400) : bitLen (rE m de e) ≤ 60000 := by
  have h1 := (rne_spec (a := scM m de e) (scN_ne de e)).2.2.2.2.2
  have h2 := Nat.div_le_self (scM m de e) (scN de e)
  have h3 : bitLen (scM m de e) ≤ 10000 := by
    unfold scM
    have a1 := bitLen_mul_le (m * 2 ^ de.toNat) (10 ^ (-e).toNat)
    have a2 := bitLen_shl_le m de.toNat
    have a3 := ten_bits (-e).toNat
    have a4 := (bitLen_le m 53).2 hb
    omega
  have h4 : rE m de e ≤ scM m de e + 1 := by unfold rE; omega
  obtain ⟨K, hK⟩ : ∃ K, K = 10000 := ⟨_, rfl⟩
  rw [← hK] at h3
  have h6 := (bitLen_le _ _).1 h3
  have h7 : 2 ^ (K + 1) = 2 * 2 ^ K := by rw [Nat.pow_succ, Nat.mul_comm]
  have hp := Nat.two_pow_pos K
  have h8 : rE m de e < 2 ^ (K + 1) := by
    rw [h7]
    generalize 2 ^ K = P at *
    omega
  have := (bitLen_le _ _).2 h8
  omega
theorem dl_p10 (n : Nat) : dl (10 ^ n) = 49 :: List.replicate n 48 := by unfold dl; rw [if_neg (Nat.ne_of_gt (p10_pos n)), dec_p10]
set_option maxHeartbeats 4000000 in
theorem d_exponentG {d : Dy} (hs : d.s = false) (hm : d.m ≠ 0) (hb : d.m < 2 ^ 53) (hde : -1074 ≤ d.e ∧ d.e ≤ 1025) (hok : d.ok) {n : Nat} (hn : 1 ≤ n ∧ n ≤ 60) :
    ∃ x M, Near d.m d.e n x M ∧ -399 ≤ x ∧ x ≤ 401 ∧ PC E 35 [d.pv, .int .i64 n] (.tuple [.int .i64 x, TX (Lib.decDigits M)]) := by
  obtain ⟨s, s1, s2, h1, h2⟩ := star hm hb hde hn.2
  have hbl : bitLen d.m ≤ 53 := (bitLen_le _ _).2 hb
  have rq : RD d.pv d := RD.fit hok (by omega) ⟨by omega, by omega⟩
  have k0 := r_Top rq
  have htop : -1100 ≤ d.top ∧ d.top ≤ 1100 := by
    have : d.top = d.e + (bitLen d.m : Int) - 1 := by unfold Dy.top; rw [if_neg hm]; omega
    have : 1 ≤ bitLen d.m := Nat.pos_of_ne_zero fun e => hm (by have := (bitLen_le d.m 0).1 (by omega); omega)
    omega
  have hg := guess_rng htop
  rw [decide_eq_true hm] at k0
  have wA : IntKind.wrap .i64 (d.top * 30103) = d.top * 30103 := wrap64 (by omega) (by omega)
  obtain ⟨gu, hgu⟩ : ∃ gu, gu = (d.top * 30103).tdiv 100000 := ⟨_, rfl⟩
  rw [← hgu] at hg
  have wB : IntKind.wrap .i64 ((d.top * 30103).tdiv 100000) = gu := by rw [← hgu]; exact wrap64 (by omega) (by omega)
  clear hgu
  have wC : IntKind.wrap .i64 (gu - n) = gu - n := wrap64 (by omega) (by omega)
  generalize d.top = tp at *
  obtain ⟨ds, m, de⟩ := d
  dsimp only at hs hm hb hde hbl h1 h2 k0 ⊢
  subst hs
  obtain ⟨hN, hx1, hx2⟩ := expo_near (m := m) (de := de) hn.1 ⟨s1, s2⟩ h1 h2 ((gu - n - s).natAbs + 1) (gu - n) ⟨by omega, by omega⟩ (by omega)
  refine ⟨_, _, hN, hx1, hx2, ?_⟩
  clear hN hx1 hx2 rq hok
  obtain ⟨RES, hRES⟩ : ∃ RES, RES = expoL m de n ((gu - n - s).natAbs + 1) (gu - n) := ⟨_, rfl⟩
  rw [← hRES]
  have k5 := s_Repeat 48 n (by omega)
  simp only [DP, Dy.pv, NN, NL] at k0 ⊢
  refine PC.of_body follows Tryz.func35 (by decide +kernel) rfl (by kernel_rfl) (Nat.le_of_ble_eq_true rfl) (walk ?_)
  simp only [Tryz.f35, go_sem]
  refine qcall_i (k0) ?_; simp only [Tryz.f35, wA, wB, wC, go_sem]
  try simp only [wA, wB, wC]
  simp only [TX] at k5 ⊢
  refine PLoop.intro (fun e : Int => ⟨[(1, .val (.int .i64 n)), (2, .ptr 2 0), (8, .val (.int .i64 e))], [(2, (.box [.bool false, .lst (dg W m).length (U (dg W m)), .int .i64 de], false))]⟩) (fun e => (-399 ≤ e ∧ e ≤ 400) ∧ expoL m de n ((e - s).natAbs + 1) e = RES) (fun e => (e - s).natAbs) (gu - n) ⟨⟨by omega, by omega⟩, hRES.symm⟩ ?_ fun e he => walk ?_
  · simp [Wk, sget, killL, kill1, SV.key]
  obtain ⟨he, hR⟩ := he
  have k1 := d_scaled (s := false) (m := m) (de := de) (e := e) hm (by omega) (by omega) (by omega)
  have k3 := d_decimal (x := rE m de e) (rE_bits hb hde (by omega))
  rw [show (if rE m de e = 0 then [] else Lib.decDigits (rE m de e)) = dl (rE m de e) from rfl] at k3
  rw [show rne (scM m de e) (scN de e) = rE m de e from rfl] at k1
  obtain ⟨w1, w2, w3⟩ := expo_way hn.1 h1 h2 e
  have hl1 := dl_len n (rE m de e)
  have hl2 := dl_len (n - 1) (rE m de e)
  rw [expoL] at hR
  have hne : dl (rE m de e) = 49 :: List.replicate n 48 ↔ rE m de e = 10 ^ n := by
    rw [← dl_p10]
    unfold dl
    by_cases h0 : rE m de e = 0
    · rw [if_pos h0, if_neg (Nat.ne_of_gt (p10_pos n)), h0]
      exact ⟨fun h => absurd h.symm (dec_dn _).2.2.1, fun h => absurd h (Nat.ne_of_lt (p10_pos n))⟩
    · rw [if_neg h0, if_neg (Nat.ne_of_gt (p10_pos n)), dec_inj]
  have hdl0 : rE m de e ≠ 0 → dl (rE m de e) = Lib.decDigits (rE m de e) := fun h => if_neg h
  have we1 : IntKind.wrap .i64 (e + 1) = e + 1 := wrap64 (by omega) (by omega)
  have we2 : IntKind.wrap .i64 (e - 1) = e - 1 := wrap64 (by omega) (by omega)
  have hpn := p10_pos (n - 1)
  have hpn2 : 10 ^ (n - 1) < 10 ^ n := Nat.pow_lt_pow_right (by decide) (by omega)
  have hdp := dec_p10 (n - 1)
  generalize rE m de e = R at *
  simp only [TX, NN, NL] at k1 k3
  by_cases g1 : 10 ^ n ≤ R
  · rw [if_pos g1] at hR
    have hlen : n < (dl R).length := by omega
    by_cases g2 : R = 10 ^ n
    · rw [if_pos g2] at hR
      have hne := hne.2 g2
      rw [hne] at k3
      simp only [Tryz.f35, B8_size, B8_cut, B8_eq, B8_mk, B8_app, Int.toNat_natCast, go_sem]
      refine qcall_i (k1) ?_; simp only [Tryz.f35, B8_size, B8_cut, B8_eq, B8_mk, B8_app, Int.toNat_natCast, go_sem]
      refine qcall_i (k3) ?_; simp only [Tryz.f35, B8_size, B8_cut, B8_eq, B8_mk, B8_app, Int.toNat_natCast, go_sem]
      repeat' first
        | ((with_reducible refine qif_dt (by simp; omega) ?_); simp only [Tryz.f35, B8_size, B8_cut, B8_eq, B8_mk, B8_app, Int.toNat_natCast, we1, go_sem])
        | ((with_reducible refine qcall_i k5 ?_); simp only [Tryz.f35, B8_size, B8_cut, B8_eq, B8_mk, B8_app, Int.toNat_natCast, go_sem])
        | ((refine qand_i (by (try simp only [List.length_cons, List.length_replicate, maxLen]); omega) ?_); simp only [Tryz.f35, B8_size, B8_cut, B8_eq, B8_mk, B8_app, Int.toNat_natCast, go_sem])
      rw [← hR]
      refine ⟨rfl, ?_⟩
      dsimp only
      rw [hdp, TX]
      obtain ⟨k, rfl⟩ : ∃ k, n = k + 1 := ⟨n - 1, by omega⟩
      rw [List.take_succ_cons, List.take_replicate, Nat.add_sub_cancel, Nat.min_eq_left (Nat.le_succ k)]
    · rw [if_neg g2] at hR
      have hne : ¬ dl R = 49 :: List.replicate n 48 := fun h => g2 (hne.1 h)
      have hlt := w1 g1 g2
      simp only [Tryz.f35, B8_size, B8_cut, B8_eq, B8_mk, B8_app, Int.toNat_natCast, go_sem]
      refine qcall_i (k1) ?_; simp only [Tryz.f35, B8_size, B8_cut, B8_eq, B8_mk, B8_app, Int.toNat_natCast, go_sem]
      refine qcall_i (k3) ?_; simp only [Tryz.f35, B8_size, B8_cut, B8_eq, B8_mk, B8_app, Int.toNat_natCast, go_sem]
      repeat' first
        | ((with_reducible refine qif_dt (by omega) ?_); simp only [Tryz.f35, B8_size, B8_cut, B8_eq, B8_mk, B8_app, Int.toNat_natCast, we1, go_sem])
        | ((with_reducible refine qif_df (by omega) ?_); simp only [Tryz.f35, B8_size, B8_cut, B8_eq, B8_mk, B8_app, Int.toNat_natCast, we1, go_sem])
        | ((with_reducible refine qcall_i k5 ?_); simp only [Tryz.f35, B8_size, B8_cut, B8_eq, B8_mk, B8_app, Int.toNat_natCast, go_sem])
        | ((refine qand_i (by (try simp only [List.length_cons, List.length_replicate, maxLen]); omega) ?_); simp only [Tryz.f35, B8_size, B8_cut, B8_eq, B8_mk, B8_app, Int.toNat_natCast, go_sem])
      refine ⟨e + 1, ⟨⟨by omega, by omega⟩, ?_⟩, by omega, ?_⟩
      · rw [← hR]; congr 1; omega
      · simp [Wk, sget, killL, kill1, SV.key]
  · rw [if_neg g1] at hR
    by_cases g2 : R < 10 ^ (n - 1)
    · rw [if_pos g2] at hR
      have hlt := w2 g2
      have hlen : (dl R).length < n := by omega
      simp only [Tryz.f35, B8_size, B8_cut, B8_eq, B8_mk, B8_app, Int.toNat_natCast, go_sem]
      refine qcall_i (k1) ?_; simp only [Tryz.f35, B8_size, B8_cut, B8_eq, B8_mk, B8_app, Int.toNat_natCast, go_sem]
      refine qcall_i (k3) ?_; simp only [Tryz.f35, B8_size, B8_cut, B8_eq, B8_mk, B8_app, Int.toNat_natCast, go_sem]
      repeat' first
        | ((with_reducible refine qif_dt (by omega) ?_); simp only [Tryz.f35, B8_size, B8_cut, B8_eq, B8_mk, B8_app, Int.toNat_natCast, we2, go_sem])
        | ((with_reducible refine qif_df (by omega) ?_); simp only [Tryz.f35, B8_size, B8_cut, B8_eq, B8_mk, B8_app, Int.toNat_natCast, we2, go_sem])
      refine ⟨e - 1, ⟨⟨by omega, by omega⟩, ?_⟩, by omega, ?_⟩
      · rw [← hR]; congr 1; omega
      · simp [Wk, sget, killL, kill1, SV.key]
    · rw [if_neg g2] at hR
      have hlen : (dl R).length = n := by omega
      rw [hdl0 (by omega)] at k3 hlen
      simp only [Tryz.f35, B8_size, B8_cut, B8_eq, B8_mk, B8_app, Int.toNat_natCast, go_sem]
      refine qcall_i (k1) ?_; simp only [Tryz.f35, B8_size, B8_cut, B8_eq, B8_mk, B8_app, Int.toNat_natCast, go_sem]
      refine qcall_i (k3) ?_; simp only [Tryz.f35, B8_size, B8_cut, B8_eq, B8_mk, B8_app, Int.toNat_natCast, go_sem]
      repeat' first
        | ((with_reducible refine qif_dt (by omega) ?_); simp only [Tryz.f35, B8_size, B8_cut, B8_eq, B8_mk, B8_app, Int.toNat_natCast, we2, go_sem])
        | ((with_reducible refine qif_df (by omega) ?_); simp only [Tryz.f35, B8_size, B8_cut, B8_eq, B8_mk, B8_app, Int.toNat_natCast, we2, go_sem])
      rw [← hR]
      exact ⟨rfl, rfl⟩
end

/- decimal.Print in general. -/
section
open Go PG Go.Proofs Go.RowKit
set_option maxRecDepth 100000
set_option linter.unusedSimpArgs false
set_option linter.unusedVariables false

/-- The text of so many digits and an exponent of ten. -/
def prD (sg : Bool) (n : Nat) (x : Int) (M : Nat) : List UInt8 :=
  sgT sg ++ (Lib.decDigits M).take 1 ++ (if 1 < n then 46 :: (Lib.decDigits M).drop 1 else []) ++ 101 :: Lib.itoa (x + n - 1)
theorem itoa_sg (X : Int) : Lib.itoa X = sgT (decide (X < 0)) ++ Lib.decDigits X.natAbs := by
  unfold Lib.itoa sgT
  by_cases h : X < 0
  · rw [if_pos h, decide_eq_true h]; rfl
  · rw [if_neg h, decide_eq_false h, show X.natAbs = X.toNat by omega]; rfl
theorem prD_T (sg : Bool) (n : Nat) (x : Int) (M : Nat) : prD sg n x M = decT sg ((Lib.decDigits M).take 1) (decide (1 < n)) (if 1 < n then (Lib.decDigits M).drop 1 else []) true (decide (x + n - 1 < 0)) (Lib.decDigits (x + n - 1).natAbs) := by
  unfold prD decT
  rw [itoa_sg]
  by_cases h : 1 < n
  · simp only [if_pos h, decide_eq_true h, if_true, List.append_assoc]
  · simp only [if_neg h, decide_eq_false h, Bool.false_eq_true, if_false, if_true, List.append_assoc, List.append_nil, List.nil_append]
theorem dec_len_eq {n M : Nat} (hn : 1 ≤ n) (lo : 10 ^ (n - 1) ≤ M) (hi : M < 10 ^ n) : (Lib.decDigits M).length = n := by
  have h0 : M ≠ 0 := by have := p10_pos (n - 1); omega
  have e : dl M = Lib.decDigits M := if_neg h0
  have h1 := (dl_len n M).2 hi
  have h2 : ¬ (dl M).length ≤ n - 1 := fun h => by have := (dl_len (n - 1) M).1 h; omega
  rw [e] at h1 h2
  omega
theorem prD_ok {n : Nat} {x : Int} {M : Nat} (hn : 1 ≤ n) (hx : -1000 ≤ x + n - 1 ∧ x + n - 1 ≤ 1000) (hlen : (Lib.decDigits M).length = n) :
    DecOk ((Lib.decDigits M).take 1) (decide (1 < n)) (if 1 < n then (Lib.decDigits M).drop 1 else []) true (Lib.decDigits (x + n - 1).natAbs) := by
  obtain ⟨g1, g2, g3, -⟩ := dec_dn M
  obtain ⟨f1, f2, f3, -⟩ := dec_dn (x + n - 1).natAbs
  have hall : ((Lib.decDigits M).take 1).all dgt = true ∧ ((Lib.decDigits M).drop 1).all dgt = true := by
    rw [← List.take_append_drop 1 (Lib.decDigits M), List.all_append, Bool.and_eq_true] at g2
    exact g2
  refine ⟨hall.1, fun e => ?_, ?_, fun h => ?_, fun h => ?_, fun _ => ⟨f2, f3, ?_, by rw [f1]; omega⟩⟩
  · have := congrArg List.length e
    rw [List.length_take, List.length_nil] at this
    omega
  · split
    · exact hall.2
    · rfl
  · have h : 1 < n := of_decide_eq_true h
    rw [if_pos h]
    intro e
    have := congrArg List.length e
    rw [List.length_drop, List.length_nil] at this
    omega
  · rw [if_neg (of_decide_eq_false h)]
  · exact dec_len 3 _ (by omega)
theorem prD_len {sg : Bool} {n : Nat} {x : Int} {M : Nat} (hn : 1 ≤ n) (hx : -1000 ≤ x + n - 1 ∧ x + n - 1 ≤ 1000) (hlen : (Lib.decDigits M).length = n) : (prD sg n x M).length ≤ n + 10 := by
  have h1 := itoa_len (n := x + n - 1) (by omega) (by omega)
  unfold prD
  simp only [List.length_append, List.length_cons, List.length_take, hlen]
  have : (sgT sg).length ≤ 1 := by unfold sgT; split <;> simp
  have : (if 1 < n then (46 : UInt8) :: (Lib.decDigits M).drop 1 else []).length ≤ n := by
    split
    · rw [List.length_cons, List.length_drop]; omega
    · simp
  omega
/-- What is printed is read as the same digits. -/
theorem prD_read {sg : Bool} {n : Nat} {x : Int} {M : Nat} (hn : 1 ≤ n) (hn2 : n ≤ 700) (hx : -1000 ≤ x + n - 1 ∧ x + n - 1 ≤ 1000) (hlen : (Lib.decDigits M).length = n) (dir : Int) :
    decP (prD sg n x M) dir = (decR sg M x dir, 0) := by
  have hok := prD_ok hn hx hlen
  have hl := prD_len (sg := sg) hn hx hlen
  rw [prD_T] at hl ⊢
  rw [decP_T hok (by omega)]
  obtain ⟨f1, f2, f3, -⟩ := dec_dn (x + n - 1).natAbs
  have e1 : (Lib.decDigits M).take 1 ++ (if 1 < n then (Lib.decDigits M).drop 1 else []) = Lib.decDigits M := by
    by_cases h : 1 < n
    · rw [if_pos h, List.take_append_drop]
    · rw [if_neg h, List.append_nil, List.take_of_length_le (by omega)]
  have e2 : (if 1 < n then (Lib.decDigits M).drop 1 else []).length = n - 1 := by
    split
    · rw [List.length_drop]; omega
    · simp; omega
  rw [e1, e2, (dec_dn M).1, f1, if_pos rfl]
  congr 2
  by_cases h : x + n - 1 < 0
  · rw [decide_eq_true h, if_pos rfl]; omega
  · rw [decide_eq_false h, if_neg (by decide)]; omega
/-- The words and noughts. -/
def prW (b : Nat) : List UInt8 := if 3 < kind b then wNaN else sgT (fs b) ++ (if kind b = 3 then wInf else [48])
set_option maxHeartbeats 2000000 in
theorem d_PrintW {b : Nat} (hb : b < W) (hk : kind b = 0 ∨ 3 ≤ kind b) {n : Int} (hn : 1 ≤ n ∧ n ≤ 800) : PC E 10 [u b, .int .i64 n] (.tuple [TX (prW b), .int .i64 0]) := by
  have k1 := c_Neg b hb
  have k2 := c_Kind b hb
  have hk5 : kind b ≤ 5 := by unfold kind; split <;> (try split) <;> (try split) <;> (try split) <;> (try split) <;> omega
  unfold prW sgT
  generalize fs b = sg at *
  generalize kind b = kd at *
  have hmx : maxLen = 9223372036854775807 := rfl
  have hkd : kd = 0 ∨ kd = 3 ∨ kd = 4 ∨ kd = 5 := by omega
  simp only [TX, u, wNaN, wInf] at k1 k2 ⊢
  rcases hkd with rfl | rfl | rfl | rfl <;> cases sg
  all_goals
    simp only [Int.cast_ofNat_Int] at k2
    refine PC.of_body follows Tryz.func10 (by decide +kernel) rfl (by kernel_rfl) (Nat.le_of_ble_eq_true rfl) (walk ?_)
    simp only [Tryz.f10, B8_size, B8_cut, B8_eq, B8_mk, B8_app, Int.toNat_natCast, go_sem]
    repeat' first
      | ((with_reducible refine qcall_i k1 ?_); simp only [Tryz.f10, B8_size, B8_cut, B8_eq, B8_mk, B8_app, Int.toNat_natCast, go_sem])
      | ((with_reducible refine qcall_i k2 ?_); simp only [Tryz.f10, B8_size, B8_cut, B8_eq, B8_mk, B8_app, Int.toNat_natCast, go_sem])
      | ((with_reducible refine qif_dt (by omega) ?_); simp only [Tryz.f10, B8_size, B8_cut, B8_eq, B8_mk, B8_app, Int.toNat_natCast, go_sem])
      | ((with_reducible refine qif_df (by omega) ?_); simp only [Tryz.f10, B8_size, B8_cut, B8_eq, B8_mk, B8_app, Int.toNat_natCast, go_sem])
      | ((refine qand_i (by (try simp only [List.length_cons, List.length_nil, maxLen]); omega) ?_); simp only [Tryz.f10, B8_size, B8_cut, B8_eq, B8_mk, B8_app, Int.toNat_natCast, go_sem])
      | rfl
theorem d_PrintX {b : Nat} (hb : b < W) {n : Int} (hn : ¬ (1 ≤ n ∧ n ≤ 800)) : PC E 10 [u b, .int .i64 n] (.tuple [TX [], .int .i64 1]) := by
  simp only [TX, u]
  refine PC.of_body follows Tryz.func10 (by decide +kernel) rfl (by kernel_rfl) (Nat.le_of_ble_eq_true rfl) (walk ?_)
  simp only [Tryz.f10, B8_size, B8_cut, B8_eq, B8_mk, B8_app, Int.toNat_natCast, go_sem]
  repeat' first
    | ((with_reducible refine qif_d (fun h => ?_) (fun h => ?_)) <;> first | (exfalso; omega) | simp only [Tryz.f10, B8_size, B8_cut, B8_eq, B8_mk, B8_app, Int.toNat_natCast, go_sem])
    | rfl
theorem kind_fz {b : Nat} (hk : kind b = 1 ∨ kind b = 2) : fe b < 2047 ∧ fsz b ≠ 0 ∧ fsz b < INF := by
  have h1 : fe b < 2047 := by
    unfold kind at hk
    by_cases h : fe b < 2047
    · exact h
    · exfalso
      have := fe_lt b
      revert hk
      (repeat' split) <;> omega
  refine ⟨h1, fun h => ?_, fsz_INF.1 h1⟩
  have e1 : fe b = 0 ∧ ff b = 0 := by
    unfold fsz at h
    unfold fe ff
    omega
  unfold kind at hk
  rw [if_pos e1] at hk
  omega
theorem fd_facts {a : Nat} (ha : a ≠ 0) (hi : a < INF) : (fd a).s = false ∧ (fd a).m ≠ 0 ∧ (fd a).m < 2 ^ 53 ∧ -1074 ≤ (fd a).e ∧ (fd a).e ≤ 1025 ∧ (fd a).ok := by
  have hI := INF_lt
  have hI2 : INF = 9218868437227405312 := rfl
  have hz : fsz a = a := Nat.mod_eq_of_lt (by omega)
  have hf : fe a < 2047 := fsz_INF.2 (by rw [hz]; exact hi)
  refine ⟨?_, fun h => ha ?_, (bitLen_le _ 53).1 (fd_bits a), (fd_e a).1, (fd_e a).2, mkD_ok _ _ _⟩
  · unfold fd mkD
    have := fs_small (b := a) (by omega)
    split
    · rfl
    · exact this
  · have := (fd_m0 hf).1 h
    rwa [hz] at this
set_option maxHeartbeats 2000000 in
theorem d_PrintG {b : Nat} (hb : b < W) (hk : kind b = 1 ∨ kind b = 2) {n : Nat} (hn : 1 ≤ n ∧ n ≤ 60) :
    ∃ x M, Near (fd (fsz b)).m (fd (fsz b)).e n x M ∧ -399 ≤ x ∧ x ≤ 401 ∧ PC E 10 [u b, .int .i64 n] (.tuple [TX (prD (fs b) n x M), .int .i64 0]) := by
  have k1 := c_Neg b hb
  have k2 := c_Kind b hb
  have hzl := fsz_lt b
  obtain ⟨z1, z2, z3⟩ := kind_fz hk
  obtain ⟨d1, d2, d3, d4, d5, d6⟩ := fd_facts z2 z3
  have hzz : fsz (fsz b) = fsz b := Nat.mod_eq_of_lt hzl
  have k3 := c_FDyad (fsz b) (Nat.lt_trans hzl (by decide))
  rw [if_pos (fsz_INF.2 (by rw [hzz]; exact z3))] at k3
  obtain ⟨x, M, hN, hx1, hx2, k4⟩ := d_exponentG d1 d2 d3 ⟨d4, d5⟩ d6 hn
  refine ⟨x, M, hN, hx1, hx2, ?_⟩
  have hlen := dec_len_eq hn.1 hN.lo hN.hi
  have k5 := s_Itoa (x + n - 1) (by omega) (by omega)
  have hil := itoa_len (n := x + n - 1) (by omega) (by omega)
  have w1 := n63 hb
  have w2 : IntKind.wrap .i64 (x + n) = x + n := wrap64 (by omega) (by omega)
  have w3 : IntKind.wrap .i64 (x + n - 1) = x + n - 1 := wrap64 (by omega) (by omega)
  have hmx : maxLen = 9223372036854775807 := rfl
  unfold prD sgT
  clear hN d1 d2 d3 d4 d5 d6
  generalize Lib.itoa (x + n - 1) = ia at *
  generalize Lib.decDigits M = L at *
  generalize fd (fsz b) = dp at *
  obtain ⟨ds, dm, de⟩ := dp
  generalize fsz b = z at *
  generalize fs b = sg at *
  have hk12 : kind b ≤ 5 := by omega
  generalize kind b = kd at *
  simp only [TX, u, Dy.pv, DP, NN, NL] at k1 k2 k3 k4 k5 ⊢
  by_cases hn1 : 1 < n
  · simp only [if_pos hn1]
    rcases hk with rfl | rfl <;> cases sg
    all_goals
      simp only [Int.cast_ofNat_Int] at k2
      refine PC.of_body follows Tryz.func10 (by decide +kernel) rfl (by kernel_rfl) (Nat.le_of_ble_eq_true rfl) (walk ?_)
      simp only [Tryz.f10, B8_size, B8_cut, B8_eq, B8_mk, B8_app, Int.toNat_natCast, w1, w2, w3, go_sem]
      repeat' first
        | ((with_reducible refine qcall_i k1 ?_); simp only [Tryz.f10, B8_size, B8_cut, B8_eq, B8_mk, B8_app, Int.toNat_natCast, w1, w2, w3, go_sem])
        | ((with_reducible refine qcall_i k2 ?_); simp only [Tryz.f10, B8_size, B8_cut, B8_eq, B8_mk, B8_app, Int.toNat_natCast, w1, w2, w3, go_sem])
        | ((with_reducible refine qcall_i k3 ?_); simp only [Tryz.f10, B8_size, B8_cut, B8_eq, B8_mk, B8_app, Int.toNat_natCast, w1, w2, w3, go_sem])
        | ((with_reducible refine qcall_i k4 ?_); simp only [Tryz.f10, B8_size, B8_cut, B8_eq, B8_mk, B8_app, Int.toNat_natCast, w1, w2, w3, go_sem])
        | ((with_reducible refine qcall_i k5 ?_); simp only [Tryz.f10, B8_size, B8_cut, B8_eq, B8_mk, B8_app, Int.toNat_natCast, w1, w2, w3, go_sem])
        | ((with_reducible refine qif_dt (by omega) ?_); simp only [Tryz.f10, B8_size, B8_cut, B8_eq, B8_mk, B8_app, Int.toNat_natCast, w1, w2, w3, go_sem])
        | ((with_reducible refine qif_df (by omega) ?_); simp only [Tryz.f10, B8_size, B8_cut, B8_eq, B8_mk, B8_app, Int.toNat_natCast, w1, w2, w3, go_sem])
        | ((refine qand_i (by (try rw [hmx]); (try simp only [List.length_append, List.length_cons, List.length_nil, List.length_take, List.length_drop]); omega) ?_); simp only [Tryz.f10, B8_size, B8_cut, B8_eq, B8_mk, B8_app, Int.toNat_natCast, w1, w2, w3, List.take_length, List.drop_zero, go_sem])
        | rfl
      try simp
  · simp only [if_neg hn1]
    rcases hk with rfl | rfl <;> cases sg
    all_goals
      simp only [Int.cast_ofNat_Int] at k2
      refine PC.of_body follows Tryz.func10 (by decide +kernel) rfl (by kernel_rfl) (Nat.le_of_ble_eq_true rfl) (walk ?_)
      simp only [Tryz.f10, B8_size, B8_cut, B8_eq, B8_mk, B8_app, Int.toNat_natCast, w1, w2, w3, go_sem]
      repeat' first
        | ((with_reducible refine qcall_i k1 ?_); simp only [Tryz.f10, B8_size, B8_cut, B8_eq, B8_mk, B8_app, Int.toNat_natCast, w1, w2, w3, go_sem])
        | ((with_reducible refine qcall_i k2 ?_); simp only [Tryz.f10, B8_size, B8_cut, B8_eq, B8_mk, B8_app, Int.toNat_natCast, w1, w2, w3, go_sem])
        | ((with_reducible refine qcall_i k3 ?_); simp only [Tryz.f10, B8_size, B8_cut, B8_eq, B8_mk, B8_app, Int.toNat_natCast, w1, w2, w3, go_sem])
        | ((with_reducible refine qcall_i k4 ?_); simp only [Tryz.f10, B8_size, B8_cut, B8_eq, B8_mk, B8_app, Int.toNat_natCast, w1, w2, w3, go_sem])
        | ((with_reducible refine qcall_i k5 ?_); simp only [Tryz.f10, B8_size, B8_cut, B8_eq, B8_mk, B8_app, Int.toNat_natCast, w1, w2, w3, go_sem])
        | ((with_reducible refine qif_dt (by omega) ?_); simp only [Tryz.f10, B8_size, B8_cut, B8_eq, B8_mk, B8_app, Int.toNat_natCast, w1, w2, w3, go_sem])
        | ((with_reducible refine qif_df (by omega) ?_); simp only [Tryz.f10, B8_size, B8_cut, B8_eq, B8_mk, B8_app, Int.toNat_natCast, w1, w2, w3, go_sem])
        | ((refine qand_i (by (try rw [hmx]); (try simp only [List.length_append, List.length_cons, List.length_nil, List.length_take, List.length_drop]); omega) ?_); simp only [Tryz.f10, B8_size, B8_cut, B8_eq, B8_mk, B8_app, Int.toNat_natCast, w1, w2, w3, List.take_length, List.drop_zero, go_sem])
        | rfl
      try simp
end
end Go.Proofs.YtmnojbkakgfinaaGreatDoor
