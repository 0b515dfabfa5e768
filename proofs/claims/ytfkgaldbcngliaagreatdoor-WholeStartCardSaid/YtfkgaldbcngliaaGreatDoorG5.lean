import Derived.Test.YtfkgaldbcngliaaGreatDoorG4
open Go PG Go.Proofs
namespace Go.Proofs.YtfkgaldbcngliaaGreatDoor
attribute [local go_sem] Lay2 Lay3 Lay4 Lay5 Lay6 Lay7 Lay8 Lay9 Lay10 Lay11 Lay12 Lay13 Lay14 Lay15 Lay16 Lay17 Lay18 Lay19 Lay20 Lay21 Lay22 Lay26 Lay27 Lay28 Lay29 Lay31 Lay32 Lay33 Lay34 Lay35 Lay41 Lay42 Lay43 Lay47 Lay48 Lay60 Lay61 Lay62 Lay63 Lay64 Lay72 Lay73 Lay74 Lay83 Lay84 Lay86 Lay90 Lay91 Lay92 Lay93 Lay102 Lay103 Lay139 Lay143 Lay149 Lay158 Lay159 Lay160 Lay161 Lay162 Lay174 Lay175 Lay193 Lay207 Lay208 Lay209 Lay210 Lay228 Lay229 Lay237 Lay238 Lay265 Lay287 Lay295 Lay296 Lay297 Lay299 Lay301 Lay302 Lay303 Lay304 Lay305 Lay307 Lay308 Lay310 Lay311 Lay312 Lay315 Lay316 Lay317 qexec_seq qexec_skip qexec_exit qexec_ret qexec_block qexec_loop qexec_range qexec_cond qexec_region qexec_drawn qops_nil qops_none qops_some put_some put_none pblk_exit pblk_other newDsts_nil inlDsts_nil isInl sget_cons sget_nil qval_some qbool_some qgs_bool qgs_und qfree_some qgrd_true qgrd_false qif_true qif_false qval_ite qval_itn qand_true map_ite map_some' map_none' qdo_move qdo_assign qdo_binOp qdo_pick qdo_unOp qdo_convert qdo_extract qdo_makeInterface qdo_field qdo_fieldAddr qdo_alloc qdo_box qdo_build qdo_buildSlice qdo_load qdo_store qdo_nilCheck qdo_makeFunc qdo_makeSlice qdo_slice qdo_indexAddr qdo_call qcont_val qcont_new qcont_st qcont_app0 qcont_app qcont_inl qcont_call njSV_val njSV_nil njSV_row njSV_ptr njSV_sub binV_val binV_nil binV_nn binV_ptr bin_np bin_nnp nilCmp bin_add bin_sub bin_mul bin_quo bin_rem bin_and bin_or bin_xor bin_andNot bin_eql bin_neq bin_lss bin_leq bin_gtr bin_geq bin_shl bin_shr bin_seql bin_sneq bin_sadd bin_beql bin_aeql bin_aneq eqAnd_some eqCells_nil eqCells_cons fieldTypes isStruct eqCell bin_bneq un_not un_neg nj_ite Nat.beq stepA stepR isNew opSV constSV RV.sv allSome E_mu E_own qkeyIn_none qkeyIn_some qkeyAt_none qkeyAt_some Bool.or_false Bool.false_or Bool.or_true Bool.true_or cst setB res resSV pstart startL killL kill1 eraL frzL svPV rvPV rvInt rvSlice rvBytes frzOf close closeL pconv pbuiltin pmax2 partPV setCells fillPV zrow bound newSV PV.cells Bk.cells Bk.with SV.key pres presL_nil presL_tmp presL_cell presC2_some cellPV_ptr presC List.toList_toArray List.size_toArray List.getElem?_drop Nat.mul_one Int.toNat_natCast Nat.not_lt_zero Nat.lt_irrefl decide_true decide_false Nat.not_lt Option.some.injEq PV.lst.injEq PV.int.injEq PV.bool.injEq PV.tuple.injEq List.cons.injEq Option.map_some Option.map_none Option.bind_some Option.toList List.map_cons List.map_nil List.nil_append List.cons_append List.append_nil List.zip_cons_cons List.zip_nil_left List.zip_nil_right List.getElem?_cons_zero List.getElem?_cons_succ List.drop_zero List.drop_succ_cons List.take_succ_cons List.take_zero List.set_cons_zero List.set_cons_succ List.length_cons List.length_nil List.length_set List.replicate_one List.replicate_zero bne_self_eq_false beq_self_eq_true Nat.zero_add Nat.add_zero Nat.zero_mul Bool.false_eq_true Bool.true_eq_false Bool.not_true Bool.not_false and_true true_and false_and and_false or_false false_or or_true true_or not_true_eq_false not_false_eq_true ne_eq gt_iff_lt List.mem_cons List.not_mem_nil
attribute [local go_sem ↓] pseq_normal pseq_ret pseq_exit pblk_normal pblk_ret newDsts_cons inlDsts_cons gdst_zero gdst_succ retQ_normal retQ_ret qneed_nil qneed_cons retM_normal retM_ret endR_normal endR_ret endR_exit
attribute [local go_sem] Int.reduceToNat Int.reduceEq Int.reduceNe Int.reduceLT Int.reduceLE Int.reduceNeg Int.reduceAdd Nat.reduceEqDiff Nat.reduceAdd Nat.reduceSub Nat.reduceMul Nat.reduceLeDiff Nat.reduceLT
attribute [local go_sem ↓] reduceIte reduceCtorEq
section
open Go PG Go.Proofs
set_option maxRecDepth 100000
set_option linter.unusedSimpArgs false
set_option linter.unusedVariables false
abbrev B : Nat := 65536
theorem B2 : 2 ≤ B := by decide
def e32 (d : Nat) : PV := .int .u32 d
def V (l : List Nat) : List PV := l.map e32
def VL (l : List Nat) : PV := .lst l.length (V l)
def VN (x : Nat) : PV := VL (dg B x)
abbrev vd (l : List Nat) : Nat := dv B l
theorem V_length (l : List Nat) : (V l).length = l.length := by simp [V]
theorem W_B : W = B ^ 4 := by decide
theorem n_tmod (a b : Nat) : Int.tmod (a : Int) (b : Int) = ((a % b : Nat) : Int) := by
  rw [Int.tmod_eq_emod_of_nonneg (Int.natCast_nonneg a)]; rfl
theorem n_tdiv (a b : Nat) : Int.tdiv (a : Int) (b : Int) = ((a / b : Nat) : Int) := by
  rw [Int.tdiv_eq_ediv_of_nonneg (Int.natCast_nonneg a)]; rfl
end
section
open Go PG Go.Proofs
set_option maxRecDepth 100000
set_option linter.unusedSimpArgs false
set_option linter.unusedVariables false
end
section
open Go PG Go.Proofs
set_option maxRecDepth 100000
set_option linter.unusedSimpArgs false
set_option linter.unusedVariables false
theorem B_pow (n : Nat) : B ^ n = 2 ^ (16 * n) := by rw [Nat.pow_mul]
end
section
open Go PG Go.Proofs
set_option maxRecDepth 100000
set_option linter.unusedSimpArgs false
set_option linter.unusedVariables false
theorem dg_len_W (x : Nat) : (dg W x).length = ((dg B x).length + 3) / 4 := by
  have h : ∀ k, (dg W x).length ≤ k ↔ (dg B x).length ≤ 4 * k := fun k => by
    rw [dg_length_le W2, dg_length_le B2, Nat.pow_mul, ← W_B]
  have h1 := h ((dg W x).length)
  have h2 := h (((dg B x).length + 3) / 4)
  omega
theorem dgB_le_of_bits {x n : Nat} (h : bitLen x ≤ 16 * n) : (dg B x).length ≤ n := by
  rw [dg_length_le B2, B_pow]
  exact (bitLen_le _ _).1 h
theorem bitLen_shl (x n : Nat) (hx : x ≠ 0) : bitLen (x * 2 ^ n) = bitLen x + n := by
  have h : ∀ k, bitLen (x * 2 ^ n) ≤ k ↔ bitLen x + n ≤ k := fun k => by
    rw [bitLen_le]
    constructor
    · intro h
      have hn : n ≤ k := by
        refine Nat.le_of_not_lt fun hlt => ?_
        have h1 : 2 ^ k ≤ 2 ^ n := Nat.pow_le_pow_right (by decide) (by omega)
        have h2 : 2 ^ n ≤ x * 2 ^ n := Nat.le_mul_of_pos_left _ (by omega)
        omega
      have : x < 2 ^ (k - n) := by
        rw [show 2 ^ k = 2 ^ (k - n) * 2 ^ n by rw [← Nat.pow_add]; congr 1; omega] at h
        exact Nat.lt_of_mul_lt_mul_right h
      have := (bitLen_le x (k - n)).2 this
      omega
    · intro h
      have : x < 2 ^ (k - n) := (bitLen_le x (k - n)).1 (by omega)
      rw [show 2 ^ k = 2 ^ (k - n) * 2 ^ n by rw [← Nat.pow_add]; congr 1; omega]
      exact Nat.mul_lt_mul_of_pos_right this (Nat.two_pow_pos n)
  have h1 := h (bitLen (x * 2 ^ n))
  have h2 := h (bitLen x + n)
  omega
end
section
open Go PG Go.Proofs
set_option maxRecDepth 100000
set_option linter.unusedSimpArgs false
set_option linter.unusedVariables false
def Num (p : PV) (x : Nat) : Prop := ∃ l, p = NL l ∧ Ok W l ∧ vl l = x ∧ l.length ≤ 1048576
theorem num_NN {x : Nat} (h : (dg W x).length ≤ 1048576) : Num (NN x) x := ⟨_, rfl, ok_dg W2 x, dv_dg W2 x, h⟩
theorem num_NL {l : List Nat} (ol : Ok W l) (h : l.length ≤ 1048576) : Num (NL l) (vl l) := ⟨l, rfl, ol, rfl, h⟩
theorem num_nil : Num (.lst 0 []) 0 := ⟨[], rfl, Ok.nil, rfl, by decide⟩
theorem w_of_bits {x n : Nat} (h : bitLen x ≤ 64 * n) : (dg W x).length ≤ n := by
  rw [dg_len_W]
  have := dgB_le_of_bits (x := x) (n := 4 * n) (by omega)
  omega
theorem num_bits {x : Nat} (h : bitLen x ≤ 1000000) : Num (NN x) x := num_NN (Nat.le_trans (w_of_bits (n := 15625) (by omega)) (by decide))
theorem bitLen_mono {x y : Nat} (h : x ≤ y) : bitLen x ≤ bitLen y := (bitLen_le _ _).2 (Nat.lt_of_le_of_lt h ((bitLen_le y _).1 (Nat.le_refl _)))
theorem bitLen_add {x y n : Nat} (hx : bitLen x ≤ n) (hy : bitLen y ≤ n) : bitLen (x + y) ≤ n + 1 := by
  rw [bitLen_le] at hx hy ⊢
  rw [Nat.pow_succ]
  omega
theorem bitLen_shl_le (x n : Nat) : bitLen (x * 2 ^ n) ≤ bitLen x + n := by
  by_cases h : x = 0
  · subst h; rw [Nat.zero_mul]; exact Nat.le_trans (Nat.le_of_eq (show bitLen 0 = 0 from rfl)) (Nat.zero_le _)
  · rw [bitLen_shl x n h]; exact Nat.le_refl _
theorem k_Bare {p : PV} {x : Nat} (h : Num p x) : PC E 119 [p] (NN x) := by
  obtain ⟨l, rfl, ol, rfl, hl⟩ := h; exact n_Bare l (by omega) ol
theorem k_Small {p : PV} {x : Nat} (h : Num p x) : PC E 64 [p] (.tuple [u (if x < W then x else 0), .bool (decide (x < W))]) := by
  obtain ⟨l, rfl, ol, rfl, hl⟩ := h; exact c_Small l (by omega) ol
theorem k_Add {p q : PV} {x y : Nat} (h : Num p x) (h' : Num q y) : PC E 187 [p, q] (NN (x + y)) := by
  obtain ⟨l, rfl, ol, rfl, hl⟩ := h; obtain ⟨l', rfl, ol', rfl, hl'⟩ := h'; exact c_Add l l' hl hl' ol ol'
theorem k_Cmp {p q : PV} {x y : Nat} (h : Num p x) (h' : Num q y) : PC E 181 [p, q] (.int .i64 (sgn x y)) := by
  obtain ⟨l, rfl, ol, rfl, hl⟩ := h; obtain ⟨l', rfl, ol', rfl, hl'⟩ := h'; exact c_Cmp l l' hl hl' ol ol'
theorem k_Sub_lt {p q : PV} {x y : Nat} (h : Num p x) (h' : Num q y) (hlt : x < y) : PC E 188 [p, q] (.tuple [.lst 0 [], .int .i64 1]) := by
  obtain ⟨l, rfl, ol, rfl, hl⟩ := h; obtain ⟨l', rfl, ol', rfl, hl'⟩ := h'; exact PC.cast (c_Sub l l' hl hl' ol ol') (if_pos hlt)
theorem k_Sub {p q : PV} {x y : Nat} (h : Num p x) (h' : Num q y) (hle : y ≤ x) : PC E 188 [p, q] (.tuple [NN (x - y), .int .i64 0]) := by
  obtain ⟨l, rfl, ol, rfl, hl⟩ := h; obtain ⟨l', rfl, ol', rfl, hl'⟩ := h'; exact PC.cast (c_Sub l l' hl hl' ol ol') (if_neg (by omega))
theorem k_Bits {p : PV} {x : Nat} (h : Num p x) : PC E 61 [p] (.int .i64 (bitLen x)) := by
  obtain ⟨l, rfl, ol, rfl, hl⟩ := h; exact c_Bits l hl ol
theorem k_Odd {p : PV} {x : Nat} (h : Num p x) : PC E 133 [p] (.bool (decide (x % 2 = 1))) := by
  obtain ⟨l, rfl, ol, rfl, hl⟩ := h; exact c_Odd l ol
theorem k_Low {p : PV} {x : Nat} (h : Num p x) : PC E 157 [p] (.int .i64 (tz x)) := by
  obtain ⟨l, rfl, ol, rfl, hl⟩ := h; exact c_Low l hl ol
theorem k_Shr {p : PV} {x : Nat} (h : Num p x) (n : Int) : PC E 158 [p, .int .i64 n] (.tuple [NN (x / 2 ^ n.toNat), .bool (decide (x % 2 ^ n.toNat ≠ 0))]) := by
  obtain ⟨l, rfl, ol, rfl, hl⟩ := h; exact c_Shr l hl ol n
theorem k_Shl {p : PV} {x : Nat} (h : Num p x) (n : Int) (hn : -9223372036854775808 ≤ n) : PC E 63 [p, .int .i64 n] (shlV x n) := by
  obtain ⟨l, rfl, ol, rfl, hl⟩ := h; exact c_Shl l hl ol n hn
theorem k_Shln {p : PV} {x : Nat} (h : Num p x) (n : Nat) (hn : bitLen x + n ≤ 65536) : PC E 63 [p, .int .i64 n] (.tuple [NN (x * 2 ^ n), .int .i64 0]) :=
  PC.cast (k_Shl h n (by omega)) (by
    unfold shlV
    rw [if_neg (by omega)]
    by_cases hx : x = 0
    · rw [if_pos hx]; subst hx; rw [Nat.zero_mul]; rfl
    · rw [if_neg hx, if_neg (by omega), Int.toNat_natCast])
theorem k_Shrn {p : PV} {x : Nat} (h : Num p x) (n : Nat) : PC E 158 [p, .int .i64 n] (.tuple [NN (x / 2 ^ n), .bool (decide (x % 2 ^ n ≠ 0))]) := PC.cast (k_Shr h n) (by rw [Int.toNat_natCast])
theorem sgn_self (x : Int) : sgn x x = 0 := by simp [sgn]
theorem sgn_swap (x y : Int) : sgn y x = -sgn x y := by unfold sgn; split <;> split <;> omega
theorem sgn_neg (x y : Int) : sgn x y < 0 ↔ x < y := by unfold sgn; split <;> (try split) <;> omega
theorem sgn_pos (x y : Int) : 0 < sgn x y ↔ y < x := by unfold sgn; split <;> (try split) <;> omega
theorem sgn_zero (x y : Int) : sgn x y = 0 ↔ x = y := by unfold sgn; split <;> (try split) <;> omega
theorem sgn_le (x y : Int) : sgn x y ≤ 0 ↔ x ≤ y := by unfold sgn; split <;> (try split) <;> omega
theorem sgn_range (x y : Int) : -1 ≤ sgn x y ∧ sgn x y ≤ 1 := by unfold sgn; split <;> (try split) <;> omega
end
end Go.Proofs.YtfkgaldbcngliaaGreatDoor
