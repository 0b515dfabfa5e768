/- Several parts in one text. -/
import Derived.Test.YtfkgaldbcngliaaGreatDoorM1
import Derived.Lib.Mul64
import Derived.Test.YtfkgaldbcngliaaGreatDoorG3
open Go PG Go.Proofs
set_option linter.unusedSimpArgs false
set_option linter.unusedVariables false
set_option maxRecDepth 100000
namespace Go.Proofs.YtfkgaldbcngliaaGreatDoor
attribute [local go_sem] Lay2 Lay3 Lay4 Lay5 Lay6 Lay7 Lay8 Lay9 Lay10 Lay11 Lay12 Lay13 Lay14 Lay15 Lay16 Lay17 Lay18 Lay19 Lay20 Lay21 Lay22 Lay26 Lay27 Lay28 Lay29 Lay31 Lay32 Lay33 Lay34 Lay35 Lay41 Lay42 Lay43 Lay47 Lay48 Lay60 Lay61 Lay62 Lay63 Lay64 Lay72 Lay73 Lay74 Lay83 Lay84 Lay86 Lay90 Lay91 Lay92 Lay93 Lay102 Lay103 Lay139 Lay143 Lay149 Lay158 Lay159 Lay160 Lay161 Lay162 Lay174 Lay175 Lay193 Lay207 Lay208 Lay209 Lay210 Lay228 Lay229 Lay237 Lay238 Lay265 Lay287 Lay295 Lay296 Lay297 Lay299 Lay301 Lay302 Lay303 Lay304 Lay305 Lay307 Lay308 Lay310 Lay311 Lay312 Lay315 Lay316 Lay317 qexec_seq qexec_skip qexec_exit qexec_ret qexec_block qexec_loop qexec_range qexec_cond qexec_region qexec_drawn qops_nil qops_none qops_some put_some put_none pblk_exit pblk_other newDsts_nil inlDsts_nil isInl sget_cons sget_nil qval_some qbool_some qgs_bool qgs_und qfree_some qgrd_true qgrd_false qif_true qif_false qval_ite qval_itn qand_true map_ite map_some' map_none' qdo_move qdo_assign qdo_binOp qdo_pick qdo_unOp qdo_convert qdo_extract qdo_makeInterface qdo_field qdo_fieldAddr qdo_alloc qdo_box qdo_build qdo_buildSlice qdo_load qdo_store qdo_nilCheck qdo_makeFunc qdo_makeSlice qdo_slice qdo_indexAddr qdo_call qcont_val qcont_new qcont_st qcont_app0 qcont_app qcont_inl qcont_call njSV_val njSV_nil njSV_row njSV_ptr njSV_sub binV_val binV_nil binV_nn binV_ptr bin_np bin_nnp nilCmp bin_add bin_sub bin_mul bin_quo bin_rem bin_and bin_or bin_xor bin_andNot bin_eql bin_neq bin_lss bin_leq bin_gtr bin_geq bin_shl bin_shr bin_seql bin_sneq bin_sadd bin_beql bin_aeql bin_aneq eqAnd_some eqCells_nil eqCells_cons fieldTypes isStruct eqCell bin_bneq un_not un_neg nj_ite Nat.beq stepA stepR isNew opSV constSV RV.sv allSome E_mu E_own qkeyIn_none qkeyIn_some qkeyAt_none qkeyAt_some Bool.or_false Bool.false_or Bool.or_true Bool.true_or cst setB res resSV pstart startL killL kill1 eraL frzL svPV rvPV rvInt rvSlice rvBytes frzOf close closeL pconv pbuiltin pmax2 partPV setCells fillPV zrow bound newSV PV.cells Bk.cells Bk.with SV.key pres presL_nil presL_tmp presL_cell presC2_some cellPV_ptr presC List.toList_toArray List.size_toArray List.getElem?_drop Nat.mul_one Int.toNat_natCast Nat.not_lt_zero Nat.lt_irrefl decide_true decide_false Nat.not_lt Option.some.injEq PV.lst.injEq PV.int.injEq PV.bool.injEq PV.tuple.injEq List.cons.injEq Option.map_some Option.map_none Option.bind_some Option.toList List.map_cons List.map_nil List.nil_append List.cons_append List.append_nil List.zip_cons_cons List.zip_nil_left List.zip_nil_right List.getElem?_cons_zero List.getElem?_cons_succ List.drop_zero List.drop_succ_cons List.take_succ_cons List.take_zero List.set_cons_zero List.set_cons_succ List.length_cons List.length_nil List.length_set List.replicate_one List.replicate_zero bne_self_eq_false beq_self_eq_true Nat.zero_add Nat.add_zero Nat.zero_mul Bool.false_eq_true Bool.true_eq_false Bool.not_true Bool.not_false and_true true_and false_and and_false or_false false_or or_true true_or not_true_eq_false not_false_eq_true ne_eq gt_iff_lt List.mem_cons List.not_mem_nil
attribute [local go_sem ↓] pseq_normal pseq_ret pseq_exit pblk_normal pblk_ret newDsts_cons inlDsts_cons gdst_zero gdst_succ retQ_normal retQ_ret qneed_nil qneed_cons retM_normal retM_ret endR_normal endR_ret endR_exit
attribute [local go_sem] Int.reduceToNat Int.reduceEq Int.reduceNe Int.reduceLT Int.reduceLE Int.reduceNeg Int.reduceAdd Nat.reduceEqDiff Nat.reduceAdd Nat.reduceSub Nat.reduceMul Nat.reduceLeDiff Nat.reduceLT
attribute [local go_sem ↓] reduceIte reduceCtorEq
section
section
open Go PG Go.Proofs
def Dy.ok (d : Dy) : Prop := d = .zero ∨ d.m % 2 = 1
def Dy.ge (d : Dy) (k : Int) : Prop := d.m = 0 ∨ k ≤ d.e
theorem Dy.ge.mono {d : Dy} {k k' : Int} (h : d.ge k') (hk : k ≤ k') : d.ge k := h.imp id (fun h => Int.le_trans hk h)
theorem Dy.ge_e (d : Dy) : d.ge d.e := .inr (Int.le_refl _)
theorem Dy.zero_ok : Dy.zero.ok := .inl rfl
theorem Dy.zero_fits : Dy.zero.fits := by decide
theorem Dy.zero_ge (k : Int) : Dy.zero.ge k := .inl rfl
theorem Dy.ok.z {d : Dy} (h : d.ok) (h0 : d.m = 0) : d = .zero := by
  rcases h with h | h
  · exact h
  · omega
theorem Dy.ok.odd {d : Dy} (h : d.ok) (h0 : d.m ≠ 0) : d.m % 2 = 1 := by
  rcases h with h | h
  · exact absurd (by rw [h]; rfl) h0
  · exact h
theorem at_zero {d : Dy} (h : d.m = 0) (k : Int) : d.at k = 0 := by
  unfold Dy.at; rw [h]; simp
theorem at_shift' {d : Dy} {k k' : Int} (h1 : k ≤ k') (h2 : d.ge k') : d.at k = d.at k' * ((2 ^ (k' - k).toNat : Nat) : Int) := by
  rcases h2 with h | h
  · rw [at_zero h, at_zero h, Int.zero_mul]
  · exact at_shift d h1 h
theorem eq_of_at {a b : Dy} {k : Int} (ha : a.ok) (hb : b.ok) (h1 : a.ge k) (h2 : b.ge k) (h : a.at k = b.at k) : a = b := by
  have sa := at_sg a k
  have sb := at_sg b k
  by_cases za : a.m = 0
  · rw [at_zero za] at h
    have : b.sg = 0 := sb.1.1 h.symm
    have zb : b.m = 0 := Decidable.byContradiction fun hn => by
      unfold Dy.sg at this; rw [if_neg hn] at this; revert this; cases b.s <;> simp
    rw [ha.z za, hb.z zb]
  by_cases zb : b.m = 0
  · rw [at_zero zb] at h
    have : a.sg = 0 := sa.1.1 h
    unfold Dy.sg at this; rw [if_neg za] at this; revert this; cases a.s <;> simp
  have ga : k ≤ a.e := h1.resolve_left za
  have gb : k ≤ b.e := h2.resolve_left zb
  have oa := ha.odd za
  have ob := hb.odd zb
  have hs : a.s = b.s := by
    rw [h] at sa
    have e : a.sg = b.sg := by
      have := sg_range a; have := sg_range b; omega
    unfold Dy.sg at e
    rw [if_neg za, if_neg zb] at e
    revert e
    cases a.s <;> cases b.s <;> simp
  unfold Dy.at at h
  rw [hs] at h
  have h3 : a.m * 2 ^ (a.e - k).toNat = b.m * 2 ^ (b.e - k).toNat := by
    revert h
    cases b.s <;> simp only [Bool.false_eq_true, if_false, if_true] <;> omega
  have h4 : (a.e - k).toNat = (b.e - k).toNat := by
    refine odd_unique (m := a.m / 2) (n := b.m / 2) ?_
    rw [show 2 * (a.m / 2) + 1 = a.m by omega, show 2 * (b.m / 2) + 1 = b.m by omega, Nat.mul_comm, h3, Nat.mul_comm]
  rw [h4] at h3
  have h5 := Nat.eq_of_mul_eq_mul_right (Nat.two_pow_pos _) h3
  have h6 : a.e = b.e := by omega
  clear h h1 h2 h3 h4 ga gb oa ob za zb ha hb sa sb
  obtain ⟨_, _, _⟩ := a
  obtain ⟨_, _, _⟩ := b
  simp only at hs h5 h6
  subst hs h5 h6
  rfl
theorem cmp_at {a b : Dy} {k : Int} (h1 : a.ge k) (h2 : b.ge k) : cmpD a b = sgn (a.at k) (b.at k) := by
  have e := cmpD_at a b (k := min k (min a.e b.e)) (by omega) (by omega)
  rw [e, at_shift' (k := min k (min a.e b.e)) (k' := k) (by omega) h1, at_shift' (k := min k (min a.e b.e)) (k' := k) (by omega) h2, sgn_mulI _ _ _ (Nat.two_pow_pos _)]
theorem cmp_swap (a b : Dy) : cmpD b a = -cmpD a b := by
  rw [cmp_at (a := b) (b := a) (k := min a.e b.e) (.inr (by omega)) (.inr (by omega)), cmp_at (a := a) (b := b) (k := min a.e b.e) (.inr (by omega)) (.inr (by omega)), sgn_swap]
theorem cmp_self (a : Dy) : cmpD a a = 0 := by
  rw [cmp_at (k := a.e) a.ge_e a.ge_e, sgn_self]
theorem cmp_range (a b : Dy) : -1 ≤ cmpD a b ∧ cmpD a b ≤ 1 := sgn_range _ _
def norm (z : Int) (k : Int) : Dy := mkD (decide (z < 0)) z.natAbs k
theorem norm_ok (z k : Int) : (norm z k).ok := mkD_ok _ _ _
theorem norm_at (z : Int) {k j : Int} (h1 : -2147483648 ≤ k) (h2 : k ≤ 2147483648) (hj : j ≤ k) : (norm z k).at j = z * ((2 ^ (k - j).toNat : Nat) : Int) := by
  rw [norm, mkD_at _ _ h1 h2 hj, Int.natCast_mul]
  generalize ((2 ^ (k - j).toNat : Nat) : Int) = n
  rcases Int.lt_or_le z 0 with h | h
  · rw [decide_eq_true h, if_pos rfl, show (z.natAbs : Int) = -z by omega, Int.neg_mul, Int.neg_mul, Int.one_mul, Int.neg_neg]
  · rw [decide_eq_false (by omega), if_neg (by decide), Int.one_mul, show (z.natAbs : Int) = z by omega]
theorem mkD_ge (s : Bool) (x : Nat) {k : Int} (h1 : -2147483648 ≤ k) (h2 : k ≤ 2147483648) : (mkD s x k).ge k := by
  unfold mkD
  by_cases h : x = 0
  · rw [if_pos h]; exact .inl rfl
  · rw [if_neg h]
    right
    show k ≤ cut k + _
    rw [cut_id h1 h2]
    omega
theorem norm_ge (z : Int) {k : Int} (h1 : -2147483648 ≤ k) (h2 : k ≤ 2147483648) : (norm z k).ge k := mkD_ge _ _ h1 h2
theorem fits_r {d : Dy} (h : d.fits) : -2147483648 ≤ d.e ∧ d.e ≤ 2147483648 := ⟨by have := h.1; omega, by have := h.2; omega⟩
theorem norm_self {d : Dy} (h : d.ok) (hf : d.fits) {k : Int} (hk : -2147483648 ≤ k) (hd : k ≤ d.e) : norm (d.at k) k = d := by
  have hr := fits_r hf
  refine eq_of_at (k := k) (norm_ok _ _) h (norm_ge _ hk (by omega)) (.inr hd) ?_
  rw [norm_at _ hk (by omega) (Int.le_refl _), Int.sub_self]
  simp
def addS (a b : Dy) : Dy := norm (a.at (min a.e b.e) + b.at (min a.e b.e)) (min a.e b.e)
theorem addS_ok (a b : Dy) : (addS a b).ok := norm_ok _ _
theorem addS_zl {a b : Dy} (hb : b.ok) (fa : a.fits) (fb : b.fits) (h : a.m = 0) : addS a b = b := by
  have ra := fits_r fa
  have rb := fits_r fb
  unfold addS
  rw [at_zero h, Int.zero_add]
  exact norm_self hb fb (by omega) (by omega)
theorem addS_comm (a b : Dy) : addS a b = addS b a := by
  unfold addS
  rw [Int.add_comm, show min a.e b.e = min b.e a.e by omega]
theorem addS_zr {a b : Dy} (ha : a.ok) (fa : a.fits) (fb : b.fits) (h : b.m = 0) : addS a b = a := by rw [addS_comm]; exact addS_zl ha fb fa h
theorem addS_at {a b : Dy} (ha : a.ok) (hb : b.ok) (fa : a.fits) (fb : b.fits) {j : Int} (h1 : a.ge j) (h2 : b.ge j) : (addS a b).at j = a.at j + b.at j := by
  by_cases za : a.m = 0
  · rw [addS_zl hb fa fb za, at_zero za, Int.zero_add]
  by_cases zb : b.m = 0
  · rw [addS_zr ha fa fb zb, at_zero zb, Int.add_zero]
  have g1 := h1.resolve_left za
  have g2 := h2.resolve_left zb
  have ra := fits_r fa
  have rb := fits_r fb
  unfold addS
  rw [norm_at _ (by omega) (by omega) (by omega), Int.add_mul, ← at_shift' (by omega) (.inr (by omega)), ← at_shift' (by omega) (.inr (by omega))]
theorem addS_ge {a b : Dy} (ha : a.ok) (hb : b.ok) (fa : a.fits) (fb : b.fits) {j : Int} (h1 : a.ge j) (h2 : b.ge j) : (addS a b).ge j := by
  by_cases za : a.m = 0
  · rw [addS_zl hb fa fb za]; exact h2
  by_cases zb : b.m = 0
  · rw [addS_zr ha fa fb zb]; exact h1
  have g1 := h1.resolve_left za
  have g2 := h2.resolve_left zb
  have ra := fits_r fa
  have rb := fits_r fb
  exact (norm_ge _ (by omega) (by omega)).mono (by omega)
def Dy.neg (d : Dy) : Dy := if d.m = 0 then .zero else ⟨!d.s, d.m, d.e⟩
def Dy.abs (d : Dy) : Dy := ⟨false, d.m, d.e⟩
def Dy.sc (d : Dy) (n : Int) : Dy := if d.m = 0 then .zero else ⟨d.s, d.m, d.e + n⟩
def mulS (a b : Dy) : Dy := if a.m = 0 ∨ b.m = 0 then .zero else ⟨a.s != b.s, a.m * b.m, a.e + b.e⟩
theorem neg_ok {d : Dy} (h : d.ok) : d.neg.ok := by
  unfold Dy.neg
  split
  · exact .inl rfl
  · rename_i h0; exact .inr (h.odd h0)
theorem neg_fits {d : Dy} (h : d.fits) : d.neg.fits := by
  unfold Dy.neg
  split
  · exact Dy.zero_fits
  · exact h
theorem neg_ge {d : Dy} {k : Int} (h : d.ge k) : d.neg.ge k := by
  unfold Dy.neg
  split
  · exact .inl rfl
  · exact h
theorem neg_m (d : Dy) : d.neg.m = d.m := by
  unfold Dy.neg
  split
  · rename_i h; rw [h]; rfl
  · rfl
theorem neg_at (d : Dy) (k : Int) : d.neg.at k = -d.at k := by
  unfold Dy.neg
  split
  · rename_i h; rw [at_zero h, at_zero (d := .zero) rfl]; rfl
  · unfold Dy.at
    cases d.s <;> simp
theorem abs_ge {d : Dy} {k : Int} (h : d.ge k) : d.abs.ge k := h
theorem abs_at (d : Dy) (k : Int) : d.abs.at k = ((d.at k).natAbs : Int) := by
  unfold Dy.abs Dy.at
  dsimp only
  generalize d.m * 2 ^ (d.e - k).toNat = n
  cases d.s <;> simp
theorem abs_ok {d : Dy} (h : d.ok) : d.abs.ok := by
  rcases h with h | h
  · left; rw [h]; rfl
  · exact .inr h
theorem sc_ok {d : Dy} (h : d.ok) (n : Int) : (d.sc n).ok := by
  unfold Dy.sc
  split
  · exact .inl rfl
  · rename_i h0; exact .inr (h.odd h0)
theorem sc_at (d : Dy) (n k : Int) : (d.sc n).at (k + n) = d.at k := by
  unfold Dy.sc
  split
  · rename_i h; rw [at_zero h, at_zero (d := .zero) rfl]
  · unfold Dy.at
    dsimp only
    rw [show d.e + n - (k + n) = d.e - k by omega]
theorem sc_ge {d : Dy} {k n : Int} (h : d.ge k) : (d.sc n).ge (k + n) := by
  unfold Dy.sc
  split
  · exact .inl rfl
  · rename_i h0; right; have := h.resolve_left h0; show k + n ≤ d.e + n; omega
theorem odd_mul {a b : Nat} (h1 : a % 2 = 1) (h2 : b % 2 = 1) : (a * b) % 2 = 1 := by rw [Nat.mul_mod, h1, h2]
theorem mulS_ok {a b : Dy} (ha : a.ok) (hb : b.ok) : (mulS a b).ok := by
  unfold mulS
  split
  · exact .inl rfl
  · rename_i h; exact .inr (odd_mul (ha.odd (fun h0 => h (.inl h0))) (hb.odd (fun h0 => h (.inr h0))))
theorem mulS_ge {a b : Dy} {i j : Int} (h1 : a.ge i) (h2 : b.ge j) : (mulS a b).ge (i + j) := by
  unfold mulS
  split
  · exact .inl rfl
  · rename_i h
    have g1 := h1.resolve_left (fun h0 => h (.inl h0))
    have g2 := h2.resolve_left (fun h0 => h (.inr h0))
    right; show i + j ≤ a.e + b.e; omega
theorem mulS_at {a b : Dy} {i j : Int} (h1 : a.ge i) (h2 : b.ge j) : (mulS a b).at (i + j) = a.at i * b.at j := by
  unfold mulS
  by_cases h : a.m = 0 ∨ b.m = 0
  · rw [if_pos h, at_zero (d := .zero) rfl]
    rcases h with h | h
    · rw [at_zero h, Int.zero_mul]
    · rw [at_zero h, Int.mul_zero]
  · rw [if_neg h]
    have g1 := h1.resolve_left (fun h0 => h (.inl h0))
    have g2 := h2.resolve_left (fun h0 => h (.inr h0))
    unfold Dy.at
    dsimp only
    rw [show (a.e + b.e - (i + j)).toNat = (a.e - i).toNat + (b.e - j).toNat by omega, Nat.pow_add]
    rw [show a.m * b.m * (2 ^ (a.e - i).toNat * 2 ^ (b.e - j).toNat) = a.m * 2 ^ (a.e - i).toNat * (b.m * 2 ^ (b.e - j).toNat) by simp only [Nat.mul_assoc, Nat.mul_comm, Nat.mul_left_comm]]
    generalize a.m * 2 ^ (a.e - i).toNat = x
    generalize b.m * 2 ^ (b.e - j).toNat = y
    rw [Int.natCast_mul]
    cases a.s <;> cases b.s <;> simp [Int.neg_mul, Int.mul_neg, Int.neg_neg]
theorem top_at {d : Dy} (h0 : d.m ≠ 0) {k : Int} (hk : k ≤ d.e) : 2 ^ (d.top - k).toNat ≤ (d.at k).natAbs ∧ (d.at k).natAbs < 2 ^ (d.top + 1 - k).toNat := by
  have hb := at_bits d k hk h0
  have ht : d.top = bitLen d.m - 1 + d.e := if_neg h0
  have hp := bitLen_pos h0
  have e : (d.at k).natAbs = d.m * 2 ^ (d.e - k).toNat := by
    unfold Dy.at
    cases d.s <;> simp only [Bool.false_eq_true, if_false, if_true] <;> omega
  rw [e]
  generalize d.m * 2 ^ (d.e - k).toNat = x at *
  have h1 := (bitLen_le x (d.top + 1 - k).toNat).1 (by omega)
  have h2 : ¬ x < 2 ^ (d.top - k).toNat := fun h => by
    have := (bitLen_le _ _).2 h
    omega
  omega
end
section
open Go PG Go.Proofs
def INF : Nat := 9218868437227405312
theorem fd_ok' (b : Nat) : (fd b).ok := mkD_ok _ _ _
theorem fd_ge (b : Nat) : (fd b).ge (-1074) := .inr (fd_e b).1
theorem fs_small {b : Nat} (h : b < 9223372036854775808) : fs b = false := decide_eq_false (by omega)
theorem fd_at' {b : Nat} (hb : b < 9223372036854775808) {k : Int} (hk : k ≤ -1074) : (fd b).at k = ((fv b * 2 ^ (-1074 - k).toNat : Nat) : Int) := by
  rw [at_shift' hk (fd_ge b), fd_at, fs_small hb, if_neg (by decide), Int.one_mul, Int.natCast_mul]
theorem fv_mono {a b : Nat} (hb : b < 9223372036854775808) (h : a ≤ b) : fv a ≤ fv b := by
  rcases Nat.lt_or_ge a b with h1 | h1
  · exact Nat.le_of_lt (fv_lt hb h1)
  · rw [show a = b by omega]; exact Nat.le_refl _
def Bel (b : Nat) (n : Dy) : Prop := b ≤ INF ∧ cmpD (fd b) n ≤ 0 ∧ (b = INF ∨ 0 < cmpD (fd (b + 1)) n)
theorem INF_lt : INF < 9223372036854775808 := by decide
theorem fd_le_trans {a b : Nat} {n : Dy} (hb : b ≤ INF) (h : a ≤ b) (hc : cmpD (fd b) n ≤ 0) : cmpD (fd a) n ≤ 0 := by
  have hI := INF_lt
  have hK : min n.e (-1074) ≤ -1074 := by omega
  rw [cmp_at (k := min n.e (-1074)) ((fd_ge _).mono hK) (.inr (by omega)), sgn_le] at hc ⊢
  rw [fd_at' (by omega) hK] at hc ⊢
  have := Nat.mul_le_mul_right (2 ^ (-1074 - min n.e (-1074)).toNat) (fv_mono (by omega) h)
  omega
theorem bel_unique {a b : Nat} {n : Dy} (ha : Bel a n) (hb : Bel b n) : a = b := by
  have h1 := ha.1
  have h2 := hb.1
  rcases Nat.lt_trichotomy a b with h | h | h
  · have h3 := ha.2.2.resolve_left (by omega)
    have := fd_le_trans (a := a + 1) hb.1 (by omega) hb.2.1
    omega
  · exact h
  · have h3 := hb.2.2.resolve_left (by omega)
    have := fd_le_trans (a := b + 1) ha.1 (by omega) ha.2.1
    omega
structure PackOk (M : Nat) (t : Int) : Prop where
  lt : M < 9007199254740992
  lo : -1074 ≤ t
  hi : t ≤ 971
  sub : M < 4503599627370496 → t = -1074
theorem pack_succ {M : Nat} {t : Int} (h : PackOk M t) : packB (M + 1) t = packB M t + 1 := by
  have h1 := h.lt
  have h2 := h.lo
  have h3 := h.sub
  unfold packB
  by_cases hM : 4503599627370496 ≤ M
  · rw [if_pos hM, if_pos (by omega)]; omega
  · rw [if_neg hM]
    by_cases h4 : 4503599627370496 ≤ M + 1
    · rw [if_pos h4]
      have := h3 (by omega)
      subst this
      rw [show (-1074 + 1075 : Int).toNat = 1 by decide]
      omega
    · rw [if_neg h4]
theorem pack_lt_inf {M : Nat} {t : Int} (h : PackOk M t) : packB M t < INF := by
  have h1 := h.lt
  have h2 := h.lo
  have h4 := h.hi
  have h3 := h.sub
  show packB M t < 9218868437227405312
  unfold packB
  split <;> omega
theorem pack_fd {M : Nat} {t : Int} (h : PackOk M t) : fd (packB M t) = mkD false M t := by
  have hp := pack_fields h.lt h.lo h.hi h.sub
  have hl := pack_lt_inf h
  have hI := INF_lt
  unfold fd
  rw [fs_small (by omega), hp.2.1, hp.2.2]
theorem pack_fd1 {M : Nat} {t : Int} (h : PackOk M t) : fd (packB M t + 1) = mkD false (M + 1) t := by
  have h1 := h.lt
  have h2 := h.lo
  have h4 := h.hi
  have h3 := h.sub
  rw [← pack_succ h]
  by_cases hM : M + 1 < 9007199254740992
  · exact pack_fd ⟨hM, h2, h4, fun h5 => h3 (by omega)⟩
  · have e : M + 1 = 9007199254740992 := by omega
    rw [e]
    have e1 : packB 9007199254740992 t = (t + 1076).toNat * 4503599627370496 := by
      unfold packB
      rw [if_pos (by omega)]
      omega
    rw [e1]
    have e2 : fe ((t + 1076).toNat * 4503599627370496) = (t + 1076).toNat := by unfold fe; omega
    have e3 : ff ((t + 1076).toNat * 4503599627370496) = 0 := by unfold ff; omega
    have e4 : fm ((t + 1076).toNat * 4503599627370496) = 4503599627370496 := by unfold fm; rw [e2, e3, if_neg (by omega)]
    unfold fd
    rw [fs_small (by omega), e2, e4, show max ((t + 1076).toNat : Int) 1 - 1075 = t + 1 by omega]
    refine eq_of_at (k := t) (mkD_ok _ _ _) (mkD_ok _ _ _) ((mkD_ge _ _ (by omega) (by omega)).mono (by omega)) (mkD_ge _ _ (by omega) (by omega)) ?_
    rw [mkD_at _ _ (by omega) (by omega) (by omega), mkD_at _ _ (by omega) (by omega) (Int.le_refl _), Int.sub_self, show (t + 1 - t).toNat = 1 by omega]
    decide
def flo (d : Dy) (t : Int) : Nat := d.m * 2 ^ (d.e - t).toNat / 2 ^ (t - d.e).toNat
def low (d : Dy) : Nat := if 1023 < d.top then INF else packB (flo d (unitOf d.top)) (unitOf d.top)
theorem flo_spec (d : Dy) (t : Int) {k : Int} (h1 : k ≤ d.e) (h2 : k ≤ t) : flo d t * 2 ^ (t - k).toNat ≤ (d.at k).natAbs ∧ (d.at k).natAbs < (flo d t + 1) * 2 ^ (t - k).toNat := by
  have e : (d.at k).natAbs = d.m * 2 ^ (d.e - k).toNat := by
    unfold Dy.at
    cases d.s <;> simp only [Bool.false_eq_true, if_false, if_true] <;> omega
  rw [e]
  unfold flo
  rcases Int.le_total t d.e with h | h
  · rw [show (t - d.e).toNat = 0 by omega, Nat.pow_zero, Nat.div_one]
    have e2 : 2 ^ (d.e - k).toNat = 2 ^ (d.e - t).toNat * 2 ^ (t - k).toNat := by rw [← Nat.pow_add]; congr 1; omega
    rw [e2, ← Nat.mul_assoc]
    have := Nat.two_pow_pos (t - k).toNat
    refine ⟨Nat.le_refl _, ?_⟩
    rw [Nat.add_mul]
    omega
  · rw [show (d.e - t).toNat = 0 by omega, Nat.pow_zero, Nat.mul_one]
    have e2 : 2 ^ (t - k).toNat = 2 ^ (t - d.e).toNat * 2 ^ (d.e - k).toNat := by rw [← Nat.pow_add]; congr 1; omega
    rw [e2, ← Nat.mul_assoc, ← Nat.mul_assoc]
    have hp := Nat.two_pow_pos (t - d.e).toNat
    constructor
    · exact Nat.mul_le_mul_right _ (Nat.div_mul_le_self _ _)
    · refine Nat.mul_lt_mul_of_pos_right ?_ (Nat.two_pow_pos _)
      have := Nat.lt_mul_div_succ d.m hp
      rw [Nat.mul_comm]
      exact this
theorem flo_ok {d : Dy} (h0 : d.m ≠ 0) (ht : d.top ≤ 1023) : PackOk (flo d (unitOf d.top)) (unitOf d.top) := by
  have hu : unitOf d.top = max (d.top - 52) (-1074) := rfl
  have hr := unit_range ht
  have hs := flo_spec d (unitOf d.top) (k := min d.e (unitOf d.top)) (by omega) (by omega)
  have htop := top_at h0 (k := min d.e (unitOf d.top)) (by omega)
  generalize hk : min d.e (unitOf d.top) = k at *
  generalize unitOf d.top = t at *
  have hP := Nat.two_pow_pos (t - k).toNat
  refine ⟨?_, hr.1, hr.2, fun hlt => ?_⟩
  · have h2 : 2 ^ (d.top + 1 - k).toNat ≤ 9007199254740992 * 2 ^ (t - k).toNat := by
      rw [show (9007199254740992 : Nat) = 2 ^ 53 by decide, ← Nat.pow_add]
      exact Nat.pow_le_pow_right (by decide) (by omega)
    exact Nat.lt_of_mul_lt_mul_right (a := 2 ^ (t - k).toNat) (by omega)
  · refine Decidable.byContradiction fun hne => ?_
    have h2 : 4503599627370496 * 2 ^ (t - k).toNat = 2 ^ (d.top - k).toNat := by
      rw [show (4503599627370496 : Nat) = 2 ^ 52 by decide, ← Nat.pow_add]
      congr 1
      have := hr.1
      have : k ≤ t := by omega
      omega
    have h3 : (flo d t + 1) * 2 ^ (t - k).toNat ≤ 4503599627370496 * 2 ^ (t - k).toNat := Nat.mul_le_mul_right _ (by omega)
    omega
theorem nat_at {d : Dy} (h : d.s = false) (k : Int) : d.at k = ((d.m * 2 ^ (d.e - k).toNat : Nat) : Int) := by
  unfold Dy.at; rw [h]; simp
theorem abs_top (d : Dy) : d.abs.top = d.top := rfl
theorem fd_INF : fd INF = ⟨false, 1, 1024⟩ := by
  have h : fm INF = 2 ^ 52 * (2 * 0 + 1) := by decide
  have ht : tz (2 ^ 52 * (2 * 0 + 1)) = 52 := tz_of (m := 0) rfl
  unfold fd mkD
  rw [h, if_neg (by decide), ht]
  decide
theorem abs_le {d : Dy} {k : Int} (h : k ≤ d.e) : d.abs.ge k := .inr h
theorem abs_0 {d : Dy} {k : Int} (h : d.m = 0) : d.abs.ge k := .inl h
theorem INF_ge {k : Int} (h : k ≤ 1024) : (fd INF).ge k := by rw [fd_INF]; exact .inr h
theorem bel_low {d : Dy} : Bel (low d) d.abs := by
  unfold low
  by_cases ht : 1023 < d.top
  · rw [if_pos ht]
    have h0 : d.m ≠ 0 := fun h => by
      have : d.top = 0 := if_pos h
      omega
    refine ⟨Nat.le_refl _, ?_, .inl rfl⟩
    have h1 := top_at h0 (k := min d.e 0) (by omega)
    rw [cmp_at (k := min d.e 0) (INF_ge (by omega)) (abs_le (d := d) (by omega)), sgn_le, fd_INF, nat_at rfl, abs_at]
    dsimp only
    have : 2 ^ (1024 - min d.e 0).toNat ≤ 2 ^ (d.top - min d.e 0).toNat := Nat.pow_le_pow_right (by decide) (by omega)
    rw [Nat.one_mul]
    omega
  · rw [if_neg ht]
    by_cases h0 : d.m = 0
    · have e1 : d.top = 0 := if_pos h0
      have e2 : flo d (unitOf d.top) = 0 := by unfold flo; rw [h0, Nat.zero_mul, Nat.zero_div]
      rw [e2, e1]
      have e3 : packB 0 (unitOf 0) = 0 := by decide
      rw [e3]
      refine ⟨by decide, ?_, .inr ?_⟩
      · rw [cmp_at (k := -1074) (fd_ge _) (abs_0 h0), sgn_le, at_zero (d := d.abs) h0, fd_at' (by decide) (by decide)]
        decide
      · rw [cmp_at (k := -1074) (fd_ge _) (abs_0 h0), sgn_pos, at_zero (d := d.abs) h0, fd_at' (by decide) (by decide)]
        decide
    · have hp := flo_ok h0 (by omega)
      have hl := pack_lt_inf hp
      have hr := unit_range (d := d) (by omega)
      have hs := flo_spec d (unitOf d.top) (k := min d.e (unitOf d.top)) (by omega) (by omega)
      have hf := pack_fd hp
      have hf1 := pack_fd1 hp
      generalize flo d (unitOf d.top) = M at *
      generalize unitOf d.top = t at *
      have g1 : ∀ x, (mkD false x t).ge (min d.e t) := fun x => (mkD_ge _ _ (by omega) (by omega)).mono (by omega)
      refine ⟨by omega, ?_, .inr ?_⟩
      · rw [hf, cmp_at (k := min d.e t) (g1 _) (abs_le (d := d) (by omega)), sgn_le, mkD_at _ _ (by omega) (by omega) (by omega), abs_at]
        simp only [Bool.false_eq_true, if_false, Int.one_mul]
        omega
      · rw [hf1, cmp_at (k := min d.e t) (g1 _) (abs_le (d := d) (by omega)), sgn_pos, mkD_at _ _ (by omega) (by omega) (by omega), abs_at]
        simp only [Bool.false_eq_true, if_false, Int.one_mul]
        omega
def mid (b : Nat) : Dy := ⟨false, 2 * fm b + 1, max (fe b : Int) 1 - 1076⟩
theorem pack_mid {M : Nat} {t : Int} (h : PackOk M t) : mid (packB M t) = ⟨false, 2 * M + 1, t - 1⟩ := by
  have hp := pack_fields h.lt h.lo h.hi h.sub
  unfold mid
  rw [hp.2.1]
  congr 1
  omega
end
section
open Go PG Go.Proofs
def hf (d : Dy) (t : Int) : Bool := decide (flo d (t - 1) % 2 = 1)
def bl (d : Dy) (t : Int) : Bool := decide (d.m * 2 ^ (d.e - (t - 1)).toNat % 2 ^ (t - 1 - d.e).toNat ≠ 0)
theorem natAbs_at (d : Dy) (k : Int) : (d.at k).natAbs = d.m * 2 ^ (d.e - k).toNat := by
  unfold Dy.at
  cases d.s <;> simp only [Bool.false_eq_true, if_false, if_true] <;> omega
theorem parts_at (d : Dy) (t : Int) {k : Int} (h1 : k ≤ d.e) (h2 : k ≤ t - 1) :
    ∃ r, (d.at k).natAbs = (2 * flo d t + (if hf d t then 1 else 0)) * 2 ^ (t - 1 - k).toNat + r ∧ r < 2 ^ (t - 1 - k).toNat ∧ (r = 0 ↔ bl d t = false) := by
  have hs := flo_spec d t (k := k) h1 (by omega)
  have hs1 := flo_spec d (t - 1) (k := k) h1 h2
  have e2 : 2 ^ (t - k).toNat = 2 * 2 ^ (t - 1 - k).toNat := by rw [show (t - k).toNat = (t - 1 - k).toNat + 1 by omega, Nat.pow_succ, Nat.mul_comm]
  rw [e2, ← Nat.mul_assoc, ← Nat.mul_assoc] at hs
  have hb : ((d.at k).natAbs - flo d (t - 1) * 2 ^ (t - 1 - k).toNat = 0) ↔ bl d t = false := by
    unfold bl
    rw [natAbs_at] at hs1 ⊢
    rw [decide_eq_false_iff_not, ne_eq, Decidable.not_not]
    unfold flo at hs1 ⊢
    rcases Int.le_total (t - 1) d.e with h | h
    · rw [show (t - 1 - d.e).toNat = 0 by omega, Nat.pow_zero, Nat.div_one, Nat.mod_one, Nat.mul_assoc, ← Nat.pow_add, show (d.e - (t - 1)).toNat + (t - 1 - k).toNat = (d.e - k).toNat by omega, Nat.sub_self]
    · rw [show (d.e - (t - 1)).toNat = 0 by omega, Nat.pow_zero, Nat.mul_one] at hs1 ⊢
      have e3 : 2 ^ (t - 1 - k).toNat = 2 ^ (t - 1 - d.e).toNat * 2 ^ (d.e - k).toNat := by rw [← Nat.pow_add]; congr 1; omega
      rw [e3, ← Nat.mul_assoc]
      have hd := Nat.div_add_mod d.m (2 ^ (t - 1 - d.e).toNat)
      have hq := Nat.two_pow_pos (d.e - k).toNat
      generalize 2 ^ (t - 1 - d.e).toNat = P at *
      generalize 2 ^ (d.e - k).toNat = Q at *
      rw [← Nat.sub_mul, Nat.mul_comm (d.m / P) P, show d.m - P * (d.m / P) = d.m % P by omega]
      constructor
      · intro h
        rcases Nat.mul_eq_zero.1 h with h | h
        · exact h
        · omega
      · intro h; rw [h, Nat.zero_mul]
  have hq : flo d (t - 1) = 2 * flo d t + (if hf d t then 1 else 0) := by
    have hP := Nat.two_pow_pos (t - 1 - k).toNat
    have a1 : flo d t * 2 < flo d (t - 1) + 1 := Nat.lt_of_mul_lt_mul_right (a := 2 ^ (t - 1 - k).toNat) (by omega)
    have a2 : flo d (t - 1) < (flo d t + 1) * 2 := Nat.lt_of_mul_lt_mul_right (a := 2 ^ (t - 1 - k).toNat) (by omega)
    unfold hf
    by_cases h : flo d (t - 1) % 2 = 1
    · simp only [h, decide_true, if_true]; omega
    · simp only [h, decide_false]
      simp only [Bool.false_eq_true, if_false]
      omega
  rw [← hq]
  refine ⟨(d.at k).natAbs - flo d (t - 1) * 2 ^ (t - 1 - k).toNat, ?_, ?_, hb⟩
  · omega
  · have := hs1.2
    rw [Nat.add_mul, Nat.one_mul] at this
    omega
theorem pos_mid {d : Dy} (h0 : d.m ≠ 0) (ht : d.top ≤ 1023) :
    cmpD d.abs (mid (low d)) = (if hf d (unitOf d.top) = true then (if bl d (unitOf d.top) = true then 1 else 0) else -1) ∧
    (cmpD (fd (low d)) d.abs = 0 ↔ hf d (unitOf d.top) = false ∧ bl d (unitOf d.top) = false) := by
  have hp := flo_ok h0 ht
  have hl : low d = packB (flo d (unitOf d.top)) (unitOf d.top) := if_neg (by omega)
  have hr := unit_range ht
  obtain ⟨r, h1, h2, h3⟩ := parts_at d (unitOf d.top) (k := min d.e (unitOf d.top - 1)) (by omega) (by omega)
  have hm := pack_mid hp
  have hf' := pack_fd hp
  rw [hl, hm, hf']
  generalize flo d (unitOf d.top) = M at *
  generalize hf d (unitOf d.top) = H at *
  generalize bl d (unitOf d.top) = B at *
  generalize unitOf d.top = t at *
  have g1 : (mkD false M t).ge (min d.e (t - 1)) := (mkD_ge _ _ (by omega) (by omega)).mono (by omega)
  have g2 : d.abs.ge (min d.e (t - 1)) := .inr (show _ ≤ d.e by omega)
  have g3 : (⟨false, 2 * M + 1, t - 1⟩ : Dy).ge (min d.e (t - 1)) := .inr (show _ ≤ t - 1 by omega)
  rw [cmp_at g2 g3, cmp_at g1 g2, abs_at, mkD_at _ _ (by omega) (by omega) (by omega), nat_at (d := ⟨false, 2 * M + 1, t - 1⟩) rfl, h1]
  simp only [Bool.false_eq_true, if_false, Int.one_mul]
  have e2 : 2 ^ (t - min d.e (t - 1)).toNat = 2 * 2 ^ (t - 1 - min d.e (t - 1)).toNat := by rw [show (t - min d.e (t - 1)).toNat = (t - 1 - min d.e (t - 1)).toNat + 1 by omega, Nat.pow_succ, Nat.mul_comm]
  rw [e2]
  generalize 2 ^ (t - 1 - min d.e (t - 1)).toNat = P at *
  rw [show M * (2 * P) = 2 * M * P by rw [← Nat.mul_assoc, Nat.mul_comm M 2], Nat.add_mul (2 * M), Nat.add_mul (2 * M)]
  generalize 2 * M * P = Q at *
  clear g1 g2 g3 hm hf' hl hp
  constructor
  · unfold sgn
    cases H <;> cases B <;> simp at h3 ⊢ <;> (repeat' split) <;> omega
  · rw [sgn_zero]
    cases H <;> cases B <;> simp at h3 ⊢ <;> omega
def upw (dir : Int) (s : Bool) : Bool := (decide (dir = 2) && !s) || (decide (dir = 3) && s)
def awayS (dir : Int) (s odd half below : Bool) : Bool := if dir = 0 then half && (below || odd) else (half || below) && upw dir s
def MAX : Nat := 9218868437227405311
def magS (d : Dy) (more : Bool) (dir : Int) : Nat × Nat :=
  if 1023 < d.top then ((if dir = 0 ∨ upw dir d.s = true then INF else MAX), 5)
  else if (if awayS dir d.s (decide (low d % 2 = 1)) (hf d (unitOf d.top)) (bl d (unitOf d.top) || more) = true then low d + 1 else low d) = INF then (INF, 5)
  else ((if awayS dir d.s (decide (low d % 2 = 1)) (hf d (unitOf d.top)) (bl d (unitOf d.top) || more) = true then low d + 1 else low d),
    if (hf d (unitOf d.top) || (bl d (unitOf d.top) || more)) = true then (if d.top < -1022 then 3 else 1) else 0)
def toS (d : Dy) (more : Bool) (dir : Int) : Nat × Nat := if d.m = 0 then (0, 0) else (withS d.s (magS d more dir).1, (magS d more dir).2)
theorem odd_pack {M : Nat} {t : Int} (h : PackOk M t) : packB M t % 2 = M % 2 := by
  have := h.lo
  unfold packB; split <;> omega
theorem fd_withS (s : Bool) {b : Nat} (hb : b < 9223372036854775808) : fd (withS s b) = ⟨s && decide ((fd b).m ≠ 0), (fd b).m, (fd b).e⟩ := by
  have hw := withS_fields s hb
  have hfm : fm (withS s b) = fm b := by unfold fm; rw [hw.2.2.1, hw.2.2.2.1]
  unfold fd
  rw [hfm, hw.2.1, hw.2.2.1, fs_small hb]
  generalize max (fe b : Int) 1 - 1075 = t
  unfold mkD
  by_cases hx : fm b = 0
  · simp only [hx, if_true]; cases s <;> rfl
  · simp only [hx, if_false]
    obtain ⟨m, hm⟩ := tz_spec hx
    have : fm b / 2 ^ tz (fm b) = 2 * m + 1 := Nat.div_eq_of_eq_mul_right (Nat.two_pow_pos _) hm
    rw [this]
    simp
theorem mkD_sw (s : Bool) (x : Nat) (e : Int) : (mkD s x e).m = (mkD false x e).m ∧ (mkD s x e).e = (mkD false x e).e := by
  unfold mkD; split <;> exact ⟨rfl, rfl⟩
theorem fd_inj {a b : Nat} (ha : a < 9223372036854775808) (hb : b < 9223372036854775808) (h : fd a = fd b) : a = b := by
  have h1 := fd_cmp ha hb
  rw [h, cmp_self] at h1
  have := (sgn_zero a b).1 h1.symm
  omega
theorem withS_self {b : Nat} (hb : b < W) : withS (fs b) (fsz b) = b := by
  have : b < 18446744073709551616 := hb
  unfold withS fs fsz
  by_cases h : 9223372036854775808 ≤ b
  · rw [decide_eq_true h, if_pos rfl]; omega
  · rw [decide_eq_false h, if_neg (by decide)]; omega
theorem exact_pack (s : Bool) {M v : Nat} {t : Int} (hv : v ≤ INF) (hfd : fd v = mkD false M t) :
    (if (mkD s M t).fits then exactS (mkD s M t) else none) = if M = 0 then some 0 else if v = INF then none else some (withS s v) := by
  have hI : INF = 9218868437227405312 := rfl
  by_cases hM : M = 0
  · rw [if_pos hM, hM]; rfl
  rw [if_neg hM]
  have hm0 : (mkD s M t).m ≠ 0 := by
    rw [mkD, if_neg hM]
    obtain ⟨m, hm⟩ := tz_spec hM
    have : M / 2 ^ tz M = 2 * m + 1 := Nat.div_eq_of_eq_mul_right (Nat.two_pow_pos _) hm
    show M / 2 ^ tz M ≠ 0
    omega
  have hsw := mkD_sw s M t
  have hs : (mkD s M t).s = s := by rw [mkD, if_neg hM]
  rcases exact_cases (mkD_ok s M t) with ⟨b, e1, hb, hfe, hfd2⟩ | ⟨e1, hn⟩
  · rw [e1]
    have hbW : b < 18446744073709551616 := hb
    have hz := fsz_lt b
    have e2 := fd_withS (fs b) hz
    rw [withS_self hb] at e2
    have e3 : fd (fsz b) = fd v := by
      rw [hfd]
      have q1 : (fd (fsz b)).m = (mkD false M t).m := by rw [← hsw.1, ← hfd2, e2]
      have q2 : (fd (fsz b)).e = (mkD false M t).e := by rw [← hsw.2, ← hfd2, e2]
      have q3 : (fd (fsz b)).s = (mkD false M t).s := by
        have : ∀ (x : Nat) (e : Int), (mkD false x e).s = false := fun x e => by unfold mkD; split <;> rfl
        unfold fd; rw [fs_small hz, this, this]
      revert q1 q2 q3
      cases fd (fsz b); cases mkD false M t
      simp only
      rintro rfl rfl rfl; rfl
    have e4 := fd_inj hz (by omega) e3
    have e5 : fs b = s := by
      rw [← hs, ← hfd2]
      have : fm b ≠ 0 := fun h => hm0 (by rw [← hfd2]; unfold fd; rw [h]; rfl)
      unfold fd; rw [mkD, if_neg this]
    rw [if_neg (fun h => by unfold fe at hfe; unfold fsz at e4; omega), ← e4, ← e5, withS_self hb]
  · rw [e1]
    by_cases h : v = INF
    · rw [if_pos h]
    · exfalso
      refine hn (withS s v) ?_ ?_
      · rw [(withS_fields s (by omega)).2.2.1]; unfold fe; omega
      · rw [fd_withS s (by omega), hfd]
        have h4 : (mkD false M t).m ≠ 0 := by rw [← hsw.1]; exact hm0
        rw [decide_eq_true h4, Bool.and_true, ← hsw.1, ← hsw.2]
        revert hs
        cases mkD s M t
        simp only
        rintro rfl; rfl
end
section
open Go PG Go.Proofs
def RD (p : PV) (d : Dy) : Prop := ∃ (s : Bool) (q : PV) (x : Nat) (e : Int), p = DP s q e ∧ Num q x ∧ bitLen x ≤ 1000000 ∧ d = mkD s x e
theorem RD.ok {p : PV} {d : Dy} (h : RD p d) : d.ok := by
  obtain ⟨s, q, x, e, _, _, _, rfl⟩ := h; exact mkD_ok _ _ _
theorem RD.bits {p : PV} {d : Dy} (h : RD p d) : bitLen d.m ≤ 1000000 := by
  obtain ⟨s, q, x, e, _, _, hb, rfl⟩ := h; exact Nat.le_trans (mkD_bits _ _ _) hb
theorem RD.range {p : PV} {d : Dy} (h : RD p d) : -2147483648 ≤ d.e ∧ d.e ≤ 2148483648 := by
  obtain ⟨s, q, x, e, _, _, hb, rfl⟩ := h; exact mkD_range _ _ _ hb
theorem mkD_m0 {s : Bool} {x : Nat} {e : Int} : (mkD s x e).m = 0 ↔ x = 0 := by
  constructor
  · intro h
    refine Decidable.byContradiction fun hx => ?_
    rw [mkD, if_neg hx] at h
    obtain ⟨m, hm⟩ := tz_spec hx
    have : x / 2 ^ tz x = 2 * m + 1 := Nat.div_eq_of_eq_mul_right (Nat.two_pow_pos _) hm
    have h' : x / 2 ^ tz x = 0 := h
    omega
  · intro h; subst h; rfl
theorem ok_self {d : Dy} (h : d.ok) (h1 : -2147483648 ≤ d.e) (h2 : d.e ≤ 2147483648) : mkD d.s d.m d.e = d := by
  rcases h with h | h
  · rw [h]; rfl
  · exact mkD_self h h1 h2
theorem RD.of {d : Dy} (h : d.ok) (hb : bitLen d.m ≤ 1000000) (h1 : -2147483648 ≤ d.e) (h2 : d.e ≤ 2147483648) : RD d.pv d :=
  ⟨d.s, NN d.m, d.m, d.e, rfl, num_bits hb, hb, (ok_self h h1 h2).symm⟩
theorem RD.fit {d : Dy} (h : d.ok) (hb : bitLen d.m ≤ 1000000) (hf : d.fits) : RD d.pv d := RD.of h hb (fits_r hf).1 (fits_r hf).2
theorem RD.zero : RD Dy.zero.pv .zero := RD.of Dy.zero_ok (by decide) (by decide) (by decide)
theorem RD.one {s : Bool} {x : Nat} {e : Int} (hx : x < W) : RD (DP s (.lst 1 [.int .u64 (x : Int)]) e) (mkD s x e) :=
  ⟨s, _, x, e, rfl, num_one hx, Nat.le_trans ((bitLen_le _ 64).2 hx) (by decide), rfl⟩
theorem mkD_odd {s : Bool} {x : Nat} {e : Int} (h : x % 2 = 1) (h1 : -2147483648 ≤ e) (h2 : e ≤ 2147483648) : mkD s x e = ⟨s, x, e⟩ := mkD_self (d := ⟨s, x, e⟩) h h1 h2
theorem r_bare {p : PV} {d : Dy} (h : RD p d) : PC E 97 [p] d.pv := by
  obtain ⟨s, q, x, e, rfl, hq, hb, rfl⟩ := h; exact c_bare hq hb s e
def okD (d : Dy) : PV := if d.fits then .tuple [d.pv, .int .i64 0] else .tuple [Dy.zero.pv, .int .i64 2]
theorem okD_ex (d : Dy) : ∃ (s : Bool) (n : Nat) (cs : List PV) (e c : Int), okD d = .tuple [.agg [.bool s, .lst n cs, .int .i64 e], .int .i64 c] := by
  unfold okD; split <;> exact ⟨_, _, _, _, _, rfl⟩
theorem r_Bare {p : PV} {d : Dy} (h : RD p d) : PC E 62 [p] (okD d) := by
  obtain ⟨s, q, x, e, rfl, hq, hb, rfl⟩ := h; exact c_DBare hq hb s e
theorem r_Top {p : PV} {d : Dy} (h : RD p d) : PC E 68 [p] (.tuple [.int .i64 d.top, .bool (decide (d.m ≠ 0))]) := by
  obtain ⟨s, q, x, e, rfl, hq, hb, rfl⟩ := h
  have h := c_Top hq hb s e
  rwa [show decide (x ≠ 0) = decide ((mkD s x e).m ≠ 0) from decide_eq_decide.2 (by rw [ne_eq, ne_eq, mkD_m0])] at h
theorem mkD_s {s : Bool} {x : Nat} {e : Int} (h : x ≠ 0) : (mkD s x e).s = s := by rw [mkD, if_neg h]
theorem r_Sign {p : PV} {d : Dy} (h : RD p d) : PC E 21 [p] (.int .i64 d.sg) := by
  obtain ⟨s, q, x, e, rfl, hq, hb, rfl⟩ := h
  refine PC.cast (c_Sign hq s e) ?_
  unfold Dy.sg
  by_cases hx : x = 0
  · rw [if_pos hx, if_pos (mkD_m0.2 hx)]
  · rw [if_neg hx, if_neg (fun h => hx (mkD_m0.1 h)), mkD_s hx]
theorem r_Exact {p : PV} {d : Dy} (h : RD p d) : PC E 167 [p] (exPV (if d.fits then exactS d else none)) := by
  obtain ⟨s, q, x, e, rfl, hq, hb, rfl⟩ := h; exact c_Exact hq hb s e
theorem r_Make {q : PV} {x : Nat} (hq : Num q x) (hb : bitLen x ≤ 1000000) (s : Bool) (e : Int) : PC E 60 [.bool s, q, .int .i64 e] (okD (mkD s x e)) := c_Make hq hb s e
theorem tab_zeros (x w p : Nat) (hp : p < 64) : ∀ j, j ≤ w → tab W (x * 2 ^ (64 * w + p)) j = List.replicate j 0
  | 0, _ => rfl
  | j + 1, h => by
    rw [tab_succ, tab_zeros x w p hp j (by omega), ← shl_digit x w p j hp, lb_neg _ _ (by omega), lb_neg _ _ (by omega), Nat.zero_mul, Nat.zero_mod, Nat.zero_div, Nat.or_self, List.replicate_succ']
theorem k_widened (x : Nat) (hb : bitLen x ≤ 1000000) (n : Int) (hn : n ≤ 1000000) (hn' : -9223372036854775808 ≤ n) : ∃ q, Num q (x * 2 ^ n.toNat) ∧ PC E 191 [NN x, .int .i64 n] q := by
  by_cases h0 : n ≤ 0
  · refine ⟨NN x, ?_, ?_⟩
    · rw [show n.toNat = 0 by omega, Nat.pow_zero, Nat.mul_one]; exact num_bits hb
    · refine PC.of_body follows Tryz.func191 (by decide +kernel) rfl (by kernel_rfl) (Nat.le_of_ble_eq_true rfl) (walk ?_)
      simp only [NN, NL]
      simp only [Tryz.f191, go_sem]
      refine qif_dt (by omega) ?_
      simp only [Tryz.f191, go_sem]
      rfl
  · obtain ⟨k, rfl⟩ : ∃ k : Nat, n = k := ⟨n.toNat, by omega⟩
    rw [Int.toNat_natCast]
    have hL := w_of_bits (x := x) (n := 15625) (by omega)
    have hlx := (dg_length_le W2 _ x).1 (Nat.le_refl _)
    have od := ok_dg W2 x
    have hv := dv_dg W2 x
    have e1 : IntKind.wrap .i64 ((k : Int).tdiv 64) = ((k / 64 : Nat) : Int) := by
      rw [Int.tdiv_eq_ediv_of_nonneg (by omega), wrap64 (by omega) (by omega)]; omega
    have e2 : (k : Int).tmod 64 = ((k % 64 : Nat) : Int) := by
      rw [Int.tmod_eq_emod_of_nonneg (by omega)]; omega
    have hkk : k = 64 * (k / 64) + k % 64 := by omega
    have hp : k % 64 < 64 := by omega
    have hw : k / 64 ≤ 15625 := by omega
    generalize k / 64 = w at *
    generalize k % 64 = p at *
    have hx : ∀ i, i < (dg W x).length → (U (dg W x))[i]? = some (u (x / W ^ i % W)) := fun i hi => by
      rw [U_get, ← dv_dg W2 x, ← dv_get W0 _ (ok_dg W2 x) i, dv_dg W2, List.getD_eq_getElem?_getD, List.getElem?_eq_getElem hi]; rfl
    generalize hLL : (dg W x).length = L at *
    have hy : x * 2 ^ k < W ^ (w + L + 1) := by
      have h2 : x * 2 ^ k < W ^ L * 2 ^ k := Nat.mul_lt_mul_of_pos_right hlx (Nat.two_pow_pos k)
      refine Nat.lt_of_lt_of_le h2 ?_
      rw [W_pow, W_pow, ← Nat.pow_add]
      exact Nat.pow_le_pow_right (by decide) (by omega)
    have hdig : ∀ i : Nat, (lb x i * 2 ^ p % W) ||| lb x ((i : Int) - 1) / 2 ^ (64 - p) = x * 2 ^ k / W ^ (w + i) % W := fun i => by
      have := shl_digit x w p (w + i) hp
      rw [show ((w + i : Nat) : Int) - w = (i : Int) by omega, ← hkk] at this
      exact this
    have hz := tab_zeros x w p hp w (Nat.le_refl _)
    rw [← hkk] at hz
    have hend : lb x L = 0 := by
      rw [lb_nat, Nat.div_eq_of_lt hlx, Nat.zero_mod]
    refine ⟨NL (tab W (x * 2 ^ k) (w + L + 1)), ⟨_, rfl, ok_tab W0 _ _, (dv_tab _ _).trans (Nat.mod_eq_of_lt hy), by rw [tab_length]; omega⟩, ?_⟩
    refine PC.of_body follows Tryz.func191 (by decide +kernel) rfl (by kernel_rfl) (Nat.le_of_ble_eq_true rfl) (walk ?_)
    simp only [NN, NL, hLL, tab_length]
    simp only [Tryz.f191, e1, e2, go_sem]
    refine qif_df h0 ?_
    simp only [Tryz.f191, e1, e2, go_sem]
    refine qand_i (by omega) ?_
    simp only [Tryz.f191, e1, e2, go_sem]
    let kk : Nat → Nat := fun i => match i with | 0 => 15 | _ + 1 => 31
    refine PLoop.intro (fun i : Nat => ⟨[(5, .row (kk i)), (6, .val (.int .i64 p)), (7, .val (u (lb x ((i : Int) - 1) / 2 ^ (64 - p)))), (18, .val (.lst L (U (dg W x)))), (19, .val (.int .i64 L)), (20, .val (.int .i64 i))],
      [(kk i, (.row 22 1 (w + i) (U (tab W (x * 2 ^ k) (w + i))), false))]⟩) (fun i => i ≤ L) (fun i => L - i) 0 (by omega) ?_ fun i hi => walk ?_
    · rw [Nat.add_zero, hz, lb_neg _ _ (by omega), Nat.zero_div]
      simp [Wk, sget, kk, u, U_replicate]
    have hwi : IntKind.wrap .i64 ((i : Int) + 1) = ((i + 1 : Nat) : Int) := by rw [wrap64 (by omega) (by omega)]; omega
    have f3 : IntKind.wrap .i64 (64 - (p : Int)) = ((64 - p : Nat) : Int) := by rw [wrap64 (by omega) (by omega)]; omega
    have hc : lb x ((i : Int) - 1) / 2 ^ (64 - p) < W := Nat.lt_of_le_of_lt (Nat.div_le_self _ _) (lb_lt _ _)
    have hd := hdig i
    have hl : x / W ^ i % W = lb x i := (lb_nat x i).symm
    have hll : lb x i < W := lb_lt _ _
    have hc' : lb x (((i + 1 : Nat) : Int) - 1) / 2 ^ (64 - p) = lb x i / 2 ^ (64 - p) := by rw [show ((i + 1 : Nat) : Int) - 1 = (i : Int) by omega]
    have hxi := hx i
    rw [hl] at hxi
    generalize lb x ((i : Int) - 1) / 2 ^ (64 - p) = c at *
    have f5 := b_shl (lb x i) p
    have f6 := b_shr hll (64 - p)
    have f7 := b_or (a := lb x i * 2 ^ p % W) (b := c) (Nat.mod_lt _ W0) hc
    rw [hd] at f7
    obtain ⟨g, hg⟩ : ∃ g : Nat → Nat, ∀ j, g j = x * 2 ^ k / W ^ j % W := ⟨_, fun _ => rfl⟩
    rw [← hg] at f7
    have hlast : i = L → c = g (w + L) := fun h => by
      subst h
      rw [hg, ← hd, hend, Nat.zero_mul, Nat.zero_mod, Nat.zero_or]
    generalize hll2 : lb x i = z at *
    have hrow : ∀ j, U (tab W (x * 2 ^ k) j) ++ [PV.int .u64 (g j : Int)] = U (tab W (x * 2 ^ k) (j + 1)) := fun j => by
      rw [tab_succ, ← U_append, hg]; rfl
    obtain ⟨j, hj⟩ : ∃ j, j = i + 1 := ⟨_, rfl⟩
    rcases i with _ | i
    all_goals
      simp only [kk]
      simp only [Tryz.f191, u, go_sem]
      refine qif_d (fun h => ?_) (fun h => ?_)
      · simp only [Tryz.f191, go_sem]
        refine qand_i (by omega) ?_
        simp only [Tryz.f191, go_sem]
        refine qval_i (congrArg (Option.map _) (hxi (by omega))) ?_
        simp only [Tryz.f191, u, f3, f5, f6, f7, go_sem]
        refine qand_i (by first | omega | (simp [V_length, U_length, tab_length, maxLen]; done) | (simp [V_length, U_length, tab_length, maxLen]; omega) | (refine ⟨?_, ?_⟩ <;> first | omega | (simp [V_length, U_length, tab_length, maxLen]; done) | (simp [V_length, U_length, tab_length, maxLen]; omega))) ?_; simp only [Tryz.f191, u, f3, f5, f6, f7, go_sem]
        refine qand_i (by first | omega | (simp [V_length, U_length, tab_length, maxLen]; done) | (simp [V_length, U_length, tab_length, maxLen]; omega) | (refine ⟨?_, ?_⟩ <;> first | omega | (simp [V_length, U_length, tab_length, maxLen]; done) | (simp [V_length, U_length, tab_length, maxLen]; omega))) ?_; simp only [Tryz.f191, u, f3, f5, f6, f7, go_sem]
        refine qand_i (by first | omega | (simp [V_length, U_length, tab_length, maxLen]; done) | (simp [V_length, U_length, tab_length, maxLen]; omega) | (refine ⟨?_, ?_⟩ <;> first | omega | (simp [V_length, U_length, tab_length, maxLen]; done) | (simp [V_length, U_length, tab_length, maxLen]; omega))) ?_; simp only [Tryz.f191, u, f3, f5, f6, f7, hwi, go_sem]
        refine ⟨j, by omega, by omega, ?_⟩
        subst hj
        rw [hc']
        simp [Wk, sget, kk, u, hrow, Nat.add_assoc]
      · simp only [Tryz.f191, go_sem]
        have e := hlast (by omega)
        refine qand_i (by first | omega | (simp [V_length, U_length, tab_length, maxLen]; done) | (simp [V_length, U_length, tab_length, maxLen]; omega) | (refine ⟨?_, ?_⟩ <;> first | omega | (simp [V_length, U_length, tab_length, maxLen]; done) | (simp [V_length, U_length, tab_length, maxLen]; omega))) ?_; simp only [Tryz.f191, go_sem]
        have e3 : L = j - 1 := by omega
        have e4 : NL (tab W (x * 2 ^ k) (w + L + 1)) = .lst (w + L + 1) (U (tab W (x * 2 ^ k) (w + L)) ++ [PV.int .u64 (g (w + L) : Int)]) := by
          rw [hrow, NL, tab_length]
        rw [e4, e, e3, hj]
        rfl
theorem r_Minus {p : PV} {d : Dy} (h : RD p d) : ∃ r, RD r d.neg ∧ (d.fits → r = d.neg.pv) ∧ PC E 102 [p] r := by
  have hok := h.ok
  have hbits := h.bits
  have hrange := h.range
  have k1 := r_bare h
  by_cases h0 : d.m = 0
  · refine ⟨Dy.zero.pv, ?_, ?_, ?_⟩
    · unfold Dy.neg; rw [if_pos h0]; exact RD.zero
    · intro _; unfold Dy.neg; rw [if_pos h0]
    · obtain ⟨s, q, x, e, rfl, hq, hb, hd⟩ := h
      refine PC.of_body follows Tryz.func102 (by decide +kernel) rfl (by kernel_rfl) (Nat.le_of_ble_eq_true rfl) (walk ?_)
      simp only [Dy.pv, DP, NN, NL] at k1 ⊢
      simp only [Tryz.f102, go_sem]
      refine qcall_i (k1) ?_; simp only [Tryz.f102, go_sem]
      refine qif_dt (by rw [h0]; rfl) ?_
      simp only [Tryz.f102, go_sem]
      rfl
  · have k2 : PC E 62 [DP (!d.s) (NN d.m) d.e] (if d.fits then .tuple [d.neg.pv, .int .i64 0] else .tuple [Dy.zero.pv, .int .i64 2]) := by
      have := c_DBare (num_bits (x := d.m) hbits) hbits (!d.s) d.e
      have ht : tz d.m = 0 := tz_of (m := d.m / 2) (by have := hok.odd h0; rw [Nat.pow_zero, Nat.one_mul]; omega)
      have hm : mkD (!d.s) d.m d.e = ⟨!d.s, d.m, cut d.e⟩ := by unfold mkD; rw [if_neg h0, ht]; simp
      rw [hm] at this
      have hc : cut d.e = d.e ∨ (2147483648 < d.e ∧ cut d.e = 2147483648) := by unfold cut; rw [if_neg (by omega)]; split <;> omega
      have hfi : Dy.fits ⟨!d.s, d.m, cut d.e⟩ ↔ d.fits := by
        unfold Dy.fits
        dsimp only
        omega
      by_cases hf : d.fits
      · rw [if_pos (hfi.2 hf)] at this
        rw [if_pos hf]
        have h3 := this
        have := hf.2
        have e1 : cut d.e = d.e := by omega
        unfold Dy.neg
        rw [if_neg h0]
        rwa [e1] at h3
      · rw [if_neg (fun h => hf (hfi.1 h))] at this
        rw [if_neg hf]
        exact this
    obtain ⟨s, q, x, e, rfl, hq, hb, hd⟩ := h
    have hx : x ≠ 0 := fun hx => h0 (by rw [hd, hx]; rfl)
    have hneg : d.neg = mkD (!s) x e := by
      unfold Dy.neg
      rw [if_neg h0, hd]
      unfold mkD
      rw [if_neg hx, if_neg hx]
    by_cases hf : d.fits
    · refine ⟨d.neg.pv, ?_, fun _ => rfl, ?_⟩
      · exact RD.fit (neg_ok hok) (by rw [neg_m]; exact hbits) (neg_fits hf)
      · refine PC.of_body follows Tryz.func102 (by decide +kernel) rfl (by kernel_rfl) (Nat.le_of_ble_eq_true rfl) (walk ?_)
        rw [if_pos hf] at k2
        have e9 : d.neg.pv = DP (!d.s) (NN d.m) d.e := by unfold Dy.neg; rw [if_neg h0]; rfl
        rw [e9] at k2 ⊢
        simp only [Dy.pv, DP, NN, NL] at k1 k2 ⊢
        simp only [Tryz.f102, go_sem]
        refine qcall_i (k1) ?_; simp only [Tryz.f102, go_sem]
        refine qif_df (fun h => h0 (dg_nil (by omega))) ?_
        simp only [Tryz.f102, go_sem]
        refine qcall_i (k2) ?_; simp only [Tryz.f102, go_sem]
        rfl
    · refine ⟨DP (!s) (NN x) e, ?_, fun h => absurd h hf, ?_⟩
      · exact ⟨!s, NN x, x, e, rfl, num_bits hb, hb, hneg⟩
      · refine PC.of_body follows Tryz.func102 (by decide +kernel) rfl (by kernel_rfl) (Nat.le_of_ble_eq_true rfl) (walk ?_)
        rw [if_neg hf] at k2
        have k3 := k_Bare hq
        simp only [Dy.zero, Dy.pv, DP, NN, NL] at k1 k2 k3 ⊢
        simp only [Tryz.f102, go_sem]
        refine qcall_i (k1) ?_; simp only [Tryz.f102, go_sem]
        refine qif_df (fun h => h0 (dg_nil (by omega))) ?_
        simp only [Tryz.f102, go_sem]
        refine qcall_i (k2) ?_; simp only [Tryz.f102, go_sem]
        refine qcall_i (k3) ?_; simp only [Tryz.f102, go_sem]
        rfl
theorem natAbs_at' (d : Dy) (k : Int) : (d.at k).natAbs = d.m * 2 ^ (d.e - k).toNat := by
  unfold Dy.at
  cases d.s <;> simp only [Bool.false_eq_true, if_false, if_true] <;> omega
theorem cmp_abs {a b : Dy} (h : a.sg = b.sg) (h0 : a.m ≠ 0) (h1 : b.m ≠ 0) : cmpD a b = a.sg * cmpD a.abs b.abs := by
  have ga : a.ge (min a.e b.e) := .inr (by omega)
  have gb : b.ge (min a.e b.e) := .inr (by omega)
  rw [cmp_at ga gb, cmp_at (abs_ge ga) (abs_ge gb), abs_at, abs_at]
  have sa := at_sg a (min a.e b.e)
  have sb := at_sg b (min a.e b.e)
  generalize a.at (min a.e b.e) = x at *
  generalize b.at (min a.e b.e) = y at *
  rw [← h] at sb
  unfold sgn
  rcases sg_range a with h2 | h2 | h2 <;> rw [h2] at sa sb ⊢ <;> (repeat' split) <;> omega
theorem top_of {d : Dy} (h : d.m ≠ 0) : d.top = bitLen d.m - 1 + d.e := if_neg h
theorem r_size {p q : PV} {a b : Dy} (ha : RD p a) (hb : RD q b) (za : a.m ≠ 0) (zb : b.m ≠ 0) : PC E 162 [p, q] (.int .i64 (cmpD a.abs b.abs)) := by
  have k1 := r_bare ha
  have k2 := r_bare hb
  have ba := ha.bits
  have bb := hb.bits
  have ra := ha.range
  have rb := hb.range
  have pa := bitLen_pos za
  have pb := bitLen_pos zb
  have ta := top_of za
  have tb := top_of zb
  have k3 := k_Bits (num_bits ba)
  have k4 := k_Bits (num_bits bb)
  have w1 : IntKind.wrap .i64 ((bitLen a.m : Int) + a.e) = bitLen a.m + a.e := wrap64 (by omega) (by omega)
  have w2 : IntKind.wrap .i64 ((bitLen b.m : Int) + b.e) = bitLen b.m + b.e := wrap64 (by omega) (by omega)
  have w3 : IntKind.wrap .i64 ((bitLen a.m : Int) - bitLen b.m) = (bitLen a.m : Int) - bitLen b.m := wrap64 (by omega) (by omega)
  have w4 : IntKind.wrap .i64 (0 - ((bitLen a.m : Int) - bitLen b.m)) = (bitLen b.m : Int) - bitLen a.m := by rw [wrap64 (by omega) (by omega)]; omega
  obtain ⟨q1, n1, k5⟩ := k_widened a.m ba ((bitLen b.m : Int) - bitLen a.m) (by omega) (by omega)
  obtain ⟨q2, n2, k6⟩ := k_widened b.m bb ((bitLen a.m : Int) - bitLen b.m) (by omega) (by omega)
  have k7 := k_Cmp n1 n2
  obtain ⟨s1, P, x1, e1, rfl, -⟩ := ha
  obtain ⟨s2, Q, x2, e2, rfl, -⟩ := hb
  refine PC.of_body follows Tryz.func162 (by decide +kernel) rfl (by kernel_rfl) (Nat.le_of_ble_eq_true rfl) (walk ?_)
  simp only [Dy.pv, DP, NN, NL] at k1 k2 k3 k4 k5 k6 ⊢
  simp only [Tryz.f162, go_sem]
  refine qcall_i (k1) ?_; simp only [Tryz.f162, go_sem]
  refine qcall_i (k2) ?_; simp only [Tryz.f162, go_sem]
  refine qcall_i (k3) ?_; simp only [Tryz.f162, w1, go_sem]
  refine qcall_i (k4) ?_; simp only [Tryz.f162, w1, w2, go_sem]
  refine qif_d (fun h => ?_) (fun h => ?_)
  · simp only [Tryz.f162, go_sem]
    refine qcall_i (c_Compare_int _ _) ?_
    simp only [Tryz.f162, go_sem]
    rw [cmpD_top (a := a.abs) (b := b.abs) za zb rfl (by rw [abs_top, abs_top]; omega), abs_top, abs_top]
    unfold sgn
    show (if _ then _ else _) = if (decide (a.top < b.top) != false) = true then (-1 : Int) else 1
    by_cases hlt : a.top < b.top
    · rw [decide_eq_true hlt, if_pos (by omega)]; rfl
    · rw [decide_eq_false hlt, if_neg (by omega), if_pos (by omega)]; rfl
  · simp only [Tryz.f162, go_sem]
    refine qcall_i (k3) ?_; simp only [Tryz.f162, w3, go_sem]
    refine qcall_i (k4) ?_; simp only [Tryz.f162, w3, w4, go_sem]
    refine qcall_i (k5) ?_; simp only [Tryz.f162, w3, w4, go_sem]
    refine qcall_i (k6) ?_; simp only [Tryz.f162, go_sem]
    refine qcall_i (k7) ?_; simp only [Tryz.f162, go_sem]
    rw [cmp_at (a := a.abs) (b := b.abs) (k := min a.e b.e) (abs_le (by omega)) (abs_le (by omega)), abs_at, abs_at, natAbs_at', natAbs_at']
    rw [show (a.e - min a.e b.e).toNat = ((bitLen b.m : Int) - bitLen a.m).toNat by omega, show (b.e - min a.e b.e).toNat = ((bitLen a.m : Int) - bitLen b.m).toNat by omega]
theorem r_Cmp {p q : PV} {a b : Dy} (ha : RD p a) (hb : RD q b) : PC E 101 [p, q] (.int .i64 (cmpD a b)) := by
  have k1 := r_Sign ha
  have k2 := r_Sign hb
  have k3 := fun za zb => r_size ha hb za zb
  have ra := sg_range a
  have rb := sg_range b
  obtain ⟨s1, P, x1, e1, rfl, -⟩ := ha
  obtain ⟨s2, Q, x2, e2, rfl, -⟩ := hb
  refine PC.of_body follows Tryz.func101 (by decide +kernel) rfl (by kernel_rfl) (Nat.le_of_ble_eq_true rfl) (walk ?_)
  simp only [DP] at k1 k2 k3 ⊢
  simp only [Tryz.f101, go_sem]
  refine qcall_i (k1) ?_; simp only [Tryz.f101, go_sem]
  refine qcall_i (k2) ?_; simp only [Tryz.f101, go_sem]
  by_cases hs : a.sg ≠ b.sg ∨ a.sg = 0
  · rw [cmpD_sg hs]
    have k4 := c_Compare_int a.sg b.sg
    by_cases h3 : a.sg = b.sg
    · refine qif_df (fun h => h h3) ?_
      simp only [Tryz.f101, go_sem]
      refine qif_dt (by omega) ?_
      simp only [Tryz.f101, go_sem]
      refine qcall_i (k4) ?_; simp only [Tryz.f101, go_sem]
    · refine qif_dt h3 ?_
      simp only [Tryz.f101, go_sem]
      refine qcall_i (k4) ?_; simp only [Tryz.f101, go_sem]
  · have za : a.m ≠ 0 := fun h => hs (.inr (by unfold Dy.sg; rw [if_pos h]))
    have zb : b.m ≠ 0 := fun h => hs (by
      have : b.sg = 0 := by unfold Dy.sg; rw [if_pos h]
      omega)
    refine qif_df (by omega) ?_
    simp only [Tryz.f101, go_sem]
    refine qif_df (by omega) ?_
    simp only [Tryz.f101, go_sem]
    refine qcall_i (k3 za zb) ?_; simp only [Tryz.f101, go_sem]
    have hc := cmp_range a.abs b.abs
    rw [cmp_abs (by omega) za zb]
    rcases sg_range a with h | h | h <;> rw [h] <;> exact wrap64 (by omega) (by omega)
def addE (a b : Dy) : Prop := a.fits ∧ b.fits ∧ (a.m ≠ 0 → b.m ≠ 0 → max a.top b.top - min a.e b.e ≤ 65535) ∧ (addS a b).fits
instance (a b : Dy) : Decidable (addE a b) := inferInstanceAs (Decidable (_ ∧ _))
def addV (a b : Dy) : PV := if addE a b then .tuple [(addS a b).pv, .int .i64 0] else .tuple [Dy.zero.pv, .int .i64 2]
theorem add_same {a b : Dy} (h : a.s = b.s) : mkD a.s (a.m * 2 ^ (a.e - min a.e b.e).toNat + b.m * 2 ^ (b.e - min a.e b.e).toNat) (min a.e b.e) = addS a b := by
  unfold addS norm Dy.at
  rw [← h]
  generalize a.m * 2 ^ (a.e - min a.e b.e).toNat = x
  generalize b.m * 2 ^ (b.e - min a.e b.e).toNat = y
  cases a.s
  · simp only [Bool.false_eq_true, if_false, Int.one_mul]
    rw [decide_eq_false (by omega), show ((x : Int) + (y : Int)).natAbs = x + y by omega]
  · simp only [if_true]
    by_cases h0 : x + y = 0
    · rw [h0, show (-1 * (x : Int) + -1 * (y : Int)) = 0 by omega]; rfl
    · rw [decide_eq_true (show -1 * (x : Int) + -1 * (y : Int) < 0 by omega), show (-1 * (x : Int) + -1 * (y : Int)).natAbs = x + y by omega]
theorem add_diff {a b : Dy} (h : a.s ≠ b.s) (hle : b.m * 2 ^ (b.e - min a.e b.e).toNat ≤ a.m * 2 ^ (a.e - min a.e b.e).toNat) :
    mkD a.s (a.m * 2 ^ (a.e - min a.e b.e).toNat - b.m * 2 ^ (b.e - min a.e b.e).toNat) (min a.e b.e) = addS a b := by
  unfold addS norm Dy.at
  generalize a.m * 2 ^ (a.e - min a.e b.e).toNat = x at *
  generalize b.m * 2 ^ (b.e - min a.e b.e).toNat = y at *
  generalize min a.e b.e = k
  revert h
  cases a.s <;> cases b.s <;> intro h <;> simp only [Bool.false_eq_true, if_false, if_true, Int.one_mul, ne_eq, not_true_eq_false] at h ⊢
  · rw [decide_eq_false (by omega), show ((x : Int) + -1 * (y : Int)).natAbs = x - y by omega]
  · by_cases h0 : x = y
    · rw [h0, Nat.sub_self, show -1 * (y : Int) + (y : Int) = 0 by omega]; rfl
    · rw [decide_eq_true (by omega), show (-1 * (x : Int) + (y : Int)).natAbs = x - y by omega]
theorem r_Add {p q : PV} {a b : Dy} (ha : RD p a) (hb : RD q b) : PC E 118 [p, q] (addV a b) := by
  have k1 := r_Bare ha
  have k2 := r_Bare hb
  have oa := ha.ok
  have ob := hb.ok
  have ba := ha.bits
  have bb := hb.bits
  obtain ⟨s1, P, x1, e1, rfl, -⟩ := ha
  obtain ⟨s2, Q, x2, e2, rfl, -⟩ := hb
  refine PC.of_body follows Tryz.func118 (by decide +kernel) rfl (by kernel_rfl) (Nat.le_of_ble_eq_true rfl) (walk ?_)
  unfold okD at k1 k2
  by_cases fa : a.fits
  case neg =>
    rw [if_neg fa] at k1
    unfold addV
    rw [if_neg (fun h => fa h.1)]
    simp only [Dy.pv, Dy.zero, DP, NN, NL] at k1 ⊢
    simp only [Tryz.f118, go_sem]
    refine qcall_i (k1) ?_; simp only [Tryz.f118, go_sem]
    rfl
  rw [if_pos fa] at k1
  by_cases fb : b.fits
  case neg =>
    rw [if_neg fb] at k2
    unfold addV
    rw [if_neg (fun h => fb h.2.1)]
    simp only [Dy.pv, Dy.zero, DP, NN, NL] at k1 k2 ⊢
    simp only [Tryz.f118, go_sem]
    refine qcall_i (k1) ?_; simp only [Tryz.f118, go_sem]
    refine qcall_i (k2) ?_; simp only [Tryz.f118, go_sem]
    rfl
  rw [if_pos fb] at k2
  have k3 := r_Top (RD.fit oa ba fa)
  have k4 := r_Top (RD.fit ob bb fb)
  by_cases za : a.m = 0
  · have e : addV a b = .tuple [b.pv, .int .i64 0] := by
      unfold addV
      rw [if_pos ⟨fa, fb, fun h => absurd za h, by rw [addS_zl ob fa fb za]; exact fb⟩, addS_zl ob fa fb za]
    rw [e]
    simp only [Dy.pv, Dy.zero, DP, NN, NL] at k1 k2 ⊢
    simp only [Tryz.f118, go_sem]
    refine qcall_i (k1) ?_; simp only [Tryz.f118, go_sem]
    refine qcall_i (k2) ?_; simp only [Tryz.f118, go_sem]
    refine qif_dt (by rw [za]; rfl) ?_
    simp only [Tryz.f118, go_sem]
    rfl
  by_cases zb : b.m = 0
  · have e : addV a b = .tuple [a.pv, .int .i64 0] := by
      unfold addV
      rw [if_pos ⟨fa, fb, fun _ h => absurd zb h, by rw [addS_zr oa fa fb zb]; exact fa⟩, addS_zr oa fa fb zb]
    rw [e]
    simp only [Dy.pv, Dy.zero, DP, NN, NL] at k1 k2 ⊢
    simp only [Tryz.f118, go_sem]
    refine qcall_i (k1) ?_; simp only [Tryz.f118, go_sem]
    refine qcall_i (k2) ?_; simp only [Tryz.f118, go_sem]
    refine qif_df (fun h => za (dg_nil (by omega))) ?_
    simp only [Tryz.f118, go_sem]
    refine qif_dt (by rw [zb]; rfl) ?_
    simp only [Tryz.f118, go_sem]
    rfl
  have fa1 := fa.1
  have fa2 := fa.2
  have fb1 := fb.1
  have fb2 := fb.2
  have ta := top_of za
  have tb := top_of zb
  have pa := bitLen_pos za
  have pb := bitLen_pos zb
  have w1 : IntKind.wrap .i64 (max a.top b.top - min a.e b.e) = max a.top b.top - min a.e b.e := wrap64 (by omega) (by omega)
  have w2 : IntKind.wrap .i64 (a.e - min a.e b.e) = a.e - min a.e b.e := wrap64 (by omega) (by omega)
  have w3 : IntKind.wrap .i64 (b.e - min a.e b.e) = b.e - min a.e b.e := wrap64 (by omega) (by omega)
  simp only [Dy.pv, Dy.zero, DP, NN, NL] at k1 k2 k3 k4 ⊢
  simp only [Tryz.f118, go_sem]
  refine qcall_i (k1) ?_; simp only [Tryz.f118, go_sem]
  refine qcall_i (k2) ?_; simp only [Tryz.f118, go_sem]
  refine qif_df (fun h => za (dg_nil (by omega))) ?_
  simp only [Tryz.f118, go_sem]
  refine qif_df (fun h => zb (dg_nil (by omega))) ?_
  simp only [Tryz.f118, go_sem]
  refine qcall_i (k3) ?_; simp only [Tryz.f118, go_sem]
  refine qcall_i (k4) ?_; simp only [Tryz.f118, w1, go_sem]
  refine qif_d (fun h => ?_) (fun h => ?_)
  · simp only [Tryz.f118, go_sem]
    unfold addV
    rw [if_neg (fun hh => by have := hh.2.2.1 za zb; omega)]
    rfl
  have s1' := bitLen_shl_le a.m (a.e - min a.e b.e).toNat
  have s2' := bitLen_shl_le b.m (b.e - min a.e b.e).toNat
  obtain ⟨q1, n1, k5⟩ := k_widened a.m ba (a.e - min a.e b.e) (by omega) (by omega)
  obtain ⟨q2, n2, k6⟩ := k_widened b.m bb (b.e - min a.e b.e) (by omega) (by omega)
  have hfin : addV a b = okD (addS a b) := by
    unfold addV okD
    by_cases hf : (addS a b).fits
    · rw [if_pos hf, if_pos ⟨fa, fb, fun _ _ => by omega, hf⟩]
    · rw [if_neg hf, if_neg (fun h => hf h.2.2.2)]
  rw [hfin]
  have es := add_same (a := a) (b := b)
  have ed := add_diff (a := a) (b := b)
  have ed' := add_diff (a := b) (b := a)
  rw [show min b.e a.e = min a.e b.e by omega, addS_comm b a] at ed'
  generalize addS a b = s at *
  obtain ⟨S1, S2, S3, S4, S5, hS⟩ := okD_ex s
  generalize a.m * 2 ^ (a.e - min a.e b.e).toNat = x at *
  generalize b.m * 2 ^ (b.e - min a.e b.e).toNat = y at *
  have k7 := k_Add n1 n2
  have k8 := k_Cmp n1 n2
  simp only [NN, NL] at k5 k6 k7
  simp only [Tryz.f118, w2, go_sem]
  refine qcall_i (k5) ?_; simp only [Tryz.f118, w3, go_sem]
  refine qcall_i (k6) ?_; simp only [Tryz.f118, go_sem]
  have bx : bitLen x ≤ 65536 := by omega
  have by' : bitLen y ≤ 65536 := by omega
  have bxy := bitLen_add bx by'
  by_cases hs : a.s = b.s
  · have h6 : (a.s == b.s) = true := by rw [hs]; exact beq_self_eq_true _
    have k9 := r_Make (num_bits (x := x + y) (by omega)) (by omega) a.s (min a.e b.e)
    rw [es hs, hS] at k9
    rw [hS]
    simp only [Tryz.f118, h6, go_sem]
    refine qcall_i (k7) ?_; simp only [Tryz.f118, go_sem]
    refine qcall_i (k9) ?_; simp only [Tryz.f118, go_sem]
  · have h6 : (a.s == b.s) = false := by simpa using hs
    simp only [Tryz.f118, h6, go_sem]
    refine qcall_i (k8) ?_; simp only [Tryz.f118, go_sem]
    by_cases hxy : y ≤ x
    · have k10 := k_Sub n1 n2 hxy
      have b1 := bitLen_mono (Nat.sub_le x y)
      have k9 := r_Make (num_bits (x := x - y) (by omega)) (by omega) a.s (min a.e b.e)
      rw [ed hs hxy, hS] at k9
      rw [hS]
      simp only [NN, NL] at k9 k10
      refine qif_df (by have := sgn_neg x y; omega) ?_
      simp only [Tryz.f118, go_sem]
      refine qcall_i (k10) ?_; simp only [Tryz.f118, go_sem]
      refine qcall_i (k9) ?_; simp only [Tryz.f118, go_sem]
    · have k10 := k_Sub n2 n1 (by omega)
      have b1 := bitLen_mono (Nat.sub_le y x)
      have k9 := r_Make (num_bits (x := y - x) (by omega)) (by omega) b.s (min a.e b.e)
      rw [ed' (fun h => hs h.symm) (by omega), hS] at k9
      rw [hS]
      simp only [NN, NL] at k9 k10
      refine qif_dt (by have := (sgn_neg x y).2 (by omega); omega) ?_
      simp only [Tryz.f118, go_sem]
      refine qcall_i (k10) ?_; simp only [Tryz.f118, go_sem]
      refine qcall_i (k9) ?_; simp only [Tryz.f118, go_sem]
def scaleV (d : Dy) (n : Int) : PV := if d.fits then okD (d.sc (min (max n (-4294967296)) 4294967296)) else .tuple [Dy.zero.pv, .int .i64 2]
end
section
open Go PG Go.Proofs
theorem fm_fsz (b : Nat) : fm (fsz b) = fm b ∧ fe (fsz b) = fe b := by
  have e1 : fe (fsz b) = fe b := by unfold fe fsz; omega
  have e2 : ff (fsz b) = ff b := by unfold ff fsz; omega
  unfold fm; rw [e1, e2]; exact ⟨rfl, rfl⟩
theorem fm_zero {b : Nat} (hf : fe b < 2047) : fm b = 0 ↔ fsz b = 0 := by
  unfold fm fe ff fsz at *
  split <;> omega
theorem fd_abs (b : Nat) : (fd b).abs = fd (fsz b) := by
  obtain ⟨e1, e2⟩ := fm_fsz b
  have h := fs_small (fsz_lt b)
  unfold fd Dy.abs
  rw [e1, e2, h]
  unfold mkD
  split <;> rfl
theorem fd_m0 {b : Nat} (hf : fe b < 2047) : (fd b).m = 0 ↔ fsz b = 0 := by
  unfold fd
  rw [mkD_m0, fm_zero hf]
theorem fd_s {b : Nat} (h : (fd b).m ≠ 0) : (fd b).s = fs b := by
  unfold fd at *
  exact mkD_s (fun h2 => h (by rw [h2]; rfl))
theorem RD.fd (b : Nat) : RD (fd b).pv (fd b) := RD.fit (fd_ok' b) (by have := fd_bits b; omega) (fd_fits b)
theorem r_FDyad {b : Nat} (hb : b < W) : PC E 20 [u b] (.tuple [(if fe b < 2047 then fd b else .zero).pv, .bool (decide (fe b < 2047))]) := by
  refine PC.cast (c_FDyad b hb) ?_
  by_cases h : fe b < 2047
  · rw [if_pos h, if_pos h, decide_eq_true h]
  · rw [if_neg h, if_neg h, decide_eq_false h]
end
end
theorem one_blk {σ : List (Nat × (Bk × Bool))} {k : Nat} {b : Bk} (h : sget σ k = some (b, false)) : ∀ (i : Nat) (bb : Bk) (k' : Nat), [b][i]? = some bb → [k][i]? = some k' → sget σ k' = some (bb, false)
  | 0, bb, k', hb, hk => by
    simp only [List.getElem?_cons_zero, Option.some.injEq] at hb hk
    subst hb hk
    exact h
  | i + 1, bb, k', hb, hk => by simp at hb
theorem two_blk {σ : List (Nat × (Bk × Bool))} {k j : Nat} {b c : Bk} (h : sget σ k = some (b, false) ∧ sget σ j = some (c, false)) : ∀ (i : Nat) (bb : Bk) (k' : Nat), [b, c][i]? = some bb → [k, j][i]? = some k' → sget σ k' = some (bb, false)
  | 0, bb, k', hb, hk => by
    simp only [List.getElem?_cons_zero, Option.some.injEq] at hb hk
    subst hb hk
    exact h.1
  | 1, bb, k', hb, hk => by
    simp only [List.getElem?_cons_succ, List.getElem?_cons_zero, Option.some.injEq] at hb hk
    subst hb hk
    exact h.2
  | i + 2, bb, k', hb, hk => by simp at hb
theorem fin1 {E : PE} {N : Nat} {rs : List ResultVar} {b : Bk} {s : ES} {pv : PV} (h0 : 0 < N) (hσ : sget s.σ N = some (b, false)) (hp : presF E s rs = some (pv, [])) : finM E N 1 rs (.val pv) [b] s :=
  finM_val h0 (fun i bb hb => by
    match i, hb with
    | 0, hb => simp only [List.getElem?_cons_zero, Option.some.injEq] at hb; subst hb; exact hσ
    | i + 1, hb => simp at hb) rfl hp (fun _ _ h => by cases h)
theorem fin2 {E : PE} {N : Nat} {rs : List ResultVar} {b c : Bk} {s : ES} {pv : PV} (h0 : 0 < N) (h1 : sget s.σ N = some (b, false)) (h2 : sget s.σ (N + 1) = some (c, false)) (hp : presF E s rs = some (pv, [])) : finM E N 2 rs (.val pv) [b, c] s :=
  finM_val h0 (fun i bb hb => by
    match i, hb with
    | 0, hb => simp only [List.getElem?_cons_zero, Option.some.injEq] at hb; subst hb; exact h1
    | 1, hb => simp only [List.getElem?_cons_succ, List.getElem?_cons_zero, Option.some.injEq] at hb; subst hb; exact h2
    | i + 2, hb => simp at hb) rfl hp (fun _ _ h => by cases h)
section
section
open Go PG Go.Proofs
theorem addD_ge {a b : Dy} {k : Int} (ha : a.ge k) (hb : b.ge k) : (addD a b).ge k := by
  unfold addD
  by_cases za : a.m = 0
  · rw [if_pos za]; exact hb
  by_cases zb : b.m = 0
  · rw [if_neg za, if_pos zb]; exact ha
  have g1 := ha.resolve_left za
  have g2 := hb.resolve_left zb
  rw [if_neg za, if_neg zb]
  split
  · exact .inr (show k ≤ min a.e b.e by omega)
  · split <;> exact .inr (show k ≤ min a.e b.e by omega)
theorem addD_at {a b : Dy} {k : Int} (ha : a.ge k) (hb : b.ge k) : (addD a b).at k = a.at k + b.at k := by
  by_cases za : a.m = 0
  · rw [at_zero za, Int.zero_add]; unfold addD; rw [if_pos za]
  by_cases zb : b.m = 0
  · rw [at_zero zb, Int.add_zero]; unfold addD; rw [if_neg za, if_pos zb]
  have g1 := ha.resolve_left za
  have g2 := hb.resolve_left zb
  have hge := addD_ge (a := a) (b := b) (k := min a.e b.e) (.inr (by omega)) (.inr (by omega))
  rw [at_shift' (d := addD a b) (k' := min a.e b.e) (by omega) hge, at_shift' (d := a) (k' := min a.e b.e) (by omega) (.inr (by omega)), at_shift' (d := b) (k' := min a.e b.e) (by omega) (.inr (by omega)), ← Int.add_mul]
  congr 1
  unfold addD
  rw [if_neg za, if_neg zb]
  unfold Dy.at
  generalize hk : min a.e b.e = k' at *
  generalize a.m * 2 ^ (a.e - k').toNat = x
  generalize b.m * 2 ^ (b.e - k').toNat = y
  by_cases hs : a.s = b.s
  · rw [if_pos hs, hs]
    dsimp only
    rw [Int.sub_self, show (0 : Int).toNat = 0 from rfl, Nat.pow_zero, Nat.mul_one]
    cases b.s <;> simp <;> omega
  · rw [if_neg hs]
    by_cases hxy : y ≤ x
    · rw [if_pos hxy]
      dsimp only
      rw [Int.sub_self, show (0 : Int).toNat = 0 from rfl, Nat.pow_zero, Nat.mul_one]
      revert hs
      cases a.s <;> cases b.s <;> simp <;> omega
    · rw [if_neg hxy]
      dsimp only
      rw [Int.sub_self, show (0 : Int).toNat = 0 from rfl, Nat.pow_zero, Nat.mul_one]
      revert hs
      cases a.s <;> cases b.s <;> simp <;> omega
def mid7 (b : Nat) : Dy := ⟨(addD (fd b) (fd (b + 1))).s, (addD (fd b) (fd (b + 1))).m, (addD (fd b) (fd (b + 1))).e - 1⟩
theorem addD_e {a b : Dy} {l h : Int} (ha : l ≤ a.e ∧ a.e ≤ h) (hb : l ≤ b.e ∧ b.e ≤ h) : l ≤ (addD a b).e ∧ (addD a b).e ≤ h := by
  unfold addD
  split
  · exact hb
  · split
    · exact ha
    · split
      · exact ⟨show l ≤ min a.e b.e by omega, show min a.e b.e ≤ h by omega⟩
      · split <;> exact ⟨show l ≤ min a.e b.e by omega, show min a.e b.e ≤ h by omega⟩
end
section
open Go PG Go.Proofs
def upS (b : Nat) : Nat := if fe b < 2047 then (if b = 9223372036854775808 then 1 else if fs b = true then b - 1 else b + 1) else 0
def downS (b : Nat) : Nat := if fe b < 2047 then (if b = 0 then 9223372036854775809 else if fs b = true then b + 1 else b - 1) else 0
theorem b_lt {b : Nat} (hb : b < W) : b < 18446744073709551616 := hb
def mdS (b : Nat) : Dy := ⟨fs b, (mid b).m, (mid b).e⟩
end
section
open Go PG Go.Proofs
def brkP (d : Dy) : Prop := d.m = 0 ∨ (if 1023 < d.top then d.e = 1024 ∧ d.m = 1 else unitOf d.top - 1 ≤ d.e)
instance (d : Dy) : Decidable (brkP d) := inferInstanceAs (Decidable (_ ∨ _))
theorem bits_one (x : Nat) : bitLen x = 1 ↔ x = 1 := by
  constructor
  · intro h
    have h1 := (bitLen_le x 1).1 (by omega)
    have h2 : ¬ x < 2 ^ 0 := fun h2 => by have := (bitLen_le x 0).2 h2; omega
    omega
  · rintro rfl; decide
theorem c_Break {p : PV} {d : Dy} (h : RD p d) : PC E 24 [p] (.bool (decide (d.fits ∧ brkP d))) := by
  have k1 := r_Bare h
  have hok := h.ok
  have hbits := h.bits
  obtain ⟨s, q, x, e, rfl, -⟩ := h
  refine PC.of_body follows Tryz.func24 (by decide +kernel) rfl (by kernel_rfl) (Nat.le_of_ble_eq_true rfl) (walk ?_)
  unfold okD at k1
  by_cases hf : d.fits
  · rw [if_pos hf] at k1
    have k2 := r_Top (RD.fit hok hbits hf)
    have k3 := k_Bits (num_bits hbits)
    have e1 : decide (d.fits ∧ brkP d) = decide (brkP d) := decide_eq_decide.2 ⟨fun h => h.2, fun h => ⟨hf, h⟩⟩
    rw [e1]
    have f1 := hf.1
    have f2 := hf.2
    have hbo := bits_one d.m
    by_cases h0 : d.m = 0
    · rw [decide_eq_false (by simpa using h0)] at k2
      simp only [Dy.pv, DP, NN, NL] at k1 k2 ⊢
      simp only [Tryz.f24, go_sem]
      refine qcall_i (k1) ?_; simp only [Tryz.f24, go_sem]
      refine qcall_i (k2) ?_; simp only [Tryz.f24, go_sem]
      exact (decide_eq_true (show brkP d from .inl h0)).symm
    · rw [decide_eq_true h0] at k2
      have ht := top_of h0
      have hp := bitLen_pos h0
      have w1 : IntKind.wrap .i64 (d.top - 52) = d.top - 52 := wrap64 (by omega) (by omega)
      have w2 : IntKind.wrap .i64 (max (d.top - 52) (-1074) - 1) = max (d.top - 52) (-1074) - 1 := wrap64 (by omega) (by omega)
      simp only [Dy.pv, DP, NN, NL] at k1 k2 k3 ⊢
      simp only [Tryz.f24, go_sem]
      refine qcall_i (k1) ?_; simp only [Tryz.f24, go_sem]
      refine qcall_i (k2) ?_; simp only [Tryz.f24, go_sem]
      refine qif_d (fun h1 => ?_) (fun h1 => ?_)
      · simp only [Tryz.f24, go_sem]
        refine qif_d (fun h2 => ?_) (fun h2 => ?_)
        · simp only [Tryz.f24, go_sem]
          refine qcall_i (k3) ?_; simp only [Tryz.f24, go_sem]
          refine decide_eq_decide.2 ?_
          unfold brkP
          rw [if_pos (show 1023 < d.top from h1)]
          exact ⟨fun h3 => .inr ⟨h2, hbo.1 (by omega)⟩, fun h3 => by have := hbo.2 (h3.resolve_left h0).2; omega⟩
        · simp only [Tryz.f24, go_sem]
          refine (decide_eq_false ?_).symm
          unfold brkP
          rw [if_pos (show 1023 < d.top from h1)]
          exact fun h3 => h2 (h3.resolve_left h0).1
      · simp only [Tryz.f24, w1, w2, go_sem]
        refine decide_eq_decide.2 ?_
        unfold brkP
        rw [if_neg (show ¬ 1023 < d.top from fun h => h1 h)]
        unfold unitOf
        exact ⟨fun h3 => .inr h3, fun h3 => h3.resolve_left h0⟩
  · rw [if_neg hf] at k1
    have k2 := r_Top RD.zero
    rw [decide_eq_false (fun h : d.fits ∧ brkP d => hf h.1)]
    have e0 : (Dy.zero.m ≠ 0) = False := by simp [Dy.zero]
    simp only [e0, Dy.pv, Dy.zero, DP, NN, NL] at k1 k2 ⊢
    simp only [Tryz.f24, go_sem]
    refine qcall_i (k1) ?_; simp only [Tryz.f24, go_sem]
    refine qcall_i (k2) ?_; simp only [Tryz.f24, go_sem]
def high (d : Dy) : Nat := if d.m = 0 ∨ 1023 < d.top ∨ unitOf d.top ≤ d.e then low d else low d + 1
theorem flo_small {d : Dy} (h0 : d.m ≠ 0) {t : Int} (h : d.top < t) : flo d t = 0 := by
  have hs := flo_spec d t (k := min d.e t) (by omega) (by omega)
  have ht := top_at h0 (k := min d.e t) (by omega)
  have h2 : 2 ^ (d.top + 1 - min d.e t).toNat ≤ 2 ^ (t - min d.e t).toNat := Nat.pow_le_pow_right (by decide) (by omega)
  have h3 : flo d t < 1 := Nat.lt_of_mul_lt_mul_right (a := 2 ^ (t - min d.e t).toNat) (by omega)
  omega
end
section
open Go PG Go.Proofs
theorem c_up (dir : Int) (s : Bool) : PC E 163 [.int .i64 dir, .bool s] (.bool (upw dir s)) := by
  refine PC.of_body follows Tryz.func163 (by decide +kernel) rfl (by kernel_rfl) (Nat.le_of_ble_eq_true rfl) (walk ?_)
  unfold upw
  by_cases h2 : dir = 2
  · subst h2
    cases s
    · simp only [Tryz.f163, go_sem]
      rfl
    · simp only [Tryz.f163, go_sem]
      rfl
  · by_cases h3 : dir = 3
    · subst h3
      cases s
      · simp only [Tryz.f163, go_sem]
        rfl
      · simp only [Tryz.f163, go_sem]
        rfl
    · rw [decide_eq_false h2, decide_eq_false h3]
      cases s
      all_goals
        simp only [Tryz.f163, go_sem]
        refine qif_df h2 ?_
        simp only [Tryz.f163, go_sem]
        refine qif_df h3 ?_
        simp only [Tryz.f163, go_sem]
        rfl
theorem c_away (dir : Int) (s odd half below : Bool) : PC E 218 [.int .i64 dir, .bool s, .bool odd, .bool half, .bool below] (.bool (awayS dir s odd half below)) := by
  refine PC.of_body follows Tryz.func218 (by decide +kernel) rfl (by kernel_rfl) (Nat.le_of_ble_eq_true rfl) (walk ?_)
  have k := c_up dir s
  unfold awayS
  generalize upw dir s = v at *
  by_cases h0 : dir = 0
  · rw [if_pos h0]
    simp only [Tryz.f218, go_sem]
    refine qif_dt h0 ?_
    simp only [Tryz.f218, go_sem]
    cases half <;> cases below <;> (try simp only [Tryz.f218, go_sem]) <;> rfl
  · rw [if_neg h0]
    simp only [Tryz.f218, go_sem]
    refine qif_df h0 ?_
    simp only [Tryz.f218, go_sem]
    cases half <;> cases below <;> (try simp only [Tryz.f218, go_sem]) <;> (try (refine qcall_i (k) ?_; simp only [Tryz.f218, go_sem])) <;> (try rfl)
theorem bl_n {d : Dy} {t : Int} (h : d.e < t) : bl d t = decide (d.m % 2 ^ ((t - d.e).toNat - 1) ≠ 0) ∧ flo d (t - 1) = d.m / 2 ^ ((t - d.e).toNat - 1) ∧ flo d t = d.m / 2 ^ (t - d.e).toNat := by
  unfold bl flo
  rw [show (d.e - (t - 1)).toNat = 0 by omega, show (d.e - t).toNat = 0 by omega, Nat.pow_zero, Nat.mul_one, show (t - 1 - d.e).toNat = (t - d.e).toNat - 1 by omega]
  exact ⟨rfl, rfl, rfl⟩
theorem bl_p {d : Dy} {t : Int} (h : t ≤ d.e) : bl d t = false ∧ hf d t = false ∧ flo d t = d.m * 2 ^ (d.e - t).toNat := by
  unfold bl hf flo
  rw [show (t - 1 - d.e).toNat = 0 by omega, show (t - d.e).toNat = 0 by omega, Nat.pow_zero, Nat.mod_one, Nat.div_one, Nat.div_one, show (d.e - (t - 1)).toNat = (d.e - t).toNat + 1 by omega, Nat.pow_succ, ← Nat.mul_assoc, Nat.mul_mod_left]
  exact ⟨rfl, rfl, rfl⟩
theorem c_parts {d : Dy} (hb : bitLen d.m ≤ 1000000) (h1 : -3000000000 ≤ d.e ∧ d.e ≤ 3000000000) {t : Int} (h2 : -3000000000 ≤ t ∧ t ≤ 3000000000) (h3 : t ≤ d.e → bitLen d.m + (d.e - t).toNat ≤ 65536) :
    PC E 217 [d.pv, .int .i64 t] (.tuple [NN (flo d t), .bool (hf d t), .bool (bl d t)]) := by
  refine PC.of_body follows Tryz.func217 (by decide +kernel) rfl (by kernel_rfl) (Nat.le_of_ble_eq_true rfl) (walk ?_)
  have w1 : IntKind.wrap .i64 (t - d.e) = t - d.e := wrap64 (by omega) (by omega)
  have w2 : IntKind.wrap .i64 (0 - (t - d.e)) = d.e - t := by rw [wrap64 (by omega) (by omega)]; omega
  have w3 : IntKind.wrap .i64 (t - d.e - 1) = t - d.e - 1 := wrap64 (by omega) (by omega)
  by_cases h : t ≤ d.e
  · obtain ⟨e1, e2, e3⟩ := bl_p h
    have k1 := k_Shln (num_bits hb) (d.e - t).toNat (h3 h)
    rw [e1, e2, e3]
    rw [show ((d.e - t).toNat : Int) = d.e - t by omega] at k1
    simp only [Dy.pv, DP, NN, NL] at k1 ⊢
    simp only [Tryz.f217, w1, go_sem]
    refine qif_dt (by omega) ?_
    simp only [Tryz.f217, w1, w2, go_sem]
    refine qcall_i (k1) ?_; simp only [Tryz.f217, go_sem]
    rfl
  · obtain ⟨e1, e2, e3⟩ := bl_n (d := d) (t := t) (by omega)
    have k1 := k_Shrn (num_bits hb) (t - d.e).toNat
    have k2 := k_Shrn (num_bits hb) ((t - d.e).toNat - 1)
    rw [← e3, show ((t - d.e).toNat : Int) = t - d.e by omega] at k1
    rw [← e2, ← e1, show (((t - d.e).toNat - 1 : Nat) : Int) = t - d.e - 1 by omega] at k2
    have hbl := bitLen_mono (show flo d (t - 1) ≤ d.m by rw [e2]; exact Nat.div_le_self _ _)
    have k3 := k_Odd (num_bits (x := flo d (t - 1)) (by omega))
    rw [show decide (flo d (t - 1) % 2 = 1) = hf d t from rfl] at k3
    simp only [Dy.pv, DP, NN, NL] at k1 k2 k3 ⊢
    simp only [Tryz.f217, w1, go_sem]
    refine qif_df (by omega) ?_
    simp only [Tryz.f217, w1, w3, go_sem]
    refine qcall_i (k1) ?_; simp only [Tryz.f217, w3, go_sem]
    refine qcall_i (k2) ?_; simp only [Tryz.f217, go_sem]
    refine qcall_i (k3) ?_; simp only [Tryz.f217, go_sem]
    rfl
theorem flo_le (d : Dy) (t : Int) (h : t ≤ d.e → bitLen d.m + (d.e - t).toNat ≤ 65536) (hb : bitLen d.m ≤ 1000000) : bitLen (flo d t) ≤ 1000000 := by
  by_cases h1 : t ≤ d.e
  · rw [(bl_p h1).2.2]
    have := bitLen_shl_le d.m (d.e - t).toNat
    have := h h1
    omega
  · rw [(bl_n (by omega)).2.2]
    have := bitLen_mono (Nat.div_le_self d.m (2 ^ (t - d.e).toNat))
    omega
def upM (d : Dy) (more : Bool) (dir t : Int) : Bool := awayS dir d.s (decide (flo d t % 2 = 1)) (hf d t) (bl d t || more)
theorem c_whole07 {d : Dy} (hb : bitLen d.m ≤ 900000) (h1 : -3000000000 ≤ d.e ∧ d.e ≤ 3000000000) {t : Int} (h2 : -3000000000 ≤ t ∧ t ≤ 3000000000) (h3 : t ≤ d.e → bitLen d.m + (d.e - t).toNat ≤ 65536) (more : Bool) (dir : Int) :
    PC E 166 [d.pv, .bool more, .int .i64 dir, .int .i64 t] (.tuple [NN (if upM d more dir t = true then flo d t + 1 else flo d t), .bool (hf d t || (bl d t || more))]) := by
  refine PC.of_body follows Tryz.func166 (by decide +kernel) rfl (by kernel_rfl) (Nat.le_of_ble_eq_true rfl) (walk ?_)
  have hfl := flo_le d t h3 (by omega)
  have k1 := c_parts (by omega) h1 h2 h3
  have k2 := k_Odd (num_bits hfl)
  have k3 := c_away dir d.s (decide (flo d t % 2 = 1)) (hf d t) (bl d t || more)
  have k4 := c_Of 1 (by decide)
  have k5 := k_Add (num_bits hfl) (num_bits (x := 1) (by decide))
  rw [show awayS dir d.s (decide (flo d t % 2 = 1)) (hf d t) (bl d t || more) = upM d more dir t from rfl] at k3
  generalize upM d more dir t = a at *
  generalize decide (flo d t % 2 = 1) = odd at *
  generalize flo d t = M at *
  generalize hf d t = H at *
  generalize bl d t = L at *
  have d1 := dg_one (x := 1) (by decide) (by decide)
  simp only [u, Dy.pv, DP, NN, NL] at k1 k2 k3 k4 k5 ⊢
  simp only [Tryz.f166, go_sem]
  refine qcall_i (k1) ?_; simp only [Tryz.f166, go_sem]
  cases L <;> cases a <;> cases H
  all_goals
    (try simp only [Tryz.f166, go_sem])
    refine qcall_i (k2) ?_; simp only [Tryz.f166, go_sem]
    refine qcall_i (k3) ?_; simp only [Tryz.f166, go_sem]
    (try (refine qcall_i (k4) ?_; simp only [Tryz.f166, go_sem]))
    (try (refine qcall_i (k5) ?_; simp only [Tryz.f166, go_sem]))
    (try rfl)
end
section
open Go PG Go.Proofs
theorem or63 {b : Nat} (hb : b < W) : bits .or .u64 (b : Int) 9223372036854775808 = ((fsz b + 9223372036854775808 : Nat) : Int) := by
  have hb' := b_lt hb
  by_cases h : b < 9223372036854775808
  · rw [show fsz b = b from Nat.mod_eq_of_lt h]; exact o63 h
  · have h1 := b_or (a := b) (b := 9223372036854775808) hb (by decide)
    refine h1.trans ?_
    have e : b = fsz b ||| 9223372036854775808 := by
      have := Nat.two_pow_add_eq_or_of_lt (i := 63) (b := fsz b) (fsz_lt b) 1
      rw [Nat.mul_one] at this
      rw [Nat.or_comm, show (9223372036854775808 : Nat) = 2 ^ 63 by decide, ← this]
      unfold fsz; omega
    rw [show b ||| 9223372036854775808 = b by
      conv => lhs; rw [e]
      rw [Nat.or_assoc, Nat.or_self, ← e]]
    congr 1
    unfold fsz; omega
theorem c_signed07 (b : Nat) (hb : b < W) (s : Bool) : PC E 164 [u b, .bool s] (u (if s = true then fsz b + 9223372036854775808 else b)) := by
  refine PC.of_body follows Tryz.func164 (by decide +kernel) rfl (by kernel_rfl) (Nat.le_of_ble_eq_true rfl) (walk ?_)
  have e1 := or63 hb
  cases s
  · simp only [Tryz.f164, u, go_sem]
    try rfl
  · simp only [Tryz.f164, u, e1, go_sem]
    try rfl
theorem signed_withS (s : Bool) {v : Nat} (hv : v < 9223372036854775808) : (if s = true then fsz (withS s v) + 9223372036854775808 else withS s v) = withS s v := by
  rw [(withS_fields s hv).2.2.2.2]
  cases s <;> rfl
theorem signed_small (s : Bool) {v : Nat} (hv : v < 9223372036854775808) : (if s = true then fsz v + 9223372036854775808 else v) = withS s v := by
  rw [show fsz v = v from Nat.mod_eq_of_lt hv]
  rfl
theorem c_Over (s : Bool) (dir : Int) : PC E 103 [.bool s, .int .i64 dir] (.tuple [u (withS s (if dir = 0 ∨ upw dir s = true then INF else MAX)), .int .u8 5]) := by
  refine PC.of_body follows Tryz.func103 (by decide +kernel) rfl (by kernel_rfl) (Nat.le_of_ble_eq_true rfl) (walk ?_)
  have k := c_up dir s
  have k1 := c_signed07 INF (by decide) s
  have k2 := c_signed07 MAX (by decide) s
  rw [signed_small s (by decide)] at k1 k2
  replace k1 : PC E 164 [.int .u64 9218868437227405312, .bool s] (.int .u64 (withS s INF : Nat)) := k1
  replace k2 : PC E 164 [.int .u64 9218868437227405311, .bool s] (.int .u64 (withS s MAX : Nat)) := k2
  by_cases h0 : dir = 0
  · rw [if_pos (.inl h0)]
    simp only [Tryz.f103, go_sem]
    refine qif_dt h0 ?_
    simp only [Tryz.f103, go_sem]
    refine qcall_i (k1) ?_; simp only [Tryz.f103, u, go_sem]
  · generalize upw dir s = v at *
    simp only [Tryz.f103, go_sem]
    refine qif_df h0 ?_
    cases v
    · rw [if_neg (fun h => h.elim h0 (fun h => by cases h))]
      simp only [Tryz.f103, go_sem]
      refine qcall_i (k) ?_; simp only [Tryz.f103, go_sem]
      refine qcall_i (k2) ?_; simp only [Tryz.f103, u, go_sem]
    · rw [if_pos (.inr rfl)]
      simp only [Tryz.f103, go_sem]
      refine qcall_i (k) ?_; simp only [Tryz.f103, go_sem]
      refine qcall_i (k1) ?_; simp only [Tryz.f103, u, go_sem]
theorem c_Under (s : Bool) (dir : Int) : PC E 104 [.bool s, .int .i64 dir] (.tuple [u (withS s (if upw dir s = true then 1 else 0)), .int .u8 3]) := by
  refine PC.of_body follows Tryz.func104 (by decide +kernel) rfl (by kernel_rfl) (Nat.le_of_ble_eq_true rfl) (walk ?_)
  have k := c_up dir s
  have k1 := c_signed07 1 (by decide) s
  have k2 := c_signed07 0 (by decide) s
  rw [signed_small s (by decide)] at k1 k2
  replace k1 : PC E 164 [.int .u64 1, .bool s] (.int .u64 (withS s 1 : Nat)) := k1
  replace k2 : PC E 164 [.int .u64 0, .bool s] (.int .u64 (withS s 0 : Nat)) := k2
  generalize upw dir s = v at *
  cases v
  · simp only [Tryz.f104, go_sem]
    refine qcall_i (k) ?_; simp only [Tryz.f104, go_sem]
    refine qcall_i (k2) ?_; simp only [Tryz.f104, u, go_sem]
    try rfl
  · simp only [Tryz.f104, go_sem]
    refine qcall_i (k) ?_; simp only [Tryz.f104, go_sem]
    refine qcall_i (k1) ?_; simp only [Tryz.f104, u, go_sem]
    try rfl
def toE (d : Dy) (more : Bool) (dir : Int) : Prop := d.fits ∧ 0 ≤ dir ∧ dir ≤ 3 ∧ ¬ (more = true ∧ d.m = 0)
instance (d : Dy) (more : Bool) (dir : Int) : Decidable (toE d more dir) := inferInstanceAs (Decidable (_ ∧ _))
theorem c_right {p : PV} {d : Dy} (h : RD p d) (more : Bool) (dir : Int) : PC E 165 [p, .bool more, .int .i64 dir] (.tuple [(if d.fits then d else .zero).pv, .bool (decide (toE d more dir))]) := by
  have k1 := r_Bare h
  obtain ⟨s, q, x, e, rfl, -⟩ := h
  refine PC.of_body follows Tryz.func165 (by decide +kernel) rfl (by kernel_rfl) (Nat.le_of_ble_eq_true rfl) (walk ?_)
  unfold okD at k1
  by_cases hf : d.fits
  · rw [if_pos hf] at k1 ⊢
    simp only [Dy.pv, DP, NN, NL] at k1 ⊢
    simp only [Tryz.f165, go_sem]
    refine qcall_i (k1) ?_; simp only [Tryz.f165, go_sem]
    by_cases h1 : dir ≥ 0
    · refine qif_dt h1 ?_
      simp only [Tryz.f165, go_sem]
      by_cases h2 : dir ≤ 3
      · refine qif_dt h2 ?_
        simp only [Tryz.f165, go_sem]
        cases more
        · simp only [Tryz.f165, go_sem]
          refine ⟨rfl, (decide_eq_true ?_).symm⟩
          exact ⟨hf, h1, h2, fun h => by cases h.1⟩
        · simp only [Tryz.f165, go_sem]
          refine ⟨rfl, ?_⟩
          by_cases h0 : d.m = 0
          · rw [decide_eq_false (fun h : toE d true dir => h.2.2.2 ⟨rfl, h0⟩), h0]
            rfl
          · rw [decide_eq_true (show toE d true dir from ⟨hf, h1, h2, fun h => h0 h.2⟩)]
            rw [decide_eq_false (fun h => h0 (dg_nil (by omega)))]
            rfl
      · refine qif_df h2 ?_
        simp only [Tryz.f165, go_sem]
        refine ⟨rfl, (decide_eq_false fun h => ?_).symm⟩
        exact h2 h.2.2.1
    · refine qif_df h1 ?_
      simp only [Tryz.f165, go_sem]
      refine ⟨rfl, (decide_eq_false fun h => ?_).symm⟩
      exact h1 h.2.1
  · rw [if_neg hf] at k1 ⊢
    rw [decide_eq_false (fun h : toE d more dir => hf h.1)]
    simp only [Dy.pv, Dy.zero, DP, NN, NL] at k1 ⊢
    simp only [Tryz.f165, go_sem]
    refine qcall_i (k1) ?_; simp only [Tryz.f165, go_sem]
    try rfl
theorem upM_low {d : Dy} (h0 : d.m ≠ 0) (ht : d.top ≤ 1023) (more : Bool) (dir : Int) : upM d more dir (unitOf d.top) = awayS dir d.s (decide (low d % 2 = 1)) (hf d (unitOf d.top)) (bl d (unitOf d.top) || more) := by
  have hp := flo_ok h0 ht
  have hl : low d = packB (flo d (unitOf d.top)) (unitOf d.top) := if_neg (by omega)
  unfold upM
  rw [hl, odd_pack hp]
theorem away_dir {dir : Int} {s odd half below : Bool} (h : awayS dir s odd half below = true) : dir = 0 ∨ upw dir s = true := by
  unfold awayS at h
  split at h
  · exact .inl (by assumption)
  · right
    revert h
    cases half <;> cases below <;> cases upw dir s <;> simp
theorem small_parts {d : Dy} (h0 : d.m ≠ 0) (ht : d.top < -1075) : hf d (unitOf d.top) = false ∧ bl d (unitOf d.top) = true ∧ low d = 0 := by
  have hu : unitOf d.top = -1074 := by unfold unitOf; omega
  have e1 := flo_small h0 (t := -1074) (by omega)
  have e2 := flo_small h0 (t := -1074 - 1) (by omega)
  rw [hu]
  have h1 : hf d (-1074) = false := by unfold hf; rw [e2]; decide
  refine ⟨h1, ?_, ?_⟩
  · obtain ⟨r, h2, h3, h4⟩ := parts_at d (-1074) (k := min d.e (-1075)) (by omega) (by omega)
    rw [e1, h1] at h2
    cases hb : bl d (-1074)
    · have h5 := h4.2 hb
      have h6 := top_at h0 (k := min d.e (-1075)) (by omega)
      have := Nat.two_pow_pos (d.top - min d.e (-1075)).toNat
      rw [h2, h5] at h6
      simp at h6
    · rfl
  · unfold low
    rw [if_neg (by omega), hu, e1]
    decide
end
section
open Go PG Go.Proofs
theorem mkD_fits {s : Bool} {x : Nat} {e : Int} (hb : bitLen x ≤ 100000) (h1 : -1000000000 ≤ e) (h2 : e ≤ 1000000000) : (mkD s x e).fits := by
  unfold mkD
  split
  · decide
  · rename_i h
    have := tz_bits h
    constructor
    · show (-1073741824 : Int) ≤ cut e + tz x
      rw [cut_id (by omega) (by omega)]; omega
    · show cut e + tz x ≤ 1073741824
      rw [cut_id (by omega) (by omega)]; omega
theorem toS_big {d : Dy} (h0 : d.m ≠ 0) (ht : 1023 < d.top) (more : Bool) (dir : Int) : toS d more dir = (withS d.s (if dir = 0 ∨ upw dir d.s = true then INF else MAX), 5) := by
  unfold toS magS
  rw [if_neg h0, if_pos ht]
def vS (d : Dy) (a : Bool) : Nat := if a = true then low d + 1 else low d
theorem toS_no {d : Dy} (h0 : d.m ≠ 0) (ht : d.top ≤ 1023) (more : Bool) (dir : Int) :
    toS d more dir = (withS d.s (vS d (upM d more dir (unitOf d.top))), if vS d (upM d more dir (unitOf d.top)) = INF then 5 else if (hf d (unitOf d.top) || (bl d (unitOf d.top) || more)) = true then (if d.top < -1022 then 3 else 1) else 0) := by
  unfold toS magS
  rw [if_neg h0, if_neg (by omega), ← upM_low h0 ht]
  unfold vS
  generalize upM d more dir (unitOf d.top) = a
  by_cases h : (if a = true then low d + 1 else low d) = INF
  · rw [if_pos h, if_pos h, h]
  · rw [if_neg h, if_neg h]
theorem toS_small {d : Dy} (h0 : d.m ≠ 0) (ht : d.top < -1075) (more : Bool) (dir : Int) : toS d more dir = (withS d.s (if upw dir d.s = true then 1 else 0), 3) := by
  obtain ⟨e1, e2, e3⟩ := small_parts h0 ht
  rw [toS_no h0 (by omega), upM_low h0 (by omega), e1, e2]
  unfold vS awayS
  rw [e3]
  have h00 : dir = 0 → upw dir d.s = false := by rintro rfl; unfold upw; cases d.s <;> rfl
  have h1 : (if dir = 0 then false && ((true || more) || decide (0 % 2 = 1)) else (false || (true || more)) && upw dir d.s) = upw dir d.s := by
    by_cases h : dir = 0
    · rw [if_pos h, h00 h]; rfl
    · rw [if_neg h]; simp
  rw [h1]
  cases upw dir d.s
  · simp only [Bool.false_eq_true, if_false, Bool.or_true, Bool.true_or, Bool.false_or, if_true]
    rw [if_neg (by decide), if_pos (by omega)]
  · simp only [if_true, Bool.or_true, Bool.true_or, Bool.false_or, Nat.zero_add]
    rw [if_neg (by decide), if_pos (by omega)]
theorem vS_fd {d : Dy} (h0 : d.m ≠ 0) (ht : d.top ≤ 1023) (a : Bool) : vS d a ≤ INF ∧ fd (vS d a) = mkD false (if a = true then flo d (unitOf d.top) + 1 else flo d (unitOf d.top)) (unitOf d.top) := by
  have hp := flo_ok h0 ht
  have hl : low d = packB (flo d (unitOf d.top)) (unitOf d.top) := if_neg (by omega)
  have hlt := pack_lt_inf hp
  unfold vS
  rw [hl]
  cases a
  · exact ⟨by simp only [Bool.false_eq_true, if_false]; omega, pack_fd hp⟩
  · exact ⟨by simp only [if_true]; omega, pack_fd1 hp⟩
theorem r_To {p : PV} {d : Dy} (h : RD p d) (hb9 : bitLen d.m ≤ 900000) (more : Bool) (dir : Int) :
    PC E 105 [p, .bool more, .int .i64 dir] (if toE d more dir then .tuple [u (toS d more dir).1, .int .u8 (toS d more dir).2, .int .i64 0] else .tuple [u 0, .int .u8 0, .int .i64 1]) := by
  have k1 := c_right h more dir
  have hok := h.ok
  have hbits := h.bits
  obtain ⟨s, q, x, e, rfl, -⟩ := h
  refine PC.of_body follows Tryz.func105 (by decide +kernel) rfl (by kernel_rfl) (Nat.le_of_ble_eq_true rfl) (walk ?_)
  by_cases hE : toE d more dir
  case neg =>
    rw [if_neg hE]
    rw [decide_eq_false hE] at k1
    generalize (if d.fits then d else Dy.zero) = d' at *
    simp only [u, Dy.pv, DP, NN, NL] at k1 ⊢
    simp only [Tryz.f105, go_sem]
    refine qcall_i (k1) ?_; simp only [Tryz.f105, go_sem]
    rfl
  obtain ⟨hfi, -⟩ := id hE
  rw [if_pos hE]
  rw [if_pos hfi, decide_eq_true hE] at k1
  have k2 := r_Top (RD.fit hok hbits hfi)
  by_cases h0 : d.m = 0
  · have e1 : toS d more dir = (0, 0) := if_pos h0
    rw [e1]
    rw [decide_eq_false (by simpa using h0)] at k2
    simp only [u, Dy.pv, DP, NN, NL] at k1 k2 ⊢
    simp only [Tryz.f105, go_sem]
    refine qcall_i (k1) ?_; simp only [Tryz.f105, go_sem]
    refine qcall_i (k2) ?_; simp only [Tryz.f105, go_sem]
    exact ⟨rfl, rfl⟩
  rw [decide_eq_true h0] at k2
  have f1 := hfi.1
  have f2 := hfi.2
  have ht := top_of h0
  have hbp := bitLen_pos h0
  by_cases ht1 : 1023 < d.top
  · rw [toS_big h0 ht1]
    have k3 := c_Over d.s dir
    generalize withS d.s (if dir = 0 ∨ upw dir d.s = true then INF else MAX) = R at *
    simp only [u, Dy.pv, DP, NN, NL] at k1 k2 k3 ⊢
    simp only [Tryz.f105, go_sem]
    refine qcall_i (k1) ?_; simp only [Tryz.f105, go_sem]
    refine qcall_i (k2) ?_; simp only [Tryz.f105, go_sem]
    refine qif_dt ht1 ?_
    simp only [Tryz.f105, go_sem]
    refine qcall_i (k3) ?_; simp only [Tryz.f105, go_sem]
    exact ⟨rfl, rfl⟩
  by_cases ht2 : d.top < -1075
  · rw [toS_small h0 ht2]
    have k3 := c_Under d.s dir
    generalize withS d.s (if upw dir d.s = true then 1 else 0) = R at *
    simp only [u, Dy.pv, DP, NN, NL] at k1 k2 k3 ⊢
    simp only [Tryz.f105, go_sem]
    refine qcall_i (k1) ?_; simp only [Tryz.f105, go_sem]
    refine qcall_i (k2) ?_; simp only [Tryz.f105, go_sem]
    refine qif_df ht1 ?_
    simp only [Tryz.f105, go_sem]
    refine qif_dt ht2 ?_
    simp only [Tryz.f105, go_sem]
    refine qcall_i (k3) ?_; simp only [Tryz.f105, go_sem]
    exact ⟨rfl, rfl⟩
  have htle : d.top ≤ 1023 := by omega
  rw [toS_no h0 htle]
  have hu : unitOf d.top = max (d.top - 52) (-1074) := rfl
  have hur := unit_range htle
  have hp := flo_ok h0 htle
  have k5 := c_whole07 (d := d) hb9 (by omega) (t := unitOf d.top) (by omega) (fun _ => by omega) more dir
  have had := away_dir (dir := dir) (s := d.s) (odd := decide (flo d (unitOf d.top) % 2 = 1)) (half := hf d (unitOf d.top)) (below := bl d (unitOf d.top) || more)
  rw [show awayS dir d.s (decide (flo d (unitOf d.top) % 2 = 1)) (hf d (unitOf d.top)) (bl d (unitOf d.top) || more) = upM d more dir (unitOf d.top) from rfl] at had
  have hlI : low d < INF := by
    have := pack_lt_inf hp
    have hl : low d = packB (flo d (unitOf d.top)) (unitOf d.top) := if_neg (by omega)
    omega
  generalize upM d more dir (unitOf d.top) = a at *
  obtain ⟨hv1, hv2⟩ := vS_fd h0 htle a
  have hvI : vS d a = INF → a = true := fun h => by
    unfold vS at h
    cases a
    · simp only [Bool.false_eq_true, if_false] at h; omega
    · rfl
  have hM' : (if a = true then flo d (unitOf d.top) + 1 else flo d (unitOf d.top)) ≤ 9007199254740992 := by
    have := hp.lt
    split <;> omega
  generalize (hf d (unitOf d.top) || (bl d (unitOf d.top) || more)) = ine at *
  have w1 : IntKind.wrap .i64 (d.top - 52) = d.top - 52 := wrap64 (by omega) (by omega)
  rw [hu] at k5 hv2 hM' hur
  clear hu hp
  generalize hT : max (d.top - 52) (-1074) = t at *
  generalize (if a = true then flo d t + 1 else flo d t) = M at *
  have hMb : bitLen M ≤ 54 := (bitLen_le M 54).2 (by omega)
  have hfit : (mkD d.s M t).fits := mkD_fits (by omega) (by omega) (by omega)
  have k6 := r_Make (num_bits (x := M) (by omega)) (by omega) d.s t
  unfold okD at k6
  rw [if_pos hfit] at k6
  have k7 := r_Exact (RD.fit (mkD_ok d.s M t) (Nat.le_trans (mkD_bits _ _ _) (by omega)) hfit)
  rw [exact_pack d.s hv1 hv2] at k7
  have hIl := INF_lt
  have k8 := c_signed07 (withS d.s (vS d a)) (withS_fields d.s (by omega)).1 d.s
  rw [signed_withS d.s (by omega)] at k8
  have k9 := c_signed07 0 (by decide) d.s
  rw [signed_small d.s (by decide)] at k9
  have k10 := c_Over d.s dir
  have hz : M = 0 → vS d a = 0 := fun h => by
    subst h
    have hI : INF = 9218868437227405312 := rfl
    have h1 : (fd (vS d a)).m = 0 := by rw [hv2]; rfl
    have h2 : fm (vS d a) = 0 := by unfold fd at h1; exact mkD_m0.1 h1
    unfold fm at h2
    unfold ff fe at h2
    split at h2 <;> omega
  have hor : bits .or .u8 1 2 = 3 := by decide
  generalize mkD d.s M t = dd at *
  generalize vS d a = v at *
  simp only [u, exPV, Dy.pv, DP, NN, NL] at k1 k2 k5 k6 k7 k8 k9 k10 ⊢
  by_cases hM0 : M = 0
  · rw [if_pos hM0] at k7
    rw [hz hM0, if_neg (by decide)]
    simp only at k7
    cases ine
    · simp only [Tryz.f105, go_sem]
      refine qcall_i (k1) ?_; simp only [Tryz.f105, go_sem]
      refine qcall_i (k2) ?_; simp only [Tryz.f105, go_sem]
      refine qif_df ht1 ?_
      simp only [Tryz.f105, go_sem]
      refine qif_df ht2 ?_
      simp only [Tryz.f105, w1, hT, go_sem]
      refine qcall_i (k5) ?_; simp only [Tryz.f105, go_sem]
      refine qcall_i (k6) ?_; simp only [Tryz.f105, go_sem]
      refine qcall_i (k7) ?_; simp only [Tryz.f105, go_sem]
      refine qcall_i k9 ?_
      simp only [Tryz.f105, go_sem]
      try (exact ⟨rfl, rfl⟩)
    · simp only [Tryz.f105, go_sem]
      refine qcall_i (k1) ?_; simp only [Tryz.f105, go_sem]
      refine qcall_i (k2) ?_; simp only [Tryz.f105, go_sem]
      refine qif_df ht1 ?_
      simp only [Tryz.f105, go_sem]
      refine qif_df ht2 ?_
      simp only [Tryz.f105, w1, hT, go_sem]
      refine qcall_i (k5) ?_; simp only [Tryz.f105, go_sem]
      refine qcall_i (k6) ?_; simp only [Tryz.f105, go_sem]
      refine qcall_i (k7) ?_; simp only [Tryz.f105, go_sem]
      refine qif_d (fun h => ?_) (fun h => ?_)
      · simp only [Tryz.f105, hor, go_sem]
        refine qcall_i k9 ?_
        simp only [Tryz.f105, go_sem]
        rw [if_pos h]
        try (exact ⟨rfl, rfl⟩)
      · simp only [Tryz.f105, hor, go_sem]
        refine qcall_i k9 ?_
        simp only [Tryz.f105, go_sem]
        rw [if_neg h]
        try (exact ⟨rfl, rfl⟩)
  · rw [if_neg hM0] at k7
    by_cases hvv : v = INF
    · rw [if_pos hvv] at k7
      rw [if_pos (had (hvI hvv))] at k10
      rw [if_pos hvv, hvv]
      simp only at k7
      simp only [Tryz.f105, go_sem]
      refine qcall_i (k1) ?_; simp only [Tryz.f105, go_sem]
      refine qcall_i (k2) ?_; simp only [Tryz.f105, go_sem]
      refine qif_df ht1 ?_
      simp only [Tryz.f105, go_sem]
      refine qif_df ht2 ?_
      simp only [Tryz.f105, w1, hT, go_sem]
      refine qcall_i (k5) ?_; simp only [Tryz.f105, go_sem]
      refine qcall_i (k6) ?_; simp only [Tryz.f105, go_sem]
      refine qcall_i (k7) ?_; simp only [Tryz.f105, go_sem]
      refine qcall_i (k10) ?_; simp only [Tryz.f105, go_sem]
      try (exact ⟨rfl, rfl⟩)
    · rw [if_neg hvv] at k7 ⊢
      simp only at k7
      cases ine
      · simp only [Tryz.f105, go_sem]
        refine qcall_i (k1) ?_; simp only [Tryz.f105, go_sem]
        refine qcall_i (k2) ?_; simp only [Tryz.f105, go_sem]
        refine qif_df ht1 ?_
        simp only [Tryz.f105, go_sem]
        refine qif_df ht2 ?_
        simp only [Tryz.f105, w1, hT, go_sem]
        refine qcall_i (k5) ?_; simp only [Tryz.f105, go_sem]
        refine qcall_i (k6) ?_; simp only [Tryz.f105, go_sem]
        refine qcall_i (k7) ?_; simp only [Tryz.f105, go_sem]
        refine qcall_i (k8) ?_; simp only [Tryz.f105, go_sem]
        try (exact ⟨rfl, rfl⟩)
      · simp only [Tryz.f105, go_sem]
        refine qcall_i (k1) ?_; simp only [Tryz.f105, go_sem]
        refine qcall_i (k2) ?_; simp only [Tryz.f105, go_sem]
        refine qif_df ht1 ?_
        simp only [Tryz.f105, go_sem]
        refine qif_df ht2 ?_
        simp only [Tryz.f105, w1, hT, go_sem]
        refine qcall_i (k5) ?_; simp only [Tryz.f105, go_sem]
        refine qcall_i (k6) ?_; simp only [Tryz.f105, go_sem]
        refine qcall_i (k7) ?_; simp only [Tryz.f105, go_sem]
        refine qif_d (fun h => ?_) (fun h => ?_)
        · simp only [Tryz.f105, hor, go_sem]
          refine qcall_i (k8) ?_; simp only [Tryz.f105, go_sem]
          rw [if_pos h]
          try (exact ⟨rfl, rfl⟩)
        · simp only [Tryz.f105, hor, go_sem]
          refine qcall_i (k8) ?_; simp only [Tryz.f105, go_sem]
          rw [if_neg h]
          try (exact ⟨rfl, rfl⟩)
end
end
section
section
open Go PG Go.Proofs
theorem c_Mul64 (x y : Nat) (hx : x < W) (hy : y < W) : PC E 195 [u x, u y] (.tuple [u (x * y / W), u (x * y % W)]) := by
  refine PC.of_body follows Tryz.func195 (by decide +kernel) rfl (by kernel_rfl) (Nat.le_of_ble_eq_true rfl) (walk ?_)
  have hx' : x < 18446744073709551616 := hx
  have hy' : y < 18446744073709551616 := hy
  obtain ⟨m1, m2, m3, m4⟩ := Lib.mul64_hi x y hx' hy'
  have a1 : bits .and .u64 (x : Int) 4294967295 = ((x % 2 ^ 32 : Nat) : Int) := m_and x 32 4294967295 hx (by decide) (by decide)
  have a2 : bits .and .u64 (y : Int) 4294967295 = ((y % 2 ^ 32 : Nat) : Int) := m_and y 32 4294967295 hy (by decide) (by decide)
  have s1 := b_shr hx 32
  have s2 := b_shr hy 32
  rw [show (2 : Nat) ^ 32 = 4294967296 by decide] at a1 a2 s1 s2
  generalize hx0 : x % 4294967296 = x0 at *
  generalize hx1 : x / 4294967296 = x1 at *
  generalize hy0 : y % 4294967296 = y0 at *
  generalize hy1 : y / 4294967296 = y1 at *
  have w1 : IntKind.wrap .u64 ((x0 : Int) * (y0 : Int)) = ((x0 * y0 : Nat) : Int) := by rw [← Int.natCast_mul]; exact wrap_nat64 m1
  have s3 := b_shr (a := x0 * y0) m1 32
  rw [show (2 : Nat) ^ 32 = 4294967296 by decide] at s3
  have w2 : IntKind.wrap .u64 ((x1 : Int) * (y0 : Int)) = ((x1 * y0 : Nat) : Int) := by rw [← Int.natCast_mul]; exact wrap_nat64 (show _ < 18446744073709551616 by omega)
  have w3 : IntKind.wrap .u64 (((x1 * y0 : Nat) : Int) + ((x0 * y0 / 4294967296 : Nat) : Int)) = ((x1 * y0 + x0 * y0 / 4294967296 : Nat) : Int) := by rw [← Int.natCast_add]; exact wrap_nat64 m2
  generalize ht : x1 * y0 + x0 * y0 / 4294967296 = t at *
  have a3 : bits .and .u64 (t : Int) 4294967295 = ((t % 2 ^ 32 : Nat) : Int) := m_and t 32 4294967295 m2 (by decide) (by decide)
  have s4 := b_shr (a := t) m2 32
  rw [show (2 : Nat) ^ 32 = 4294967296 by decide] at a3 s4
  have w4 : IntKind.wrap .u64 ((x0 : Int) * (y1 : Int)) = ((x0 * y1 : Nat) : Int) := by rw [← Int.natCast_mul]; exact wrap_nat64 (show _ < 18446744073709551616 by omega)
  have w5 : IntKind.wrap .u64 (((t % 4294967296 : Nat) : Int) + ((x0 * y1 : Nat) : Int)) = ((t % 4294967296 + x0 * y1 : Nat) : Int) := by rw [← Int.natCast_add]; exact wrap_nat64 m3
  have s5 := b_shr (a := t % 4294967296 + x0 * y1) m3 32
  rw [show (2 : Nat) ^ 32 = 4294967296 by decide] at s5
  have hhi : x * y / 18446744073709551616 < 18446744073709551616 := by
    rw [Nat.div_lt_iff_lt_mul (by decide)]
    exact Nat.mul_lt_mul'' hx' hy'
  have w6 : IntKind.wrap .u64 ((x1 : Int) * (y1 : Int)) = ((x1 * y1 : Nat) : Int) := by rw [← Int.natCast_mul]; exact wrap_nat64 (show _ < 18446744073709551616 by omega)
  have w7 : IntKind.wrap .u64 (((x1 * y1 : Nat) : Int) + ((t / 4294967296 : Nat) : Int)) = ((x1 * y1 + t / 4294967296 : Nat) : Int) := by rw [← Int.natCast_add]; exact wrap_nat64 (show _ < 18446744073709551616 by omega)
  have w8 : IntKind.wrap .u64 (((x1 * y1 + t / 4294967296 : Nat) : Int) + (((t % 4294967296 + x0 * y1) / 4294967296 : Nat) : Int)) = ((x * y / W : Nat) : Int) := by
    rw [← Int.natCast_add, m4]; exact wrap_nat64 hhi
  have w9 : IntKind.wrap .u64 ((x : Int) * (y : Int)) = ((x * y % W : Nat) : Int) := by
    rw [IntKind.wrap_u64, ← Int.natCast_mul]; rfl
  simp only [Tryz.f195, u, a1, a2, s1, s2, w1, s3, w2, w3, a3, s4, w4, w5, s5, w6, w7, w8, w9, go_sem]
theorem row_step {Y A n i : Nat} (hn : n < W) :
    (Y % W ^ i + A % W ^ i * n) / W ^ i < W ∧
    ((Y % W ^ i + A % W ^ i * n) / W ^ i + Y / W ^ i % W + A / W ^ i % W * n) % W = (Y + A * n) / W ^ i % W ∧
    ((Y % W ^ i + A % W ^ i * n) / W ^ i + Y / W ^ i % W + A / W ^ i % W * n) / W = (Y % W ^ (i + 1) + A % W ^ (i + 1) * n) / W ^ (i + 1) := by
  have hP := Nat.pow_pos (n := i) W0
  have y1 := Nat.mod_lt Y hP
  have a1 := Nat.mod_lt A hP
  have ey := Nat.mod_add_div Y (W ^ i)
  have ea := Nat.mod_add_div A (W ^ i)
  have ey2 : Y % W ^ (i + 1) = Y % W ^ i + W ^ i * (Y / W ^ i % W) := by rw [Nat.pow_succ, Nat.mod_mul]
  have ea2 : A % W ^ (i + 1) = A % W ^ i + W ^ i * (A / W ^ i % W) := by rw [Nat.pow_succ, Nat.mod_mul]
  rw [ey2, ea2]
  generalize hP2 : W ^ i = P at *
  generalize Y % P = yl at *
  generalize A % P = al at *
  generalize hyh : Y / P = yh at *
  generalize hah : A / P = ah at *
  refine ⟨?_, ?_, ?_⟩
  · rw [Nat.div_lt_iff_lt_mul hP]
    have h1 : al * n ≤ (P - 1) * (W - 1) := Nat.mul_le_mul (by omega) (by omega)
    have h2 : (P - 1) * (W - 1) + (P - 1) + (P - 1) + (W - 1) + 1 = P * W + (P - 1) := by
      obtain ⟨p, rfl⟩ : ∃ p, P = p + 1 := ⟨P - 1, by omega⟩
      obtain ⟨w, hw⟩ : ∃ w, W = w + 1 := ⟨W - 1, rfl⟩
      rw [hw]
      simp only [Nat.add_sub_cancel, Nat.add_mul, Nat.mul_add, Nat.mul_one, Nat.one_mul]
      omega
    have hW := W2
    rw [Nat.mul_comm W P]
    omega
  · have e : Y + A * n = (yl + al * n) + P * (yh + ah * n) := by
      rw [← ey, ← ea, Nat.add_mul, Nat.mul_add, Nat.mul_assoc]; omega
    rw [e, Nat.add_mul_div_left _ _ hP]
    generalize (yl + al * n) / P = c
    simp [Nat.add_mod, Nat.mul_mod, Nat.add_assoc]
  · have e : yl + P * (yh % W) + (al + P * (ah % W)) * n = (yl + al * n) + P * (yh % W + ah % W * n) := by
      rw [Nat.add_mul, Nat.mul_add, Nat.mul_assoc]; omega
    rw [e, Nat.pow_succ, hP2, ← Nat.div_div_eq_div_mul, Nat.add_mul_div_left _ _ hP, Nat.add_assoc]
end
section
open Go PG Go.Proofs
def rowL (out : List Nat) (o T i : Nat) : List Nat := out.take o ++ (tab W T i ++ out.drop (o + i))
def rowT (out a : List Nat) (o n : Nat) : Nat := dv W ((out.drop o).take a.length) + vl a * n
theorem rowL_len {out : List Nat} {o T i : Nat} (h : o + i ≤ out.length) : (rowL out o T i).length = out.length := by
  unfold rowL
  simp [tab_length]
  omega
theorem rowL_get {out : List Nat} {o T i : Nat} (h : o + i < out.length) : (U (rowL out o T i))[o + i]? = some (u (out.getD (o + i) 0)) := by
  have hl : (out.take o).length = o := by simp; omega
  rw [U_get]
  unfold rowL
  rw [List.getElem?_append_right (by omega), hl, List.getElem?_append_right (by rw [tab_length]; omega), tab_length, List.getElem?_drop, show o + i + (o + i - o - i) = o + i by omega, List.getElem?_eq_getElem h, List.getD_eq_getElem?_getD, List.getElem?_eq_getElem h]
  rfl
theorem rowL_set {out : List Nat} {o T i : Nat} (h : o + i < out.length) : (U (rowL out o T i)).set (o + i) (u (T / W ^ i % W)) = U (rowL out o T (i + 1)) := by
  have hl : (out.take o).length = o := by simp; omega
  unfold rowL U
  rw [← List.map_set]
  congr 1
  rw [List.set_append_right _ _ (by omega), hl, List.set_append_right _ _ (by rw [tab_length]; omega), tab_length, show o + i - o - i = 0 by omega, tab_succ, List.append_assoc]
  congr 2
  rw [List.drop_eq_getElem_cons h]
  rfl
theorem row_arith {M c y x n : Nat} (hM : M = x * n) (hx : x < W) (hn : n < W) (hc : c < W) (hy : y < W) :
    (y + (M % W + c + 0) % W + 0) % W = (c + y + M) % W ∧ M / W + (M % W + c + 0) / W < W ∧
    M / W + (M % W + c + 0) / W + (y + (M % W + c + 0) % W + 0) / W = (c + y + M) / W ∧ (c + y + M) / W < W := by
  have hx' : x < 18446744073709551616 := hx
  have hn' : n < 18446744073709551616 := hn
  have hc' : c < 18446744073709551616 := hc
  have hy' : y < 18446744073709551616 := hy
  have h1 : M ≤ 18446744073709551615 * 18446744073709551615 := by rw [hM]; exact Nat.mul_le_mul (by omega) (by omega)
  have key : (y + (M % 18446744073709551616 + c + 0) % 18446744073709551616 + 0) % 18446744073709551616 = (c + y + M) % 18446744073709551616 ∧ M / 18446744073709551616 + (M % 18446744073709551616 + c + 0) / 18446744073709551616 < 18446744073709551616 ∧
    M / 18446744073709551616 + (M % 18446744073709551616 + c + 0) / 18446744073709551616 + (y + (M % 18446744073709551616 + c + 0) % 18446744073709551616 + 0) / 18446744073709551616 = (c + y + M) / 18446744073709551616 ∧ (c + y + M) / 18446744073709551616 < 18446744073709551616 := by
    clear hM hx hn hc hy hx' hn'
    omega
  exact key
theorem c_row (out a : List Nat) (o n : Nat) (ho : Ok W out) (ha : Ok W a) (hn : n < W) (hL : o + a.length + 1 ≤ out.length) (hl : out.length ≤ 1048576) :
    PCM E 237 [.sub 0 o (out.length - o), .val (NL a), .val (u n)] [.row 22 1 out.length (U out)] (.val (.tuple [])) [.row 22 1 out.length (U (rowL out o (rowT out a o n) (a.length + 1)))] := by
  refine PCM.of_body follows Tryz.func237 (by decide +kernel) rfl (by kernel_rfl) (Nat.le_of_ble_eq_true rfl) (Nat.le_refl _) (by simp) (fun k h => by cases h) (fun h => by cases h) (walk ?_)
  simp only [mstart, startS, blkL, shiftSV]
  have hla := dv_lt a ha
  have hget : ∀ i, i < a.length → (U a)[i]? = some (u (vl a / W ^ i % W)) := fun i hi => by
    rw [U_get, ← dv_get W0 _ ha i, List.getD_eq_getElem?_getD, List.getElem?_eq_getElem hi]; rfl
  have hok : Ok W ((out.drop o).take a.length) := fun d hd => ho d (List.mem_of_mem_drop (List.mem_of_mem_take hd))
  have hog : ∀ i, i < a.length → out.getD (o + i) 0 = dv W ((out.drop o).take a.length) / W ^ i % W := fun i hi => by
    rw [← dv_get W0 _ hok i, List.getD_eq_getElem?_getD, List.getD_eq_getElem?_getD, List.getElem?_take, if_pos hi, List.getElem?_drop]
  unfold rowT
  generalize hY : dv W ((out.drop o).take a.length) = Y at *
  generalize hA : vl a = A at *
  simp only [NL]
  simp only [Tryz.f237, go_sem]
  refine PLoop.intro (fun i : Nat => ⟨[(0, .sub 55 o (out.length - o)), (1, .val (.lst a.length (U a))), (2, .val (u n)), (6, .val (u ((Y % W ^ i + A % W ^ i * n) / W ^ i))), (12, .val (.lst a.length (U a))), (13, .val (.int .i64 a.length)), (14, .val (.int .i64 i))],
    [(55, (.row 22 1 out.length (U (rowL out o (Y + A * n) i)), false))]⟩) (fun i => i ≤ a.length) (fun i => a.length - i) 0 (Nat.zero_le _) ?_ fun i hi => walk ?_
  · have e0 : rowL out o (Y + A * n) 0 = out := by unfold rowL; simp [tab]
    rw [e0]
    simp [Wk, sget, killL, kill1, SV.key, u, Nat.mod_one]
  have hstep := row_step (Y := Y) (A := A) (n := n) (i := i) hn
  obtain ⟨t1, t2, t3⟩ := hstep
  have wi : IntKind.wrap .i64 ((i : Int) + 1) = ((i + 1 : Nat) : Int) := by rw [wrap64 (by omega) (by omega)]; omega
  have hx : i < a.length → A / W ^ i % W < W := fun _ => Nat.mod_lt _ W0
  have hyW : Y / W ^ i % W < W := Nat.mod_lt _ W0
  generalize hc : (Y % W ^ i + A % W ^ i * n) / W ^ i = c at *
  generalize hxx : A / W ^ i % W = x at *
  have hgi := hget i
  have hoi := hog i
  rw [hxx] at hgi
  generalize hyy : Y / W ^ i % W = y at *
  simp only [Tryz.f237, u, go_sem]
  refine qif_d (fun h1 => ?_) (fun h1 => ?_)
  · have hxW := hx (by omega)
    have k1 := c_Mul64 x n hxW hn
    have k2 := c_Add64 (x * n % W) c 0 (by decide)
    have k3 := c_Add64 y ((x * n % W + c + 0) % W) 0 (by decide)
    have hgo := rowL_get (out := out) (o := o) (T := Y + A * n) (i := i) (by omega)
    have hgs := rowL_set (out := out) (o := o) (T := Y + A * n) (i := i) (by omega)
    rw [hoi (by omega)] at hgo
    obtain ⟨r1, r2, r3, r4⟩ := row_arith (M := x * n) rfl hxW hn t1 hyW
    generalize x * n = M at *
    have d1 : (y + (M % W + c + 0) % W + 0) % W = (Y + A * n) / W ^ i % W := by rw [← t2]; exact r1
    have d2 : IntKind.wrap .u64 (((M / W : Nat) : Int) + (((M % W + c + 0) / W : Nat) : Int)) = ((M / W + (M % W + c + 0) / W : Nat) : Int) := by
      rw [← Int.natCast_add]; exact wrap_nat64 r2
    have d3 : IntKind.wrap .u64 (((M / W + (M % W + c + 0) / W : Nat) : Int) + (((y + (M % W + c + 0) % W + 0) / W : Nat) : Int)) = (((Y % W ^ (i + 1) + A % W ^ (i + 1) * n) / W ^ (i + 1) : Nat) : Int) := by
      rw [← t3, ← Int.natCast_add, r3]
      exact wrap_nat64 r4
    clear r1 r2 r3 r4
    rw [d1] at k3
    generalize (Y + A * n) / W ^ i % W = dgt at k3 hgs
    generalize hcn : (Y % W ^ (i + 1) + A % W ^ (i + 1) * n) / W ^ (i + 1) = cn at *
    clear t1 t2 t3 d1 hyW hxW hx
    simp only [Nat.add_zero] at d2 d3 k2 k3
    generalize M / W = q1 at *
    generalize M % W = q2 at *
    generalize (q2 + c) / W = q3 at *
    generalize (q2 + c) % W = q4 at *
    generalize (y + q4) / W = q5 at *
    simp only [u] at k1 k2 k3 hgo hgs
    simp only [Tryz.f237, u, go_sem]
    refine qand_i (by first | omega | (simp [V_length, U_length, tab_length, maxLen]; done) | (simp [V_length, U_length, tab_length, maxLen]; omega) | (refine ⟨?_, ?_⟩ <;> first | omega | (simp [V_length, U_length, tab_length, maxLen]; done) | (simp [V_length, U_length, tab_length, maxLen]; omega))) ?_; simp only [Tryz.f237, u, go_sem]
    refine qval_i (congrArg (Option.map _) (hgi (by omega))) ?_
    simp only [Tryz.f237, u, go_sem]
    refine qcall_i (k1) ?_; simp only [Tryz.f237, u, go_sem]
    refine qcall_i (k2) ?_; simp only [Tryz.f237, u, d2, go_sem]
    refine qand_i (by omega) ?_
    simp only [Tryz.f237, u, d2, go_sem]
    refine qval_i (congrArg (Option.map _) hgo) ?_
    simp only [Tryz.f237, u, d2, go_sem]
    refine qcall_i (k3) ?_; simp only [Tryz.f237, u, d2, d3, go_sem]
    refine qand_i (by omega) ?_
    simp only [Tryz.f237, u, d2, d3, wi, go_sem]
    have hul : (U (rowL out o (Y + A * n) i)).length = out.length := by unfold U; rw [List.length_map, rowL_len (by omega)]
    refine qand_i (by rw [hul]; omega) ?_
    simp only [Tryz.f237, u, d2, d3, wi, go_sem]
    refine ⟨i + 1, by omega, by omega, ?_⟩
    rw [hcn]
    generalize Y + A * n = TT at *
    simp [Wk, sget, killL, kill1, SV.key, u, setCells, hgs]
  · have hil : i = a.length := by omega
    subst hil
    have hY2 : Y < W ^ a.length := by
      rw [← hY]
      refine Nat.lt_of_lt_of_le (dv_lt _ hok) (Nat.pow_le_pow_right W0 ?_)
      rw [List.length_take]; omega
    have hla' : A < W ^ a.length := by rw [← hA]; exact hla
    rw [Nat.mod_eq_of_lt hY2, Nat.mod_eq_of_lt hla'] at hc
    have hcd : c = (Y + A * n) / W ^ a.length % W := by rw [hc, Nat.mod_eq_of_lt t1]
    have hgs := rowL_set (out := out) (o := o) (T := Y + A * n) (i := a.length) (by omega)
    have hul : (U (rowL out o (Y + A * n) a.length)).length = out.length := by unfold U; rw [List.length_map, rowL_len (by omega)]
    rw [← hcd] at hgs
    simp only [Tryz.f237, u, go_sem]
    refine qand_i (by omega) ?_
    simp only [Tryz.f237, u, go_sem]
    refine qand_i (by rw [hul]; omega) ?_
    simp only [Tryz.f237, u, go_sem]
    refine ⟨0, by decide, fun i b hb => ?_, .inl ⟨.tuple [], [], rfl, rfl, fun _ _ h => by cases h⟩⟩
    simp only [u] at hgs
    match i, hb with
    | 0, hb =>
      simp only [List.getElem?_cons_zero, Option.some.injEq] at hb
      subst hb
      simp [keyM, sget, setCells, hgs]
    | i + 1, hb => simp at hb
end
section
open Go PG Go.Proofs
theorem tab_of {l : List Nat} (h : Ok W l) : l = tab W (dv W l) l.length := by
  apply List.ext_getElem?
  intro i
  by_cases hi : i < l.length
  · have hg := dv_get W0 l h i
    rw [List.getD_eq_getElem?_getD, List.getElem?_eq_getElem hi] at hg
    rw [List.getElem?_eq_getElem hi]
    simp only [Option.getD_some] at hg
    simp [tab, hi, hg]
  · rw [List.getElem?_eq_none (by omega), List.getElem?_eq_none (by rw [tab_length]; omega)]
theorem dv_take (l : List Nat) (h : Ok W l) (i : Nat) : dv W (l.take i) = dv W l % W ^ i ∧ dv W (l.drop i) = dv W l / W ^ i := by
  by_cases hi : i ≤ l.length
  · have h1 := dv_append (b := W) (l.take i) (l.drop i)
    rw [List.take_append_drop, List.length_take, Nat.min_eq_left hi] at h1
    have h2 : dv W (l.take i) < W ^ i := by
      have := dv_lt (l.take i) (fun d hd => h d (List.mem_of_mem_take hd))
      rwa [List.length_take, Nat.min_eq_left hi] at this
    have hp := Nat.pow_pos (n := i) W0
    constructor
    · rw [h1, Nat.add_mul_mod_self_left, Nat.mod_eq_of_lt h2]
    · rw [h1, Nat.add_mul_div_left _ _ hp, Nat.div_eq_of_lt h2, Nat.zero_add]
  · have h1 : dv W l < W ^ i := Nat.lt_of_lt_of_le (dv_lt l h) (Nat.pow_le_pow_right W0 (by omega))
    rw [List.take_of_length_le (by omega), List.drop_eq_nil_of_le (by omega), Nat.mod_eq_of_lt h1, Nat.div_eq_of_lt h1]
    exact ⟨rfl, rfl⟩
theorem rowL_tab {P bi i m : Nat} {a : List Nat} (ha : Ok W a) (hP : P < W ^ (a.length + i)) (hm : i + a.length + 1 ≤ m) (hb : bi < W) :
    rowL (tab W P m) i (rowT (tab W P m) a i bi) (a.length + 1) = tab W (P + W ^ i * (vl a * bi)) m := by
  have okP := ok_tab W0 P m
  have hPm : P < W ^ m := Nat.lt_of_lt_of_le hP (Nat.pow_le_pow_right W0 (by omega))
  have dP : dv W (tab W P m) = P := (dv_tab P m).trans (Nat.mod_eq_of_lt hPm)
  have hA := dv_lt a ha
  have hi := Nat.pow_pos (n := i) W0
  have hPi : P / W ^ i < W ^ a.length := by
    rw [Nat.div_lt_iff_lt_mul hi, ← Nat.pow_add]; exact hP
  have okd : Ok W ((tab W P m).drop i) := fun d hd => okP d (List.mem_of_mem_drop hd)
  have hT : rowT (tab W P m) a i bi = P / W ^ i + vl a * bi := by
    unfold rowT
    rw [(dv_take _ okd _).1, (dv_take _ okP _).2, dP, Nat.mod_eq_of_lt hPi]
  rw [hT]
  have hTl : P / W ^ i + vl a * bi < W ^ (a.length + 1) := by
    have h1 : vl a * bi ≤ (W ^ a.length - 1) * (W - 1) := Nat.mul_le_mul (by have : vl a < W ^ a.length := hA; omega) (by omega)
    have hq := Nat.pow_pos (n := a.length) W0
    rw [Nat.pow_succ]
    clear hT dP hPm okd
    generalize P / W ^ i = Z at *
    generalize W ^ a.length = Q at *
    obtain ⟨q, rfl⟩ : ∃ q, Q = q + 1 := ⟨Q - 1, by omega⟩
    obtain ⟨w, hw⟩ : ∃ w, W = w + 1 := ⟨W - 1, by have := W0; omega⟩
    rw [hw] at h1 ⊢
    simp only [Nat.add_sub_cancel] at h1
    rw [Nat.add_mul, Nat.mul_add, Nat.mul_one, Nat.one_mul]
    omega
  have hd0 : P / W ^ (i + (a.length + 1)) = 0 := Nat.div_eq_of_lt (Nat.lt_of_lt_of_le hP (Nat.pow_le_pow_right W0 (by omega)))
  generalize hTT : P / W ^ i + vl a * bi = T at *
  have okR : Ok W (rowL (tab W P m) i T (a.length + 1)) := by
    intro d hd
    unfold rowL at hd
    rcases List.mem_append.1 hd with hd | hd
    · exact okP d (List.mem_of_mem_take hd)
    · rcases List.mem_append.1 hd with hd | hd
      · exact ok_tab W0 _ _ d hd
      · exact okP d (List.mem_of_mem_drop hd)
  have hlen : (rowL (tab W P m) i T (a.length + 1)).length = m := by rw [rowL_len (by rw [tab_length]; omega), tab_length]
  have hdv : dv W (rowL (tab W P m) i T (a.length + 1)) = P + W ^ i * (vl a * bi) := by
    unfold rowL
    rw [dv_append, dv_append, (dv_take _ okP _).1, (dv_take _ okP _).2, dP, dv_tab, tab_length, List.length_take, tab_length, Nat.min_eq_left (by omega), hd0, Nat.mul_zero, Nat.add_zero, Nat.mod_eq_of_lt hTl, ← hTT, Nat.mul_add, ← Nat.add_assoc, Nat.mod_add_div]
  have := tab_of okR
  rw [hdv, hlen] at this
  exact this
end
section
open Go PG Go.Proofs
def mixL (b T P n m : Nat) : List Nat := (List.range m).map fun j => (if j < n then T else P) / b ^ j % b
end
section
open Go PG Go.Proofs
def pR (a b : List Nat) (i : Nat) : List PV := U (tab W (vl a * (vl b % W ^ i)) (a.length + b.length + 1))
def pD (b : List Nat) (i : Nat) : Nat := vl b / W ^ i % W
theorem pR_zero (a b : List Nat) : pR a b 0 = List.replicate (a.length + b.length + 1) (.int .u64 0) := by
  unfold pR
  rw [Nat.pow_zero, Nat.mod_one, Nat.mul_zero]
  have e0 : tab W 0 (a.length + b.length + 1) = List.replicate (a.length + b.length + 1) 0 := by
    unfold tab
    simp [List.map_const']
  rw [e0, U_replicate]
theorem pD_get {b : List Nat} (hb : Ok W b) (i : Nat) (hi : i < b.length) : (U b)[i]? = some (.int .u64 (pD b i : Int)) := by
  unfold pD
  rw [U_get, ← dv_get W0 _ hb i, List.getD_eq_getElem?_getD, List.getElem?_eq_getElem hi]; rfl
theorem pR_row {a b : List Nat} (ha : Ok W a) (hb : Ok W b) (la : a.length ≤ 100000) (lb : b.length ≤ 100000) (i : Nat) (hi : i < b.length) :
    PCM E 237 [.sub 0 i (a.length + b.length + 1 - i), .val (NL a), .val (.int .u64 (pD b i : Int))] [.row 22 1 (a.length + b.length + 1) (pR a b i)] (.val (.tuple [])) [.row 22 1 (a.length + b.length + 1) (pR a b (i + 1))] := by
  have hA : vl a < W ^ a.length := dv_lt a ha
  have hP : vl a * (vl b % W ^ i) < W ^ (a.length + i) := by
    rw [Nat.pow_add]
    exact Nat.mul_lt_mul'' hA (Nat.mod_lt _ (Nat.pow_pos W0))
  have hxW : vl b / W ^ i % W < W := Nat.mod_lt _ W0
  have hnext : vl a * (vl b % W ^ i) + W ^ i * (vl a * (vl b / W ^ i % W)) = vl a * (vl b % W ^ (i + 1)) := by
    rw [Nat.pow_succ, Nat.mod_mul, Nat.mul_add, Nat.mul_left_comm]
  have hrow := rowL_tab (m := a.length + b.length + 1) ha hP (by omega) hxW
  rw [hnext] at hrow
  have krow := c_row (tab W (vl a * (vl b % W ^ i)) (a.length + b.length + 1)) a i (vl b / W ^ i % W) (ok_tab W0 _ _) ha hxW (by rw [tab_length]; omega) (by rw [tab_length]; omega)
  rw [hrow] at krow
  simp only [tab_length] at krow
  exact krow
theorem pR_bare {a b : List Nat} (ha : Ok W a) (hb : Ok W b) (la : a.length ≤ 100000) (lb : b.length ≤ 100000) : PC E 119 [.lst (a.length + b.length + 1) (pR a b b.length)] (NN (vl a * vl b)) := by
  have hA : vl a < W ^ a.length := dv_lt a ha
  have hBB : vl b % W ^ b.length = vl b := Nat.mod_eq_of_lt (dv_lt b hb)
  have hP : vl a * vl b < W ^ (a.length + b.length + 1) := by
    refine Nat.lt_of_lt_of_le ?_ (Nat.pow_le_pow_right W0 (Nat.le_succ _))
    rw [Nat.pow_add]
    exact Nat.mul_lt_mul'' hA (dv_lt b hb)
  unfold pR
  rw [hBB]
  exact PC.at_list (n_Bare (tab W (vl a * vl b) (a.length + b.length + 1)) (by rw [tab_length]; omega) (ok_tab W0 _ _)) (tab_length _ _ _) ((dv_tab _ _).trans (Nat.mod_eq_of_lt hP))
theorem c_product (a b : List Nat) (ha : Ok W a) (hb : Ok W b) (la : a.length ≤ 100000) (lb : b.length ≤ 100000) : PC E 221 [NL a, NL b] (NN (vl a * vl b)) := by
  refine PC.of_body follows Tryz.func221 (by decide +kernel) rfl (by kernel_rfl) (Nat.le_of_ble_eq_true rfl) (walk ?_)
  have w1 : IntKind.wrap .i64 ((a.length : Int) + (b.length : Int)) = ((a.length + b.length : Nat) : Int) := by rw [wrap64 (by omega) (by omega)]; omega
  have w2 : IntKind.wrap .i64 (((a.length + b.length : Nat) : Int) + 1) = ((a.length + b.length + 1 : Nat) : Int) := by rw [wrap64 (by omega) (by omega)]; omega
  have r0 := pR_zero a b
  have rrow := pR_row ha hb la lb
  have rbare := pR_bare ha hb la lb
  have rget := pD_get hb
  simp only [NL, NN] at rrow rbare ⊢
  generalize pR a b = R at *
  generalize pD b = D at *
  generalize vl a * vl b = AB at *
  generalize hm : a.length + b.length + 1 = m at *
  simp only [Tryz.f221, w1, w2, go_sem]
  refine qand_i (by omega) ?_
  simp only [Tryz.f221, w1, w2, go_sem]
  refine PLoop.intro (fun i : Nat => ⟨[(0, .val (.lst a.length (U a))), (5, .row 14), (15, .val (.lst b.length (U b))), (16, .val (.int .i64 b.length)), (17, .val (.int .i64 i))],
    [(14, (.row 22 1 m (R i), false))]⟩) (fun i => i ≤ b.length) (fun i => b.length - i) 0 (Nat.zero_le _) ?_ fun i hi => walk ?_
  · rw [r0]
    simp [Wk, sget, killL, kill1, SV.key]
  have wi : IntKind.wrap .i64 ((i : Int) + 1) = ((i + 1 : Nat) : Int) := by rw [wrap64 (by omega) (by omega)]; omega
  simp only [Tryz.f221, go_sem]
  refine qif_d (fun h1 => ?_) (fun h1 => ?_)
  · have kr := rrow i (by omega)
    simp only [Tryz.f221, go_sem]
    refine qand_i (by first | omega | (simp [V_length, U_length, tab_length, maxLen]; done) | (simp [V_length, U_length, tab_length, maxLen]; omega) | (refine ⟨?_, ?_⟩ <;> first | omega | (simp [V_length, U_length, tab_length, maxLen]; done) | (simp [V_length, U_length, tab_length, maxLen]; omega))) ?_; simp only [Tryz.f221, go_sem]
    refine qval_i (congrArg (Option.map _) (rget i (by omega))) ?_
    simp only [Tryz.f221, go_sem]
    refine qand_i (by omega) ?_
    simp only [Tryz.f221, go_sem]
    refine qinl_i [14] kr rfl (by decide) rfl (fun j bb k hb hk => ?_) (fun d h => by cases h; decide) (fun h => by cases h) ?_
    · match j, hb, hk with
      | 0, hb, hk =>
        simp only [List.getElem?_cons_zero, Option.some.injEq] at hb hk
        subst hb hk
        simp [sget]
      | j + 1, hb, hk => simp at hb
    simp only [Tryz.f221, wi, go_sem]
    simp only [ren, SV.key, eraO, eraL]
    simp only [Tryz.f221, wi, go_sem]
    refine ⟨i + 1, by omega, by omega, ?_⟩
    simp [Wk, sget, killL, kill1, SV.key]
  · have hil : i = b.length := by omega
    subst hil
    simp only [Tryz.f221, go_sem]
    refine qcall_i rbare ?_
    simp only [Tryz.f221, go_sem]
    try rfl
end
section
open Go PG Go.Proofs
theorem bitLen_mul_le (x y : Nat) : bitLen (x * y) ≤ bitLen x + bitLen y := by
  rw [bitLen_le, Nat.pow_add]
  exact Nat.mul_lt_mul'' ((bitLen_le x _).1 (Nat.le_refl _)) ((bitLen_le y _).1 (Nat.le_refl _))
def pmV (x y : Nat) : PV := if x = 0 ∨ y = 0 then .tuple [.lst 0 [], .int .i64 0] else if bitLen x + bitLen y ≤ 65536 then .tuple [NN (x * y), .int .i64 0] else .tuple [.lst 0 [], .int .i64 2]
theorem k_prodMul {p q : PV} {x y : Nat} (h : Num p x) (h' : Num q y) (bx : bitLen x ≤ 1000000) (by' : bitLen y ≤ 1000000) : PC E 176 [p, q] (pmV x y) := by
  have k1 := k_Bare h
  have k2 := k_Bare h'
  have k3 := k_Bits (num_bits bx)
  have k4 := k_Bits (num_bits by')
  have lx := w_of_bits (x := x) (n := 15625) (by omega)
  have ly := w_of_bits (x := y) (n := 15625) (by omega)
  have k5 := c_product (dg W x) (dg W y) (ok_dg W2 x) (ok_dg W2 y) (by omega) (by omega)
  rw [show vl (dg W x) = x from dv_dg W2 x, show vl (dg W y) = y from dv_dg W2 y] at k5
  have w1 : IntKind.wrap .i64 ((bitLen x : Int) + (bitLen y : Int)) = ((bitLen x + bitLen y : Nat) : Int) := by rw [wrap64 (by omega) (by omega)]; omega
  obtain ⟨l, rfl, -⟩ := h
  obtain ⟨l', rfl, -⟩ := h'
  have d1 := dg_nil (x := x)
  have d2 := dg_nil (x := y)
  refine PC.of_body follows Tryz.func176 (by decide +kernel) rfl (by kernel_rfl) (Nat.le_of_ble_eq_true rfl) (walk ?_)
  unfold pmV
  by_cases hx : x = 0
  · rw [if_pos (.inl hx)]
    have e1 : dg W x = [] := by rw [hx]; rfl
    simp only [NN, NL, e1] at k1 k2 k3 k4 k5 ⊢
    simp only [Tryz.f176, go_sem]
    refine qcall_i (k1) ?_; simp only [Tryz.f176, go_sem]
    refine qcall_i (k2) ?_; simp only [Tryz.f176, go_sem]
    try (refine qif_dt (by simp) ?_)
    simp only [Tryz.f176, go_sem]
    try rfl
  by_cases hy : y = 0
  · rw [if_pos (.inr hy)]
    have e1 : dg W y = [] := by rw [hy]; rfl
    simp only [NN, NL, e1] at k1 k2 k3 k4 k5 ⊢
    simp only [Tryz.f176, go_sem]
    refine qcall_i (k1) ?_; simp only [Tryz.f176, go_sem]
    refine qcall_i (k2) ?_; simp only [Tryz.f176, go_sem]
    refine qif_df (fun h => hx (d1 (by omega))) ?_
    simp only [Tryz.f176, go_sem]
    try (refine qif_dt (by simp) ?_)
    simp only [Tryz.f176, go_sem]
    try rfl
  rw [if_neg (by omega)]
  simp only [NN, NL] at k1 k2 k3 k4 k5 ⊢
  simp only [Tryz.f176, go_sem]
  refine qcall_i (k1) ?_; simp only [Tryz.f176, go_sem]
  refine qcall_i (k2) ?_; simp only [Tryz.f176, go_sem]
  refine qif_df (fun h => hx (d1 (by omega))) ?_
  simp only [Tryz.f176, go_sem]
  refine qif_df (fun h => hy (d2 (by omega))) ?_
  simp only [Tryz.f176, w1, go_sem]
  refine qcall_i (k3) ?_; simp only [Tryz.f176, w1, go_sem]
  refine qcall_i (k4) ?_; simp only [Tryz.f176, w1, go_sem]
  refine qif_d (fun h => ?_) (fun h => ?_)
  · rw [if_neg (by omega)]
    simp only [Tryz.f176, go_sem]
    try rfl
  · rw [if_pos (by omega)]
    simp only [Tryz.f176, go_sem]
    refine qcall_i (k5) ?_; simp only [Tryz.f176, go_sem]
    try rfl
def mulE (a b : Dy) : Prop := a.fits ∧ b.fits ∧ (a.m ≠ 0 → b.m ≠ 0 → bitLen a.m + bitLen b.m ≤ 65536) ∧ (mulS a b).fits
instance (a b : Dy) : Decidable (mulE a b) := inferInstanceAs (Decidable (_ ∧ _))
def mulV (a b : Dy) : PV := if mulE a b then .tuple [(mulS a b).pv, .int .i64 0] else .tuple [Dy.zero.pv, .int .i64 2]
theorem mk_mul {a b : Dy} (oa : a.ok) (ob : b.ok) (fa : a.fits) (fb : b.fits) : mkD (a.s != b.s) (a.m * b.m) (a.e + b.e) = mulS a b := by
  unfold mulS
  by_cases h : a.m = 0 ∨ b.m = 0
  · rw [if_pos h]
    have : a.m * b.m = 0 := by rcases h with h | h <;> rw [h] <;> simp
    rw [this]; rfl
  · rw [if_neg h]
    have := fa.1; have := fa.2; have := fb.1; have := fb.2
    exact mkD_odd (odd_mul (oa.odd fun h0 => h (.inl h0)) (ob.odd fun h0 => h (.inr h0))) (by omega) (by omega)
theorem r_Mul {p q : PV} {a b : Dy} (ha : RD p a) (hb : RD q b) : PC E 249 [p, q] (mulV a b) := by
  have k1 := r_Bare ha
  have k2 := r_Bare hb
  have oa := ha.ok
  have ob := hb.ok
  have ba := ha.bits
  have bb := hb.bits
  obtain ⟨s1, P, x1, e1, rfl, -⟩ := ha
  obtain ⟨s2, Q, x2, e2, rfl, -⟩ := hb
  refine PC.of_body follows Tryz.func249 (by decide +kernel) rfl (by kernel_rfl) (Nat.le_of_ble_eq_true rfl) (walk ?_)
  unfold okD at k1 k2
  by_cases fa : a.fits
  case neg =>
    rw [if_neg fa] at k1
    unfold mulV
    rw [if_neg (fun h => fa h.1)]
    simp only [Dy.pv, Dy.zero, DP, NN, NL] at k1 ⊢
    simp only [Tryz.f249, go_sem]
    refine qcall_i (k1) ?_; simp only [Tryz.f249, go_sem]
    try rfl
  rw [if_pos fa] at k1
  by_cases fb : b.fits
  case neg =>
    rw [if_neg fb] at k2
    unfold mulV
    rw [if_neg (fun h => fb h.2.1)]
    simp only [Dy.pv, Dy.zero, DP, NN, NL] at k1 k2 ⊢
    simp only [Tryz.f249, go_sem]
    refine qcall_i (k1) ?_; simp only [Tryz.f249, go_sem]
    refine qcall_i (k2) ?_; simp only [Tryz.f249, go_sem]
    try rfl
  rw [if_pos fb] at k2
  have k3 := k_prodMul (num_bits ba) (num_bits bb) ba bb
  have fa1 := fa.1
  have fa2 := fa.2
  have fb1 := fb.1
  have fb2 := fb.2
  have w1 : IntKind.wrap .i64 (a.e + b.e) = a.e + b.e := wrap64 (by omega) (by omega)
  have hm := mk_mul oa ob fa fb
  unfold pmV at k3
  by_cases h0 : a.m = 0 ∨ b.m = 0
  · rw [if_pos h0] at k3
    have k4 := r_Make (q := .lst 0 []) num_nil (by decide) (a.s != b.s) (a.e + b.e)
    have e0 : okD (mkD (a.s != b.s) 0 (a.e + b.e)) = .tuple [Dy.zero.pv, .int .i64 0] := rfl
    rw [e0] at k4
    have hms : mulS a b = .zero := if_pos h0
    have e1 : mulV a b = .tuple [Dy.zero.pv, .int .i64 0] := by
      unfold mulV
      rw [if_pos ⟨fa, fb, fun h h' => absurd h0 (by omega), by rw [hms]; decide⟩, hms]
    rw [e1]
    simp only [Dy.pv, Dy.zero, DP, NN, NL] at k1 k2 k3 k4 ⊢
    simp only [Tryz.f249, go_sem]
    refine qcall_i (k1) ?_; simp only [Tryz.f249, go_sem]
    refine qcall_i (k2) ?_; simp only [Tryz.f249, go_sem]
    refine qcall_i (k3) ?_; simp only [Tryz.f249, w1, go_sem]
    refine qcall_i (k4) ?_; simp only [Tryz.f249, go_sem]
    try rfl
  · rw [if_neg h0] at k3
    by_cases hl : bitLen a.m + bitLen b.m ≤ 65536
    · rw [if_pos hl] at k3
      have hbl := bitLen_mul_le a.m b.m
      have k4 := r_Make (num_bits (x := a.m * b.m) (by omega)) (by omega) (a.s != b.s) (a.e + b.e)
      rw [hm] at k4
      have e1 : mulV a b = okD (mulS a b) := by
        unfold mulV okD
        by_cases hf : (mulS a b).fits
        · rw [if_pos hf, if_pos ⟨fa, fb, fun _ _ => hl, hf⟩]
        · rw [if_neg hf, if_neg (fun h => hf h.2.2.2)]
      rw [e1]
      obtain ⟨S1, S2, S3, S4, S5, hS⟩ := okD_ex (mulS a b)
      rw [hS] at k4 ⊢
      simp only [Dy.pv, Dy.zero, DP, NN, NL] at k1 k2 k3 k4 ⊢
      simp only [Tryz.f249, go_sem]
      refine qcall_i (k1) ?_; simp only [Tryz.f249, go_sem]
      refine qcall_i (k2) ?_; simp only [Tryz.f249, go_sem]
      refine qcall_i (k3) ?_; simp only [Tryz.f249, w1, go_sem]
      refine qcall_i (k4) ?_; simp only [Tryz.f249, go_sem]
      try rfl
    · rw [if_neg hl] at k3
      unfold mulV
      rw [if_neg (fun h => hl (h.2.2.1 (fun h1 => h0 (.inl h1)) (fun h1 => h0 (.inr h1))))]
      simp only [Dy.pv, Dy.zero, DP, NN, NL] at k1 k2 k3 ⊢
      simp only [Tryz.f249, go_sem]
      refine qcall_i (k1) ?_; simp only [Tryz.f249, go_sem]
      refine qcall_i (k2) ?_; simp only [Tryz.f249, go_sem]
      refine qcall_i (k3) ?_; simp only [Tryz.f249, w1, go_sem]
      try rfl
theorem c_dOf (n : Int) (h0 : -9223372036854775808 ≤ n) (h1 : n < 9223372036854775808) : PC E 44 [.int .i64 n] (norm n 0).pv := by
  refine PC.of_body follows Tryz.func44 (by decide +kernel) rfl (by kernel_rfl) (Nat.le_of_ble_eq_true rfl) (walk ?_)
  have k1 := c_bare (p := .lst 1 [.int .u64 (n.natAbs : Int)]) (num_one (show n.natAbs < W by show n.natAbs < 18446744073709551616; omega)) (Nat.le_trans ((bitLen_le n.natAbs 64).2 (by show n.natAbs < 18446744073709551616; omega)) (by decide)) (decide (n < 0)) 0
  have w1 : ¬ n < 0 → IntKind.wrap .u64 n = (n.natAbs : Int) := fun h => by rw [IntKind.wrap_u64]; omega
  have w2 : n < 0 → IntKind.wrap .u64 (0 - IntKind.wrap .u64 n) = (n.natAbs : Int) := fun h => by rw [IntKind.wrap_u64, IntKind.wrap_u64]; omega
  unfold norm
  simp only [Dy.pv, DP, NN, NL] at k1 ⊢
  by_cases hn : n < 0
  · have w2 := w2 hn
    simp only [Tryz.f44, go_sem]
    refine qif_dt hn ?_
    simp only [Tryz.f44, w2, go_sem]
    refine qcall_i (k1) ?_; simp only [Tryz.f44, go_sem]
    try rfl
  · have w1 := w1 hn
    simp only [Tryz.f44, go_sem]
    refine qif_df hn ?_
    simp only [Tryz.f44, w1, go_sem]
    refine qcall_i (k1) ?_; simp only [Tryz.f44, go_sem]
    try rfl
theorem norm_bits (z k : Int) : bitLen (norm z k).m ≤ bitLen z.natAbs := mkD_bits _ _ _
theorem addS_bits {a b : Dy} (oa : a.ok) (ob : b.ok) (h : addE a b) : bitLen (addS a b).m ≤ max 65537 (max (bitLen a.m) (bitLen b.m)) := by
  obtain ⟨fa, fb, hs, -⟩ := h
  by_cases za : a.m = 0
  · rw [addS_zl ob fa fb za]; omega
  by_cases zb : b.m = 0
  · rw [addS_zr oa fa fb zb]; omega
  have hs := hs za zb
  have ta := top_of za
  have tb := top_of zb
  have pa := bitLen_pos za
  have pb := bitLen_pos zb
  have h1 := natAbs_at' a (min a.e b.e)
  have h2 := natAbs_at' b (min a.e b.e)
  have s1 := bitLen_shl_le a.m (a.e - min a.e b.e).toNat
  have s2 := bitLen_shl_le b.m (b.e - min a.e b.e).toNat
  rw [← h1] at s1
  rw [← h2] at s2
  have s3 := bitLen_add (x := (a.at (min a.e b.e)).natAbs) (y := (b.at (min a.e b.e)).natAbs) (n := 65536) (by omega) (by omega)
  have s4 := norm_bits (a.at (min a.e b.e) + b.at (min a.e b.e)) (min a.e b.e)
  have s5 : bitLen (a.at (min a.e b.e) + b.at (min a.e b.e)).natAbs ≤ bitLen ((a.at (min a.e b.e)).natAbs + (b.at (min a.e b.e)).natAbs) := bitLen_mono (by omega)
  have : bitLen (addS a b).m ≤ bitLen (a.at (min a.e b.e) + b.at (min a.e b.e)).natAbs := s4
  omega
theorem mulS_bits (a b : Dy) : bitLen (mulS a b).m ≤ bitLen a.m + bitLen b.m := by
  unfold mulS
  split
  · exact Nat.zero_le _
  · exact bitLen_mul_le _ _
theorem RD.add {a b : Dy} (oa : a.ok) (ob : b.ok) (ba : bitLen a.m ≤ 900000) (bb : bitLen b.m ≤ 900000) (h : addE a b) : RD (addS a b).pv (addS a b) :=
  RD.fit (addS_ok a b) (by have := addS_bits oa ob h; omega) h.2.2.2
theorem RD.mul {a b : Dy} (oa : a.ok) (ob : b.ok) (h : mulE a b) : RD (mulS a b).pv (mulS a b) :=
  RD.fit (mulS_ok oa ob) (by
    by_cases h0 : a.m = 0 ∨ b.m = 0
    · rw [show mulS a b = .zero from if_pos h0]; decide
    · have := mulS_bits a b
      have := h.2.2.1 (fun h1 => h0 (.inl h1)) (fun h1 => h0 (.inr h1))
      omega) h.2.2.2
end
end
section
section
open Go PG Go.Proofs
theorem dq_lt {B a u y q : Nat} (h : a * B + u < q * y) (hy : 0 < y) : (a * B + u) / y < q := (Nat.div_lt_iff_lt_mul hy).2 h
theorem dq_keep {B n1 n0 q r a v : Nat} (h0 : n0 < B) (hv : v < B) (e : q * n1 + r = a) (hq : (a * B + v) / (n1 * B + n0) ≤ q) (hlt : a < n1 * B + n0) (hc : B ≤ q ∨ B * r + v < q * n0) :
    (a * B + v) / (n1 * B + n0) ≤ q - 1 ∧ 0 < q ∧ (q - 1) * n1 + (r + n1) = a := by
  have hy : 0 < n1 * B + n0 := by omega
  have key : (a * B + v) / (n1 * B + n0) < q := by
    rcases hc with hc | hc
    · refine Nat.lt_of_lt_of_le (dq_lt (q := B) ?_ hy) hc
      have : (a + 1) * B ≤ (n1 * B + n0) * B := Nat.mul_le_mul_right B hlt
      rw [Nat.mul_comm B]
      rw [Nat.add_mul, Nat.one_mul] at this
      omega
    · refine dq_lt ?_ hy
      have e1 : q * (n1 * B + n0) = q * n1 * B + q * n0 := by rw [Nat.mul_add, Nat.mul_assoc]
      have e2 : a * B = q * n1 * B + B * r := by rw [← e, Nat.add_mul, Nat.mul_comm r]
      omega
  have hq0 : 0 < q := Nat.lt_of_le_of_lt (Nat.zero_le _) key
  refine ⟨by omega, hq0, ?_⟩
  obtain ⟨p, rfl⟩ : ∃ p, q = p + 1 := ⟨q - 1, by omega⟩
  rw [Nat.add_sub_cancel]
  rw [Nat.add_mul, Nat.one_mul] at e
  omega
theorem dq_done {B n1 n0 q r a v : Nat} (e : q * n1 + r = a) (hq : (a * B + v) / (n1 * B + n0) ≤ q) (hy : 0 < n1 * B + n0) (hc : q * n0 ≤ B * r + v) : (a * B + v) / (n1 * B + n0) = q := by
  refine Nat.le_antisymm hq ((Nat.le_div_iff_mul_le hy).2 ?_)
  have e1 : q * (n1 * B + n0) = q * n1 * B + q * n0 := by rw [Nat.mul_add, Nat.mul_assoc]
  have e2 : a * B = q * n1 * B + B * r := by rw [← e, Nat.add_mul, Nat.mul_comm r]
  omega
theorem dq_first {B n1 n0 a v : Nat} (h1 : 0 < n1) (hv : v < B) : (a * B + v) / (n1 * B + n0) ≤ a / n1 := by
  have hB : 0 < B := by omega
  have hy : 0 < n1 * B := Nat.mul_pos h1 hB
  refine Nat.le_trans (Nat.div_le_div_left (Nat.le_add_right _ n0) hy) ?_
  rw [Nat.mul_comm n1, ← Nat.div_div_eq_div_mul]
  refine Nat.div_le_div_right ?_
  rw [Nat.mul_comm a, Nat.mul_add_div hB, Nat.div_eq_of_lt hv, Nat.add_zero]
  exact Nat.le_refl _
theorem dq_up {B n1 n0 a : Nat} (h1 : B ≤ 2 * n1) (h0 : n0 < B) (hlt : a < n1 * B + n0) : a / n1 ≤ B + 1 := by
  have hn : 0 < n1 := by omega
  refine Nat.le_of_lt_succ ((Nat.div_lt_iff_lt_mul hn).2 ?_)
  have : (B + 1 + 1) * n1 = n1 * B + 2 * n1 := by rw [Nat.add_mul, Nat.add_mul, Nat.mul_comm B]; omega
  show a < (B + 1 + 1) * n1
  omega
theorem dq_two {B a v w y : Nat} (hy : 0 < y) (hw : w < B) (ha : a < y) (hv : v < B) :
    ((a * B + v) * B + w) / y = (a * B + v) / y * B + ((a * B + v) % y * B + w) / y ∧ ((a * B + v) * B + w) % y = ((a * B + v) % y * B + w) % y := by
  have hd := Nat.div_add_mod (a * B + v) y
  generalize (a * B + v) / y = q at *
  generalize (a * B + v) % y = r at *
  have e : (a * B + v) * B + w = y * (q * B) + (r * B + w) := by
    rw [← hd, Nat.add_mul, Nat.mul_assoc, Nat.add_assoc]
  rw [e]
  exact ⟨by rw [Nat.mul_add_div hy], by rw [Nat.mul_add_mod]⟩
theorem dq_shift {n y s : Nat} : n * 2 ^ s / (y * 2 ^ s) = n / y ∧ n * 2 ^ s % (y * 2 ^ s) / 2 ^ s = n % y := by
  have hp := Nat.two_pow_pos s
  exact ⟨Nat.mul_div_mul_right _ _ hp, by rw [Nat.mul_mod_mul_right, Nat.mul_div_cancel _ hp]⟩
end
section
open Go PG Go.Proofs
theorem c_Lead (x : Nat) (hx : x < W) : PC E 239 [u x] (.int .i64 (64 - (bitLen x : Int))) := by
  have k1 := c_Len64 x hx
  have hb := (bitLen_le x 64).2 hx
  have w1 : IntKind.wrap .i64 (64 - (bitLen x : Int)) = 64 - (bitLen x : Int) := wrap64 (by omega) (by omega)
  simp only [u] at k1 ⊢
  refine PC.of_body follows Tryz.func239 (by decide +kernel) rfl (by kernel_rfl) (Nat.le_of_ble_eq_true rfl) (walk ?_)
  simp only [Tryz.f239, go_sem]
  refine qcall_i (k1) ?_; simp only [Tryz.f239, w1, go_sem]
  try rfl
theorem or_low {a b s : Nat} (h : b < 2 ^ s) : a * 2 ^ s ||| b = a * 2 ^ s + b := by
  rw [Nat.mul_comm, Nat.two_pow_add_eq_or_of_lt h]
theorem norm_top {y : Nat} (h0 : y ≠ 0) (hy : y < W) : bitLen y ≤ 64 ∧ 9223372036854775808 ≤ y * 2 ^ (64 - bitLen y) ∧ y * 2 ^ (64 - bitLen y) < W := by
  have hb := (bitLen_le y 64).2 hy
  have hp := bitLen_pos h0
  have h1 := (bitLen_le y (bitLen y)).1 (Nat.le_refl _)
  have h2 : 2 ^ (bitLen y - 1) ≤ y := Nat.not_lt.1 fun h => by have := (bitLen_le y (bitLen y - 1)).2 h; omega
  refine ⟨hb, ?_, ?_⟩
  · have : 2 ^ (bitLen y - 1) * 2 ^ (64 - bitLen y) = 9223372036854775808 := by
      rw [← Nat.pow_add, show bitLen y - 1 + (64 - bitLen y) = 63 by omega]
    rw [← this]
    exact Nat.mul_le_mul_right _ h2
  · have : 2 ^ bitLen y * 2 ^ (64 - bitLen y) = W := by
      rw [← Nat.pow_add, show bitLen y + (64 - bitLen y) = 64 by omega]
    rw [← this]
    exact Nat.mul_lt_mul_of_pos_right h1 (Nat.two_pow_pos _)
set_option maxHeartbeats 4000000 in
theorem c_Div64 {hi lo y : Nat} (hy : y < W) (hl : lo < W) (hh : hi < y) : PC E 238 [u hi, u lo, u y] (.tuple [u ((hi * W + lo) / y), u ((hi * W + lo) % y)]) := by
  have hy' : y < 18446744073709551616 := hy
  have hl' : lo < 18446744073709551616 := hl
  have hy0 : ¬ (y : Int) = 0 := by omega
  by_cases h0 : hi = 0
  · subst h0
    rw [Nat.zero_mul, Nat.zero_add]
    have d1 : IntKind.wrap .u64 ((lo : Int).tdiv (y : Int)) = ((lo / y : Nat) : Int) := by
      rw [n_tdiv]; exact wrap_nat64 (Nat.lt_of_le_of_lt (Nat.div_le_self _ _) hl)
    have d2 : (lo : Int).tmod (y : Int) = ((lo % y : Nat) : Int) := n_tmod lo y
    simp only [u]
    refine PC.of_body follows Tryz.func238 (by decide +kernel) rfl (by kernel_rfl) (Nat.le_of_ble_eq_true rfl) (walk ?_)
    simp only [Tryz.f238, Int.cast_ofNat_Int, go_sem]
    refine qif_df hy0 ?_
    simp only [Tryz.f238, Int.cast_ofNat_Int, go_sem]
    refine qif_df (by omega) ?_
    simp only [Tryz.f238, Int.cast_ofNat_Int, d1, d2, go_sem]
    refine qand_i hy0 ?_
    simp only [Tryz.f238, Int.cast_ofNat_Int, d1, d2, go_sem]
    refine qand_i hy0 ?_
    simp only [Tryz.f238, Int.cast_ofNat_Int, d1, d2, go_sem]
    try exact ⟨rfl, rfl⟩
    try rfl
  obtain ⟨b1, b2, b3⟩ := norm_top (y := y) (by omega) hy
  have kl := c_Lead y hy
  have hbp := bitLen_pos (x := y) (by omega)
  obtain ⟨s, hs⟩ : ∃ s, s = 64 - bitLen y := ⟨_, rfl⟩
  rw [show (64 : Int) - (bitLen y : Int) = (s : Int) by omega] at kl
  rw [← hs] at b2 b3
  have hs63 : s ≤ 63 := by omega
  have hp := Nat.two_pow_pos s
  -- the shifted numbers
  have hN : (hi * W + lo) * 2 ^ s = (hi * 2 ^ s + lo / 2 ^ (64 - s)) * W + lo * 2 ^ s % W := by
    have hW : W = 2 ^ (64 - s) * 2 ^ s := by rw [← Nat.pow_add, show 64 - s + s = 64 by omega]
    have e1 : lo * 2 ^ s % W = lo % 2 ^ (64 - s) * 2 ^ s := by rw [hW, Nat.mul_mod_mul_right]
    have e2 := Nat.div_add_mod lo (2 ^ (64 - s))
    rw [e1, Nat.add_mul, Nat.add_mul, Nat.mul_right_comm, Nat.add_assoc]
    congr 1
    conv => lhs; rw [← e2]
    rw [Nat.add_mul]
    congr 1
    rw [hW, Nat.mul_comm (2 ^ (64 - s)) (lo / _), Nat.mul_assoc]
  have hlow : lo / 2 ^ (64 - s) < 2 ^ s := by
    rw [Nat.div_lt_iff_lt_mul (Nat.two_pow_pos _), ← Nat.pow_add, show s + (64 - s) = 64 by omega]
    exact hl
  have hA : hi * 2 ^ s + lo / 2 ^ (64 - s) < y * 2 ^ s := by
    have : (hi + 1) * 2 ^ s ≤ y * 2 ^ s := Nat.mul_le_mul_right _ hh
    rw [Nat.add_mul, Nat.one_mul] at this
    omega
  have hdv := dq_shift (n := hi * W + lo) (y := y) (s := s)
  rw [hN] at hdv
  rw [← hdv.1, ← hdv.2]
  have hhi : hi * 2 ^ s < W := Nat.lt_of_le_of_lt (Nat.le_add_right _ _) (Nat.lt_trans hA b3)
  have s1 : IntKind.wrap .u64 ((y : Int) * 2 ^ (min s 64)) = ((y * 2 ^ s : Nat) : Int) := by rw [b_shl, Nat.mod_eq_of_lt b3]
  have s2 : IntKind.wrap .u64 ((hi : Int) * 2 ^ (min s 64)) = ((hi * 2 ^ s : Nat) : Int) := by rw [b_shl, Nat.mod_eq_of_lt hhi]
  have s3 : IntKind.wrap .u64 (64 - (s : Int)) = ((64 - s : Nat) : Int) := by rw [IntKind.wrap_u64]; omega
  have s4 : (lo : Int).fdiv (2 ^ (min (64 - s) 64)) = ((lo / 2 ^ (64 - s) : Nat) : Int) := b_shr hl (64 - s)
  have s5 : bits .or .u64 ((hi * 2 ^ s : Nat) : Int) ((lo / 2 ^ (64 - s) : Nat) : Int) = ((hi * 2 ^ s + lo / 2 ^ (64 - s) : Nat) : Int) := by
    rw [b_or hhi (Nat.lt_of_lt_of_le hlow (by have := Nat.pow_le_pow_right (show 0 < 2 by decide) (show s ≤ 64 by omega); exact this)), or_low hlow]
  have s6 : IntKind.wrap .u64 ((lo : Int) * 2 ^ (min s 64)) = ((lo * 2 ^ s % W : Nat) : Int) := b_shl lo s
  have hYm : lo * 2 ^ s % W < W := Nat.mod_lt _ W0
  have w8 : IntKind.wrap .u64 (s : Int) = (s : Int) := wrap_nat64 (show s < 18446744073709551616 by omega)
  generalize hi * 2 ^ s + lo / 2 ^ (64 - s) = A at *
  generalize lo * 2 ^ s % W = v at *
  generalize y * 2 ^ s = Y at *
  generalize hi * 2 ^ s = hs2 at *
  generalize lo / 2 ^ (64 - s) = ls2 at *
  have b3' : Y < 18446744073709551616 := b3
  have hYm' : v < 18446744073709551616 := hYm
  -- halves of words
  have a1 := b_shr b3 32
  have a2 : bits .and .u64 (Y : Int) 4294967295 = ((Y % 2 ^ 32 : Nat) : Int) := m_and Y 32 4294967295 b3 (by decide) (by decide)
  have a3 := b_shr hYm 32
  have a4 : bits .and .u64 (v : Int) 4294967295 = ((v % 2 ^ 32 : Nat) : Int) := m_and v 32 4294967295 hYm (by decide) (by decide)
  rw [show (2 : Nat) ^ 32 = 4294967296 by decide] at a1 a2 a3 a4
  have hYe := Nat.div_add_mod Y 4294967296
  have hve := Nat.div_add_mod v 4294967296
  have hn0 := Nat.mod_lt Y (show 4294967296 > 0 by decide)
  have hv0 := Nat.mod_lt v (show 4294967296 > 0 by decide)
  have hv1 : v / 4294967296 < 4294967296 := by omega
  have hn1 : 4294967296 ≤ 2 * (Y / 4294967296) := by omega
  have htwo := dq_two (B := 4294967296) (a := A) (v := v / 4294967296) (w := v % 4294967296) (y := Y) (by omega) hv0 hA hv1
  have hW2 : A * W + v = (A * 4294967296 + v / 4294967296) * 4294967296 + v % 4294967296 := by
    have hW0 : W = 18446744073709551616 := rfl
    have hW : W = 4294967296 * 4294967296 := by omega
    rw [hW, Nat.add_mul, Nat.mul_assoc]
    omega
  rw [hW2, htwo.1, htwo.2]
  have hYd : Y / 4294967296 * 4294967296 + Y % 4294967296 = Y := Nat.div_add_mod' Y 4294967296
  generalize hN1 : Y / 4294967296 = n1 at *
  generalize hN0 : Y % 4294967296 = n0 at *
  generalize v / 4294967296 = v1 at *
  generalize v % 4294967296 = v0 at *
  clear hN hlow hdv hW2 htwo hYe hve hs hN1 hN0
  obtain ⟨Q1, hQ1⟩ : ∃ Q, Q = (A * 4294967296 + v1) / Y := ⟨_, rfl⟩
  obtain ⟨R1, hR1⟩ : ∃ R, R = (A * 4294967296 + v1) % Y := ⟨_, rfl⟩
  obtain ⟨Q0, hQ0⟩ : ∃ Q, Q = (R1 * 4294967296 + v0) / Y := ⟨_, rfl⟩
  rw [← hQ1, ← hR1, ← hQ0]
  have hR1Y : R1 < Y := by rw [hR1]; exact Nat.mod_lt _ (by omega)
  have hd1 := Nat.div_add_mod (A * 4294967296 + v1) Y
  have hd0 := Nat.div_add_mod (R1 * 4294967296 + v0) Y
  rw [← hQ1, ← hR1] at hd1
  rw [← hQ0] at hd0
  have hR0Y : (R1 * 4294967296 + v0) % Y < Y := Nat.mod_lt _ (by omega)
  obtain ⟨R0, hR0⟩ : ∃ R, R = (R1 * 4294967296 + v0) % Y := ⟨_, rfl⟩
  rw [← hR0] at hd0 hR0Y ⊢
  obtain ⟨QQ, hQQ⟩ : ∃ Q, Q = Q1 * 4294967296 + Q0 := ⟨_, rfl⟩
  rw [← hQQ]
  obtain ⟨RR, hRR⟩ : ∃ R, R = R0 / 2 ^ s := ⟨_, rfl⟩
  rw [← hRR]
  refine PC.of_sem Tryz.func238 (by decide +kernel) rfl (Nat.le_of_ble_eq_true rfl) ?_
  refine PSem.cut follows (by kernel_rfl) 15 (fun _ : Unit => ⟨[(2, .val (.int .u64 Y)), (8, .val (.int .u64 s)), (9, .val (.int .u64 n1)), (10, .val (.int .u64 n0)), (11, .val (.int .u64 A)), (13, .val (.int .u64 v1)), (14, .val (.int .u64 v0)), (15, .val (.int .u64 Q1))], []⟩)
    (fun _ => True) ?_ (fun _ _ => ?_)
  · simp only [u] at kl ⊢
    have d1 : IntKind.wrap .u64 ((A : Int).tdiv (n1 : Int)) = ((A / n1 : Nat) : Int) := by
      rw [n_tdiv]; exact wrap_nat64 (Nat.lt_of_le_of_lt (Nat.div_le_self _ _) (show A < 18446744073709551616 by omega))
    have d2 : IntKind.wrap .u64 ((A : Int) - IntKind.wrap .u64 (((A / n1 : Nat) : Int) * (n1 : Int))) = ((A % n1 : Nat) : Int) := by
      have e := Nat.div_add_mod A n1
      have e2 : ((A / n1 : Nat) : Int) * (n1 : Int) = ((n1 * (A / n1) : Nat) : Int) := by rw [Nat.mul_comm]; simp
      rw [e2, wrap_nat64 (show _ < 18446744073709551616 by omega), IntKind.wrap_u64]
      omega
    simp only [Tryz.f238, qfirst_succ, qfirst_zero, after_succ, after_zero, Int.cast_ofNat_Int, go_sem]
    refine qif_df hy0 ?_
    simp only [Tryz.f238, qfirst_succ, qfirst_zero, after_succ, after_zero, Int.cast_ofNat_Int, go_sem]
    refine qif_df (by omega) ?_
    simp only [Tryz.f238, qfirst_succ, qfirst_zero, after_succ, after_zero, Int.cast_ofNat_Int, go_sem]
    refine qif_df (by omega) ?_
    simp only [Tryz.f238, qfirst_succ, qfirst_zero, after_succ, after_zero, Int.cast_ofNat_Int, go_sem]
    refine qcall_i (kl) ?_; simp only [Tryz.f238, qfirst_succ, qfirst_zero, after_succ, after_zero, Int.cast_ofNat_Int, w8, s1, s2, s3, s4, s5, s6, a1, a2, a3, a4, d1, d2, go_sem]
    repeat' ((with_reducible refine qand_i (by omega) ?_); simp only [Tryz.f238, qfirst_succ, qfirst_zero, after_succ, after_zero, Int.cast_ofNat_Int, w8, s1, s2, s3, s4, s5, s6, a1, a2, a3, a4, d1, d2, go_sem])
    refine PLoop.intro (fun i : Nat × Nat => ⟨[(2, .val (.int .u64 Y)), (8, .val (.int .u64 s)), (9, .val (.int .u64 n1)), (10, .val (.int .u64 n0)), (11, .val (.int .u64 A)), (13, .val (.int .u64 v1)), (14, .val (.int .u64 v0)), (15, .val (.int .u64 i.1)), (16, .val (.int .u64 i.2))], []⟩)
      (fun i => i.1 * n1 + i.2 = A ∧ Q1 ≤ i.1 ∧ i.1 ≤ 4294967297 ∧ i.2 < 4294967296) (fun i => i.1) (A / n1, A % n1) ⟨Nat.div_add_mod' A n1, by rw [hQ1, ← hYd]; exact dq_first (by omega) hv1, dq_up hn1 hn0 (by omega), by have := Nat.mod_lt A (show n1 > 0 by omega); dsimp only; omega⟩ ?_ fun i hi => walk ?_
    · simp [Wk, sget, killL, kill1, SV.key]
    obtain ⟨q, r⟩ := i
    obtain ⟨j1, j2, j3, j4⟩ := hi
    dsimp only at j1 j2 j3 j4 ⊢
    have hQ1' : Q1 = (A * 4294967296 + v1) / (n1 * 4294967296 + n0) := by rw [hYd]; exact hQ1
    have hAy : A < n1 * 4294967296 + n0 := by omega
    have wq : q < 4294967296 → IntKind.wrap .u64 ((q : Int) * (n0 : Int)) = ((q * n0 : Nat) : Int) := fun h => by
      rw [← Int.natCast_mul]
      refine wrap_nat64 ?_
      have : q * n0 ≤ 4294967295 * 4294967295 := Nat.mul_le_mul (by omega) (by omega)
      show q * n0 < 18446744073709551616
      omega
    have wr : IntKind.wrap .u64 (4294967296 * (r : Int)) = ((4294967296 * r : Nat) : Int) := by rw [IntKind.wrap_u64]; omega
    have wa : IntKind.wrap .u64 (((4294967296 * r : Nat) : Int) + (v1 : Int)) = ((4294967296 * r + v1 : Nat) : Int) := by rw [IntKind.wrap_u64]; omega
    have wd : 0 < q → IntKind.wrap .u64 ((q : Int) - 1) = ((q - 1 : Nat) : Int) := fun h => by rw [IntKind.wrap_u64]; omega
    have we : IntKind.wrap .u64 ((r : Int) + (n1 : Int)) = ((r + n1 : Nat) : Int) := by rw [IntKind.wrap_u64]; omega
    have hdone : q * n0 ≤ 4294967296 * r + v1 → Q1 = q := fun h => by rw [hQ1']; exact dq_done j1 (by rw [← hQ1']; exact j2) (by omega) h
    have hkeep : 4294967296 ≤ q ∨ 4294967296 * r + v1 < q * n0 → Q1 ≤ q - 1 ∧ 0 < q ∧ (q - 1) * n1 + (r + n1) = A := fun h => by
      have := dq_keep hn0 hv1 j1 (by rw [← hQ1']; exact j2) hAy h
      rwa [← hQ1'] at this
    have hlast : (4294967296 ≤ q ∨ 4294967296 * r + v1 < q * n0) → 4294967296 ≤ r + n1 → Q1 = q - 1 := fun h h2 => by
      obtain ⟨g1, g2, g3⟩ := hkeep h
      rw [hQ1']
      refine dq_done g3 (by rw [← hQ1']; exact g1) (by omega) ?_
      have m1 : (q - 1) * n0 ≤ 4294967296 * n0 := Nat.mul_le_mul_right _ (by omega)
      have m2 : 4294967296 * n0 ≤ 4294967296 * (r + n1) := Nat.mul_le_mul_left _ (by omega)
      omega
    have hgo : (4294967296 ≤ q ∨ 4294967296 * r + v1 < q * n0) → ∃ i : Nat × Nat, (i.1 * n1 + i.2 = A ∧ Q1 ≤ i.1 ∧ i.1 ≤ 4294967297) ∧ i = (q - 1, r + n1) ∧ i.1 < q := fun h => by
      obtain ⟨g1, g2, g3⟩ := hkeep h
      exact ⟨_, ⟨g3, g1, by dsimp only; omega⟩, rfl, by dsimp only; omega⟩
    by_cases h1 : 4294967296 ≤ q
    · obtain ⟨-, g2, -⟩ := hkeep (.inl h1)
      have wd := wd g2
      simp only [Tryz.f238, go_sem]
      refine qif_dt (by omega) ?_
      simp only [Tryz.f238, wd, we, go_sem]
      refine qif_d (fun h3 => ?_) (fun h3 => ?_)
      · have := hlast (.inl h1) (by omega)
        simp only [Tryz.f238, go_sem]
        refine ⟨(), ?_⟩
        simp [Wk, sget, killL, kill1, SV.key, this]
      · obtain ⟨_, ⟨f1, f2, f3⟩, rfl, f4⟩ := hgo (.inl h1)
        simp only [Tryz.f238, go_sem]
        refine ⟨(q - 1, r + n1), ⟨f1, f2, f3, by dsimp only; omega⟩, f4, ?_⟩
        simp [Wk, sget, killL, kill1, SV.key]
    have wq := wq (by omega)
    simp only [Tryz.f238, go_sem]
    refine qif_df (by omega) ?_
    simp only [Tryz.f238, wq, wr, wa, go_sem]
    refine qif_d (fun h2 => ?_) (fun h2 => ?_)
    · have h2' : 4294967296 * r + v1 < q * n0 := by omega
      obtain ⟨-, g2, -⟩ := hkeep (.inr h2')
      have wd := wd g2
      simp only [Tryz.f238, wd, we, go_sem]
      refine qif_d (fun h3 => ?_) (fun h3 => ?_)
      · have := hlast (.inr h2') (by omega)
        simp only [Tryz.f238, go_sem]
        refine ⟨(), ?_⟩
        simp [Wk, sget, killL, kill1, SV.key, this]
      · obtain ⟨_, ⟨f1, f2, f3⟩, rfl, f4⟩ := hgo (.inr h2')
        simp only [Tryz.f238, go_sem]
        refine ⟨(q - 1, r + n1), ⟨f1, f2, f3, by dsimp only; omega⟩, f4, ?_⟩
        simp [Wk, sget, killL, kill1, SV.key]
    · have := hdone (by omega)
      simp only [Tryz.f238, go_sem]
      refine ⟨(), ?_⟩
      simp [Wk, sget, killL, kill1, SV.key, this]
  have hAv : (A : Int) * 4294967296 + v1 - (Q1 : Int) * Y = R1 := by
    have : ((Y * Q1 + R1 : Nat) : Int) = ((A * 4294967296 + v1 : Nat) : Int) := by rw [hd1]
    simp only [Int.natCast_add, Int.natCast_mul] at this
    rw [Int.mul_comm (Y : Int)] at this
    have e : ((4294967296 : Nat) : Int) = 4294967296 := rfl
    rw [e] at this
    omega
  have w17 : IntKind.wrap .u64 (IntKind.wrap .u64 (IntKind.wrap .u64 ((A : Int) * 4294967296) + (v1 : Int)) - IntKind.wrap .u64 ((Q1 : Int) * (Y : Int))) = (R1 : Int) := by
    rw [IntKind.wrap_u64, IntKind.wrap_u64, IntKind.wrap_u64, IntKind.wrap_u64]
    generalize (Q1 : Int) * (Y : Int) = QY at *
    omega
  refine PSem.cut follows (by kernel_rfl) 4 (fun _ : Unit => ⟨[(2, .val (.int .u64 Y)), (8, .val (.int .u64 s)), (14, .val (.int .u64 v0)), (15, .val (.int .u64 Q1)), (17, .val (.int .u64 R1)), (18, .val (.int .u64 Q0))], []⟩)
    (fun _ => True) ?_ (fun _ _ => ?_)
  · have d1 : IntKind.wrap .u64 ((R1 : Int).tdiv (n1 : Int)) = ((R1 / n1 : Nat) : Int) := by
      rw [n_tdiv]; exact wrap_nat64 (Nat.lt_of_le_of_lt (Nat.div_le_self _ _) (show R1 < 18446744073709551616 by omega))
    have d2 : IntKind.wrap .u64 ((R1 : Int) - IntKind.wrap .u64 (((R1 / n1 : Nat) : Int) * (n1 : Int))) = ((R1 % n1 : Nat) : Int) := by
      have e := Nat.div_add_mod R1 n1
      have e2 : ((R1 / n1 : Nat) : Int) * (n1 : Int) = ((n1 * (R1 / n1) : Nat) : Int) := by rw [Nat.mul_comm]; simp
      rw [e2, wrap_nat64 (show _ < 18446744073709551616 by omega), IntKind.wrap_u64]
      omega
    simp only [Tryz.f238, after_succ, after_zero, qfirst_succ, qfirst_zero, after_succ, after_zero, Int.cast_ofNat_Int, w17, d1, d2, go_sem]
    repeat' ((with_reducible refine qand_i (by omega) ?_); simp only [Tryz.f238, qfirst_succ, qfirst_zero, after_succ, after_zero, Int.cast_ofNat_Int, w17, d1, d2, go_sem])
    refine PLoop.intro (fun i : Nat × Nat => ⟨[(2, .val (.int .u64 Y)), (8, .val (.int .u64 s)), (9, .val (.int .u64 n1)), (10, .val (.int .u64 n0)), (14, .val (.int .u64 v0)), (15, .val (.int .u64 Q1)), (16, .val (.int .u64 i.2)), (17, .val (.int .u64 R1)), (18, .val (.int .u64 i.1))], []⟩)
      (fun i => i.1 * n1 + i.2 = R1 ∧ Q0 ≤ i.1 ∧ i.1 ≤ 4294967297 ∧ i.2 < 4294967296) (fun i => i.1) (R1 / n1, R1 % n1) ⟨Nat.div_add_mod' R1 n1, by rw [hQ0, ← hYd]; exact dq_first (by omega) hv0, dq_up hn1 hn0 (by omega), by have := Nat.mod_lt R1 (show n1 > 0 by omega); dsimp only; omega⟩ ?_ fun i hi => walk ?_
    · simp [Wk, sget, killL, kill1, SV.key]
    obtain ⟨q, r⟩ := i
    obtain ⟨j1, j2, j3, j4⟩ := hi
    dsimp only at j1 j2 j3 j4 ⊢
    have hQ0' : Q0 = (R1 * 4294967296 + v0) / (n1 * 4294967296 + n0) := by rw [hYd]; exact hQ0
    have hRy : R1 < n1 * 4294967296 + n0 := by omega
    have wq : q < 4294967296 → IntKind.wrap .u64 ((q : Int) * (n0 : Int)) = ((q * n0 : Nat) : Int) := fun h => by
      rw [← Int.natCast_mul]
      refine wrap_nat64 ?_
      have : q * n0 ≤ 4294967295 * 4294967295 := Nat.mul_le_mul (by omega) (by omega)
      show q * n0 < 18446744073709551616
      omega
    have wr : IntKind.wrap .u64 (4294967296 * (r : Int)) = ((4294967296 * r : Nat) : Int) := by rw [IntKind.wrap_u64]; omega
    have wa : IntKind.wrap .u64 (((4294967296 * r : Nat) : Int) + (v0 : Int)) = ((4294967296 * r + v0 : Nat) : Int) := by rw [IntKind.wrap_u64]; omega
    have wd : 0 < q → IntKind.wrap .u64 ((q : Int) - 1) = ((q - 1 : Nat) : Int) := fun h => by rw [IntKind.wrap_u64]; omega
    have we : IntKind.wrap .u64 ((r : Int) + (n1 : Int)) = ((r + n1 : Nat) : Int) := by rw [IntKind.wrap_u64]; omega
    have hdone : q * n0 ≤ 4294967296 * r + v0 → Q0 = q := fun h => by rw [hQ0']; exact dq_done j1 (by rw [← hQ0']; exact j2) (by omega) h
    have hkeep : 4294967296 ≤ q ∨ 4294967296 * r + v0 < q * n0 → Q0 ≤ q - 1 ∧ 0 < q ∧ (q - 1) * n1 + (r + n1) = R1 := fun h => by
      have := dq_keep hn0 hv0 j1 (by rw [← hQ0']; exact j2) hRy h
      rwa [← hQ0'] at this
    have hlast : (4294967296 ≤ q ∨ 4294967296 * r + v0 < q * n0) → 4294967296 ≤ r + n1 → Q0 = q - 1 := fun h h2 => by
      obtain ⟨g1, g2, g3⟩ := hkeep h
      rw [hQ0']
      refine dq_done g3 (by rw [← hQ0']; exact g1) (by omega) ?_
      have m1 : (q - 1) * n0 ≤ 4294967296 * n0 := Nat.mul_le_mul_right _ (by omega)
      have m2 : 4294967296 * n0 ≤ 4294967296 * (r + n1) := Nat.mul_le_mul_left _ (by omega)
      omega
    have hgo : (4294967296 ≤ q ∨ 4294967296 * r + v0 < q * n0) → ∃ i : Nat × Nat, (i.1 * n1 + i.2 = R1 ∧ Q0 ≤ i.1 ∧ i.1 ≤ 4294967297) ∧ i = (q - 1, r + n1) ∧ i.1 < q := fun h => by
      obtain ⟨g1, g2, g3⟩ := hkeep h
      exact ⟨_, ⟨g3, g1, by dsimp only; omega⟩, rfl, by dsimp only; omega⟩
    by_cases h1 : 4294967296 ≤ q
    · obtain ⟨-, g2, -⟩ := hkeep (.inl h1)
      have wd := wd g2
      simp only [Tryz.f238, go_sem]
      refine qif_dt (by omega) ?_
      simp only [Tryz.f238, wd, we, go_sem]
      refine qif_d (fun h3 => ?_) (fun h3 => ?_)
      · have := hlast (.inl h1) (by omega)
        simp only [Tryz.f238, go_sem]
        refine ⟨(), ?_⟩
        simp [Wk, sget, killL, kill1, SV.key, this]
      · obtain ⟨_, ⟨f1, f2, f3⟩, rfl, f4⟩ := hgo (.inl h1)
        simp only [Tryz.f238, go_sem]
        refine ⟨(q - 1, r + n1), ⟨f1, f2, f3, by dsimp only; omega⟩, f4, ?_⟩
        simp [Wk, sget, killL, kill1, SV.key]
    have wq := wq (by omega)
    simp only [Tryz.f238, go_sem]
    refine qif_df (by omega) ?_
    simp only [Tryz.f238, wq, wr, wa, go_sem]
    refine qif_d (fun h2 => ?_) (fun h2 => ?_)
    · have h2' : 4294967296 * r + v0 < q * n0 := by omega
      obtain ⟨-, g2, -⟩ := hkeep (.inr h2')
      have wd := wd g2
      simp only [Tryz.f238, wd, we, go_sem]
      refine qif_d (fun h3 => ?_) (fun h3 => ?_)
      · have := hlast (.inr h2') (by omega)
        simp only [Tryz.f238, go_sem]
        refine ⟨(), ?_⟩
        simp [Wk, sget, killL, kill1, SV.key, this]
      · obtain ⟨_, ⟨f1, f2, f3⟩, rfl, f4⟩ := hgo (.inr h2')
        simp only [Tryz.f238, go_sem]
        refine ⟨(q - 1, r + n1), ⟨f1, f2, f3, by dsimp only; omega⟩, f4, ?_⟩
        simp [Wk, sget, killL, kill1, SV.key]
    · have := hdone (by omega)
      simp only [Tryz.f238, go_sem]
      refine ⟨(), ?_⟩
      simp [Wk, sget, killL, kill1, SV.key, this]
  have hRv : (R1 : Int) * 4294967296 + v0 - (Q0 : Int) * Y = R0 := by
    have : ((Y * Q0 + R0 : Nat) : Int) = ((R1 * 4294967296 + v0 : Nat) : Int) := by rw [hd0]
    simp only [Int.natCast_add, Int.natCast_mul] at this
    rw [Int.mul_comm (Y : Int)] at this
    have e : ((4294967296 : Nat) : Int) = 4294967296 := rfl
    rw [e] at this
    omega
  have x1 : IntKind.wrap .u64 (IntKind.wrap .u64 (IntKind.wrap .u64 ((R1 : Int) * 4294967296) + (v0 : Int)) - IntKind.wrap .u64 ((Q0 : Int) * (Y : Int))) = (R0 : Int) := by
    rw [IntKind.wrap_u64, IntKind.wrap_u64, IntKind.wrap_u64, IntKind.wrap_u64]
    generalize (Q0 : Int) * (Y : Int) = QY at *
    omega
  have q1B : Q1 < 4294967296 := by
    rw [hQ1, Nat.div_lt_iff_lt_mul (by omega)]
    have : (A + 1) * 4294967296 ≤ Y * 4294967296 := Nat.mul_le_mul_right _ hA
    rw [Nat.mul_comm 4294967296 Y]
    omega
  have q0B : Q0 < 4294967296 := by
    rw [hQ0, Nat.div_lt_iff_lt_mul (by omega)]
    have : (R1 + 1) * 4294967296 ≤ Y * 4294967296 := Nat.mul_le_mul_right _ hR1Y
    rw [Nat.mul_comm 4294967296 Y]
    omega
  have x2 : IntKind.wrap .u64 (IntKind.wrap .u64 ((Q1 : Int) * 4294967296) + (Q0 : Int)) = (QQ : Int) := by
    rw [IntKind.wrap_u64, IntKind.wrap_u64]; omega
  have x3 : (R0 : Int).fdiv (2 ^ (min s 64)) = (RR : Int) := by rw [hRR]; exact b_shr (show R0 < 18446744073709551616 by omega) s
  refine PSem.last follows (by kernel_rfl) ?_
  simp only [Tryz.f238, after_succ, after_zero, x1, x2, x3, go_sem]
  repeat' ((with_reducible refine qand_i (by omega) ?_); simp only [Tryz.f238, x1, x2, x3, go_sem])
  try exact ⟨rfl, rfl⟩
  try rfl
end
section
open Go PG Go.Proofs
def outL (X n i : Nat) : List Nat := (List.range n).map fun j => if j < i then 0 else X / W ^ j % W
theorem outL_len (X n i : Nat) : (outL X n i).length = n := by simp [outL]
theorem outL_all (X n : Nat) : outL X n n = List.replicate n 0 := by
  unfold outL
  apply List.ext_getElem
  · simp
  · intro j h1 h2
    simp at h1
    simp [h1]
theorem outL_zero (X n : Nat) : outL X n 0 = tab W X n := by
  unfold outL tab
  simp
theorem outL_set {X n i : Nat} (hi : i < n) : (U (outL X n (i + 1))).set i (.int .u64 ((X / W ^ i % W : Nat) : Int)) = U (outL X n i) := by
  unfold U
  show (List.map u _).set i (u (X / W ^ i % W)) = _
  rw [← List.map_set]
  congr 1
  unfold outL
  apply List.ext_getElem
  · simp
  · intro j h1 h2
    simp at h1 h2
    rw [List.getElem_set]
    by_cases hj : i = j
    · subst hj; simp
    · simp only [hj, if_false, List.getElem_map, List.getElem_range]
      by_cases h3 : j < i
      · rw [if_pos (by omega), if_pos h3]
      · rw [if_neg (by omega), if_neg h3]
theorem small_step {X n i : Nat} (hn : 0 < n) : (X / W ^ (i + 1) % n * W + X / W ^ i % W) / n = X / n / W ^ i % W ∧ (X / W ^ (i + 1) % n * W + X / W ^ i % W) % n = X / W ^ i % n := by
  have e1 : X / W ^ (i + 1) = X / W ^ i / W := by rw [Nat.pow_succ, Nat.div_div_eq_div_mul]
  have e2 : X / n / W ^ i = X / W ^ i / n := by rw [Nat.div_div_eq_div_mul, Nat.div_div_eq_div_mul, Nat.mul_comm]
  rw [e1, e2]
  generalize X / W ^ i = Y
  have h1 := Nat.div_add_mod Y W
  have h2 := Nat.div_add_mod (Y / W) n
  have h3 : Y / W % n * W + Y % W < n * W := by
    have a := Nat.mod_lt (Y / W) hn
    have b := Nat.mod_lt Y W0
    have : (Y / W % n + 1) * W ≤ n * W := Nat.mul_le_mul_right _ a
    rw [Nat.add_mul, Nat.one_mul] at this
    omega
  have e3 : Y = n * (Y / W / n * W) + (Y / W % n * W + Y % W) := by
    conv => lhs; rw [← h1, ← h2]
    rw [Nat.mul_comm W, Nat.add_mul, Nat.mul_assoc, Nat.add_assoc]
  have hq : (Y / W % n * W + Y % W) / n < W := (Nat.div_lt_iff_lt_mul hn).2 (by rw [Nat.mul_comm W]; exact h3)
  constructor
  · conv => rhs; rw [e3]
    rw [Nat.mul_add_div hn, Nat.mul_comm (Y / W / n), Nat.mul_add_mod, Nat.mod_eq_of_lt hq]
  · conv => rhs; rw [e3]
    rw [Nat.mul_add_mod]
theorem digit_at {l : List Nat} (ol : Ok W l) {i : Nat} (hi : i < l.length) : (U l)[i]? = some (.int .u64 ((vl l / W ^ i % W : Nat) : Int)) := by
  have hv : vl l = dv W l := rfl
  rw [U_get, hv, ← dv_get W0 l ol i, List.getD_eq_getElem?_getD, List.getElem?_eq_getElem hi]; rfl
theorem d_Small {l : List Nat} (ol : Ok W l) (hl : l.length ≤ 100000) {n : Nat} (hn : n < W) (h0 : n ≠ 0) : PC E 222 [NL l, u n] (.tuple [NN (vl l / n), u (vl l % n), .int .i64 0]) := by
  have hX : vl l < W ^ l.length := dv_lt l ol
  have hst : ∀ i, i < l.length → PC E 238 [.int .u64 ((vl l / W ^ (i + 1) % n : Nat) : Int), .int .u64 ((vl l / W ^ i % W : Nat) : Int), .int .u64 (n : Int)] (.tuple [.int .u64 ((vl l / n / W ^ i % W : Nat) : Int), .int .u64 ((vl l / W ^ i % n : Nat) : Int)]) := fun i hi => by
    have h1 := c_Div64 (hi := vl l / W ^ (i + 1) % n) (lo := vl l / W ^ i % W) hn (Nat.mod_lt _ W0) (Nat.mod_lt _ (by omega))
    obtain ⟨e1, e2⟩ := small_step (X := vl l) (i := i) (n := n) (by omega)
    rw [e1, e2] at h1
    exact h1
  have hg := fun i hi => digit_at ol (i := i) hi
  have hz : vl l / W ^ l.length % n = 0 := by rw [Nat.div_eq_of_lt hX, Nat.zero_mod]
  have hbare : PC E 119 [.lst l.length (U (outL (vl l / n) l.length 0))] (NN (vl l / n)) := by
    rw [outL_zero]
    exact PC.at_list (n_Bare (tab W (vl l / n) l.length) (by rw [tab_length]; omega) (ok_tab W0 _ _)) (tab_length _ _ _) ((dv_tab _ _).trans (Nat.mod_eq_of_lt (Nat.lt_of_le_of_lt (Nat.div_le_self _ _) hX)))
  have hout0 : U (outL (vl l / n) l.length l.length) = List.replicate l.length (.int .u64 0) := by rw [outL_all, U_replicate]
  have hset := fun i (hi : i < l.length) => outL_set (X := vl l / n) hi
  have hlenU : ∀ i, (U (outL (vl l / n) l.length i)).length = l.length := fun i => by unfold U; rw [List.length_map, outL_len]
  have hfin : vl l / W ^ 0 % n = vl l % n := by rw [Nat.pow_zero, Nat.div_one]
  generalize vl l / n = Q at *
  obtain ⟨O, hO⟩ : ∃ O : Nat → List PV, ∀ i, U (outL Q l.length i) = O i := ⟨_, fun _ => rfl⟩
  obtain ⟨R, hR⟩ : ∃ R : Nat → Nat, ∀ i, vl l / W ^ i % n = R i := ⟨_, fun _ => rfl⟩
  obtain ⟨D, hD⟩ : ∃ D : Nat → Nat, ∀ i, vl l / W ^ i % W = D i := ⟨_, fun _ => rfl⟩
  obtain ⟨G, hG⟩ : ∃ G : Nat → Nat, ∀ i, Q / W ^ i % W = G i := ⟨_, fun _ => rfl⟩
  simp only [hO, hR, hD, hG] at hst hg hz hbare hout0 hset hlenU hfin
  rw [← hfin]
  clear hO hR hD hG hfin hX ol
  simp only [NL, u] at hbare ⊢
  generalize U l = U1 at *
  have wl : IntKind.wrap .i64 ((l.length : Int) - 1) = (l.length : Int) - 1 := wrap64 (by omega) (by omega)
  refine PC.of_body follows Tryz.func222 (by decide +kernel) rfl (by kernel_rfl) (Nat.le_of_ble_eq_true rfl) (walk ?_)
  simp only [Tryz.f222, wl, go_sem]
  refine qif_df (by omega) ?_
  simp only [Tryz.f222, wl, go_sem]
  refine qand_i (by omega) ?_
  simp only [Tryz.f222, wl, go_sem]
  refine PLoop.intro (fun i : Nat => ⟨[(0, .val (.lst l.length U1)), (1, .val (.int .u64 n)), (7, .row 14), (8, .val (.int .u64 (R i))), (9, .val (.int .i64 ((i : Int) - 1)))], [(14, (.row 22 1 l.length (O i), false))]⟩) (fun i => i ≤ l.length) (fun i => i) l.length (Nat.le_refl _) ?_ fun i hi => walk ?_
  · rw [hout0]
    simp [Wk, sget, killL, kill1, SV.key, hz]
  rcases i with _ | i
  · simp only [Tryz.f222, go_sem]
    refine qif_df (by omega) ?_
    simp only [Tryz.f222, go_sem]
    refine qcall_i (hbare) ?_; simp only [Tryz.f222, go_sem]
    try rfl
  have we : ((i + 1 : Nat) : Int) - 1 = (i : Int) := by omega
  have wi : IntKind.wrap .i64 ((i : Int) - 1) = (i : Int) - 1 := wrap64 (by omega) (by omega)
  have x1 := hg i (by omega)
  have k1 := hst i (by omega)
  have x2 := hset i (by omega)
  have x3 := hlenU (i + 1)
  simp only [Tryz.f222, we, go_sem]
  refine qif_dt (by omega) ?_
  simp only [Tryz.f222, we, go_sem]
  refine qand_i (by omega) ?_
  simp only [Tryz.f222, we, go_sem]
  refine qval_i (congrArg (Option.map _) x1) ?_
  simp only [Tryz.f222, we, go_sem]
  refine qcall_i (k1) ?_; simp only [Tryz.f222, we, wi, go_sem]
  refine qand_i (by omega) ?_
  simp only [Tryz.f222, we, wi, go_sem]
  refine qand_i (by rw [x3]; omega) ?_
  simp only [Tryz.f222, we, wi, go_sem]
  refine ⟨i, by omega, by omega, ?_⟩
  simp [Wk, sget, killL, kill1, SV.key, setCells, x2]
end
section
open Go PG Go.Proofs
theorem tab_getU {P m j : Nat} (h : j < m) : (U (tab W P m))[j]? = some (.int .u64 ((P / W ^ j % W : Nat) : Int)) := by
  rw [U_get]
  unfold tab
  simp [h, u]
theorem tab_set2 {P c i m : Nat} (hi : i + 1 < m) (hP : P / W ^ (i + 1) = 0) (hc : P / W ^ i + c < W * W) :
    ((U (tab W P m)).set i (.int .u64 (((P / W ^ i + c) % W : Nat) : Int))).set (i + 1) (.int .u64 (((P / W ^ i + c) / W : Nat) : Int)) = U (tab W (P + W ^ i * c) m) := by
  unfold U
  show ((List.map u _).set i (u ((P / W ^ i + c) % W))).set (i + 1) (u ((P / W ^ i + c) / W)) = _
  rw [← List.map_set, ← List.map_set]
  congr 1
  apply List.ext_getElem
  · simp [tab]
  · intro j h1 h2
    simp only [List.length_set, tab_length] at h1
    have hWi := Nat.pow_pos (n := i) W0
    have ht : ∀ X, (tab W X m)[j]'(by rw [tab_length]; exact h1) = X / W ^ j % W := fun X => by simp [tab]
    rw [ht, List.getElem_set, List.getElem_set]
    have hd : (P + W ^ i * c) / W ^ i = P / W ^ i + c := Nat.add_mul_div_left _ _ hWi
    by_cases e1 : i + 1 = j
    · subst e1
      rw [if_pos rfl, Nat.pow_succ, ← Nat.div_div_eq_div_mul, hd, Nat.mod_eq_of_lt]
      exact (Nat.div_lt_iff_lt_mul W0).2 hc
    · rw [if_neg e1]
      by_cases e2 : i = j
      · subst e2
        rw [if_pos rfl, hd]
      · rw [if_neg e2, ht]
        rcases Nat.lt_or_gt_of_ne e2 with h3 | h3
        · obtain ⟨k, rfl⟩ : ∃ k, j = i + 2 + k := ⟨j - i - 2, by omega⟩
          have p1 : P / W ^ (i + 2 + k) = 0 := by
            rw [show i + 2 + k = i + 1 + (1 + k) by omega, Nat.pow_add, ← Nat.div_div_eq_div_mul, hP, Nat.zero_div]
          have p2 : (P + W ^ i * c) / W ^ (i + 2 + k) = 0 := by
            rw [show i + 2 + k = i + (2 + k) by omega, Nat.pow_add, ← Nat.div_div_eq_div_mul, hd]
            refine Nat.div_eq_of_lt (Nat.lt_of_lt_of_le hc ?_)
            rw [Nat.pow_add, show W ^ 2 = W * W from Nat.pow_two W]
            exact Nat.le_mul_of_pos_right _ (Nat.pow_pos W0)
          rw [p1, p2]
        · obtain ⟨k, rfl⟩ : ∃ k, i = j + (k + 1) := ⟨i - j - 1, by omega⟩
          have e3 : W ^ (j + (k + 1)) * c = W ^ j * (W * (W ^ k * c)) := by
            rw [Nat.pow_add, Nat.pow_succ, Nat.mul_assoc, Nat.mul_comm (W ^ k) W, Nat.mul_assoc]
          rw [e3, Nat.add_mul_div_left _ _ (Nat.pow_pos W0), Nat.add_mul_mod_self_left]
theorem left_step {A i s : Nat} (hs : s ≤ 63) :
    A % W ^ i * 2 ^ s / W ^ i < 2 ^ s ∧ A % W ^ i * 2 ^ s / W ^ (i + 1) = 0 ∧ A % W ^ (i + 1) * 2 ^ s = A % W ^ i * 2 ^ s + W ^ i * (A / W ^ i % W * 2 ^ s) := by
  have hWi := Nat.pow_pos (n := i) W0
  have h1 : A % W ^ i * 2 ^ s < W ^ i * 2 ^ s := Nat.mul_lt_mul_of_pos_right (Nat.mod_lt _ hWi) (Nat.two_pow_pos _)
  have h2 : (2 : Nat) ^ s < W := by
    have : (2 : Nat) ^ s ≤ 2 ^ 63 := Nat.pow_le_pow_right (by decide) hs
    have h63 : (2 : Nat) ^ 63 = 9223372036854775808 := by decide
    show (2 : Nat) ^ s < 18446744073709551616
    omega
  refine ⟨(Nat.div_lt_iff_lt_mul hWi).2 (by rw [Nat.mul_comm (2 ^ s)]; exact h1), Nat.div_eq_of_lt (Nat.lt_trans h1 ?_), ?_⟩
  · rw [Nat.pow_succ]; exact Nat.mul_lt_mul_of_pos_left h2 hWi
  · rw [Nat.pow_succ, Nat.mod_mul, Nat.add_mul, Nat.mul_assoc]
theorem left_or {d x s : Nat} (hs : s ≤ 63) (hd : d < 2 ^ s) (hx : x < W) : bits .or .u64 (d : Int) ((x * 2 ^ s % W : Nat) : Int) = (((d + x * 2 ^ s) % W : Nat) : Int) ∧ (d + x * 2 ^ s) / W = x / 2 ^ (64 - s) ∧ d + x * 2 ^ s < W * W := by
  have hW : W = 2 ^ (64 - s) * 2 ^ s := by rw [← Nat.pow_add, show 64 - s + s = 64 by omega]
  have hp := Nat.two_pow_pos (64 - s)
  have hps := Nat.two_pow_pos s
  have hm := Nat.mod_lt x hp
  have e1 : x * 2 ^ s % W = x % 2 ^ (64 - s) * 2 ^ s := by rw [hW, Nat.mul_mod_mul_right]
  have hlt : x % 2 ^ (64 - s) * 2 ^ s + d < W := by
    have : (x % 2 ^ (64 - s) + 1) * 2 ^ s ≤ 2 ^ (64 - s) * 2 ^ s := Nat.mul_le_mul_right _ hm
    rw [Nat.add_mul, Nat.one_mul, ← hW] at this
    omega
  have e2 : d + x * 2 ^ s = W * (x / 2 ^ (64 - s)) + (x % 2 ^ (64 - s) * 2 ^ s + d) := by
    have := Nat.div_add_mod x (2 ^ (64 - s))
    conv => lhs; rw [← this]
    rw [Nat.add_mul, hW, Nat.mul_right_comm]
    omega
  have hdW : d < W := by omega
  refine ⟨?_, ?_, ?_⟩
  · rw [b_or hdW (Nat.mod_lt _ W0), e1, Nat.or_comm, or_low hd, e2, Nat.mul_add_mod, Nat.mod_eq_of_lt hlt]
  · rw [e2, Nat.mul_add_div W0, Nat.div_eq_of_lt hlt, Nat.add_zero]
  · have h1 : x * 2 ^ s ≤ (W - 1) * 2 ^ s := Nat.mul_le_mul_right _ (by omega)
    have h2 : (W - 1) * 2 ^ s + 2 ^ s = W * 2 ^ s := by
      rw [← Nat.succ_mul]; congr 1
    have h3 : W * 2 ^ s ≤ W * W := Nat.mul_le_mul_left _ (by rw [hW]; exact Nat.le_mul_of_pos_left _ hp)
    omega
theorem d_left {a : List Nat} (oa : Ok W a) (hl : a.length ≤ 100000) {s : Nat} (hs : s ≤ 63) :
    PCM E 240 [.val (NL a), .val (.int .i64 s)] [] (.row 0) [.row 22 1 (a.length + 1) (U (tab W (vl a * 2 ^ s) (a.length + 1)))] := by
  have hA : vl a < W ^ a.length := dv_lt a oa
  have hg := fun i hi => digit_at oa (i := i) hi
  have w1 : IntKind.wrap .i64 ((a.length : Int) + 1) = ((a.length + 1 : Nat) : Int) := by rw [wrap64 (by omega) (by omega)]; omega
  have hst : ∀ i, i < a.length → (U (tab W (vl a % W ^ i * 2 ^ s) (a.length + 1)))[i]? = some (.int .u64 ((vl a % W ^ i * 2 ^ s / W ^ i : Nat) : Int)) ∧
      IntKind.wrap .u64 (((vl a / W ^ i % W : Nat) : Int) * 2 ^ (min s 64)) = ((vl a / W ^ i % W * 2 ^ s % W : Nat) : Int) ∧
      bits .or .u64 ((vl a % W ^ i * 2 ^ s / W ^ i : Nat) : Int) ((vl a / W ^ i % W * 2 ^ s % W : Nat) : Int) = (((vl a % W ^ i * 2 ^ s / W ^ i + vl a / W ^ i % W * 2 ^ s) % W : Nat) : Int) ∧
      ((vl a / W ^ i % W : Nat) : Int).fdiv (2 ^ (min (64 - s) 64)) = (((vl a % W ^ i * 2 ^ s / W ^ i + vl a / W ^ i % W * 2 ^ s) / W : Nat) : Int) ∧
      ((U (tab W (vl a % W ^ i * 2 ^ s) (a.length + 1))).set i (.int .u64 (((vl a % W ^ i * 2 ^ s / W ^ i + vl a / W ^ i % W * 2 ^ s) % W : Nat) : Int))).set (i + 1) (.int .u64 (((vl a % W ^ i * 2 ^ s / W ^ i + vl a / W ^ i % W * 2 ^ s) / W : Nat) : Int)) = U (tab W (vl a % W ^ (i + 1) * 2 ^ s) (a.length + 1)) := fun i hi => by
    obtain ⟨h1, h2, h3⟩ := left_step (A := vl a) (i := i) hs
    have hxW : vl a / W ^ i % W < W := Nat.mod_lt _ W0
    obtain ⟨g1, g2, g3⟩ := left_or hs h1 hxW
    have h4 : vl a % W ^ i * 2 ^ s / W ^ i < W := Nat.lt_trans h1 (by
      have : (2 : Nat) ^ s ≤ 2 ^ 63 := Nat.pow_le_pow_right (by decide) hs
      have h63 : (2 : Nat) ^ 63 = 9223372036854775808 := by decide
      show (2 : Nat) ^ s < 18446744073709551616
      omega)
    refine ⟨?_, b_shl _ s, g1, ?_, ?_⟩
    · rw [tab_getU (by omega), Nat.mod_eq_of_lt h4]
    · rw [g2]; exact b_shr hxW (64 - s)
    · rw [h3]; exact tab_set2 (by omega) h2 g3
  have h0 : U (tab W (vl a % W ^ 0 * 2 ^ s) (a.length + 1)) = List.replicate (a.length + 1) (.int .u64 0) := by
    rw [Nat.pow_zero, Nat.mod_one, Nat.zero_mul]
    have e0 : tab W 0 (a.length + 1) = List.replicate (a.length + 1) 0 := by unfold tab; simp [List.map_const']
    rw [e0, U_replicate]
  have hend : vl a % W ^ a.length * 2 ^ s = vl a * 2 ^ s := by rw [Nat.mod_eq_of_lt hA]
  have hlen : ∀ i, (U (tab W (vl a % W ^ i * 2 ^ s) (a.length + 1))).length = a.length + 1 := fun i => by unfold U; rw [List.length_map, tab_length]
  rw [← hend]
  clear hend hA oa
  obtain ⟨R, hR⟩ : ∃ R : Nat → List PV, ∀ i, U (tab W (vl a % W ^ i * 2 ^ s) (a.length + 1)) = R i := ⟨_, fun _ => rfl⟩
  obtain ⟨D, hD⟩ : ∃ D : Nat → Nat, ∀ i, vl a / W ^ i % W = D i := ⟨_, fun _ => rfl⟩
  obtain ⟨F, hF⟩ : ∃ F : Nat → Nat, ∀ i, vl a % W ^ i * 2 ^ s / W ^ i = F i := ⟨_, fun _ => rfl⟩
  simp only [hR, hD, hF] at hg hst h0 hlen ⊢
  clear hR hD hF
  have ws : IntKind.wrap .i64 (64 - (s : Int)) = ((64 - s : Nat) : Int) := by rw [wrap64 (by omega) (by omega)]; omega
  simp only [NL]
  generalize U a = U1 at *
  refine PCM.of_body follows Tryz.func240 (by decide +kernel) rfl (by kernel_rfl) (Nat.le_of_ble_eq_true rfl) (by simp) (by simp) (fun k h => by cases h; exact ⟨rfl, rfl⟩) (fun h => by cases h) (walk ?_)
  simp only [mstart, startS, blkL, shiftSV]
  simp only [Tryz.f240, w1, go_sem]
  refine qand_i (by omega) ?_
  simp only [Tryz.f240, w1, go_sem]
  refine PLoop.intro (fun i : Nat => ⟨[(1, .val (.int .i64 s)), (5, .row 11), (12, .val (.lst a.length U1)), (13, .val (.int .i64 a.length)), (14, .val (.int .i64 i))], [(11, (.row 22 1 (a.length + 1) (R i), false))]⟩) (fun i => i ≤ a.length) (fun i => a.length - i) 0 (Nat.zero_le _) ?_ fun i hi => walk ?_
  · rw [h0]
    simp [Wk, sget, killL, kill1, SV.key]
  have wi : IntKind.wrap .i64 ((i : Int) + 1) = ((i + 1 : Nat) : Int) := by rw [wrap64 (by omega) (by omega)]; omega
  simp only [Tryz.f240, go_sem]
  refine qif_d (fun h => ?_) (fun h => ?_)
  · have hin : i < a.length := by omega
    have x1 := hg i hin
    obtain ⟨x2, x3, x4, x5, x6⟩ := hst i hin
    have x7 := hlen i
    simp only [Tryz.f240, go_sem]
    refine qand_i (by omega) ?_
    simp only [Tryz.f240, go_sem]
    refine qval_i (congrArg (Option.map _) x1) ?_
    simp only [Tryz.f240, go_sem]
    refine qand_i (by omega) ?_
    simp only [Tryz.f240, go_sem]
    refine qval_i (congrArg (Option.map _) x2) ?_
    simp only [Tryz.f240, x3, x4, go_sem]
    repeat' ((with_reducible refine qand_i (by first | omega | (rw [x7]; omega) | (simp [x7]; omega)) ?_); simp only [Tryz.f240, x3, x4, x5, ws, wi, go_sem])
    refine ⟨i + 1, by omega, by omega, ?_⟩
    rw [x6]
    simp [Wk, sget, killL, kill1, SV.key]
  · have hin : i = a.length := by omega
    subst hin
    simp only [Tryz.f240, go_sem]
    refine ⟨11, by decide, fun j b hb => ?_, .inr ⟨4, rfl, rfl, .inr ⟨rfl, rfl⟩⟩⟩
    match j, hb with
    | 0, hb =>
      simp only [List.getElem?_cons_zero, Option.some.injEq] at hb
      subst hb
      rfl
    | j + 1, hb => simp at hb
theorem part_dig {out : List Nat} (ho : Ok W out) {o k i : Nat} (hi : i < k) : out.getD (o + i) 0 = dv W ((out.drop o).take k) / W ^ i % W := by
  have hok : Ok W ((out.drop o).take k) := fun d hd => ho d (List.mem_of_mem_drop (List.mem_of_mem_take hd))
  rw [← dv_get W0 _ hok i, List.getD_eq_getElem?_getD, List.getD_eq_getElem?_getD, List.getElem?_take, if_pos hi, List.getElem?_drop]
theorem take_dig {vv : List Nat} (ho : Ok W vv) {k i : Nat} (hi : i < k) (hk : k ≤ vv.length) : (U vv)[i]? = some (.int .u64 ((dv W (vv.take k) / W ^ i % W : Nat) : Int)) := by
  have hok : Ok W (vv.take k) := fun d hd => ho d (List.mem_of_mem_take hd)
  rw [U_get, ← dv_get W0 _ hok i, List.getD_eq_getElem?_getD, List.getElem?_take, if_pos hi, List.getElem?_eq_getElem (by omega)]; rfl
theorem big_dig {Z n i : Nat} (hi : i ≤ n) : (Z + W ^ (n + 1)) / W ^ i % W = Z / W ^ i % W := by
  obtain ⟨k, rfl⟩ : ∃ k, n = i + k := ⟨n - i, by omega⟩
  rw [show i + k + 1 = i + (k + 1) by omega, Nat.pow_add, Nat.add_mul_div_left _ _ (Nat.pow_pos W0), Nat.pow_succ, Nat.mul_comm (W ^ k), Nat.add_mul_mod_self_left]
theorem big_mod {Z n : Nat} : (Z + W ^ (n + 1)) % W ^ (n + 1) = Z % W ^ (n + 1) := Nat.add_mod_right _ _
theorem prod_step {V q i : Nat} (hq : q < W) :
    V % W ^ i * q / W ^ i < W ∧ (V / W ^ i % W * q % W + V % W ^ i * q / W ^ i + 0) % W = V * q / W ^ i % W ∧ V / W ^ i % W * q / W + (V / W ^ i % W * q % W + V % W ^ i * q / W ^ i + 0) / W = V % W ^ (i + 1) * q / W ^ (i + 1) ∧ V % W ^ (i + 1) * q / W ^ (i + 1) < W := by
  obtain ⟨t1, t2, t3⟩ := row_step (Y := 0) (A := V) (n := q) (i := i) hq
  obtain ⟨t4, -, -⟩ := row_step (Y := 0) (A := V) (n := q) (i := i + 1) hq
  simp only [Nat.zero_mod, Nat.zero_div, Nat.zero_add, Nat.add_zero] at t1 t2 t3 t4
  have hx : V / W ^ i % W < W := Nat.mod_lt _ W0
  obtain ⟨r1, r2, r3, r4⟩ := row_arith (M := V / W ^ i % W * q) (c := V % W ^ i * q / W ^ i) (y := 0) rfl hx hq t1 W0
  simp only [Nat.zero_add, Nat.add_zero] at r1 r2 r3 ⊢
  rw [Nat.mod_mod] at r1
  have hz : (V / W ^ i % W * q % W + V % W ^ i * q / W ^ i) % W / W = 0 := Nat.div_eq_of_lt (Nat.mod_lt _ W0)
  rw [hz, Nat.add_zero] at r3
  exact ⟨t1, r1.trans t2, r3.trans t3, t4⟩
set_option maxHeartbeats 4000000 in
theorem d_takeOff {out vv : List Nat} {o n q : Nat} (ho : Ok W out) (hv : Ok W vv) (hq : q < W) (hL : o + n + 1 ≤ out.length) (hl : out.length ≤ 200000) (hn : n ≤ vv.length) (hl2 : vv.length ≤ 200000) {Z V : Nat} (hZ : dv W ((out.drop o).take (n + 1)) = Z) (hV : dv W (vv.take n) = V) :
    PCM E 242 [.sub 0 o (n + 1), .sub 1 0 n, .val (.int .u64 q)] [.row 22 1 out.length (U out), .row 22 1 vv.length (U vv)] (.val (.bool (decide (Z < V * q))))
      [.row 22 1 out.length (U (rowL out o (Z + W ^ (n + 1) - V * q) (n + 1))), .row 22 1 vv.length (U vv)] := by
  have hZl : Z < W ^ (n + 1) := by
    rw [← hZ]
    refine Nat.lt_of_lt_of_le (dv_lt _ (fun d hd => ho d (List.mem_of_mem_drop (List.mem_of_mem_take hd)))) (Nat.pow_le_pow_right W0 ?_)
    rw [List.length_take]; omega
  have hVl : V < W ^ n := by
    rw [← hV]
    refine Nat.lt_of_lt_of_le (dv_lt _ (fun d hd => hv d (List.mem_of_mem_take hd))) (Nat.pow_le_pow_right W0 ?_)
    rw [List.length_take]; omega
  have hMl : V * q < W ^ (n + 1) := by rw [Nat.pow_succ]; exact Nat.mul_lt_mul'' hVl hq
  have hle : V * q ≤ Z + W ^ (n + 1) := by omega
  have hst : ∀ i, i ≤ n → (U (rowL out o (Z + W ^ (n + 1) - V * q) i))[o + i]? = some (.int .u64 ((Z / W ^ i % W : Nat) : Int)) ∧
      (U (rowL out o (Z + W ^ (n + 1) - V * q) i)).length = out.length ∧
      (U (rowL out o (Z + W ^ (n + 1) - V * q) i)).set (o + i) (.int .u64 (((Z / W ^ i % W + W - V * q / W ^ i % W - borrow (Z + W ^ (n + 1)) (V * q) (W ^ i)) % W : Nat) : Int)) = U (rowL out o (Z + W ^ (n + 1) - V * q) (i + 1)) ∧
      (if Z / W ^ i % W < V * q / W ^ i % W + borrow (Z + W ^ (n + 1)) (V * q) (W ^ i) then 1 else 0) = borrow (Z + W ^ (n + 1)) (V * q) (W ^ (i + 1)) := fun i hi => by
    have g1 := rowL_get (out := out) (o := o) (T := Z + W ^ (n + 1) - V * q) (i := i) (by omega)
    have g2 := rowL_set (out := out) (o := o) (T := Z + W ^ (n + 1) - V * q) (i := i) (by omega)
    rw [part_dig ho (show i < n + 1 by omega), hZ] at g1
    have hWi := Nat.pow_pos (n := i) W0
    have e1 := borrow_digit (W := W) hWi hle W0
    have e3 := borrow_next (A := Z + W ^ (n + 1)) (B := V * q) (W := W) hWi
    rw [big_dig hi] at e1 e3
    have hb := borrow_le (Z + W ^ (n + 1)) (V * q) (W ^ i)
    have hx : V * q / W ^ i % W < W := Nat.mod_lt _ W0
    refine ⟨g1, by unfold U; rw [List.length_map, rowL_len (by omega)], ?_, by rw [← e3, ← Nat.pow_succ]⟩
    have e2 : (Z / W ^ i % W + W - V * q / W ^ i % W - borrow (Z + W ^ (n + 1)) (V * q) (W ^ i)) % W = (Z + W ^ (n + 1) - V * q) / W ^ i % W := by
      rw [← e1]
      generalize borrow (Z + W ^ (n + 1)) (V * q) (W ^ i) = br at *
      generalize V * q / W ^ i % W = y at *
      generalize Z / W ^ i % W = x
      have : x + W + W - y - br = (x + W - y - br) + W := by omega
      rw [this, Nat.add_mod_right]
    rw [e2]
    exact g2
  have hb0 : borrow (Z + W ^ (n + 1)) (V * q) (W ^ 0) = 0 := by rw [Nat.pow_zero]; exact borrow_one _ _
  have hbE : borrow (Z + W ^ (n + 1)) (V * q) (W ^ (n + 1)) = if Z < V * q then 1 else 0 := by
    unfold borrow
    rw [big_mod, Nat.mod_eq_of_lt hZl, Nat.mod_eq_of_lt hMl]
  have hbl := borrow_le (Z + W ^ (n + 1)) (V * q)
  have hvd := fun i (hi : i < n) => take_dig hv hi hn
  rw [hV] at hvd
  have hps := fun i => prod_step (V := V) (q := q) (i := i) hq
  have hc0 : V % W ^ 0 * q / W ^ 0 = 0 := by rw [Nat.pow_zero, Nat.mod_one, Nat.zero_mul, Nat.zero_div]
  have hcn : V % W ^ n * q / W ^ n = V * q / W ^ n % W := by
    rw [Nat.mod_eq_of_lt hVl, Nat.mod_eq_of_lt]
    rw [Nat.div_lt_iff_lt_mul (Nat.pow_pos W0), Nat.mul_comm W, ← Nat.pow_succ]
    exact hMl
  have hrl0 : rowL out o (Z + W ^ (n + 1) - V * q) 0 = out := by unfold rowL; simp [tab]
  have hr0 : U out = U (rowL out o (Z + W ^ (n + 1) - V * q) 0) := by rw [hrl0]
  generalize Z + W ^ (n + 1) - V * q = T at *
  obtain ⟨R, hR⟩ : ∃ R : Nat → List PV, ∀ i, U (rowL out o T i) = R i := ⟨_, fun _ => rfl⟩
  obtain ⟨Bo, hBo⟩ : ∃ Bo : Nat → Nat, ∀ i, borrow (Z + W ^ (n + 1)) (V * q) (W ^ i) = Bo i := ⟨_, fun _ => rfl⟩
  have hbl2 : ∀ i, Bo i ≤ 1 := fun i => by rw [← hBo]; exact hbl _
  obtain ⟨X, hX⟩ : ∃ X : Nat → Nat, ∀ i, Z / W ^ i % W = X i := ⟨_, fun _ => rfl⟩
  obtain ⟨M, hM⟩ : ∃ M : Nat → Nat, ∀ i, V * q / W ^ i % W = M i := ⟨_, fun _ => rfl⟩
  obtain ⟨C, hC⟩ : ∃ C : Nat → Nat, ∀ i, V % W ^ i * q / W ^ i = C i := ⟨_, fun _ => rfl⟩
  obtain ⟨D, hD⟩ : ∃ D : Nat → Nat, ∀ i, V / W ^ i % W = D i := ⟨_, fun _ => rfl⟩
  have hDW : ∀ i, D i < W := fun i => by rw [← hD]; exact Nat.mod_lt _ W0
  simp only [hR, hBo, hX, hM, hC, hD] at hst hb0 hbE hvd hps hc0 hcn hr0 ⊢
  rw [hr0]
  clear hR hBo hX hM hC hD hZ hV ho hv hbl hZl hVl hMl hle hr0 hrl0
  have hbd : decide (Z < V * q) = decide ((Bo (n + 1) : Int) > 0) := by
    rw [hbE]
    by_cases h : Z < V * q
    · rw [if_pos h, decide_eq_true h]; rfl
    · rw [if_neg h, decide_eq_false h]; rfl
  rw [hbd]
  clear hbd hbE
  generalize U vv = VV at *
  refine PCM.of_body follows Tryz.func242 (by decide +kernel) rfl (by kernel_rfl) (Nat.le_of_ble_eq_true rfl) (Nat.le_refl _) (by simp) (fun k h => by cases h) (fun h => by cases h) (walk ?_)
  simp only [mstart, startS, blkL, shiftSV]
  simp only [Tryz.f242, Int.cast_ofNat_Int, go_sem]
  refine PLoop.intro (fun i : Nat => ⟨[(0, .sub 68 o (n + 1)), (1, .sub 69 0 n), (2, .val (.int .u64 q)), (7, .val (.int .u64 (C i))), (8, .val (.int .u64 (Bo i))), (15, .sub 69 0 n), (16, .val (.int .i64 n)), (17, .val (.int .i64 i))],
    [(68, (.row 22 1 out.length (R i), false)), (69, (.row 22 1 vv.length VV, false))]⟩) (fun i => i ≤ n) (fun i => n - i) 0 (Nat.zero_le _) ?_ fun i hi => walk ?_
  · simp [Wk, sget, killL, kill1, SV.key, hc0, hb0]
  have wi : IntKind.wrap .i64 ((i : Int) + 1) = ((i + 1 : Nat) : Int) := by rw [wrap64 (by omega) (by omega)]; omega
  simp only [Tryz.f242, go_sem]
  refine qif_d (fun h => ?_) (fun h => ?_)
  · have hin : i < n := by omega
    have x1 := hvd i hin
    obtain ⟨x2, x3, x4, x5⟩ := hst i hi
    obtain ⟨p1, p2, p3, p4⟩ := hps i
    have k1 := c_Mul64 (D i) q (hDW i) hq
    have k2 := c_Add64 (D i * q % W) (C i) 0 (by decide)
    have k3 := c_Sub64 (X i) (M i) (Bo i) (hbl2 i)
    rw [p2] at k2
    rw [x5] at k3
    have w1 : IntKind.wrap .u64 (((D i * q / W : Nat) : Int) + (((D i * q % W + C i + 0) / W : Nat) : Int)) = ((C (i + 1) : Nat) : Int) := by
      rw [← Int.natCast_add, p3]; exact wrap_nat64 p4
    rw [show u 0 = .int .u64 0 from rfl] at k2
    simp only [u, Nat.add_zero] at k1 k2 k3 w1
    clear p2 p3
    generalize D i * q / W = m1 at *
    generalize D i * q % W = m2 at *
    generalize (m2 + C i) / W = m3 at *
    simp only [Tryz.f242, go_sem]
    refine qand_i (by omega) ?_
    simp only [Tryz.f242, go_sem]
    refine qval_i (congrArg (Option.map _) x1) ?_
    simp only [Tryz.f242, go_sem]
    refine qcall_i (k1) ?_; simp only [Tryz.f242, go_sem]
    refine qcall_i (k2) ?_; simp only [Tryz.f242, w1, go_sem]
    refine qand_i (by omega) ?_
    simp only [Tryz.f242, w1, go_sem]
    refine qval_i (congrArg (Option.map _) x2) ?_
    simp only [Tryz.f242, w1, go_sem]
    refine qcall_i (k3) ?_; simp only [Tryz.f242, wi, go_sem]
    repeat' ((with_reducible refine qand_i (by first | omega | (rw [x3]; omega) | (simp [x3]; omega)) ?_); simp only [Tryz.f242, wi, go_sem])
    refine ⟨i + 1, by omega, by omega, ?_⟩
    rw [x4]
    simp [Wk, sget, killL, kill1, SV.key]
  · have hin : i = n := by omega
    subst hin
    obtain ⟨x2, x3, x4, x5⟩ := hst i hi
    have k3 := c_Sub64 (X i) (M i) (Bo i) (hbl2 i)
    rw [x5, ← hcn] at k3
    simp only [u] at k3
    simp only [Tryz.f242, go_sem]
    refine qand_i (by omega) ?_
    simp only [Tryz.f242, go_sem]
    refine qval_i (congrArg (Option.map _) x2) ?_
    simp only [Tryz.f242, go_sem]
    refine qcall_i (k3) ?_; simp only [Tryz.f242, go_sem]
    rw [← hcn] at x4
    repeat' ((with_reducible refine qand_i (by first | omega | (rw [x3]; omega) | (simp [x3]; omega)) ?_); simp only [Tryz.f242, x4, go_sem])
    exact fin2 (by decide) (by simp [sget, x4]) (by simp [sget]) rfl
set_option maxHeartbeats 4000000 in
theorem d_putBack {out vv : List Nat} {o n : Nat} (ho : Ok W out) (hv : Ok W vv) (hL : o + n + 1 ≤ out.length) (hl : out.length ≤ 200000) (hn : n ≤ vv.length) (hl2 : vv.length ≤ 200000) {Z V : Nat} (hZ : dv W ((out.drop o).take (n + 1)) = Z) (hV : dv W (vv.take n) = V) :
    PCM E 243 [.sub 0 o (n + 1), .sub 1 0 n] [.row 22 1 out.length (U out), .row 22 1 vv.length (U vv)] (.val (.bool (decide (W ^ (n + 1) ≤ Z + V))))
      [.row 22 1 out.length (U (rowL out o (Z + V) (n + 1))), .row 22 1 vv.length (U vv)] := by
  have hZl : Z < W ^ (n + 1) := by
    rw [← hZ]
    refine Nat.lt_of_lt_of_le (dv_lt _ (fun d hd => ho d (List.mem_of_mem_drop (List.mem_of_mem_take hd)))) (Nat.pow_le_pow_right W0 ?_)
    rw [List.length_take]; omega
  have hVl : V < W ^ n := by
    rw [← hV]
    refine Nat.lt_of_lt_of_le (dv_lt _ (fun d hd => hv d (List.mem_of_mem_take hd))) (Nat.pow_le_pow_right W0 ?_)
    rw [List.length_take]; omega
  have hst : ∀ i, i ≤ n → (U (rowL out o (Z + V) i))[o + i]? = some (.int .u64 ((Z / W ^ i % W : Nat) : Int)) ∧
      (U (rowL out o (Z + V) i)).length = out.length ∧
      (U (rowL out o (Z + V) i)).set (o + i) (.int .u64 (((Z / W ^ i % W + V / W ^ i % W + carry Z V (W ^ i)) % W : Nat) : Int)) = U (rowL out o (Z + V) (i + 1)) ∧
      (Z / W ^ i % W + V / W ^ i % W + carry Z V (W ^ i)) / W = carry Z V (W ^ (i + 1)) := fun i hi => by
    have g1 := rowL_get (out := out) (o := o) (T := Z + V) (i := i) (by omega)
    have g2 := rowL_set (out := out) (o := o) (T := Z + V) (i := i) (by omega)
    rw [part_dig ho (show i < n + 1 by omega), hZ] at g1
    have hWi := Nat.pow_pos (n := i) W0
    refine ⟨g1, by unfold U; rw [List.length_map, rowL_len (by omega)], ?_, by rw [Nat.pow_succ, carry_next hWi]⟩
    rw [carry_digit hWi]
    exact g2
  have hb0 : carry Z V (W ^ 0) = 0 := by rw [Nat.pow_zero]; exact carry_one _ _
  have hcl := fun i => carry_le (A := Z) (B := V) (Nat.pow_pos (n := i) W0)
  have hVn : V / W ^ n % W = 0 := by rw [Nat.div_eq_of_lt hVl, Nat.zero_mod]
  have hVl2 : V < W ^ (n + 1) := Nat.lt_of_lt_of_le hVl (Nat.pow_le_pow_right W0 (Nat.le_succ _))
  have hbE : carry Z V (W ^ (n + 1)) = if W ^ (n + 1) ≤ Z + V then 1 else 0 := by
    unfold carry
    rw [Nat.mod_eq_of_lt hZl, Nat.mod_eq_of_lt hVl2]
    by_cases h : W ^ (n + 1) ≤ Z + V
    · rw [if_pos h]
      refine Nat.div_eq_of_lt_le (by omega) ?_
      rw [Nat.succ_mul, Nat.one_mul]; omega
    · rw [if_neg h]; exact Nat.div_eq_of_lt (by omega)
  have hvd := fun i (hi : i < n) => take_dig hv hi hn
  rw [hV] at hvd
  have hrl0 : rowL out o (Z + V) 0 = out := by unfold rowL; simp [tab]
  have hr0 : U out = U (rowL out o (Z + V) 0) := by rw [hrl0]
  have hbd : decide (W ^ (n + 1) ≤ Z + V) = decide ((carry Z V (W ^ (n + 1)) : Int) > 0) := by
    rw [hbE]
    by_cases h : W ^ (n + 1) ≤ Z + V
    · rw [if_pos h, decide_eq_true h]; rfl
    · rw [if_neg h, decide_eq_false h]; rfl
  rw [hbd]
  obtain ⟨R, hR⟩ : ∃ R : Nat → List PV, ∀ i, U (rowL out o (Z + V) i) = R i := ⟨_, fun _ => rfl⟩
  obtain ⟨Bo, hBo⟩ : ∃ Bo : Nat → Nat, ∀ i, carry Z V (W ^ i) = Bo i := ⟨_, fun _ => rfl⟩
  obtain ⟨X, hX⟩ : ∃ X : Nat → Nat, ∀ i, Z / W ^ i % W = X i := ⟨_, fun _ => rfl⟩
  obtain ⟨D, hD⟩ : ∃ D : Nat → Nat, ∀ i, V / W ^ i % W = D i := ⟨_, fun _ => rfl⟩
  simp only [hR, hBo, hX, hD] at hst hb0 hcl hVn hvd hr0 ⊢
  rw [hr0]
  clear hR hBo hX hD hZ hV ho hv hZl hVl hVl2 hbd hbE hr0 hrl0
  generalize U vv = VV at *
  refine PCM.of_body follows Tryz.func243 (by decide +kernel) rfl (by kernel_rfl) (Nat.le_of_ble_eq_true rfl) (Nat.le_refl _) (by simp) (fun k h => by cases h) (fun h => by cases h) (walk ?_)
  simp only [mstart, startS, blkL, shiftSV]
  simp only [Tryz.f243, Int.cast_ofNat_Int, go_sem]
  refine PLoop.intro (fun i : Nat => ⟨[(0, .sub 46 o (n + 1)), (1, .sub 47 0 n), (5, .val (.int .u64 (Bo i))), (9, .sub 47 0 n), (10, .val (.int .i64 n)), (11, .val (.int .i64 i))],
    [(46, (.row 22 1 out.length (R i), false)), (47, (.row 22 1 vv.length VV, false))]⟩) (fun i => i ≤ n) (fun i => n - i) 0 (Nat.zero_le _) ?_ fun i hi => walk ?_
  · simp [Wk, sget, killL, kill1, SV.key, hb0]
  have wi : IntKind.wrap .i64 ((i : Int) + 1) = ((i + 1 : Nat) : Int) := by rw [wrap64 (by omega) (by omega)]; omega
  simp only [Tryz.f243, go_sem]
  refine qif_d (fun h => ?_) (fun h => ?_)
  · have hin : i < n := by omega
    have x1 := hvd i hin
    obtain ⟨x2, x3, x4, x5⟩ := hst i hi
    have k2 := c_Add64 (X i) (D i) (Bo i) (hcl i)
    rw [x5] at k2
    simp only [u] at k2
    simp only [Tryz.f243, go_sem]
    refine qand_i (by omega) ?_
    simp only [Tryz.f243, go_sem]
    refine qval_i (congrArg (Option.map _) x1) ?_
    simp only [Tryz.f243, go_sem]
    refine qand_i (by omega) ?_
    simp only [Tryz.f243, go_sem]
    refine qval_i (congrArg (Option.map _) x2) ?_
    simp only [Tryz.f243, go_sem]
    refine qcall_i (k2) ?_; simp only [Tryz.f243, wi, go_sem]
    repeat' ((with_reducible refine qand_i (by first | omega | (rw [x3]; omega) | (simp [x3]; omega)) ?_); simp only [Tryz.f243, wi, go_sem])
    refine ⟨i + 1, by omega, by omega, ?_⟩
    rw [x4]
    simp [Wk, sget, killL, kill1, SV.key]
  · have hin : i = n := by omega
    subst hin
    obtain ⟨x2, x3, x4, x5⟩ := hst i hi
    have k3 := c_Add64 (X i) 0 (Bo i) (hcl i)
    rw [hVn] at x4 x5
    rw [x5] at k3
    rw [show u 0 = .int .u64 0 from rfl] at k3
    simp only [u, Nat.add_zero] at k3 x4
    simp only [Tryz.f243, go_sem]
    refine qand_i (by omega) ?_
    simp only [Tryz.f243, go_sem]
    refine qval_i (congrArg (Option.map _) x2) ?_
    simp only [Tryz.f243, go_sem]
    refine qcall_i (k3) ?_; simp only [Tryz.f243, go_sem]
    repeat' ((with_reducible refine qand_i (by first | omega | (rw [x3]; omega) | (simp [x3]; omega)) ?_); simp only [Tryz.f243, x4, go_sem])
    exact fin2 (by decide) (by simp [sget, x4]) (by simp [sget]) rfl
end
section
open Go PG Go.Proofs
def gsS (top next x0 : Nat) : Nat → Nat → Nat → Nat
  | 0, q, _ => q
  | k + 1, q, r => if q * next ≤ r * W + x0 then q else if r + top < W then gsS top next x0 k (q - 1) (r + top) else q - 1
theorem gsS_ge {top next x0 N t : Nat} (H : ∀ q r, q * top + r = N → r * W + x0 < q * next → t < q) : ∀ k q r, q * top + r = N → t ≤ q → t ≤ gsS top next x0 k q r ∧ gsS top next x0 k q r ≤ q := by
  intro k
  induction k with
  | zero => intro q r _ h; exact ⟨h, Nat.le_refl _⟩
  | succ k ih =>
    intro q r e h
    unfold gsS
    by_cases h1 : q * next ≤ r * W + x0
    · rw [if_pos h1]; exact ⟨h, Nat.le_refl _⟩
    rw [if_neg h1]
    have hq := H q r e (by omega)
    have e2 : (q - 1) * top + (r + top) = N := by
      obtain ⟨p, rfl⟩ : ∃ p, q = p + 1 := ⟨q - 1, by omega⟩
      rw [Nat.add_sub_cancel]
      rw [Nat.add_mul, Nat.one_mul] at e
      omega
    by_cases h2 : r + top < W
    · rw [if_pos h2]
      obtain ⟨g1, g2⟩ := ih (q - 1) (r + top) e2 (by omega)
      exact ⟨g1, by omega⟩
    · rw [if_neg h2]; exact ⟨by omega, by omega⟩
theorem hi_lo {hi lo r x0 M : Nat} (hM : hi * W + lo = M) (hlo : lo < W) (hx : x0 < W) : (hi < r ∨ hi = r ∧ lo ≤ x0) ↔ M ≤ r * W + x0 := by
  rw [← hM]
  constructor
  · rintro (h | ⟨rfl, h⟩)
    · have : (hi + 1) * W ≤ r * W := Nat.mul_le_mul_right _ h
      rw [Nat.add_mul, Nat.one_mul] at this
      omega
    · omega
  · intro h
    rcases Nat.lt_trichotomy hi r with h1 | h1 | h1
    · exact .inl h1
    · subst h1; exact .inr ⟨rfl, by omega⟩
    · have : (r + 1) * W ≤ hi * W := Nat.mul_le_mul_right _ h1
      rw [Nat.add_mul, Nat.one_mul] at this
      omega
set_option maxHeartbeats 4000000 in
theorem d_guess {out : List Nat} {o n top next : Nat} (ho : Ok W out) (hL : o + n + 1 ≤ out.length) (hl : out.length ≤ 200000) (hn : 2 ≤ n) {Z V : Nat} (hZ : dv W ((out.drop o).take (n + 1)) = Z) (hVl : V < W ^ n) (hZV : Z < V * W)
    (ht : V / W ^ (n - 1) = top) (hx : V / W ^ (n - 2) % W = next) : ∃ d, Z / V ≤ d ∧ d < W ∧
    PCM E 241 [.sub 0 o (n + 1), .val (.int .u64 top), .val (.int .u64 next)] [.row 22 1 out.length (U out)] (.val (.int .u64 d)) [.row 22 1 out.length (U out)] := by
  have hW := W0
  have hV0 : 0 < V := Nat.pos_of_ne_zero fun h => by rw [h, Nat.zero_mul] at hZV; omega
  have htW : top < W := by
    rw [← ht, Nat.div_lt_iff_lt_mul (Nat.pow_pos hW), Nat.mul_comm, ← Nat.pow_succ, show (n - 1).succ = n by omega]; exact hVl
  have hxW : next < W := by rw [← hx]; exact Nat.mod_lt _ hW
  -- three words of the part, two of the divisor
  have hd : ∀ i, i < n + 1 → (U out)[o + i]? = some (.int .u64 ((Z / W ^ i % W : Nat) : Int)) := fun i hi => by
    rw [U_get]
    have := part_dig ho (o := o) hi
    rw [hZ, List.getD_eq_getElem?_getD, List.getElem?_eq_getElem (show o + i < out.length by omega), Option.getD_some] at this
    rw [List.getElem?_eq_getElem (show o + i < out.length by omega), ← this]; rfl
  have hP := Nat.pow_pos (n := n - 2) hW
  have e1 : W ^ (n - 1) = W ^ (n - 2) * W := by rw [← Nat.pow_succ]; congr 1; omega
  have e2 : W ^ n = W ^ (n - 2) * W * W := by rw [← e1, ← Nat.pow_succ]; congr 1; omega
  have hZl : Z / W ^ n < W := by
    rw [Nat.div_lt_iff_lt_mul (Nat.pow_pos hW)]
    refine Nat.lt_of_lt_of_le hZV ?_
    rw [Nat.mul_comm]
    exact Nat.mul_le_mul_left _ (Nat.le_of_lt hVl)
  obtain ⟨x2, hx2⟩ : ∃ x, x = Z / W ^ n % W := ⟨_, rfl⟩
  obtain ⟨x1, hx1⟩ : ∃ x, x = Z / W ^ (n - 1) % W := ⟨_, rfl⟩
  obtain ⟨x0, hx0⟩ : ∃ x, x = Z / W ^ (n - 2) % W := ⟨_, rfl⟩
  have d2 := hd n (by omega)
  have d1 := hd (n - 1) (by omega)
  have d0 := hd (n - 2) (by omega)
  rw [← hx2] at d2
  rw [← hx1] at d1
  rw [← hx0] at d0
  have hx2W : x2 < W := by rw [hx2]; exact Nat.mod_lt _ hW
  have hx1W : x1 < W := by rw [hx1]; exact Nat.mod_lt _ hW
  have hx0W : x0 < W := by rw [hx0]; exact Nat.mod_lt _ hW
  have hN : Z / W ^ (n - 1) = x2 * W + x1 := by
    have h1 := Nat.div_add_mod (Z / W ^ (n - 1)) W
    rw [Nat.div_div_eq_div_mul, e1, ← e2, ← e1, ← hx1] at h1
    rw [hx2, Nat.mod_eq_of_lt hZl, Nat.mul_comm _ W]
    exact h1.symm
  have hN2 : Z / W ^ (n - 2) = (x2 * W + x1) * W + x0 := by
    have h1 := Nat.div_add_mod (Z / W ^ (n - 2)) W
    rw [Nat.div_div_eq_div_mul, ← e1, hN, ← hx0, Nat.mul_comm W] at h1
    exact h1.symm
  have hVt : (top * W + next) * W ^ (n - 2) ≤ V := by
    have h1 := Nat.div_add_mod (V / W ^ (n - 2)) W
    rw [Nat.div_div_eq_div_mul, ← e1, ht, hx, Nat.mul_comm W] at h1
    rw [h1]
    exact Nat.div_mul_le_self _ _
  have hVt1 : top * W ^ (n - 1) ≤ V := by rw [← ht]; exact Nat.div_mul_le_self _ _
  have hq0 : Z / V < W := (Nat.div_lt_iff_lt_mul hV0).2 (by rw [Nat.mul_comm]; exact hZV)
  have H : ∀ q r, q * top + r = x2 * W + x1 → r * W + x0 < q * next → Z / V < q := fun q r e h => by
    refine (Nat.div_lt_iff_lt_mul hV0).2 (Nat.not_le.1 fun h2 => ?_)
    have h3 : q * ((top * W + next) * W ^ (n - 2)) ≤ Z := Nat.le_trans (Nat.mul_le_mul_left _ hVt) h2
    rw [← Nat.mul_assoc] at h3
    have h4 := (Nat.le_div_iff_mul_le hP).2 h3
    rw [hN2, ← e, Nat.mul_add, Nat.add_mul, ← Nat.mul_assoc] at h4
    omega
  clear hd hVt hN2 hx0 hx1 hx2 hZl hx ht e1 e2 hP hVl hZ
  by_cases hc : top ≤ x2
  · refine ⟨W - 1, by omega, by omega, ?_⟩
    have w1 : IntKind.wrap .i64 (((n + 1 : Nat) : Int) - 1) = (n : Int) := by rw [wrap64 (by omega) (by omega)]; omega
    have hWm : ((W - 1 : Nat) : Int) = 18446744073709551615 := rfl
    rw [hWm]
    generalize U out = UU at *
    refine PCM.of_body follows Tryz.func241 (by decide +kernel) rfl (by kernel_rfl) (Nat.le_of_ble_eq_true rfl) (Nat.le_refl _) (by simp) (fun k h => by cases h) (fun h => by cases h) (walk ?_)
    simp only [mstart, startS, blkL, shiftSV]
    simp only [Tryz.f241, w1, go_sem]
    refine qand_i (by omega) ?_
    simp only [Tryz.f241, w1, go_sem]
    refine qval_i (congrArg (Option.map _) d2) ?_
    simp only [Tryz.f241, w1, go_sem]
    refine qif_dt (by omega) ?_
    simp only [Tryz.f241, go_sem]
    exact fin1 (by decide) (by simp [sget]) rfl
  have hc : x2 < top := Nat.not_le.1 hc
  have hqN : Z / V ≤ (x2 * W + x1) / top := by
    rw [Nat.le_div_iff_mul_le (by omega), ← hN, Nat.le_div_iff_mul_le (Nat.pow_pos hW), Nat.mul_assoc]
    exact Nat.le_trans (Nat.mul_le_mul_left _ hVt1) (Nat.div_mul_le_self _ _)
  have k1 := c_Div64 (hi := x2) (lo := x1) htW hx1W hc
  have hq0W : (x2 * W + x1) / top < W := by
    rw [Nat.div_lt_iff_lt_mul (by omega)]
    have : (x2 + 1) * W ≤ top * W := Nat.mul_le_mul_right _ hc
    rw [Nat.mul_comm W]
    rw [Nat.add_mul, Nat.one_mul] at this
    omega
  obtain ⟨g1, g2⟩ := gsS_ge H ((x2 * W + x1) / top) ((x2 * W + x1) / top) ((x2 * W + x1) % top) (Nat.div_add_mod' _ _) hqN
  refine ⟨_, g1, by omega, ?_⟩
  have hrW : (x2 * W + x1) % top < W := Nat.lt_trans (Nat.mod_lt _ (by omega)) htW
  have hqr : (x2 * W + x1) / top * top + (x2 * W + x1) % top = x2 * W + x1 := Nat.div_add_mod' _ _
  obtain ⟨D, hD⟩ : ∃ D, gsS top next x0 ((x2 * W + x1) / top) ((x2 * W + x1) / top) ((x2 * W + x1) % top) = D := ⟨_, rfl⟩
  rw [hD]
  obtain ⟨Q, hQ⟩ : ∃ Q, Q = (x2 * W + x1) / top := ⟨_, rfl⟩
  obtain ⟨R, hR⟩ : ∃ R, R = (x2 * W + x1) % top := ⟨_, rfl⟩
  rw [← hQ, ← hR] at k1 hD hqr
  rw [← hQ] at hq0W
  rw [← hR] at hrW
  clear hQ hR g1 g2 hqN hN hVt1 hZV hq0 H hV0
  have w1 : IntKind.wrap .i64 (((n + 1 : Nat) : Int) - 1) = (n : Int) := by rw [wrap64 (by omega) (by omega)]; omega
  have w2 : IntKind.wrap .i64 ((n : Int) - 1) = ((n - 1 : Nat) : Int) := by rw [wrap64 (by omega) (by omega)]; omega
  have w3 : IntKind.wrap .i64 ((n : Int) - 2) = ((n - 2 : Nat) : Int) := by rw [wrap64 (by omega) (by omega)]; omega
  generalize U out = UU at *
  simp only [u] at k1
  refine PCM.of_body follows Tryz.func241 (by decide +kernel) rfl (by kernel_rfl) (Nat.le_of_ble_eq_true rfl) (Nat.le_refl _) (by simp) (fun k h => by cases h) (fun h => by cases h) (walk ?_)
  simp only [mstart, startS, blkL, shiftSV]
  simp only [Tryz.f241, w1, go_sem]
  refine qand_i (by omega) ?_
  simp only [Tryz.f241, w1, go_sem]
  refine qval_i (congrArg (Option.map _) d2) ?_
  simp only [Tryz.f241, w1, w2, go_sem]
  refine qif_df (by omega) ?_
  simp only [Tryz.f241, w1, w2, go_sem]
  repeat' first
    | ((with_reducible refine qand_i (by omega) ?_); simp only [Tryz.f241, w1, w2, go_sem])
    | (refine qval_i (congrArg (Option.map _) d2) ?_; simp only [Tryz.f241, w1, w2, go_sem])
    | (refine qval_i (congrArg (Option.map _) d1) ?_; simp only [Tryz.f241, w1, w2, go_sem])
  refine qcall_i (k1) ?_; simp only [Tryz.f241, w1, w2, go_sem]
  refine PLoop.intro (fun i : Nat × Nat => ⟨[(0, .sub 71 o (n + 1)), (1, .val (.int .u64 top)), (2, .val (.int .u64 next)), (7, .val (.int .i64 n)), (8, .val (.int .u64 i.1)), (9, .val (.int .u64 i.2))], [(71, (.row 22 1 out.length UU, false))]⟩)
    (fun i => i.1 < W ∧ i.2 < W ∧ gsS top next x0 i.1 i.1 i.2 = D) (fun i => i.1) (Q, R) ⟨hq0W, hrW, hD⟩ ?_ fun i hi => walk ?_
  · simp [Wk, sget, killL, kill1, SV.key]
  obtain ⟨q, r⟩ := i
  obtain ⟨j1, j2, j3⟩ := hi
  dsimp only at j1 j2 j3 ⊢
  have k2 := c_Mul64 q next j1 hxW
  have hML := Nat.div_add_mod' (q * next) W
  have hlo := Nat.mod_lt (q * next) hW
  have hiff := hi_lo (r := r) hML hlo hx0W
  have k3 := c_Add64 r top 0 (by decide)
  simp only [Nat.add_zero] at k3
  rw [show u 0 = .int .u64 0 from rfl] at k3
  simp only [u] at k2 k3
  have hgo : ¬ (q * next ≤ r * W + x0) → 0 < q ∧ gsS top next x0 q q r = if r + top < W then gsS top next x0 (q - 1) (q - 1) (r + top) else q - 1 := fun h => by
    have hq : 0 < q := Nat.pos_of_ne_zero fun h0 => h (by rw [h0, Nat.zero_mul]; exact Nat.zero_le _)
    obtain ⟨p, rfl⟩ : ∃ p, q = p + 1 := ⟨q - 1, by omega⟩
    refine ⟨hq, ?_⟩
    conv => lhs; unfold gsS
    rw [if_neg h]; rfl
  have hret : q * next ≤ r * W + x0 → gsS top next x0 q q r = q := fun h => by
    rcases q with _ | q
    · rfl
    · unfold gsS; rw [if_pos h]
  obtain ⟨mh, hmh⟩ : ∃ m, m = q * next / W := ⟨_, rfl⟩
  obtain ⟨ml, hml⟩ : ∃ m, m = q * next % W := ⟨_, rfl⟩
  rw [← hmh, ← hml] at hiff k2
  have wd : 0 < q → IntKind.wrap .u64 ((q : Int) - 1) = ((q - 1 : Nat) : Int) := fun h => by rw [IntKind.wrap_u64]; have : q < 18446744073709551616 := j1; omega
  simp only [Tryz.f241, go_sem]
  refine qcall_i (k2) ?_; simp only [Tryz.f241, go_sem]
  refine qif_d (fun h1 => ?_) (fun h1 => ?_)
  · have hr := hret (hiff.1 (.inl (by omega)))
    simp only [Tryz.f241, go_sem]
    exact fin1 (by decide) (by simp [sget]) (by rw [← j3, hr]; rfl)
  simp only [Tryz.f241, go_sem]
  refine qif_d (fun h2 => ?_) (fun h2 => ?_)
  · simp only [Tryz.f241, w3, go_sem]
    refine qand_i (by omega) ?_
    simp only [Tryz.f241, w3, go_sem]
    refine qval_i (congrArg (Option.map _) d0) ?_
    simp only [Tryz.f241, w3, go_sem]
    refine qif_d (fun h3 => ?_) (fun h3 => ?_)
    · have hr := hret (hiff.1 (.inr ⟨by omega, by omega⟩))
      simp only [Tryz.f241, go_sem]
      exact fin1 (by decide) (by simp [sget]) (by rw [← j3, hr]; rfl)
    · obtain ⟨hq0, hgg⟩ := hgo (fun h => by have := hiff.2 h; omega)
      have wd := wd hq0
      simp only [Tryz.f241, wd, go_sem]
      refine qcall_i (k3) ?_; simp only [Tryz.f241, wd, go_sem]
      refine qif_d (fun h4 => ?_) (fun h4 => ?_)
      · have h5 : ¬ r + top < W := fun h => by rw [Nat.div_eq_of_lt h] at h4; omega
        rw [if_neg h5] at hgg
        simp only [Tryz.f241, go_sem]
        exact fin1 (by decide) (by simp [sget]) (by rw [← j3, hgg]; rfl)
      · have h5 : r + top < W := Nat.not_le.1 fun h => by have := Nat.div_pos h hW; omega
        rw [if_pos h5] at hgg
        rw [Nat.mod_eq_of_lt h5]
        simp only [Tryz.f241, go_sem]
        refine ⟨(q - 1, r + top), ⟨by dsimp only; omega, h5, by dsimp only; rw [← hgg]; exact j3⟩, by dsimp only; omega, ?_⟩
        simp [Wk, sget, killL, kill1, SV.key]
  · obtain ⟨hq0, hgg⟩ := hgo (fun h => by have := hiff.2 h; omega)
    have wd := wd hq0
    simp only [Tryz.f241, wd, go_sem]
    refine qcall_i (k3) ?_; simp only [Tryz.f241, wd, go_sem]
    refine qif_d (fun h4 => ?_) (fun h4 => ?_)
    · have h5 : ¬ r + top < W := fun h => by rw [Nat.div_eq_of_lt h] at h4; omega
      rw [if_neg h5] at hgg
      simp only [Tryz.f241, go_sem]
      exact fin1 (by decide) (by simp [sget]) (by rw [← j3, hgg]; rfl)
    · have h5 : r + top < W := Nat.not_le.1 fun h => by have := Nat.div_pos h hW; omega
      rw [if_pos h5] at hgg
      rw [Nat.mod_eq_of_lt h5]
      simp only [Tryz.f241, go_sem]
      refine ⟨(q - 1, r + top), ⟨by dsimp only; omega, h5, by dsimp only; rw [← hgg]; exact j3⟩, by dsimp only; omega, ?_⟩
      simp [Wk, sget, killL, kill1, SV.key]
end
section
open Go PG Go.Proofs
def remK (A V k : Nat) : Nat := A / W ^ k % V * W ^ k + A % W ^ k
theorem remK_zero (A V : Nat) : remK A V 0 = A % V := by
  unfold remK
  rw [Nat.pow_zero, Nat.div_one, Nat.mod_one, Nat.mul_one, Nat.add_zero]
theorem remK_top {A V k : Nat} (h : A / W ^ k < V) : remK A V k = A := by
  unfold remK
  rw [Nat.mod_eq_of_lt h, Nat.mul_comm]
  exact Nat.div_add_mod A (W ^ k)
theorem remK_step {A V k n : Nat} (hV : 0 < V) (hVn : V < W ^ n) :
    remK A V (k + 1) / W ^ k < V * W ∧ remK A V (k + 1) / W ^ k / V = A / V / W ^ k % W ∧ remK A V k = remK A V (k + 1) % W ^ k + W ^ k * (remK A V (k + 1) / W ^ k % V) ∧ remK A V (k + 1) < W ^ (k + n + 1) := by
  have hk := Nat.pow_pos (n := k) W0
  have hp : W ^ (k + 1) = W ^ k * W := Nat.pow_succ ..
  have e1 : A / W ^ (k + 1) = A / W ^ k / W := by rw [hp, Nat.div_div_eq_div_mul]
  have e2 : A % W ^ (k + 1) = A % W ^ k + W ^ k * (A / W ^ k % W) := by rw [hp, Nat.mod_mul]
  have e3 : A / V / W ^ k = A / W ^ k / V := by rw [Nat.div_div_eq_div_mul, Nat.div_div_eq_div_mul, Nat.mul_comm]
  have er : remK A V (k + 1) = A % W ^ k + W ^ k * (A / W ^ k / W % V * W + A / W ^ k % W) := by
    unfold remK
    rw [e1, e2, hp, Nat.mul_add, Nat.mul_left_comm]
    omega
  have hml := Nat.mod_lt A hk
  have ed : remK A V (k + 1) / W ^ k = A / W ^ k / W % V * W + A / W ^ k % W := by
    rw [er, Nat.add_mul_div_left _ _ hk, Nat.div_eq_of_lt hml, Nat.zero_add]
  have em : remK A V (k + 1) % W ^ k = A % W ^ k := by rw [er, Nat.add_mul_mod_self_left, Nat.mod_eq_of_lt hml]
  rw [ed, em, e3]
  have hs := small_step (X := A / W ^ k) (n := V) (i := 0) hV
  simp only [Nat.pow_zero, Nat.div_one, Nat.zero_add, Nat.pow_one] at hs
  have hlt : A / W ^ k / W % V * W + A / W ^ k % W < V * W := by
    have a := Nat.mod_lt (A / W ^ k / W) hV
    have b := Nat.mod_lt (A / W ^ k) W0
    have : (A / W ^ k / W % V + 1) * W ≤ V * W := Nat.mul_le_mul_right _ a
    rw [Nat.add_mul, Nat.one_mul] at this
    omega
  refine ⟨hlt, hs.1, ?_, ?_⟩
  · rw [hs.2]
    unfold remK
    rw [Nat.add_comm, Nat.mul_comm]
  · rw [er]
    have h1 : W ^ k * (A / W ^ k / W % V * W + A / W ^ k % W) + W ^ k ≤ W ^ k * (V * W) := by
      rw [← Nat.mul_succ]; exact Nat.mul_le_mul_left _ hlt
    have h2 : W ^ k * (V * W) ≤ W ^ k * (W ^ n * W) := Nat.mul_le_mul_left _ (Nat.mul_le_mul_right _ (Nat.le_of_lt hVn))
    have h3 : W ^ k * (W ^ n * W) = W ^ (k + n + 1) := by rw [← Nat.pow_succ, ← Nat.pow_add]; congr 1
    omega
theorem part_num {X o n m : Nat} (hX : X < W ^ (o + n + 1)) : dv W (((tab W X m).drop o).take (n + 1)) = (X % W ^ m) / W ^ o % W ^ (n + 1) := by
  have okP := ok_tab W0 X m
  have okd : Ok W ((tab W X m).drop o) := fun d hd => okP d (List.mem_of_mem_drop hd)
  rw [(dv_take _ okd _).1, (dv_take _ okP _).2, dv_tab]
theorem row_num {X o n m T : Nat} (hm : o + n + 1 ≤ m) (hX : X < W ^ (o + n + 1)) : rowL (tab W X m) o T (n + 1) = tab W (X % W ^ o + W ^ o * (T % W ^ (n + 1))) m := by
  have okP := ok_tab W0 X m
  have hXm : X < W ^ m := Nat.lt_of_lt_of_le hX (Nat.pow_le_pow_right W0 hm)
  have dP : dv W (tab W X m) = X := (dv_tab X m).trans (Nat.mod_eq_of_lt hXm)
  have hd0 : X / W ^ (o + (n + 1)) = 0 := Nat.div_eq_of_lt (by rw [← Nat.add_assoc]; exact hX)
  have okR : Ok W (rowL (tab W X m) o T (n + 1)) := by
    intro d hd
    unfold rowL at hd
    rcases List.mem_append.1 hd with hd | hd
    · exact okP d (List.mem_of_mem_take hd)
    · rcases List.mem_append.1 hd with hd | hd
      · exact ok_tab W0 _ _ d hd
      · exact okP d (List.mem_of_mem_drop hd)
  have hlen : (rowL (tab W X m) o T (n + 1)).length = m := by rw [rowL_len (by rw [tab_length]; omega), tab_length]
  have hdv : dv W (rowL (tab W X m) o T (n + 1)) = X % W ^ o + W ^ o * (T % W ^ (n + 1)) := by
    unfold rowL
    rw [dv_append, dv_append, (dv_take _ okP _).1, (dv_take _ okP _).2, dP, dv_tab, tab_length, List.length_take, tab_length, Nat.min_eq_left (by omega), hd0, Nat.mul_zero, Nat.add_zero]
  have := tab_of okR
  rw [hdv, hlen] at this
  exact this
theorem put_num {Y o Z n m : Nat} (hY : Y < W ^ o) (hZ : Z < W ^ (n + 1)) (hm : o + n + 1 ≤ m) (T : Nat) :
    dv W (((tab W (Y + W ^ o * Z) m).drop o).take (n + 1)) = Z ∧ rowL (tab W (Y + W ^ o * Z) m) o T (n + 1) = tab W (Y + W ^ o * (T % W ^ (n + 1))) m := by
  have ho := Nat.pow_pos (n := o) W0
  have hX : Y + W ^ o * Z < W ^ (o + n + 1) := by
    have : W ^ o * (Z + 1) ≤ W ^ o * W ^ (n + 1) := Nat.mul_le_mul_left _ hZ
    rw [← Nat.pow_add, Nat.mul_add, Nat.mul_one, ← Nat.add_assoc] at this
    omega
  have hXm : Y + W ^ o * Z < W ^ m := Nat.lt_of_lt_of_le hX (Nat.pow_le_pow_right W0 hm)
  refine ⟨?_, ?_⟩
  · rw [part_num hX, Nat.mod_eq_of_lt hXm, Nat.add_mul_div_left _ _ ho, Nat.div_eq_of_lt hY, Nat.zero_add, Nat.mod_eq_of_lt hZ]
  · rw [row_num hm hX, Nat.add_mul_mod_self_left, Nat.mod_eq_of_lt hY]
end
section
open Go PG Go.Proofs
theorem long_step {A V n m k : Nat} (hV0 : 0 < V) (hVn : V < W ^ n) (hn : 2 ≤ n) (hk : k + n + 1 ≤ m) (hm : m ≤ 200000) : ∃ (F : Nat → List PV) (d0 : Nat), A / V / W ^ k % W ≤ d0 ∧ d0 < W ∧ F (A / V / W ^ k % W) = U (tab W (remK A V k) m) ∧
    PCM E 241 [.sub 0 k (n + 1), .val (.int .u64 ((V / W ^ (n - 1) % W : Nat) : Int)), .val (.int .u64 ((V / W ^ (n - 2) % W : Nat) : Int))] [.row 22 1 m (U (tab W (remK A V (k + 1)) m))] (.val (.int .u64 d0)) [.row 22 1 m (U (tab W (remK A V (k + 1)) m))] ∧
    PCM E 242 [.sub 0 k (n + 1), .sub 1 0 n, .val (.int .u64 d0)] [.row 22 1 m (U (tab W (remK A V (k + 1)) m)), .row 22 1 (n + 1) (U (tab W V (n + 1)))] (.val (.bool (decide (A / V / W ^ k % W < d0)))) [.row 22 1 m (F d0), .row 22 1 (n + 1) (U (tab W V (n + 1)))] ∧
    ∀ d, A / V / W ^ k % W < d → d < W → PCM E 243 [.sub 0 k (n + 1), .sub 1 0 n] [.row 22 1 m (F d), .row 22 1 (n + 1) (U (tab W V (n + 1)))] (.val (.bool (decide (d - 1 = A / V / W ^ k % W)))) [.row 22 1 m (F (d - 1)), .row 22 1 (n + 1) (U (tab W V (n + 1)))] := by
  obtain ⟨s1, s2, s3, s4⟩ := remK_step (A := A) (k := k) hV0 hVn
  have hkW := Nat.pow_pos (n := k) W0
  have hnW := Nat.pow_pos (n := n + 1) W0
  obtain ⟨X, hX⟩ : ∃ X, X = remK A V (k + 1) := ⟨_, rfl⟩
  rw [← hX] at s1 s2 s3 s4 ⊢
  have hXe : X = X % W ^ k + W ^ k * (X / W ^ k) := by have := Nat.mod_add_div X (W ^ k); omega
  have hY : X % W ^ k < W ^ k := Nat.mod_lt _ hkW
  obtain ⟨Y, hYd⟩ : ∃ Y, Y = X % W ^ k := ⟨_, rfl⟩
  obtain ⟨Z, hZd⟩ : ∃ Z, Z = X / W ^ k := ⟨_, rfl⟩
  rw [← hYd, ← hZd] at hXe
  rw [← hYd] at hY s3
  rw [← hZd] at s1 s2 s3
  have hZl : Z < W ^ (n + 1) := by
    refine Nat.lt_of_lt_of_le s1 ?_
    rw [Nat.pow_succ]; exact Nat.mul_le_mul_right _ (Nat.le_of_lt hVn)
  rw [← s2, s3, hXe]
  have hZdiv := Nat.div_add_mod Z V
  have hVl : (tab W V (n + 1)).length = n + 1 := tab_length _ _ _
  have okV := ok_tab W0 V (n + 1)
  have hVt : dv W ((tab W V (n + 1)).take n) = V := by
    have hV1 : V < W ^ (n + 1) := Nat.lt_of_lt_of_le hVn (Nat.pow_le_pow_right W0 (Nat.le_succ _))
    rw [(dv_take _ okV _).1, dv_tab, Nat.mod_eq_of_lt hV1, Nat.mod_eq_of_lt hVn]
  have hlenX : ∀ P, (tab W P m).length = m := fun P => tab_length _ _ _
  have hVdig : V / W ^ (n - 1) % W = V / W ^ (n - 1) := Nat.mod_eq_of_lt (by
    rw [Nat.div_lt_iff_lt_mul (Nat.pow_pos W0), Nat.mul_comm, ← Nat.pow_succ, show (n - 1).succ = n by omega]; exact hVn)
  rw [hVdig]
  obtain ⟨d0, g1, g2, kg⟩ := d_guess (out := tab W (Y + W ^ k * Z) m) (o := k) (n := n) (top := V / W ^ (n - 1)) (next := V / W ^ (n - 2) % W) (ok_tab W0 _ _) (by rw [hlenX]; exact hk) (by rw [hlenX]; exact hm) hn (put_num hY hZl hk 0).1 hVn s1 rfl rfl
  rw [hlenX] at kg
  have kt := fun q (hq : q < W) => d_takeOff (out := tab W (Y + W ^ k * Z) m) (vv := tab W V (n + 1)) (o := k) (n := n) (q := q) (ok_tab W0 _ _) okV hq (by rw [hlenX]; exact hk) (by rw [hlenX]; exact hm) (by rw [hVl]; omega) (by rw [hVl]; omega) (put_num hY hZl hk 0).1 hVt
  simp only [hlenX, hVl, (put_num hY hZl hk _).2] at kt
  refine ⟨fun q => U (tab W (Y + W ^ k * ((Z + W ^ (n + 1) - V * q) % W ^ (n + 1))) m), d0, g1, g2, ?_, kg, ?_, fun d h1 h2 => ?_⟩
  · dsimp only
    have e : (Z + W ^ (n + 1) - V * (Z / V)) % W ^ (n + 1) = Z % V := by
      have e1 : Z + W ^ (n + 1) - V * (Z / V) = Z % V + W ^ (n + 1) := by omega
      rw [e1, Nat.add_mod_right, Nat.mod_eq_of_lt (Nat.lt_of_le_of_lt (Nat.mod_le _ _) hZl)]
    rw [e]
  · have := kt d0 g2
    have e : decide (Z < V * d0) = decide (Z / V < d0) := decide_eq_decide.2 (by rw [Nat.div_lt_iff_lt_mul hV0, Nat.mul_comm])
    rw [e] at this
    exact this
  · have hlt : Z < V * d := by rw [Nat.mul_comm]; exact (Nat.div_lt_iff_lt_mul hV0).1 h1
    have hVd : V * d < W ^ (n + 1) := by rw [Nat.pow_succ]; exact Nat.mul_lt_mul'' hVn h2
    have hd1 : V * d = V * (d - 1) + V := by
      obtain ⟨p, rfl⟩ : ∃ p, d = p + 1 := ⟨d - 1, by omega⟩
      rw [Nat.add_sub_cancel, Nat.mul_succ]
    have hZ' : Z + W ^ (n + 1) - V * d < W ^ (n + 1) := by omega
    dsimp only
    rw [Nat.mod_eq_of_lt hZ']
    have kp := d_putBack (out := tab W (Y + W ^ k * (Z + W ^ (n + 1) - V * d)) m) (vv := tab W V (n + 1)) (o := k) (n := n) (ok_tab W0 _ _) okV (by rw [hlenX]; exact hk) (by rw [hlenX]; exact hm) (by rw [hVl]; omega) (by rw [hVl]; omega) (put_num hY hZ' hk 0).1 hVt
    simp only [hlenX, hVl, (put_num hY hZ' hk _).2] at kp
    have e1 : Z + W ^ (n + 1) - V * d + V = Z + W ^ (n + 1) - V * (d - 1) := by omega
    have e2 : decide (W ^ (n + 1) ≤ Z + W ^ (n + 1) - V * d + V) = decide (d - 1 = Z / V) := decide_eq_decide.2 (by
      have h3 : d - 1 ≤ Z / V ↔ (d - 1) * V ≤ Z := Nat.le_div_iff_mul_le hV0
      rw [Nat.mul_comm (d - 1)] at h3
      constructor
      · intro h
        have := h3.2 (by omega)
        omega
      · intro h
        have := h3.1 (by omega)
        omega)
    rw [e2, e1] at kp
    exact kp
set_option maxHeartbeats 4000000 in
theorem d_long {a b : List Nat} (oa : Ok W a) (ob : Ok W b) (la : a.length ≤ 100000) (hn : 2 ≤ b.length) (hba : b.length ≤ a.length) (hb : W ^ (b.length - 1) ≤ vl b) : PC E 223 [NL a, NL b] (.tuple [NN (vl a / vl b), NN (vl a % vl b)]) := by
  have hA : vl a < W ^ a.length := dv_lt a oa
  have hB : vl b < W ^ b.length := dv_lt b ob
  obtain ⟨n, hnd⟩ : ∃ n, n = b.length := ⟨_, rfl⟩
  obtain ⟨m, hmd⟩ : ∃ m, m = a.length := ⟨_, rfl⟩
  have hg := digit_at ob (i := n - 1) (by omega)
  rw [← hnd] at hn hba hb hB
  rw [← hmd] at hA la hba
  have hn1 := Nat.pow_pos (n := n - 1) W0
  have hB2 : vl b / W ^ (n - 1) < W := by
    rw [Nat.div_lt_iff_lt_mul hn1, Nat.mul_comm, ← Nat.pow_succ, show (n - 1).succ = n by omega]; exact hB
  rw [Nat.mod_eq_of_lt hB2] at hg
  have htop0 : vl b / W ^ (n - 1) ≠ 0 := by have := Nat.div_pos hb hn1; omega
  obtain ⟨nb1, nb2, nb3⟩ := norm_top htop0 hB2
  have hbp := bitLen_pos htop0
  have klz := c_Lead (vl b / W ^ (n - 1)) hB2
  obtain ⟨s, hs⟩ : ∃ s, s = 64 - bitLen (vl b / W ^ (n - 1)) := ⟨_, rfl⟩
  rw [show (64 : Int) - (bitLen (vl b / W ^ (n - 1)) : Int) = (s : Int) by omega] at klz
  have hs63 : s ≤ 63 := by omega
  have hp := Nat.two_pow_pos s
  have hVn : vl b * 2 ^ s < W ^ n := by
    have h1 := (bitLen_le (vl b / W ^ (n - 1)) (bitLen (vl b / W ^ (n - 1)))).1 (Nat.le_refl _)
    have h2 : vl b < (vl b / W ^ (n - 1) + 1) * W ^ (n - 1) := by
      have := Nat.div_add_mod (vl b) (W ^ (n - 1))
      have h3 := Nat.mod_lt (vl b) hn1
      rw [Nat.add_mul, Nat.one_mul, Nat.mul_comm]
      omega
    have h4 : (vl b / W ^ (n - 1) + 1) * 2 ^ s ≤ W := by
      have e : 2 ^ bitLen (vl b / W ^ (n - 1)) * 2 ^ s = W := by
        rw [← Nat.pow_add, show bitLen (vl b / W ^ (n - 1)) + s = 64 by omega]
      have h8 := Nat.mul_le_mul_right (2 ^ s) (Nat.succ_le_of_lt h1)
      rw [e] at h8
      exact h8
    have h5 : vl b * 2 ^ s < (vl b / W ^ (n - 1) + 1) * W ^ (n - 1) * 2 ^ s := Nat.mul_lt_mul_of_pos_right h2 hp
    have h6 : (vl b / W ^ (n - 1) + 1) * W ^ (n - 1) * 2 ^ s ≤ W * W ^ (n - 1) := by
      rw [Nat.mul_right_comm]; exact Nat.mul_le_mul_right _ h4
    have h7 : W * W ^ (n - 1) = W ^ n := by rw [Nat.mul_comm, ← Nat.pow_succ]; congr 1; omega
    omega
  have hV0 : 0 < vl b * 2 ^ s := Nat.mul_pos (by omega) hp
  have kl1 := d_left oa (by omega) hs63
  have kl2 := d_left ob (by omega) hs63
  rw [← hmd] at kl1
  rw [← hnd] at kl2
  have hstart : vl a * 2 ^ s / W ^ (m - n + 1) < vl b * 2 ^ s := by
    rw [Nat.div_lt_iff_lt_mul (Nat.pow_pos W0)]
    have h1 : vl a * 2 ^ s < W ^ m * 2 ^ s := Nat.mul_lt_mul_of_pos_right hA hp
    have h2 : W ^ (n - 1) * 2 ^ s * W ^ (m - n + 1) ≤ vl b * 2 ^ s * W ^ (m - n + 1) := Nat.mul_le_mul_right _ (Nat.mul_le_mul_right _ hb)
    have h3 : W ^ (n - 1) * 2 ^ s * W ^ (m - n + 1) = W ^ m * 2 ^ s := by
      rw [Nat.mul_right_comm, ← Nat.pow_add]; congr 2; omega
    omega
  have hst := fun k (hk : k < m - n + 1) => long_step (A := vl a * 2 ^ s) (V := vl b * 2 ^ s) (n := n) (m := m + 1) (k := k) hV0 hVn hn (by omega) (by omega)
  have hQ : vl a * 2 ^ s / (vl b * 2 ^ s) = vl a / vl b := Nat.mul_div_mul_right _ _ hp
  have hR : vl a * 2 ^ s % (vl b * 2 ^ s) = vl a % vl b * 2 ^ s := Nat.mul_mod_mul_right ..
  rw [hQ] at hst
  have h0r : tab W (remK (vl a * 2 ^ s) (vl b * 2 ^ s) (m - n + 1)) (m + 1) = tab W (vl a * 2 ^ s) (m + 1) := by rw [remK_top hstart]
  have hQl : vl a / vl b < W ^ (m - n + 1) := by
    rw [Nat.div_lt_iff_lt_mul (by omega)]
    have h1 : W ^ (m - n + 1) * W ^ (n - 1) ≤ W ^ (m - n + 1) * vl b := Nat.mul_le_mul_left _ hb
    rw [← Nat.pow_add, show m - n + 1 + (n - 1) = m by omega] at h1
    omega
  have hRl : vl a % vl b * 2 ^ s < W ^ (m + 1) := by
    refine Nat.lt_of_lt_of_le (Nat.lt_trans (Nat.mul_lt_mul_of_pos_right (Nat.mod_lt _ (by omega)) hp) hVn) (Nat.pow_le_pow_right W0 (by omega))
  have ksh : PC E 158 [.lst (m + 1) (U (tab W (remK (vl a * 2 ^ s) (vl b * 2 ^ s) 0) (m + 1))), .int .i64 s] (.tuple [NN (vl a % vl b), .bool false]) := by
    have hnum : Num (NL (tab W (vl a % vl b * 2 ^ s) (m + 1))) (vl a % vl b * 2 ^ s) := ⟨_, rfl, ok_tab W0 _ _, (dv_tab _ _).trans (Nat.mod_eq_of_lt hRl), by rw [tab_length]; omega⟩
    have := k_Shrn hnum s
    rw [Nat.mul_div_cancel _ hp, Nat.mul_mod_left] at this
    rw [remK_zero, hR]
    unfold NL at this
    rw [tab_length] at this
    exact this
  have kba : PC E 119 [.lst (m - n + 1) (U (outL (vl a / vl b) (m - n + 1) 0))] (NN (vl a / vl b)) := by
    rw [outL_zero]
    exact PC.at_list (n_Bare (tab W (vl a / vl b) (m - n + 1)) (by rw [tab_length]; omega) (ok_tab W0 _ _)) (tab_length _ _ _) ((dv_tab _ _).trans (Nat.mod_eq_of_lt hQl))
  have hout0 : U (outL (vl a / vl b) (m - n + 1) (m - n + 1)) = List.replicate (m - n + 1) (.int .u64 0) := by rw [outL_all, U_replicate]
  have hset := fun i (hi : i < m - n + 1) => outL_set (X := vl a / vl b) hi
  have hlenU : ∀ i, (U (outL (vl a / vl b) (m - n + 1) i)).length = m - n + 1 := fun i => by unfold U; rw [List.length_map, outL_len]
  have hvd : ∀ i, i < n + 1 → (U (tab W (vl b * 2 ^ s) (n + 1)))[i]? = some (.int .u64 ((vl b * 2 ^ s / W ^ i % W : Nat) : Int)) := fun i hi => tab_getU hi
  rw [← h0r] at kl1
  clear h0r hQ hR hQl hRl hstart hV0 hVn nb1 nb2 nb3 hbp hB2 htop0 hA hB hb oa ob hs hp hn1
  obtain ⟨RU, hRU⟩ : ∃ RU : Nat → List PV, ∀ k, U (tab W (remK (vl a * 2 ^ s) (vl b * 2 ^ s) k) (m + 1)) = RU k := ⟨_, fun _ => rfl⟩
  obtain ⟨RV, hRV⟩ : ∃ RV : List PV, U (tab W (vl b * 2 ^ s) (n + 1)) = RV := ⟨_, rfl⟩
  obtain ⟨G, hG⟩ : ∃ G : Nat → Nat, ∀ i, vl a / vl b / W ^ i % W = G i := ⟨_, fun _ => rfl⟩
  obtain ⟨VD, hVD⟩ : ∃ VD : Nat → Nat, ∀ i, vl b * 2 ^ s / W ^ i % W = VD i := ⟨_, fun _ => rfl⟩
  obtain ⟨O, hO⟩ : ∃ O : Nat → List PV, ∀ i, U (outL (vl a / vl b) (m - n + 1) i) = O i := ⟨_, fun _ => rfl⟩
  simp only [hRU, hRV, hG, hVD, hO] at kl1 kl2 hst ksh kba hout0 hset hlenU hvd
  clear hRU hRV hG hVD hO
  obtain ⟨B1, hB1⟩ : ∃ x, x = vl b / W ^ (n - 1) := ⟨_, rfl⟩
  obtain ⟨Qf, hQf⟩ : ∃ x, x = NN (vl a / vl b) := ⟨_, rfl⟩
  obtain ⟨Rf, hRf⟩ : ∃ x, x = NN (vl a % vl b) := ⟨_, rfl⟩
  rw [← hB1] at hg klz
  rw [← hQf] at kba ⊢
  rw [← hRf] at ksh ⊢
  clear hB1 hQf hRf
  have w1 : IntKind.wrap .i64 ((n : Int) - 1) = ((n - 1 : Nat) : Int) := by rw [wrap64 (by omega) (by omega)]; omega
  have w2 : IntKind.wrap .i64 ((m : Int) - (n : Int)) = ((m - n : Nat) : Int) := by rw [wrap64 (by omega) (by omega)]; omega
  have w3 : IntKind.wrap .i64 (((m - n : Nat) : Int) + 1) = ((m - n + 1 : Nat) : Int) := by rw [wrap64 (by omega) (by omega)]; omega
  have w4 : IntKind.wrap .i64 (((m - n + 1 : Nat) : Int) - 1) = ((m - n + 1 : Nat) : Int) - 1 := wrap64 (by omega) (by omega)
  have w5 : IntKind.wrap .i64 ((n : Int) - 2) = ((n - 2 : Nat) : Int) := by rw [wrap64 (by omega) (by omega)]; omega
  simp only [NL, u, ← hnd, ← hmd] at kl1 kl2 klz ⊢
  generalize U a = UA at *
  generalize U b = UB at *
  refine PC.of_body follows Tryz.func223 (by decide +kernel) rfl (by kernel_rfl) (Nat.le_of_ble_eq_true rfl) (walk ?_)
  simp only [Tryz.f223, w1, go_sem]
  refine qand_i (by omega) ?_
  simp only [Tryz.f223, w1, go_sem]
  refine qval_i (congrArg (Option.map _) hg) ?_
  simp only [Tryz.f223, w1, go_sem]
  refine qcall_i (klz) ?_; simp only [Tryz.f223, w1, go_sem]
  refine qinl_i [] kl1 rfl (by decide) rfl (fun i b k hb => by simp at hb) (by intro d h; simp) (by intro h; cases h) ?_
  simp only [Tryz.f223, ren, eraO, eraL, List.getD_cons_zero, List.filter_cons, List.filter_nil, go_sem]
  refine qinl_i [] kl2 rfl (by decide) rfl (fun i b k hb => by simp at hb) (by intro d h; simp) (by intro h; cases h) ?_
  simp only [Tryz.f223, ren, eraO, eraL, List.getD_cons_zero, List.filter_cons, List.filter_nil, w2, w3, w4, go_sem]
  repeat' ((with_reducible refine qand_i (by omega) ?_); simp only [Tryz.f223, w2, w3, w4, go_sem])
  refine PLoop.intro (fun i : Nat => ⟨[(6, .val (.int .i64 n)), (7, .val (.int .i64 s)), (8, .row 27), (9, .sub 30 0 n), (10, .row 38), (11, .val (.int .i64 ((i : Int) - 1)))],
    [(27, (.row 22 1 (m + 1) (RU i), false)), (30, (.row 22 1 (n + 1) RV, false)), (38, (.row 22 1 (m - n + 1) (O i), false))]⟩) (fun i => i ≤ m - n + 1) (fun i => i) (m - n + 1) (Nat.le_refl _) ?_ fun i hi => walk ?_
  · rw [hout0]
    simp [Wk, sget, killL, kill1, SV.key]
  rcases i with _ | k
  · simp only [Tryz.f223, go_sem]
    refine qif_df (by omega) ?_
    simp only [Tryz.f223, go_sem]
    refine qcall_i (ksh) ?_; simp only [Tryz.f223, go_sem]
    refine qcall_i (kba) ?_; simp only [Tryz.f223, go_sem]
    try rfl
  have we : ((k + 1 : Nat) : Int) - 1 = (k : Int) := by omega
  have wi : IntKind.wrap .i64 ((k : Int) - 1) = (k : Int) - 1 := wrap64 (by omega) (by omega)
  have wa : IntKind.wrap .i64 ((k : Int) + (n : Int)) = ((k + n : Nat) : Int) := by rw [wrap64 (by omega) (by omega)]; omega
  have wb : IntKind.wrap .i64 (((k + n : Nat) : Int) + 1) = ((k + n + 1 : Nat) : Int) := by rw [wrap64 (by omega) (by omega)]; omega
  have wc : k + n + 1 - k = n + 1 := by omega
  obtain ⟨F, d0, g1, g2, g3, kg, kt, kp⟩ := hst k (by omega)
  have v1 := hvd (n - 1) (by omega)
  have v2 := hvd (n - 2) (by omega)
  have x2 := hset k (by omega)
  have x3 := hlenU (k + 1)
  clear hst kl1 kl2 klz hg hvd hset hlenU
  simp only [Tryz.f223, we, wa, wb, go_sem]
  refine qif_dt (by omega) ?_
  simp only [Tryz.f223, we, wa, wb, go_sem]
  repeat' ((with_reducible refine qand_i (by omega) ?_); simp only [Tryz.f223, we, wa, wb, wc, w1, w5, go_sem])
  refine qval_i (congrArg (Option.map _) v1) ?_
  simp only [Tryz.f223, we, wa, wb, wc, w1, w5, go_sem]
  repeat' ((with_reducible refine qand_i (by omega) ?_); simp only [Tryz.f223, we, wa, wb, wc, w1, w5, go_sem])
  refine qval_i (congrArg (Option.map _) v2) ?_
  simp only [Tryz.f223, we, wa, wb, wc, w1, w5, go_sem]
  refine qinl_i [27] (kg) rfl (by decide) rfl (one_blk rfl) (by intro d h; first | (cases h; decide) | cases h) (by intro h; first | rfl | cases h) ?_; simp only [Tryz.f223, ren, eraO, eraL, List.getD_cons_zero, List.getD_cons_succ, List.filter_cons, List.filter_nil, go_sem]
  refine qinl_i [27,30] (kt) rfl (by decide) rfl (two_blk ⟨rfl, rfl⟩) (by intro d h; first | (cases h; decide) | cases h) (by intro h; first | rfl | cases h) ?_; simp only [Tryz.f223, ren, eraO, eraL, List.getD_cons_zero, List.getD_cons_succ, List.filter_cons, List.filter_nil, go_sem]
  refine PLoop.intro (fun d : Nat => ⟨[(6, .val (.int .i64 n)), (7, .val (.int .i64 s)), (8, .row 27), (9, .sub 30 0 n), (10, .row 38), (11, .val (.int .i64 k)), (12, .sub 27 k (n + 1)), (13, .val (.int .u64 d)), (14, .val (.bool (decide (G k < d))))],
    [(27, (.row 22 1 (m + 1) (F d), false)), (30, (.row 22 1 (n + 1) RV, false)), (38, (.row 22 1 (m - n + 1) (O (k + 1)), false))]⟩) (fun d => G k ≤ d ∧ d < W) (fun d => d) d0 ⟨g1, g2⟩ ?_ fun d hd => walk ?_
  · simp [Wk, sget, killL, kill1, SV.key]
  obtain ⟨j1, j2⟩ := hd
  by_cases hlt : G k < d
  · have kp := kp d hlt j2
    have e : (!decide (d - 1 = G k)) = decide (G k < d - 1) := by
      by_cases h : d - 1 = G k
      · rw [decide_eq_true h, decide_eq_false (by omega)]; rfl
      · rw [decide_eq_false h, decide_eq_true (by omega)]; rfl
    have wd : IntKind.wrap .u64 ((d : Int) - 1) = ((d - 1 : Nat) : Int) := by rw [IntKind.wrap_u64]; have : d < 18446744073709551616 := j2; omega
    rw [decide_eq_true hlt]
    simp only [Tryz.f223, wd, go_sem]
    refine qinl_i [27,30] (kp) rfl (by decide) rfl (two_blk ⟨rfl, rfl⟩) (by intro d h; first | (cases h; decide) | cases h) (by intro h; first | rfl | cases h) ?_; simp only [Tryz.f223, e, ren, eraO, eraL, List.getD_cons_zero, List.getD_cons_succ, List.filter_cons, List.filter_nil, go_sem]
    refine ⟨d - 1, ⟨by omega, by omega⟩, by omega, ?_⟩
    simp [Wk, sget, killL, kill1, SV.key, e]
  · have hde : d = G k := by omega
    subst hde
    rw [decide_eq_false hlt, g3]
    simp only [Tryz.f223, go_sem]
    repeat' ((with_reducible refine qand_i (by first | omega | (rw [x3]; omega)) ?_); simp only [Tryz.f223, wi, go_sem])
    refine ⟨k, by omega, by omega, ?_⟩
    simp [Wk, sget, killL, kill1, SV.key, x2]
theorem k_Div {p q : PV} {x y : Nat} (h : Num p x) (h' : Num q y) (hx : bitLen x ≤ 1000000) (hy : bitLen y ≤ 1000000) (h0 : y ≠ 0) : PC E 178 [p, q] (.tuple [NN (x / y), NN (x % y), .int .i64 0]) := by
  have k1 := k_Bare h
  have k2 := k_Bare h'
  have k3 := k_Cmp (num_bits hx) (num_bits hy)
  have lx : (dg W x).length ≤ 15625 := w_of_bits (n := 15625) (by omega)
  have ly : (dg W y).length ≤ 15625 := w_of_bits (n := 15625) (by omega)
  have ox := ok_dg W2 x
  have oy := ok_dg W2 y
  have vx : vl (dg W x) = x := dv_dg W2 x
  have vy : vl (dg W y) = y := dv_dg W2 y
  have hylen : (dg W y).length ≠ 0 := fun h => h0 (by rw [← vy, List.eq_nil_of_length_eq_zero h]; rfl)
  by_cases hlt : x < y
  · have hs : sgn (x : Int) (y : Int) = -1 := by unfold sgn; rw [if_pos (by omega)]
    rw [hs] at k3
    rw [Nat.div_eq_of_lt hlt, Nat.mod_eq_of_lt hlt]
    have hz : NN 0 = .lst 0 [] := rfl
    rw [hz]
    simp only [NN, NL] at k1 k2 k3 ⊢
    refine PC.of_body follows Tryz.func178 (by decide +kernel) rfl (by kernel_rfl) (Nat.le_of_ble_eq_true rfl) (walk ?_)
    simp only [Tryz.f178, go_sem]
    refine qcall_i (k1) ?_; simp only [Tryz.f178, go_sem]
    refine qcall_i (k2) ?_; simp only [Tryz.f178, go_sem]
    refine qif_df (by omega) ?_
    simp only [Tryz.f178, go_sem]
    refine qcall_i (k3) ?_; simp only [Tryz.f178, go_sem]
    try rfl
  have hs : ¬ sgn (x : Int) (y : Int) < 0 := by
    unfold sgn
    rw [if_neg (by omega)]
    split <;> decide
  by_cases h1 : (dg W y).length = 1
  · obtain ⟨d, hd⟩ : ∃ d, dg W y = [d] := by
      match hh : dg W y, h1 with
      | [d], _ => exact ⟨d, rfl⟩
    have hdy : d = y := by rw [hd] at vy; simpa [vl, dv] using vy
    subst hdy
    have hdW : d < W := oy d (by rw [hd]; simp)
    have k4 := d_Small ox (by omega) hdW h0
    rw [vx] at k4
    have hm : x % d < W := Nat.lt_trans (Nat.mod_lt _ (by omega)) hdW
    have k5 := c_Of (x % d) hm
    simp only [NN, NL, hd, U, List.map_cons, List.map_nil, List.length_cons, List.length_nil, Nat.reduceAdd, u] at k1 k2 k3 k4 k5 ⊢
    refine PC.of_body follows Tryz.func178 (by decide +kernel) rfl (by kernel_rfl) (Nat.le_of_ble_eq_true rfl) (walk ?_)
    simp only [Tryz.f178, Int.cast_ofNat_Int, go_sem]
    refine qcall_i (k1) ?_; simp only [Tryz.f178, Int.cast_ofNat_Int, go_sem]
    refine qcall_i (k2) ?_; simp only [Tryz.f178, Int.cast_ofNat_Int, go_sem]
    refine qcall_i (k3) ?_; simp only [Tryz.f178, Int.cast_ofNat_Int, go_sem]
    refine qif_df hs ?_
    simp only [Tryz.f178, Int.cast_ofNat_Int, go_sem]
    refine qcall_i (k4) ?_; simp only [Tryz.f178, Int.cast_ofNat_Int, go_sem]
    refine qcall_i (k5) ?_; simp only [Tryz.f178, Int.cast_ofNat_Int, go_sem]
    try rfl
  have hlen : (dg W y).length ≤ (dg W x).length := by
    refine (dg_length_le W2 _ y).2 (Nat.lt_of_le_of_lt (Nat.not_lt.1 hlt) ?_)
    have := dv_lt (dg W x) ox
    rwa [show dv W (dg W x) = x from vx] at this
  have hbig : W ^ ((dg W y).length - 1) ≤ y := Nat.not_lt.1 fun h => by
    have := (dg_length_le W2 ((dg W y).length - 1) y).2 h
    omega
  have k4 := d_long ox oy (by omega) (by omega) hlen (by rw [vy]; exact hbig)
  rw [vx, vy] at k4
  simp only [NN, NL] at k1 k2 k3 k4 ⊢
  refine PC.of_body follows Tryz.func178 (by decide +kernel) rfl (by kernel_rfl) (Nat.le_of_ble_eq_true rfl) (walk ?_)
  simp only [Tryz.f178, go_sem]
  refine qcall_i (k1) ?_; simp only [Tryz.f178, go_sem]
  refine qcall_i (k2) ?_; simp only [Tryz.f178, go_sem]
  refine qif_df (by omega) ?_
  simp only [Tryz.f178, go_sem]
  refine qcall_i (k3) ?_; simp only [Tryz.f178, go_sem]
  refine qif_df hs ?_
  simp only [Tryz.f178, go_sem]
  refine qif_df (by omega) ?_
  simp only [Tryz.f178, go_sem]
  refine qcall_i (k4) ?_; simp only [Tryz.f178, go_sem]
  try rfl
end
end
def minD (a b : Dy) : Dy := if cmpD b a < 0 then b else a
def maxD (a b : Dy) : Dy := if 0 < cmpD b a then b else a
theorem minD_or (a b : Dy) : minD a b = a ∨ minD a b = b := by unfold minD; split <;> simp
theorem maxD_or (a b : Dy) : maxD a b = a ∨ maxD a b = b := by unfold maxD; split <;> simp
theorem minD_P {P : Dy → Prop} {a b : Dy} (h1 : P a) (h2 : P b) : P (minD a b) := by rcases minD_or a b with h | h <;> rw [h] <;> assumption
theorem maxD_P {P : Dy → Prop} {a b : Dy} (h1 : P a) (h2 : P b) : P (maxD a b) := by rcases maxD_or a b with h | h <;> rw [h] <;> assumption
structure Iv where
  lo : Dy
  hi : Dy
def min4 (p q r s : Dy) : Dy := minD (minD (minD p q) r) s
def max4 (p q r s : Dy) : Dy := maxD (maxD (maxD p q) r) s
theorem min4_P {P : Dy → Prop} {p q r s : Dy} (h1 : P p) (h2 : P q) (h3 : P r) (h4 : P s) : P (min4 p q r s) := minD_P (minD_P (minD_P h1 h2) h3) h4
theorem max4_P {P : Dy → Prop} {p q r s : Dy} (h1 : P p) (h2 : P q) (h3 : P r) (h4 : P s) : P (max4 p q r s) := maxD_P (maxD_P (maxD_P h1 h2) h3) h4
def mulI (i k : Iv) : Iv := ⟨min4 (mulS i.lo k.lo) (mulS i.lo k.hi) (mulS i.hi k.lo) (mulS i.hi k.hi), max4 (mulS i.lo k.lo) (mulS i.lo k.hi) (mulS i.hi k.lo) (mulS i.hi k.hi)⟩
def addI (i k : Iv) : Iv := ⟨addS i.lo k.lo, addS i.hi k.hi⟩
def Iv.right (i : Iv) : Prop := i.lo.fits ∧ i.hi.fits ∧ cmpD i.lo i.hi ≤ 0
instance (i : Iv) : Decidable i.right := inferInstanceAs (Decidable (_ ∧ _))
def Iv.has (i : Iv) (d : Dy) : Prop := i.right ∧ d.fits ∧ cmpD i.lo d ≤ 0 ∧ cmpD d i.hi ≤ 0
instance (i : Iv) (d : Dy) : Decidable (i.has d) := inferInstanceAs (Decidable (_ ∧ _))
def Iv.inside (i k : Iv) : Prop := i.right ∧ k.has i.lo ∧ k.has i.hi
instance (i k : Iv) : Decidable (i.inside k) := inferInstanceAs (Decidable (_ ∧ _))
def Iv.okI (i : Iv) : Prop := i.lo.ok ∧ i.hi.ok
def Iv.ge (i : Iv) (k : Int) : Prop := i.lo.ge k ∧ i.hi.ge k
theorem mulI_P {P : Dy → Prop} {i k : Iv} (h1 : P (mulS i.lo k.lo)) (h2 : P (mulS i.lo k.hi)) (h3 : P (mulS i.hi k.lo)) (h4 : P (mulS i.hi k.hi)) : P (mulI i k).lo ∧ P (mulI i k).hi :=
  ⟨min4_P h1 h2 h3 h4, max4_P h1 h2 h3 h4⟩
theorem Iv.ge.mono {i : Iv} {k k' : Int} (h : i.ge k') (hk : k ≤ k') : i.ge k := ⟨h.1.mono hk, h.2.mono hk⟩
def Lim (K : Nat) (d : Dy) : Prop := d.ok ∧ d.ge (-(K : Int)) ∧ (d.at (-(K : Int))).natAbs < 2 ^ (2 * K)
theorem Lim.ok {K : Nat} {d : Dy} (h : Lim K d) : d.ok := h.1
theorem Lim.ge {K : Nat} {d : Dy} (h : Lim K d) : d.ge (-(K : Int)) := h.2.1
theorem Lim.lt {K : Nat} {d : Dy} (h : Lim K d) : (d.at (-(K : Int))).natAbs < 2 ^ (2 * K) := h.2.2
theorem Lim.zero (K : Nat) : Lim K .zero := ⟨Dy.zero_ok, Dy.zero_ge _, by rw [at_zero (d := .zero) rfl]; exact Nat.two_pow_pos _⟩
theorem Lim.m {K : Nat} {d : Dy} (h : Lim K d) : d.m * 2 ^ (d.e + K).toNat < 2 ^ (2 * K) := by
  have := h.lt
  rwa [natAbs_at', show d.e - -(K : Int) = d.e + K by omega] at this
theorem Lim.e_ge {K : Nat} {d : Dy} (h : Lim K d) (h0 : d.m ≠ 0) : -(K : Int) ≤ d.e := h.ge.resolve_left h0
theorem Lim.e_lt {K : Nat} {d : Dy} (h : Lim K d) (h0 : d.m ≠ 0) : d.e < K := by
  have h1 := h.m
  have h2 := h.e_ge h0
  have h3 : 2 ^ (d.e + K).toNat < 2 ^ (2 * K) := Nat.lt_of_le_of_lt (by
    have := Nat.mul_le_mul_right (2 ^ (d.e + K).toNat) (show 1 ≤ d.m by omega)
    omega) h1
  have h4 := (Nat.pow_lt_pow_iff_right (by decide : 1 < 2)).1 h3
  omega
theorem Lim.bits {K : Nat} {d : Dy} (h : Lim K d) : bitLen d.m ≤ 2 * K := by
  refine (bitLen_le _ _).2 (Nat.lt_of_le_of_lt ?_ h.m)
  have := Nat.mul_le_mul_left d.m (Nat.two_pow_pos (d.e + K).toNat)
  omega
theorem Lim.top_lt {K : Nat} {d : Dy} (h : Lim K d) (h0 : d.m ≠ 0) : d.top < K := by
  have h1 := h.e_ge h0
  have h2 := (top_at h0 h1).1
  have h3 : 2 ^ (d.top - -(K : Int)).toNat < 2 ^ (2 * K) := Nat.lt_of_le_of_lt h2 h.lt
  have h4 := (Nat.pow_lt_pow_iff_right (by decide : 1 < 2)).1 h3
  have h5 := top_of h0
  have h6 := bitLen_pos h0
  omega
theorem Lim.e0 {K : Nat} {d : Dy} (h : Lim K d) : -(K : Int) ≤ d.e ∧ d.e ≤ K := by
  by_cases h0 : d.m = 0
  · rw [h.ok.z h0]
    show -(K : Int) ≤ 0 ∧ (0 : Int) ≤ K
    omega
  · have := h.e_ge h0
    have := h.e_lt h0
    omega
theorem Lim.fits {K : Nat} {d : Dy} (h : Lim K d) (hK : K ≤ 1000000) : d.fits := by
  have := h.e0
  exact ⟨by omega, by omega⟩
theorem Lim.of {K : Nat} {d : Dy} {k : Int} (ho : d.ok) (hg : d.ge (-(K : Int))) (hk : k ≤ -(K : Int)) (hl : (d.at k).natAbs < 2 ^ (K - k).toNat) : Lim K d := by
  refine ⟨ho, hg, ?_⟩
  have h1 := at_shift' (d := d) hk hg
  rw [h1, Int.natAbs_mul, Int.natAbs_natCast] at hl
  rw [show (K - k).toNat = 2 * K + (-(K : Int) - k).toNat by omega, Nat.pow_add] at hl
  exact Nat.lt_of_mul_lt_mul_right hl
theorem Lim.mono {K J : Nat} {d : Dy} (h : Lim K d) (hK : K ≤ J) : Lim J d := by
  refine ⟨h.ok, h.ge.mono (by omega), ?_⟩
  rw [at_shift' (d := d) (k := -(J : Int)) (k' := -(K : Int)) (by omega) h.ge, Int.natAbs_mul, Int.natAbs_natCast, show (-(K : Int) - -(J : Int)).toNat = J - K by omega]
  refine Nat.lt_of_lt_of_le (Nat.mul_lt_mul_of_pos_right h.lt (Nat.two_pow_pos _)) ?_
  rw [← Nat.pow_add]
  exact Nat.pow_le_pow_right (by decide) (by omega)
theorem Lim.neg {K : Nat} {d : Dy} (h : Lim K d) : Lim K d.neg := ⟨neg_ok h.ok, neg_ge h.ge, by rw [neg_at, Int.natAbs_neg]; exact h.lt⟩
theorem Lim.abs {K : Nat} {d : Dy} (h : Lim K d) : Lim K d.abs := ⟨abs_ok h.ok, abs_ge h.ge, by rw [abs_at, Int.natAbs_natCast]; exact h.lt⟩
theorem Lim.add {K : Nat} {a b : Dy} (ha : Lim K a) (hb : Lim K b) (hK : K ≤ 1000000) : Lim (K + 1) (addS a b) := by
  have fa := ha.fits hK
  have fb := hb.fits hK
  have ha' := ha.mono (J := K + 1) (by omega)
  have hb' := hb.mono (J := K + 1) (by omega)
  refine ⟨addS_ok _ _, (addS_ge ha.ok hb.ok fa fb ha'.ge hb'.ge), ?_⟩
  rw [addS_at ha.ok hb.ok fa fb ha'.ge hb'.ge]
  have e1 := at_shift' (d := a) (k := -((K + 1 : Nat) : Int)) (k' := -(K : Int)) (by omega) ha.ge
  have e2 := at_shift' (d := b) (k := -((K + 1 : Nat) : Int)) (k' := -(K : Int)) (by omega) hb.ge
  rw [e1, e2, show (-(K : Int) - -((K + 1 : Nat) : Int)).toNat = 1 by omega, show 2 * (K + 1) = 2 * K + 2 by omega, Nat.pow_add]
  have := ha.lt
  have := hb.lt
  omega
theorem Lim.addE {K : Nat} {a b : Dy} (ha : Lim K a) (hb : Lim K b) (hK : K ≤ 32767) : addE a b :=
  ⟨ha.fits (by omega), hb.fits (by omega), fun h1 h2 => by
    have := ha.top_lt h1; have := hb.top_lt h2; have := ha.e_ge h1; have := hb.e_ge h2; omega, (ha.add hb (by omega)).fits (by omega)⟩
theorem Lim.mul {K J : Nat} {a b : Dy} (ha : Lim K a) (hb : Lim J b) : Lim (K + J) (mulS a b) := by
  have e : -((K + J : Nat) : Int) = -(K : Int) + -(J : Int) := by omega
  refine ⟨mulS_ok ha.ok hb.ok, by rw [e]; exact mulS_ge ha.ge hb.ge, ?_⟩
  rw [e, mulS_at ha.ge hb.ge, Int.natAbs_mul, show 2 * (K + J) = 2 * K + 2 * J by omega, Nat.pow_add]
  exact Nat.mul_lt_mul'' ha.lt hb.lt
theorem Lim.mulE {K J : Nat} {a b : Dy} (ha : Lim K a) (hb : Lim J b) (hK : K + J ≤ 32767) : mulE a b :=
  ⟨ha.fits (by omega), hb.fits (by omega), fun _ _ => by have := ha.bits; have := hb.bits; omega, (ha.mul hb).fits (by omega)⟩
theorem Lim.sc {K J : Nat} {d : Dy} (h : Lim K d) {n : Int} (hn : -(J : Int) ≤ n ∧ n ≤ J) : Lim (K + J) (d.sc n) := by
  refine ⟨sc_ok h.ok n, (sc_ge h.ge).mono (by omega), ?_⟩
  have e1 := at_shift' (d := d.sc n) (k := -((K + J : Nat) : Int)) (k' := -(K : Int) + n) (by omega) (sc_ge h.ge)
  rw [e1, sc_at, Int.natAbs_mul, Int.natAbs_natCast]
  refine Nat.lt_of_lt_of_le (Nat.mul_lt_mul_of_pos_right h.lt (Nat.two_pow_pos _)) ?_
  rw [← Nat.pow_add]
  exact Nat.pow_le_pow_right (by decide) (by omega)
theorem Lim.RD {K : Nat} {d : Dy} (h : Lim K d) (hK : K ≤ 500000) : RD d.pv d := RD.fit h.ok (by have := h.bits; omega) (h.fits (by omega))
theorem Lim.norm {K : Nat} {z : Int} (hz : z.natAbs < 2 ^ K) (hK : K ≤ 1000000) : Lim K (norm z 0) := by
  refine ⟨norm_ok _ _, (norm_ge z (by decide) (by decide)).mono (by omega), ?_⟩
  rw [norm_at z (by decide) (by decide) (by omega), Int.natAbs_mul, Int.natAbs_natCast, show (0 - -(K : Int)).toNat = K by omega, show 2 * K = K + K by omega, Nat.pow_add]
  exact Nat.mul_lt_mul_of_pos_right hz (Nat.two_pow_pos _)
theorem Lim.mk {s : Bool} {x : Nat} {e : Int} {n J : Nat} (hb : bitLen x ≤ n) (he : -(J : Int) ≤ e ∧ e ≤ J) (hJ : n + J ≤ 1000000) : Lim (n + J) (mkD s x e) := by
  refine ⟨mkD_ok _ _ _, (mkD_ge s x (by omega) (by omega)).mono (by omega), ?_⟩
  rw [mkD_at s x (by omega) (by omega) (show -((n + J : Nat) : Int) ≤ e by omega)]
  have h1 := (bitLen_le _ _).1 hb
  have h2 : x * 2 ^ (e - -((n + J : Nat) : Int)).toNat < 2 ^ n * 2 ^ (e - -((n + J : Nat) : Int)).toNat := Nat.mul_lt_mul_of_pos_right h1 (Nat.two_pow_pos _)
  have h3 : 2 ^ n * 2 ^ (e - -((n + J : Nat) : Int)).toNat ≤ 2 ^ (2 * (n + J)) := by
    rw [← Nat.pow_add]; exact Nat.pow_le_pow_right (by decide) (by omega)
  generalize x * 2 ^ (e - -((n + J : Nat) : Int)).toNat = y at *
  cases s <;> simp <;> omega
theorem addV_lim {K : Nat} {a b : Dy} (ha : Lim K a) (hb : Lim K b) (hK : K ≤ 32767) : addV a b = .tuple [(addS a b).pv, .int .i64 0] := if_pos (ha.addE hb hK)
theorem mulV_lim {K J : Nat} {a b : Dy} (ha : Lim K a) (hb : Lim J b) (hK : K + J ≤ 32767) : mulV a b = .tuple [(mulS a b).pv, .int .i64 0] := if_pos (ha.mulE hb hK)
theorem fd_lim (b : Nat) : Lim 1153 (fd b) := by
  have h1 := fm_lt b
  have h2 := fe_lt b
  exact Lim.mk (n := 53) (J := 1100) ((bitLen_le _ _).2 (by show fm b < 9007199254740992; omega)) (by omega) (by decide)
def fd0 (x : Nat) : Dy := if fe x < 2047 then fd x else .zero
def K0 : Nat := 2306
def LimN (K : Nat) (d : Dy) : Prop := d.ge (-(K : Int)) ∧ (d.at (-(K : Int))).natAbs < 2 ^ (2 * K) ∧ -(K : Int) ≤ d.e ∧ d.e ≤ K
theorem Lim.N {K : Nat} {d : Dy} (h : Lim K d) : LimN K d := ⟨h.ge, h.lt, h.e0.1, h.e0.2⟩
theorem LimN.mono {K J : Nat} {d : Dy} (h : LimN K d) (hK : K ≤ J) : LimN J d := by
  obtain ⟨h1, h2, h3, h4⟩ := h
  refine ⟨h1.mono (by omega), ?_, by omega, by omega⟩
  rw [at_shift' (d := d) (k := -(J : Int)) (k' := -(K : Int)) (by omega) h1, Int.natAbs_mul, Int.natAbs_natCast, show (-(K : Int) - -(J : Int)).toNat = J - K by omega]
  refine Nat.lt_of_lt_of_le (Nat.mul_lt_mul_of_pos_right h2 (Nat.two_pow_pos _)) ?_
  rw [← Nat.pow_add]
  exact Nat.pow_le_pow_right (by decide) (by omega)
theorem LimN.bits {K : Nat} {d : Dy} (h : LimN K d) : bitLen d.m ≤ 2 * K := by
  have h2 := h.2.1
  rw [natAbs_at'] at h2
  refine (bitLen_le _ _).2 (Nat.lt_of_le_of_lt ?_ h2)
  have := Nat.mul_le_mul_left d.m (Nat.two_pow_pos (d.e - -(K : Int)).toNat)
  omega
def Dy.bare (d : Dy) : Dy := mkD d.s d.m d.e
theorem LimN.bare_at {K : Nat} {d : Dy} (h : LimN K d) (hK : K ≤ 1000000) : d.bare.at (-(K : Int)) = d.at (-(K : Int)) := by
  have := h.2.2.1; have := h.2.2.2
  unfold Dy.bare
  rw [mkD_at d.s d.m (by omega) (by omega) (by omega)]
  unfold Dy.at
  cases d.s <;> simp
theorem LimN.bare {K : Nat} {d : Dy} (h : LimN K d) (hK : K ≤ 1000000) : Lim K d.bare := by
  have := h.2.2.1; have := h.2.2.2
  refine ⟨mkD_ok _ _ _, (mkD_ge d.s d.m (by omega) (by omega)).mono (by omega), ?_⟩
  rw [h.bare_at hK]
  exact h.2.1
theorem Lim.bare {K : Nat} {d : Dy} (h : Lim K d) (hK : K ≤ 1000000) : d.bare = d :=
  ok_self h.ok (by have := h.e0; omega) (by have := h.e0; omega)
theorem LimN.add {K : Nat} {a b : Dy} (ha : LimN K a) (hb : LimN K b) : LimN (K + 1) (addD a b) := by
  have ha' := ha.mono (J := K + 1) (by omega)
  have hb' := hb.mono (J := K + 1) (by omega)
  have he := addD_e (l := -(K : Int)) (h := K) ha.2.2 hb.2.2
  refine ⟨addD_ge ha'.1 hb'.1, ?_, by omega, by omega⟩
  rw [addD_at ha'.1 hb'.1]
  have e1 := at_shift' (d := a) (k := -((K + 1 : Nat) : Int)) (k' := -(K : Int)) (by omega) ha.1
  have e2 := at_shift' (d := b) (k := -((K + 1 : Nat) : Int)) (k' := -(K : Int)) (by omega) hb.1
  rw [e1, e2, show (-(K : Int) - -((K + 1 : Nat) : Int)).toNat = 1 by omega, show 2 * (K + 1) = 2 * K + 2 by omega, Nat.pow_add]
  have := ha.2.1
  have := hb.2.1
  omega
def Dy.negN (d : Dy) : Dy := ⟨!d.s, d.m, d.e⟩
theorem negN_at (d : Dy) (k : Int) : d.negN.at k = -d.at k := by
  unfold Dy.at Dy.negN
  cases d.s <;> simp
theorem LimN.negN {K : Nat} {d : Dy} (h : LimN K d) : LimN K d.negN := ⟨h.1, by rw [negN_at, Int.natAbs_neg]; exact h.2.1, h.2.2⟩
theorem LimN.mul {K J : Nat} {a b : Dy} (ha : LimN K a) (hb : LimN J b) : LimN (K + J) (mulS a b) := by
  have e : -((K + J : Nat) : Int) = -(K : Int) + -(J : Int) := by omega
  refine ⟨by rw [e]; exact mulS_ge ha.1 hb.1, ?_, ?_⟩
  · rw [e, mulS_at ha.1 hb.1, Int.natAbs_mul, show 2 * (K + J) = 2 * K + 2 * J by omega, Nat.pow_add]
    exact Nat.mul_lt_mul'' ha.2.1 hb.2.1
  · have := ha.2.2
    have := hb.2.2
    unfold mulS
    split
    · show _ ≤ (0 : Int) ∧ (0 : Int) ≤ _; omega
    · show _ ≤ a.e + b.e ∧ a.e + b.e ≤ _; omega
def Dy.val (d : Dy) : Rat := ((if d.s = true then -1 else 1) * (d.m : Int) : Int) * (2 : Rat) ^ d.e
theorem two_ne : (2 : Rat) ≠ 0 := by decide
theorem z2_pos (k : Int) : (0 : Rat) < (2 : Rat) ^ k := Rat.zpow_pos (by decide)
theorem z2_add (a b : Int) : (2 : Rat) ^ (a + b) = (2 : Rat) ^ a * (2 : Rat) ^ b := Rat.zpow_add two_ne a b
theorem z2_nat (n : Nat) : (2 : Rat) ^ (n : Int) = ((2 ^ n : Nat) : Rat) := by
  rw [Rat.zpow_natCast, Rat.natCast_pow]; rfl
theorem z2_zero : (2 : Rat) ^ (0 : Int) = 1 := Rat.zpow_zero 2
theorem z2_one : (2 : Rat) ^ (1 : Int) = 2 := Rat.zpow_one 2
theorem ic (n : Nat) : ((n : Int) : Rat) = (n : Rat) := rfl
theorem val_zero {d : Dy} (h : d.m = 0) : d.val = 0 := by
  unfold Dy.val; rw [h]; simp
theorem val_at {d : Dy} {k : Int} (h : d.ge k) : d.val = ((d.at k : Int) : Rat) * (2 : Rat) ^ k := by
  by_cases h0 : d.m = 0
  · rw [val_zero h0, at_zero h0]; simp
  have hk : k ≤ d.e := h.resolve_left h0
  unfold Dy.val Dy.at
  have e1 : (2 : Rat) ^ d.e = ((2 ^ (d.e - k).toNat : Nat) : Rat) * (2 : Rat) ^ k := by
    rw [← z2_nat, ← z2_add]; congr 1; omega
  rw [e1]
  generalize (2 : Rat) ^ k = Z
  generalize 2 ^ (d.e - k).toNat = P
  rw [← Rat.mul_assoc]
  congr 1
  cases d.s <;> simp [Rat.intCast_mul, Rat.natCast_mul, Rat.neg_mul, ic]
theorem cmp_val_le {a b : Dy} : cmpD a b ≤ 0 ↔ a.val ≤ b.val := by
  have h1 : a.ge (min a.e b.e) := .inr (by omega)
  have h2 : b.ge (min a.e b.e) := .inr (by omega)
  rw [cmp_at h1 h2, sgn_le, val_at h1, val_at h2]
  have := z2_pos (min a.e b.e)
  generalize (2 : Rat) ^ (min a.e b.e) = Z at *
  generalize a.at (min a.e b.e) = x
  generalize b.at (min a.e b.e) = y
  exact ⟨fun h => Rat.mul_le_mul_of_nonneg_right (Rat.intCast_le_intCast.2 h) (Rat.le_of_lt this), fun h => Rat.intCast_le_intCast.1 (Rat.le_of_mul_le_mul_right h this)⟩
theorem cmp_val_lt {a b : Dy} : cmpD a b < 0 ↔ a.val < b.val := by
  have h := cmp_val_le (a := b) (b := a)
  rw [cmp_swap] at h
  constructor
  · intro h1
    exact Rat.not_le.1 fun h2 => by have h3 := h.2 h2; omega
  · intro h1
    have h2 : ¬ b.val ≤ a.val := Rat.not_le.2 h1
    have h3 : ¬ (-cmpD a b ≤ 0) := fun h3 => h2 (h.1 h3)
    omega
theorem cmp_val_ge {a b : Dy} : 0 ≤ cmpD a b ↔ b.val ≤ a.val := by
  have h := cmp_val_le (a := b) (b := a)
  rw [cmp_swap] at h
  rw [← h]; omega
theorem cmp_val_gt {a b : Dy} : 0 < cmpD a b ↔ b.val < a.val := by
  have h := cmp_val_lt (a := b) (b := a)
  rw [cmp_swap] at h
  rw [← h]; omega
theorem cmp_val_eq {a b : Dy} : cmpD a b = 0 ↔ a.val = b.val := by
  have h1 := cmp_val_le (a := a) (b := b)
  have h2 := cmp_val_ge (a := a) (b := b)
  constructor
  · intro h; exact Rat.le_antisymm (h1.1 (by omega)) (h2.1 (by omega))
  · intro h
    have := h1.2 (by rw [h]; exact Rat.le_refl)
    have := h2.2 (by rw [h]; exact Rat.le_refl)
    omega
theorem sg_val {d : Dy} : (d.sg = 0 ↔ d.val = 0) ∧ (d.sg < 0 ↔ d.val < 0) ∧ (0 < d.sg ↔ 0 < d.val) := by
  by_cases h0 : d.m = 0
  · have : d.sg = 0 := by unfold Dy.sg; rw [if_pos h0]
    rw [this, val_zero h0]
    refine ⟨⟨fun _ => rfl, fun _ => rfl⟩, ⟨fun h => by omega, fun h => absurd h (by decide)⟩, ⟨fun h => by omega, fun h => absurd h (by decide)⟩⟩
  have hv : d.val = ((if d.s = true then -1 else 1) * (d.m : Int) : Int) * (2 : Rat) ^ d.e := rfl
  have hp : (0 : Rat) < (d.m : Int) * (2 : Rat) ^ d.e := Rat.mul_pos (by exact_mod_cast Nat.pos_of_ne_zero h0) (z2_pos _)
  have hs : d.sg = if d.s = true then -1 else 1 := by unfold Dy.sg; rw [if_neg h0]
  rw [hs, hv]
  cases d.s
  · simp only [Bool.false_eq_true, if_false, Int.one_mul]
    generalize ((d.m : Int) : Rat) * (2 : Rat) ^ d.e = X at *
    refine ⟨⟨fun h => by omega, fun h => by grind⟩, ⟨fun h => by omega, fun h => by grind⟩, ⟨fun _ => hp, fun _ => by omega⟩⟩
  · simp only [if_true]
    rw [Int.neg_one_mul, Rat.intCast_neg, Rat.neg_mul]
    generalize ((d.m : Int) : Rat) * (2 : Rat) ^ d.e = X at *
    refine ⟨⟨fun h => by omega, fun h => by grind⟩, ⟨fun h => by grind, fun h => by omega⟩, ⟨fun h => by omega, fun h => by grind⟩⟩
theorem val_eq_zero {d : Dy} : d.val = 0 ↔ d.m = 0 := by
  rw [← sg_val.1]
  unfold Dy.sg
  split
  · simp [*]
  · constructor
    · intro h; split at h <;> cases h
    · intro h; exact absurd h ‹_›
theorem val_neg (d : Dy) : d.neg.val = -d.val := by
  rw [val_at (d := d.neg) (neg_ge (Dy.ge_e d)), val_at (Dy.ge_e d), neg_at, Rat.intCast_neg, Rat.neg_mul]
theorem val_abs (d : Dy) : d.abs.val = if d.val < 0 then -d.val else d.val := by
  have hp := z2_pos d.e
  rw [val_at (d := d.abs) (abs_ge (Dy.ge_e d)), val_at (Dy.ge_e d), abs_at]
  generalize d.at d.e = z
  generalize (2 : Rat) ^ d.e = Z at *
  have e1 : ((z : Int) : Rat) * Z < 0 ↔ z < 0 := (Rat.mul_neg_iff_of_pos_right hp).trans Rat.intCast_neg_iff
  by_cases hz : z < 0
  · rw [if_pos (e1.2 hz), ← Rat.neg_mul, ← Rat.intCast_neg]
    congr 1
    congr 1
    omega
  · rw [if_neg (fun h => hz (e1.1 h))]
    congr 1
    congr 1
    omega
theorem val_mul (a b : Dy) : (mulS a b).val = a.val * b.val := by
  rw [val_at (mulS_ge (Dy.ge_e a) (Dy.ge_e b)), mulS_at (Dy.ge_e a) (Dy.ge_e b), val_at (Dy.ge_e a), val_at (Dy.ge_e b), Rat.intCast_mul, z2_add]
  generalize (2 : Rat) ^ a.e = Z
  generalize (2 : Rat) ^ b.e = Y
  grind
theorem val_addS {a b : Dy} (ha : a.ok) (hb : b.ok) (fa : a.fits) (fb : b.fits) : (addS a b).val = a.val + b.val := by
  have h1 : a.ge (min a.e b.e) := .inr (by omega)
  have h2 : b.ge (min a.e b.e) := .inr (by omega)
  rw [val_at (addS_ge ha hb fa fb h1 h2), addS_at ha hb fa fb h1 h2, val_at h1, val_at h2, Rat.intCast_add, Rat.add_mul]
theorem Lim.val_add {K : Nat} {a b : Dy} (ha : Lim K a) (hb : Lim K b) (hK : K ≤ 1000000) : (addS a b).val = a.val + b.val := val_addS ha.ok hb.ok (ha.fits hK) (hb.fits hK)
theorem val_norm (z : Int) {k : Int} (h1 : -2147483648 ≤ k) (h2 : k ≤ 2147483648) : (norm z k).val = (z : Rat) * (2 : Rat) ^ k := by
  rw [val_at (norm_ge z h1 h2), norm_at z h1 h2 (Int.le_refl _), Int.sub_self]
  simp
end Go.Proofs.YtfkgaldbcngliaaGreatDoor
