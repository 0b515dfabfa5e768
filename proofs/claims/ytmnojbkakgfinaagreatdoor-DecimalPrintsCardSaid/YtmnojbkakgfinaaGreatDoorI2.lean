/- Several parts in one text. -/
import Derived.Test.YtmnojbkakgfinaaGreatDoorG3
import Derived.Test.YtmnojbkakgfinaaGreatDoorG8
import Derived.Lib.Mul64
/- THE PURE READING OF A GO FUNCTION, 14: a cut in a long text: whatever path leads there, the rest is walked once, from one state. -/
section
set_option linter.unusedVariables false
set_option linter.unusedSimpArgs false
namespace PG
open Go Go.RowKit

/-- The code behind so many steps of a sequence. -/
def after : Nat → Code → Code
  | n + 1, .seq _ b => after n b
  | _, c => c
/-- The walk of the first steps; K holds ahead of the rest. -/
def pfirst (E : PE) (N : Nat) : Nat → Code → (Exit → ES → Prop) → (ES → Prop) → ES → Prop
  | n + 1, .seq a b, Q, K, s => pexec E N a (pseq (fun s' => pfirst E N n b Q K s') Q) s
  | 0, _, _, K, s => K s
  | _, _, _, _, _ => False

section
variable {E : PE} {N : Nat}
theorem codeOk_after {mu : Nat → Bool} {own : Nat → Nat → List (Nat × List Nat)} : ∀ (n : Nat) (c : Code), codeOk mu own N c = true → codeOk mu own N (after n c) = true
  | 0, c, h => by cases c <;> exact h
  | n + 1, .seq a b, h => by
    simp only [codeOk, Bool.and_eq_true] at h
    exact codeOk_after n b h.2
  | n + 1, .skip, h => h
  | n + 1, .region .., h => h
  | n + 1, .cond .., h => h
  | n + 1, .loop .., h => h
  | n + 1, .block .., h => h
  | n + 1, .exit .., h => h
  | n + 1, .ret, h => h
  | n + 1, .rangeFunc .., h => h
  | n + 1, .scope .., h => h
  | n + 1, .label .., h => h
  | n + 1, .goto .., h => h
  | n + 1, .refuse .., h => h
theorem cut_sound (hm : E.P.follows .mixedOrders = true) {K : ES → Prop} {Q : Exit → ES → Prop} : ∀ (n : Nat) (c : Code) (s : ES), codeOk E.mu E.own N c = true → (∀ s, K s → PSem E N none (after n c) Q s) → pfirst E N n c Q K s → PSem E N none c Q s
  | 0, c, s, hok, hK, h => by
    have h' : K s := by cases c <;> exact h
    have := hK s h'
    cases c <;> exact this
  | n + 1, .seq a b, s, hok, hK, h => fun wk w0 Pr0 m Pr ac w hr => by
    simp only [codeOk, Bool.and_eq_true] at hok
    refine wpIn_seq (wpIn_mono (pexec_sound hm a _ s hok.1 none (.inl rfl) h wk w0 Pr0 m Pr ac w hr) ?_)
    rintro e a' w' ⟨s', m', Pr', hq, hr'⟩
    cases e with
    | normal => exact cut_sound hm n b s' hok.2 hK hq wk w0 Pr0 m' Pr' a' w' hr'
    | _ => exact ⟨s', m', Pr', hq, hr'⟩
  | n + 1, .skip, s, hok, hK, h => h.elim
  | n + 1, .region .., s, hok, hK, h => h.elim
  | n + 1, .cond .., s, hok, hK, h => h.elim
  | n + 1, .loop .., s, hok, hK, h => h.elim
  | n + 1, .block .., s, hok, hK, h => h.elim
  | n + 1, .exit .., s, hok, hK, h => h.elim
  | n + 1, .ret, s, hok, hK, h => h.elim
  | n + 1, .rangeFunc .., s, hok, hK, h => h.elim
  | n + 1, .scope .., s, hok, hK, h => h.elim
  | n + 1, .label .., s, hok, hK, h => h.elim
  | n + 1, .goto .., s, hok, hK, h => h.elim
  | n + 1, .refuse .., s, hok, hK, h => h.elim
theorem PSem.weak {c : Code} {Q : Exit → ES → Prop} {s s' : ES} {r : Option Nat} (h : PSem E N r c Q s') (hw : Wk s s') : PSem E N r c Q s :=
  fun wk w0 Pr0 m Pr a w hr => h wk w0 Pr0 m Pr a w (hr.weak hw)
class CT where
  k : ES → Prop
def qfirst (E : PE) (N : Nat) (n : Nat) (c : Code) (s : ES) [Q : QT] [K : CT] : Prop := pfirst E N n c Q.q K.k s
theorem qfirst_succ {n : Nat} {a b : Code} {s : ES} {Q : QT} {K : CT} : @qfirst E N (n + 1) (.seq a b) s Q K = @qexec E N a s ⟨pseq (fun s' => @qfirst E N n b s' Q K) Q.q⟩ := (rfl)
theorem qfirst_zero {c : Code} {s : ES} {Q : QT} {K : CT} : @qfirst E N 0 c s Q K = K.k s := by
  unfold qfirst; cases c <;> rfl
theorem after_succ {n : Nat} {a b : Code} : after (n + 1) (.seq a b) = after n b := (rfl)
theorem after_zero {c : Code} : after 0 c = c := by cases c <;> rfl
/-- A CUT behind n steps: each path comes to a state of the one shape; from there on the rest. -/
theorem PSem.cut (hm : E.P.follows .mixedOrders = true) {c : Code} {Q : Exit → ES → Prop} {s : ES} (hok : codeOk E.mu E.own N c = true) (n : Nat) {ι : Type} (St : ι → ES) (J : ι → Prop)
    (h1 : @qfirst E N n c s ⟨Q⟩ ⟨fun s' => ∃ i, J i ∧ Wk s' (St i)⟩) (h2 : ∀ i, J i → PSem E N none (after n c) Q (St i)) : PSem E N none c Q s :=
  cut_sound hm n c s hok (fun s' ⟨i, hj, hw⟩ => (h2 i hj).weak hw) h1
theorem PSem.last (hm : E.P.follows .mixedOrders = true) {c : Code} {Q : Exit → ES → Prop} {s : ES} (hok : codeOk E.mu E.own N c = true) (h : @qexec E N c s ⟨Q⟩) : PSem E N none c Q s :=
  pexec_sound hm c Q s hok none (.inl rfl) h
end
end PG
end

/- THE PURE READING OF A GO FUNCTION, 15: a loop of a known number of rounds is walked round by round. -/
section
set_option linter.unusedVariables false
set_option linter.unusedSimpArgs false
namespace PG
open Go Go.RowKit

/-- It ends within so many rounds. -/
def PUnr (E : PE) (N : Nat) (c : Code) (Q : Exit → ES → Prop) : Nat → ES → Prop
  | 0, _ => False
  | n + 1, s => pexec E N c (pseq (PUnr E N c Q n) Q) s

section
variable {E : PE} {N : Nat}
theorem PLoop.unroll {c : Code} {Q : Exit → ES → Prop} {s : ES} (n : Nat) (h : PUnr E N c Q n s) : PLoop E N c Q s := by
  intro hok hm r hr0 wk w0 Pr0 m Pr a w hrel
  let Good : Act → World → Nat → Prop := fun a w n => ∃ s, PUnr E N c Q n s ∧ ∃ m Pr, Rel E N wk w0 Pr0 s.den m Pr a w
  let mu : Act → World → Nat := fun a w => open Classical in if h : ∃ n, Good a w n then Classical.choose (exists_least h) else 0
  have hmu : ∀ a w, (h : ∃ n, Good a w n) → Good a w (mu a w) ∧ ∀ k, Good a w k → mu a w ≤ k := fun a w h => by
    have := Classical.choose_spec (exists_least h)
    simp only [mu, dif_pos h]
    exact this
  refine wpIn_loop (fun a w => ∃ n, Good a w n) mu ⟨n, s, h, m, Pr, hrel⟩ fun a w hI => ?_
  obtain ⟨⟨s, hs, m, Pr, hrel⟩, hmin⟩ := hmu a w hI
  generalize hn : mu a w = k at *
  cases k with
  | zero => exact hs.elim
  | succ k =>
    refine wpIn_mono (pexec_sound hm c _ _ hok r hr0 hs wk w0 Pr0 m Pr a w hrel) ?_
    rintro e a' w' ⟨s', m', Pr', hq, hr'⟩
    cases e with
    | normal =>
      have hg : Good a' w' k := ⟨s', hq, m', Pr', hr'⟩
      refine ⟨⟨_, hg⟩, ?_⟩
      have := (hmu a' w' ⟨_, hg⟩).2 _ hg
      omega
    | _ => exact ⟨s', m', Pr', hq, hr'⟩
def qunr (E : PE) (N : Nat) (n : Nat) (c : Code) (s : ES) [Q : QT] : Prop := PUnr E N c Q.q n s
theorem qunr_succ {n : Nat} {c : Code} {s : ES} {Q : QT} : @qunr E N (n + 1) c s Q = @qexec E N c s ⟨pseq (fun s' => @qunr E N n c s' Q) Q.q⟩ := (rfl)
theorem qloop_u {c : Code} {s : ES} {Q : QT} (n : Nat) (h : @qunr E N n c s Q) : @qloop E N c s Q := PLoop.unroll n h
end
end PG
end

/- Products: what math/bits.Mul64 and prod.row, prod.product, prod.Mul hand back. -/
section
open Go PG Go.Proofs
set_option maxRecDepth 100000
set_option linter.unusedSimpArgs false
set_option linter.unusedVariables false
namespace Go.Proofs.YtmnojbkakgfinaaGreatDoor
attribute [local go_sem] Lay2 Lay3 Lay4 Lay5 Lay6 Lay7 Lay8 Lay9 Lay10 Lay11 Lay12 Lay13 Lay14 Lay15 Lay16 Lay17 Lay18 Lay19 Lay21 Lay23 Lay24 Lay25 Lay26 Lay27 Lay28 Lay31 Lay32 Lay33 Lay40 Lay43 Lay44 Lay49 Lay50 Lay57 Lay58 Lay61 Lay68 Lay69 Lay72 Lay77 Lay125 Lay133 Lay134 Lay150 Lay167 Lay168 Lay169 Lay170 Lay180 Lay181 Lay185 Lay186 Lay189 Lay205 Lay208 Lay223 Lay227 Lay228 Lay231 Lay232 Lay233 Lay234 Lay235 Lay236 Lay237 Lay238 Lay240 Lay241 Lay242 Lay243 Lay244 Lay245 Lay246 Lay247 Lay249 Lay250 qexec_seq qexec_skip qexec_exit qexec_ret qexec_block qexec_loop qexec_range qexec_cond qexec_region qexec_drawn qops_nil qops_none qops_some put_some put_none pblk_exit pblk_other newDsts_nil inlDsts_nil isInl sget_cons sget_nil qval_some qbool_some qgs_bool qgs_und qfree_some qgrd_true qgrd_false qif_true qif_false qval_ite qval_itn qand_true map_ite map_some' map_none' qdo_move qdo_assign qdo_binOp qdo_pick qdo_unOp qdo_convert qdo_extract qdo_field qdo_fieldAddr qdo_alloc qdo_box qdo_build qdo_buildSlice qdo_load qdo_store qdo_nilCheck qdo_makeFunc qdo_makeSlice qdo_slice qdo_indexAddr qdo_call qcont_val qcont_new qcont_st qcont_app0 qcont_app qcont_inl qcont_call njSV_val njSV_nil njSV_row njSV_ptr njSV_sub binV_val binV_nil binV_nn binV_ptr bin_np bin_nnp nilCmp bin_add bin_sub bin_mul bin_quo bin_rem bin_and bin_or bin_xor bin_andNot bin_eql bin_neq bin_lss bin_leq bin_gtr bin_geq bin_shl bin_shr bin_seql bin_sneq bin_sadd bin_beql bin_aeql bin_aneq eqAnd_some eqCells_nil eqCells_cons fieldTypes isStruct eqCell bin_bneq un_not un_neg nj_ite Nat.beq stepA stepR isNew opSV constSV RV.sv allSome E_mu E_own qkeyIn_none qkeyIn_some qkeyAt_none qkeyAt_some Bool.or_false Bool.false_or Bool.or_true Bool.true_or cst setB res resSV pstart startL killL kill1 eraL frzL svPV rvPV rvInt rvSlice rvBytes frzOf close closeL pconv pbuiltin pmax2 partPV setCells fillPV zrow bound newSV PV.cells Bk.cells Bk.with SV.key pres presL_nil presL_tmp presL_cell presC2_some cellPV_ptr presC List.toList_toArray List.size_toArray List.getElem?_drop Nat.mul_one Int.toNat_natCast Nat.not_lt_zero Nat.lt_irrefl decide_true decide_false Nat.not_lt Option.some.injEq PV.lst.injEq PV.int.injEq PV.bool.injEq PV.tuple.injEq List.cons.injEq Option.map_some Option.map_none Option.bind_some Option.toList List.map_cons List.map_nil List.nil_append List.cons_append List.append_nil List.zip_cons_cons List.zip_nil_left List.zip_nil_right List.getElem?_cons_zero List.getElem?_cons_succ List.drop_zero List.drop_succ_cons List.take_succ_cons List.take_zero List.set_cons_zero List.set_cons_succ List.length_cons List.length_nil List.length_set List.replicate_one List.replicate_zero bne_self_eq_false beq_self_eq_true Nat.zero_add Nat.add_zero Nat.zero_mul Bool.false_eq_true Bool.true_eq_false Bool.not_true Bool.not_false and_true true_and false_and and_false or_false false_or or_true true_or not_true_eq_false not_false_eq_true ne_eq gt_iff_lt List.mem_cons List.not_mem_nil
attribute [local go_sem ↓] pseq_normal pseq_ret pseq_exit pblk_normal pblk_ret newDsts_cons inlDsts_cons gdst_zero gdst_succ retQ_normal retQ_ret qneed_nil qneed_cons retM_normal retM_ret endR_normal endR_ret endR_exit
attribute [local go_sem] Int.reduceToNat Int.reduceEq Int.reduceNe Int.reduceLT Int.reduceLE Int.reduceNeg Int.reduceAdd Nat.reduceEqDiff Nat.reduceAdd Nat.reduceSub Nat.reduceMul Nat.reduceLeDiff Nat.reduceLT
attribute [local go_sem ↓] reduceIte reduceCtorEq

theorem c_Mul64 (x y : Nat) (hx : x < W) (hy : y < W) : PC E 141 [u x, u y] (.tuple [u (x * y / W), u (x * y % W)]) := by
  refine PC.of_body follows Tryz.func141 (by decide +kernel) rfl (by kernel_rfl) (Nat.le_of_ble_eq_true rfl) (walk ?_)
  have hx' : x < 18446744073709551616 := hx
  have hy' : y < 18446744073709551616 := hy
  obtain ⟨m1, m2, m3, m4⟩ := Lib.mul64_hi x y hx' hy'
  have a1 : bits .and .u64 (x : Int) 4294967295 = ((x % 2 ^ 32 : Nat) : Int) := m_and x 32 4294967295 hx (by decide) (by decide)
  have a2 : bits .and .u64 (y : Int) 4294967295 = ((y % 2 ^ 32 : Nat) : Int) := m_and y 32 4294967295 hy (by decide) (by decide)
  have s1 := b_shr hx 32
  have s2 := b_shr hy 32
  rw [show (2 : Nat) ^ 32 = 4294967296 by decide] at a1 a2 s1 s2
  generalize hx0 : x % 4294967296 = x0 at *
  generalize hx1 : x / 4294967296 = x1 at *
  generalize hy0 : y % 4294967296 = y0 at *
  generalize hy1 : y / 4294967296 = y1 at *
  have w1 : IntKind.wrap .u64 ((x0 : Int) * (y0 : Int)) = ((x0 * y0 : Nat) : Int) := by rw [← Int.natCast_mul]; exact wrap_nat64 m1
  have s3 := b_shr (a := x0 * y0) m1 32
  rw [show (2 : Nat) ^ 32 = 4294967296 by decide] at s3
  have w2 : IntKind.wrap .u64 ((x1 : Int) * (y0 : Int)) = ((x1 * y0 : Nat) : Int) := by rw [← Int.natCast_mul]; exact wrap_nat64 (show _ < 18446744073709551616 by omega)
  have w3 : IntKind.wrap .u64 (((x1 * y0 : Nat) : Int) + ((x0 * y0 / 4294967296 : Nat) : Int)) = ((x1 * y0 + x0 * y0 / 4294967296 : Nat) : Int) := by rw [← Int.natCast_add]; exact wrap_nat64 m2
  generalize ht : x1 * y0 + x0 * y0 / 4294967296 = t at *
  have a3 : bits .and .u64 (t : Int) 4294967295 = ((t % 2 ^ 32 : Nat) : Int) := m_and t 32 4294967295 m2 (by decide) (by decide)
  have s4 := b_shr (a := t) m2 32
  rw [show (2 : Nat) ^ 32 = 4294967296 by decide] at a3 s4
  have w4 : IntKind.wrap .u64 ((x0 : Int) * (y1 : Int)) = ((x0 * y1 : Nat) : Int) := by rw [← Int.natCast_mul]; exact wrap_nat64 (show _ < 18446744073709551616 by omega)
  have w5 : IntKind.wrap .u64 (((t % 4294967296 : Nat) : Int) + ((x0 * y1 : Nat) : Int)) = ((t % 4294967296 + x0 * y1 : Nat) : Int) := by rw [← Int.natCast_add]; exact wrap_nat64 m3
  have s5 := b_shr (a := t % 4294967296 + x0 * y1) m3 32
  rw [show (2 : Nat) ^ 32 = 4294967296 by decide] at s5
  have hhi : x * y / 18446744073709551616 < 18446744073709551616 := by
    rw [Nat.div_lt_iff_lt_mul (by decide)]
    exact Nat.mul_lt_mul'' hx' hy'
  have w6 : IntKind.wrap .u64 ((x1 : Int) * (y1 : Int)) = ((x1 * y1 : Nat) : Int) := by rw [← Int.natCast_mul]; exact wrap_nat64 (show _ < 18446744073709551616 by omega)
  have w7 : IntKind.wrap .u64 (((x1 * y1 : Nat) : Int) + ((t / 4294967296 : Nat) : Int)) = ((x1 * y1 + t / 4294967296 : Nat) : Int) := by rw [← Int.natCast_add]; exact wrap_nat64 (show _ < 18446744073709551616 by omega)
  have w8 : IntKind.wrap .u64 (((x1 * y1 + t / 4294967296 : Nat) : Int) + (((t % 4294967296 + x0 * y1) / 4294967296 : Nat) : Int)) = ((x * y / W : Nat) : Int) := by
    rw [← Int.natCast_add, m4]; exact wrap_nat64 hhi
  have w9 : IntKind.wrap .u64 ((x : Int) * (y : Int)) = ((x * y % W : Nat) : Int) := by
    rw [IntKind.wrap_u64, ← Int.natCast_mul]; rfl
  simp only [Tryz.f141, u, a1, a2, s1, s2, w1, s3, w2, w3, a3, s4, w4, w5, s5, w6, w7, w8, w9, go_sem]

/-- What the products' digits come to: T = Y + A n, digit by digit. -/
theorem row_step {Y A n i : Nat} (hn : n < W) :
    (Y % W ^ i + A % W ^ i * n) / W ^ i < W ∧
    ((Y % W ^ i + A % W ^ i * n) / W ^ i + Y / W ^ i % W + A / W ^ i % W * n) % W = (Y + A * n) / W ^ i % W ∧
    ((Y % W ^ i + A % W ^ i * n) / W ^ i + Y / W ^ i % W + A / W ^ i % W * n) / W = (Y % W ^ (i + 1) + A % W ^ (i + 1) * n) / W ^ (i + 1) := by
  have hP := Nat.pow_pos (n := i) W0
  have y1 := Nat.mod_lt Y hP
  have a1 := Nat.mod_lt A hP
  have ey := Nat.mod_add_div Y (W ^ i)
  have ea := Nat.mod_add_div A (W ^ i)
  have ey2 : Y % W ^ (i + 1) = Y % W ^ i + W ^ i * (Y / W ^ i % W) := by rw [Nat.pow_succ, Nat.mod_mul]
  have ea2 : A % W ^ (i + 1) = A % W ^ i + W ^ i * (A / W ^ i % W) := by rw [Nat.pow_succ, Nat.mod_mul]
  rw [ey2, ea2]
  generalize hP2 : W ^ i = P at *
  generalize Y % P = yl at *
  generalize A % P = al at *
  generalize hyh : Y / P = yh at *
  generalize hah : A / P = ah at *
  refine ⟨?_, ?_, ?_⟩
  · rw [Nat.div_lt_iff_lt_mul hP]
    have h1 : al * n ≤ (P - 1) * (W - 1) := Nat.mul_le_mul (by omega) (by omega)
    have h2 : (P - 1) * (W - 1) + (P - 1) + (P - 1) + (W - 1) + 1 = P * W + (P - 1) := by
      obtain ⟨p, rfl⟩ : ∃ p, P = p + 1 := ⟨P - 1, by omega⟩
      obtain ⟨w, hw⟩ : ∃ w, W = w + 1 := ⟨W - 1, rfl⟩
      rw [hw]
      simp only [Nat.add_sub_cancel, Nat.add_mul, Nat.mul_add, Nat.mul_one, Nat.one_mul]
      omega
    have hW := W2
    rw [Nat.mul_comm W P]
    omega
  · have e : Y + A * n = (yl + al * n) + P * (yh + ah * n) := by
      rw [← ey, ← ea, Nat.add_mul, Nat.mul_add, Nat.mul_assoc]; omega
    rw [e, Nat.add_mul_div_left _ _ hP]
    generalize (yl + al * n) / P = c
    simp [Nat.add_mod, Nat.mul_mod, Nat.add_assoc]
  · have e : yl + P * (yh % W) + (al + P * (ah % W)) * n = (yl + al * n) + P * (yh % W + ah % W * n) := by
      rw [Nat.add_mul, Nat.mul_add, Nat.mul_assoc]; omega
    rw [e, Nat.pow_succ, hP2, ← Nat.div_div_eq_div_mul, Nat.add_mul_div_left _ _ hP, Nat.add_assoc]
end Go.Proofs.YtmnojbkakgfinaaGreatDoor
end

/- Products: prod.row (it writes what it is handed). -/
section
open Go PG Go.Proofs
set_option maxRecDepth 100000
set_option linter.unusedSimpArgs false
set_option linter.unusedVariables false
namespace Go.Proofs.YtmnojbkakgfinaaGreatDoor
attribute [local go_sem] Lay2 Lay3 Lay4 Lay5 Lay6 Lay7 Lay8 Lay9 Lay10 Lay11 Lay12 Lay13 Lay14 Lay15 Lay16 Lay17 Lay18 Lay19 Lay21 Lay23 Lay24 Lay25 Lay26 Lay27 Lay28 Lay31 Lay32 Lay33 Lay40 Lay43 Lay44 Lay49 Lay50 Lay57 Lay58 Lay61 Lay68 Lay69 Lay72 Lay77 Lay125 Lay133 Lay134 Lay150 Lay167 Lay168 Lay169 Lay170 Lay180 Lay181 Lay185 Lay186 Lay189 Lay205 Lay208 Lay223 Lay227 Lay228 Lay231 Lay232 Lay233 Lay234 Lay235 Lay236 Lay237 Lay238 Lay240 Lay241 Lay242 Lay243 Lay244 Lay245 Lay246 Lay247 Lay249 Lay250 qexec_seq qexec_skip qexec_exit qexec_ret qexec_block qexec_loop qexec_range qexec_cond qexec_region qexec_drawn qops_nil qops_none qops_some put_some put_none pblk_exit pblk_other newDsts_nil inlDsts_nil isInl sget_cons sget_nil qval_some qbool_some qgs_bool qgs_und qfree_some qgrd_true qgrd_false qif_true qif_false qval_ite qval_itn qand_true map_ite map_some' map_none' qdo_move qdo_assign qdo_binOp qdo_pick qdo_unOp qdo_convert qdo_extract qdo_field qdo_fieldAddr qdo_alloc qdo_box qdo_build qdo_buildSlice qdo_load qdo_store qdo_nilCheck qdo_makeFunc qdo_makeSlice qdo_slice qdo_indexAddr qdo_call qcont_val qcont_new qcont_st qcont_app0 qcont_app qcont_inl qcont_call njSV_val njSV_nil njSV_row njSV_ptr njSV_sub binV_val binV_nil binV_nn binV_ptr bin_np bin_nnp nilCmp bin_add bin_sub bin_mul bin_quo bin_rem bin_and bin_or bin_xor bin_andNot bin_eql bin_neq bin_lss bin_leq bin_gtr bin_geq bin_shl bin_shr bin_seql bin_sneq bin_sadd bin_beql bin_aeql bin_aneq eqAnd_some eqCells_nil eqCells_cons fieldTypes isStruct eqCell bin_bneq un_not un_neg nj_ite Nat.beq stepA stepR isNew opSV constSV RV.sv allSome E_mu E_own qkeyIn_none qkeyIn_some qkeyAt_none qkeyAt_some Bool.or_false Bool.false_or Bool.or_true Bool.true_or cst setB res resSV pstart startL killL kill1 eraL frzL svPV rvPV rvInt rvSlice rvBytes frzOf close closeL pconv pbuiltin pmax2 partPV setCells fillPV zrow bound newSV PV.cells Bk.cells Bk.with SV.key pres presL_nil presL_tmp presL_cell presC2_some cellPV_ptr presC List.toList_toArray List.size_toArray List.getElem?_drop Nat.mul_one Int.toNat_natCast Nat.not_lt_zero Nat.lt_irrefl decide_true decide_false Nat.not_lt Option.some.injEq PV.lst.injEq PV.int.injEq PV.bool.injEq PV.tuple.injEq List.cons.injEq Option.map_some Option.map_none Option.bind_some Option.toList List.map_cons List.map_nil List.nil_append List.cons_append List.append_nil List.zip_cons_cons List.zip_nil_left List.zip_nil_right List.getElem?_cons_zero List.getElem?_cons_succ List.drop_zero List.drop_succ_cons List.take_succ_cons List.take_zero List.set_cons_zero List.set_cons_succ List.length_cons List.length_nil List.length_set List.replicate_one List.replicate_zero bne_self_eq_false beq_self_eq_true Nat.zero_add Nat.add_zero Nat.zero_mul Bool.false_eq_true Bool.true_eq_false Bool.not_true Bool.not_false and_true true_and false_and and_false or_false false_or or_true true_or not_true_eq_false not_false_eq_true ne_eq gt_iff_lt List.mem_cons List.not_mem_nil
attribute [local go_sem ↓] pseq_normal pseq_ret pseq_exit pblk_normal pblk_ret newDsts_cons inlDsts_cons gdst_zero gdst_succ retQ_normal retQ_ret qneed_nil qneed_cons retM_normal retM_ret endR_normal endR_ret endR_exit
attribute [local go_sem] Int.reduceToNat Int.reduceEq Int.reduceNe Int.reduceLT Int.reduceLE Int.reduceNeg Int.reduceAdd Nat.reduceEqDiff Nat.reduceAdd Nat.reduceSub Nat.reduceMul Nat.reduceLeDiff Nat.reduceLT
attribute [local go_sem ↓] reduceIte reduceCtorEq

/-- The row behind so many steps. -/
def rowL (out : List Nat) (o T i : Nat) : List Nat := out.take o ++ (tab W T i ++ out.drop (o + i))
/-- What prod.row is told to add. -/
def rowT (out a : List Nat) (o n : Nat) : Nat := dv W ((out.drop o).take a.length) + vl a * n

theorem rowL_len {out : List Nat} {o T i : Nat} (h : o + i ≤ out.length) : (rowL out o T i).length = out.length := by
  unfold rowL
  simp [tab_length]
  omega
theorem rowL_get {out : List Nat} {o T i : Nat} (h : o + i < out.length) : (U (rowL out o T i))[o + i]? = some (u (out.getD (o + i) 0)) := by
  have hl : (out.take o).length = o := by simp; omega
  rw [U_get]
  unfold rowL
  rw [List.getElem?_append_right (by omega), hl, List.getElem?_append_right (by rw [tab_length]; omega), tab_length, List.getElem?_drop, show o + i + (o + i - o - i) = o + i by omega, List.getElem?_eq_getElem h, List.getD_eq_getElem?_getD, List.getElem?_eq_getElem h]
  rfl
theorem rowL_set {out : List Nat} {o T i : Nat} (h : o + i < out.length) : (U (rowL out o T i)).set (o + i) (u (T / W ^ i % W)) = U (rowL out o T (i + 1)) := by
  have hl : (out.take o).length = o := by simp; omega
  unfold rowL U
  rw [← List.map_set]
  congr 1
  rw [List.set_append_right _ _ (by omega), hl, List.set_append_right _ _ (by rw [tab_length]; omega), tab_length, show o + i - o - i = 0 by omega, tab_succ, List.append_assoc]
  congr 2
  rw [List.drop_eq_getElem_cons h]
  rfl
theorem row_arith {M c y x n : Nat} (hM : M = x * n) (hx : x < W) (hn : n < W) (hc : c < W) (hy : y < W) :
    (y + (M % W + c + 0) % W + 0) % W = (c + y + M) % W ∧ M / W + (M % W + c + 0) / W < W ∧
    M / W + (M % W + c + 0) / W + (y + (M % W + c + 0) % W + 0) / W = (c + y + M) / W ∧ (c + y + M) / W < W := by
  have hx' : x < 18446744073709551616 := hx
  have hn' : n < 18446744073709551616 := hn
  have hc' : c < 18446744073709551616 := hc
  have hy' : y < 18446744073709551616 := hy
  have h1 : M ≤ 18446744073709551615 * 18446744073709551615 := by rw [hM]; exact Nat.mul_le_mul (by omega) (by omega)
  have key : (y + (M % 18446744073709551616 + c + 0) % 18446744073709551616 + 0) % 18446744073709551616 = (c + y + M) % 18446744073709551616 ∧ M / 18446744073709551616 + (M % 18446744073709551616 + c + 0) / 18446744073709551616 < 18446744073709551616 ∧
    M / 18446744073709551616 + (M % 18446744073709551616 + c + 0) / 18446744073709551616 + (y + (M % 18446744073709551616 + c + 0) % 18446744073709551616 + 0) / 18446744073709551616 = (c + y + M) / 18446744073709551616 ∧ (c + y + M) / 18446744073709551616 < 18446744073709551616 := by
    clear hM hx hn hc hy hx' hn'
    omega
  exact key
theorem c_row (out a : List Nat) (o n : Nat) (ho : Ok W out) (ha : Ok W a) (hn : n < W) (hL : o + a.length + 1 ≤ out.length) (hl : out.length ≤ 1048576) :
    PCM E 98 [.sub 0 o (out.length - o), .val (NL a), .val (u n)] [.row 23 1 out.length (U out)] (.val (.tuple [])) [.row 23 1 out.length (U (rowL out o (rowT out a o n) (a.length + 1)))] := by
  refine PCM.of_body follows Tryz.func98 (by decide +kernel) rfl (by kernel_rfl) (Nat.le_of_ble_eq_true rfl) (Nat.le_refl _) (by simp) (fun k h => by cases h) (fun h => by cases h) (walk ?_)
  simp only [mstart, startS, blkL, shiftSV]
  have hla := dv_lt a ha
  have hget : ∀ i, i < a.length → (U a)[i]? = some (u (vl a / W ^ i % W)) := fun i hi => by
    rw [U_get, ← dv_get W0 _ ha i, List.getD_eq_getElem?_getD, List.getElem?_eq_getElem hi]; rfl
  have hok : Ok W ((out.drop o).take a.length) := fun d hd => ho d (List.mem_of_mem_drop (List.mem_of_mem_take hd))
  have hog : ∀ i, i < a.length → out.getD (o + i) 0 = dv W ((out.drop o).take a.length) / W ^ i % W := fun i hi => by
    rw [← dv_get W0 _ hok i, List.getD_eq_getElem?_getD, List.getD_eq_getElem?_getD, List.getElem?_take, if_pos hi, List.getElem?_drop]
  unfold rowT
  generalize hY : dv W ((out.drop o).take a.length) = Y at *
  generalize hA : vl a = A at *
  simp only [NL]
  simp only [Tryz.f98, go_sem]
  refine PLoop.intro (fun i : Nat => ⟨[(0, .sub 55 o (out.length - o)), (1, .val (.lst a.length (U a))), (2, .val (u n)), (6, .val (u ((Y % W ^ i + A % W ^ i * n) / W ^ i))), (12, .val (.lst a.length (U a))), (13, .val (.int .i64 a.length)), (14, .val (.int .i64 i))],
    [(55, (.row 23 1 out.length (U (rowL out o (Y + A * n) i)), false))]⟩) (fun i => i ≤ a.length) (fun i => a.length - i) 0 (Nat.zero_le _) ?_ fun i hi => walk ?_
  · have e0 : rowL out o (Y + A * n) 0 = out := by unfold rowL; simp [tab]
    rw [e0]
    simp [Wk, sget, killL, kill1, SV.key, u, Nat.mod_one]
  have hstep := row_step (Y := Y) (A := A) (n := n) (i := i) hn
  obtain ⟨t1, t2, t3⟩ := hstep
  have wi : IntKind.wrap .i64 ((i : Int) + 1) = ((i + 1 : Nat) : Int) := by rw [wrap64 (by omega) (by omega)]; omega
  have hx : i < a.length → A / W ^ i % W < W := fun _ => Nat.mod_lt _ W0
  have hyW : Y / W ^ i % W < W := Nat.mod_lt _ W0
  generalize hc : (Y % W ^ i + A % W ^ i * n) / W ^ i = c at *
  generalize hxx : A / W ^ i % W = x at *
  have hgi := hget i
  have hoi := hog i
  rw [hxx] at hgi
  generalize hyy : Y / W ^ i % W = y at *
  simp only [Tryz.f98, u, go_sem]
  refine qif_d (fun h1 => ?_) (fun h1 => ?_)
  · have hxW := hx (by omega)
    have k1 := c_Mul64 x n hxW hn
    have k2 := c_Add64 (x * n % W) c 0 (by decide)
    have k3 := c_Add64 y ((x * n % W + c + 0) % W) 0 (by decide)
    have hgo := rowL_get (out := out) (o := o) (T := Y + A * n) (i := i) (by omega)
    have hgs := rowL_set (out := out) (o := o) (T := Y + A * n) (i := i) (by omega)
    rw [hoi (by omega)] at hgo
    obtain ⟨r1, r2, r3, r4⟩ := row_arith (M := x * n) rfl hxW hn t1 hyW
    generalize x * n = M at *
    have d1 : (y + (M % W + c + 0) % W + 0) % W = (Y + A * n) / W ^ i % W := by rw [← t2]; exact r1
    have d2 : IntKind.wrap .u64 (((M / W : Nat) : Int) + (((M % W + c + 0) / W : Nat) : Int)) = ((M / W + (M % W + c + 0) / W : Nat) : Int) := by
      rw [← Int.natCast_add]; exact wrap_nat64 r2
    have d3 : IntKind.wrap .u64 (((M / W + (M % W + c + 0) / W : Nat) : Int) + (((y + (M % W + c + 0) % W + 0) / W : Nat) : Int)) = (((Y % W ^ (i + 1) + A % W ^ (i + 1) * n) / W ^ (i + 1) : Nat) : Int) := by
      rw [← t3, ← Int.natCast_add, r3]
      exact wrap_nat64 r4
    clear r1 r2 r3 r4
    rw [d1] at k3
    generalize (Y + A * n) / W ^ i % W = dgt at k3 hgs
    generalize hcn : (Y % W ^ (i + 1) + A % W ^ (i + 1) * n) / W ^ (i + 1) = cn at *
    clear t1 t2 t3 d1 hyW hxW hx
    simp only [Nat.add_zero] at d2 d3 k2 k3
    generalize M / W = q1 at *
    generalize M % W = q2 at *
    generalize (q2 + c) / W = q3 at *
    generalize (q2 + c) % W = q4 at *
    generalize (y + q4) / W = q5 at *
    simp only [u] at k1 k2 k3 hgo hgs
    simp only [Tryz.f98, u, go_sem]
    refine qand_i (by first | omega | (simp [V_length, U_length, tab_length, maxLen]; done) | (simp [V_length, U_length, tab_length, maxLen]; omega) | (refine ⟨?_, ?_⟩ <;> first | omega | (simp [V_length, U_length, tab_length, maxLen]; done) | (simp [V_length, U_length, tab_length, maxLen]; omega))) ?_; simp only [Tryz.f98, u, go_sem]
    refine qval_i (congrArg (Option.map _) (hgi (by omega))) ?_
    simp only [Tryz.f98, u, go_sem]
    refine qcall_i (k1) ?_; simp only [Tryz.f98, u, go_sem]
    refine qcall_i (k2) ?_; simp only [Tryz.f98, u, d2, go_sem]
    refine qand_i (by omega) ?_
    simp only [Tryz.f98, u, d2, go_sem]
    refine qval_i (congrArg (Option.map _) hgo) ?_
    simp only [Tryz.f98, u, d2, go_sem]
    refine qcall_i (k3) ?_; simp only [Tryz.f98, u, d2, d3, go_sem]
    refine qand_i (by omega) ?_
    simp only [Tryz.f98, u, d2, d3, wi, go_sem]
    have hul : (U (rowL out o (Y + A * n) i)).length = out.length := by unfold U; rw [List.length_map, rowL_len (by omega)]
    refine qand_i (by rw [hul]; omega) ?_
    simp only [Tryz.f98, u, d2, d3, wi, go_sem]
    refine ⟨i + 1, by omega, by omega, ?_⟩
    rw [hcn]
    generalize Y + A * n = TT at *
    simp [Wk, sget, killL, kill1, SV.key, u, setCells, hgs]
  · have hil : i = a.length := by omega
    subst hil
    have hY2 : Y < W ^ a.length := by
      rw [← hY]
      refine Nat.lt_of_lt_of_le (dv_lt _ hok) (Nat.pow_le_pow_right W0 ?_)
      rw [List.length_take]; omega
    have hla' : A < W ^ a.length := by rw [← hA]; exact hla
    rw [Nat.mod_eq_of_lt hY2, Nat.mod_eq_of_lt hla'] at hc
    have hcd : c = (Y + A * n) / W ^ a.length % W := by rw [hc, Nat.mod_eq_of_lt t1]
    have hgs := rowL_set (out := out) (o := o) (T := Y + A * n) (i := a.length) (by omega)
    have hul : (U (rowL out o (Y + A * n) a.length)).length = out.length := by unfold U; rw [List.length_map, rowL_len (by omega)]
    rw [← hcd] at hgs
    simp only [Tryz.f98, u, go_sem]
    refine qand_i (by omega) ?_
    simp only [Tryz.f98, u, go_sem]
    refine qand_i (by rw [hul]; omega) ?_
    simp only [Tryz.f98, u, go_sem]
    refine ⟨0, by decide, fun i b hb => ?_, .inl ⟨.tuple [], [], rfl, rfl, fun _ _ h => by cases h⟩⟩
    simp only [u] at hgs
    match i, hb with
    | 0, hb =>
      simp only [List.getElem?_cons_zero, Option.some.injEq] at hb
      subst hb
      simp [keyM, sget, setCells, hgs]
    | i + 1, hb => simp at hb
end Go.Proofs.YtmnojbkakgfinaaGreatDoor
end

/- Products: prod.product, prod.Mul, dyad.Mul. -/
section
open Go PG Go.Proofs
set_option maxRecDepth 100000
set_option linter.unusedSimpArgs false
set_option linter.unusedVariables false
namespace Go.Proofs.YtmnojbkakgfinaaGreatDoor

/-- A list of limbs is told by its worth. -/
theorem tab_of {l : List Nat} (h : Ok W l) : l = tab W (dv W l) l.length := by
  apply List.ext_getElem?
  intro i
  by_cases hi : i < l.length
  · have hg := dv_get W0 l h i
    rw [List.getD_eq_getElem?_getD, List.getElem?_eq_getElem hi] at hg
    rw [List.getElem?_eq_getElem hi]
    simp only [Option.getD_some] at hg
    simp [tab, hi, hg]
  · rw [List.getElem?_eq_none (by omega), List.getElem?_eq_none (by rw [tab_length]; omega)]
theorem dv_take (l : List Nat) (h : Ok W l) (i : Nat) : dv W (l.take i) = dv W l % W ^ i ∧ dv W (l.drop i) = dv W l / W ^ i := by
  by_cases hi : i ≤ l.length
  · have h1 := dv_append (b := W) (l.take i) (l.drop i)
    rw [List.take_append_drop, List.length_take, Nat.min_eq_left hi] at h1
    have h2 : dv W (l.take i) < W ^ i := by
      have := dv_lt (l.take i) (fun d hd => h d (List.mem_of_mem_take hd))
      rwa [List.length_take, Nat.min_eq_left hi] at this
    have hp := Nat.pow_pos (n := i) W0
    constructor
    · rw [h1, Nat.add_mul_mod_self_left, Nat.mod_eq_of_lt h2]
    · rw [h1, Nat.add_mul_div_left _ _ hp, Nat.div_eq_of_lt h2, Nat.zero_add]
  · have h1 : dv W l < W ^ i := Nat.lt_of_lt_of_le (dv_lt l h) (Nat.pow_le_pow_right W0 (by omega))
    rw [List.take_of_length_le (by omega), List.drop_eq_nil_of_le (by omega), Nat.mod_eq_of_lt h1, Nat.div_eq_of_lt h1]
    exact ⟨rfl, rfl⟩
theorem rowL_tab {P bi i m : Nat} {a : List Nat} (ha : Ok W a) (hP : P < W ^ (a.length + i)) (hm : i + a.length + 1 ≤ m) (hb : bi < W) :
    rowL (tab W P m) i (rowT (tab W P m) a i bi) (a.length + 1) = tab W (P + W ^ i * (vl a * bi)) m := by
  have okP := ok_tab W0 P m
  have hPm : P < W ^ m := Nat.lt_of_lt_of_le hP (Nat.pow_le_pow_right W0 (by omega))
  have dP : dv W (tab W P m) = P := (dv_tab P m).trans (Nat.mod_eq_of_lt hPm)
  have hA := dv_lt a ha
  have hi := Nat.pow_pos (n := i) W0
  have hPi : P / W ^ i < W ^ a.length := by
    rw [Nat.div_lt_iff_lt_mul hi, ← Nat.pow_add]; exact hP
  have okd : Ok W ((tab W P m).drop i) := fun d hd => okP d (List.mem_of_mem_drop hd)
  have hT : rowT (tab W P m) a i bi = P / W ^ i + vl a * bi := by
    unfold rowT
    rw [(dv_take _ okd _).1, (dv_take _ okP _).2, dP, Nat.mod_eq_of_lt hPi]
  rw [hT]
  have hTl : P / W ^ i + vl a * bi < W ^ (a.length + 1) := by
    have h1 : vl a * bi ≤ (W ^ a.length - 1) * (W - 1) := Nat.mul_le_mul (by have : vl a < W ^ a.length := hA; omega) (by omega)
    have hq := Nat.pow_pos (n := a.length) W0
    rw [Nat.pow_succ]
    clear hT dP hPm okd
    generalize P / W ^ i = Z at *
    generalize W ^ a.length = Q at *
    obtain ⟨q, rfl⟩ : ∃ q, Q = q + 1 := ⟨Q - 1, by omega⟩
    obtain ⟨w, hw⟩ : ∃ w, W = w + 1 := ⟨W - 1, by have := W0; omega⟩
    rw [hw] at h1 ⊢
    simp only [Nat.add_sub_cancel] at h1
    rw [Nat.add_mul, Nat.mul_add, Nat.mul_one, Nat.one_mul]
    omega
  have hd0 : P / W ^ (i + (a.length + 1)) = 0 := Nat.div_eq_of_lt (Nat.lt_of_lt_of_le hP (Nat.pow_le_pow_right W0 (by omega)))
  generalize hTT : P / W ^ i + vl a * bi = T at *
  have okR : Ok W (rowL (tab W P m) i T (a.length + 1)) := by
    intro d hd
    unfold rowL at hd
    rcases List.mem_append.1 hd with hd | hd
    · exact okP d (List.mem_of_mem_take hd)
    · rcases List.mem_append.1 hd with hd | hd
      · exact ok_tab W0 _ _ d hd
      · exact okP d (List.mem_of_mem_drop hd)
  have hlen : (rowL (tab W P m) i T (a.length + 1)).length = m := by rw [rowL_len (by rw [tab_length]; omega), tab_length]
  have hdv : dv W (rowL (tab W P m) i T (a.length + 1)) = P + W ^ i * (vl a * bi) := by
    unfold rowL
    rw [dv_append, dv_append, (dv_take _ okP _).1, (dv_take _ okP _).2, dP, dv_tab, tab_length, List.length_take, tab_length, Nat.min_eq_left (by omega), hd0, Nat.mul_zero, Nat.add_zero, Nat.mod_eq_of_lt hTl, ← hTT, Nat.mul_add, ← Nat.add_assoc, Nat.mod_add_div]
  have := tab_of okR
  rw [hdv, hlen] at this
  exact this
end Go.Proofs.YtmnojbkakgfinaaGreatDoor
end

/- The reference's product, digit by digit: plain laws. No program stands here. -/
section
open Go PG Go.Proofs
set_option maxRecDepth 100000
set_option linter.unusedSimpArgs false
set_option linter.unusedVariables false
namespace Go.Proofs.YtmnojbkakgfinaaGreatDoor

theorem row_stepG {b Y A n i : Nat} (hb : 2 ≤ b) (hn : n < b) :
    (Y % b ^ i + A % b ^ i * n) / b ^ i < b ∧
    ((Y % b ^ i + A % b ^ i * n) / b ^ i + Y / b ^ i % b + A / b ^ i % b * n) % b = (Y + A * n) / b ^ i % b ∧
    ((Y % b ^ i + A % b ^ i * n) / b ^ i + Y / b ^ i % b + A / b ^ i % b * n) / b = (Y % b ^ (i + 1) + A % b ^ (i + 1) * n) / b ^ (i + 1) ∧
    (Y + A * n) / b ^ i = Y / b ^ i + A / b ^ i * n + (Y % b ^ i + A % b ^ i * n) / b ^ i := by
  have hP := Nat.pow_pos (n := i) (show 0 < b by omega)
  have y1 := Nat.mod_lt Y hP
  have a1 := Nat.mod_lt A hP
  have ey := Nat.mod_add_div Y (b ^ i)
  have ea := Nat.mod_add_div A (b ^ i)
  have ey2 : Y % b ^ (i + 1) = Y % b ^ i + b ^ i * (Y / b ^ i % b) := by rw [Nat.pow_succ, Nat.mod_mul]
  have ea2 : A % b ^ (i + 1) = A % b ^ i + b ^ i * (A / b ^ i % b) := by rw [Nat.pow_succ, Nat.mod_mul]
  rw [ey2, ea2]
  generalize hP2 : b ^ i = P at *
  generalize Y % P = yl at *
  generalize A % P = al at *
  generalize hyh : Y / P = yh at *
  generalize hah : A / P = ah at *
  have e : Y + A * n = (yl + al * n) + P * (yh + ah * n) := by
    rw [← ey, ← ea, Nat.add_mul, Nat.mul_add, Nat.mul_assoc]; omega
  refine ⟨?_, ?_, ?_, ?_⟩
  · rw [Nat.div_lt_iff_lt_mul hP]
    have h1 : al * n ≤ (P - 1) * (b - 1) := Nat.mul_le_mul (by omega) (by omega)
    have h2 : (P - 1) * (b - 1) + (P - 1) + (P - 1) + (b - 1) + 1 = P * b + (P - 1) := by
      obtain ⟨p, rfl⟩ : ∃ p, P = p + 1 := ⟨P - 1, by omega⟩
      obtain ⟨w, hw⟩ : ∃ w, b = w + 1 := ⟨b - 1, by omega⟩
      rw [hw]
      simp only [Nat.add_sub_cancel, Nat.add_mul, Nat.mul_add, Nat.mul_one, Nat.one_mul]
      omega
    rw [Nat.mul_comm b P]
    omega
  · rw [e, Nat.add_mul_div_left _ _ hP]
    generalize (yl + al * n) / P = c
    simp [Nat.add_mod, Nat.mul_mod, Nat.add_assoc]
  · have e : yl + P * (yh % b) + (al + P * (ah % b)) * n = (yl + al * n) + P * (yh % b + ah % b * n) := by
      rw [Nat.add_mul, Nat.mul_add, Nat.mul_assoc]; omega
    rw [e, Nat.pow_succ, hP2, ← Nat.div_div_eq_div_mul, Nat.add_mul_div_left _ _ hP, Nat.add_assoc]
  · rw [e, Nat.add_mul_div_left _ _ hP, Nat.add_comm]

/-- Some digits of T, the others of P. -/
def mixL (b T P n m : Nat) : List Nat := (List.range m).map fun j => (if j < n then T else P) / b ^ j % b
theorem mixL_length (b T P n m : Nat) : (mixL b T P n m).length = m := by simp [mixL]
theorem mixL_get {b T P n m : Nat} (h : n < m) : (mixL b T P n m)[n]? = some (P / b ^ n % b) := by
  simp [mixL, h]
theorem mixL_set {b T P n m : Nat} (h : n < m) : (mixL b T P n m).set n (T / b ^ n % b) = mixL b T P (n + 1) m := by
  apply List.ext_getElem?
  intro j
  rw [List.getElem?_set]
  by_cases hj : n = j
  · subst hj
    simp [mixL, h]
  · rw [if_neg hj]
    by_cases hjm : j < m
    · simp only [mixL, List.getElem?_map, List.getElem?_range hjm, Option.map_some]
      by_cases h2 : j < n
      · rw [if_pos h2, if_pos (by omega)]
      · rw [if_neg h2, if_neg (by omega)]
    · simp [mixL, hjm]
theorem mixL_start {b P i m X : Nat} (hb : 2 ≤ b) : mixL b (P + b ^ i * X) P i m = tab b P m := by
  apply List.ext_getElem?
  intro j
  by_cases hjm : j < m
  · simp only [mixL, tab, List.getElem?_map, List.getElem?_range hjm, Option.map_some, Option.some.injEq]
    by_cases h2 : j < i
    · rw [if_pos h2, show b ^ i = b ^ j * (b ^ (i - j - 1) * b) by rw [← Nat.pow_succ, ← Nat.pow_add]; congr 1; omega, Nat.mul_assoc, Nat.add_mul_div_left _ _ (Nat.pow_pos (by omega)), Nat.mul_right_comm, Nat.add_mul_mod_self_right]
    · rw [if_neg h2]
  · simp [mixL, tab, hjm]
theorem mixL_end {b T P n m : Nat} (hb : 2 ≤ b) (h : T / b ^ n = P / b ^ n) : mixL b T P n m = tab b T m := by
  apply List.ext_getElem?
  intro j
  by_cases hjm : j < m
  · simp only [mixL, tab, List.getElem?_map, List.getElem?_range hjm, Option.map_some, Option.some.injEq]
    by_cases h2 : j < n
    · rw [if_pos h2]
    · rw [if_neg h2, show b ^ j = b ^ n * b ^ (j - n) by rw [← Nat.pow_add]; congr 1; omega, ← Nat.div_div_eq_div_mul, ← Nat.div_div_eq_div_mul, h]
  · simp [mixL, tab, hjm]

/-- The step from digit to digit: P is what stands there, a product with the digit n is added from the place i on. -/
theorem mix_step {b A n i k P : Nat} (hb : 2 ≤ b) (hn : n < b) :
    (P / b ^ i % b ^ k + A % b ^ k * n) / b ^ k < b ∧
    (P / b ^ (i + k) % b + (P / b ^ i % b ^ k + A % b ^ k * n) / b ^ k + n * (A / b ^ k % b)) % b = (P + b ^ i * (A * n)) / b ^ (i + k) % b ∧
    (P / b ^ (i + k) % b + (P / b ^ i % b ^ k + A % b ^ k * n) / b ^ k + n * (A / b ^ k % b)) / b = (P / b ^ i % b ^ (k + 1) + A % b ^ (k + 1) * n) / b ^ (k + 1) ∧
    (P + b ^ i * (A * n)) / b ^ (i + k) = P / b ^ (i + k) + A / b ^ k * n + (P / b ^ i % b ^ k + A % b ^ k * n) / b ^ k := by
  obtain ⟨h1, h2, h3, h4⟩ := row_stepG (b := b) (Y := P / b ^ i) (A := A) (n := n) (i := k) hb hn
  have hi := Nat.pow_pos (n := i) (show 0 < b by omega)
  have e1 : P / b ^ (i + k) = P / b ^ i / b ^ k := by rw [Nat.pow_add, Nat.div_div_eq_div_mul]
  have e2 : (P + b ^ i * (A * n)) / b ^ (i + k) = (P / b ^ i + A * n) / b ^ k := by
    rw [Nat.pow_add, ← Nat.div_div_eq_div_mul, Nat.add_mul_div_left _ _ hi]
  rw [e1, e2]
  refine ⟨h1, ?_, ?_, h4⟩
  · rw [← h2, Nat.mul_comm n]
    congr 1
    omega
  · rw [← h3, Nat.mul_comm n]
    congr 1
    omega
end Go.Proofs.YtmnojbkakgfinaaGreatDoor
end

/- The reference's product (planimeterref02.Mul). -/
section
open Go PG Go.Proofs
set_option maxRecDepth 100000
set_option linter.unusedSimpArgs false
set_option linter.unusedVariables false
namespace Go.Proofs.YtmnojbkakgfinaaGreatDoor
attribute [local go_sem] Lay2 Lay3 Lay4 Lay5 Lay6 Lay7 Lay8 Lay9 Lay10 Lay11 Lay12 Lay13 Lay14 Lay15 Lay16 Lay17 Lay18 Lay19 Lay21 Lay23 Lay24 Lay25 Lay26 Lay27 Lay28 Lay31 Lay32 Lay33 Lay40 Lay43 Lay44 Lay49 Lay50 Lay57 Lay58 Lay61 Lay68 Lay69 Lay72 Lay77 Lay125 Lay133 Lay134 Lay150 Lay167 Lay168 Lay169 Lay170 Lay180 Lay181 Lay185 Lay186 Lay189 Lay205 Lay208 Lay223 Lay227 Lay228 Lay231 Lay232 Lay233 Lay234 Lay235 Lay236 Lay237 Lay238 Lay240 Lay241 Lay242 Lay243 Lay244 Lay245 Lay246 Lay247 Lay249 Lay250 qexec_seq qexec_skip qexec_exit qexec_ret qexec_block qexec_loop qexec_range qexec_cond qexec_region qexec_drawn qops_nil qops_none qops_some put_some put_none pblk_exit pblk_other newDsts_nil inlDsts_nil isInl sget_cons sget_nil qval_some qbool_some qgs_bool qgs_und qfree_some qgrd_true qgrd_false qif_true qif_false qval_ite qval_itn qand_true map_ite map_some' map_none' qdo_move qdo_assign qdo_binOp qdo_pick qdo_unOp qdo_convert qdo_extract qdo_field qdo_fieldAddr qdo_alloc qdo_box qdo_build qdo_buildSlice qdo_load qdo_store qdo_nilCheck qdo_makeFunc qdo_makeSlice qdo_slice qdo_indexAddr qdo_call qcont_val qcont_new qcont_st qcont_app0 qcont_app qcont_inl qcont_call njSV_val njSV_nil njSV_row njSV_ptr njSV_sub binV_val binV_nil binV_nn binV_ptr bin_np bin_nnp nilCmp bin_add bin_sub bin_mul bin_quo bin_rem bin_and bin_or bin_xor bin_andNot bin_eql bin_neq bin_lss bin_leq bin_gtr bin_geq bin_shl bin_shr bin_seql bin_sneq bin_sadd bin_beql bin_aeql bin_aneq eqAnd_some eqCells_nil eqCells_cons fieldTypes isStruct eqCell bin_bneq un_not un_neg nj_ite Nat.beq stepA stepR isNew opSV constSV RV.sv allSome E_mu E_own qkeyIn_none qkeyIn_some qkeyAt_none qkeyAt_some Bool.or_false Bool.false_or Bool.or_true Bool.true_or cst setB res resSV pstart startL killL kill1 eraL frzL svPV rvPV rvInt rvSlice rvBytes frzOf close closeL pconv pbuiltin pmax2 partPV setCells fillPV zrow bound newSV PV.cells Bk.cells Bk.with SV.key pres presL_nil presL_tmp presL_cell presC2_some cellPV_ptr presC List.toList_toArray List.size_toArray List.getElem?_drop Nat.mul_one Int.toNat_natCast Nat.not_lt_zero Nat.lt_irrefl decide_true decide_false Nat.not_lt Option.some.injEq PV.lst.injEq PV.int.injEq PV.bool.injEq PV.tuple.injEq List.cons.injEq Option.map_some Option.map_none Option.bind_some Option.toList List.map_cons List.map_nil List.nil_append List.cons_append List.append_nil List.zip_cons_cons List.zip_nil_left List.zip_nil_right List.getElem?_cons_zero List.getElem?_cons_succ List.drop_zero List.drop_succ_cons List.take_succ_cons List.take_zero List.set_cons_zero List.set_cons_succ List.length_cons List.length_nil List.length_set List.replicate_one List.replicate_zero bne_self_eq_false beq_self_eq_true Nat.zero_add Nat.add_zero Nat.zero_mul Bool.false_eq_true Bool.true_eq_false Bool.not_true Bool.not_false and_true true_and false_and and_false or_false false_or or_true true_or not_true_eq_false not_false_eq_true ne_eq gt_iff_lt List.mem_cons List.not_mem_nil
attribute [local go_sem ↓] pseq_normal pseq_ret pseq_exit pblk_normal pblk_ret newDsts_cons inlDsts_cons gdst_zero gdst_succ retQ_normal retQ_ret qneed_nil qneed_cons retM_normal retM_ret endR_normal endR_ret endR_exit
attribute [local go_sem] Int.reduceToNat Int.reduceEq Int.reduceNe Int.reduceLT Int.reduceLE Int.reduceNeg Int.reduceAdd Nat.reduceEqDiff Nat.reduceAdd Nat.reduceSub Nat.reduceMul Nat.reduceLeDiff Nat.reduceLT
attribute [local go_sem ↓] reduceIte reduceCtorEq

theorem top_mul {Q b : Nat} (h1 : 0 < Q) (h2 : 0 < b) : (Q - 1) * (b - 1) + (Q - 1) + 1 = Q * b - b + 1 := by
  obtain ⟨q, rfl⟩ : ∃ q, Q = q + 1 := ⟨Q - 1, by omega⟩
  obtain ⟨w, rfl⟩ : ∃ w, b = w + 1 := ⟨b - 1, by omega⟩
  simp only [Nat.add_sub_cancel, Nat.add_mul, Nat.mul_add, Nat.mul_one, Nat.one_mul]
  omega
theorem c_2Mul (x y : Nat) (hx : (dg B x).length ≤ 1000000) (hy : (dg B y).length ≤ 1000000) : PC E 40 [VN x, VN y] (VN (x * y)) := by
  refine PC.of_body follows Tryz.func40 (by decide +kernel) rfl (by kernel_rfl) (Nat.le_of_ble_eq_true rfl) (walk ?_)
  have hxl : x < B ^ (dg B x).length := (dg_length_le B2 _ x).1 (Nat.le_refl _)
  have hyl : y < B ^ (dg B y).length := (dg_length_le B2 _ y).1 (Nat.le_refl _)
  have hdx : ∀ i, i < (dg B x).length → (V (dg B x))[i]? = some (.int .u32 ((x / B ^ i % B : Nat) : Int)) := fun i h => vn_at h
  have hdy : ∀ i, i < (dg B y).length → (V (dg B y))[i]? = some (.int .u32 ((y / B ^ i % B : Nat) : Int)) := fun i h => vn_at h
  simp only [VN, VL]
  generalize hn1 : (dg B x).length = n1 at *
  generalize hn2 : (dg B y).length = n2 at *
  generalize hDX : V (dg B x) = DX at *
  generalize hDY : V (dg B y) = DY at *
  have w1 : IntKind.wrap .i64 ((n1 : Int) + (n2 : Int)) = ((n1 + n2 : Nat) : Int) := by rw [wrap64 (by omega) (by omega)]; omega
  have w2 : IntKind.wrap .i64 (((n1 + n2 : Nat) : Int) + 1) = ((n1 + n2 + 1 : Nat) : Int) := by rw [wrap64 (by omega) (by omega)]; omega
  obtain ⟨m, hm⟩ : ∃ m, m = n1 + n2 + 1 := ⟨_, rfl⟩
  rw [← hm] at w2
  simp only [Tryz.f40, w1, w2, go_sem]
  refine qand_i (by omega) ?_
  simp only [Tryz.f40, w1, w2, go_sem]
  refine PLoop.intro (fun i : Nat => ⟨[(0, .val (.lst n1 DX)), (1, .val (.lst n2 DY)), (5, .row 16), (6, .val (.int .i64 i))],
    [(16, (.row 125 1 m (V (tab B (x % B ^ i * y) m)), false))]⟩) (fun i => i ≤ n1) (fun i => n1 - i) 0 (Nat.zero_le _) ?_ fun i hi => walk ?_
  · rw [Nat.pow_zero, Nat.mod_one, Nat.zero_mul]
    have e0 : V (tab B 0 m) = List.replicate m (.int .u32 0) := by
      unfold tab V
      simp [List.map_const', e32]
    rw [e0]
    simp [Wk, sget, killL, kill1, SV.key]
  have wi : IntKind.wrap .i64 ((i : Int) + 1) = ((i + 1 : Nat) : Int) := by rw [wrap64 (by omega) (by omega)]; omega
  have hPlt : x % B ^ i * y / B ^ i < B ^ n2 := by
    rw [Nat.div_lt_iff_lt_mul (vn_pow i), Nat.mul_comm (B ^ n2)]
    exact Nat.mul_lt_mul'' (Nat.mod_lt _ (vn_pow i)) hyl
  have hnext : x % B ^ i * y + B ^ i * (y * (x / B ^ i % B)) = x % B ^ (i + 1) * y := by
    rw [Nat.pow_succ, Nat.mod_mul, Nat.add_mul, Nat.mul_assoc, Nat.mul_comm y]
  have hend : i = n1 → x % B ^ i * y = x * y := fun h => by rw [h, Nat.mod_eq_of_lt hxl]
  have hdxi := hdx i
  have hd : x / B ^ i % B < B := Nat.mod_lt _ B0
  have hS : ∀ s', Wk s' (⟨[(0, .val (.lst n1 DX)), (1, .val (.lst n2 DY)), (5, .row 16), (6, .val (.int .i64 ((i + 1 : Nat) : Int)))],
    [(16, (.row 125 1 m (V (tab B (x % B ^ i * y + B ^ i * (y * (x / B ^ i % B))) m)), false))]⟩ : ES) → Wk s' (⟨[(0, .val (.lst n1 DX)), (1, .val (.lst n2 DY)), (5, .row 16), (6, .val (.int .i64 ((i + 1 : Nat) : Int)))],
    [(16, (.row 125 1 m (V (tab B (x % B ^ (i + 1) * y) m)), false))]⟩ : ES) := fun s' h => by rw [← hnext]; exact h
  generalize x % B ^ i * y = P at *
  generalize x / B ^ i % B = d at *
  simp only [Tryz.f40, go_sem]
  refine qif_d (fun h1 => ?_) (fun h1 => ?_)
  · have hdxi := hdxi (by omega)
    obtain ⟨c, hc⟩ : ∃ c : Nat → Nat, ∀ k, c k = (P / B ^ i % B ^ k + y % B ^ k * d) / B ^ k := ⟨_, fun _ => rfl⟩
    obtain ⟨T, hT⟩ : ∃ T, T = P + B ^ i * (y * d) := ⟨_, rfl⟩
    rw [← hT] at hS
    have hstart : mixL B T P (i + 0) m = tab B P m := by rw [hT, Nat.add_zero]; exact mixL_start B2
    have hc0 : c 0 = 0 := by rw [hc]; simp [Nat.mod_one]
    have hcend : ∀ k, n2 + 1 ≤ k → c k = 0 := fun k hk => by
      rw [hc]
      refine Nat.div_eq_of_lt ?_
      have h2 : B ^ (n2 + 1) ≤ B ^ k := Nat.pow_le_pow_right B0 hk
      have h3 : P / B ^ i % B ^ k ≤ P / B ^ i := Nat.mod_le _ _
      have h4 : y % B ^ k * d ≤ y * d := Nat.mul_le_mul_right _ (Nat.mod_le _ _)
      have h5 : y * d ≤ (B ^ n2 - 1) * (B - 1) := Nat.mul_le_mul (by omega) (by omega)
      have h6 := top_mul (Q := B ^ n2) (b := B) (vn_pow n2) B0
      have h7 : B ^ (n2 + 1) = B ^ n2 * B := Nat.pow_succ ..
      have h8 := vn_pow n2
      have h9 : B ≤ B ^ n2 * B := Nat.le_mul_of_pos_left _ h8
      have h10 := B2
      omega
    have hdone : ∀ k, k = n2 ∨ n2 < k → c k = 0 → mixL B T P (i + k) m = tab B T m := fun k hk h0 => by
      refine mixL_end B2 ?_
      obtain ⟨-, -, -, h4⟩ := mix_step (b := B) (A := y) (n := d) (i := i) (k := k) (P := P) B2 hd
      rw [hT, h4, ← hc, h0, Nat.div_eq_of_lt (Nat.lt_of_lt_of_le hyl (Nat.pow_le_pow_right B0 (by omega))), Nat.zero_mul]
      rfl
    simp only [Tryz.f40, go_sem]
    refine PLoop.intro (fun k : Nat => ⟨[(0, .val (.lst n1 DX)), (1, .val (.lst n2 DY)), (5, .row 16), (6, .val (.int .i64 i)), (7, .val (.int .u32 (c k))), (8, .val (.int .i64 k))],
      [(16, (.row 125 1 m (V (mixL B T P (i + k) m)), false))]⟩) (fun k => k ≤ n2 + 1) (fun k => n2 + 1 - k) 0 (Nat.zero_le _) ?_ fun k hk => walk ?_
    · rw [hstart, hc0]
      simp [Wk, sget, killL, kill1, SV.key]
    have wk : IntKind.wrap .i64 ((k : Int) + 1) = ((k + 1 : Nat) : Int) := by rw [wrap64 (by omega) (by omega)]; omega
    have wik : IntKind.wrap .i64 ((i : Int) + (k : Int)) = ((i + k : Nat) : Int) := by rw [wrap64 (by omega) (by omega)]; omega
    obtain ⟨m1, m2, m3, -⟩ := mix_step (b := B) (A := y) (n := d) (i := i) (k := k) (P := P) B2 hd
    rw [← hT] at m2
    rw [← hc] at m1 m2 m3
    rw [← hc] at m3
    have hcend := hcend k
    have hdone := hdone k
    have hget : i + k < m → (V (mixL B T P (i + k) m))[i + k]? = some (.int .u32 ((P / B ^ (i + k) % B : Nat) : Int)) := fun h => by
      rw [V_get, mixL_get h]; rfl
    have hset : i + k < m → (V (mixL B T P (i + k) m)).set (i + k) (.int .u32 ((T / B ^ (i + k) % B : Nat) : Int)) = V (mixL B T P (i + (k + 1)) m) := fun h => by
      have := V_set (mixL B T P (i + k) m) (i + k) (T / B ^ (i + k) % B)
      rw [mixL_set h] at this
      exact this
    have hdyk := hdy k
    have hp : P / B ^ (i + k) % B < B := Nat.mod_lt _ B0
    have hyk : y / B ^ k % B < B := Nat.mod_lt _ B0
    have hyk0 : ¬ k < n2 → y / B ^ k % B = 0 := fun h => by
      rw [Nat.div_eq_of_lt (Nat.lt_of_lt_of_le hyl (Nat.pow_le_pow_right B0 (by omega))), Nat.zero_mod]
    generalize P / B ^ (i + k) % B = p at *
    generalize y / B ^ k % B = q at *
    generalize T / B ^ (i + k) % B = t at *
    generalize hck1 : c (k + 1) = c1 at *
    generalize hck : c k = ck at *
    have hB : (B : Nat) = 65536 := rfl
    have hdq : d * q ≤ 65535 * 65535 := Nat.mul_le_mul (by omega) (by omega)
    generalize hM : d * q = M at *
    have v1 : IntKind.wrap .u32 ((p : Int) + (ck : Int)) = ((p + ck : Nat) : Int) := by rw [show (p : Int) + (ck : Int) = ((p + ck : Nat) : Int) by omega]; exact wrap32 (by omega)
    have v2 : IntKind.wrap .u32 ((d : Int) * (q : Int)) = (M : Int) := by rw [← Int.natCast_mul, hM]; exact wrap32 (by omega)
    have v3 : IntKind.wrap .u32 (((p + ck : Nat) : Int) + (M : Int)) = ((p + ck + M : Nat) : Int) := by rw [show ((p + ck : Nat) : Int) + (M : Int) = ((p + ck + M : Nat) : Int) by omega]; exact wrap32 (by omega)
    have v4 : ((p + ck + M : Nat) : Int).tmod 65536 = (t : Int) := by rw [← m2]; exact n_tmod _ 65536
    have v5 : IntKind.wrap .u32 (((p + ck + M : Nat) : Int).tdiv 65536) = (c1 : Int) := by
      rw [show ((p + ck + M : Nat) : Int).tdiv 65536 = (((p + ck + M) / B : Nat) : Int) from n_tdiv _ 65536, m3]
      refine wrap32 ?_
      rw [← m3]
      show (p + ck + M) / 65536 < 4294967296
      omega
    have hlen : (V (mixL B T P (i + k) m)).length = m := by rw [V_length, mixL_length]
    simp only [Tryz.f40, go_sem]
    refine qif_d (fun h2 => ?_) (fun h2 => ?_)
    · have hg := hget (by omega)
      have hs := hset (by omega)
      have hyy := hdyk (by omega)
      simp only [Tryz.f40, wik, v1, go_sem]
      refine qand_i (by omega) ?_
      simp only [Tryz.f40, wik, v1, go_sem]
      refine qval_i (congrArg (Option.map _) hg) ?_
      simp only [Tryz.f40, wik, v1, v2, v3, go_sem]
      refine qif_dt (by omega) ?_
      simp only [Tryz.f40, wik, v1, v2, v3, go_sem]
      refine qand_i (by omega) ?_
      simp only [Tryz.f40, wik, v1, v2, v3, go_sem]
      refine qval_i (congrArg (Option.map _) hdxi) ?_
      simp only [Tryz.f40, wik, v1, v2, v3, go_sem]
      refine qand_i (by omega) ?_
      simp only [Tryz.f40, wik, v1, v2, v3, go_sem]
      refine qval_i (congrArg (Option.map _) hyy) ?_
      simp only [Tryz.f40, wik, v1, v2, v3, v4, v5, go_sem]
      refine qand_i (by omega) ?_
      simp only [Tryz.f40, wik, v1, v2, v3, v4, v5, wk, go_sem]
      refine qand_i (by rw [hlen]; omega) ?_
      simp only [Tryz.f40, wik, v1, v2, v3, v4, v5, wk, go_sem]
      refine ⟨k + 1, by omega, by omega, ?_⟩
      rw [hck1, ← hs]
      simp [Wk, sget, killL, kill1, SV.key, setCells]
    · simp only [Tryz.f40, go_sem]
      refine qif_d (fun h3 => ?_) (fun h3 => ?_)
      · have hk2 : k ≤ n2 := Nat.le_of_not_lt fun hh => by have := hcend (by omega); omega
        have hg := hget (by omega)
        have hs := hset (by omega)
        have hq0 : q = 0 := hyk0 (by omega)
        have hM0 : M = 0 := by rw [← hM, hq0, Nat.mul_zero]
        rw [hM0, Nat.add_zero] at v4 v5
        simp only [Tryz.f40, wik, v1, go_sem]
        refine qand_i (by omega) ?_
        simp only [Tryz.f40, wik, v1, go_sem]
        refine qval_i (congrArg (Option.map _) hg) ?_
        simp only [Tryz.f40, wik, v1, v4, v5, go_sem]
        refine qif_df (by omega) ?_
        simp only [Tryz.f40, wik, v1, v4, v5, go_sem]
        refine qand_i (by omega) ?_
        simp only [Tryz.f40, wik, v1, v4, v5, wk, go_sem]
        refine qand_i (by rw [hlen]; omega) ?_
        simp only [Tryz.f40, wik, v1, v4, v5, wk, go_sem]
        refine ⟨k + 1, by omega, by omega, ?_⟩
        rw [hck1, ← hs]
        simp [Wk, sget, killL, kill1, SV.key, setCells]
      · have hd := hdone (by omega) (by omega)
        rw [hd]
        simp only [Tryz.f40, wi, go_sem]
        refine ⟨i + 1, by omega, by omega, hS _ ?_⟩
        simp [Wk, sget, killL, kill1, SV.key]
  · have he := hend (by omega)
    have hPm : P < B ^ m := by
      rw [he, hm]
      refine Nat.lt_of_lt_of_le ?_ (Nat.pow_le_pow_right B0 (Nat.le_succ _))
      rw [Nat.pow_add]
      exact Nat.mul_lt_mul'' hxl hyl
    have kn := PC.at_vlist (n_Norm (tab B P m) (by rw [tab_length]; omega) (ok_tab B0 _ _)) (tab_length _ _ _) ((dv_tab _ _).trans (Nat.mod_eq_of_lt hPm))
    simp only [Tryz.f40, go_sem]
    refine qcall_i kn ?_
    rw [he]
    simp only [Tryz.f40, VN, VL, go_sem]
    try rfl
end Go.Proofs.YtmnojbkakgfinaaGreatDoor
end

/- Products: prod.product, prod.Mul, dyad.Mul. -/
section
open Go PG Go.Proofs
set_option maxRecDepth 100000
set_option linter.unusedSimpArgs false
set_option linter.unusedVariables false
namespace Go.Proofs.YtmnojbkakgfinaaGreatDoor
attribute [local go_sem] Lay2 Lay3 Lay4 Lay5 Lay6 Lay7 Lay8 Lay9 Lay10 Lay11 Lay12 Lay13 Lay14 Lay15 Lay16 Lay17 Lay18 Lay19 Lay21 Lay23 Lay24 Lay25 Lay26 Lay27 Lay28 Lay31 Lay32 Lay33 Lay40 Lay43 Lay44 Lay49 Lay50 Lay57 Lay58 Lay61 Lay68 Lay69 Lay72 Lay77 Lay125 Lay133 Lay134 Lay150 Lay167 Lay168 Lay169 Lay170 Lay180 Lay181 Lay185 Lay186 Lay189 Lay205 Lay208 Lay223 Lay227 Lay228 Lay231 Lay232 Lay233 Lay234 Lay235 Lay236 Lay237 Lay238 Lay240 Lay241 Lay242 Lay243 Lay244 Lay245 Lay246 Lay247 Lay249 Lay250 qexec_seq qexec_skip qexec_exit qexec_ret qexec_block qexec_loop qexec_range qexec_cond qexec_region qexec_drawn qops_nil qops_none qops_some put_some put_none pblk_exit pblk_other newDsts_nil inlDsts_nil isInl sget_cons sget_nil qval_some qbool_some qgs_bool qgs_und qfree_some qgrd_true qgrd_false qif_true qif_false qval_ite qval_itn qand_true map_ite map_some' map_none' qdo_move qdo_assign qdo_binOp qdo_pick qdo_unOp qdo_convert qdo_extract qdo_field qdo_fieldAddr qdo_alloc qdo_box qdo_build qdo_buildSlice qdo_load qdo_store qdo_nilCheck qdo_makeFunc qdo_makeSlice qdo_slice qdo_indexAddr qdo_call qcont_val qcont_new qcont_st qcont_app0 qcont_app qcont_inl qcont_call njSV_val njSV_nil njSV_row njSV_ptr njSV_sub binV_val binV_nil binV_nn binV_ptr bin_np bin_nnp nilCmp bin_add bin_sub bin_mul bin_quo bin_rem bin_and bin_or bin_xor bin_andNot bin_eql bin_neq bin_lss bin_leq bin_gtr bin_geq bin_shl bin_shr bin_seql bin_sneq bin_sadd bin_beql bin_aeql bin_aneq eqAnd_some eqCells_nil eqCells_cons fieldTypes isStruct eqCell bin_bneq un_not un_neg nj_ite Nat.beq stepA stepR isNew opSV constSV RV.sv allSome E_mu E_own qkeyIn_none qkeyIn_some qkeyAt_none qkeyAt_some Bool.or_false Bool.false_or Bool.or_true Bool.true_or cst setB res resSV pstart startL killL kill1 eraL frzL svPV rvPV rvInt rvSlice rvBytes frzOf close closeL pconv pbuiltin pmax2 partPV setCells fillPV zrow bound newSV PV.cells Bk.cells Bk.with SV.key pres presL_nil presL_tmp presL_cell presC2_some cellPV_ptr presC List.toList_toArray List.size_toArray List.getElem?_drop Nat.mul_one Int.toNat_natCast Nat.not_lt_zero Nat.lt_irrefl decide_true decide_false Nat.not_lt Option.some.injEq PV.lst.injEq PV.int.injEq PV.bool.injEq PV.tuple.injEq List.cons.injEq Option.map_some Option.map_none Option.bind_some Option.toList List.map_cons List.map_nil List.nil_append List.cons_append List.append_nil List.zip_cons_cons List.zip_nil_left List.zip_nil_right List.getElem?_cons_zero List.getElem?_cons_succ List.drop_zero List.drop_succ_cons List.take_succ_cons List.take_zero List.set_cons_zero List.set_cons_succ List.length_cons List.length_nil List.length_set List.replicate_one List.replicate_zero bne_self_eq_false beq_self_eq_true Nat.zero_add Nat.add_zero Nat.zero_mul Bool.false_eq_true Bool.true_eq_false Bool.not_true Bool.not_false and_true true_and false_and and_false or_false false_or or_true true_or not_true_eq_false not_false_eq_true ne_eq gt_iff_lt List.mem_cons List.not_mem_nil
attribute [local go_sem ↓] pseq_normal pseq_ret pseq_exit pblk_normal pblk_ret newDsts_cons inlDsts_cons gdst_zero gdst_succ retQ_normal retQ_ret qneed_nil qneed_cons retM_normal retM_ret endR_normal endR_ret endR_exit
attribute [local go_sem] Int.reduceToNat Int.reduceEq Int.reduceNe Int.reduceLT Int.reduceLE Int.reduceNeg Int.reduceAdd Nat.reduceEqDiff Nat.reduceAdd Nat.reduceSub Nat.reduceMul Nat.reduceLeDiff Nat.reduceLT
attribute [local go_sem ↓] reduceIte reduceCtorEq

/-- The row behind so many steps, and a step's digit. -/
def pR (a b : List Nat) (i : Nat) : List PV := U (tab W (vl a * (vl b % W ^ i)) (a.length + b.length + 1))
def pD (b : List Nat) (i : Nat) : Nat := vl b / W ^ i % W
theorem pR_zero (a b : List Nat) : pR a b 0 = List.replicate (a.length + b.length + 1) (.int .u64 0) := by
  unfold pR
  rw [Nat.pow_zero, Nat.mod_one, Nat.mul_zero]
  have e0 : tab W 0 (a.length + b.length + 1) = List.replicate (a.length + b.length + 1) 0 := by
    unfold tab
    simp [List.map_const']
  rw [e0, U_replicate]
theorem pD_get {b : List Nat} (hb : Ok W b) (i : Nat) (hi : i < b.length) : (U b)[i]? = some (.int .u64 (pD b i : Int)) := by
  unfold pD
  rw [U_get, ← dv_get W0 _ hb i, List.getD_eq_getElem?_getD, List.getElem?_eq_getElem hi]; rfl
theorem pR_row {a b : List Nat} (ha : Ok W a) (hb : Ok W b) (la : a.length ≤ 100000) (lb : b.length ≤ 100000) (i : Nat) (hi : i < b.length) :
    PCM E 98 [.sub 0 i (a.length + b.length + 1 - i), .val (NL a), .val (.int .u64 (pD b i : Int))] [.row 23 1 (a.length + b.length + 1) (pR a b i)] (.val (.tuple [])) [.row 23 1 (a.length + b.length + 1) (pR a b (i + 1))] := by
  have hA : vl a < W ^ a.length := dv_lt a ha
  have hP : vl a * (vl b % W ^ i) < W ^ (a.length + i) := by
    rw [Nat.pow_add]
    exact Nat.mul_lt_mul'' hA (Nat.mod_lt _ (Nat.pow_pos W0))
  have hxW : vl b / W ^ i % W < W := Nat.mod_lt _ W0
  have hnext : vl a * (vl b % W ^ i) + W ^ i * (vl a * (vl b / W ^ i % W)) = vl a * (vl b % W ^ (i + 1)) := by
    rw [Nat.pow_succ, Nat.mod_mul, Nat.mul_add, Nat.mul_left_comm]
  have hrow := rowL_tab (m := a.length + b.length + 1) ha hP (by omega) hxW
  rw [hnext] at hrow
  have krow := c_row (tab W (vl a * (vl b % W ^ i)) (a.length + b.length + 1)) a i (vl b / W ^ i % W) (ok_tab W0 _ _) ha hxW (by rw [tab_length]; omega) (by rw [tab_length]; omega)
  rw [hrow] at krow
  simp only [tab_length] at krow
  exact krow
theorem pR_bare {a b : List Nat} (ha : Ok W a) (hb : Ok W b) (la : a.length ≤ 100000) (lb : b.length ≤ 100000) : PC E 53 [.lst (a.length + b.length + 1) (pR a b b.length)] (NN (vl a * vl b)) := by
  have hA : vl a < W ^ a.length := dv_lt a ha
  have hBB : vl b % W ^ b.length = vl b := Nat.mod_eq_of_lt (dv_lt b hb)
  have hP : vl a * vl b < W ^ (a.length + b.length + 1) := by
    refine Nat.lt_of_lt_of_le ?_ (Nat.pow_le_pow_right W0 (Nat.le_succ _))
    rw [Nat.pow_add]
    exact Nat.mul_lt_mul'' hA (dv_lt b hb)
  unfold pR
  rw [hBB]
  exact PC.at_list (n_Bare (tab W (vl a * vl b) (a.length + b.length + 1)) (by rw [tab_length]; omega) (ok_tab W0 _ _)) (tab_length _ _ _) ((dv_tab _ _).trans (Nat.mod_eq_of_lt hP))

theorem c_product (a b : List Nat) (ha : Ok W a) (hb : Ok W b) (la : a.length ≤ 100000) (lb : b.length ≤ 100000) : PC E 55 [NL a, NL b] (NN (vl a * vl b)) := by
  refine PC.of_body follows Tryz.func55 (by decide +kernel) rfl (by kernel_rfl) (Nat.le_of_ble_eq_true rfl) (walk ?_)
  have w1 : IntKind.wrap .i64 ((a.length : Int) + (b.length : Int)) = ((a.length + b.length : Nat) : Int) := by rw [wrap64 (by omega) (by omega)]; omega
  have w2 : IntKind.wrap .i64 (((a.length + b.length : Nat) : Int) + 1) = ((a.length + b.length + 1 : Nat) : Int) := by rw [wrap64 (by omega) (by omega)]; omega
  have r0 := pR_zero a b
  have rrow := pR_row ha hb la lb
  have rbare := pR_bare ha hb la lb
  have rget := pD_get hb
  simp only [NL, NN] at rrow rbare ⊢
  generalize pR a b = R at *
  generalize pD b = D at *
  generalize vl a * vl b = AB at *
  generalize hm : a.length + b.length + 1 = m at *
  simp only [Tryz.f55, w1, w2, go_sem]
  refine qand_i (by omega) ?_
  simp only [Tryz.f55, w1, w2, go_sem]
  refine PLoop.intro (fun i : Nat => ⟨[(0, .val (.lst a.length (U a))), (5, .row 14), (15, .val (.lst b.length (U b))), (16, .val (.int .i64 b.length)), (17, .val (.int .i64 i))],
    [(14, (.row 23 1 m (R i), false))]⟩) (fun i => i ≤ b.length) (fun i => b.length - i) 0 (Nat.zero_le _) ?_ fun i hi => walk ?_
  · rw [r0]
    simp [Wk, sget, killL, kill1, SV.key]
  have wi : IntKind.wrap .i64 ((i : Int) + 1) = ((i + 1 : Nat) : Int) := by rw [wrap64 (by omega) (by omega)]; omega
  simp only [Tryz.f55, go_sem]
  refine qif_d (fun h1 => ?_) (fun h1 => ?_)
  · have kr := rrow i (by omega)
    simp only [Tryz.f55, go_sem]
    refine qand_i (by first | omega | (simp [V_length, U_length, tab_length, maxLen]; done) | (simp [V_length, U_length, tab_length, maxLen]; omega) | (refine ⟨?_, ?_⟩ <;> first | omega | (simp [V_length, U_length, tab_length, maxLen]; done) | (simp [V_length, U_length, tab_length, maxLen]; omega))) ?_; simp only [Tryz.f55, go_sem]
    refine qval_i (congrArg (Option.map _) (rget i (by omega))) ?_
    simp only [Tryz.f55, go_sem]
    refine qand_i (by omega) ?_
    simp only [Tryz.f55, go_sem]
    refine qinl_i [14] kr rfl (by decide) rfl (fun j bb k hb hk => ?_) (fun d h => by cases h; decide) (fun h => by cases h) ?_
    · match j, hb, hk with
      | 0, hb, hk =>
        simp only [List.getElem?_cons_zero, Option.some.injEq] at hb hk
        subst hb hk
        simp [sget]
      | j + 1, hb, hk => simp at hb
    simp only [Tryz.f55, wi, go_sem]
    simp only [ren, SV.key, eraO, eraL]
    simp only [Tryz.f55, wi, go_sem]
    refine ⟨i + 1, by omega, by omega, ?_⟩
    simp [Wk, sget, killL, kill1, SV.key]
  · have hil : i = b.length := by omega
    subst hil
    simp only [Tryz.f55, go_sem]
    refine qcall_i rbare ?_
    simp only [Tryz.f55, go_sem]
    try rfl
end Go.Proofs.YtmnojbkakgfinaaGreatDoor
end

/- Products: prod.Mul, dyad.Mul, dyad.Of. -/
section
open Go PG Go.Proofs
set_option maxRecDepth 100000
set_option linter.unusedSimpArgs false
set_option linter.unusedVariables false
namespace Go.Proofs.YtmnojbkakgfinaaGreatDoor
attribute [local go_sem] Lay2 Lay3 Lay4 Lay5 Lay6 Lay7 Lay8 Lay9 Lay10 Lay11 Lay12 Lay13 Lay14 Lay15 Lay16 Lay17 Lay18 Lay19 Lay21 Lay23 Lay24 Lay25 Lay26 Lay27 Lay28 Lay31 Lay32 Lay33 Lay40 Lay43 Lay44 Lay49 Lay50 Lay57 Lay58 Lay61 Lay68 Lay69 Lay72 Lay77 Lay125 Lay133 Lay134 Lay150 Lay167 Lay168 Lay169 Lay170 Lay180 Lay181 Lay185 Lay186 Lay189 Lay205 Lay208 Lay223 Lay227 Lay228 Lay231 Lay232 Lay233 Lay234 Lay235 Lay236 Lay237 Lay238 Lay240 Lay241 Lay242 Lay243 Lay244 Lay245 Lay246 Lay247 Lay249 Lay250 qexec_seq qexec_skip qexec_exit qexec_ret qexec_block qexec_loop qexec_range qexec_cond qexec_region qexec_drawn qops_nil qops_none qops_some put_some put_none pblk_exit pblk_other newDsts_nil inlDsts_nil isInl sget_cons sget_nil qval_some qbool_some qgs_bool qgs_und qfree_some qgrd_true qgrd_false qif_true qif_false qval_ite qval_itn qand_true map_ite map_some' map_none' qdo_move qdo_assign qdo_binOp qdo_pick qdo_unOp qdo_convert qdo_extract qdo_field qdo_fieldAddr qdo_alloc qdo_box qdo_build qdo_buildSlice qdo_load qdo_store qdo_nilCheck qdo_makeFunc qdo_makeSlice qdo_slice qdo_indexAddr qdo_call qcont_val qcont_new qcont_st qcont_app0 qcont_app qcont_inl qcont_call njSV_val njSV_nil njSV_row njSV_ptr njSV_sub binV_val binV_nil binV_nn binV_ptr bin_np bin_nnp nilCmp bin_add bin_sub bin_mul bin_quo bin_rem bin_and bin_or bin_xor bin_andNot bin_eql bin_neq bin_lss bin_leq bin_gtr bin_geq bin_shl bin_shr bin_seql bin_sneq bin_sadd bin_beql bin_aeql bin_aneq eqAnd_some eqCells_nil eqCells_cons fieldTypes isStruct eqCell bin_bneq un_not un_neg nj_ite Nat.beq stepA stepR isNew opSV constSV RV.sv allSome E_mu E_own qkeyIn_none qkeyIn_some qkeyAt_none qkeyAt_some Bool.or_false Bool.false_or Bool.or_true Bool.true_or cst setB res resSV pstart startL killL kill1 eraL frzL svPV rvPV rvInt rvSlice rvBytes frzOf close closeL pconv pbuiltin pmax2 partPV setCells fillPV zrow bound newSV PV.cells Bk.cells Bk.with SV.key pres presL_nil presL_tmp presL_cell presC2_some cellPV_ptr presC List.toList_toArray List.size_toArray List.getElem?_drop Nat.mul_one Int.toNat_natCast Nat.not_lt_zero Nat.lt_irrefl decide_true decide_false Nat.not_lt Option.some.injEq PV.lst.injEq PV.int.injEq PV.bool.injEq PV.tuple.injEq List.cons.injEq Option.map_some Option.map_none Option.bind_some Option.toList List.map_cons List.map_nil List.nil_append List.cons_append List.append_nil List.zip_cons_cons List.zip_nil_left List.zip_nil_right List.getElem?_cons_zero List.getElem?_cons_succ List.drop_zero List.drop_succ_cons List.take_succ_cons List.take_zero List.set_cons_zero List.set_cons_succ List.length_cons List.length_nil List.length_set List.replicate_one List.replicate_zero bne_self_eq_false beq_self_eq_true Nat.zero_add Nat.add_zero Nat.zero_mul Bool.false_eq_true Bool.true_eq_false Bool.not_true Bool.not_false and_true true_and false_and and_false or_false false_or or_true true_or not_true_eq_false not_false_eq_true ne_eq gt_iff_lt List.mem_cons List.not_mem_nil
attribute [local go_sem ↓] pseq_normal pseq_ret pseq_exit pblk_normal pblk_ret newDsts_cons inlDsts_cons gdst_zero gdst_succ retQ_normal retQ_ret qneed_nil qneed_cons retM_normal retM_ret endR_normal endR_ret endR_exit
attribute [local go_sem] Int.reduceToNat Int.reduceEq Int.reduceNe Int.reduceLT Int.reduceLE Int.reduceNeg Int.reduceAdd Nat.reduceEqDiff Nat.reduceAdd Nat.reduceSub Nat.reduceMul Nat.reduceLeDiff Nat.reduceLT
attribute [local go_sem ↓] reduceIte reduceCtorEq

theorem bitLen_mul_le (x y : Nat) : bitLen (x * y) ≤ bitLen x + bitLen y := by
  rw [bitLen_le, Nat.pow_add]
  exact Nat.mul_lt_mul'' ((bitLen_le x _).1 (Nat.le_refl _)) ((bitLen_le y _).1 (Nat.le_refl _))
/-- What prod.Mul hands back. -/
def pmV (x y : Nat) : PV := if x = 0 ∨ y = 0 then .tuple [.lst 0 [], .int .i64 0] else if bitLen x + bitLen y ≤ 65536 then .tuple [NN (x * y), .int .i64 0] else .tuple [.lst 0 [], .int .i64 2]
theorem k_prodMul {p q : PV} {x y : Nat} (h : Num p x) (h' : Num q y) (bx : bitLen x ≤ 1000000) (by' : bitLen y ≤ 1000000) : PC E 21 [p, q] (pmV x y) := by
  have k1 := k_Bare h
  have k2 := k_Bare h'
  have k3 := k_Bits (num_bits bx)
  have k4 := k_Bits (num_bits by')
  have lx := w_of_bits (x := x) (n := 15625) (by omega)
  have ly := w_of_bits (x := y) (n := 15625) (by omega)
  have k5 := c_product (dg W x) (dg W y) (ok_dg W2 x) (ok_dg W2 y) (by omega) (by omega)
  rw [show vl (dg W x) = x from dv_dg W2 x, show vl (dg W y) = y from dv_dg W2 y] at k5
  have w1 : IntKind.wrap .i64 ((bitLen x : Int) + (bitLen y : Int)) = ((bitLen x + bitLen y : Nat) : Int) := by rw [wrap64 (by omega) (by omega)]; omega
  obtain ⟨l, rfl, -⟩ := h
  obtain ⟨l', rfl, -⟩ := h'
  have d1 := dg_nil (x := x)
  have d2 := dg_nil (x := y)
  refine PC.of_body follows Tryz.func21 (by decide +kernel) rfl (by kernel_rfl) (Nat.le_of_ble_eq_true rfl) (walk ?_)
  unfold pmV
  by_cases hx : x = 0
  · rw [if_pos (.inl hx)]
    have e1 : dg W x = [] := by rw [hx]; rfl
    simp only [NN, NL, e1] at k1 k2 k3 k4 k5 ⊢
    simp only [Tryz.f21, go_sem]
    refine qcall_i (k1) ?_; simp only [Tryz.f21, go_sem]
    refine qcall_i (k2) ?_; simp only [Tryz.f21, go_sem]
    try (refine qif_dt (by simp) ?_)
    simp only [Tryz.f21, go_sem]
    try rfl
  by_cases hy : y = 0
  · rw [if_pos (.inr hy)]
    have e1 : dg W y = [] := by rw [hy]; rfl
    simp only [NN, NL, e1] at k1 k2 k3 k4 k5 ⊢
    simp only [Tryz.f21, go_sem]
    refine qcall_i (k1) ?_; simp only [Tryz.f21, go_sem]
    refine qcall_i (k2) ?_; simp only [Tryz.f21, go_sem]
    refine qif_df (fun h => hx (d1 (by omega))) ?_
    simp only [Tryz.f21, go_sem]
    try (refine qif_dt (by simp) ?_)
    simp only [Tryz.f21, go_sem]
    try rfl
  rw [if_neg (by omega)]
  simp only [NN, NL] at k1 k2 k3 k4 k5 ⊢
  simp only [Tryz.f21, go_sem]
  refine qcall_i (k1) ?_; simp only [Tryz.f21, go_sem]
  refine qcall_i (k2) ?_; simp only [Tryz.f21, go_sem]
  refine qif_df (fun h => hx (d1 (by omega))) ?_
  simp only [Tryz.f21, go_sem]
  refine qif_df (fun h => hy (d2 (by omega))) ?_
  simp only [Tryz.f21, w1, go_sem]
  refine qcall_i (k3) ?_; simp only [Tryz.f21, w1, go_sem]
  refine qcall_i (k4) ?_; simp only [Tryz.f21, w1, go_sem]
  refine qif_d (fun h => ?_) (fun h => ?_)
  · rw [if_neg (by omega)]
    simp only [Tryz.f21, go_sem]
    try rfl
  · rw [if_pos (by omega)]
    simp only [Tryz.f21, go_sem]
    refine qcall_i (k5) ?_; simp only [Tryz.f21, go_sem]
    try rfl

/-- May they be multiplied? -/
def mulE (a b : Dy) : Prop := a.fits ∧ b.fits ∧ (a.m ≠ 0 → b.m ≠ 0 → bitLen a.m + bitLen b.m ≤ 65536) ∧ (mulS a b).fits
instance (a b : Dy) : Decidable (mulE a b) := inferInstanceAs (Decidable (_ ∧ _))
def mulV (a b : Dy) : PV := if mulE a b then .tuple [(mulS a b).pv, .int .i64 0] else .tuple [Dy.zero.pv, .int .i64 2]
theorem mk_mul {a b : Dy} (oa : a.ok) (ob : b.ok) (fa : a.fits) (fb : b.fits) : mkD (a.s != b.s) (a.m * b.m) (a.e + b.e) = mulS a b := by
  unfold mulS
  by_cases h : a.m = 0 ∨ b.m = 0
  · rw [if_pos h]
    have : a.m * b.m = 0 := by rcases h with h | h <;> rw [h] <;> simp
    rw [this]; rfl
  · rw [if_neg h]
    have := fa.1; have := fa.2; have := fb.1; have := fb.2
    exact mkD_odd (odd_mul (oa.odd fun h0 => h (.inl h0)) (ob.odd fun h0 => h (.inr h0))) (by omega) (by omega)
/-- How long sums and products are. -/
theorem norm_bits (z k : Int) : bitLen (norm z k).m ≤ bitLen z.natAbs := mkD_bits _ _ _
theorem addS_bits {a b : Dy} (oa : a.ok) (ob : b.ok) (h : addE a b) : bitLen (addS a b).m ≤ max 65537 (max (bitLen a.m) (bitLen b.m)) := by
  obtain ⟨fa, fb, hs, -⟩ := h
  by_cases za : a.m = 0
  · rw [addS_zl ob fa fb za]; omega
  by_cases zb : b.m = 0
  · rw [addS_zr oa fa fb zb]; omega
  have hs := hs za zb
  have ta := top_of za
  have tb := top_of zb
  have pa := bitLen_pos za
  have pb := bitLen_pos zb
  have h1 := natAbs_at' a (min a.e b.e)
  have h2 := natAbs_at' b (min a.e b.e)
  have s1 := bitLen_shl_le a.m (a.e - min a.e b.e).toNat
  have s2 := bitLen_shl_le b.m (b.e - min a.e b.e).toNat
  rw [← h1] at s1
  rw [← h2] at s2
  have s3 := bitLen_add (x := (a.at (min a.e b.e)).natAbs) (y := (b.at (min a.e b.e)).natAbs) (n := 65536) (by omega) (by omega)
  have s4 := norm_bits (a.at (min a.e b.e) + b.at (min a.e b.e)) (min a.e b.e)
  have s5 : bitLen (a.at (min a.e b.e) + b.at (min a.e b.e)).natAbs ≤ bitLen ((a.at (min a.e b.e)).natAbs + (b.at (min a.e b.e)).natAbs) := bitLen_mono (by omega)
  have : bitLen (addS a b).m ≤ bitLen (a.at (min a.e b.e) + b.at (min a.e b.e)).natAbs := s4
  omega
theorem mulS_bits (a b : Dy) : bitLen (mulS a b).m ≤ bitLen a.m + bitLen b.m := by
  unfold mulS
  split
  · exact Nat.zero_le _
  · exact bitLen_mul_le _ _
theorem RD.add {a b : Dy} (oa : a.ok) (ob : b.ok) (ba : bitLen a.m ≤ 900000) (bb : bitLen b.m ≤ 900000) (h : addE a b) : RD (addS a b).pv (addS a b) :=
  RD.fit (addS_ok a b) (by have := addS_bits oa ob h; omega) h.2.2.2
theorem RD.mul {a b : Dy} (oa : a.ok) (ob : b.ok) (h : mulE a b) : RD (mulS a b).pv (mulS a b) :=
  RD.fit (mulS_ok oa ob) (by
    by_cases h0 : a.m = 0 ∨ b.m = 0
    · rw [show mulS a b = .zero from if_pos h0]; decide
    · have := mulS_bits a b
      have := h.2.2.1 (fun h1 => h0 (.inl h1)) (fun h1 => h0 (.inr h1))
      omega) h.2.2.2
theorem addE_comm {a b : Dy} (h : addE a b) : addE b a :=
  ⟨h.2.1, h.1, fun h1 h2 => by have := h.2.2.1 h2 h1; omega, by rw [addS_comm]; exact h.2.2.2⟩
theorem addV_comm (a b : Dy) : addV a b = addV b a := by
  unfold addV
  by_cases h : addE a b
  · rw [if_pos h, if_pos (addE_comm h), addS_comm]
  · rw [if_neg h, if_neg (fun h2 => h (addE_comm h2))]
/-- What is added can be taken off. -/
theorem add_back {a b : Dy} (oa : a.ok) (ob : b.ok) (fa : a.fits) (fb : b.fits) (fs : (addS a b).fits) : addS (addS a b) b.neg = a := by
  have ga : a.ge (min a.e b.e) := .inr (by omega)
  have gb : b.ge (min a.e b.e) := .inr (by omega)
  have gs := addS_ge oa ob fa fb ga gb
  refine eq_of_at (k := min a.e b.e) (addS_ok _ _) oa (addS_ge (addS_ok _ _) (neg_ok ob) fs (neg_fits fb) gs (neg_ge gb)) ga ?_
  rw [addS_at (addS_ok _ _) (neg_ok ob) fs (neg_fits fb) gs (neg_ge gb), addS_at oa ob fa fb ga gb, neg_at]
  omega
/-- A product is shared out over a sum. -/
theorem mul_add {a b c : Dy} (oa : a.ok) (ob : b.ok) (oc : c.ok) (fa : a.fits) (fb : b.fits) (f1 : (mulS a c).fits) (f2 : (mulS b c).fits) : mulS (addS a b) c = addS (mulS a c) (mulS b c) := by
  have ga : a.ge (min a.e b.e) := .inr (by omega)
  have gb : b.ge (min a.e b.e) := .inr (by omega)
  have gs := addS_ge oa ob fa fb ga gb
  have gc := c.ge_e
  refine eq_of_at (k := min a.e b.e + c.e) (mulS_ok (addS_ok _ _) oc) (addS_ok _ _) (mulS_ge gs gc) (addS_ge (mulS_ok oa oc) (mulS_ok ob oc) f1 f2 (mulS_ge ga gc) (mulS_ge gb gc)) ?_
  rw [addS_at (mulS_ok oa oc) (mulS_ok ob oc) f1 f2 (mulS_ge ga gc) (mulS_ge gb gc), mulS_at gs gc, mulS_at ga gc, mulS_at gb gc, addS_at oa ob fa fb ga gb, Int.add_mul]
end Go.Proofs.YtmnojbkakgfinaaGreatDoor
end
