/- Several parts in one text. -/
import Derived.Test.YtmnojbkakgfinaaGreatDoorK2
import Derived.Test.YtmnojbkakgfinaaGreatDoorG5
import Derived.Test.YtmnojbkakgfinaaGreatDoorH0
import Derived.WalkKit
import Derived.Shelf.Strings.BuilderK
import Derived.Test.YtmnojbkakgfinaaGreatDoorK4
open Go PG Go.Proofs
namespace Go.Proofs.YtmnojbkakgfinaaGreatDoor
attribute [local go_sem] Lay2 Lay3 Lay4 Lay5 Lay6 Lay7 Lay8 Lay9 Lay10 Lay11 Lay12 Lay13 Lay14 Lay15 Lay16 Lay17 Lay18 Lay19 Lay21 Lay23 Lay24 Lay25 Lay26 Lay27 Lay28 Lay31 Lay32 Lay33 Lay40 Lay43 Lay44 Lay49 Lay50 Lay57 Lay58 Lay61 Lay68 Lay69 Lay72 Lay77 Lay125 Lay133 Lay134 Lay150 Lay167 Lay168 Lay169 Lay170 Lay180 Lay181 Lay185 Lay186 Lay189 Lay205 Lay208 Lay223 Lay227 Lay228 Lay231 Lay232 Lay233 Lay234 Lay235 Lay236 Lay237 Lay238 Lay240 Lay241 Lay242 Lay243 Lay244 Lay245 Lay246 Lay247 Lay249 Lay250 qexec_seq qexec_skip qexec_exit qexec_ret qexec_block qexec_loop qexec_range qexec_cond qexec_region qexec_drawn qops_nil qops_none qops_some put_some put_none pblk_exit pblk_other newDsts_nil inlDsts_nil isInl sget_cons sget_nil qval_some qbool_some qgs_bool qgs_und qfree_some qgrd_true qgrd_false qif_true qif_false qval_ite qval_itn qand_true map_ite map_some' map_none' qdo_move qdo_assign qdo_binOp qdo_pick qdo_unOp qdo_convert qdo_extract qdo_field qdo_fieldAddr qdo_alloc qdo_box qdo_build qdo_buildSlice qdo_load qdo_store qdo_nilCheck qdo_makeFunc qdo_makeSlice qdo_slice qdo_indexAddr qdo_call qcont_val qcont_new qcont_st qcont_app0 qcont_app qcont_inl qcont_call njSV_val njSV_nil njSV_row njSV_ptr njSV_sub binV_val binV_nil binV_nn binV_ptr bin_np bin_nnp nilCmp bin_add bin_sub bin_mul bin_quo bin_rem bin_and bin_or bin_xor bin_andNot bin_eql bin_neq bin_lss bin_leq bin_gtr bin_geq bin_shl bin_shr bin_seql bin_sneq bin_sadd bin_beql bin_aeql bin_aneq eqAnd_some eqCells_nil eqCells_cons fieldTypes isStruct eqCell bin_bneq un_not un_neg nj_ite Nat.beq stepA stepR isNew opSV constSV RV.sv allSome E_mu E_own qkeyIn_none qkeyIn_some qkeyAt_none qkeyAt_some Bool.or_false Bool.false_or Bool.or_true Bool.true_or cst setB res resSV pstart startL killL kill1 eraL frzL svPV rvPV rvInt rvSlice rvBytes frzOf close closeL pconv pbuiltin pmax2 partPV setCells fillPV zrow bound newSV PV.cells Bk.cells Bk.with SV.key pres presL_nil presL_tmp presL_cell presC2_some cellPV_ptr presC List.toList_toArray List.size_toArray List.getElem?_drop Nat.mul_one Int.toNat_natCast Nat.not_lt_zero Nat.lt_irrefl decide_true decide_false Nat.not_lt Option.some.injEq PV.lst.injEq PV.int.injEq PV.bool.injEq PV.tuple.injEq List.cons.injEq Option.map_some Option.map_none Option.bind_some Option.toList List.map_cons List.map_nil List.nil_append List.cons_append List.append_nil List.zip_cons_cons List.zip_nil_left List.zip_nil_right List.getElem?_cons_zero List.getElem?_cons_succ List.drop_zero List.drop_succ_cons List.take_succ_cons List.take_zero List.set_cons_zero List.set_cons_succ List.length_cons List.length_nil List.length_set List.replicate_one List.replicate_zero bne_self_eq_false beq_self_eq_true Nat.zero_add Nat.add_zero Nat.zero_mul Bool.false_eq_true Bool.true_eq_false Bool.not_true Bool.not_false and_true true_and false_and and_false or_false false_or or_true true_or not_true_eq_false not_false_eq_true ne_eq gt_iff_lt List.mem_cons List.not_mem_nil
attribute [local go_sem ↓] pseq_normal pseq_ret pseq_exit pblk_normal pblk_ret newDsts_cons inlDsts_cons gdst_zero gdst_succ retQ_normal retQ_ret qneed_nil qneed_cons retM_normal retM_ret endR_normal endR_ret endR_exit
attribute [local go_sem] Int.reduceToNat Int.reduceEq Int.reduceNe Int.reduceLT Int.reduceLE Int.reduceNeg Int.reduceAdd Nat.reduceEqDiff Nat.reduceAdd Nat.reduceSub Nat.reduceMul Nat.reduceLeDiff Nat.reduceLT
attribute [local go_sem ↓] reduceIte reduceCtorEq
/- decimal.decimal. -/
section
open Go PG Go.Proofs Go.RowKit
set_option maxRecDepth 1000000
set_option linter.unusedSimpArgs false
set_option linter.unusedVariables false

/-- The signs written so far. -/
def accV (x i j : Nat) : List UInt8 := (List.range j).map fun t => 48 + UInt8.ofNat (x / 10 ^ (i - 1 - t) % 10)
theorem accV_succ (x i j : Nat) : accV x i (j + 1) = accV x i j ++ [48 + UInt8.ofNat (x / 10 ^ (i - 1 - j) % 10)] := by
  unfold accV; rw [List.range_succ, List.map_append]; rfl
theorem acc_all {x i : Nat} (h : x / 10 ^ i = 0) (h' : i = 0 ∨ x / 10 ^ (i - 1) ≠ 0) : accV x i i = if x = 0 then [] else Lib.decDigits x := by
  have hlt : x < 10 ^ i := by
    rcases Nat.lt_or_ge x (10 ^ i) with h1 | h1
    · exact h1
    · have := Nat.div_pos h1 (Nat.pow_pos (by decide))
      omega
  rcases i with _ | k
  · rw [Nat.pow_zero] at hlt
    rw [if_pos (by omega)]
    rfl
  · rw [Nat.add_sub_cancel] at h'
    have h2 : x / 10 ^ k ≠ 0 := by
      rcases h' with h' | h'
      · omega
      · exact h'
    have h3 : 10 ^ k ≤ x := Nat.le_of_not_lt fun h4 => h2 (Nat.div_eq_of_lt h4)
    have h4 := Lib.nDigits_unique k x h3 hlt
    have h5 : 0 < 10 ^ k := Nat.pow_pos (by decide)
    rw [if_neg (by omega), Lib.decDigits_eq, h4]
    unfold accV
    refine List.map_congr_left fun t ht => ?_
    unfold Lib.dg
    rw [UInt8.ofNat_add]
    rfl
theorem lays166b : Lays.n166 Tryz.prog Tryz.lays105_ren := { mixed := Tryz.lays105.mixed, f166 := Tryz.lays105.f166, f240 := Tryz.lays105.f240, f276 := Tryz.lays105.f276, t0 := Tryz.lays105.t0, a0 := Tryz.lays105.a0, z0 := Tryz.lays105.z0, v0 := Tryz.lays105.v0, t3 := Tryz.lays105.t3, a3 := Tryz.lays105.a3, z3 := Tryz.lays105.z3, v3 := Tryz.lays105.v3, t4 := Tryz.lays105.t4, a4 := Tryz.lays105.a4, z4 := Tryz.lays105.z4, v4 := Tryz.lays105.v4, t9 := Tryz.lays105.t9, a9 := Tryz.lays105.a9, z9 := Tryz.lays105.z9, v9 := Tryz.lays105.v9, t20 := Tryz.lays105.t20, a20 := Tryz.lays105.a20, z20 := Tryz.lays105.z20, v20 := Tryz.lays105.v20, t37 := Tryz.lays105.t37, a37 := Tryz.lays105.a37, z37 := Tryz.lays105.z37, v37 := Tryz.lays105.v37, t70 := Tryz.lays105.t70, a70 := Tryz.lays105.a70, z70 := Tryz.lays105.z70, v70 := Tryz.lays105.v70, t72 := Tryz.lays105.t72, a72 := Tryz.lays105.a72, z72 := Tryz.lays105.z72, v72 := Tryz.lays105.v72, t75 := Tryz.lays105.t75, a75 := Tryz.lays105.a75, z75 := Tryz.lays105.z75, v75 := Tryz.lays105.v75, t164 := Tryz.lays105.t164, a164 := Tryz.lays105.a164, z164 := Tryz.lays105.z164, v164 := Tryz.lays105.v164 }
theorem own_belowB {w w' : World} {B C e size n : Nat} {v : Value} {xs : List Value} (h : w.ownsRow B e size v n xs) (hb : Below C w w') (hC : ∀ k, v.ownBlock = some k → k < C) : w'.ownsRow B e size v n xs := by
  obtain ⟨h1, h2⟩ := h
  refine ⟨h1, ?_⟩
  rcases h2 with h | ⟨g, cap, cur, rfl, a, b, c⟩
  · exact .inl h
  · exact .inr ⟨g, cap, cur, rfl, a, by rw [hb.block g (hC g rfl)]; exact b, c⟩
theorem own_belowD {w w' : World} {B e size n : Nat} {v : Value} {xs : List Value} (h : w.ownsRow B e size v n xs) (hb : Below w.heap.size w w') : w'.ownsRow B e size v n xs := by
  obtain ⟨h1, h2⟩ := h
  refine ⟨h1, ?_⟩
  rcases h2 with h | ⟨g, cap, cur, rfl, a, b, c⟩
  · exact .inl h
  · exact .inr ⟨g, cap, cur, rfl, a, by rw [hb.block g (Array.getElem?_eq_some_iff.1 b).1]; exact b, c⟩
def slen : Value → Nat
  | .slice _ n _ => n
  | _ => 0
theorem own_slen {w : World} {B e size n : Nat} {v : Value} {xs : List Value} (h : w.ownsRow B e size v n xs) : slen v = n := by
  rcases h.2 with ⟨rfl, rfl⟩ | ⟨g, cap, cur, rfl, _⟩ <;> rfl
theorem own_ge {w : World} {B e size n : Nat} {v : Value} {xs : List Value} (h : w.ownsRow B e size v n xs) {k : Nat} (hk : v.ownBlock = some k) : B ≤ k := by
  rcases h.2 with ⟨rfl, rfl⟩ | ⟨g, cap, cur, rfl, h1, _⟩
  · cases hk
  · cases hk; exact h1
theorem lst_shape {g : Addr → Option Value} {n : Nat} {cs : List PV} {v : Value} (h : Rep g (.lst n cs) v) : ∃ o c, v = .slice o n c := by
  rcases h.lst_inv with ⟨rfl, rfl, rfl⟩ | ⟨ad, cap, us, rfl, _⟩
  · exact ⟨none, 0, rfl⟩
  · exact ⟨some ad, cap, rfl⟩
theorem info_str : (Tryz.prog.info? 9).map (fun i => (i.zero, i.size, i.bytes)) = some (some (.string ⟨#[]⟩), 1, 16) := by kernel_rfl
/-- The signs so far, the last one first. -/
def digV (x : Nat) (i : Nat) : List Value := (List.range i).map fun j => Value.string (B8 [48 + UInt8.ofNat (x / 10 ^ j % 10)])
theorem d_smallN (x : Nat) (hx : bitLen x ≤ 100000) : PC E 110 [NN x, .int .u64 10] (.tuple [NN (x / 10), .int .u64 (x % 10 : Nat), .int .i64 0]) := by
  have h1 := w_of_bits (x := x) (n := 1600) (by omega)
  have := d_Small (l := dg W x) (ok_dg W2 x) (by omega) (n := 10) (by decide) (by decide)
  rwa [show vl (dg W x) = x from dv_dg W2 x] at this
set_option maxHeartbeats 1000000 in
theorem d_decimal {x : Nat} (hx : bitLen x ≤ 60000) : PC E 81 [NN x] (TX (if x = 0 then [] else Lib.decDigits x)) := by
  obtain ⟨RR, hRR⟩ : ∃ RR, RR = TX (if x = 0 then [] else Lib.decDigits x) := ⟨_, rfl⟩
  rw [← hRR]
  intro w Pr vs hPr hG hsz hreps
  have hs1 : vs.size = 1 := hsz
  obtain ⟨v0, rfl⟩ : ∃ v0, vs = #[v0] := ⟨vs[0], by
    refine Array.ext (by simp [hs1]) fun i hi hj => ?_
    have : i = 0 := by simp at hj; omega
    subst this; simp⟩
  clear hs1
  have hst : AtA w Pr none w [(NN x, v0)] := (AtL.start hPr hG fun q hq => by
    rw [List.mem_singleton] at hq
    subst hq
    exact hreps 0 _ _ rfl rfl).noA
  have hent : ∀ (vs : Array Value) (w : World), (callFunc 81 vs).run E.P w = .ok (.enter 81 vs) w := enters_of Tryz.func81 (by kernel_rfl) rfl
  have hent1 : ∀ (vs : Array Value) (w : World), (callFunc 110 vs).run E.P w = .ok (.enter 110 vs) w := enters_of Tryz.func110 (by kernel_rfl) rfl
  rw [hent]
  refine ⟨rfl, ?_⟩
  clear hPr hG hreps hsz hent
  obtain ⟨i0, hi0, hz0, hz1, hz2⟩ := info_parts info_str
  show Calls Tryz.prog 81 #[v0] w _
  go_enter Tryz.func81, Tryz.ntmps81
  go_wp2
  go_loopw [0, 3] (fun n v wr => ∃ i : Nat, Hid (i ≤ bitLen x) ∧ Hid (i = 0 ∨ x / 10 ^ (i - 1) ≠ 0) ∧ wr.ownsRow w.heap.size 9 1 v i (digV x i) ∧ AtA w Pr v.ownBlock wr [(NN (x / 10 ^ i), n)] ∧ Below w.heap.size w wr) (fun n v _ => bitLen x + 1 - slen v)
  case atStart =>
    exact ⟨0, Nat.zero_le _, .inl rfl, World.ownsRow_nil _ _ _ _, by rw [Nat.pow_zero, Nat.div_one]; exact hst, Below.refl _ _⟩
  case round =>
    obtain ⟨i, hib, hi9, hown, hA, hbw⟩ := hrel
    have hib2 : i ≤ bitLen x := hib
    obtain ⟨o, c, hn⟩ : ∃ o c, u0 = .slice o (dg W (x / 10 ^ i)).length c := by
      obtain ⟨Pr', _, _, _, _, _, h6⟩ := hA
      have := h6 _ List.mem_cons_self
      exact lst_shape this
    subst hn
    have hob : ∀ b, u3.ownBlock = some b → b < wr.heap.size := fun b hb => by
      rcases hown.2 with ⟨rfl, -⟩ | ⟨g, cap, cur, rfl, h1, h2, -⟩
      · cases hb
      · cases hb
        exact (Array.getElem?_eq_some_iff.1 h2).1
    by_cases hy : x / 10 ^ i = 0
    · rw [hy, show (dg W 0).length = 0 from rfl]
      clear hA
      obtain ⟨ob, cp, hu3⟩ : ∃ ob cp, u3 = .slice ob i cp := by
        rcases hown.2 with ⟨rfl, rfl⟩ | ⟨g, cap, cur, rfl, _⟩
        · exact ⟨none, 0, rfl⟩
        · exact ⟨_, _, rfl⟩
      have hi60 : i ≤ 60000 := Nat.le_trans hib hx
      have hbw0 : w.heap.size ≤ wr.heap.size := hbw.size
      subst hu3
      go_wp2
      go_loopw [28] (fun k W => ∃ j : Nat, j ≤ i ∧ k = .int .i64 j ∧ Lib.IsBuilderF 170 5 wr.heap.size wr.heap.size (Lib.byteCells (accV x i j)) W ∧ W.ownsRow w.heap.size 9 1 (.slice ob i cp) i (digV x i) ∧ Below w.heap.size w W ∧ wr.heap.size < W.heap.size) (fun k _ => i - (intOf k).toNat)
      case atStart =>
        refine ⟨0, Nat.zero_le _, rfl, Lib.IsBuilderF.of (Lib.fresh_isBuilder 170 5 wr), hown.alloc _, hbw.alloc hbw0 _, by simp⟩
      case round =>
        obtain ⟨j, hj, rfl, hI, hown2, hbw2, hszb⟩ := hrel
        by_cases hlt : j < i
        · obtain ⟨g, he, hcell⟩ : ∃ g, ob = some ⟨g, 0, none⟩ ∧ wr.cell? ⟨g, i - 1 - j, none⟩ = some (.string (B8 [48 + UInt8.ofNat (x / 10 ^ (i - 1 - j) % 10)])) := by
            rcases hown2.2 with ⟨-, h0⟩ | ⟨g, cap, cur, he, h1, h2, h3, h4, h5, h6⟩
            · omega
            · cases he
              refine ⟨g, rfl, ?_⟩
              simp only [World.cell?, h2]
              have h7 : (digV x i)[i - 1 - j]? = some (.string (B8 [48 + UInt8.ofNat (x / 10 ^ (i - 1 - j) % 10)])) := by
                unfold digV
                rw [List.getElem?_map, List.getElem?_range (by omega)]
                rfl
              rw [← h6, List.getElem?_take, if_pos (by omega)] at h7
              simpa using h7
          subst he
          have hal : (accV x i j).length = j := by unfold accV; simp
          have hwi : IntKind.wrap .i64 ((i : Int) - 1 - j) = ((i - 1 - j : Nat) : Int) := by rw [wrap64 (by omega) (by omega)]; omega
          go_wp2_with (first
            | (go_at_call 118; refine (Any.Builder_WriteString_k lays166b Tryz.Builder_Extra_105 _ _ _ _ _ hI (by rw [Lib.byteCells_length]; rw [B8_size]; simp; omega) (by omega)).mono ?_; rintro e W2 ⟨rfl, h1, b1, k1⟩))
          go_roundw
          case rel =>
            refine ⟨j + 1, by omega, by simp, ?_, own_belowB hown2 b1 hob, hbw2.trans ⟨b1.os, b1.tape, b1.output, b1.size, fun k hk => b1.block k (by omega)⟩, Nat.lt_of_lt_of_le hszb b1.size⟩
            rw [accV_succ, Lib.byteCells_append]
            exact Or.inr h1
          case measure => simp [intOf]; omega
        · have hji : j = i := by omega
          subst hji
          clear hown2
          go_wp2_with (go_at_call 119; refine (Tryz.Builder_String_any_k _ _ _ _ hI (by omega)).mono ?_; rintro e W2 ⟨rfl, _, b1, _⟩)
          go_ret
          refine ⟨_, rfl, ?_, hbw2.trans ⟨b1.os, b1.tape, b1.output, b1.size, fun k hk => b1.block k (by omega)⟩⟩
          rw [hRR, ← acc_all hy hi9]
          exact Rep.str _
    · have k1 := d_smallN (x / 10 ^ i) (Nat.le_trans (bitLen_mono (Nat.div_le_self _ _)) (by omega))
      have hlen : 0 < (dg W (x / 10 ^ i)).length := Nat.pos_of_ne_zero fun h => hy (by
        have := dg_nil h
        exact this)
      have hob : ∀ b, u3.ownBlock = some b → b < wr.heap.size := fun b hb => by
        rcases hown.2 with ⟨rfl, -⟩ | ⟨g, cap, cur, rfl, h1, h2, -⟩
        · cases hb
        · cases hb
          exact (Array.getElem?_eq_some_iff.1 h2).1
      generalize (dg W (x / 10 ^ i)).length = L at *
      have hd10 : x / 10 ^ i % 10 < 10 := Nat.mod_lt _ (by decide)
      have hdv : digV x (i + 1) = digV x i ++ [Value.string (B8 [48 + UInt8.ofNat (x / 10 ^ i % 10)])] := by unfold digV; rw [List.range_succ, List.map_append]; rfl
      have hi1 : i + 1 ≤ bitLen x := by
        have h1 : 10 ^ i ≤ x := Nat.le_of_not_lt fun h => hy (Nat.div_eq_of_lt h)
        have h2 := (bitLen_le x (bitLen x)).1 (Nat.le_refl _)
        have h3 : 2 ^ i ≤ 10 ^ i := Nat.pow_le_pow_left (by decide) i
        exact (Nat.pow_lt_pow_iff_right (by decide)).1 (Nat.lt_of_le_of_lt (Nat.le_trans h3 h1) h2)
      have hnx : x / 10 ^ i / 10 = x / 10 ^ (i + 1) := by rw [Nat.div_div_eq_div_mul, Nat.pow_succ]
      have hy9 : Hid (x / 10 ^ (i + 1 - 1) ≠ 0) := hy
      generalize x / 10 ^ i % 10 = d at *
      rw [hnx] at k1
      generalize x / 10 ^ i = y at *
      have hdd : Utf8.encode (48 + (d : Int)) = B8 [48 + UInt8.ofNat d] := by
        have e : ∀ k : Fin 10, Utf8.encode (48 + (k.val : Int)) = B8 [48 + UInt8.ofNat k.val] := by decide +kernel
        exact e ⟨d, hd10⟩
      go_wp2_with (first
        | (go_at_call 110; refine (hA.calls hob hbw.size k1 hent1 rfl (args_vi List.mem_cons_self)).mono ?_; rintro e W1 ⟨v1, rfl, hb1, hA1⟩; obtain ⟨qv, rv, ev, rfl, hA2⟩ := hA1.three; obtain rfl := hA2.int_of (List.mem_cons_of_mem _ List.mem_cons_self); obtain rfl := hA2.int_of (List.mem_cons_of_mem _ (List.mem_cons_of_mem _ List.mem_cons_self)); have hown1 := own_belowD hown hb1)
        | (at_builtin; refine wpList_append_own_at _ rfl _ _ 167 rfl w.heap.size 9 i0 (.string ⟨#[]⟩) 1 16 Tryz.underlying167 hi0 hz0 hz1 hz2 rfl (by decide) _ _ _ rfl (hown1.alloc _) ⟨W1.heap.size, 0, none⟩ 1 1 [Value.string (B8 [48 + UInt8.ofNat d])] rfl rfl ?c1 ?c2 ?c3 ?c4 ?c5 ?_))
      case c1 =>
        intro j u hj
        match j, hj with
        | 0, hj => simp at hj; subst hj; simp [Addr.add]
      case c2 => intro u hu; simp at hu; subst hu; rfl
      case c3 => unfold maxLen; omega
      case c4 => omega
      case c5 => have := hbw.size; have := hb1.size; simp; omega
      · intro v' w1 hown' hgrow _ hob'
        have hBa : Below W1.heap.size W1 (W1.alloc (Obj.cells #[Value.string (B8 [48 + UInt8.ofNat d])] 9)) := (Below.refl _ W1).alloc (Nat.le_refl _) _
        have hA3 := hA2.below hBa
        have hA4 : AtA w Pr v'.ownBlock w1 [(NN (x / 10 ^ (i + 1)), qv)] := (hA3.sub (qs := [(NN (x / 10 ^ (i + 1)), qv)]) fun q hq => .inl (by rw [List.mem_singleton] at hq; subst hq; exact List.mem_cons_self)).next hgrow.size (fun k cs t fr hne hk => by rw [hgrow.block k (Array.getElem?_eq_some_iff.1 hk).1 (fun e => hne e.symm)]; exact hk) (by simpa using hob')
        rw [← hdv] at hown'
        have hbwa : Below w.heap.size w (W1.alloc (Obj.cells #[Value.string (B8 [48 + UInt8.ofNat d])] 9)) := (below_to hbw hbw.size hb1).alloc (by have := hbw.size; have := hb1.size; omega) _
        have hbw2 : Below w.heap.size w w1 := hbwa.trans ⟨hgrow.os, hgrow.tape, hgrow.output, hgrow.size, fun k hk => hgrow.block k (by have := hbwa.size; omega) (fun e => by have := own_ge hown e.symm; omega)⟩
        have hs1 := own_slen hown
        have hs2 := own_slen hown'
        clear hgrow hob' hA3 hA2 hA1 hBa hown hown1 hA hb1 k1
        go_wp2
        go_roundw
        case rel => exact ⟨i + 1, hi1, .inr hy9, hown', hA4, hbw2⟩
        case measure => omega
end

/- decimal.scaled. -/
section
open Go PG Go.Proofs
set_option maxRecDepth 100000
set_option linter.unusedSimpArgs false
set_option linter.unusedVariables false

/-- The nearest whole number to a quotient, of two the even one. -/
def rne (a b : Nat) : Nat := if b < 2 * (a % b) ∨ (2 * (a % b) = b ∧ a / b % 2 = 1) then a / b + 1 else a / b
def scM (m : Nat) (de e : Int) : Nat := m * 2 ^ de.toNat * 10 ^ (-e).toNat
def scN (de e : Int) : Nat := 2 ^ (-de).toNat * 10 ^ e.toNat
theorem mul_ok {x y : Nat} (hx : x ≠ 0) (hy : y ≠ 0) (hb : bitLen x + bitLen y ≤ 65536) : PC E 21 [NN x, NN y] (.tuple [NN (x * y), .int .i64 0]) := by
  have := k_prodMul (num_bits (x := x) (by omega)) (num_bits (x := y) (by omega)) (by omega) (by omega)
  unfold pmV at this
  rwa [if_neg (fun hh => by rcases hh with hh | hh; exact hx hh; exact hy hh), if_pos hb] at this
/-- The last part: the quotient, rounded. -/
theorem rne_parts {a b : Nat} (ha : bitLen a ≤ 30000) (hb : bitLen b ≤ 30000) (h0 : b ≠ 0) :
    PC E 67 [NN a, NN b] (.tuple [NN (a / b), NN (a % b), .int .i64 0]) ∧ PC E 51 [NN (a % b), NN (a % b)] (NN (2 * (a % b))) ∧
    PC E 109 [NN (2 * (a % b)), NN b] (.int .i64 (sgn (2 * (a % b) : Nat) b)) ∧ PC E 106 [NN (a / b)] (.bool (decide (a / b % 2 = 1))) ∧ PC E 51 [NN (a / b), NN 1] (NN (a / b + 1)) := by
  have h1 : bitLen (a / b) ≤ 30000 := Nat.le_trans (bitLen_mono (Nat.div_le_self _ _)) ha
  have h2 : bitLen (a % b) ≤ 30000 := Nat.le_trans (bitLen_mono (Nat.mod_le _ _)) ha
  have h3 : bitLen (2 * (a % b)) ≤ 30100 := by
    have := bitLen_mul_le 2 (a % b)
    have : bitLen 2 = 2 := by decide +kernel
    omega
  have k2 := k_Add (num_bits (x := a % b) (by omega)) (num_bits (x := a % b) (by omega))
  rw [show a % b + a % b = 2 * (a % b) by omega] at k2
  exact ⟨k_Div (num_bits (by omega)) (num_bits (by omega)) (by omega) (by omega) h0, k2, k_Cmp (num_bits (by omega)) (num_bits (by omega)), k_Odd (num_bits (by omega)), k_Add (num_bits (by omega)) (num_bits (by decide))⟩
set_option maxHeartbeats 2000000 in
theorem d_scaled {s : Bool} {m : Nat} {de e : Int} (hm : m ≠ 0) (hb : bitLen m ≤ 100) (hde : -2000 ≤ de ∧ de ≤ 2000) (he : -2000 ≤ e ∧ e ≤ 2000) :
    PC E 82 [.agg [.bool s, NN m, .int .i64 de], .int .i64 e] (NN (rne (scM m de e) (scN de e))) := by
  have z0 := c_Of 1 (by decide)
  rw [show u 1 = .int .u64 1 from rfl] at z0
  have p2 : ∀ j, j ≤ 2000 → bitLen (m * 2 ^ j) ≤ 2100 := fun j hj => by have := bitLen_shl_le m j; omega
  have q2 : ∀ j, bitLen (2 ^ j) ≤ j + 1 := fun j => (bitLen_le _ _).2 (Nat.pow_lt_pow_right (by decide) (Nat.lt_succ_self j))
  have t2 : ∀ t, t ≤ 2000 → bitLen (10 ^ t) ≤ 8001 := fun t ht => by have := ten_bits t; omega
  have nz2 : ∀ j, 2 ^ j ≠ 0 := fun j => Nat.ne_of_gt (Nat.two_pow_pos j)
  obtain ⟨A1, N1, hA, hN, hA0, hN0, hAb, hNb, hD⟩ : ∃ A1 N1 : Nat, A1 = m * 2 ^ de.toNat ∧ N1 = 2 ^ (-de).toNat ∧ A1 ≠ 0 ∧ N1 ≠ 0 ∧ bitLen A1 ≤ 2100 ∧ bitLen N1 ≤ 2001 ∧
      ((0 ≤ de ∧ N1 = 1 ∧ PC E 66 [NN m, .int .i64 de] (.tuple [NN A1, .int .i64 0])) ∨ (de < 0 ∧ A1 = m ∧ PC E 66 [NN 1, .int .i64 (-de)] (.tuple [NN N1, .int .i64 0]))) := by
    refine ⟨_, _, rfl, rfl, Nat.mul_ne_zero hm (nz2 _), nz2 _, p2 _ (by omega), Nat.le_trans (q2 _) (by omega), ?_⟩
    by_cases hd : 0 ≤ de
    · refine .inl ⟨hd, by rw [show (-de).toNat = 0 by omega, Nat.pow_zero], ?_⟩
      have := k_Shln (num_bits (x := m) (by omega)) de.toNat (by omega)
      rwa [show ((de.toNat : Nat) : Int) = de by omega] at this
    · refine .inr ⟨by omega, by rw [show de.toNat = 0 by omega]; simp, ?_⟩
      have h1 : bitLen 1 = 1 := by decide +kernel
      have := k_Shln (num_bits (x := 1) (by decide)) (-de).toNat (by omega)
      rwa [show (((-de).toNat : Nat) : Int) = -de by omega, Nat.one_mul] at this
  obtain ⟨A2, N2, hA2, hN2, hN20, hA2b, hN2b, hE⟩ : ∃ A2 N2 : Nat, A2 = A1 * 10 ^ (-e).toNat ∧ N2 = N1 * 10 ^ e.toNat ∧ N2 ≠ 0 ∧ bitLen A2 ≤ 12000 ∧ bitLen N2 ≤ 12000 ∧
      ((0 ≤ e ∧ A2 = A1 ∧ PC E 22 [.int .i64 e] (NN (10 ^ e.toNat)) ∧ PC E 21 [NN N1, NN (10 ^ e.toNat)] (.tuple [NN N2, .int .i64 0])) ∨
       (e < 0 ∧ N2 = N1 ∧ PC E 22 [.int .i64 (-e)] (NN (10 ^ (-e).toNat)) ∧ PC E 21 [NN A1, NN (10 ^ (-e).toNat)] (.tuple [NN A2, .int .i64 0]))) := by
    refine ⟨_, _, rfl, rfl, Nat.mul_ne_zero hN0 (ten_ne _), ?_, ?_, ?_⟩
    · have := bitLen_mul_le A1 (10 ^ (-e).toNat)
      have := t2 (-e).toNat (by omega)
      omega
    · have := bitLen_mul_le N1 (10 ^ e.toNat)
      have := t2 e.toNat (by omega)
      omega
    by_cases h0 : 0 ≤ e
    · refine .inl ⟨h0, by rw [show (-e).toNat = 0 by omega]; simp, ?_, mul_ok hN0 (ten_ne _) (by have := t2 e.toNat (by omega); omega)⟩
      have := k_ten (n := e.toNat) (by omega)
      rwa [show ((e.toNat : Nat) : Int) = e by omega] at this
    · refine .inr ⟨by omega, by rw [show e.toNat = 0 by omega]; simp, ?_, mul_ok hA0 (ten_ne _) (by have := t2 (-e).toNat (by omega); omega)⟩
      have := k_ten (n := (-e).toNat) (by omega)
      rwa [show (((-e).toNat : Nat) : Int) = -e by omega] at this
  have eM : scM m de e = A2 := by unfold scM; rw [hA2, hA]
  have eN : scN de e = N2 := by unfold scN; rw [hN2, hN]
  rw [eM, eN]
  obtain ⟨k1, k2, k3, k4, k5⟩ := rne_parts (a := A2) (b := N2) (by omega) (by omega) hN20
  have hc1 : sgn (2 * (A2 % N2) : Nat) N2 > 0 ↔ N2 < 2 * (A2 % N2) := by unfold sgn; split <;> (try split) <;> omega
  have hc0 : sgn (2 * (A2 % N2) : Nat) N2 = 0 ↔ 2 * (A2 % N2) = N2 := by unfold sgn; split <;> (try split) <;> omega
  have wd : de < 0 → IntKind.wrap .i64 (0 - de) = -de := fun h => by rw [wrap64 (by omega) (by omega)]; omega
  have wee : e < 0 → IntKind.wrap .i64 (0 - e) = -e := fun h => by rw [wrap64 (by omega) (by omega)]; omega
  have hr : rne A2 N2 = if N2 < 2 * (A2 % N2) ∨ (2 * (A2 % N2) = N2 ∧ A2 / N2 % 2 = 1) then A2 / N2 + 1 else A2 / N2 := rfl
  rw [hr]
  clear hr eM eN hA hN hA2 hN2 p2 q2 t2 nz2 hAb hNb hA2b hN2b hA0 hN0 hN20
  generalize sgn (2 * (A2 % N2) : Nat) N2 = c at *
  generalize A2 / N2 + 1 = q1 at *
  generalize 2 * (A2 % N2) = r2 at *
  generalize A2 % N2 = r at *
  obtain ⟨od, hod⟩ : ∃ od : Bool, od = decide (A2 / N2 % 2 = 1) := ⟨_, rfl⟩
  have hod2 : A2 / N2 % 2 = 1 ↔ od = true := by rw [hod, decide_eq_true_eq]
  rw [← hod] at k4
  simp only [hod2]
  clear hod hod2
  generalize A2 / N2 = q at *
  generalize 10 ^ e.toNat = t1 at *
  generalize 10 ^ (-e).toNat = t2 at *
  rcases hD with ⟨d1, rfl, kD⟩ | ⟨d1, rfl, kD⟩ <;> rcases hE with ⟨e1, rfl, kE, kF⟩ | ⟨e1, rfl, kE, kF⟩
  · skip
    simp only [NN, NL] at z0 kD kE kF k1 k2 k3 k4 k5 ⊢
    refine PC.of_body follows Tryz.func82 (by decide +kernel) rfl (by kernel_rfl) (Nat.le_of_ble_eq_true rfl) (walk ?_)
    simp only [Tryz.f82, go_sem]
    repeat' first
      | ((with_reducible refine qcall_i z0 ?_); simp only [Tryz.f82, go_sem])
      | ((with_reducible refine qcall_i kD ?_); simp only [Tryz.f82, go_sem])
      | ((with_reducible refine qcall_i kE ?_); simp only [Tryz.f82, go_sem])
      | ((with_reducible refine qcall_i kF ?_); simp only [Tryz.f82, go_sem])
      | ((with_reducible refine qcall_i k1 ?_); simp only [Tryz.f82, go_sem])
      | ((with_reducible refine qcall_i k2 ?_); simp only [Tryz.f82, go_sem])
      | ((with_reducible refine qcall_i k3 ?_); simp only [Tryz.f82, go_sem])
      | ((with_reducible refine qcall_i k4 ?_); simp only [Tryz.f82, go_sem])
      | ((with_reducible refine qcall_i k5 ?_); simp only [Tryz.f82, go_sem])
      | ((with_reducible refine qif_d (fun h => ?_) (fun h => ?_)) <;> first | (exfalso; omega) | simp only [Tryz.f82, go_sem])
      | (cases od <;> simp only [Tryz.f82, go_sem])
    all_goals first
      | (rw [if_pos (by omega)]; exact ⟨rfl, rfl⟩)
      | (rw [if_neg (by omega)]; exact ⟨rfl, rfl⟩)
  · skip
    simp only [NN, NL] at z0 kD kE kF k1 k2 k3 k4 k5 ⊢
    refine PC.of_body follows Tryz.func82 (by decide +kernel) rfl (by kernel_rfl) (Nat.le_of_ble_eq_true rfl) (walk ?_)
    simp only [Tryz.f82, go_sem]
    repeat' first
      | ((with_reducible refine qcall_i z0 ?_); simp only [Tryz.f82, wee e1, go_sem])
      | ((with_reducible refine qcall_i kD ?_); simp only [Tryz.f82, wee e1, go_sem])
      | ((with_reducible refine qcall_i kE ?_); simp only [Tryz.f82, wee e1, go_sem])
      | ((with_reducible refine qcall_i kF ?_); simp only [Tryz.f82, wee e1, go_sem])
      | ((with_reducible refine qcall_i k1 ?_); simp only [Tryz.f82, wee e1, go_sem])
      | ((with_reducible refine qcall_i k2 ?_); simp only [Tryz.f82, wee e1, go_sem])
      | ((with_reducible refine qcall_i k3 ?_); simp only [Tryz.f82, wee e1, go_sem])
      | ((with_reducible refine qcall_i k4 ?_); simp only [Tryz.f82, wee e1, go_sem])
      | ((with_reducible refine qcall_i k5 ?_); simp only [Tryz.f82, wee e1, go_sem])
      | ((with_reducible refine qif_d (fun h => ?_) (fun h => ?_)) <;> first | (exfalso; omega) | simp only [Tryz.f82, wee e1, go_sem])
      | (cases od <;> simp only [Tryz.f82, wee e1, go_sem])
    all_goals first
      | (rw [if_pos (by omega)]; exact ⟨rfl, rfl⟩)
      | (rw [if_neg (by omega)]; exact ⟨rfl, rfl⟩)
  · skip
    simp only [NN, NL] at z0 kD kE kF k1 k2 k3 k4 k5 ⊢
    refine PC.of_body follows Tryz.func82 (by decide +kernel) rfl (by kernel_rfl) (Nat.le_of_ble_eq_true rfl) (walk ?_)
    simp only [Tryz.f82, go_sem]
    repeat' first
      | ((with_reducible refine qcall_i z0 ?_); simp only [Tryz.f82, wd d1, go_sem])
      | ((with_reducible refine qcall_i kD ?_); simp only [Tryz.f82, wd d1, go_sem])
      | ((with_reducible refine qcall_i kE ?_); simp only [Tryz.f82, wd d1, go_sem])
      | ((with_reducible refine qcall_i kF ?_); simp only [Tryz.f82, wd d1, go_sem])
      | ((with_reducible refine qcall_i k1 ?_); simp only [Tryz.f82, wd d1, go_sem])
      | ((with_reducible refine qcall_i k2 ?_); simp only [Tryz.f82, wd d1, go_sem])
      | ((with_reducible refine qcall_i k3 ?_); simp only [Tryz.f82, wd d1, go_sem])
      | ((with_reducible refine qcall_i k4 ?_); simp only [Tryz.f82, wd d1, go_sem])
      | ((with_reducible refine qcall_i k5 ?_); simp only [Tryz.f82, wd d1, go_sem])
      | ((with_reducible refine qif_d (fun h => ?_) (fun h => ?_)) <;> first | (exfalso; omega) | simp only [Tryz.f82, wd d1, go_sem])
      | (cases od <;> simp only [Tryz.f82, wd d1, go_sem])
    all_goals first
      | (rw [if_pos (by omega)]; exact ⟨rfl, rfl⟩)
      | (rw [if_neg (by omega)]; exact ⟨rfl, rfl⟩)
  · skip
    simp only [NN, NL] at z0 kD kE kF k1 k2 k3 k4 k5 ⊢
    refine PC.of_body follows Tryz.func82 (by decide +kernel) rfl (by kernel_rfl) (Nat.le_of_ble_eq_true rfl) (walk ?_)
    simp only [Tryz.f82, go_sem]
    repeat' first
      | ((with_reducible refine qcall_i z0 ?_); simp only [Tryz.f82, wd d1, wee e1, go_sem])
      | ((with_reducible refine qcall_i kD ?_); simp only [Tryz.f82, wd d1, wee e1, go_sem])
      | ((with_reducible refine qcall_i kE ?_); simp only [Tryz.f82, wd d1, wee e1, go_sem])
      | ((with_reducible refine qcall_i kF ?_); simp only [Tryz.f82, wd d1, wee e1, go_sem])
      | ((with_reducible refine qcall_i k1 ?_); simp only [Tryz.f82, wd d1, wee e1, go_sem])
      | ((with_reducible refine qcall_i k2 ?_); simp only [Tryz.f82, wd d1, wee e1, go_sem])
      | ((with_reducible refine qcall_i k3 ?_); simp only [Tryz.f82, wd d1, wee e1, go_sem])
      | ((with_reducible refine qcall_i k4 ?_); simp only [Tryz.f82, wd d1, wee e1, go_sem])
      | ((with_reducible refine qcall_i k5 ?_); simp only [Tryz.f82, wd d1, wee e1, go_sem])
      | ((with_reducible refine qif_d (fun h => ?_) (fun h => ?_)) <;> first | (exfalso; omega) | simp only [Tryz.f82, wd d1, wee e1, go_sem])
      | (cases od <;> simp only [Tryz.f82, wd d1, wee e1, go_sem])
    all_goals first
      | (rw [if_pos (by omega)]; exact ⟨rfl, rfl⟩)
      | (rw [if_neg (by omega)]; exact ⟨rfl, rfl⟩)
end

/- strings.Repeat, decimal.exponent at the chapter's example. -/
section
open Go PG Go.Proofs Go.RowKit
set_option maxRecDepth 100000
set_option linter.unusedSimpArgs false
set_option linter.unusedVariables false

theorem two_si {g : Addr → Option Value} {s : ByteArray} {a : Int} {vs : Array Value} (hs : vs.size = 2) (h : ∀ (j : Nat) p x, [PV.str s, PV.int .i64 a][j]? = some p → vs[j]? = some x → Rep g p x) : vs = #[.string s, .int .i64 a] := by
  have h0 := (h 0 _ _ rfl (Array.getElem?_eq_getElem (by omega)) : Rep g (.str s) vs[0]).str_inv
  have h1 := (h 1 _ _ rfl (Array.getElem?_eq_getElem (by omega)) : Rep g (.int .i64 a) vs[1]).int_inv
  refine Array.ext (by simp [hs]) fun i hi hj => ?_
  have : i = 0 ∨ i = 1 := by omega
  rcases this with rfl | rfl <;> simp [h0, h1]
theorem s_Repeat (c : UInt8) (n : Nat) (hn : n ≤ 100000) : PC E 83 [TX [c], .int .i64 n] (TX (List.replicate n c)) := by
  refine PC.of_calls (fun g vs hs h => two_si hs h) (enters_of Tryz.func83 (by kernel_rfl) rfl) fun w Pr hG => ?_
  have hsz : (B8 [c]).size = 1 := rfl
  have e : Lib.repeatL (B8 [c]).data.toList n = List.replicate n c := by
    rw [B8_data]
    induction n with
    | zero => rfl
    | succ n ih =>
      have := ih (by omega)
      rw [List.replicate_succ, ← this]
      rfl
  refine (Tryz.strings_Repeat (B8 [c]) n w (by omega) (by rw [hsz]; omega)).mono ?_
  rintro e2 w' ⟨rfl, hb⟩
  refine ⟨_, rfl, fun g => ?_, hb⟩
  rw [e]
  exact .str _
/-- The chapter's example: what is told of 0.1 with twenty digits. -/
def exD : List UInt8 := [49, 48, 48, 48, 48, 48, 48, 48, 48, 48, 48, 48, 48, 48, 48, 48, 48, 53, 53, 53]
theorem ex21 : rne (scM 3602879701896397 (-55) (-21)) (scN (-55) (-21)) = 100000000000000005551 := by decide +kernel
theorem ex20 : rne (scM 3602879701896397 (-55) (-20)) (scN (-55) (-20)) = 10000000000000000555 := by decide +kernel
theorem d_exponent : PC E 35 [.agg [.bool false, NN 3602879701896397, .int .i64 (-55)], .int .i64 20] (.tuple [.int .i64 (-20), TX exD]) := by
  have k1 := d_scaled (s := false) (m := 3602879701896397) (de := -55) (e := -21) (by decide) (by decide +kernel) (by decide) (by decide)
  have k2 := d_scaled (s := false) (m := 3602879701896397) (de := -55) (e := -20) (by decide) (by decide +kernel) (by decide) (by decide)
  rw [ex21] at k1
  rw [ex20] at k2
  have k3 := d_decimal (x := 100000000000000005551) (by decide +kernel)
  have k4 := d_decimal (x := 10000000000000000555) (by decide +kernel)
  have e3 : (if (100000000000000005551 : Nat) = 0 then [] else Lib.decDigits 100000000000000005551) = [49, 48, 48, 48, 48, 48, 48, 48, 48, 48, 48, 48, 48, 48, 48, 48, 48, 53, 53, 53, 49] := by decide +kernel
  have e4 : (if (10000000000000000555 : Nat) = 0 then [] else Lib.decDigits 10000000000000000555) = exD := by decide +kernel
  rw [e3] at k3
  rw [e4] at k4
  have k5 := s_Repeat 48 20 (by decide)
  rw [show List.replicate 20 (48 : UInt8) = [48, 48, 48, 48, 48, 48, 48, 48, 48, 48, 48, 48, 48, 48, 48, 48, 48, 48, 48, 48] from rfl] at k5
  have rq : RD (.agg [.bool false, NN 3602879701896397, .int .i64 (-55)]) (mkD false 3602879701896397 (-55)) := ⟨false, _, _, _, rfl, num_bits (by decide +kernel), by decide +kernel, rfl⟩
  have k0 := r_Top rq
  rw [show (mkD false 3602879701896397 (-55)).top = -4 by decide +kernel, show decide ((mkD false 3602879701896397 (-55)).m ≠ 0) = true by decide +kernel] at k0
  have w1 : IntKind.wrap .i64 (-4 * 30103) = -120412 := by decide
  have w2 : IntKind.wrap .i64 ((-120412 : Int).tdiv 100000) = -1 := by decide
  have w3 : IntKind.wrap .i64 (-1 - 20) = -21 := by decide
  have w4 : IntKind.wrap .i64 (-21 + 1) = -20 := by decide
  have hl : exD.length = 20 := rfl
  have hmx : maxLen = 9223372036854775807 := rfl
  clear rq
  obtain ⟨ms, hms⟩ : ∃ ms, ms = NN 3602879701896397 := ⟨_, rfl⟩
  obtain ⟨x1, hx1⟩ : ∃ x1, x1 = NN 100000000000000005551 := ⟨_, rfl⟩
  obtain ⟨x2, hx2⟩ : ∃ x2, x2 = NN 10000000000000000555 := ⟨_, rfl⟩
  simp only [NN, NL] at *
  refine PC.of_body follows Tryz.func35 (by decide +kernel) rfl (by kernel_rfl) (Nat.le_of_ble_eq_true rfl) (walk ?_)
  simp only [Tryz.f35, go_sem]
  refine qcall_i (k0) ?_; simp only [Tryz.f35, w1, w2, w3, go_sem]
  unfold exD at *
  simp only [TX] at k3 k4 k5 ⊢
  refine PLoop.intro (fun b : Bool => ⟨[(1, .val (.int .i64 20)), (2, .ptr 2 0), (8, .val (.int .i64 (if b = true then -20 else -21)))], [(2, (.box [.bool false, .lst (dg W 3602879701896397).length (U (dg W 3602879701896397)), .int .i64 (-55)], false))]⟩) (fun _ => True) (fun b => if b = true then 0 else 1) false trivial ?_ fun b _ => walk ?_
  · simp [Wk, sget, killL, kill1, SV.key]
  cases b
  · simp only [Bool.false_eq_true, if_false]
    simp only [Tryz.f35, B8_size, B8_cut, B8_eq, B8_mk, B8_app, Int.toNat_natCast, go_sem]
    refine qcall_i (k1) ?_; simp only [Tryz.f35, B8_size, B8_cut, B8_eq, B8_mk, B8_app, Int.toNat_natCast, go_sem]
    refine qcall_i (k3) ?_; simp only [Tryz.f35, B8_size, B8_cut, B8_eq, B8_mk, B8_app, Int.toNat_natCast, go_sem]
    repeat' first
      | ((with_reducible refine qif_dt (by decide) ?_); simp only [Tryz.f35, B8_size, B8_cut, B8_eq, B8_mk, B8_app, Int.toNat_natCast, w4, go_sem])
      | ((with_reducible refine qif_df (by decide) ?_); simp only [Tryz.f35, B8_size, B8_cut, B8_eq, B8_mk, B8_app, Int.toNat_natCast, w4, go_sem])
      | ((with_reducible refine qcall_i k5 ?_); simp only [Tryz.f35, B8_size, B8_cut, B8_eq, B8_mk, B8_app, Int.toNat_natCast, go_sem])
      | ((refine qand_i (by decide) ?_); simp only [Tryz.f35, B8_size, B8_cut, B8_eq, B8_mk, B8_app, Int.toNat_natCast, go_sem])
    refine ⟨true, by decide, ?_⟩
    have w5 : IntKind.wrap .i64 (-20) = -20 := by decide
    simp [Wk, sget, killL, kill1, SV.key, w5]
  · simp only [if_true]
    simp only [Tryz.f35, B8_size, B8_cut, B8_eq, B8_mk, B8_app, Int.toNat_natCast, go_sem]
    refine qcall_i (k2) ?_; simp only [Tryz.f35, B8_size, B8_cut, B8_eq, B8_mk, B8_app, Int.toNat_natCast, go_sem]
    refine qcall_i (k4) ?_; simp only [Tryz.f35, B8_size, B8_cut, B8_eq, B8_mk, B8_app, Int.toNat_natCast, go_sem]
    repeat' first
      | ((with_reducible refine qif_dt (by decide) ?_); simp only [Tryz.f35, B8_size, B8_cut, B8_eq, B8_mk, B8_app, Int.toNat_natCast, w4, go_sem])
      | ((with_reducible refine qif_df (by decide) ?_); simp only [Tryz.f35, B8_size, B8_cut, B8_eq, B8_mk, B8_app, Int.toNat_natCast, w4, go_sem])
      | ((with_reducible refine qcall_i k5 ?_); simp only [Tryz.f35, B8_size, B8_cut, B8_eq, B8_mk, B8_app, Int.toNat_natCast, go_sem])
      | ((refine qand_i (by decide) ?_); simp only [Tryz.f35, B8_size, B8_cut, B8_eq, B8_mk, B8_app, Int.toNat_natCast, go_sem])
      | rfl
/-- The text of the chapter's example. -/
def exT : List UInt8 := [49, 46, 48, 48, 48, 48, 48, 48, 48, 48, 48, 48, 48, 48, 48, 48, 48, 48, 53, 53, 53, 101, 45, 49]
theorem d_PrintEx : PC E 10 [.int .u64 4591870180066957722, .int .i64 20] (.tuple [TX exT, .int .i64 0]) := by
  have k1 := c_Neg 4591870180066957722 (by decide)
  have k2 := c_Kind 4591870180066957722 (by decide)
  have k3 := c_FDyad 4591870180066957722 (by decide)
  have k4 := d_exponent
  have k5 := s_Itoa (-1) (by decide) (by decide)
  rw [show fs 4591870180066957722 = false by decide +kernel] at k1
  rw [show kind 4591870180066957722 = 2 by decide +kernel] at k2
  rw [if_pos (by decide +kernel), show fd 4591870180066957722 = ⟨false, 3602879701896397, -55⟩ by decide +kernel] at k3
  rw [show Lib.itoa (-1) = [45, 49] by decide +kernel] at k5
  have w1 : bits .andNot .u64 4591870180066957722 9223372036854775808 = 4591870180066957722 := by decide +kernel
  have w2 : IntKind.wrap .i64 (-20 + 20) = 0 := by decide
  have w3 : IntKind.wrap .i64 (0 - 1) = -1 := by decide
  have w6 : IntKind.wrap .i64 0 = 0 := by decide
  have w7 : IntKind.wrap .i64 (-1) = -1 := by decide
  unfold exD at k4
  unfold exT
  simp only [u, TX, Dy.pv, DP, Int.cast_ofNat_Int] at k1 k2 k3 k4 k5 ⊢
  refine PC.of_body follows Tryz.func10 (by decide +kernel) rfl (by kernel_rfl) (Nat.le_of_ble_eq_true rfl) (walk ?_)
  simp only [Tryz.f10, B8_size, B8_cut, B8_eq, B8_mk, B8_app, Int.toNat_natCast, go_sem]
  refine qcall_i (k1) ?_; simp only [Tryz.f10, B8_size, B8_cut, B8_eq, B8_mk, B8_app, Int.toNat_natCast, go_sem]
  refine qcall_i (k2) ?_; simp only [Tryz.f10, B8_size, B8_cut, B8_eq, B8_mk, B8_app, Int.toNat_natCast, w1, go_sem]
  try rw [w1]
  simp only [NN, NL] at k3 k4
  repeat' first
    | ((with_reducible refine qcall_i k3 ?_); simp only [Tryz.f10, B8_size, B8_cut, B8_eq, B8_mk, B8_app, Int.toNat_natCast, w1, w2, w3, w6, w7, go_sem])
    | ((with_reducible refine qcall_i k4 ?_); simp only [Tryz.f10, B8_size, B8_cut, B8_eq, B8_mk, B8_app, Int.toNat_natCast, w1, w2, w3, w6, w7, go_sem])
    | ((with_reducible refine qcall_i k5 ?_); simp only [Tryz.f10, B8_size, B8_cut, B8_eq, B8_mk, B8_app, Int.toNat_natCast, w1, w2, w3, w6, w7, go_sem])
    | ((with_reducible refine qif_dt (by decide) ?_); simp only [Tryz.f10, B8_size, B8_cut, B8_eq, B8_mk, B8_app, Int.toNat_natCast, w1, w2, w3, w6, w7, go_sem])
    | ((with_reducible refine qif_df (by decide) ?_); simp only [Tryz.f10, B8_size, B8_cut, B8_eq, B8_mk, B8_app, Int.toNat_natCast, w1, w2, w3, w6, w7, go_sem])
    | ((refine qand_i (by decide) ?_); simp only [Tryz.f10, B8_size, B8_cut, B8_eq, B8_mk, B8_app, Int.toNat_natCast, w1, w2, w3, w6, w7, go_sem])
    | rfl
theorem decP_ex1 : decP [48, 46, 49] 0 = ((4591870180066957722, 1), 0) := by decide +kernel
theorem decP_ex2 : decP [46, 49] 0 = ((0, 0), 4) := by decide +kernel
theorem c_alive32 (kA : ∀ s : List UInt8, s.length ≤ 1000 → PC E 49 [TX s] (.tuple [.int .i64 (atoiV s), .any])) : PC E 7 [] (.bool true) := by
  have k1 := d_PrintEx
  have k2 := d_Parse kA (l := [48, 46, 49]) (dir := 0) (by decide)
  have k3 := d_Parse kA (l := [46, 49]) (dir := 0) (by decide)
  rw [decP_ex1] at k2
  rw [decP_ex2] at k3
  unfold exT at k1
  simp only [TX, resH, Int.cast_ofNat_Int] at k1 k2 k3
  refine PC.of_body follows Tryz.func7 (by decide +kernel) rfl (by kernel_rfl) (Nat.le_of_ble_eq_true rfl) (walk ?_)
  simp only [Tryz.f7, B8_size, B8_cut, B8_eq, B8_mk, B8_app, Int.toNat_natCast, go_sem]
  refine qcall_i (k1) ?_; simp only [Tryz.f7, B8_size, B8_cut, B8_eq, B8_mk, B8_app, Int.toNat_natCast, go_sem]
  refine qcall_i (k2) ?_; simp only [Tryz.f7, B8_size, B8_cut, B8_eq, B8_mk, B8_app, Int.toNat_natCast, go_sem]
  refine qcall_i (k3) ?_; simp only [Tryz.f7, B8_size, B8_cut, B8_eq, B8_mk, B8_app, Int.toNat_natCast, go_sem]
  try simp only [Tryz.f7, B8_size, B8_cut, B8_eq, B8_mk, B8_app, Int.toNat_natCast, Bool.and_self, go_sem]
  try rfl
end
end Go.Proofs.YtmnojbkakgfinaaGreatDoor
