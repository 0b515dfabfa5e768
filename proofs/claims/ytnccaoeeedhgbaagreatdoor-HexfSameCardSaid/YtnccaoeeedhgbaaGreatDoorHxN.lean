/- hexf.number: a range over a text's runes. -/
import Derived.Test.YtnccaoeeedhgbaaGreatDoorCal
import Derived.Test.YtnccaoeeedhgbaaGreatDoorHx0
import Derived.Test.YtnccaoeeedhgbaaGreatDoorStrZ
import Derived.Test.YtnccaoeeedhgbaaGreatDoorG5
open Go PG Go.Proofs Go.RowKit
set_option maxRecDepth 1000000
set_option linter.unusedSimpArgs false
set_option linter.unusedVariables false
namespace Go.Proofs.YtnccaoeeedhgbaaGreatDoor
attribute [local go_sem] Lay2 Lay3 Lay4 Lay5 Lay6 Lay7 Lay8 Lay9 Lay10 Lay11 Lay12 Lay13 Lay14 Lay15 Lay16 Lay17 Lay18 Lay19 Lay21 Lay23 Lay24 Lay25 Lay26 Lay27 Lay28 Lay31 Lay32 Lay33 Lay34 Lay37 Lay38 Lay39 Lay42 Lay46 Lay47 Lay54 Lay65 Lay66 Lay96 Lay97 Lay106 Lay136 Lay147 Lay148 Lay152 Lay160 Lay161 Lay187 Lay201 Lay202 Lay203 Lay204 Lay212 Lay215 Lay220 Lay221 Lay234 Lay244 Lay247 Lay248 Lay249 Lay250 Lay251 Lay252 Lay253 Lay254 Lay255 Lay256 Lay257 Lay258 Lay259 Lay260 Lay261 Lay262 Lay264 Lay265 qexec_seq qexec_skip qexec_exit qexec_ret qexec_block qexec_loop qexec_range qexec_cond qexec_region qexec_drawn qops_nil qops_none qops_some put_some put_none pblk_exit pblk_other newDsts_nil inlDsts_nil isInl sget_cons sget_nil qval_some qbool_some qgs_bool qgs_und qfree_some qgrd_true qgrd_false qif_true qif_false qval_ite qval_itn qand_true map_ite map_some' map_none' qdo_move qdo_assign qdo_binOp qdo_pick qdo_unOp qdo_convert qdo_extract qdo_field qdo_fieldAddr qdo_alloc qdo_box qdo_build qdo_buildSlice qdo_load qdo_store qdo_nilCheck qdo_makeFunc qdo_makeSlice qdo_slice qdo_indexAddr qdo_call qcont_val qcont_new qcont_st qcont_app0 qcont_app qcont_inl qcont_call njSV_val njSV_nil njSV_row njSV_ptr njSV_sub binV_val binV_nil binV_nn binV_ptr bin_np bin_nnp nilCmp bin_add bin_sub bin_mul bin_quo bin_rem bin_and bin_or bin_xor bin_andNot bin_eql bin_neq bin_lss bin_leq bin_gtr bin_geq bin_shl bin_shr bin_seql bin_sneq bin_sadd bin_beql bin_aeql bin_aneq eqAnd_some eqCells_nil eqCells_cons fieldTypes isStruct eqCell bin_bneq un_not un_neg nj_ite Nat.beq stepA stepR isNew opSV constSV RV.sv allSome E_mu E_own qkeyIn_none qkeyIn_some qkeyAt_none qkeyAt_some Bool.or_false Bool.false_or Bool.or_true Bool.true_or cst setB res resSV pstart startL killL kill1 eraL frzL svPV rvPV rvInt rvSlice rvBytes frzOf close closeL pconv pbuiltin pmax2 partPV setCells fillPV zrow bound newSV PV.cells Bk.cells Bk.with SV.key pres presL_nil presL_tmp presL_cell presC2_some cellPV_ptr presC List.toList_toArray List.size_toArray List.getElem?_drop Nat.mul_one Int.toNat_natCast Nat.not_lt_zero Nat.lt_irrefl decide_true decide_false Nat.not_lt Option.some.injEq PV.lst.injEq PV.int.injEq PV.bool.injEq PV.tuple.injEq List.cons.injEq Option.map_some Option.map_none Option.bind_some Option.toList List.map_cons List.map_nil List.nil_append List.cons_append List.append_nil List.zip_cons_cons List.zip_nil_left List.zip_nil_right List.getElem?_cons_zero List.getElem?_cons_succ List.drop_zero List.drop_succ_cons List.take_succ_cons List.take_zero List.set_cons_zero List.set_cons_succ List.length_cons List.length_nil List.length_set List.replicate_one List.replicate_zero bne_self_eq_false beq_self_eq_true Nat.zero_add Nat.add_zero Nat.zero_mul Bool.false_eq_true Bool.true_eq_false Bool.not_true Bool.not_false and_true true_and false_and and_false or_false false_or or_true true_or not_true_eq_false not_false_eq_true ne_eq gt_iff_lt List.mem_cons List.not_mem_nil
attribute [local go_sem ↓] pseq_normal pseq_ret pseq_exit pblk_normal pblk_ret newDsts_cons inlDsts_cons gdst_zero gdst_succ retQ_normal retQ_ret qneed_nil qneed_cons retM_normal retM_ret endR_normal endR_ret endR_exit
attribute [local go_sem] Int.reduceToNat Int.reduceEq Int.reduceNe Int.reduceLT Int.reduceLE Int.reduceNeg Int.reduceAdd Nat.reduceEqDiff Nat.reduceAdd Nat.reduceSub Nat.reduceMul Nat.reduceLeDiff Nat.reduceLT
attribute [local go_sem ↓] reduceIte reduceCtorEq

theorem wrapI32 {i : Int} (h0 : -2147483648 ≤ i) (h1 : i < 2147483648) : IntKind.wrap .i32 i = i := by
  unfold IntKind.wrap
  simp [IntKind.bits, IntKind.signed]
  omega
theorem c_digitHi (r : Int) (h0 : 128 ≤ r) : PC E 79 [.int .i32 r] (.int .i64 (-1)) := by
  refine PC.of_body follows Tryz.func79 (by decide +kernel) rfl (by kernel_rfl) (Nat.le_of_ble_eq_true rfl) (walk ?_)
  simp only [Tryz.f79, go_sem]
  repeat' first
    | (exfalso; omega)
    | ((with_reducible refine qif_d (fun h => ?_) (fun h => ?_)) <;> first | (exfalso; omega) | simp only [Tryz.f79, go_sem])
    | rfl
theorem c_digit (c : UInt8) (hc : c.toNat < 128) : PC E 79 [.int .i32 (c.toNat : Nat)] (.int .i64 (if hx c = true then (hv c : Int) else -1)) := by
  have ed : hx c = true ↔ hv c < 16 := decide_eq_true_iff
  have ev : hv c = if 48 ≤ c.toNat ∧ c.toNat ≤ 57 then c.toNat - 48 else if 97 ≤ c.toNat ∧ c.toNat ≤ 102 then c.toNat - 87 else 255 := rfl
  simp only [ed]
  generalize hv c = v at *
  generalize c.toNat = r at *
  have w1 : 48 ≤ r → IntKind.wrap .i32 ((r : Int) - 48) = ((r - 48 : Nat) : Int) := fun h => by rw [wrapI32 (by omega) (by omega)]; omega
  have w2 : 97 ≤ r → IntKind.wrap .i32 ((r : Int) - 97) = ((r - 97 : Nat) : Int) := fun h => by rw [wrapI32 (by omega) (by omega)]; omega
  have w3 : IntKind.wrap .i64 ((r - 48 : Nat) : Int) = ((r - 48 : Nat) : Int) := wrap64 (by omega) (by omega)
  have w4 : IntKind.wrap .i64 ((r - 97 : Nat) : Int) = ((r - 97 : Nat) : Int) := wrap64 (by omega) (by omega)
  have w5 : 97 ≤ r → IntKind.wrap .i64 (((r - 97 : Nat) : Int) + 10) = ((r - 87 : Nat) : Int) := fun h => by rw [wrap64 (by omega) (by omega)]; omega
  obtain ⟨R, hR⟩ : ∃ R, R = (if v < 16 then (v : Int) else -1) := ⟨_, rfl⟩
  rw [← hR]
  refine PC.of_body follows Tryz.func79 (by decide +kernel) rfl (by kernel_rfl) (Nat.le_of_ble_eq_true rfl) (walk ?_)
  simp only [Tryz.f79, go_sem]
  by_cases h1 : 48 ≤ r ∧ r ≤ 57
  · rw [if_pos h1] at ev
    refine qif_dt (by omega) ?_
    simp only [Tryz.f79, go_sem]
    refine qif_dt (by omega) ?_
    simp only [Tryz.f79, w1 h1.1, w3, go_sem]
    rw [hR, if_pos (by omega), ev]
  rw [if_neg h1] at ev
  by_cases h2 : 97 ≤ r ∧ r ≤ 102
  · rw [if_pos h2] at ev
    repeat' first
      | (exfalso; omega)
      | ((with_reducible refine qif_d (fun h => ?_) (fun h => ?_)) <;> first | (exfalso; omega) | simp only [Tryz.f79, w2 h2.1, w4, w5 h2.1, go_sem])
      | (rw [hR, if_pos (by omega), ev]; done)
  · rw [if_neg h2] at ev
    repeat' first
      | (exfalso; omega)
      | ((with_reducible refine qif_d (fun h => ?_) (fun h => ?_)) <;> first | (exfalso; omega) | simp only [Tryz.f79, go_sem])
      | (rw [hR, if_neg (by omega)]; done)
theorem B8_get {l : List UInt8} {i : Nat} (h : i < l.length) (h' : i < (B8 l).size) : (B8 l)[i]'h' = l.getD i 0 := by
  rw [List.getD_eq_getElem?_getD, List.getElem?_eq_getElem h]
  show (B8 l).data[i]'_ = _
  simp [B8]
theorem bitLen16 (n : Nat) (k : Nat) (h : n < 16 ^ k) : bitLen n ≤ 4 * k := (bitLen_le n (4 * k)).2 (by rw [Nat.pow_mul]; exact h)
theorem B8_empty (l : List UInt8) : (!(B8 l).toList.isEmpty) = decide (l ≠ []) := by
  have e : (B8 []).toList = [] := by
    rw [ByteArray.toList, ByteArray.toList.loop]
    simp [B8, ByteArray.size]
  cases l with
  | nil => rw [e]; rfl
  | cons c l =>
    have h := byteArray_beq (B8 (c :: l)) (B8 [])
    rw [decide_eq_false (by rw [B8_inj]; simp)] at h
    rw [e] at h
    cases hh : (B8 (c :: l)).toList with
    | nil => rw [hh] at h; cases h
    | cons x y => simp
theorem none_pair {ps : List (PV × Value)} : ∀ q ∈ [(PV.lst 0 [], Value.slice none 0 0), (PV.bool false, Value.bool false)], q ∈ ps ∨ ∀ g, Rep g q.1 q.2 := fun q hq => by
  rcases List.mem_cons.1 hq with rfl | hq
  · exact .inr fun g => .nil
  · rw [List.mem_singleton] at hq
    subst hq
    exact .inr fun g => .bool _
set_option maxHeartbeats 4000000 in
theorem h_number {l : List UInt8} (hl : l.length ≤ 1000) : PC E 35 [TX l] (if l.all hx = true then .tuple [NN (hn l), .bool (decide (l ≠ []))] else .tuple [.lst 0 [], .bool false]) := by
  obtain ⟨R, hR⟩ : ∃ R, R = (if l.all hx = true then PV.tuple [NN (hn l), .bool (decide (l ≠ []))] else .tuple [.lst 0 [], .bool false]) := ⟨_, rfl⟩
  rw [← hR]
  intro w Pr vs hPr hG hsz hreps
  obtain rfl := one_str hsz hreps
  have hent : ∀ (vs : Array Value) (w : World), (callFunc 35 vs).run E.P w = .ok (.enter 35 vs) w := enters_of Tryz.func35 (by kernel_rfl) rfl
  have hent1 : ∀ (vs : Array Value) (w : World), (callFunc 79 vs).run E.P w = .ok (.enter 79 vs) w := enters_of Tryz.func79 (by kernel_rfl) rfl
  have hent2 : ∀ (vs : Array Value) (w : World), (callFunc 80 vs).run E.P w = .ok (.enter 80 vs) w := enters_of Tryz.func80 (by kernel_rfl) rfl
  have hent3 : ∀ (vs : Array Value) (w : World), (callFunc 82 vs).run E.P w = .ok (.enter 82 vs) w := enters_of Tryz.func82 (by kernel_rfl) rfl
  have hent4 : ∀ (vs : Array Value) (w : World), (callFunc 81 vs).run E.P w = .ok (.enter 81 vs) w := enters_of Tryz.func81 (by kernel_rfl) rfl
  rw [hent]
  refine ⟨rfl, ?_⟩
  have hsl : (B8 l).size = l.length := B8_size l
  have hst : AtL w Pr w [(NN 0, .slice none 0 0)] := AtL.start hPr hG fun q hq => by
    rw [List.mem_singleton] at hq
    subst hq
    exact Rep.nil
  clear hPr hG hreps hsz hent
  show Calls Tryz.prog 35 #[.string (B8 l)] w _
  go_enter Tryz.func35, Tryz.ntmps35
  go_wp2
  go_loopw [4] (fun n wr => ∃ (pos : Nat), pos ≤ l.length ∧ Hid ((l.take pos).all hx = true) ∧ wr.heap[w.heap.size]? = some (.stringIter (B8 l) pos) ∧ Below w.heap.size w wr ∧ AtL w Pr wr [(NN (hn (l.take pos)), n)]) (fun _ wr => l.length - wr.iterPos w.heap.size)
  case atStart =>
    have hb : Below w.heap.size w (w.iter (B8 l) 0) := (Below.refl _ w).alloc (Nat.le_refl _) _
    exact ⟨0, Nat.zero_le _, rfl, World.iter_heap w (B8 l) 0, hb, hst.below hb⟩
  case round =>
    obtain ⟨pos, hpl, hall, hit, hbw, hA⟩ := hrel
    have hsz1 : w.heap.size < wr.heap.size := (Array.getElem?_eq_some_iff.1 hit).1
    by_cases hp : pos < l.length
    · have hp' : pos < (B8 l).size := by omega
      have hg := B8_get hp hp'
      have hsn := take_getD hp
      have hit2 := Lib.iterAt_heap wr w.heap.size (B8 l) pos (pos + 1) hit
      have hbw2 := Lib.below_iterAt hbw (k := w.heap.size) (Nat.le_refl _) (B8 l) (pos + 1)
      have hA2 := hA.iter hit (pos + 1)
      have hsz2 : w.heap.size < (wr.iterAt w.heap.size (B8 l) (pos + 1)).heap.size := by rw [Lib.iterAt_size]; exact hsz1
      have hmem : l.getD pos 0 ∈ l := getD_mem hp
      by_cases ha : (l.getD pos 0).toNat < 128
      · have hnx : ∀ ty, (Instr.next (.pointer (some ⟨w.heap.size, 0, none⟩)) true ty).run Tryz.prog wr = .ok (.tuple #[.bool true, .int .i64 pos, .int .i32 ((l.getD pos 0).toNat : Nat)]) (wr.iterAt w.heap.size (B8 l) (pos + 1)) := fun ty => by
          rw [Lib.run_next_ascii_at wr w.heap.size (B8 l) pos ty hit hp' (by rw [hg]; exact ha), hg]
        have k1 := c_digit (l.getD pos 0) ha
        generalize l.getD pos 0 = c at *
        generalize wr.iterAt w.heap.size (B8 l) (pos + 1) = W0 at *
        by_cases hd : hx c = true
        · rw [if_pos hd] at k1
          have hdv := hv_lt hd
          have hxb : bitLen (hn (l.take pos)) ≤ 4 * 1000 := by
            have h1 := hn_lt _ hall
            rw [List.length_take] at h1
            exact Nat.le_trans (bitLen16 _ _ h1) (by omega)
          have k2 := k_Shln (num_bits (x := hn (l.take pos)) (by omega)) 4 (by omega)
          rw [show ((4 : Nat) : Int) = 4 from rfl, show (2 : Nat) ^ 4 = 16 from rfl] at k2
          have k3 := c_Of (hv c) (show hv c < 18446744073709551616 by omega)
          have hxb2 : bitLen (hn (l.take pos) * 16) ≤ 100000 := by
            have := bitLen_shl_le (hn (l.take pos)) 4
            rw [show (2 : Nat) ^ 4 = 16 from rfl] at this
            omega
          have hxb3 : bitLen (hv c) ≤ 100000 := Nat.le_trans ((bitLen_le (hv c) 4).2 (by omega)) (by decide)
          have k4 := k_Add (num_bits (x := hn (l.take pos) * 16) (by omega)) (num_bits (x := hv c) (by omega))
          have hn1 : hn (l.take (pos + 1)) = hn (l.take pos) * 16 + hv c := by rw [← hsn, hn_snoc]
          have ha1 : (l.take (pos + 1)).all hx = true := by rw [← hsn, List.all_append, hall, List.all_cons, hd]; rfl
          rw [← hn1] at k4
          clear hxb hxb2 hxb3 hall hn1 hsn
          have hw : IntKind.wrap .u64 (hv c : Int) = hv c := by rw [IntKind.wrap_u64]; omega
          have hlt : ¬ (hv c : Int) < 0 := by omega
          go_wp2_with (first
            | (go_at_call 79; refine (hA2.calls (Nat.le_of_lt hsz2) k1 hent1 rfl args_i).mono ?_; rintro e W1 ⟨v1, rfl, hb1, hA3⟩; obtain rfl := hA3.int; have hB3 := hA3.tail; have hs1 : w.heap.size < W1.heap.size := Nat.lt_of_lt_of_le hsz2 hb1.size)
            | (go_at_call 80; refine (hB3.calls (Nat.le_of_lt hs1) k2 hent2 rfl (args_vi List.mem_cons_self)).mono ?_; rintro e W2 ⟨v2, rfl, hb2, hA4⟩; obtain ⟨x2, y2, rfl, hB4⟩ := hA4.two; have hs2 : w.heap.size < W2.heap.size := Nat.lt_of_lt_of_le hs1 hb2.size)
            | (go_at_call 82; refine (hB4.calls (Nat.le_of_lt hs2) k3 hent3 rfl args_i).mono ?_; rintro e W3 ⟨v3, rfl, hb3, hA5⟩; have hs3 : w.heap.size < W3.heap.size := Nat.lt_of_lt_of_le hs2 hb3.size)
            | (go_at_call 81; refine (hA5.calls (Nat.le_of_lt hs3) k4 hent4 rfl (args_vv (List.mem_cons_of_mem _ List.mem_cons_self) List.mem_cons_self)).mono ?_; rintro e W4 ⟨v4, rfl, hb4, hA6⟩))
          have hit4 := below_iter hb4 (below_iter hb3 (below_iter hb2 (below_iter hb1 hit2)))
          have hbw4 := below_to (below_to (below_to (below_to hbw2 (Nat.le_of_lt hsz2) hb1) (Nat.le_of_lt hs1) hb2) (Nat.le_of_lt hs2) hb3) (Nat.le_of_lt hs3) hb4
          go_roundw
          case rel =>
            exact ⟨pos + 1, by omega, ha1, hit4, hbw4, hA6.sub fun q hq => .inl (by rw [List.mem_singleton] at hq; subst hq; exact List.mem_cons_self)⟩
          case measure =>
            simp only [World.iterPos, hit4, hit]
            omega
        · rw [if_neg hd] at k1
          have hne : ¬ l.all hx = true := fun h => hd (List.all_eq_true.1 h _ hmem)
          rw [if_neg hne] at hR
          go_wp2_with (first
            | (go_at_call 79; refine (hA2.calls (Nat.le_of_lt hsz2) k1 hent1 rfl args_i).mono ?_; rintro e W1 ⟨v1, rfl, hb1, hA3⟩; obtain rfl := hA3.int; have hB3 := hA3.tail; have hs1 : w.heap.size < W1.heap.size := Nat.lt_of_lt_of_le hsz2 hb1.size))
          go_ret2
          refine ⟨_, rfl, ?_⟩
          rw [hR]
          exact (AtL.mk2 (hB3.sub none_pair)).post (below_to hbw2 (Nat.le_of_lt hsz2) hb1)
      · have hhi := decode_high (B8 l) pos hp' (by rw [hg]; omega)
        have hhx : ¬ hx (l.getD pos 0) = true := fun h => by
          have h1 := hv_lt h
          unfold hv at h1
          rw [if_neg (by omega), if_neg (by omega)] at h1
          omega
        have hne : ¬ l.all hx = true := fun h => hhx (List.all_eq_true.1 h _ hmem)
        rw [if_neg hne] at hR
        have hit2 := Lib.iterAt_heap wr w.heap.size (B8 l) pos (pos + (Utf8.decode (B8 l) pos).2) hit
        have hbw2 := Lib.below_iterAt hbw (k := w.heap.size) (Nat.le_refl _) (B8 l) (pos + (Utf8.decode (B8 l) pos).2)
        have hA2 := hA.iter hit (pos + (Utf8.decode (B8 l) pos).2)
        have hsz2 : w.heap.size < (wr.iterAt w.heap.size (B8 l) (pos + (Utf8.decode (B8 l) pos).2)).heap.size := by rw [Lib.iterAt_size]; exact hsz1
        have k1 := c_digitHi (Utf8.decode (B8 l) pos).1 (by omega)
        have hnx : ∀ ty, (Instr.next (.pointer (some ⟨w.heap.size, 0, none⟩)) true ty).run Tryz.prog wr = _ := fun ty => Lib.run_next_any_at wr w.heap.size (B8 l) pos ty hit hp'
        generalize wr.iterAt w.heap.size (B8 l) (pos + (Utf8.decode (B8 l) pos).2) = W0 at *
        generalize (Utf8.decode (B8 l) pos).1 = rn at *
        go_wp2_with (first
          | (go_at_call 79; refine (hA2.calls (Nat.le_of_lt hsz2) k1 hent1 rfl args_i).mono ?_; rintro e W1 ⟨v1, rfl, hb1, hA3⟩; obtain rfl := hA3.int; have hB3 := hA3.tail; have hs1 : w.heap.size < W1.heap.size := Nat.lt_of_lt_of_le hsz2 hb1.size))
        go_ret2
        refine ⟨_, rfl, ?_⟩
        rw [hR]
        exact (AtL.mk2 (hB3.sub none_pair)).post (below_to hbw2 (Nat.le_of_lt hsz2) hb1)
    · have hnx : ∀ ty, (Instr.next (.pointer (some ⟨w.heap.size, 0, none⟩)) true ty).run Tryz.prog wr = _ := fun ty => Lib.run_next_end_at wr w.heap.size (B8 l) pos ty hit (by omega)
      have hpe : pos = l.length := by omega
      subst hpe
      rw [List.take_length] at hall hA
      have hall2 : l.all hx = true := hall
      rw [if_pos hall2] at hR
      go_wp2
      go_ret2
      refine ⟨_, rfl, ?_⟩
      rw [hR]
      refine (AtL.mk2 (ps := []) (hA.sub (qs := [(NN (hn l), u4), (.bool (decide (l ≠ [])), .bool !(B8 l).toList.isEmpty)]) fun q hq => ?_)).post hbw
      rcases List.mem_cons.1 hq with rfl | hq
      · exact .inl List.mem_cons_self
      · rw [List.mem_singleton] at hq
        subst hq
        refine .inr fun g => ?_
        rw [B8_empty]
        exact .bool _
end Go.Proofs.YtnccaoeeedhgbaaGreatDoor
