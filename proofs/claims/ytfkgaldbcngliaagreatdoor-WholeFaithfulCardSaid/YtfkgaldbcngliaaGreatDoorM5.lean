/- Several parts in one text. -/
import Derived.Test.YtfkgaldbcngliaaGreatDoorM4
open Go PG Go.Proofs
set_option linter.unusedSimpArgs false
set_option linter.unusedVariables false
set_option maxRecDepth 100000
namespace Go.Proofs.YtfkgaldbcngliaaGreatDoor
attribute [local go_sem] Lay2 Lay3 Lay4 Lay5 Lay9 Lay22 Lay26 Lay27 Lay29 Lay31 Lay32 Lay34 Lay41 Lay43 Lay48 Lay61 Lay63 Lay72 Lay74 Lay84 Lay91 Lay93 Lay103 Lay139 Lay143 Lay149 Lay160 Lay175 Lay193 Lay208 Lay210 Lay229 Lay238 Lay287 Lay297 qexec_seq qexec_skip qexec_exit qexec_ret qexec_block qexec_loop qexec_range qexec_cond qexec_region qexec_drawn qops_nil qops_none qops_some put_some put_none pblk_exit pblk_other newDsts_nil inlDsts_nil isInl sget_cons sget_nil qval_some qbool_some qgs_bool qgs_und qfree_some qgrd_true qgrd_false qif_true qif_false qval_ite qval_itn qand_true map_ite map_some' map_none' qdo_move qdo_assign qdo_binOp qdo_pick qdo_unOp qdo_convert qdo_extract qdo_field qdo_fieldAddr qdo_alloc qdo_box qdo_build qdo_buildSlice qdo_load qdo_store qdo_makeFunc qdo_makeSlice qdo_slice qdo_indexAddr qdo_call qcont_val qcont_new qcont_st qcont_app0 qcont_app qcont_inl qcont_call njSV_val njSV_nil njSV_row njSV_sub binV_val binV_nil binV_nn bin_np bin_nnp nilCmp bin_add bin_sub bin_mul bin_quo bin_rem bin_and bin_or bin_andNot bin_eql bin_neq bin_lss bin_leq bin_gtr bin_geq bin_shl bin_shr bin_beql bin_aeql eqAnd_some eqCells_nil eqCells_cons fieldTypes isStruct eqCell bin_bneq un_not un_neg Nat.beq stepA stepR isNew opSV constSV RV.sv allSome E_mu E_own qkeyIn_none qkeyIn_some qkeyAt_none qkeyAt_some Bool.or_false Bool.false_or Bool.or_true Bool.true_or cst setB res resSV pstart startL killL kill1 eraL frzL svPV rvPV rvInt rvSlice rvBytes frzOf close closeL pconv pbuiltin pmax2 partPV setCells fillPV zrow bound newSV PV.cells Bk.cells Bk.with SV.key pres presL_nil presL_tmp presL_cell presC2_some cellPV_ptr presC List.toList_toArray List.size_toArray List.getElem?_drop Nat.mul_one Int.toNat_natCast Nat.not_lt_zero Nat.lt_irrefl decide_true decide_false Nat.not_lt Option.some.injEq PV.lst.injEq PV.int.injEq PV.bool.injEq PV.tuple.injEq List.cons.injEq Option.map_some Option.map_none Option.bind_some Option.toList List.map_cons List.map_nil List.nil_append List.cons_append List.append_nil List.zip_cons_cons List.zip_nil_left List.zip_nil_right List.getElem?_cons_zero List.getElem?_cons_succ List.drop_zero List.drop_succ_cons List.take_succ_cons List.take_zero List.set_cons_zero List.set_cons_succ List.length_cons List.length_nil List.length_set List.replicate_one List.replicate_zero bne_self_eq_false beq_self_eq_true Nat.zero_add Nat.add_zero Nat.zero_mul Bool.false_eq_true Bool.true_eq_false Bool.not_true Bool.not_false and_true true_and false_and and_false or_false false_or or_true true_or not_true_eq_false not_false_eq_true ne_eq gt_iff_lt List.mem_cons List.not_mem_nil
attribute [local go_sem ↓] pseq_normal pseq_ret pseq_exit pblk_normal pblk_ret newDsts_cons inlDsts_cons gdst_zero gdst_succ retQ_ret qneed_nil qneed_cons retM_normal retM_ret endR_normal endR_ret
attribute [local go_sem] Int.reduceToNat Int.reduceEq Int.reduceNe Int.reduceLT Int.reduceLE Int.reduceNeg Int.reduceAdd Nat.reduceEqDiff Nat.reduceAdd Nat.reduceSub Nat.reduceMul Nat.reduceLeDiff Nat.reduceLT
attribute [local go_sem ↓] reduceIte reduceCtorEq
section
open XX
theorem mid7_val {b:Nat} (hb:b<INF):(mid7 b).val=(mid b).val:=(val_pt (mid7_ge b) (mid_ge b)).2 (mid7_at hb)
theorem mid_val_pos (b:Nat):0<(mid b).val:=by
 rw [val_form,if_neg (show ¬(mid b).s=true from Bool.false_ne_true)]
 exact Rat.mul_pos (nc_pos (show 0<2*fm b+1 by omega)) (z2_pos _)
theorem mid7_sm {b k:Nat} (hb:b<INF) (hk:k≤60):SmN (mid7 b) k:=by
 have h1:=mid7_bits b
 have h2:=mid7_e b
 obtain ⟨hs,hm⟩:=val_s (d:=mid7 b) (by rw [mid7_val hb];exact mid_val_pos b)
 refine ⟨hs,hm,?_,by omega,by omega,by omega⟩
 have:=Nat.mul_le_mul h1 hk
 omega
def powIs (y:Rat) (k L:Nat):Prop:=(L=INF∧(fd INF).val^k=y)∨(L≠INF∧((L≠0∧(fd L).val^k=y)∨(mid L).val^k=y))
theorem cR_eq {x b:Dy} (hx:x.s=false) (hb:b.s=false) (hxm:x.m≠0) (hbm:b.m≠0) (m:Int) (k:Nat):cR x m b k=0↔b.val^k=x.val^m:=by
 rw [(cR_val hx hb hxm hbm m k).2.1]
 exact ⟨fun h=>h.symm,fun h=>h.symm⟩
theorem nv_form (d:Dy):d.nv = .agg [.bool d.s,.lst (dg B d.m).length (V (dg B d.m)),.int .i64 d.e]:=rfl
theorem c_11Power {x:Dy} {m:Int} {k L:Nat} (hx:SmN x m.natAbs) (hk:1≤k) (hk2:k≤60) (hL:LwV (x.val^m) k L):∃(v:PV) (b:Bool),PC E 37 [x.nv,.int .i64 m,.int .i64 k] (.tuple [v,.bool b])∧(b=true↔powIs (x.val^m) k L)∧∃a c d,v = .agg [a,c,d]:=by
 have hI:INF=9218868437227405312:=rfl
 have k1:=c_11Below hx hk (by omega) hL
 have kL:=c_Limit
 by_cases c1:L=INF
 ·have sI:=fd_sm (b:=INF) (k:=k) (Nat.le_refl _) (by decide) (by omega)
  have k2:=c_10Cmp hx sI
  have g2:=cR_eq hx.s sI.s hx.m sI.m m k
  have q1:decide ((L:Int)=9218868437227405312)=true:=decide_eq_true (by omega)
  by_cases c2:cR x m (fd INF) k=0
  ·refine ⟨_,true,?_,⟨fun _ => .inl ⟨c1,g2.1 c2⟩,fun _=>rfl⟩,_,_,_,nv_form (fd INF)⟩
   rw [c2] at k2
   generalize fd INF=D at *
   simp only [nv_form,u] at k1 k2 kL ⊢
   refine PC.of_body follows Tryz.func37 (by decide +kernel) rfl (by kernel_rfl) (Nat.le_of_ble_eq_true rfl) (walk ?_)
   simp only [Tryz.f37,go_sem]
   refine qcall_i (k1) ?_;simp only [Tryz.f37,q1,go_sem]
   refine qcall_i (kL) ?_;simp only [Tryz.f37,go_sem]
   refine qcall_i (k2) ?_;simp only [Tryz.f37,go_sem]
   refine qcall_i (kL) ?_;simp only [Tryz.f37,go_sem]
   try rfl
  ·refine ⟨Dy.zero.pv,false,?_,⟨fun h=>absurd h Bool.false_ne_true,fun h=>?_⟩,_,_,_,rfl⟩
   ·have g3:decide (cR x m (fd INF) k=0)=false:=decide_eq_false c2
    generalize cR x m (fd INF) k=C at *
    generalize fd INF=D at *
    simp only [nv_form,zero_pv,u] at k1 k2 kL ⊢
    refine PC.of_body follows Tryz.func37 (by decide +kernel) rfl (by kernel_rfl) (Nat.le_of_ble_eq_true rfl) (walk ?_)
    simp only [Tryz.f37,go_sem]
    refine qcall_i (k1) ?_;simp only [Tryz.f37,q1,go_sem]
    refine qcall_i (kL) ?_;simp only [Tryz.f37,go_sem]
    refine qcall_i (k2) ?_;simp only [Tryz.f37,g3,go_sem]
    try rfl
   ·rcases h with h | h
    ·exact absurd (g2.2 h.2) c2
    ·exact absurd c1 h.1
 ·have hLI:L<INF:=by have:=hL.1;omega
  have kw:=c_Worth L (INF_W hL.1)
  have km:=c_7Middle L hLI
  have sM:=mid7_sm (b:=L) (k:=k) hLI hk2
  have k3:=c_10Cmp hx sM
  have g3:=cR_eq hx.s sM.s hx.m sM.m m k
  rw [mid7_val hLI] at g3
  have kM:∀D:PV,D=D:=fun _=>rfl
  by_cases c2:L≠0∧cR x m (fd L) k=0
  ·have sL:=fd_sm (b:=L) (k:=k) hL.1 c2.1 (by omega)
   have k2:=c_10Cmp hx sL
   have g2:=cR_eq hx.s sL.s hx.m sL.m m k
   refine ⟨_,true,?_,⟨fun _ => .inr ⟨c1,.inl ⟨c2.1,g2.1 c2.2⟩⟩,fun _=>rfl⟩,_,_,_,nv_form (fd L)⟩
   rw [c2.2] at k2
   have q2:decide ((L:Int)>0)=true:=decide_eq_true (by omega)
   generalize fd L=D at *
   simp only [nv_form,u] at k1 k2 kw ⊢
   refine PC.of_body follows Tryz.func37 (by decide +kernel) rfl (by kernel_rfl) (Nat.le_of_ble_eq_true rfl) (walk ?_)
   simp only [Tryz.f37,go_sem]
   refine qcall_i (k1) ?_;simp only [Tryz.f37,go_sem]
   refine qif_df (by omega) ?_
   simp only [Tryz.f37,go_sem]
   refine qcall_i (kw) ?_;simp only [Tryz.f37,q2,go_sem]
   refine qcall_i (k2) ?_;simp only [Tryz.f37,go_sem]
   try rfl
  ·
   have first:∀R:PV,R=R:=fun _=>rfl
   have go:∀b:Bool,(b=true↔cR x m (mid7 L) k=0)→∃v,PC E 37 [x.nv,.int .i64 m,.int .i64 k] (.tuple [v,.bool b])∧∃a c d,v = .agg [a,c,d]:=fun b hb=>by
    by_cases z:L=0
    ·have q2:decide ((L:Int)>0)=false:=decide_eq_false (by omega)
     cases b with
     | true=>
      rw [hb.1 rfl] at k3
      refine ⟨_,?_,_,_,_,nv_form (mid7 L)⟩
      generalize fd L=D at *
      generalize mid7 L=M at *
      simp only [nv_form,u] at k1 kw km k3 ⊢
      refine PC.of_body follows Tryz.func37 (by decide +kernel) rfl (by kernel_rfl) (Nat.le_of_ble_eq_true rfl) (walk ?_)
      simp only [Tryz.f37,go_sem]
      refine qcall_i (k1) ?_;simp only [Tryz.f37,go_sem]
      refine qif_df (by omega) ?_
      simp only [Tryz.f37,go_sem]
      refine qcall_i (kw) ?_;simp only [Tryz.f37,q2,go_sem]
      refine qcall_i (km) ?_;simp only [Tryz.f37,go_sem]
      refine qcall_i (k3) ?_;simp only [Tryz.f37,go_sem]
      try rfl
     | false=>
      have c3:cR x m (mid7 L) k≠0:=fun h=>absurd (hb.2 h) Bool.false_ne_true
      refine ⟨Dy.zero.pv,?_,_,_,_,rfl⟩
      generalize cR x m (mid7 L) k=C at *
      generalize fd L=D at *
      generalize mid7 L=M at *
      simp only [nv_form,zero_pv,u] at k1 kw km k3 ⊢
      refine PC.of_body follows Tryz.func37 (by decide +kernel) rfl (by kernel_rfl) (Nat.le_of_ble_eq_true rfl) (walk ?_)
      simp only [Tryz.f37,go_sem]
      refine qcall_i (k1) ?_;simp only [Tryz.f37,go_sem]
      refine qif_df (by omega) ?_
      simp only [Tryz.f37,go_sem]
      refine qcall_i (kw) ?_;simp only [Tryz.f37,q2,go_sem]
      refine qcall_i (km) ?_;simp only [Tryz.f37,go_sem]
      refine qcall_i (k3) ?_;simp only [Tryz.f37,go_sem]
      refine qif_df c3 ?_
      simp only [Tryz.f37,go_sem]
      try rfl
    ·have q2:decide ((L:Int)>0)=true:=decide_eq_true (by omega)
     have sL:=fd_sm (b:=L) (k:=k) hL.1 z (by omega)
     have k2:=c_10Cmp hx sL
     have c4:cR x m (fd L) k≠0:=fun h=>c2 ⟨z,h⟩
     have g4:decide (cR x m (fd L) k=0)=false:=decide_eq_false c4
     cases b with
     | true=>
      rw [hb.1 rfl] at k3
      refine ⟨_,?_,_,_,_,nv_form (mid7 L)⟩
      generalize cR x m (fd L) k=C4 at *
      generalize fd L=D at *
      generalize mid7 L=M at *
      simp only [nv_form,u] at k1 kw km k2 k3 ⊢
      refine PC.of_body follows Tryz.func37 (by decide +kernel) rfl (by kernel_rfl) (Nat.le_of_ble_eq_true rfl) (walk ?_)
      simp only [Tryz.f37,go_sem]
      refine qcall_i (k1) ?_;simp only [Tryz.f37,go_sem]
      refine qif_df (by omega) ?_
      simp only [Tryz.f37,go_sem]
      refine qcall_i (kw) ?_;simp only [Tryz.f37,q2,go_sem]
      refine qcall_i (k2) ?_;simp only [Tryz.f37,g4,go_sem]
      refine qcall_i (km) ?_;simp only [Tryz.f37,go_sem]
      refine qcall_i (k3) ?_;simp only [Tryz.f37,go_sem]
      try rfl
     | false=>
      have c3:cR x m (mid7 L) k≠0:=fun h=>absurd (hb.2 h) Bool.false_ne_true
      refine ⟨Dy.zero.pv,?_,_,_,_,rfl⟩
      generalize cR x m (mid7 L) k=C at *
      generalize cR x m (fd L) k=C4 at *
      generalize fd L=D at *
      generalize mid7 L=M at *
      simp only [nv_form,zero_pv,u] at k1 kw km k2 k3 ⊢
      refine PC.of_body follows Tryz.func37 (by decide +kernel) rfl (by kernel_rfl) (Nat.le_of_ble_eq_true rfl) (walk ?_)
      simp only [Tryz.f37,go_sem]
      refine qcall_i (k1) ?_;simp only [Tryz.f37,go_sem]
      refine qif_df (by omega) ?_
      simp only [Tryz.f37,go_sem]
      refine qcall_i (kw) ?_;simp only [Tryz.f37,q2,go_sem]
      refine qcall_i (k2) ?_;simp only [Tryz.f37,g4,go_sem]
      refine qcall_i (km) ?_;simp only [Tryz.f37,go_sem]
      refine qcall_i (k3) ?_;simp only [Tryz.f37,go_sem]
      refine qif_df c3 ?_
      simp only [Tryz.f37,go_sem]
      try rfl
   obtain ⟨v,k5,hv⟩:=go (decide (cR x m (mid7 L) k=0)) decide_eq_true_iff
   refine ⟨v,_,k5,?_,hv⟩
   rw [decide_eq_true_eq,g3]
   constructor
   ·intro h
    exact .inr ⟨c1,.inr h⟩
   ·intro h
    rcases h with h | ⟨-,h | h⟩
    ·exact absurd h.1 c1
    ·have sL:=fd_sm (b:=L) (k:=k) hL.1 h.1 (by omega)
     exact absurd ⟨h.1,(cR_eq hx.s sL.s hx.m sL.m m k).2 h.2⟩ c2
    ·exact h
end
section
open XX
def tbS (L:Nat) (neg:Bool) (dir:Int):Nat:=if upw dir neg=true then (if L=INF then INF else L+1) else (if L=INF then MAX else L)
theorem nv_tiny:(⟨false,1,-1022⟩:Dy).nv = .agg [.bool false,.lst 1 [.int .u32 1],.int .i64 (-1022)]:=by
 show PV.agg [.bool false,VN 1,.int .i64 (-1022)]=_
 rw [VN_one]
theorem wrapS {b:Nat} (hb:b≤INF):IntKind.wrap .u64 ((b:Int)+9223372036854775808)=((withS true b:Nat):Int)∧IntKind.wrap .u64 ((b:Int)+0)=((withS false b:Nat):Int):=by
 have hI:INF=9218868437227405312:=rfl
 have hW:W=18446744073709551616:=rfl
 constructor
 ·rw [show (b:Int)+9223372036854775808=((b+9223372036854775808:Nat):Int) by omega]
  exact wrap_nat64 (by omega)
 ·rw [show (b:Int)+0=((b:Nat):Int) by omega]
  exact wrap_nat64 (by omega)
set_option maxHeartbeats 4000000 in
theorem c_23True {x:Dy} {m:Int} {k L:Nat} (hx:SmN x m.natAbs) (hk:1≤k) (hk2:k≤60) (hL:LwV (x.val^m) k L) (neg:Bool) {dir:Int} (hd:dir=2∨dir=3) :
  ∃b f:Nat,PC E 35 [x.nv,.int .i64 m,.int .i64 k,.bool neg,.int .i64 dir] (.tuple [.int .u64 (b:Nat),.int .i64 (f:Nat)]) ∧
   ((L≠INF∧L≠0∧(fd L).val^k=x.val^m)→b=withS neg L∧f=0)∧(¬(L≠INF∧L≠0∧(fd L).val^k=x.val^m)→b=withS neg (tbS L neg dir)∧f≠0):=by
 have hI:INF=9218868437227405312:=rfl
 have hM:MAX=9218868437227405311:=rfl
 have hW:W=18446744073709551616:=rfl
 have hLI:=hL.1
 have k1:=c_11Below hx hk (by omega) hL
 have kw:=c_Worth L (INF_W hL.1)
 have sT:SmN ⟨false,1,-1022⟩ k:=⟨rfl,by decide,Nat.le_trans (Nat.mul_le_mul (show bitLen 1≤1 by decide) hk2) (by decide),by decide,by decide,by omega⟩
 have k3:=c_10Cmp hx sT
 rw [nv_tiny] at k3
 by_cases c1:L=INF
 ·
  have q1:decide ((L:Int)=9218868437227405312)=true:=decide_eq_true (by omega)
  refine ⟨withS neg (tbS L neg dir),5,?_,fun h=>absurd c1 h.1,fun _=>⟨rfl,by decide⟩⟩
  obtain ⟨s1,s2⟩:=wrapS (b:=INF) (Nat.le_refl _)
  obtain ⟨s3,s4⟩:=wrapS (b:=MAX) (by omega)
  rw [hI] at s1 s2
  rw [hM] at s3 s4
  have e1:((L:Nat):Int)=9218868437227405312:=by omega
  unfold tbS
  simp only [nv_form,u] at k1 ⊢
  rw [e1] at k1
  rcases hd with rfl | rfl<;>cases neg
  ·rw [if_pos (show upw 2 false=true from rfl),if_pos c1,hI]
   refine PC.of_body follows Tryz.func35 (by decide +kernel) rfl (by kernel_rfl) (Nat.le_of_ble_eq_true rfl) (walk ?_)
   simp only [Tryz.f35,go_sem]
   refine qcall_i (k1) ?_;simp only [Tryz.f35,go_sem]
   exact ⟨by decide,rfl⟩
  ·rw [if_neg (show ¬upw 2 true=true by decide),if_pos c1,hM]
   refine PC.of_body follows Tryz.func35 (by decide +kernel) rfl (by kernel_rfl) (Nat.le_of_ble_eq_true rfl) (walk ?_)
   simp only [Tryz.f35,go_sem]
   refine qcall_i (k1) ?_;simp only [Tryz.f35,go_sem]
   exact ⟨by decide,rfl⟩
  ·rw [if_neg (show ¬upw 3 false=true by decide),if_pos c1,hM]
   refine PC.of_body follows Tryz.func35 (by decide +kernel) rfl (by kernel_rfl) (Nat.le_of_ble_eq_true rfl) (walk ?_)
   simp only [Tryz.f35,go_sem]
   refine qcall_i (k1) ?_;simp only [Tryz.f35,go_sem]
   exact ⟨by decide,rfl⟩
  ·rw [if_pos (show upw 3 true=true from rfl),if_pos c1,hI]
   refine PC.of_body follows Tryz.func35 (by decide +kernel) rfl (by kernel_rfl) (Nat.le_of_ble_eq_true rfl) (walk ?_)
   simp only [Tryz.f35,go_sem]
   refine qcall_i (k1) ?_;simp only [Tryz.f35,go_sem]
   exact ⟨by decide,rfl⟩
 have hLI2:L<INF:=by omega
 have q1:decide ((L:Int)=9218868437227405312)=false:=decide_eq_false (by omega)
 obtain ⟨s1,s2⟩:=wrapS (b:=L) hLI
 obtain ⟨s3,s4⟩:=wrapS (b:=L+1) (by omega)
 have wp:IntKind.wrap .u64 ((L:Int)+1)=((L+1:Nat):Int):=by
  rw [show (L:Int)+1=((L+1:Nat):Int) by omega];exact wrap_nat64 (by omega)
 by_cases ex:L≠0∧cR x m (fd L) k=0
 ·have sL:=fd_sm (b:=L) (k:=k) hLI ex.1 (by omega)
  have k2:=c_10Cmp hx sL
  have g2:=cR_eq hx.s sL.s hx.m sL.m m k
  refine ⟨withS neg L,0,?_,fun _=>⟨rfl,rfl⟩,fun h=>absurd ⟨c1,ex.1,g2.1 ex.2⟩ h⟩
  rw [ex.2] at k2
  have q2:decide ((L:Int)>0)=true:=decide_eq_true (by omega)
  generalize fd L=D at *
  simp only [nv_form,u] at k1 k2 kw ⊢
  cases neg
  ·refine PC.of_body follows Tryz.func35 (by decide +kernel) rfl (by kernel_rfl) (Nat.le_of_ble_eq_true rfl) (walk ?_)
   simp only [Tryz.f35,go_sem]
   refine qcall_i (k1) ?_;simp only [Tryz.f35,q1,q2,go_sem]
   refine qcall_i (kw) ?_;simp only [Tryz.f35,go_sem]
   refine qcall_i (k2) ?_;simp only [Tryz.f35,s1,s2,go_sem]
   try rfl
  ·refine PC.of_body follows Tryz.func35 (by decide +kernel) rfl (by kernel_rfl) (Nat.le_of_ble_eq_true rfl) (walk ?_)
   simp only [Tryz.f35,go_sem]
   refine qcall_i (k1) ?_;simp only [Tryz.f35,q1,q2,go_sem]
   refine qcall_i (kw) ?_;simp only [Tryz.f35,go_sem]
   refine qcall_i (k2) ?_;simp only [Tryz.f35,s1,s2,go_sem]
   try rfl
 have nex:¬(L≠INF∧L≠0∧(fd L).val^k=x.val^m):=fun h=>by
  have sL:=fd_sm (b:=L) (k:=k) hLI h.2.1 (by omega)
  exact ex ⟨h.2.1,(cR_eq hx.s sL.s hx.m sL.m m k).2 h.2.2⟩
 refine ⟨withS neg (tbS L neg dir),if tbS L neg dir=INF then 5 else if cR x m ⟨false,1,-1022⟩ k<0 then 3 else 1,?_,fun h=>absurd h nex,fun _=>⟨rfl,by split<;>(try split)<;>decide⟩⟩
 have tb:tbS L neg dir=if upw dir neg=true then L+1 else L:=by
  unfold tbS
  rw [if_neg c1,if_neg c1]
 rw [tb]
 have kk:L≠0→PC E 80 [x.nv,.int .i64 m,(fd L).nv,.int .i64 k] (.int .i64 (cR x m (fd L) k))∧decide (cR x m (fd L) k=0)=false:=fun z=>by
  have sL:=fd_sm (b:=L) (k:=k) hLI z (by omega)
  exact ⟨c_10Cmp hx sL,decide_eq_false (fun h=>ex ⟨z,h⟩)⟩
 generalize cR x m ⟨false,1,-1022⟩ k=T at *
 generalize cR x m (fd L) k=C at *
 generalize fd L=D at *
 simp only [nv_form,u] at k1 k3 kw kk ⊢
 have u20:upw 2 false=true:=rfl
 have u21:upw 2 true=false:=rfl
 have u30:upw 3 false=false:=rfl
 have u31:upw 3 true=true:=rfl
 by_cases z:L=0
 ·have q2:decide ((L:Int)>0)=false:=decide_eq_false (by omega)
  have q3:decide (((L+1:Nat):Int)=9218868437227405312)=false:=decide_eq_false (by omega)
  have nL1:¬L+1=INF:=by omega
  rcases hd with rfl | rfl<;>cases neg<;>by_cases ht:T<0
  all_goals
   refine PC.of_body follows Tryz.func35 (by decide +kernel) rfl (by kernel_rfl) (Nat.le_of_ble_eq_true rfl) (walk ?_)
   simp only [Tryz.f35,go_sem]
   refine qcall_i (k1) ?_;simp only [Tryz.f35,q1,q2,wp,q3,go_sem]
   refine qcall_i (k3) ?_;simp only [Tryz.f35,List.range_zero,List.getD_cons_zero,List.getD_cons_succ,Nat.reduceMod,go_sem]
   first | refine qif_dt ht ?_ | refine qif_df ht ?_
   simp only [Tryz.f35,s1,s2,s3,s4,go_sem]
   simp [u20,u21,u30,u31,ht,c1,nL1]
 ·obtain ⟨k2,g2⟩:=kk z
  have q2:decide ((L:Int)>0)=true:=decide_eq_true (by omega)
  by_cases q4:L+1=INF
  ·have q3:decide (((L+1:Nat):Int)=9218868437227405312)=true:=decide_eq_true (by omega)
   rcases hd with rfl | rfl<;>cases neg<;>by_cases ht:T<0
   all_goals
    refine PC.of_body follows Tryz.func35 (by decide +kernel) rfl (by kernel_rfl) (Nat.le_of_ble_eq_true rfl) (walk ?_)
    simp only [Tryz.f35,go_sem]
    refine qcall_i (k1) ?_;simp only [Tryz.f35,q1,q2,go_sem]
    refine qcall_i (kw) ?_;simp only [Tryz.f35,go_sem]
    refine qcall_i (k2) ?_;simp only [Tryz.f35,q1,g2,wp,q3,s1,s2,s3,s4,go_sem]
    try
     refine qcall_i (k3) ?_;simp only [Tryz.f35,List.range_zero,List.getD_cons_zero,List.getD_cons_succ,Nat.reduceMod,go_sem]
     first | refine qif_dt ht ?_ | refine qif_df ht ?_
     simp only [Tryz.f35,s1,s2,s3,s4,go_sem]
    simp [u20,u21,u30,u31,ht,c1,q4]
  ·have nL1:¬L+1=INF:=q4
   have q3:decide (((L+1:Nat):Int)=9218868437227405312)=false:=decide_eq_false (by omega)
   rcases hd with rfl | rfl<;>cases neg<;>by_cases ht:T<0
   all_goals
    refine PC.of_body follows Tryz.func35 (by decide +kernel) rfl (by kernel_rfl) (Nat.le_of_ble_eq_true rfl) (walk ?_)
    simp only [Tryz.f35,go_sem]
    refine qcall_i (k1) ?_;simp only [Tryz.f35,q1,q2,go_sem]
    refine qcall_i (kw) ?_;simp only [Tryz.f35,go_sem]
    refine qcall_i (k2) ?_;simp only [Tryz.f35,q1,g2,wp,q3,go_sem]
    refine qcall_i (k3) ?_;simp only [Tryz.f35,List.range_zero,List.getD_cons_zero,List.getD_cons_succ,Nat.reduceMod,go_sem]
    first | refine qif_dt ht ?_ | refine qif_df ht ?_
    simp only [Tryz.f35,s1,s2,s3,s4,go_sem]
    simp [u20,u21,u30,u31,ht,c1,nL1]
end
section
open XX
def baseD (k:Int) (x:Nat):Dy:=if k=3 then addD (fd x) ⟨false,1,0⟩ else fd (fsz x)
theorem c_24Base {k:Int} {x:Nat} (hx:x<W) (y:Nat) (n:Int):PC E 77 [opv k x y n] (baseD k x).nv:=by
 have k1:=c_rSize x hx
 have k2:=c_Worth (fsz x) (Nat.lt_trans (fsz_lt x) (by decide))
 have k3:=c_Worth x hx
 have b1:=fd_bits x
 have b2:=fd_e x
 have k4:=c_5Add (fd x) ⟨false,1,0⟩ (by omega) (by decide) (by omega) (by decide) (fun _ _=>by dsimp only;omega)
 rw [nv_one] at k4
 unfold baseD
 by_cases c:k=3
 ·rw [if_pos c]
  generalize addD (fd x) ⟨false,1,0⟩=A at *
  generalize fd (fsz x)=Z at *
  generalize fd x=X at *
  simp only [opv,nv_form,u] at k1 k2 k3 k4 ⊢
  refine PC.of_body follows Tryz.func77 (by decide +kernel) rfl (by kernel_rfl) (Nat.le_of_ble_eq_true rfl) (walk ?_)
  simp only [Tryz.f77,go_sem]
  refine qcall_i (k1) ?_;simp only [Tryz.f77,go_sem]
  refine qcall_i (k2) ?_;simp only [Tryz.f77,go_sem]
  refine qif_dt c ?_
  simp only [Tryz.f77,go_sem]
  refine qcall_i (k3) ?_;simp only [Tryz.f77,List.range_zero,List.getD_cons_zero,List.getD_cons_succ,Nat.reduceMod,go_sem]
  refine qcall_i (k4) ?_;simp only [Tryz.f77,go_sem]
  try rfl
 ·rw [if_neg c]
  generalize fd (fsz x)=Z at *
  simp only [opv,nv_form,u] at k1 k2 ⊢
  refine PC.of_body follows Tryz.func77 (by decide +kernel) rfl (by kernel_rfl) (Nat.le_of_ble_eq_true rfl) (walk ?_)
  simp only [Tryz.f77,go_sem]
  refine qcall_i (k1) ?_;simp only [Tryz.f77,go_sem]
  refine qcall_i (k2) ?_;simp only [Tryz.f77,go_sem]
  refine qif_df c ?_
  simp only [Tryz.f77,go_sem]
  try rfl
def negS (k:Int) (x y:Nat) (n:Int):Bool:=if fs x=false∨k=3 then false else if k=0 then od y else decide (n.tmod 2≠0)
theorem c_24Neg {k:Int} {x y:Nat} (hx:x<W) (hy:y<W) {n:Int} (n1 : -9223372036854775808≤n) (n2:n<9223372036854775808):PC E 36 [opv k x y n] (.bool (negS k x y n)):=by
 have k1:=c_rOdd y hy
 unfold negS
 have hs:fs x=false↔x<9223372036854775808:=by unfold fs;simp
 by_cases c1:fs x=false
 ·rw [if_pos (.inl c1)]
  have q1:decide ((x:Int)<9223372036854775808)=true:=decide_eq_true (by have:=hs.1 c1;omega)
  simp only [opv,u] at k1 ⊢
  refine PC.of_body follows Tryz.func36 (by decide +kernel) rfl (by kernel_rfl) (Nat.le_of_ble_eq_true rfl) (walk ?_)
  simp only [Tryz.f36,q1,go_sem]
  try rfl
 have q1:decide ((x:Int)<9223372036854775808)=false:=decide_eq_false (fun h=>c1 (hs.2 (by omega)))
 by_cases c2:k=3
 ·rw [if_pos (.inr c2)]
  have q2:decide (k=3)=true:=decide_eq_true c2
  simp only [opv,u] at k1 ⊢
  refine PC.of_body follows Tryz.func36 (by decide +kernel) rfl (by kernel_rfl) (Nat.le_of_ble_eq_true rfl) (walk ?_)
  simp only [Tryz.f36,q1,q2,go_sem]
  try rfl
 have q2:decide (k=3)=false:=decide_eq_false c2
 rw [if_neg (fun h=>h.elim c1 c2)]
 by_cases c3:k=0
 ·rw [if_pos c3]
  have q3:decide (k=0)=true:=decide_eq_true c3
  have q4:decide (¬k=0)=false:=decide_eq_false (fun h=>h c3)
  generalize od y=O at *
  generalize wh y=H at *
  simp only [opv,u] at k1 ⊢
  cases O
  ·refine PC.of_body follows Tryz.func36 (by decide +kernel) rfl (by kernel_rfl) (Nat.le_of_ble_eq_true rfl) (walk ?_)
   simp only [Tryz.f36,q1,q2,go_sem]
   refine qcall_i (k1) ?_;simp only [Tryz.f36,q3,q4,go_sem]
   try rfl
  ·refine PC.of_body follows Tryz.func36 (by decide +kernel) rfl (by kernel_rfl) (Nat.le_of_ble_eq_true rfl) (walk ?_)
   simp only [Tryz.f36,q1,q2,go_sem]
   refine qcall_i (k1) ?_;simp only [Tryz.f36,q3,q4,go_sem]
   try rfl
 ·rw [if_neg c3]
  have q3:decide (k=0)=false:=decide_eq_false c3
  have q4:decide (¬k=0)=true:=decide_eq_true c3
  have w1:IntKind.wrap .i64 (n.tmod 2)=n.tmod 2:=by
   have h1:=Int.tmod_lt_of_pos n (show (0:Int)<2 by decide)
   have h2 : -2<n.tmod 2:=by
    have:=Int.lt_tmod_of_pos n (show (0:Int)<2 by decide)
    exact this
   exact wrap64 (by omega) (by omega)
  generalize od y=O at *
  generalize wh y=H at *
  simp only [opv,u] at k1 ⊢
  refine PC.of_body follows Tryz.func36 (by decide +kernel) rfl (by kernel_rfl) (Nat.le_of_ble_eq_true rfl) (walk ?_)
  simp only [Tryz.f36,q1,q2,go_sem]
  refine qcall_i (k1) ?_;simp only [Tryz.f36,q3,q4,w1,go_sem]
  try rfl
def nearS (d:Dy) (m k:Int):Prop:=(-60≤m∧m≤60∧1≤k∧k≤40)∧bitLen d.m*m≤1500 ∧ -1500≤bitLen d.m*m ∧ -2000≤d.e∧d.e≤2000
theorem c_11Near {d:Dy} (hb:bitLen d.m≤100000) (m k:Int):∃b:Bool,PC E 78 [d.nv,.int .i64 m,.int .i64 k] (.bool b)∧(b=true→nearS d m k):=by
 have k1:=c_rBits d.m (Nat.le_trans (dgB_len (x:=d.m) (n:=0) (by omega)) (by decide))
 simp only [nv_form,VN,VL] at k1 ⊢
 by_cases c1 : -60≤m
 case neg=>
  have q1:decide (m < -60)=true:=decide_eq_true (by omega)
  refine ⟨false,?_,fun h=>absurd h Bool.false_ne_true⟩
  refine PC.of_body follows Tryz.func78 (by decide +kernel) rfl (by kernel_rfl) (Nat.le_of_ble_eq_true rfl) (walk ?_)
  simp only [Tryz.f78,q1,go_sem]
  try rfl
 have q1:decide (m < -60)=false:=decide_eq_false (by omega)
 by_cases c2:m≤60
 case neg=>
  have q2:decide (m>60)=true:=decide_eq_true (by omega)
  refine ⟨false,?_,fun h=>absurd h Bool.false_ne_true⟩
  refine PC.of_body follows Tryz.func78 (by decide +kernel) rfl (by kernel_rfl) (Nat.le_of_ble_eq_true rfl) (walk ?_)
  simp only [Tryz.f78,q1,q2,go_sem]
  try rfl
 have q2:decide (m>60)=false:=decide_eq_false (by omega)
 by_cases c3:1≤k
 case neg=>
  have q3:decide (k<1)=true:=decide_eq_true (by omega)
  refine ⟨false,?_,fun h=>absurd h Bool.false_ne_true⟩
  refine PC.of_body follows Tryz.func78 (by decide +kernel) rfl (by kernel_rfl) (Nat.le_of_ble_eq_true rfl) (walk ?_)
  simp only [Tryz.f78,q1,q2,q3,go_sem]
  try rfl
 have q3:decide (k<1)=false:=decide_eq_false (by omega)
 by_cases c4:k≤40
 case neg=>
  have q4:decide (k>40)=true:=decide_eq_true (by omega)
  refine ⟨false,?_,fun h=>absurd h Bool.false_ne_true⟩
  refine PC.of_body follows Tryz.func78 (by decide +kernel) rfl (by kernel_rfl) (Nat.le_of_ble_eq_true rfl) (walk ?_)
  simp only [Tryz.f78,q1,q2,q3,q4,go_sem]
  try rfl
 have q4:decide (k>40)=false:=decide_eq_false (by omega)
 have hp:((bitLen d.m:Int)*m).natAbs=bitLen d.m*m.natAbs:=by rw [Int.natAbs_mul,Int.natAbs_natCast]
 have hp2:bitLen d.m*m.natAbs≤100000*60:=Nat.mul_le_mul hb (by omega)
 have w1:IntKind.wrap .i64 ((bitLen d.m:Int)*m)=(bitLen d.m:Int)*m:=wrap64 (by omega) (by omega)
 refine ⟨decide ((bitLen d.m:Int)*m≤1500) && (decide (-1500≤(bitLen d.m:Int)*m) && (decide (-2000≤d.e) && decide (d.e≤2000))),?_,fun h=>?_⟩
 ·obtain ⟨P,hP⟩:∃P,(bitLen d.m:Int)*m=P:=⟨_,rfl⟩
  rw [hP] at hp w1 ⊢
  generalize d.e=e at *
  by_cases p1:P≤1500
  case neg=>
   have t1:decide (P≤1500)=false:=decide_eq_false p1
   rw [t1]
   refine PC.of_body follows Tryz.func78 (by decide +kernel) rfl (by kernel_rfl) (Nat.le_of_ble_eq_true rfl) (walk ?_)
   simp only [Tryz.f78,q1,q2,q3,q4,go_sem]
   refine qcall_i (k1) ?_;simp only [Tryz.f78,hP,w1,t1,go_sem]
   try rfl
  have t1:decide (P≤1500)=true:=decide_eq_true p1
  by_cases p2:P ≥ -1500
  case neg=>
   have t2:decide (P ≥ -1500)=false:=decide_eq_false p2
   have t2':decide (-1500≤P)=false:=decide_eq_false p2
   rw [t1,t2']
   refine PC.of_body follows Tryz.func78 (by decide +kernel) rfl (by kernel_rfl) (Nat.le_of_ble_eq_true rfl) (walk ?_)
   simp only [Tryz.f78,q1,q2,q3,q4,go_sem]
   refine qcall_i (k1) ?_;simp only [Tryz.f78,hP,w1,t1,t2,go_sem]
   try rfl
  have t2:decide (P ≥ -1500)=true:=decide_eq_true p2
  have t2':decide (-1500≤P)=true:=decide_eq_true p2
  by_cases p3:e ≥ -2000
  case neg=>
   have t3:decide (e ≥ -2000)=false:=decide_eq_false p3
   have t3':decide (-2000≤e)=false:=decide_eq_false p3
   rw [t1,t2',t3']
   refine PC.of_body follows Tryz.func78 (by decide +kernel) rfl (by kernel_rfl) (Nat.le_of_ble_eq_true rfl) (walk ?_)
   simp only [Tryz.f78,q1,q2,q3,q4,go_sem]
   refine qcall_i (k1) ?_;simp only [Tryz.f78,hP,w1,t1,t2,t3,go_sem]
   try rfl
  have t3:decide (e ≥ -2000)=true:=decide_eq_true p3
  have t3':decide (-2000≤e)=true:=decide_eq_true p3
  rw [t1,t2',t3']
  refine PC.of_body follows Tryz.func78 (by decide +kernel) rfl (by kernel_rfl) (Nat.le_of_ble_eq_true rfl) (walk ?_)
  simp only [Tryz.f78,q1,q2,q3,q4,go_sem]
  refine qcall_i (k1) ?_;simp only [Tryz.f78,hP,w1,t1,t2,t3,go_sem]
  try rfl
 ·rw [Bool.and_eq_true,Bool.and_eq_true,Bool.and_eq_true,decide_eq_true_eq,decide_eq_true_eq,decide_eq_true_eq,decide_eq_true_eq] at h
  exact ⟨⟨c1,c2,c3,c4⟩,h.1,h.2.1,h.2.2.1,h.2.2.2⟩
end
section
open XX
def expRel (k:Int) (y:Nat) (n m q:Int):Prop:=
 if k=0 then m=exM (fd y)∧q=exK (fd y) ∧ -10≤(fd y).e∧(fd y).top≤40 else if k=2 then (m=if n<0 then -1 else 1)∧q=n.natAbs else m=n∧q=1
theorem e_kind2 (x y:Nat) (n:Int):∃m q:Int,∃ok:Bool,PC E 76 [opv 2 x y n] (.tuple [.int .i64 m,.int .i64 q,.bool ok])∧(ok=true→expRel 2 y n m q):=by
 simp only [opv]
 by_cases c1:n < -1000
 ·have q1:decide (n < -1000)=true:=decide_eq_true c1
  refine ⟨0,0,false,?_,fun h=>absurd h Bool.false_ne_true⟩
  refine PC.of_body follows Tryz.func76 (by decide +kernel) rfl (by kernel_rfl) (Nat.le_of_ble_eq_true rfl) (walk ?_)
  simp only [Tryz.f76,q1,go_sem]
  try rfl
 have q1:decide (n < -1000)=false:=decide_eq_false c1
 by_cases c2:n>1000
 ·have q2:decide (n>1000)=true:=decide_eq_true c2
  refine ⟨0,0,false,?_,fun h=>absurd h Bool.false_ne_true⟩
  refine PC.of_body follows Tryz.func76 (by decide +kernel) rfl (by kernel_rfl) (Nat.le_of_ble_eq_true rfl) (walk ?_)
  simp only [Tryz.f76,q1,q2,go_sem]
  try rfl
 have q2:decide (n>1000)=false:=decide_eq_false c2
 by_cases c3:n<0
 ·have w1:IntKind.wrap .i64 (0-n) = -n:=by rw [wrap64 (by omega) (by omega)];omega
  refine ⟨-1,-n,true,?_,fun _=>?_⟩
  ·refine PC.of_body follows Tryz.func76 (by decide +kernel) rfl (by kernel_rfl) (Nat.le_of_ble_eq_true rfl) (walk ?_)
   simp only [Tryz.f76,q1,q2,go_sem]
   refine qif_dt c3 ?_
   simp only [Tryz.f76,w1,go_sem]
   try rfl
  ·unfold expRel
   rw [if_neg (by decide),if_pos rfl,if_pos c3]
   exact ⟨rfl,by omega⟩
 ·refine ⟨1,n,true,?_,fun _=>?_⟩
  ·refine PC.of_body follows Tryz.func76 (by decide +kernel) rfl (by kernel_rfl) (Nat.le_of_ble_eq_true rfl) (walk ?_)
   simp only [Tryz.f76,q1,q2,go_sem]
   refine qif_df c3 ?_
   simp only [Tryz.f76,go_sem]
   try rfl
  ·unfold expRel
   rw [if_neg (by decide),if_pos rfl,if_neg c3]
   exact ⟨rfl,by omega⟩
theorem e_kind1 {k:Int} (h0:k≠0) (h2:k≠2) (x y:Nat) (n:Int):∃m q:Int,∃ok:Bool,PC E 76 [opv k x y n] (.tuple [.int .i64 m,.int .i64 q,.bool ok])∧(ok=true→expRel k y n m q):=by
 have g0:decide (k=0)=false:=decide_eq_false h0
 have g2:decide (k=2)=false:=decide_eq_false h2
 simp only [opv]
 have fin:∀ok:Bool,(ok=true→expRel k y n n 1):=fun ok _=>by
  unfold expRel
  rw [if_neg h0,if_neg h2]
  exact ⟨rfl,rfl⟩
 by_cases c1:n ≥ -1000
 ·have q1:decide (n ≥ -1000)=true:=decide_eq_true c1
  refine ⟨n,1,decide (n≤1000),?_,fin _⟩
  refine PC.of_body follows Tryz.func76 (by decide +kernel) rfl (by kernel_rfl) (Nat.le_of_ble_eq_true rfl) (walk ?_)
  simp only [Tryz.f76,go_sem]
  refine qif_df h0 ?_
  simp only [Tryz.f76,go_sem]
  refine qif_df h2 ?_
  simp only [Tryz.f76,q1,go_sem]
  try rfl
 ·have q1:decide (n ≥ -1000)=false:=decide_eq_false c1
  refine ⟨n,1,false,?_,fin _⟩
  refine PC.of_body follows Tryz.func76 (by decide +kernel) rfl (by kernel_rfl) (Nat.le_of_ble_eq_true rfl) (walk ?_)
  simp only [Tryz.f76,go_sem]
  refine qif_df h0 ?_
  simp only [Tryz.f76,go_sem]
  refine qif_df h2 ?_
  simp only [Tryz.f76,q1,go_sem]
  try rfl
theorem e_kind0 (x:Nat) {y:Nat} (hy:y<W) (fy:fe y<2047) (m0:(fd y).m≠0) (n:Int):∃m q:Int,∃ok:Bool,PC E 76 [opv 0 x y n] (.tuple [.int .i64 m,.int .i64 q,.bool ok])∧(ok=true→expRel 0 y n m q):=by
 have k1:=c_Worth y hy
 have b1:=fd_bits y
 have b2:=fd_e y
 have hod:=(fd_ok y).resolve_left m0
 obtain ⟨J,hJ,hJ2⟩:∃J:Nat,J≤10∧(if 0≤(fd y).e then J=0 else if -10≤(fd y).e then (J:Int) = -(fd y).e else J=10):=by
  by_cases c:0≤(fd y).e
  ·exact ⟨0,by omega,by rw [if_pos c]⟩
  ·by_cases c2 : -10≤(fd y).e
   ·exact ⟨(-(fd y).e).toNat,by omega,by rw [if_neg c,if_pos c2];omega⟩
   ·exact ⟨10,by omega,by rw [if_neg c,if_neg c2]⟩
 have hexM:exM (fd y)=if (fd y).s=true then -(((fd y).m*2^(max (fd y).e 0).toNat:Nat):Int) else (((fd y).m*2^(max (fd y).e 0).toNat:Nat):Int):=rfl
 have hexK:exK (fd y)=2^(max (-(fd y).e) 0).toNat:=rfl
 have htop:(fd y).top=bitLen (fd y).m-1+(fd y).e:=if_neg m0
 simp only [expRel,if_true,hexM,hexK,htop]
 have hnv:(fd y).nv = .agg [.bool (fd y).s,.lst (dg B (fd y).m).length (V (dg B (fd y).m)),.int .i64 (fd y).e]:=rfl
 rw [hnv] at k1
 generalize fd y=D at *
 clear hexM hexK htop hnv fy
 obtain ⟨s,mm,e⟩:=D
 dsimp only at *
 simp only [opv,u] at k1 ⊢
 have hJe:(e+J<0∧J=10)∨(0≤e+J∧(J:Int)=(max (-e) 0)∧e+J=max e 0):=by
  split at hJ2
  ·right;omega
  ·split at hJ2
   ·right;omega
   ·left;omega
 have hJl:∀j,j<J→e+j<0:=fun j hj=>by
  split at hJ2
  ·omega
  ·split at hJ2<;>omega
 have pw:∀j,j<10→2^j≤512:=fun j hj=>Nat.le_trans (Nat.pow_le_pow_right (by decide) (show j≤9 by omega)) (by decide)
 have rest:PC E 76 [.agg [.int .i64 0,.int .u64 (x:Nat),.int .u64 (y:Nat),.int .i64 n]] (if e+J<0∨30<bitLen mm-1+(e+J) then .tuple [.int .i64 0,.int .i64 0,.bool false] else .tuple [.int .i64 (if s=true then -((mm*2^(e+J).toNat:Nat):Int) else ((mm*2^(e+J).toNat:Nat):Int)),.int .i64 ((2^J:Nat):Int),.bool true]):=by
  obtain ⟨R,hR⟩:∃R,R=(if e+J<0∨30<bitLen mm-1+(e+J) then PV.tuple [.int .i64 0,.int .i64 0,.bool false] else .tuple [.int .i64 (if s=true then -((mm*2^(e+J).toNat:Nat):Int) else ((mm*2^(e+J).toNat:Nat):Int)),.int .i64 ((2^J:Nat):Int),.bool true]):=⟨_,rfl⟩
  rw [←hR]
  refine PC.of_body follows Tryz.func76 (by decide +kernel) rfl (by kernel_rfl) (Nat.le_of_ble_eq_true rfl) (walk ?_)
  simp only [Tryz.f76,go_sem]
  refine qcall_i (k1) ?_;simp only [Tryz.f76,go_sem]
  refine PLoop.intro (fun j:Nat=>⟨[(1,.ptr 1 0),(5,.ptr 5 0),(6,.val (.int .i64 ((2^j:Nat):Int)))],[(1,(.box [.int .i64 0,.int .u64 (x:Nat),.int .u64 (y:Nat),.int .i64 n],false)),(5,(.box [.bool s,.lst (dg B mm).length (V (dg B mm)),.int .i64 (e+j)],false))]⟩) (fun j=>j≤J) (fun j=>J-j) 0 (Nat.zero_le _) ?_ fun j hj=>walk ?_
  ·simp [Wk,sget,killL,kill1,SV.key]
  simp only [Tryz.f76,go_sem]
  have we:IntKind.wrap .i64 (e+(j:Int)+1)=e+((j+1:Nat):Int):=by rw [wrap64 (by omega) (by omega)];omega
  by_cases hlt:j<J
  ·have hp:=pw j (by omega)
   have g1:decide (((2^j:Nat):Int)<1024)=true:=decide_eq_true (by omega)
   have e2:2*((2^j:Nat):Int)=((2^(j+1):Nat):Int):=by rw [Nat.pow_succ,Int.natCast_mul];exact Int.mul_comm _ _
   have hp2:2^(j+1)≤1024:=by rw [Nat.pow_succ];omega
   have wk:IntKind.wrap .i64 (2*((2^j:Nat):Int))=((2^(j+1):Nat):Int):=by
    rw [e2]
    generalize 2^(j+1)=T at *
    exact wrap64 (by omega) (by omega)
   have g0:=hJl j hlt
   refine qif_dt g0 ?_
   simp only [Tryz.f76,g1,wk,we,go_sem]
   refine ⟨j+1,by omega,by omega,?_⟩
   simp [Wk,sget,killL,kill1,SV.key]
  ·have ej:j=J:=by omega
   subst ej
   rcases hJe with ⟨h1,h2⟩ | ⟨h1,h2,h3⟩
   ·subst h2
    have g2:decide (e+((10:Nat):Int)<0)=true:=decide_eq_true h1
    rw [if_pos (.inl h1)] at hR
    have g1:decide (((2^10:Nat):Int)<1024)=false:=by decide
    refine qif_dt h1 ?_
    simp only [Tryz.f76,g1,g2,go_sem]
    exact hR.symm
   ·have g2:decide (e+(j:Int)<0)=false:=decide_eq_false (by omega)
    have kT:=c_5Top ⟨s,mm,e+j⟩ m0 (by dsimp only;omega) (by dsimp only;omega) (by dsimp only;omega)
    have htop:(⟨s,mm,e+j⟩:Dy).top=bitLen mm-1+(e+j):=if_neg m0
    rw [htop,nv_form] at kT
    dsimp only at kT
    refine qif_df (by omega) ?_
    simp only [Tryz.f76,g2,go_sem]
    by_cases c3:(bitLen mm:Int)-1+(e+j)>30
    ·have g3:decide ((bitLen mm:Int)-1+(e+j)>30)=true:=decide_eq_true c3
     rw [if_pos (.inr (by omega))] at hR
     refine qcall_i (kT) ?_;simp only [Tryz.f76,g3,go_sem]
     exact hR.symm
    ·have g3:decide ((bitLen mm:Int)-1+(e+j)>30)=false:=decide_eq_false c3
     rw [if_neg (by omega)] at hR
     have hmW:mm<W:=Nat.lt_of_lt_of_le ((bitLen_le mm 53).1 b1) (by decide)
     have hb0:=bitLen_pos m0
     have kO:=c_5To s mm (e+j) (by omega)
     rw [mkD_odd hod (by omega) (by omega),if_pos (show (⟨s,mm,e+j⟩:Dy).fits from ⟨by dsimp only;omega,by dsimp only;omega⟩)] at kO
     have hNN:NN mm = .lst 1 [.int .u64 (mm:Nat)]:=by
      unfold NN NL
      rw [dg_one m0 hmW]
      rfl
     simp only [DP,Dy.pv,hNN,VN,VL] at kO
     have hm53:=(bitLen_le mm 53).1 b1
     have wm:IntKind.wrap .i64 (mm:Int)=mm:=wrap64 (by omega) (by omega)
     obtain ⟨F,hF⟩:∃F:Nat,e+(j:Int)=F:=⟨(e+j).toNat,by omega⟩
     rw [hF] at kO kT hR ⊢
     rw [Int.toNat_natCast] at hR
     refine qcall_i (kT) ?_;simp only [Tryz.f76,hF,go_sem]
     refine qif_df (by omega) ?_
     simp only [Tryz.f76,hF,go_sem]
     refine qcall_i (kO) ?_;simp only [Tryz.f76,wm,List.getElem?_cons_zero,go_sem]
     refine qand_i (by omega) ?_
     simp only [Tryz.f76,wm,List.getElem?_cons_zero,go_sem]
     have hbd:∀i,i≤F→mm*2^i<2147483648:=fun i hi=>by
      have h4:=(bitLen_le mm (bitLen mm)).1 (Nat.le_refl _)
      have h5:mm*2^i<2^(bitLen mm+i):=by
       rw [Nat.pow_add]
       exact Nat.mul_lt_mul_of_pos_right h4 (Nat.two_pow_pos i)
      exact Nat.lt_of_lt_of_le h5 (Nat.le_trans (Nat.pow_le_pow_right (by decide) (show bitLen mm+i≤31 by omega)) (by decide))
     refine PLoop.intro (fun i:Nat=>⟨[(5,.ptr 5 0),(6,.val (.int .i64 ((2^j:Nat):Int))),(7,.ptr 7 0),(9,.val (.int .i64 ((mm*2^i:Nat):Int))),(10,.val (.int .i64 i))],[(5,(.box [.bool s,.lst (dg B mm).length (V (dg B mm)),.int .i64 F],false)),(7,(.box [.bool s,.lst 1 [.int .u64 (mm:Nat)],.int .i64 F],false))]⟩) (fun i=>i≤F) (fun i=>F-i) 0 (Nat.zero_le _) ?_ fun i hi=>walk ?_
     ·simp [Wk,sget,killL,kill1,SV.key]
     have wi:IntKind.wrap .i64 ((i:Int)+1)=((i+1:Nat):Int):=by rw [wrap64 (by omega) (by omega)];omega
     simp only [Tryz.f76,go_sem]
     refine qif_d (fun h6=>?_) (fun h6=>?_)
     ·have h7:=hbd (i+1) (by omega)
      have e2:2*((mm*2^i:Nat):Int)=((mm*2^(i+1):Nat):Int):=by rw [Nat.pow_succ,←Nat.mul_assoc,Int.natCast_mul (mm*2^i)];exact Int.mul_comm _ _
      have wm2:IntKind.wrap .i64 (2*((mm*2^i:Nat):Int))=((mm*2^(i+1):Nat):Int):=by
       rw [e2]
       generalize mm*2^(i+1)=T at *
       exact wrap64 (by omega) (by omega)
      simp only [Tryz.f76,wm2,wi,go_sem]
      refine ⟨i+1,by omega,by omega,?_⟩
      simp [Wk,sget,killL,kill1,SV.key]
     ·have ei:i=F:=by omega
      subst ei
      have h7:=hbd i (Nat.le_refl _)
      have wn:IntKind.wrap .i64 (0-((mm*2^i:Nat):Int)) = -((mm*2^i:Nat):Int):=by
       generalize mm*2^i=T at *
       rw [wrap64 (by omega) (by omega)]
       omega
      cases s
      ·simp only [Tryz.f76,wn,go_sem]
       exact hR.symm
      ·simp only [Tryz.f76,wn,go_sem]
       exact hR.symm
 rcases hJe with ⟨h1,h2⟩ | ⟨h1,h2,h3⟩
 ·rw [if_pos (.inl h1)] at rest
  exact ⟨0,0,false,rest,fun h=>absurd h Bool.false_ne_true⟩
 ·by_cases c3:30<(bitLen mm:Int)-1+(e+J)
  ·rw [if_pos (.inr c3)] at rest
   exact ⟨0,0,false,rest,fun h=>absurd h Bool.false_ne_true⟩
  ·rw [if_neg (by omega)] at rest
   refine ⟨_,_,true,rest,fun _=>⟨?_,?_,by omega,by omega⟩⟩
   ·rw [←h3]
   ·rw [show (max (-e) 0).toNat=J by omega]
end
section
open XX
theorem c_24Exponent {k:Int} {x y:Nat} (hy:y<W) {n:Int} (ho:opO k x y n=none):∃m q:Int,∃ok:Bool,PC E 76 [opv k x y n] (.tuple [.int .i64 m,.int .i64 q,.bool ok])∧(ok=true→expRel k y n m q):=by
 by_cases c0:k=0
 ·subst c0
  unfold opO at ho
  rw [if_pos rfl] at ho
  obtain ⟨kx,ky⟩:=powS_none ho
  obtain ⟨fy,y0⟩:=kind_fin ky
  exact e_kind0 x hy fy (fun h=>y0 (by first | exact (fd_m0 fy).1 h | exact h)) n
 by_cases c2:k=2
 ·subst c2
  exact e_kind2 x y n
 ·exact e_kind1 c0 c2 x y n
theorem base_bits (k:Int) (x:Nat):bitLen (baseD k x).m≤3000:=by
 have b1:=fd_bits x
 have b2:=fd_e x
 have b3:=fd_bits (fsz x)
 have b4:bitLen 1=1:=by decide
 unfold baseD
 split
 ·have:=addD_bits (a:=fd x) (b:=⟨false,1,0⟩) (N:=2200) (by dsimp only;omega) (by dsimp only;omega)
  omega
 ·omega
set_option maxHeartbeats 2000000 in
theorem c_small {k:Int} {x y:Nat} (hx:x<W) (hy:y<W) (n:Int):∃(v:PV) (m q:Int) (ok:Bool),PC E 34 [opv k x y n] (.tuple [v,.int .i64 m,.int .i64 q,.bool ok])∧(∃a b c,v = .agg [a,b,c]) ∧
  (ok=true→opO k x y n=none∧v=(baseD k x).nv∧expRel k y n m q∧nearS (baseD k x) m q):=by
 have k1:=c_24Special hx hy k n
 cases ho:opO k x y n with
 | some r=>
  refine ⟨Dy.zero.pv,0,0,false,?_,⟨_,_,_,rfl⟩,fun h=>absurd h Bool.false_ne_true⟩
  rw [ho] at k1
  unfold ansPV at k1
  simp only [opv,zero_pv] at k1 ⊢
  refine PC.of_body follows Tryz.func34 (by decide +kernel) rfl (by kernel_rfl) (Nat.le_of_ble_eq_true rfl) (walk ?_)
  simp only [Tryz.f34,go_sem]
  refine qcall_i (k1) ?_;simp only [Tryz.f34,go_sem]
  try rfl
 | none=>
  rw [ho] at k1
  unfold ansPV at k1
  obtain ⟨m,q,ok,k2,h2⟩:=c_24Exponent hy ho
  have k3:=c_24Base (k:=k) hx y n
  obtain ⟨b,k4,h4⟩:=c_11Near (d:=baseD k x) (by have:=base_bits k x;omega) m q
  refine ⟨(baseD k x).nv,m,q,ok && b,?_,⟨_,_,_,nv_form _⟩,fun h=>?_⟩
  ·generalize baseD k x=D at *
   simp only [opv,nv_form] at k1 k2 k3 k4 ⊢
   cases ok
   ·refine PC.of_body follows Tryz.func34 (by decide +kernel) rfl (by kernel_rfl) (Nat.le_of_ble_eq_true rfl) (walk ?_)
    simp only [Tryz.f34,go_sem]
    refine qcall_i (k1) ?_;simp only [Tryz.f34,go_sem]
    refine qcall_i (k2) ?_;simp only [Tryz.f34,go_sem]
    refine qcall_i (k3) ?_;simp only [Tryz.f34,go_sem]
    try rfl
   ·refine PC.of_body follows Tryz.func34 (by decide +kernel) rfl (by kernel_rfl) (Nat.le_of_ble_eq_true rfl) (walk ?_)
    simp only [Tryz.f34,go_sem]
    refine qcall_i (k1) ?_;simp only [Tryz.f34,go_sem]
    refine qcall_i (k2) ?_;simp only [Tryz.f34,go_sem]
    refine qcall_i (k3) ?_;simp only [Tryz.f34,go_sem]
    refine qcall_i (k4) ?_;simp only [Tryz.f34,go_sem]
    try rfl
  ·rw [Bool.and_eq_true] at h
   exact ⟨rfl,rfl,h2 h.1,h4 h.2⟩
end
section
open XX
theorem pw_le {X b:Rat} (hX:0<X) (hb:0≤b) {m P:Int} {q Q:Nat} (hq:0<q) (hQ:0<Q) (h:m*Q=P*q):(b^q≤X^m↔b^Q≤X^P)∧(b^q=X^m↔b^Q=X^P):=by
 have hn:X≠0:=by grind
 have e1:(X^m)^Q=(X^P)^q:=by rw [←zp_mul hn,←zp_mul hn,h]
 have e2:(b^q)^Q=(b^Q)^q:=by
  by_cases h0:b=0
  ·obtain ⟨q',rfl⟩:∃q',q=q'+1:=⟨q-1,by omega⟩
   obtain ⟨Q',rfl⟩:∃Q',Q=Q'+1:=⟨Q-1,by omega⟩
   rw [h0]
   simp [Rat.pow_succ]
  ·rw [←rpw_mul h0,←rpw_mul h0,Nat.mul_comm]
 have x1:0≤X^m:=Rat.le_of_lt (Rat.zpow_pos hX)
 have x2:0≤X^P:=Rat.le_of_lt (Rat.zpow_pos hX)
 have b1:0≤b^q:=Rat.pow_nonneg hb
 have b2:0≤b^Q:=Rat.pow_nonneg hb
 constructor
 ·constructor
  ·intro hh
   have:=rpow_le b1 hh Q
   rw [e1,e2] at this
   exact rpow_le_iff x2 hq this
  ·intro hh
   have:=rpow_le b2 hh q
   rw [←e1,←e2] at this
   exact rpow_le_iff x1 hQ this
 ·constructor
  ·intro hh
   have:=congrArg (fun r:Rat=>r^Q) hh
   rw [e1,e2] at this
   exact rpow_inj b2 x2 hq this
  ·intro hh
   have:=congrArg (fun r:Rat=>r^q) hh
   rw [←e1,←e2] at this
   exact rpow_inj b1 x1 hQ this
theorem base_val (k:Int) (x y:Nat) (n dir f t:Int) (hk:0≤k∧k≤3):(baseD k x).val=(opA k x y n dir f t).x.val:=by
 unfold baseD opA
 by_cases c3:k=3
 ·rw [if_pos c3,if_neg (by omega),if_neg (by omega),if_neg (by omega)]
  rw [val_addD]
  show _=(onePlus x).val
  rw [onePlus_val]
  have v1:(⟨false,1,0⟩:Dy).val=1:=by decide +kernel
  rw [v1]
  grind
 ·rw [if_neg c3]
  by_cases c0:k=0
  ·rw [if_pos c0];rfl
  rw [if_neg c0]
  by_cases c1:k=1
  ·rw [if_pos c1];rfl
  rw [if_neg c1,if_pos (by omega)];rfl
theorem low_rootS (s:Bool) {k:Nat} (hk:1≤k) (hk2:k<W):lowD ⟨s,1,0⟩ k=⟨s,1,0⟩∧lowQ ⟨s,1,0⟩ k=k:=by
 have h1:lowT 64 k 0=(k,0):=by
  show (if k%2=0∧(0:Int)<0 then lowT 63 (k/2) (0-1) else (k,0))=(k,0)
  rw [if_neg (fun h=>absurd h.2 (by decide))]
 have hN:lowN ⟨s,1,0⟩ k=k:=by show (lowT 64 k 0).1=k;rw [h1]
 have hE:lowE ⟨s,1,0⟩ k=0:=by show (lowT 64 k 0).2=0;rw [h1]
 have hG:lowG ⟨s,1,0⟩ k=1:=by show Nat.gcd (lowN ⟨s,1,0⟩ k) 1=1;exact Nat.gcd_one_right _
 constructor
 ·show (⟨s,1/lowG ⟨s,1,0⟩ k,lowE ⟨s,1,0⟩ k⟩:Dy)=_
  rw [hG,hE]
 ·show lowN ⟨s,1,0⟩ k/lowG ⟨s,1,0⟩ k=k
  rw [hG,hN,Nat.div_one]
theorem exM_val {d:Dy} (h : -1000≤d.e):(exM d:Rat)=d.val*((exK d:Nat):Rat):=by
 have hv:=val_form d
 unfold exM exK exU
 rw [hv]
 have e1:(d.m:Rat)*(2:Rat)^d.e*((2^(max (-d.e) 0).toNat:Nat):Rat)=((d.m*2^(max d.e 0).toNat:Nat):Rat):=by
  rw [ncast_mul,←z2_nat,←z2_nat,Rat.mul_assoc,←z2_add]
  congr 2
  omega
 by_cases hs:d.s=true
 ·rw [if_pos hs,if_pos hs,Rat.neg_mul,e1,ic_neg]
 ·rw [if_neg hs,if_neg hs,e1]
  rfl
theorem exp_link {k:Int} {x y:Nat} {n m q:Int} {dir f t:Int} (hk:0≤k∧k≤3) (ho:opO k x y n=none) (n1 : -9223372036854775808≤n) (n2:n<9223372036854775808) (hy:y<W) (hr:expRel k y n m q) (hm : -60≤m∧m≤60) (hq:1≤q∧q≤40) (hok:AskOk (opA k x y n dir f t)) :
  wholeOk (opA k x y n dir f t).y (opA k x y n dir f t).n∧exM (lowD (opA k x y n dir f t).y (opA k x y n dir f t).n)=m∧((exK (lowD (opA k x y n dir f t).y (opA k x y n dir f t).n)*lowQ (opA k x y n dir f t).y (opA k x y n dir f t).n:Nat):Int)=q:=by
 have main:∀(Y:Dy) (N:Nat),(opA k x y n dir f t).y=Y→(opA k x y n dir f t).n=N→exOfOk (lowD Y N)→lowQ Y N≤40→exK (lowD Y N)≤1024→exM (lowD Y N)=m→((exK (lowD Y N)*lowQ Y N:Nat):Int)=q→wholeOk (opA k x y n dir f t).y (opA k x y n dir f t).n∧exM (lowD (opA k x y n dir f t).y (opA k x y n dir f t).n)=m∧((exK (lowD (opA k x y n dir f t).y (opA k x y n dir f t).n)*lowQ (opA k x y n dir f t).y (opA k x y n dir f t).n:Nat):Int)=q:=fun Y N hY hN h1 h2 h3 h4 h5=>by
  rw [hY,hN]
  refine ⟨⟨h1,by omega,?_⟩,h4,h5⟩
  have hl1:1≤lowQ Y N:=Nat.pos_of_ne_zero fun h0=>by rw [h0,Nat.mul_zero] at h5;omega
  refine (Nat.le_div_iff_mul_le hl1).2 ?_
  have:=Nat.mul_le_mul h3 h2
  omega
 unfold expRel at hr
 by_cases c0:k=0
 ·rw [if_pos c0] at hr
  obtain ⟨h1,h2,h3,h4⟩:=hr
  have hY:(opA k x y n dir f t).y=fd y:=by unfold opA;rw [if_pos c0];rfl
  have hN:(opA k x y n dir f t).n=1:=by unfold opA;rw [if_pos c0];rfl
  obtain ⟨l1,l2⟩:=low_pown (d:=fd y)
  have m0:(fd y).m≠0:=by have:=hok.y0;rwa [hY] at this
  have ht:(fd y).top=bitLen (fd y).m-1+(fd y).e:=if_neg m0
  have b1:=fd_bits y
  refine main (fd y) 1 hY hN ?_ ?_ ?_ ?_ ?_
  ·rw [l1];exact ⟨by omega,by omega⟩
  ·rw [l2];decide
  ·rw [l1]
   have:exK (fd y)=2^(max (-(fd y).e) 0).toNat:=rfl
   rw [this]
   exact Nat.le_trans (Nat.pow_le_pow_right (by decide) (show (max (-(fd y).e) 0).toNat≤10 by omega)) (by decide)
  ·rw [l1];exact h1.symm
  ·rw [l1,l2,Nat.mul_one];exact h2.symm
 rw [if_neg c0] at hr
 by_cases c2:k=2
 ·rw [if_pos c2] at hr
  obtain ⟨h1,h2⟩:=hr
  have hY:(opA k x y n dir f t).y=⟨decide (n<0),1,0⟩:=by
   unfold opA
   rw [if_neg c0,if_neg (by omega),if_pos c2]
   show mkD (decide (n<0)) 1 0=_
   exact mkD_odd (by decide) (by decide) (by decide)
  have hN:(opA k x y n dir f t).n=n.natAbs:=by unfold opA;rw [if_neg c0,if_neg (by omega),if_pos c2];rfl
  obtain ⟨l1,l2⟩:=low_rootS (decide (n<0)) (k:=n.natAbs) (by omega) (natAbs_W n1 n2)
  refine main _ _ hY hN ?_ ?_ ?_ ?_ ?_
  ·rw [l1];cases decide (n<0)<;>decide
  ·rw [l2];omega
  ·rw [l1];cases decide (n<0)<;>decide
  ·rw [l1,h1]
   by_cases c:n<0
   ·rw [decide_eq_true c,if_pos c];decide
   ·rw [decide_eq_false c,if_neg c];decide
  ·rw [l1,l2]
   have:exK ⟨decide (n<0),1,0⟩=1:=by cases decide (n<0)<;>decide
   rw [this,Nat.one_mul]
   exact h2.symm
 ·rw [if_neg c2] at hr
  obtain ⟨h1,h2⟩:=hr
  have hY:(opA k x y n dir f t).y=norm n 0:=by
   unfold opA
   rw [if_neg c0]
   by_cases c1:k=1
   ·rw [if_pos c1];rfl
   ·rw [if_neg c1,if_neg c2];rfl
  have hN:(opA k x y n dir f t).n=1:=by
   unfold opA
   rw [if_neg c0]
   by_cases c1:k=1
   ·rw [if_pos c1];rfl
   ·rw [if_neg c1,if_neg c2];rfl
  obtain ⟨l1,l2⟩:=low_pown (d:=norm n 0)
  have key:∀g:Fin 121,exOfOk (norm ((g.val:Int)-60) 0)∧exM (norm ((g.val:Int)-60) 0)=(g.val:Int)-60∧exK (norm ((g.val:Int)-60) 0)=1:=by decide +kernel
  obtain ⟨k1,k2,k3⟩:=key ⟨(n+60).toNat,by omega⟩
  have en:(((n+60).toNat:Nat):Int)-60=n:=by omega
  dsimp only at k1 k2 k3
  rw [en] at k1 k2 k3
  refine main _ _ hY hN ?_ ?_ ?_ ?_ ?_
  ·rw [l1];exact k1
  ·rw [l2];decide
  ·rw [l1,k3];decide
  ·rw [l1,k2];exact h1.symm
  ·rw [l1,l2,k3];exact h2.symm
end
section
open XX
theorem exp_val {k:Int} {x y:Nat} {n m q:Int} {dir f t:Int} (hk:0≤k∧k≤3) (ho:opO k x y n=none) (hr:expRel k y n m q):(opA k x y n dir f t).y.val*(q:Rat)=(m:Rat)*((opA k x y n dir f t).n:Rat):=by
 unfold expRel at hr
 unfold opA
 by_cases c0:k=0
 ·rw [if_pos c0] at hr ⊢
  obtain ⟨h1,h2,h3,h4⟩:=hr
  have:=exM_val (d:=fd y) (by omega)
  rw [h1,h2,this]
  show (fd y).val*_=_*(1:Rat)
  rw [Rat.mul_one]
  rfl
 rw [if_neg c0] at hr ⊢
 by_cases c2:k=2
 ·rw [if_pos c2] at hr
  rw [if_neg (by omega),if_pos c2]
  obtain ⟨h1,h2⟩:=hr
  show (mkD (decide (n<0)) 1 0).val*_=_*((n.natAbs:Nat):Rat)
  rw [mkD_odd (by decide) (by decide) (by decide),h1,h2]
  have e:(⟨decide (n<0),1,0⟩:Dy).val=(((if n<0 then -1 else 1:Int)):Rat):=by
   by_cases c:n<0
   ·rw [decide_eq_true c,if_pos c];decide +kernel
   ·rw [decide_eq_false c,if_neg c];decide +kernel
  rw [e]
  rfl
 ·rw [if_neg c2] at hr
  obtain ⟨h1,h2⟩:=hr
  have e:(norm n 0).val=(n:Rat):=by rw [val_norm n (by decide) (by decide),z2_zero,Rat.mul_one]
  by_cases c1:k=1
  ·rw [if_pos c1]
   show (norm n 0).val*_=_*(1:Rat)
   rw [e,h1,h2]
   rfl
  ·rw [if_neg c1,if_neg c2]
   show (norm n 0).val*_=_*(1:Rat)
   rw [e,h1,h2]
   rfl
theorem exp_PQ {a:Ask} {m:Int} {q:Nat} (h:a.y.val*(q:Rat)=(m:Rat)*(a.n:Rat)):m*askQ a=askP a*q:=by
 have h1:=ask_yv a
 have e:((m*askQ a:Int):Rat)=((askP a*q:Int):Rat):=by
  rw [Rat.intCast_mul,Rat.intCast_mul]
  show (m:Rat)*(askQ a:Rat)=(askP a:Rat)*(q:Rat)
  rw [←h1]
  have eQ:(askQ a:Rat)=(a.n:Rat)*((2^askK a:Nat):Rat):=ncast_mul _ _
  rw [eQ]
  grind
 exact Rat.intCast_inj.1 e
theorem ask_pos {a:Ask} (h:AskOk a):PosD a.x:=by
 have h1:=h.x
 have h2:=h.xl
 have h3:=h.xb
 have ht:a.x.top=bitLen a.x.m-1+a.x.e:=if_neg h1.m0
 have hb:=bitLen_pos h1.m0
 exact ⟨h1.pos,h1.ok.odd h1.m0,by omega,by omega⟩
theorem fd_posL {L:Nat} (hL:L≤INF) (h0:L≠0):PosD (fd L)∧brkP (fd L):=by
 have hI:=INF_lt
 have s:=fd_sm (k:=0) hL h0 (by decide)
 have b1:=fd_bits L
 have b2:=fd_e L
 refine ⟨⟨s.s,(fd_ok L).resolve_left s.m,by omega,by omega⟩,?_⟩
 by_cases c:L=INF
 ·rw [c,fd_INF];decide
 ·exact fd_brk (fsz_INF.2 (by rw [show fsz L=L from Nat.mod_eq_of_lt (by omega)];omega))
theorem no_pow {a:Ask} (ha:AskOk a) {m:Int} {q:Nat} (hq:1≤q) (hw:wholeOk a.y a.n) (hm:exM (lowD a.y a.n)=m) (hq2:exK (lowD a.y a.n)*lowQ a.y a.n=q) (hx:exactO a=none) {L:Nat} (hL:L≤INF):¬powIs (a.x.val^m) q L:=fun h=>by
 have hp:=ask_pos ha
 have hn:powO a.x m q=none:=by
  unfold exactO at hx
  split at hx
  ·cases hx
  ·first | (rw [if_pos hw,hm,hq2] at hx;exact hx) | (rw [hm,hq2] at hx;exact hx)
 rcases h with ⟨h1,h2⟩ | ⟨h1,⟨h2,h3⟩ | h3⟩
 ·obtain ⟨p,b⟩:=fd_posL (L:=INF) (Nat.le_refl _) (by decide)
  exact pow_found hp (Nat.le_refl _) p b hq h2.symm hn
 ·obtain ⟨p,b⟩:=fd_posL hL h2
  exact pow_found hp (Nat.le_refl _) p b hq h3.symm hn
 ·obtain ⟨p,b⟩:=mid_pos (b:=L) (by omega)
  exact pow_found hp (Nat.le_refl _) p b hq h3.symm hn
theorem mag_beside {d:Dy} (h0:d.m≠0) (more:Bool) (dir:Int):(1023<d.top∧((magS d more dir).1=MAX∨(magS d more dir).1=INF))∨(d.top≤1023∧low d<INF∧low d≤(magS d more dir).1∧(magS d more dir).1≤low d+1):=by
 by_cases ht:1023<d.top
 ·left
  refine ⟨ht,?_⟩
  unfold magS
  rw [if_pos ht]
  dsimp only
  split
  ·exact .inr rfl
  ·exact .inl rfl
 ·right
  have hlt:low d<INF:=by
   have hl:low d=packB (flo d (unitOf d.top)) (unitOf d.top):=if_neg (by omega)
   rw [hl];exact pack_lt_inf (flo_ok h0 (by omega))
  refine ⟨by omega,hlt,?_⟩
  unfold magS
  rw [if_neg ht]
  have hX:low d≤(if awayS dir d.s (decide (low d%2=1)) (hf d (unitOf d.top)) (bl d (unitOf d.top) || more)=true then low d+1 else low d)∧(if awayS dir d.s (decide (low d%2=1)) (hf d (unitOf d.top)) (bl d (unitOf d.top) || more)=true then low d+1 else low d)≤low d+1:=by split<;>omega
  generalize (if awayS dir d.s (decide (low d%2=1)) (hf d (unitOf d.top)) (bl d (unitOf d.top) || more)=true then low d+1 else low d)=X at *
  by_cases h:X=INF
  ·rw [if_pos h]
   show low d≤INF∧INF≤low d+1
   omega
  ·rw [if_neg h]
   exact hX
theorem low_val {d:Dy} (hs:d.s=false) (h0:d.m≠0):(fd (low d)).val≤d.val∧(low d=INF∨d.val<(fd (low d+1)).val):=by
 have h:=bel_low (d:=d)
 rw [abs_pos hs] at h
 refine ⟨cmp_val_le.1 h.2.1,?_⟩
 rcases h.2.2 with h2 | h2
 ·exact .inl h2
 ·exact .inr (cmp_val_gt.1 h2)
theorem low_ends {w:Rat} {Q L:Nat} (hQ:0<Q) (hL:LwV w Q L) {A:Dy} (hs:A.s=false) (h0:A.m≠0):(A.val^Q≤w→low A≤L)∧(w≤A.val^Q→L≤low A):=by
 obtain ⟨v1,v2⟩:=low_val hs h0
 have hlow:=low_le A
 have hA:=Rat.le_of_lt (pos_val hs h0)
 constructor
 ·intro h
  refine Nat.not_lt.1 fun hlt=>?_
  have h1:=hL.2.2.resolve_left (by omega)
  have h2:=rpow_le (fd_val0 (L+1) (by omega)) (Rat.le_trans (fd_le' hlow (show L+1≤low A from hlt)) v1) Q
  grind
 ·intro h
  refine Nat.not_lt.1 fun hlt=>?_
  have h1:=v2.resolve_left (by have:=hL.1;omega)
  have h2:A.val<(fd L).val:=by
   have:=fd_le' hL.1 (show low A+1≤L from hlt)
   grind
  have h3:=rpow_lt hA h2 hQ
  have h4:=hL.2.1
  grind
theorem cert_beside {w:Rat} {Q L:Nat} (hQ:0<Q) (hL:LwV w Q L) {A B:Dy} (sA:A.s=false) (sB:B.s=false) (mA:A.m≠0) (mB:B.m≠0) (lo:A.val^Q≤w) (hi:w≤B.val^Q) {neg:Bool} {dir:Int} {r:Nat}
  (rA:(magS (sz A neg) false dir).1=r) (rB:(magS (sz B neg) false dir).1=r):(L=INF∧(r=MAX∨r=INF))∨(L<INF∧(r=L∨r=L+1)):=by
 have hI:INF=9218868437227405312:=rfl
 have hM:MAX=9218868437227405311:=rfl
 have a1:=(low_ends hQ hL sA mA).1 lo
 have b1:=(low_ends hQ hL sB mB).2 hi
 have hA:=mag_beside (d:=sz A neg) mA false dir
 have hB:=mag_beside (d:=sz B neg) mB false dir
 rw [rA] at hA
 rw [rB] at hB
 have eA:low (sz A neg)=low A:=rfl
 have eB:low (sz B neg)=low B:=rfl
 rw [eA] at hA
 rw [eB] at hB
 have tA:1023<(sz A neg).top→low A=INF:=fun h=>if_pos h
 have hLI:=hL.1
 rcases hB with ⟨t2,hB⟩ | ⟨t2,h3,h4,h5⟩
 ·by_cases c:L=INF
  ·exact .inl ⟨c,hB⟩
  ·right
   rcases hA with ⟨t1,hA⟩ | ⟨t1,h6,h7,h8⟩
   ·have:=tA t1;omega
   ·refine ⟨by omega,?_⟩
    omega
 ·rcases hA with ⟨t1,hA⟩ | ⟨t1,h6,h7,h8⟩
  ·have:=tA t1;omega
  ·right
   exact ⟨by omega,by omega⟩
end
section
open XX
theorem cD_up (a:Nat) {n:Nat} (hn:0<n):cD a n≤a/n+1:=by
 unfold cD
 split<;>omega
theorem cD_add {a b n:Nat} (hn:0<n):cD (a+b) n≤a/n+b/n+2:=by
 have h:=cD_up (a+b) hn
 have h1:=Nat.div_add_mod a n
 have h2:=Nat.div_add_mod b n
 have h3:=Nat.mod_lt a hn
 have h4:=Nat.mod_lt b hn
 have h5:(a+b)/n<a/n+b/n+2:=by
  rw [Nat.div_lt_iff_lt_mul hn,Nat.add_mul,Nat.add_mul]
  have e1:a/n*n=n*(a/n):=Nat.mul_comm _ _
  have e2:b/n*n=n*(b/n):=Nat.mul_comm _ _
  omega
 omega
theorem div_add_mulS {a c S:Nat} (hS:0<S):(a+c*S)/S=a/S+c:=Nat.add_mul_div_right a c hS
def Wd (p:PN) (c:Nat):Prop:=p.hi≤p.lo+c
theorem frac_wd (num s:Nat) {den:Nat} (hd:0<den):Wd (fracS num den s) 1:=cD_up _ hd
theorem sq_wd {num den s:Nat} (hd:0<den) (h3:3*num≤den) (hs:8≤s):Wd ((fracS num den s).times (fracS num den s) s) 2:=by
 have hS:=Nat.two_pow_pos s
 have h256:256≤2^s:=Nat.le_trans (show 256≤2^8 by decide) (Nat.pow_le_pow_right (by decide) hs)
 have hw:=frac_wd num s hd
 have hlo:3*(fracS num den s).lo≤2^s:=by
  show 3*(num*2^s/den)≤2^s
  have h1:num*2^s/den*den≤num*2^s:=Nat.div_mul_le_self _ _
  refine Nat.le_of_mul_le_mul_right (c:=den) ?_ hd
  have h2:3*num*2^s≤den*2^s:=Nat.mul_le_mul_right _ h3
  have e1:3*(num*2^s/den)*den=3*(num*2^s/den*den):=Nat.mul_assoc _ _ _
  have e2:3*num*2^s=3*(num*2^s):=Nat.mul_assoc _ _ _
  rw [Nat.mul_comm (2^s)]
  omega
 unfold Wd at hw ⊢
 show cD ((fracS num den s).hi*(fracS num den s).hi) (2^s)≤(fracS num den s).lo*(fracS num den s).lo/2^s+2
 generalize (fracS num den s).lo=l at *
 generalize (fracS num den s).hi=h at *
 generalize 2^s=S at *
 have h1:h*h≤l*l+1*S:=by
  have:=Nat.mul_le_mul hw hw
  have e:(l+1)*(l+1)=l*l+2*l+1:=by grind
  omega
 have h2:=cD_up (h*h) hS
 have h3':=Nat.div_le_div_right (c:=S) h1
 rw [div_add_mulS hS] at h3'
 omega
theorem times_wd {t q:PN} {s:Nat} (ht:Wd t 10) (hq:Wd q 2) (htl:t.lo≤2^s) (hql:2*q.lo≤2^s) (hs:8≤s):Wd (t.times q s) 10:=by
 have hS:=Nat.two_pow_pos s
 have h256:256≤2^s:=Nat.le_trans (show 256≤2^8 by decide) (Nat.pow_le_pow_right (by decide) hs)
 unfold Wd at *
 show cD (t.hi*q.hi) (2^s)≤t.lo*q.lo/2^s+10
 generalize 2^s=S at *
 have h1:t.hi*q.hi≤t.lo*q.lo+8*S:=by
  have h:=Nat.mul_le_mul ht hq
  have e:(t.lo+10)*(q.lo+2)=t.lo*q.lo+2*t.lo+10*q.lo+20:=by grind
  omega
 have h2:=cD_up (t.hi*q.hi) hS
 have h3:=Nat.div_le_div_right (c:=S) h1
 rw [div_add_mulS hS] at h3
 omega
theorem part_wd {t:PN} {n:Nat} (hn:1≤n) (h:Wd t 10):Wd (t.part n) 12:=by
 unfold Wd at *
 show cD t.hi n≤t.lo/n+12
 have h1:=cD_add (a:=t.lo) (b:=10) hn
 have h2:cD t.hi n≤cD (t.lo+10) n:=cD_le hn (Nat.le_trans h (cD_ge hn))
 have h3:=Nat.div_le_self 10 n
 omega
theorem at_wd {num den s:Nat} (hd:0<den) (h3:3*num≤den) (hs:8≤s):Wd (atanhS num den s) (12*s+60):=by
 have hsq:=sq_wd hd h3 hs
 obtain ⟨hq,hJ⟩:=at_start (s:=s) hd h3
 obtain ⟨sq,hsq'⟩:∃sq,sq=(fracS num den s).times (fracS num den s) s:=⟨_,rfl⟩
 rw [←hsq'] at hq hJ hsq
 have main:∀(f:Nat) (sum term:PN) (n:Nat),AtJ s sq (atR num den s) f sum term n→Wd term 10→sum.hi≤sum.lo+6*n→(atR num den s).1.hi≤(atR num den s).1.lo+6*(2*(s+2)+1)∧(atR num den s).2.hi≤10:=by
  intro f
  induction f with
  | zero=>
   intro sum term n h w1 w2
   have e:atR num den s=(sum,term):=h.res.symm
   rw [e]
   have hz:=h.z
   have hc:=h.c
   unfold Wd at w1
   exact ⟨by dsimp only;omega,by dsimp only;omega⟩
  | succ f ih=>
   intro sum term n h w1 w2
   by_cases h0:term.lo=0
   ·have e:atR num den s=(sum,term):=by
     rw [←h.res];unfold atLoop;rw [if_pos h0]
    rw [e]
    have hc:=h.c
    unfold Wd at w1
    exact ⟨by dsimp only;omega,by dsimp only;omega⟩
   ·obtain ⟨g,hg,hj⟩:=h.step hq h0
    obtain rfl:g=f:=by omega
    refine ih _ _ _ hj (times_wd w1 hsq h.lo hq.lo hs) ?_
    have hp:=part_wd h.odd w1
    unfold Wd at hp
    show sum.hi+(term.part n).hi≤sum.lo+(term.part n).lo+6*(n+2)
    omega
 obtain ⟨m1,m2⟩:=main _ _ _ _ hJ (Nat.le_trans (frac_wd num s hd) (by omega)) (Nat.zero_le _)
 unfold Wd atanhS
 by_cases h0:num=0
 ·rw [if_pos h0];exact Nat.zero_le _
 ·rw [if_neg h0]
  show (atR num den s).1.hi+((atR num den s).2.hi+(atR num den s).2.hi)≤(atR num den s).1.lo+(12*s+60)
  omega
theorem ln2_wd {s:Nat} (hs:8≤s):Wd (ln2S s) (24*s+120):=by
 have h:=at_wd (num:=1) (den:=3) (s:=s) (by decide) (by decide) hs
 unfold Wd at *
 show (atanhS 1 3 s).hi+(atanhS 1 3 s).hi≤(atanhS 1 3 s).lo+(atanhS 1 3 s).lo+(24*s+120)
 omega
end
section
open XX
theorem ex_times {t:PN} {a b D w s:Nat} (hD:b≤a+D) (hb:b≤2^s) (ht:t.hi≤t.lo+w) (htl:t.lo≤2^s):(t.times ⟨a,b⟩ s).hi≤(t.times ⟨a,b⟩ s).lo+(D+w+1):=by
 have hS:=Nat.two_pow_pos s
 show cD (t.hi*b) (2^s)≤t.lo*a/2^s+(D+w+1)
 generalize 2^s=S at *
 have h1:t.hi*b≤t.lo*a+(D+w)*S:=by
  have g1:t.hi*b≤(t.lo+w)*b:=Nat.mul_le_mul_right _ ht
  have g2:t.lo*b≤t.lo*(a+D):=Nat.mul_le_mul_left _ hD
  have g3:t.lo*D≤S*D:=Nat.mul_le_mul_right _ htl
  have g4:w*b≤w*S:=Nat.mul_le_mul_left _ hb
  have e1:(t.lo+w)*b=t.lo*b+w*b:=Nat.add_mul _ _ _
  have e2:t.lo*(a+D)=t.lo*a+t.lo*D:=Nat.mul_add _ _ _
  have e3:(D+w)*S=D*S+w*S:=Nat.add_mul _ _ _
  have e4:S*D=D*S:=Nat.mul_comm _ _
  omega
 have h2:=cD_up (t.hi*b) hS
 have h3:=Nat.div_le_div_right (c:=S) h1
 rw [div_add_mulS hS] at h3
 omega
theorem ex_part {p:PN} {n D w:Nat} (hn:1≤n) (h:p.hi≤p.lo+(D+w+1)) (hw:n=1∧w=0∨2≤n∧w≤D+6):(p.part n).hi≤(p.part n).lo+(D+6):=by
 show cD p.hi n≤p.lo/n+(D+6)
 by_cases h1:n=1
 ·subst h1
  have hc:cD p.hi 1=p.hi:=by unfold cD;rw [Nat.mod_one,if_pos rfl,Nat.div_one,Nat.add_zero]
  rw [hc,Nat.div_one]
  rcases hw with ⟨-,h2⟩ | h2
  ·omega
  ·omega
 ·have h2:cD p.hi n≤cD (p.lo+(D+w+1)) n:=cD_le hn (Nat.le_trans h (cD_ge hn))
  have h3:=cD_add (a:=p.lo) (b:=D+w+1) hn
  have h4:(D+w+1)/n≤(D+w+1)/2:=Nat.div_le_div_left (by omega) (by decide)
  omega
theorem ex_wd {a b D s:Nat} (hab:a≤b) (hD:b≤a+D) (hb:b≤2^s):(exR a b s).1.hi≤(exR a b s).1.lo+(s+3)*(D+6)∧(exR a b s).2.hi≤D+7∧2^s≤(exR a b s).1.lo:=by
 have hx:a≤2^s∧b≤2^s:=⟨Nat.le_trans hab hb,hb⟩
 have main:∀(f:Nat) (sum term:PN) (n:Nat),ExJ s ⟨a,b⟩ (exR a b s) f sum term n→(∃w,term.hi≤term.lo+w∧(n=1∧w=0∨2≤n∧w≤D+6))→sum.hi≤sum.lo+(n-1)*(D+6)→2^s≤sum.lo→(n=1→term.lo=2^s) →
   (exR a b s).1.hi≤(exR a b s).1.lo+(s+3)*(D+6)∧(exR a b s).2.hi≤D+7∧2^s≤(exR a b s).1.lo:=by
  intro f
  induction f with
  | zero=>
   intro sum term n h
   obtain ⟨g,hg⟩:=h.fuel
   omega
  | succ f ih=>
   intro sum term n h hw hs hlo h1
   have hr:=h.res
   have hc:=h.c
   have hS:=Nat.two_pow_pos s
   obtain ⟨w,w1,w2⟩:=hw
   have hT:=ex_times (t:=term) (s:=s) hD hb w1 h.lo
   have hP:=ex_part (p:=term.times ⟨a,b⟩ s) h.one hT w2
   have hmono:∀k,k≤s+2→k*(D+6)≤(s+2)*(D+6):=fun k hk=>Nat.mul_le_mul_right _ hk
   have e3:(s+3)*(D+6)=(s+2)*(D+6)+(D+6):=by rw [show s+3=(s+2)+1 by omega,Nat.add_mul,Nat.one_mul]
   have hn1:=hmono (n-1) (by omega)
   unfold exLoop at hr
   by_cases c0:term.lo=0∧b=0
   ·rw [if_pos c0] at hr
    rw [←hr]
    refine ⟨by dsimp only;omega,?_,hlo⟩
    dsimp only
    rcases w2 with w2 | w2
    ·omega
    ·omega
   rw [if_neg c0] at hr
   by_cases c1:((term.times ⟨a,b⟩ s).part n).hi≤1
   ·rw [if_pos c1] at hr
    rw [←hr]
    refine ⟨?_,by dsimp only;omega,?_⟩
    ·show sum.hi+((term.times ⟨a,b⟩ s).part n).hi≤sum.lo+((term.times ⟨a,b⟩ s).part n).lo+_
     omega
    ·show 2^s≤sum.lo+((term.times ⟨a,b⟩ s).part n).lo
     omega
   ·rw [if_neg c1] at hr
    have hj:=h.step hx c0 c1
    have en:(n+1-1)*(D+6)=(n-1)*(D+6)+(D+6):=by
     have h5:=h.one
     rw [show n+1-1=(n-1)+1 by omega,Nat.add_mul,Nat.one_mul]
    refine ih _ _ _ hj ⟨D+6,hP,.inr ⟨by have:=h.one;omega,Nat.le_refl _⟩⟩ ?_ ?_ (fun h6=>by have:=h.one;omega)
    ·show sum.hi+((term.times ⟨a,b⟩ s).part n).hi≤sum.lo+((term.times ⟨a,b⟩ s).part n).lo+_
     rw [en]
     omega
    ·show 2^s≤sum.lo+((term.times ⟨a,b⟩ s).part n).lo
     omega
 exact main _ _ _ _ ExJ.start ⟨0,Nat.le_refl _,.inl ⟨rfl,rfl⟩⟩ (by show 2^s≤2^s+_;omega) (Nat.le_refl _) (fun _=>rfl)
theorem exp_wd {a b D s:Nat} (hab:a≤b) (hD:b≤a+D) (hb:b≤2^s):(expN a b s).hi≤(expN a b s).lo+(s+6)*(D+7)∧2^s≤(expN a b s).lo:=by
 obtain ⟨h1,h2,h3⟩:=ex_wd hab hD hb
 refine ⟨?_,h3⟩
 show (exR a b s).1.hi+((exR a b s).2.hi+(exR a b s).2.hi)≤(exR a b s).1.lo+(s+6)*(D+7)
 have e1:(s+6)*(D+7)=(s+3)*(D+7)+3*(D+7):=by rw [show s+6=(s+3)+3 by omega,Nat.add_mul]
 have e2:(s+3)*(D+6)≤(s+3)*(D+7):=Nat.mul_le_mul_left _ (by omega)
 omega
end
section
open XX
def LeP (p:PN):Prop:=p.lo≤p.hi
theorem div_le_cD {a b n:Nat} (hn:0<n) (h:a≤b):a/n≤cD b n:=by
 have h1:=Nat.div_le_div_right (c:=n) h
 unfold cD
 omega
theorem times_le {p q:PN} {s:Nat} (hp:LeP p) (hq:LeP q):LeP (p.times q s):=div_le_cD (Nat.two_pow_pos s) (Nat.mul_le_mul hp hq)
theorem part_le {p:PN} {n:Nat} (hn:0<n) (hp:LeP p):LeP (p.part n):=div_le_cD hn hp
theorem frac_le (num s:Nat) {den:Nat} (hd:0<den):LeP (fracS num den s):=div_le_cD hd (Nat.le_refl _)
theorem at_le {num den s:Nat} (hd:0<den):LeP (atanhS num den s):=by
 have main:∀(f:Nat) (sq sum term:PN) (n:Nat),LeP sq→LeP sum→LeP term→1≤n→LeP (atLoop s sq f sum term n).1:=by
  intro f
  induction f with
  | zero=>intro sq sum term n _ h _ _;exact h
  | succ f ih=>
   intro sq sum term n h1 h2 h3 h4
   unfold atLoop
   split
   ·exact h2
   ·refine ih _ _ _ _ h1 ?_ (times_le h3 h1) (by omega)
    have:=part_le (n:=n) h4 h3
    show sum.lo+(term.part n).lo≤sum.hi+(term.part n).hi
    exact Nat.add_le_add h2 this
 have hf:=frac_le num s hd
 have h:=main (s+2) ((fracS num den s).times (fracS num den s) s) ⟨0,0⟩ (fracS num den s) 1 (times_le hf hf) (Nat.le_refl _) hf (Nat.le_refl _)
 unfold LeP atanhS
 split
 ·exact Nat.le_refl _
 ·show (atR num den s).1.lo≤(atR num den s).1.hi+_
  exact Nat.le_trans h (Nat.le_add_right _ _)
def wd (i:Iv):Rat:=i.hi.val-i.lo.val
theorem wd_within {lo hi s c:Nat} (hs:s≤100000) (h:lo≤hi) (hc:hi≤lo+c) (neg:Bool):0≤wd (withinS lo hi s neg)∧wd (withinS lo hi s neg)≤(c:Rat)/((2^s:Nat):Rat):=by
 have r : -2147483648 ≤ -(s:Int) ∧ -(s:Int)≤2147483648:=⟨by omega,by omega⟩
 have hS:=nc_pos (Nat.two_pow_pos s)
 have h1:=ncast_le h
 have h2:=ncast_le hc
 rw [ncast_add] at h2
 have hneg:∀x:Rat,-x/((2^s:Nat):Rat) = -(x/((2^s:Nat):Rat)):=fun x=>by rw [Rat.div_def,Rat.div_def,Rat.neg_mul]
 have hdiv:∀x:Rat,x/((2^s:Nat):Rat)*((2^s:Nat):Rat)=x:=fun x=>Rat.div_mul_cancel (by grind)
 have g1:(lo:Rat)/((2^s:Nat):Rat)≤(hi:Rat)/((2^s:Nat):Rat):=scale_le hS (by rw [hdiv,hdiv];exact h1)
 have g2:(hi:Rat)/((2^s:Nat):Rat)-(lo:Rat)/((2^s:Nat):Rat)≤(c:Rat)/((2^s:Nat):Rat):=scale_le hS (by
  have a1:=hdiv (hi:Rat)
  have a2:=hdiv (lo:Rat)
  rw [hdiv]
  generalize (hi:Rat)/((2^s:Nat):Rat)=X at *
  generalize (lo:Rat)/((2^s:Nat):Rat)=Y at *
  grind)
 unfold wd withinS
 have v1:=mk_val neg lo r
 have v2:=mk_val neg hi r
 rw [z2_sub] at v1 v2
 split
 ·rename_i hc2
  have:=cmp_val_gt.1 hc2
  dsimp only
  rw [v1,v2] at this ⊢
  cases neg with
  | false=>rw [if_neg Bool.false_ne_true,if_neg Bool.false_ne_true] at this ⊢;exact absurd this (by grind)
  | true=>rw [if_pos rfl,if_pos rfl,hneg,hneg] at this ⊢;exact ⟨by grind,by grind⟩
 ·rename_i hc2
  have:(mkD neg lo (-(s:Int))).val≤(mkD neg hi (-(s:Int))).val:=cmp_val_le.1 (by omega)
  dsimp only
  rw [v1,v2] at this ⊢
  cases neg with
  | false=>rw [if_neg Bool.false_ne_true,if_neg Bool.false_ne_true] at this ⊢;exact ⟨by grind,g2⟩
  | true=>rw [if_pos rfl,if_pos rfl,hneg,hneg] at this ⊢;exact ⟨by grind,by grind⟩
theorem wd_add {i k:Iv} {K:Nat} (li:i.lim K) (lk:k.lim K) (hK:K≤1000000):wd (addI i k)=wd i+wd k:=by
 unfold wd
 show (addS i.hi k.hi).val-(addS i.lo k.lo).val=_
 rw [li.1.val_add lk.1 hK,li.2.val_add lk.2 hK]
 grind
theorem wd_log {d:Dy} (hl:LgOk d) {s:Nat} (h8:8≤s) (hs:s≤9000):0≤wd (logS d s)∧wd (logS d s)≤(((12*s+60)*2+(24*s+120)*(nE d).natAbs:Nat):Rat)/((2^s:Nat):Rat):=by
 obtain ⟨f1,f2⟩:=near_facts hl.m0
 have w1:=at_wd f1 f2 h8
 have w2:=ln2_wd h8
 have l1:=at_le (num:=nNum d.m) (s:=s) f1
 have l2:=(ln2_big h8).2
 unfold Wd at w1 w2
 unfold LeP at l1
 have x1:=wd_within (s:=s) (by omega) (Nat.mul_le_mul_right 2 l1) (show (atanhS (nNum d.m) (nDen d.m) s).hi*2≤(atanhS (nNum d.m) (nDen d.m) s).lo*2+(12*s+60)*2 by omega) (nNeg d.m)
 have x2:=wd_within (s:=s) (by omega) (Nat.mul_le_mul_right (nE d).natAbs l2) (show (ln2S s).hi*(nE d).natAbs≤(ln2S s).lo*(nE d).natAbs+(24*s+120)*(nE d).natAbs by
  rw [←Nat.add_mul];exact Nat.mul_le_mul_right _ w2) (decide (nE d<0))
 have e:wd (logS d s)=wd (logX d s)+wd (logY d s):=wd_add (logX_lim hl hs) (logY_lim hl hs) (by decide)
 rw [e]
 have hS:=nc_pos (Nat.two_pow_pos s)
 have hdiv:∀x:Rat,x/((2^s:Nat):Rat)*((2^s:Nat):Rat)=x:=fun x=>Rat.div_mul_cancel (by grind)
 have ea:(((12*s+60)*2+(24*s+120)*(nE d).natAbs:Nat):Rat)/((2^s:Nat):Rat)=(((12*s+60)*2:Nat):Rat)/((2^s:Nat):Rat)+(((24*s+120)*(nE d).natAbs:Nat):Rat)/((2^s:Nat):Rat):=by
  rw [ncast_add,Rat.div_def,Rat.div_def,Rat.div_def,Rat.add_mul]
 rw [ea]
 have y1:0≤wd (logX d s)∧wd (logX d s)≤(((12*s+60)*2:Nat):Rat)/((2^s:Nat):Rat):=x1
 have y2:0≤wd (logY d s)∧wd (logY d s)≤(((24*s+120)*(nE d).natAbs:Nat):Rat)/((2^s:Nat):Rat):=x2
 exact ⟨by grind,by grind⟩
end
section
open XX
theorem min4_or (A B:Dy):min4 A A B B=A∨min4 A A B B=B:=by
 unfold min4
 rcases minD_or (minD (minD A A) B) B with h | h
 ·rw [h]
  rcases minD_or (minD A A) B with h | h
  ·rw [h]
   rcases minD_or A A with h | h<;>exact .inl h
  ·exact .inr h
 ·exact .inr h
theorem max4_or (A B:Dy):max4 A A B B=A∨max4 A A B B=B:=by
 unfold max4
 rcases maxD_or (maxD (maxD A A) B) B with h | h
 ·rw [h]
  rcases maxD_or (maxD A A) B with h | h
  ·rw [h]
   rcases maxD_or A A with h | h<;>exact .inl h
  ·exact .inr h
 ·exact .inr h
theorem wd_mul {i:Iv} {y:Dy} {Y:Rat} (hi:0≤wd i) (h1 : -Y≤y.val) (h2:y.val≤Y):0≤wd (mulI i ⟨y,y⟩)∧wd (mulI i ⟨y,y⟩)≤Y*wd i:=by
 obtain ⟨m1,m2,m3,m4⟩:=mul_pt i y
 have e1:(mulI i ⟨y,y⟩).lo.val=i.lo.val*y.val∨(mulI i ⟨y,y⟩).lo.val=i.hi.val*y.val:=by
  rw [←val_mul,←val_mul]
  exact (min4_or _ _).imp (congrArg Dy.val) (congrArg Dy.val)
 have e2:(mulI i ⟨y,y⟩).hi.val=i.lo.val*y.val∨(mulI i ⟨y,y⟩).hi.val=i.hi.val*y.val:=by
  rw [←val_mul,←val_mul]
  exact (max4_or _ _).imp (congrArg Dy.val) (congrArg Dy.val)
 have g1:=Rat.mul_le_mul_of_nonneg_right h2 hi
 have g2:=Rat.mul_le_mul_of_nonneg_right h1 hi
 have g3:0≤Y:=by grind
 have g4:=Rat.mul_nonneg g3 hi
 unfold wd at *
 generalize (mulI i ⟨y,y⟩).lo.val=a at *
 generalize (mulI i ⟨y,y⟩).hi.val=b at *
 generalize i.lo.val=u at *
 generalize i.hi.val=v at *
 generalize y.val=r at *
 rcases e1 with e1 | e1<;>rcases e2 with e2 | e2<;>exact ⟨by grind,by grind⟩
theorem un_near (d:Dy) (s:Nat):(d.m:Rat)*(2:Rat)^d.e*((2^s:Nat):Rat)≤(divM d s false:Rat)+1∧(divM d s true:Rat)≤(d.m:Rat)*(2:Rat)^d.e*((2^s:Nat):Rat)+1:=by
 have e1:(d.m:Rat)*(2:Rat)^d.e*((2^s:Nat):Rat)=(d.m:Rat)*(2:Rat)^(d.e+s):=by rw [←z2_nat,Rat.mul_assoc,←z2_add]
 rw [e1]
 unfold divM
 by_cases h:0≤d.e+s
 ·rw [if_pos h,if_pos h]
  have e2:((d.m*2^(d.e+s).toNat:Nat):Rat)=(d.m:Rat)*(2:Rat)^(d.e+s):=by
   rw [ncast_mul,←z2_nat];congr 2;omega
  rw [e2]
  exact ⟨by grind,by grind⟩
 ·rw [if_neg h,if_neg h]
  have hp:0<2^(-d.e-s).toNat:=Nat.two_pow_pos _
  have e2:(d.m:Rat)*(2:Rat)^(d.e+s)*((2^(-d.e-s).toNat:Nat):Rat)=(d.m:Rat):=by
   rw [←z2_nat,Rat.mul_assoc,←z2_add,show d.e+s+((-d.e-s).toNat:Int)=0 by omega,z2_zero,Rat.mul_one]
  generalize (d.m:Rat)*(2:Rat)^(d.e+s)=v at *
  generalize 2^(-d.e-s).toNat=D at *
  have hD:=nc_pos hp
  have h1:=Nat.div_add_mod d.m D
  have h2:=Nat.mod_lt d.m hp
  have hlt:d.m≤(d.m/D+1)*D:=by rw [Nat.add_mul,Nat.mul_comm (d.m/D)];omega
  have hge:d.m/D*D≤d.m:=Nat.div_mul_le_self _ _
  have c1:=ncast_le hlt
  have c2:=ncast_le hge
  rw [ncast_mul,natc] at c1
  rw [ncast_mul] at c2
  rw [←e2] at c1 c2
  have c3:v≤((d.m/D:Nat):Rat)+1:=scale_le hD c1
  have c4:((d.m/D:Nat):Rat)≤v:=scale_le hD c2
  constructor
  ·rw [if_neg (fun h=>Bool.false_ne_true h.2),Nat.add_zero]
   exact c3
  ·split
   ·rw [natc];grind
   ·rw [Nat.add_zero];grind
theorem divQ_near (d:Dy) {n:Nat} (hn:0<n) (s:Nat):(d.m:Rat)*(2:Rat)^d.e*((2^s:Nat):Rat)≤(divQ d n s false:Rat)*n+(n+1)∧(divQ d n s true:Rat)*n≤(d.m:Rat)*(2:Rat)^d.e*((2^s:Nat):Rat)+(n+1):=by
 obtain ⟨h1,h2⟩:=un_near d s
 unfold divQ
 generalize (d.m:Rat)*(2:Rat)^d.e*((2^s:Nat):Rat)=v at *
 constructor
 ·rw [if_neg (fun h=>Bool.false_ne_true h.2),Nat.add_zero]
  generalize divM d s false=M at *
  have g1:=Nat.div_add_mod M n
  have g2:=Nat.mod_lt M hn
  have g3:M≤M/n*n+n:=by rw [Nat.mul_comm];omega
  have g4:=ncast_le g3
  rw [ncast_add,ncast_mul] at g4
  grind
 ·generalize divM d s true=M at *
  have g1:=Nat.div_add_mod M n
  have g3:(M/n+(if M%n≠0∧true=true then 1 else 0))*n≤M+n:=by
   rw [Nat.add_mul,Nat.mul_comm (M/n)]
   split
   ·omega
   ·omega
  have g4:=ncast_le g3
  rw [ncast_mul,ncast_add M n] at g4
  grind
theorem divD_near (d:Dy) {n:Nat} (hn:0<n) {s:Nat} (hs:s≤100000):d.val≤(divD d n s true).val*n+((n:Rat)+1)/((2^s:Nat):Rat)∧(divD d n s false).val*n≤d.val+((n:Rat)+1)/((2^s:Nat):Rat):=by
 have r : -2147483648 ≤ -(s:Int) ∧ -(s:Int)≤2147483648:=⟨by omega,by omega⟩
 obtain ⟨h1,h2⟩:=divQ_near d hn s
 have hS:=nc_pos (Nat.two_pow_pos s)
 have hdiv:∀x:Rat,x/((2^s:Nat):Rat)*((2^s:Nat):Rat)=x:=fun x=>Rat.div_mul_cancel (by grind)
 have hneg:∀x:Rat,-x/((2^s:Nat):Rat) = -(x/((2^s:Nat):Rat)):=fun x=>by rw [Rat.div_def,Rat.div_def,Rat.neg_mul]
 have d3:=hdiv ((n:Rat)+1)
 rw [val_form d]
 unfold divD awayD
 rw [mk_val _ _ r,mk_val _ _ r,z2_sub,z2_sub]
 have d1:=hdiv (divQ d n s false:Rat)
 have d2:=hdiv (divQ d n s true:Rat)
 cases d.s with
 | false=>
  rw [if_neg (by decide),if_neg (by decide),if_neg (by decide)]
  show _≤(divQ d n s false:Rat)/_*_+_∧(divQ d n s true:Rat)/_*_≤_
  rw [←d1,←d3] at h1
  rw [←d2,←d3] at h2
  generalize (d.m:Rat)*(2:Rat)^d.e=v at *
  generalize (divQ d n s false:Rat)/((2^s:Nat):Rat)=A at *
  generalize (divQ d n s true:Rat)/((2^s:Nat):Rat)=B at *
  generalize ((n:Rat)+1)/((2^s:Nat):Rat)=C at *
  clear hdiv hneg d1 d2 d3
  generalize ((2^s:Nat):Rat)=S at *
  generalize (n:Rat)=N at *
  exact ⟨scale_le hS (by grind),scale_le hS (by grind)⟩
 | true=>
  rw [if_pos rfl,if_pos rfl,if_pos rfl,hneg,hneg]
  show _ ≤ -((divQ d n s true:Rat)/_)*_+_ ∧ -((divQ d n s false:Rat)/_)*_≤_
  rw [←d1,←d3] at h1
  rw [←d2,←d3] at h2
  generalize (d.m:Rat)*(2:Rat)^d.e=v at *
  generalize (divQ d n s false:Rat)/((2^s:Nat):Rat)=A at *
  generalize (divQ d n s true:Rat)/((2^s:Nat):Rat)=B at *
  generalize ((n:Rat)+1)/((2^s:Nat):Rat)=C at *
  clear hdiv hneg d1 d2 d3
  generalize ((2^s:Nat):Rat)=S at *
  generalize (n:Rat)=N at *
  exact ⟨scale_le hS (by grind),scale_le hS (by grind)⟩
end
section
open XX
def tT (y:Dy):Nat:=(max (y.top+1) 0).toNat
theorem scS_64 {a:Ask} (ha:AskOk a):scS a.y 64=128+tT a.y∧tT a.y≤1101:=by
 have:=ha.yt
 unfold scS tT
 omega
theorem y_abs {y:Dy} (h0:y.m≠0) : -((2^tT y:Nat):Rat)≤y.val∧y.val≤((2^tT y:Nat):Rat):=by
 have ht:y.top=bitLen y.m-1+y.e:=if_neg h0
 have hb:=bitLen_pos h0
 have h1:=(bitLen_le y.m (bitLen y.m)).1 (Nat.le_refl _)
 have key:(y.m:Rat)*(2:Rat)^y.e≤((2^tT y:Nat):Rat):=by
  have g1:=Rat.mul_le_mul_of_nonneg_right (ncast_le (Nat.le_of_lt h1)) (Rat.le_of_lt (z2_pos y.e))
  refine Rat.le_trans g1 ?_
  rw [←z2_nat,←z2_add]
  have e:(tT y:Int)=max (y.top+1) 0:=by unfold tT;omega
  rw [←z2_nat,e]
  obtain ⟨j,hj⟩:∃j:Nat,max (y.top+1) 0=((bitLen y.m:Nat):Int)+y.e+j:=⟨(max (y.top+1) 0-(((bitLen y.m:Nat):Int)+y.e)).toNat,by omega⟩
  rw [hj,z2_add _ (j:Int),z2_nat j]
  have g2:=ncast_le (Nat.two_pow_pos j)
  have g3:=Rat.mul_le_mul_of_nonneg_left g2 (Rat.le_of_lt (z2_pos (((bitLen y.m:Nat):Int)+y.e)))
  rw [show ((0+1:Nat):Rat)=1 from rfl,Rat.mul_one] at g3
  exact g3
 have hp:0≤(y.m:Rat)*(2:Rat)^y.e:=Rat.mul_nonneg (natc0 _) (Rat.le_of_lt (z2_pos _))
 rw [val_form y]
 split
 ·exact ⟨by grind,by grind⟩
 ·exact ⟨by grind,by grind⟩
theorem zI_wd {a:Ask} (ha:AskOk a):0≤wd (zI a 64)∧wd (zI a 64)≤67108864/((2^128:Nat):Rat):=by
 obtain ⟨es,hT⟩:=scS_64 ha
 obtain ⟨y1,y2⟩:=y_abs ha.y0
 obtain ⟨w1,w2⟩:=wd_log ha.x (s:=scS a.y 64) (by omega) (by omega)
 obtain ⟨m1,m2⟩:=wd_mul (y:=a.y) w1 y1 y2
 refine ⟨m1,Rat.le_trans m2 ?_⟩
 have hxl:=ha.xl
 have hnE:(nE a.x).natAbs≤2201:=by unfold nE;split<;>omega
 have hC:(12*scS a.y 64+60)*2+(24*scS a.y 64+120)*(nE a.x).natAbs≤67108864:=by
  have h1:(24*scS a.y 64+120)*(nE a.x).natAbs≤29616*2201:=Nat.mul_le_mul (by omega) hnE
  omega
 have hT0:=nc_pos (Nat.two_pow_pos (tT a.y))
 have hS0:=nc_pos (Nat.two_pow_pos 128)
 have hc:=ncast_le hC
 have eS:((2^scS a.y 64:Nat):Rat)=((2^128:Nat):Rat)*((2^tT a.y:Nat):Rat):=by rw [es,Nat.pow_add,ncast_mul]
 have hS:=nc_pos (Nat.two_pow_pos (scS a.y 64))
 have g1:=Rat.mul_le_mul_of_nonneg_left w2 (Rat.le_of_lt hT0)
 refine Rat.le_trans g1 ?_
 generalize (((12*scS a.y 64+60)*2+(24*scS a.y 64+120)*(nE a.x).natAbs:Nat):Rat)=C at *
 have hdiv:C/((2^scS a.y 64:Nat):Rat)*((2^scS a.y 64:Nat):Rat)=C:=Rat.div_mul_cancel (by grind)
 have hdiv2:(67108864:Rat)/((2^128:Nat):Rat)*((2^128:Nat):Rat)=67108864:=Rat.div_mul_cancel (by grind)
 rw [eS] at hdiv ⊢
 generalize C/(((2^128:Nat):Rat)*((2^tT a.y:Nat):Rat))=X at *
 generalize (67108864:Rat)/((2^128:Nat):Rat)=Z at *
 have hc2:C≤67108864:=hc
 clear g1 w2 m2 hc hC eS
 generalize ((2^128:Nat):Rat)=S at *
 generalize ((2^tT a.y:Nat):Rat)=T at *
 refine scale_le hS0 ?_
 rw [hdiv2]
 grind
theorem zS_wd {a:Ask} (ha:AskOk a):0≤wd (zS a 64)∧wd (zS a 64)≤1/1267650600228229401496703205376:=by
 obtain ⟨es,hT⟩:=scS_64 ha
 obtain ⟨w1,w2⟩:=zI_wd ha
 have k1:(67108864:Rat)/((2^128:Nat):Rat)+4/((2^128:Nat):Rat)≤1/1267650600228229401496703205376:=by decide +kernel
 have k0:(0:Rat)≤4/((2^128:Nat):Rat):=by decide +kernel
 unfold zS
 by_cases hn:1<a.n
 ·rw [if_pos hn]
  have nN:=nc_pos (show 0<a.n by omega)
  have hS128:=nc_pos (Nat.two_pow_pos 128)
  obtain ⟨d1,-⟩:=divD_near (zI a 64).lo (n:=a.n) (by omega) (s:=scS a.y 64) (by omega)
  obtain ⟨-,d2⟩:=divD_near (zI a 64).hi (n:=a.n) (by omega) (s:=scS a.y 64) (by omega)
  obtain ⟨c1,-⟩:=divD_bound (zI a 64).lo (n:=a.n) (by omega) (s:=scS a.y 64) (by omega)
  obtain ⟨-,c2⟩:=divD_bound (zI a 64).hi (n:=a.n) (by omega) (s:=scS a.y 64) (by omega)
  have hS:=nc_pos (Nat.two_pow_pos (scS a.y 64))
  have hle:((2^128:Nat):Rat)≤((2^scS a.y 64:Nat):Rat):=ncast_le (Nat.pow_le_pow_right (by decide) (by omega))
  have e1:((a.n:Rat)+1)/((2^scS a.y 64:Nat):Rat)*((2^scS a.y 64:Nat):Rat)=(a.n:Rat)+1:=Rat.div_mul_cancel (by grind)
  have e2:(4:Rat)/((2^128:Nat):Rat)*((2^128:Nat):Rat)=4:=Rat.div_mul_cancel (by grind)
  have n1:=ncast_le (show 1≤a.n by omega)
  have n1':((1:Nat):Rat)=1:=rfl
  rw [n1'] at n1
  have hX:2*(((a.n:Rat)+1)/((2^scS a.y 64:Nat):Rat))≤a.n*(4/((2^128:Nat):Rat)):=by
   refine scale_le hS ?_
   have t1:a.n*(4/((2^128:Nat):Rat))*((2^128:Nat):Rat)≤a.n*(4/((2^128:Nat):Rat))*((2^scS a.y 64:Nat):Rat):=Rat.mul_le_mul_of_nonneg_left hle (Rat.mul_nonneg (Rat.le_of_lt nN) k0)
   rw [Rat.mul_assoc,e2] at t1
   rw [Rat.mul_assoc,e1]
   grind
  unfold wd at *
  dsimp only
  generalize (divD (zI a 64).lo a.n (scS a.y 64) true).val=A at *
  generalize (divD (zI a 64).hi a.n (scS a.y 64) false).val=B at *
  generalize (zI a 64).lo.val=U at *
  generalize (zI a 64).hi.val=V at *
  generalize ((a.n:Rat)+1)/((2^scS a.y 64:Nat):Rat)=X at *
  generalize (4:Rat)/((2^128:Nat):Rat)=F at *
  generalize (67108864:Rat)/((2^128:Nat):Rat)=G at *
  clear e1 e2 hle
  have t2:(V-U)*1≤(V-U)*(a.n:Rat):=Rat.mul_le_mul_of_nonneg_left n1 w1
  constructor
  ·refine scale_le nN ?_
   grind
  ·refine Rat.le_trans ?_ k1
   have t3:G*1≤G*(a.n:Rat):=Rat.mul_le_mul_of_nonneg_left n1 (by grind)
   refine scale_le nN ?_
   grind
 ·rw [if_neg hn]
  exact ⟨w1,by grind⟩
end
section
open XX
theorem zS_right {a:Ask} (ha:AskOk a):(zS a 64).right:=by
 have hl:=zS_lim ha (b:=64) (by decide)
 have hw:=(zS_wd ha).1
 refine ⟨hl.1.fits (by decide),hl.2.fits (by decide),cmp_val_le.2 ?_⟩
 unfold wd at hw
 grind
theorem open_range {a:Ask} (ha:AskOk a) (hs:sgS a≠0) (ho:boundS (zS a 64) (sgS a)=0) : -747<(zS a 64).lo.val∧(zS a 64).hi.val<711:=by
 have hr:=zS_right ha
 obtain ⟨w1,w2⟩:=zS_wd ha
 have v1:(norm 710 0).val=710:=by decide +kernel
 have v2:(norm (-746) 0).val = -746:=by decide +kernel
 have k1:(1:Rat)/1267650600228229401496703205376<1:=by decide +kernel
 unfold boundS at ho
 rw [if_neg (fun h=>h.elim hs (fun h=>h hr))] at ho
 by_cases c1:0≤cmpD (zS a 64).lo (norm 710 0)
 ·rw [if_pos c1] at ho;exact absurd ho (by decide)
 rw [if_neg c1] at ho
 by_cases c2:cmpD (zS a 64).hi (norm (-746) 0)≤0
 ·rw [if_pos c2] at ho;exact absurd ho (by decide)
 have h1:=cmp_val_lt.1 (show cmpD (zS a 64).lo (norm 710 0)<0 by omega)
 have h2:=cmp_val_gt.1 (show 0<cmpD (zS a 64).hi (norm (-746) 0) by omega)
 rw [v1] at h1
 rw [v2] at h2
 unfold wd at w2
 exact ⟨by grind,by grind⟩
theorem top_of_val {d:Dy} (h1 : -2048<d.val) (h2:d.val<2048):d.top<12:=by
 by_cases h0:d.m=0
 ·rw [show d.top=0 from if_pos h0];decide
 have ht:d.top=bitLen d.m-1+d.e:=if_neg h0
 have hb:=bitLen_pos h0
 have h3:2^(bitLen d.m-1)≤d.m:=by
  refine Decidable.byContradiction fun hn=>?_
  have:=(bitLen_le d.m (bitLen d.m-1)).2 (by omega)
  omega
 have lo:(2:Rat)^d.top≤(d.m:Rat)*(2:Rat)^d.e:=by
  rw [ht,show (bitLen d.m:Int)-1+d.e=((bitLen d.m-1:Nat):Int)+d.e by omega,z2_add,z2_nat]
  exact Rat.mul_le_mul_of_nonneg_right (ncast_le h3) (Rat.le_of_lt (z2_pos _))
 have hv:(d.m:Rat)*(2:Rat)^d.e<2048:=by
  rw [val_form d] at h1 h2
  split at h1
  ·rename_i hs
   rw [if_pos hs] at h2
   grind
  ·rename_i hs
   rw [if_neg hs] at h2
   exact h2
 refine Int.not_le.1 fun hn=>?_
 have g1:(2:Rat)^(12:Int)≤(2:Rat)^d.top:=by
  rw [show d.top=12+((d.top-12).toNat:Int) by omega,z2_add,z2_nat]
  have g2:=ncast_le (Nat.two_pow_pos (d.top-12).toNat)
  have g3:=Rat.mul_le_mul_of_nonneg_left g2 (Rat.le_of_lt (z2_pos 12))
  rw [show ((0+1:Nat):Rat)=1 from rfl,Rat.mul_one] at g3
  exact g3
 have g4:(2048:Rat)<(2:Rat)^(12:Int):=by decide +kernel
 grind
theorem exR_of {d:Dy} (hok:d.ok) (he:d.ge (-19300)) (h1 : -2048<d.val) (h2:d.val<2048):exRight d=true:=by
 have ht:=top_of_val h1 h2
 unfold exRight
 by_cases h0:d.m=0
 ·rw [hok.z h0];decide
 ·have he2:=he.resolve_left h0
  have h3:d.top=bitLen d.m-1+d.e:=if_neg h0
  rw [Bool.and_eq_true,Bool.and_eq_true,decide_eq_true_eq,decide_eq_true_eq,decide_eq_true_eq]
  exact ⟨⟨by omega,by omega⟩,ht⟩
theorem zS_ge {a:Ask} (ha:AskOk a):(zS a 64).lo.ge (-19300)∧(zS a 64).hi.ge (-19300):=by
 obtain ⟨es,hT⟩:=scS_64 ha
 have gd:∀(d:Dy) (dn:Bool),(divD d a.n (scS a.y 64) dn).ge (-19300):=fun d dn=>by
  unfold divD
  have h:(mkD d.s (divQ d a.n (scS a.y 64) (awayD d dn)) (-((scS a.y 64:Nat):Int))).ge (-((scS a.y 64:Nat):Int)):=mkD_ge _ _ (by omega) (by omega)
  exact h.mono (by omega)
 have gm:(zI a 64).lo.ge (-19300)∧(zI a 64).hi.ge (-19300):=by
  have ll:=logS_lim ha.x (s:=scS a.y 64) (by omega)
  have hy:a.y.ge (-1200):=ha.yLim.ge
  have h1:(logS a.x (scS a.y 64)).ge (-18051):=⟨ll.1.ge,ll.2.ge⟩
  have h2:(⟨a.y,a.y⟩:Iv).ge (-1200):=⟨hy,hy⟩
  have h3:(mulI (logS a.x (scS a.y 64)) ⟨a.y,a.y⟩).ge (-18051 + -1200):=mulI_ge h1 h2
  have h4:(zI a 64).ge (-18051 + -1200):=h3
  exact ⟨h4.1.mono (by decide),h4.2.mono (by decide)⟩
 have e:zS a 64=if 1<a.n then ⟨divD (zI a 64).lo a.n (scS a.y 64) true,divD (zI a 64).hi a.n (scS a.y 64) false⟩ else zI a 64:=rfl
 rw [e]
 generalize zI a 64=Z at *
 by_cases hn:1<a.n
 ·rw [if_pos hn]
  exact ⟨gd _ _,gd _ _⟩
 ·rw [if_neg hn]
  exact gm
theorem open_right {a:Ask} (ha:AskOk a) (hs:sgS a≠0) (ho:boundS (zS a 64) (sgS a)=0):exRight (zS a 64).lo=true∧exRight (zS a 64).hi=true:=by
 obtain ⟨r1,r2⟩:=open_range ha hs ho
 obtain ⟨w1,w2⟩:=zS_wd ha
 obtain ⟨g1,g2⟩:=zS_ge ha
 have hl:=zS_lim ha (b:=64) (by decide)
 unfold wd at w1
 exact ⟨exR_of hl.1.ok g1 (by grind) (by grind),exR_of hl.2.ok g2 (by grind) (by grind)⟩
end
section
open XX
theorem fl_near (d:Dy) (s:Nat):d.val*((2^s:Nat):Rat)≤sv (floorS d s)+1∧sv (ceilS d s)≤d.val*((2^s:Nat):Rat)+1:=by
 obtain ⟨h1,h2⟩:=un_near d s
 have hv:=val_form d
 have e1:∀a,unitsS d s a=divM d s a:=fun _=>rfl
 unfold sv floorS ceilS
 dsimp only
 rw [e1,e1]
 by_cases hn:d.sg<0
 ·rw [decide_eq_true hn,if_pos rfl,if_pos rfl]
  have hs:d.s=true:=by
   unfold Dy.sg at hn
   split at hn
   ·omega
   ·split at hn
    ·assumption
    ·omega
  rw [if_pos hs] at hv
  show _ ≤ -(divM d s true:Rat)+1 ∧ -(divM d s false:Rat)≤_
  rw [hv,Rat.neg_mul]
  exact ⟨by grind,by grind⟩
 ·rw [decide_eq_false hn,if_neg (by decide),if_neg (by decide)]
  have hv2:d.val=(d.m:Rat)*(2:Rat)^d.e:=by
   by_cases h0:d.m=0
   ·rw [val_zero h0,h0]
    have:((0:Nat):Rat)=0:=rfl
    rw [this,Rat.zero_mul]
   ·rw [hv,if_neg]
    intro hs
    apply hn
    unfold Dy.sg
    rw [if_neg h0,hs]
    decide
  rw [hv2]
  exact ⟨h1,h2⟩
theorem sv_pos {n:Bool × Nat} (h:0≤sv n):(n.2:Rat)=sv n:=by
 unfold sv at h ⊢
 have:=natc0 n.2
 split at h
 ·rename_i hs
  rw [if_pos hs]
  grind
 ·rename_i hs
  rw [if_neg hs]
theorem ln2_small {s:Nat}:10*(ln2S s).lo≤7*2^s:=by
 have hS:=nc_pos (Nat.two_pow_pos s)
 have h:=ln2_lo s
 refine Nat.not_lt.1 fun hlt=>?_
 have h1:=Rat.natCast_lt_natCast.2 hlt
 rw [ncast_mul,ncast_mul] at h1
 have hdiv:((ln2S s).lo:Rat)/((2^s:Nat):Rat)*((2^s:Nat):Rat)=((ln2S s).lo:Rat):=Rat.div_mul_cancel (by grind)
 have c7:((7:Nat):Rat)=7:=rfl
 have c10:((10:Nat):Rat)=10:=rfl
 rw [c7,c10] at h1
 have h2:(7:Rat)/10≤((ln2S s).lo:Rat)/((2^s:Nat):Rat):=scale_le hS (by rw [hdiv];grind)
 have h3:=h.mono h2 Rat.le_refl (by decide)
 have h4:XL (Es 3 (7/10)) (7/10):=XL.sum (by decide +kernel) 3 Rat.le_refl (by decide +kernel)
 have h5:=h4.le h3 (by decide +kernel) (by decide)
 exact absurd h5 (by decide +kernel)
end
section
open XX
theorem nat_of_rat {a b:Nat} (h:(a:Rat)≤(b:Rat)):a≤b:=Rat.natCast_le_natCast.1 h
set_option maxHeartbeats 1000000 in
theorem split_wd {i:Iv} {s:Nat} (h128:128≤s) (hs:s≤1229) (w0:0≤wd i) (w1:wd i≤1/1267650600228229401496703205376) (r1 : -747<i.lo.val) (r2:i.hi.val<711) :
  (splitK i s).2.1≤(splitK i s).2.2∧(splitK i s).2.2≤(splitK i s).2.1+2^(s-99)∧(splitK i s).2.2≤2^s:=by
 obtain ⟨b1,b2⟩:=ln2_big (s:=s) (by omega)
 have w2:=ln2_wd (s:=s) (by omega)
 unfold Wd at w2
 have small:=ln2_small (s:=s)
 obtain ⟨f1,-⟩:=fl_bound i.lo s
 obtain ⟨-,f2⟩:=fl_bound i.hi s
 obtain ⟨g1,-⟩:=fl_near i.lo s
 obtain ⟨-,g2⟩:=fl_near i.hi s
 have hlo:0<(ln2S s).lo:=Nat.lt_of_lt_of_le (Nat.two_pow_pos _) b1
 have hS:=nc_pos (Nat.two_pow_pos s)
 obtain ⟨H,hH⟩:∃H,H=2^(s-100):=⟨_,rfl⟩
 have eS:2^s=2^100*H:=by rw [hH,←Nat.pow_add];congr 1;omega
 have eD:2^(s-99)=2*H:=by rw [hH,show s-99=(s-100)+1 by omega,Nat.pow_succ,Nat.mul_comm]
 have eh:2^(s-1)=2^99*H:=by rw [hH,←Nat.pow_add];congr 1;omega
 have hH28:268435456≤H:=by rw [hH];exact Nat.le_trans (show 268435456≤2^28 by decide) (Nat.pow_le_pow_right (by decide) (by omega))
 have p100:(2:Nat)^100=1267650600228229401496703205376:=by decide
 have p99:(2:Nat)^99=633825300114114700748351602688:=by decide
 rw [p100] at eS
 rw [p99] at eh
 rw [eh] at b1
 rw [eD]
 have eSr:((2^s:Nat):Rat)=1267650600228229401496703205376*(H:Rat):=by rw [eS,ncast_mul];rfl
 have hHr:=nc_pos (show 0<H by omega)
 have wS:i.hi.val*((2^s:Nat):Rat)≤i.lo.val*((2^s:Nat):Rat)+(H:Rat):=by
  have:=Rat.mul_le_mul_of_nonneg_right w1 (Rat.le_of_lt hS)
  unfold wd at this
  rw [eSr] at this ⊢
  grind
 have wO:i.lo.val*((2^s:Nat):Rat)≤i.hi.val*((2^s:Nat):Rat):=by
  have:=Rat.mul_le_mul_of_nonneg_right (show i.lo.val≤i.hi.val by unfold wd at w0;grind) (Rat.le_of_lt hS)
  exact this
 have rl : -747*((2^s:Nat):Rat)≤i.lo.val*((2^s:Nat):Rat):=Rat.mul_le_mul_of_nonneg_right (Rat.le_of_lt r1) (Rat.le_of_lt hS)
 have rh:i.lo.val*((2^s:Nat):Rat)≤711*((2^s:Nat):Rat):=Rat.le_trans wO (Rat.mul_le_mul_of_nonneg_right (Rat.le_of_lt r2) (Rat.le_of_lt hS))
 have hw2:(ln2S s).hi≤(ln2S s).lo+29616:=by omega
 unfold splitK
 by_cases hn:(floorS i.lo s).1=true
 ·rw [if_pos hn]
  dsimp only
  generalize hq:cD (floorS i.lo s).2 (ln2S s).lo=q
  have c1:=cD_ge (a:=(floorS i.lo s).2) hlo
  have c2:=cD_up (floorS i.lo s).2 hlo
  rw [hq] at c1 c2
  have q1:=plus_sv (floorS i.lo s) (q*(ln2S s).lo)
  have q2:=plus_sv (ceilS i.hi s) (q*(ln2S s).hi)
  have sf:sv (floorS i.lo s) = -((floorS i.lo s).2:Rat):=by unfold sv;rw [if_pos hn]
  have c1r:=ncast_le c1
  have e1:=sv_pos (n:=plusS (floorS i.lo s) (q*(ln2S s).lo)) (by rw [q1,sf];grind)
  have mono:q*(ln2S s).lo≤q*(ln2S s).hi:=Nat.mul_le_mul_left _ b2
  have monor:=ncast_le mono
  have e2:=sv_pos (n:=plusS (ceilS i.hi s) (q*(ln2S s).hi)) (by rw [q2];rw [sf] at f1;grind)
  rw [q1] at e1
  rw [q2] at e2
  have hfl:((floorS i.lo s).2:Rat)≤((747*2^s+1:Nat):Rat):=by
   rw [ncast_add,ncast_mul]
   show _≤(747:Rat)*((2^s:Nat):Rat)+1
   rw [sf] at g1
   grind
  have hfl2:=nat_of_rat hfl
  have hqb:q≤1500:=by
   have h1:(floorS i.lo s).2/(ln2S s).lo≤1499:=by
    refine Nat.le_of_lt_succ ((Nat.div_lt_iff_lt_mul hlo).2 ?_)
    have:=Nat.mul_le_mul_left 1500 b1
    omega
   omega
  have hqw:q*(ln2S s).hi≤q*(ln2S s).lo+1500*29616:=by
   have h1:=Nat.mul_le_mul_left q hw2
   have h2:=Nat.mul_le_mul_right 29616 hqb
   rw [Nat.mul_add] at h1
   omega
  have hqwr:=ncast_le hqw
  rw [ncast_add] at hqwr
  have cc:((1500*29616:Nat):Rat)+2≤(H:Rat):=by
   have:=ncast_le (show 1500*29616+2≤H by omega)
   rw [ncast_add] at this
   exact this
  have xle:(plusS (floorS i.lo s) (q*(ln2S s).lo)).2≤(ln2S s).lo:=by
   have h1:q*(ln2S s).lo≤(floorS i.lo s).2+(ln2S s).lo:=by
    have h2:=Nat.mul_le_mul_right (ln2S s).lo c2
    rw [Nat.add_mul,Nat.one_mul] at h2
    have h3:=Nat.div_mul_le_self (floorS i.lo s).2 (ln2S s).lo
    omega
   refine nat_of_rat ?_
   have:=ncast_le h1
   rw [ncast_add] at this
   rw [e1,sf]
   grind
  have A:(plusS (floorS i.lo s) (q*(ln2S s).lo)).2≤(plusS (ceilS i.hi s) (q*(ln2S s).hi)).2:=nat_of_rat (by rw [e1,e2];grind)
  have B:(plusS (ceilS i.hi s) (q*(ln2S s).hi)).2≤(plusS (floorS i.lo s) (q*(ln2S s).lo)).2+2*H:=nat_of_rat (by
   rw [ncast_add,ncast_mul,e1,e2]
   have c2':((2:Nat):Rat)=2:=rfl
   rw [c2']
   grind)
  exact ⟨A,B,by omega⟩
 ·rw [if_neg hn]
  dsimp only
  generalize hq:(floorS i.lo s).2/(ln2S s).hi=q
  have hhi:0<(ln2S s).hi:=by omega
  have c1:=Nat.div_add_mod (floorS i.lo s).2 (ln2S s).hi
  have c3:=Nat.mod_lt (floorS i.lo s).2 hhi
  rw [hq] at c1
  have q2:=minus_sv (ceilS i.hi s) (q*(ln2S s).lo)
  have sf:sv (floorS i.lo s)=((floorS i.lo s).2:Rat):=by unfold sv;rw [if_neg hn]
  have mono:q*(ln2S s).lo≤q*(ln2S s).hi:=Nat.mul_le_mul_left _ b2
  have monor:=ncast_le mono
  have q1:((q*(ln2S s).hi:Nat):Rat)+(((floorS i.lo s).2%(ln2S s).hi:Nat):Rat)=((floorS i.lo s).2:Rat):=by rw [←ncast_add,Nat.mul_comm q,c1]
  have xn:=natc0 ((floorS i.lo s).2%(ln2S s).hi)
  have e2:=sv_pos (n:=minusS (ceilS i.hi s) (q*(ln2S s).lo)) (by rw [q2];rw [sf] at f1;grind)
  rw [q2] at e2
  have hfl:((floorS i.lo s).2:Rat)≤((711*2^s+1:Nat):Rat):=by
   rw [ncast_add,ncast_mul]
   show _≤(711:Rat)*((2^s:Nat):Rat)+1
   rw [sf] at f1
   grind
  have hfl2:=nat_of_rat hfl
  have hqb:q≤1500:=by
   have h5:=Nat.mul_le_mul_left 1501 (Nat.le_trans b1 b2)
   have h6:(floorS i.lo s).2<1501*(ln2S s).hi:=by omega
   have h7:(floorS i.lo s).2/(ln2S s).hi<1501:=(Nat.div_lt_iff_lt_mul hhi).2 h6
   omega
  have hqw:q*(ln2S s).hi≤q*(ln2S s).lo+1500*29616:=by
   have h1:=Nat.mul_le_mul_left q hw2
   have h2:=Nat.mul_le_mul_right 29616 hqb
   rw [Nat.mul_add] at h1
   omega
  have hqwr:=ncast_le hqw
  rw [ncast_add] at hqwr
  have cc:((1500*29616:Nat):Rat)+2≤(H:Rat):=by
   have:=ncast_le (show 1500*29616+2≤H by omega)
   rw [ncast_add] at this
   exact this
  have A:(floorS i.lo s).2%(ln2S s).hi≤(minusS (ceilS i.hi s) (q*(ln2S s).lo)).2:=nat_of_rat (by rw [e2];rw [sf] at f1;grind)
  have B:(minusS (ceilS i.hi s) (q*(ln2S s).lo)).2≤(floorS i.lo s).2%(ln2S s).hi+2*H:=nat_of_rat (by
   rw [ncast_add,ncast_mul,e2]
   have c2':((2:Nat):Rat)=2:=rfl
   rw [c2']
   rw [sf] at g1
   grind)
  exact ⟨A,B,by omega⟩
end
section
open XX
theorem open_split {a:Ask} (ha:AskOk a) (hs:sgS a≠0) (ho:boundS (zS a 64) (sgS a)=0):splitOk (zS a 64) (scS a.y 64)∧(splitK (zS a 64) (scS a.y 64)).2.1≤(splitK (zS a 64) (scS a.y 64)).2.2∧(splitK (zS a 64) (scS a.y 64)).2.2≤(splitK (zS a 64) (scS a.y 64)).2.1+2^(scS a.y 64-99)∧(splitK (zS a 64) (scS a.y 64)).2.2≤2^scS a.y 64:=by
 obtain ⟨es,hT⟩:=scS_64 ha
 obtain ⟨w0,w1⟩:=zS_wd ha
 obtain ⟨r1,r2⟩:=open_range ha hs ho
 obtain ⟨e1,e2⟩:=open_right ha hs ho
 have hr:=zS_right ha
 obtain ⟨s1,s2,s3⟩:=split_wd (i:=zS a 64) (s:=scS a.y 64) (by omega) (by omega) w0 w1 r1 r2
 exact ⟨⟨e1,e2,hr.2.2,s3⟩,s1,s2,s3⟩
theorem exN_le {a b s:Nat} (h:a≤b):LeP (expN a b s):=by
 have main:∀(f:Nat) (sum term:PN) (n:Nat),LeP sum→LeP term→1≤n→LeP (exLoop s ⟨a,b⟩ f sum term n).1:=by
  intro f
  induction f with
  | zero=>intro sum term n h1 _ _;exact h1
  | succ f ih=>
   intro sum term n h1 h2 h3
   have hp:LeP ((term.times ⟨a,b⟩ s).part n):=part_le h3 (times_le h2 h)
   have hs2:LeP (sum.plus ((term.times ⟨a,b⟩ s).part n)):=Nat.add_le_add h1 hp
   unfold exLoop
   split
   ·exact h1
   ·split
    ·exact hs2
    ·exact ih _ _ _ hs2 hp (by omega)
 have h1:=main (s+2) ⟨2^s,2^s⟩ ⟨2^s,2^s⟩ 1 (Nat.le_refl _) (Nat.le_refl _) (Nat.le_refl _)
 show (exR a b s).1.lo≤(exR a b s).1.hi+_
 exact Nat.le_trans h1 (Nat.le_add_right _ _)
theorem fin_nat {hi lo C S X:Nat} (w1:hi≤lo+C) (w2:S≤lo) (h:C*X≤S):hi*X≤lo*(X+1):=by
 have h1:=Nat.mul_le_mul_right X w1
 rw [Nat.add_mul] at h1
 rw [Nat.mul_succ]
 omega
set_option maxHeartbeats 1000000 in
theorem open_exp {a:Ask} (ha:AskOk a) (hs:sgS a≠0) (ho:boundS (zS a 64) (sgS a)=0):decR (expI (zS a 64) (scS a.y 64))∧(expI (zS a 64) (scS a.y 64)).hi.val≤(expI (zS a 64) (scS a.y 64)).lo.val*(1+1/1152921504606846976):=by
 obtain ⟨es,hT⟩:=scS_64 ha
 obtain ⟨h0,h1,h2,h3⟩:=open_split ha hs ho
 have hl:=expI_lim (i:=zS a 64) (s:=scS a.y 64) (by omega) (by omega) h0
 have hK:=splitK_range (i:=zS a 64) (s:=scS a.y 64) (by omega) h0
 obtain ⟨w1,w2⟩:=exp_wd h1 h2 h3
 have hle:(expN (splitK (zS a 64) (scS a.y 64)).2.1 (splitK (zS a 64) (scS a.y 64)).2.2 (scS a.y 64)).lo≤(expN (splitK (zS a 64) (scS a.y 64)).2.1 (splitK (zS a 64) (scS a.y 64)).2.2 (scS a.y 64)).hi:=exN_le h1
 have e1:expPN (splitK (zS a 64) (scS a.y 64)).2.1 (splitK (zS a 64) (scS a.y 64)).2.2 (scS a.y 64)=expN (splitK (zS a 64) (scS a.y 64)).2.1 (splitK (zS a 64) (scS a.y 64)).2.2 (scS a.y 64):=if_pos ⟨h1,h3⟩
 unfold expI at hl ⊢
 rw [e1] at hl ⊢
 clear h0 h2 h3 e1
 generalize scS a.y 64=s at *
 generalize expN (splitK (zS a 64) s).2.1 (splitK (zS a 64) s).2.2 s=N at *
 generalize (splitK (zS a 64) s).1=K at *
 have r : -2147483648 ≤ -((s:Int)-K) ∧ -((s:Int)-K)≤2147483648:=⟨by omega,by omega⟩
 have v1:=mk_val false N.lo r
 have v2:=mk_val false N.hi r
 rw [if_neg Bool.false_ne_true] at v1 v2
 have hz:=z2_pos (-((s:Int)-K))
 have hle2:=Rat.mul_le_mul_of_nonneg_right (ncast_le hle) (Rat.le_of_lt hz)
 have hns:withinS N.lo N.hi ((s:Int)-K) false=⟨mkD false N.lo (-((s:Int)-K)),mkD false N.hi (-((s:Int)-K))⟩:=by
  unfold withinS
  rw [if_neg (fun h=>by
   have:=cmp_val_gt.1 h
   rw [v1,v2] at this
   grind)]
 rw [hns] at hl ⊢
 dsimp only
 have hpow:(s+6)*(2^(s-99)+7)*1152921504606846976≤2^s:=by
  have p99:(2:Nat)^99=633825300114114700748351602688:=by decide
  have e2:2^s=633825300114114700748351602688*2^(s-99):=by
   rw [←p99,←Nat.pow_add,show 99+(s-99)=s by omega]
  have h29:536870912≤2^(s-99):=Nat.le_trans (show 536870912≤2^29 by decide) (Nat.pow_le_pow_right (by decide) (by omega))
  rw [e2]
  generalize 2^(s-99)=D at *
  have h5:(s+6)*(D+7)≤1235*(2*D):=Nat.mul_le_mul (by omega) (by omega)
  omega
 have hfin:N.hi*1152921504606846976≤N.lo*1152921504606846977:=fin_nat w1 w2 hpow
 have hpos:0<N.lo:=Nat.lt_of_lt_of_le (Nat.two_pow_pos s) w2
 constructor
 ·refine ⟨⟨hl.1.fits (by decide),hl.2.fits (by decide),cmp_val_le.2 (by rw [v1,v2];exact hle2)⟩,sg_val.2.2.2 ?_⟩
  dsimp only
  rw [v1]
  exact Rat.mul_pos (nc_pos hpos) hz
 ·rw [v1,v2]
  have h6:=ncast_le hfin
  rw [ncast_mul,ncast_mul] at h6
  have c1:((1152921504606846976:Nat):Rat)=1152921504606846976:=rfl
  have c2:((1152921504606846977:Nat):Rat)=1152921504606846977:=rfl
  rw [c1,c2] at h6
  have h7:(N.hi:Rat)≤(N.lo:Rat)*(1+1/1152921504606846976):=by grind
  have h8:=Rat.mul_le_mul_of_nonneg_right h7 (Rat.le_of_lt hz)
  grind
end
section
open XX
theorem fd_gap {b:Nat} (hb:b<INF):(fd b).val*(1+1/9007199254740992)≤(fd (b+1)).val:=by
 have hI:=INF_lt
 have e1:=fd_at' (b:=b) (by omega) (k := -1074) (by decide)
 have e2:=fd_at' (b:=b+1) (by omega) (k := -1074) (by decide)
 have hfm:=fm_lt b
 rw [val_at (d:=fd b) (k := -1074) (fd_ge b),val_at (d:=fd (b+1)) (k := -1074) (fd_ge (b+1)),e1,e2,fv_succ hb]
 have hz:=z2_pos (-1074)
 rw [show (-1074 - -1074:Int).toNat=0 by decide,Nat.pow_zero,Nat.mul_one,Nat.mul_one]
 show ((fv b:Nat):Rat)*_*_≤(((fm b+1)*2^(max (fe b) 1-1):Nat):Rat)*_
 have hfv:fv b=fm b*2^(max (fe b) 1-1):=rfl
 rw [hfv,ncast_mul,ncast_mul,natc]
 have hP:=nc_pos (Nat.two_pow_pos (max (fe b) 1-1))
 have h1:=ncast_le (Nat.le_of_lt hfm)
 have h2:((9007199254740992:Nat):Rat)=9007199254740992:=rfl
 rw [h2] at h1
 generalize ((2^(max (fe b) 1-1):Nat):Rat)=P at *
 generalize (fm b:Rat)=m at *
 generalize (2:Rat)^(-1074:Int)=z at *
 have h3:m*(1+1/9007199254740992)≤m+1:=by grind
 have h4:=Rat.mul_le_mul_of_nonneg_right h3 (Rat.le_of_lt (Rat.mul_pos hP hz))
 grind
theorem low_near {A B:Dy} (sA:A.s=false) (sB:B.s=false) (mA:A.m≠0) (mB:B.m≠0) (h:B.val≤A.val*(1+1/1152921504606846976)):low B≤low A+1:=by
 obtain ⟨a1,a2⟩:=low_val sA mA
 obtain ⟨b1,-⟩:=low_val sB mB
 have hB:=low_le B
 refine Nat.not_lt.1 fun hlt=>?_
 have a3:=a2.resolve_left (by omega)
 have g:=fd_gap (b:=low A+1) (by omega)
 have l:=fd_le' hB (show low A+1+1≤low B by omega)
 have hp:=pos_val sA mA
 grind
theorem mag_dwn {d:Dy} (h0:d.m≠0) {neg:Bool} {dir:Int} (hd:dwn neg dir=true):(magS (sz d neg) true dir).1=if 1023<d.top then MAX else low d:=by
 have hu:upw dir neg=false∧dir≠0:=by
  unfold dwn at hd
  unfold upw
  constructor
  ·cases neg<;>simp at hd ⊢<;>omega
  ·intro h
   subst h
   cases neg<;>simp at hd
 unfold magS
 have htz:(sz d neg).top=d.top:=rfl
 rw [htz]
 by_cases ht:1023<d.top
 ·rw [if_pos ht,if_pos ht,if_neg (fun h=>h.elim hu.2 (fun h=>by
   have:(sz d neg).s=neg:=rfl
   rw [this,hu.1] at h
   exact Bool.false_ne_true h))]
 ·rw [if_neg ht,if_neg ht]
  have ha:∀o H L,awayS dir (sz d neg).s o H L=false:=fun o H L=>by
   unfold awayS
   rw [if_neg hu.2,show (sz d neg).s=neg from rfl,hu.1,Bool.and_false]
  rw [ha,if_neg Bool.false_ne_true]
  have hlt:low (sz d neg)<INF:=by
   have hl:low d=packB (flo d (unitOf d.top)) (unitOf d.top):=if_neg (by omega)
   show low d<INF
   rw [hl];exact pack_lt_inf (flo_ok h0 (by omega))
  rw [if_neg (by omega)]
  rfl
theorem mag_up {d:Dy} (h0:d.m≠0) {neg:Bool} {dir:Int} (hd:dir≠0) (hu:upw dir neg=true):(magS (sz d neg) true dir).1=if 1023<d.top then INF else low d+1:=by
 unfold magS
 have htz:(sz d neg).top=d.top:=rfl
 rw [htz]
 by_cases ht:1023<d.top
 ·rw [if_pos ht,if_pos ht,if_pos (show dir=0∨upw dir (sz d neg).s=true from .inr hu)]
 ·rw [if_neg ht,if_neg ht]
  have ha:∀o H L,awayS dir (sz d neg).s o H (L || true)=true:=fun o H L=>by
   unfold awayS
   rw [if_neg hd,show (sz d neg).s=neg from rfl,hu,Bool.or_true,Bool.or_true];rfl
  rw [ha,if_pos rfl]
  have lz:low (sz d neg)=low d:=rfl
  rw [lz]
  by_cases e:low d+1=INF
  ·rw [if_pos e];exact e.symm
  ·rw [if_neg e]
theorem mag_nr {d:Dy} (h0:d.m≠0) {neg:Bool}:(magS (sz d neg) true 0).1=if 1023<d.top then INF else if hf d (unitOf d.top)=true then low d+1 else low d:=by
 unfold magS
 have htz:(sz d neg).top=d.top:=rfl
 rw [htz]
 by_cases ht:1023<d.top
 ·rw [if_pos ht,if_pos ht,if_pos (show (0:Int)=0∨upw 0 (sz d neg).s=true from .inl rfl)]
 ·rw [if_neg ht,if_neg ht]
  have ha:∀o H L,awayS 0 (sz d neg).s o H (L || true)=H:=fun o H L=>by
   unfold awayS
   rw [if_pos rfl,Bool.or_true,Bool.true_or,Bool.and_true]
  have hz:hf (sz d neg) (unitOf d.top)=hf d (unitOf d.top):=rfl
  have lz:low (sz d neg)=low d:=rfl
  rw [ha,hz,lz]
  generalize (if hf d (unitOf d.top)=true then low d+1 else low d)=X
  by_cases e:X=INF
  ·rw [if_pos e];exact e.symm
  ·rw [if_neg e]
theorem mid_half {b:Nat} (hb:b<INF):(mid b).val+(mid b).val=(fd b).val+(fd (b+1)).val:=by
 have hI:=INF_lt
 have e1:=fd_at' (b:=b) (by omega) (k := -1075) (by decide)
 have e2:=fd_at' (b:=b+1) (by omega) (k := -1075) (by decide)
 rw [val_at (d:=mid b) (k := -1075) (mid_ge b),val_at (d:=fd b) (k := -1075) ((fd_ge b).mono (by decide)),val_at (d:=fd (b+1)) (k := -1075) ((fd_ge (b+1)).mono (by decide)),e1,e2,mid_sum hb]
 rw [show (-1074 - -1075:Int).toNat=1 by decide,Nat.pow_one]
 show ((fv b+fv (b+1):Nat):Rat)*_+((fv b+fv (b+1):Nat):Rat)*_=((fv b*2:Nat):Rat)*_+((fv (b+1)*2:Nat):Rat)*_
 rw [ncast_add,ncast_mul,ncast_mul,show ((2:Nat):Rat)=2 from rfl]
 generalize (fv b:Rat)=p
 generalize (fv (b+1):Rat)=q
 generalize (2:Rat)^(-1075:Int)=z
 grind
theorem up_of {neg:Bool} {dir:Int} (hd:0≤dir∧dir≤3) (h0:dir≠0) (hn:¬dwn neg dir=true):upw dir neg=true:=by
 have c:dir=1∨dir=2∨dir=3:=by omega
 rcases c with rfl | rfl | rfl<;>cases neg<;>revert hn<;>decide
theorem loose_beside {w:Rat} {Q L:Nat} (hQ:0<Q) (hL:LwV w Q L) {A B:Dy} (sA:A.s=false) (sB:B.s=false) (mA:A.m≠0) (mB:B.m≠0) (lo:A.val^Q≤w) (hi:w≤B.val^Q) (hn:B.val≤A.val*(1+1/1152921504606846976)) {neg:Bool} {dir:Int} (hd:0≤dir∧dir≤3) {r:Nat}
  (hr:(magS (sz (if dwn neg dir=true then B else A) neg) true dir).1=r):(L=INF∧(r=MAX∨r=INF))∨(L<INF∧(r=L∨r=L+1)):=by
 have hI:INF=9218868437227405312:=rfl
 have hM:MAX=9218868437227405311:=rfl
 have a1:=(low_ends hQ hL sA mA).1 lo
 have b1:=(low_ends hQ hL sB mB).2 hi
 have g:=low_near sA sB mA mB hn
 have tT:∀d:Dy,1023<d.top→low d=INF:=fun d h=>if_pos h
 have lT:∀d:Dy,d.m≠0→¬1023<d.top→low d<INF:=fun d h0 h=>by
  have hl:low d=packB (flo d (unitOf d.top)) (unitOf d.top):=if_neg h
  rw [hl];exact pack_lt_inf (flo_ok h0 (by omega))
 have hLI:=hL.1
 by_cases hdw:dwn neg dir=true
 ·rw [if_pos hdw,mag_dwn mB hdw] at hr
  by_cases t:1023<B.top
  ·rw [if_pos t] at hr
   have:=tT B t
   omega
  ·rw [if_neg t] at hr
   have:=lT B mB t
   omega
 rw [if_neg hdw] at hr
 by_cases h0:dir=0
 ·subst h0
  rw [mag_nr mA] at hr
  by_cases t:1023<A.top
  ·rw [if_pos t] at hr
   have:=tT A t
   omega
  rw [if_neg t] at hr
  have hlt:=lT A mA t
  by_cases hh:hf A (unitOf A.top)=true
  ·rw [if_pos hh] at hr
   omega
  rw [if_neg hh] at hr
  by_cases e:L=low A
  ·omega
  exfalso
  have eL:L=low A+1:=by omega
  have p:=(pos_mid mA (show A.top≤1023 by omega)).1
  rw [if_neg hh,abs_pos sA] at p
  have p1:A.val<(mid (low A)).val:=cmp_val_lt.1 (by omega)
  have p2:=mid_half hlt
  have p3:=fd_gap hlt
  have p4:(fd L).val≤B.val:=rpow_le_iff (Rat.le_of_lt (pos_val sB mB)) hQ (Rat.le_trans hL.2.1 hi)
  rw [eL] at p4
  have p5:=fd_val0 (low A) (by omega)
  clear a1 b1 g tT lT hL lo hi
  generalize (fd (low A)).val=f0 at *
  generalize (fd (low A+1)).val=f1 at *
  generalize (mid (low A)).val=mv at *
  generalize A.val=a at *
  generalize B.val=b at *
  grind
 ·rw [mag_up mA h0 (up_of hd h0 hdw)] at hr
  by_cases t:1023<A.top
  ·rw [if_pos t] at hr
   have:=tT A t
   omega
  ·rw [if_neg t] at hr
   have:=lT A mA t
   omega
end
section
open XX
theorem lw_ask {a:Ask} (ha:AskOk a) {m:Int} {q L:Nat} (hq:0<q) (h:m*askQ a=askP a*q) (hL:LwV (a.x.val^m) q L):LwV (askW a) (askQ a) L:=by
 obtain ⟨h1,h2,h3⟩:=hL
 have hx:0<a.x.val:=pos_val ha.x.pos ha.x.m0
 refine ⟨h1,(pw_le hx (fd_val0 L h1) hq (askQ_pos ha) h).1.1 h2,?_⟩
 by_cases e:L=INF
 ·exact .inl e
 ·right
  have h4:=h3.resolve_left e
  refine Decidable.byContradiction fun hc=>?_
  have h5:=(pw_le hx (fd_val0 (L+1) (by omega)) hq (askQ_pos ha) h).1.2 (Rat.not_lt.1 hc)
  exact absurd h4 (Rat.not_lt.2 h5)
theorem neg_link {k:Int} {x y:Nat} {n dir f t:Int} (hk:0≤k∧k≤3) (ho:opO k x y n=none):negS k x y n=(opA k x y n dir f t).neg:=by
 have ht:decide (n.tmod 2≠0)=podd n:=tmod2 n
 unfold negS opA
 rw [ht]
 by_cases c3:k=3
 ·rw [if_pos (.inr c3),if_neg (by omega),if_neg (by omega),if_neg (by omega)]
  rfl
 by_cases hs:fs x=false
 ·rw [if_pos (.inl hs)]
  by_cases c0:k=0
  ·rw [if_pos c0]
   show false=(fs x && od y)
   rw [hs];rfl
  rw [if_neg c0]
  by_cases c1:k=1
  ·rw [if_pos c1]
   show false=(fs x && podd n)
   rw [hs];rfl
  rw [if_neg c1,if_pos (by omega)]
  show false=fs x
  rw [hs]
 have hs2:fs x=true:=by cases h:fs x with
  | false=>exact absurd h hs
  | true=>rfl
 rw [if_neg (fun h=>h.elim hs c3)]
 by_cases c0:k=0
 ·rw [if_pos c0,if_pos c0]
  show od y=(fs x && od y)
  rw [hs2];rfl
 rw [if_neg c0,if_neg c0]
 by_cases c1:k=1
 ·rw [if_pos c1]
  show podd n=(fs x && podd n)
  rw [hs2];rfl
 have c2:k=2:=by omega
 rw [if_neg c1,if_pos c2]
 show podd n=fs x
 rw [hs2]
 unfold opO at ho
 rw [if_neg c0,if_neg c1,if_pos c2] at ho
 obtain ⟨hkx,-⟩:=rootnS_none ho
 unfold rootnS at ho
 split at ho
 ·cases ho
 split at ho
 ·cases ho
 split at ho
 ·cases ho
 split at ho
 ·cases ho
 ·rename_i hc
  cases hp:podd n with
  | true=>rfl
  | false=>exact absurd ⟨hs2,by omega,hp⟩ hc
theorem one_zp (P:Int):(1:Rat)^P=1:=by
 rcases Int.le_total 0 P with h | h
 ·obtain ⟨n,rfl⟩:=Int.eq_ofNat_of_zero_le h
  rw [Rat.zpow_natCast,one_pow']
 ·obtain ⟨n,hn⟩:=Int.eq_ofNat_of_zero_le (show 0 ≤ -P by omega)
  rw [zp_neg,hn,Rat.zpow_natCast,one_pow']
  decide +kernel
theorem sg_one {a:Ask} (ha:AskOk a) (h:sgS a=0):a.x.val=1:=by
 have v1:(norm 1 0).val=1:=by decide +kernel
 have hy:a.y.sg≠0:=by
  unfold Dy.sg
  rw [if_neg ha.y0]
  split<;>decide
 have hc:=(Int.mul_eq_zero.1 h).resolve_left hy
 have:=cmp_val_eq.1 hc
 rw [this,v1]
theorem exact_val {a:Ask} (ha:AskOk a) {m:Int} {q:Nat} (hq:1≤q) (hw:wholeOk a.y a.n) (hm:exM (lowD a.y a.n)=m) (hq2:exK (lowD a.y a.n)*lowQ a.y a.n=q) {d:Dy} (hx:exactO a=some d):a.x.val^m=d.val^q:=by
 unfold exactO at hx
 split at hx
 ·rename_i hs
  cases hx
  have v1:(norm 1 0).val=1:=by decide +kernel
  rw [sg_one ha hs,v1,one_zp,one_pow']
 ·first | (rw [if_pos hw,hm,hq2] at hx) | (rw [hm,hq2] at hx)
  exact (pow_sound (ask_pos ha) ha.x hq hx).2.2
theorem withS_inj {s:Bool} {a b:Nat} (h:withS s a=withS s b):a=b:=by
 unfold withS at h
 split at h<;>omega
theorem sgn_fd {L:Nat} (hL:L<INF) (h0:L≠0) (neg:Bool) (dir:Int):toS (sgnD (fd L) neg) false dir=(withS neg L,0):=by
 have hI:=INF_lt
 have hIe:INF=9218868437227405312:=rfl
 have s:=fd_sm (k:=0) (Nat.le_of_lt hL) h0 (by decide)
 obtain ⟨w1,w2,w3,w4,w5⟩:=withS_fields neg (b:=L) (by omega)
 have hz:fsz L=L:=Nat.mod_eq_of_lt (by omega)
 have hf:fe (withS neg L)<2047:=by rw [w3];exact fsz_INF.2 (by rw [hz];exact hL)
 have e:sgnD (fd L) neg=fd (withS neg L):=by
  rw [sgn_sz s.s s.m,fd_withS neg (b:=L) (by omega)]
  unfold sz
  rw [decide_eq_true s.m,Bool.and_true]
 rw [e,toS_fd hf,w5,w2,if_neg h0]
theorem exact_beside {d:Dy} (ok:d.ok) (h0:d.m≠0) (hs:d.s=false) {y:Rat} {q L:Nat} (hq:0<q) (hL:LwV y q L) (hd:y=d.val^q) (neg:Bool) (dir:Int) :
  ∃r,(toS (sgnD d neg) false dir).1=withS neg r∧((L≠INF∧L≠0∧(fd L).val^q=y)→r=L)∧((L=INF∧(r=MAX∨r=INF))∨(L<INF∧(r=L∨r=L+1))):=by
 by_cases e:L≠INF∧L≠0∧(fd L).val^q=y
 ·have hlt:L<INF:=by have:=hL.1;omega
  have h1:(fd L).val=d.val:=rpow_inj (fd_val0 L hL.1) (Rat.le_of_lt (pos_val hs h0)) hq (by rw [e.2.2,hd])
  have h2:=val_inj (fd_ok' L) ok h1
  refine ⟨L,?_,fun _=>rfl,.inr ⟨hlt,.inl rfl⟩⟩
  rw [←h2,sgn_fd hlt e.2.1]
 ·refine ⟨(magS (sz d neg) false dir).1,?_,fun h=>absurd h e,?_⟩
  ·rw [sgn_sz hs h0,toS_sz h0]
  ·exact cert_beside hq hL hs hs h0 h0 (by rw [←hd];exact Rat.le_refl) (by rw [←hd];exact Rat.le_refl) (neg:=neg) (dir:=dir) rfl rfl
theorem goS_no {A:Nat→(Nat × Nat) × Iv} {ok:Nat→Bool}:∀(l:List Nat) (v:(Nat × Nat) × Iv) (b t:Nat),(goS A ok l v b t).2≠0→∀n∈l,ok n=false
 | [],v,b,t,h,n,hn=>absurd hn (by simp)
 | j::l,v,b,t,h,n,hn=>by
  unfold goS at h
  by_cases hk:ok j=true
  ·rw [if_pos hk] at h;exact absurd rfl h
  ·rw [if_neg hk] at h
   rcases List.mem_cons.1 hn with rfl | hn
   ·exact bfalse hk
   ·exact goS_no l _ _ _ h n hn
theorem run_no {a:Ask} (h:(runS a).2≠0):(tryS a (sgS a) a.t.toNat).2=false:=by
 refine goS_no _ _ _ _ h _ ?_
 exact List.mem_of_getLast? (planL_last 8 a.f.toNat a.t.toNat)
theorem try_open {a:Ask} (ha:AskOk a) (hs:sgS a≠0) (h:(tryS a (sgS a) 64).2=false):boundS (zS a 64) (sgS a)=0∧(tryS a (sgS a) 64).1.2=expI (zS a 64) (scS a.y 64):=by
 by_cases h0:boundS (zS a 64) (sgS a)=0
 ·refine ⟨h0,?_⟩
  have hso:=(open_split ha hs h0).1
  unfold tryS at h ⊢
  rw [if_neg (fun h=>h h0),if_pos hso] at h ⊢
  cases hr:roundS (expI (zS a 64) (scS a.y 64)) a.neg a.dir with
  | none=>rfl
  | some r=>rfl
 ·unfold tryS at h
  rw [if_pos h0] at h
  exact absurd (show true=false from h) (by decide)
theorem do_beside {a:Ask} (ha:AskOk a) (ht:a.t=64) {m:Int} {q:Nat} (hq:1≤q) (hw:wholeOk a.y a.n) (hm:exM (lowD a.y a.n)=m) (hq2:exK (lowD a.y a.n)*lowQ a.y a.n=q) (hPQ:m*askQ a=askP a*q) {L:Nat} (hL:LwV (a.x.val^m) q L) :
  ∃r,(doS a).1=withS a.neg r∧((L≠INF∧L≠0∧(fd L).val^q=a.x.val^m)→r=L)∧((L=INF∧(r=MAX∨r=INF))∨(L<INF∧(r=L∨r=L+1)))∧((doS a).2.2.1=0∨((doS a).2.2.1=1∧¬powIs (a.x.val^m) q L)):=by
 have hQ:=askQ_pos ha
 have hL2:=lw_ask ha hq hPQ hL
 cases hx:exactO a with
 | some d=>
  obtain ⟨o1,o2,o3⟩:=exactO_form ha hx
  obtain ⟨r,r1,r2,r3⟩:=exact_beside o1 o2 o3 hq hL (exact_val ha hq hw hm hq2 hx) a.neg a.dir
  refine ⟨r,?_,r2,r3,.inl ?_⟩
  ·unfold doS;rw [hx];exact r1
  ·unfold doS;rw [hx]
 | none=>
  have np:¬powIs (a.x.val^m) q L:=no_pow ha hq hw hm hq2 hx hL.1
  have ne:¬(L≠INF∧L≠0∧(fd L).val^q=a.x.val^m):=fun h=>np (.inr ⟨h.1,.inl h.2⟩)
  have hs:sgS a≠0:=fun h=>by
   unfold exactO at hx
   rw [if_pos h] at hx
   cases hx
  by_cases hr:(runS a).2=0
  ·obtain ⟨b,b1,b2,b3⟩:=run_found ha hr
   obtain ⟨A,B,e⟩:=try_en ha b1 b2
   have rA:=congrArg (·.1) e.rA
   have rB:=congrArg (·.1) e.rB
   try dsimp only at rA rB
   rw [sgn_sz e.sA e.mA,toS_sz e.mA] at rA
   rw [sgn_sz e.sB e.mB,toS_sz e.mB] at rB
   try dsimp only at rA rB
   have hAB:=withS_inj (rB.trans rA.symm)
   refine ⟨(magS (sz A a.neg) false a.dir).1,?_,fun h=>absurd h ne,cert_beside hQ hL2 e.sA e.sB e.mA e.mB e.lo e.hi rfl hAB,.inl ?_⟩
   ·unfold doS
    rw [hx]
    dsimp only
    rw [if_pos hr,b3,rA]
   ·unfold doS
    rw [hx]
    dsimp only
    rw [if_pos hr]
  ·have l1:=run_last hr
   have l2:=run_no hr
   rw [ht] at l1 l2
   obtain ⟨h0,eI⟩:=try_open ha hs l2
   obtain ⟨hd,hn⟩:=open_exp ha hs h0
   have hso:=(open_split ha hs h0).1
   obtain ⟨t1,t2,t3,t4⟩:=try_br ha (by decide) hso hd
   have eI2:(runS a).1.1.2=expI (zS a 64) (scS a.y 64):=by rw [l1];exact eI
   generalize expI (zS a 64) (scS a.y 64)=I at *
   have mA:=sg_m0 hd.2
   have mB:=sg_m0 (decR_hi hd)
   have sA:=pos_s hd.2
   have sB:=pos_s (decR_hi hd)
   have main:=loose_beside hQ hL2 sA sB mA mB t3 t4 hn (neg:=a.neg) (dir:=a.dir) ha.dir rfl
   have eD:(toS (looseD I a.neg a.dir) true a.dir).1=withS a.neg (magS (sz (if dwn a.neg a.dir=true then I.hi else I.lo) a.neg) true a.dir).1:=by
    unfold looseD
    by_cases hdw:dwn a.neg a.dir=true
    ·rw [if_pos hdw,sgn_sz sB mB,toS_sz mB]
    ·rw [if_neg hdw,sgn_sz sA mA,toS_sz mA]
   have eS:doS a=((toS (looseD I a.neg a.dir) true a.dir).1,(toS (looseD I a.neg a.dir) true a.dir).2 ||| 1,1,(runS a).1.2.2):=by
    unfold doS
    rw [hx]
    dsimp only
    rw [if_neg hr,eI2]
    have:looseS I a.neg a.dir=some (toS (looseD I a.neg a.dir) true a.dir):=if_pos hd
    rw [this]
   refine ⟨_,?_,fun h=>absurd h ne,main,.inr ⟨?_,np⟩⟩
   ·rw [eS];exact eD
   ·rw [eS]
theorem base_sm {k:Int} {x y:Nat} {n m q dir f t:Int} (hk:0≤k∧k≤3) (ha:AskOk (opA k x y n dir f t)) (hn:nearS (baseD k x) m q):SmN (baseD k x) m.natAbs:=by
 have hv:0<(baseD k x).val:=by
  rw [base_val k x y n dir f t hk]
  exact pos_val ha.x.pos ha.x.m0
 obtain ⟨hs,hm⟩:=val_s hv
 have b1:=base_bits k x
 obtain ⟨⟨n1,n2,n3,n4⟩,n5,n6,n7,n8⟩:=hn
 refine ⟨hs,hm,?_,by omega,⟨by omega,by omega⟩,by omega⟩
 have:=Nat.mul_le_mul b1 (show m.natAbs≤60 by omega)
 omega
theorem op_beside {k:Int} {x y:Nat} (hx:x<W) (hy:y<W) {n:Int} (n1 : -9223372036854775808≤n) (n2:n<9223372036854775808) {dir f m q:Int} (hk:0≤k∧k≤3) (ho:opO k x y n=none) (h:hOk dir f 64) (hr:expRel k y n m q) (hn:nearS (baseD k x) m q) {Q:Nat} (hQ:(Q:Int)=q) {L:Nat} (hL:LwV ((baseD k x).val^m) Q L) :
  ∃r,(opR k x y n dir f 64).1=withS (negS k x y n) r∧((L≠INF∧L≠0∧(fd L).val^Q=(baseD k x).val^m)→r=L)∧((L=INF∧(r=MAX∨r=INF))∨(L<INF∧(r=L∨r=L+1)))∧((opR k x y n dir f 64).2.2=0∨((opR k x y n dir f 64).2.2=1∧¬powIs ((baseD k x).val^m) Q L)):=by
 have ha:=opA_ok hx hy n1 n2 ho h
 obtain ⟨⟨q1,q2,q3,q4⟩,-⟩:=hn
 obtain ⟨w1,w2,w3⟩:=exp_link (dir:=dir) (f:=f) (t:=64) hk ho n1 n2 hy hr ⟨q1,q2⟩ ⟨q3,q4⟩ ha
 have ev:=exp_val (dir:=dir) (f:=f) (t:=64) hk ho hr
 subst hQ
 have hPQ:=exp_PQ ev
 rw [base_val k x y n dir f 64 hk] at hL ⊢
 rw [neg_link (dir:=dir) (f:=f) (t:=64) hk ho]
 have e:opR k x y n dir f 64=((doS (opA k x y n dir f 64)).1,(doS (opA k x y n dir f 64)).2.1,(doS (opA k x y n dir f 64)).2.2.1):=by
  unfold opR
  rw [ho]
 rw [e]
 have ht:(opA k x y n dir f 64).t=64:=by
  unfold opA
  split
  ·rfl
  split
  ·rfl
  split
  ·rfl
  ·rfl
 exact do_beside ha ht (by omega) w1 w2 (by omega) hPQ hL
theorem one_of_both {neg:Bool} {L r:Nat} (h:(L=INF∧(r=MAX∨r=INF))∨(L<INF∧(r=L∨r=L+1))):r=tbS L neg 3∨r=tbS L neg 2:=by
 unfold tbS
 have u20:upw 2 false=true:=rfl
 have u21:upw 2 true=false:=rfl
 have u30:upw 3 false=false:=rfl
 have u31:upw 3 true=true:=rfl
 rcases h with ⟨h1,h2⟩ | ⟨h1,h2⟩
 ·rw [if_pos h1,if_pos h1]
  cases neg
  ·rw [u20,u30,if_pos rfl,if_neg Bool.false_ne_true]
   exact h2
  ·rw [u21,u31,if_pos rfl,if_neg Bool.false_ne_true]
   exact h2.symm
 ·have h3:¬L=INF:=by omega
  rw [if_neg h3,if_neg h3]
  cases neg
  ·rw [u20,u30,if_pos rfl,if_neg Bool.false_ne_true]
   exact h2
  ·rw [u21,u31,if_pos rfl,if_neg Bool.false_ne_true]
   exact h2.symm
end
section
open XX
set_option maxHeartbeats 8000000 in
theorem law_WholeFaithful (pvs:List PV) (h:Fits [qOp,qU8,qU8] pvs):PC E 8 pvs (.bool true):=by
 obtain ⟨_,_,_,rfl,⟨k,x,y,n,rfl,hk,hx,hy,hn⟩,⟨d0,rfl,hd0⟩,⟨f0,rfl,hf0⟩⟩:=fits3 h
 have k0:=l_alive
 by_cases c1:k<0
 ·have g1:decide (k<0)=true:=decide_eq_true c1
  simp only [opv]
  refine PC.of_body follows Tryz.func8 (by decide +kernel) rfl (by kernel_rfl) (Nat.le_of_ble_eq_true rfl) (walk ?_)
  simp only [Tryz.f8,go_sem]
  refine qcall_i (k0) ?_;simp only [Tryz.f8,g1,go_sem]
  try rfl
 have g1:decide (k<0)=false:=decide_eq_false c1
 by_cases c2:k>3
 ·have g2:decide (k>3)=true:=decide_eq_true c2
  simp only [opv]
  refine PC.of_body follows Tryz.func8 (by decide +kernel) rfl (by kernel_rfl) (Nat.le_of_ble_eq_true rfl) (walk ?_)
  simp only [Tryz.f8,go_sem]
  refine qcall_i (k0) ?_;simp only [Tryz.f8,g1,g2,go_sem]
  try rfl
 have g2:decide (k>3)=false:=decide_eq_false c2
 obtain ⟨v,m,q,ok,k1,⟨va,vb,vc,hv⟩,h1⟩:=c_small (k:=k) hx hy n
 cases ok with
 | false=>
  subst hv
  simp only [opv] at k1 ⊢
  refine PC.of_body follows Tryz.func8 (by decide +kernel) rfl (by kernel_rfl) (Nat.le_of_ble_eq_true rfl) (walk ?_)
  simp only [Tryz.f8,go_sem]
  refine qcall_i (k0) ?_;simp only [Tryz.f8,g1,g2,go_sem]
  refine qcall_i (k1) ?_;simp only [Tryz.f8,go_sem]
  try rfl
 | true=>
  obtain ⟨ho,ev,hr,hnr⟩:=h1 rfl
  clear h1 hv va vb vc
  subst ev
  obtain ⟨⟨m1,m2,q1,q2⟩,hnr2⟩:=hnr
  have hnr:nearS (baseD k x) m q:=⟨⟨m1,m2,q1,q2⟩,hnr2⟩
  obtain ⟨Q,rfl⟩:∃Q:Nat,q=Q:=⟨q.toNat,by omega⟩
  have hkr:0≤k∧k≤3:=⟨by omega,by omega⟩
  have hOk1:hOk ((d0%4:Nat):Int) ((32+f0%33:Nat):Int) 64:=⟨⟨by omega,by omega,by decide,by decide⟩,by omega,by omega⟩
  have ha:=opA_ok hx hy hn.1 hn.2 ho hOk1
  have hsm:=base_sm hkr ha hnr
  have hpos:0<(baseD k x).val^m:=Rat.zpow_pos (pos_val hsm.s hsm.m)
  obtain ⟨L,hL⟩:=lw_exists hpos (k:=Q) (by omega)
  obtain ⟨b3,f3,k3,e3,z3⟩:=c_23True hsm (show 1≤Q by omega) (by omega) hL (negS k x y n) (dir:=3) (.inr rfl)
  obtain ⟨b2,f2,k4,e2,z2⟩:=c_23True hsm (show 1≤Q by omega) (by omega) hL (negS k x y n) (dir:=2) (.inl rfl)
  obtain ⟨pv,is,k5,h5,⟨pa,pb,pc,rfl⟩⟩:=c_11Power hsm (show 1≤Q by omega) (by omega) hL
  have kN:=c_24Neg (k:=k) hx hy hn.1 hn.2
  have kD:=t_do hx hy hn.1 hn.2 k hOk1
  obtain ⟨r,r1,r2,r3,r4⟩:=op_beside hx hy hn.1 hn.2 hkr ho hOk1 hr hnr rfl hL
  generalize opR k x y n ((d0%4:Nat):Int) ((32+f0%33:Nat):Int) 64=R at *
  obtain ⟨b,fl,st⟩:=R
  dsimp only at r1 r4
  have B1:b=b3∨b=b2:=by
   by_cases ex:L≠INF∧L≠0∧(fd L).val^Q=(baseD k x).val^m
   ·left
    rw [r1,(e3 ex).1,r2 ex]
   ·rw [r1,(z3 ex).1,(z2 ex).1]
    rcases one_of_both (neg:=negS k x y n) r3 with h | h
    ·left;rw [←h]
    ·right;rw [←h]
  have B2:st=0∨(st=1∧is=false∧f3≠0):=by
   rcases r4 with h | ⟨h,hp⟩
   ·exact .inl h
   ·right
    refine ⟨h,?_,?_⟩
    ·exact bfalse fun hi=>hp (h5.1 hi)
    ·exact (z3 fun ex=>hp (.inr ⟨ex.1,.inl ex.2⟩)).2
  have w1:IntKind.wrap .i64 ((d0:Int).tmod 4)=((d0%4:Nat):Int):=by
   rw [Int.tmod_eq_emod_of_nonneg (by omega),show (d0:Int)%4=((d0%4:Nat):Int) by omega]
   exact wrap64 (by omega) (by omega)
  have w2:IntKind.wrap .i64 ((d0%4:Nat):Int)=((d0%4:Nat):Int):=wrap64 (by omega) (by omega)
  have w3:IntKind.wrap .i64 (f0:Int)=(f0:Int):=wrap64 (by omega) (by omega)
  have t1:(f0:Int).tmod 33=((f0%33:Nat):Int):=by rw [Int.tmod_eq_emod_of_nonneg (by omega)];omega
  have w4:IntKind.wrap .i64 (32+(f0:Int).tmod 33)=((32+f0%33:Nat):Int):=by rw [t1,wrap64 (by omega) (by omega)];omega
  have w5:IntKind.wrap .i64 ((f0:Int).tmod 33)=(f0:Int).tmod 33:=by rw [t1];exact wrap64 (by omega) (by omega)
  have w6:IntKind.wrap .i64 m=m:=wrap64 (by omega) (by omega)
  have w7:IntKind.wrap .i64 (Q:Int)=(Q:Int):=wrap64 (by omega) (by omega)
  clear r1 r2 r3 r4 e3 z3 e2 z2 h5 hpos hsm ha hnr hnr2 hr hL
  generalize baseD k x=D at *
  generalize negS k x y n=N at *
  generalize ((d0%4:Nat):Int)=dd at *
  generalize ((32+f0%33:Nat):Int)=ff at *
  simp only [opv,wayv,rPV,nv_form] at k1 k3 k4 k5 kN kD ⊢
  refine PC.of_body follows Tryz.func8 (by decide +kernel) rfl (by kernel_rfl) (Nat.le_of_ble_eq_true rfl) (walk ?_)
  simp only [Tryz.f8,go_sem]
  refine qcall_i (k0) ?_;simp only [Tryz.f8,g1,g2,go_sem]
  refine qcall_i (k1) ?_;simp only [Tryz.f8,w1,w2,w3,w4,w5,w6,w7,go_sem]
  refine qcall_i (kD) ?_;simp only [Tryz.f8,w1,w2,w3,w4,w5,w6,w7,go_sem]
  refine qcall_i (kN) ?_;simp only [Tryz.f8,w1,w2,w3,w4,w5,w6,w7,go_sem]
  refine qcall_i (k3) ?_;simp only [Tryz.f8,w1,w2,w3,w4,w5,w6,w7,go_sem]
  refine qcall_i (kN) ?_;simp only [Tryz.f8,w1,w2,w3,w4,w5,w6,w7,go_sem]
  refine qcall_i (k4) ?_;simp only [Tryz.f8,w1,w2,w3,w4,w5,w6,w7,go_sem]
  refine qcall_i (k5) ?_;simp only [Tryz.f8,w1,w2,w3,w4,w5,w6,w7,go_sem]
  by_cases e0:b=b3
  ·refine qif_dt (by omega) ?_
   simp only [Tryz.f8,go_sem]
   by_cases s0:st=0
   ·refine qif_dt (by omega) ?_
    simp only [Tryz.f8,go_sem]
    try rfl
   ·obtain ⟨s1,i1,z1⟩:=B2.resolve_left s0
    have g3:decide (¬(f3:Int)=0)=true:=decide_eq_true (by omega)
    subst i1
    refine qif_df (by omega) ?_
    simp only [Tryz.f8,g3,go_sem]
    try rfl
  ·have e1:b=b2:=B1.resolve_left e0
   refine qif_df (by omega) ?_
   simp only [Tryz.f8,go_sem]
   refine qif_dt (by omega) ?_
   simp only [Tryz.f8,go_sem]
   by_cases s0:st=0
   ·refine qif_dt (by omega) ?_
    simp only [Tryz.f8,go_sem]
    try rfl
   ·obtain ⟨s1,i1,z1⟩:=B2.resolve_left s0
    have g3:decide (¬(f3:Int)=0)=true:=decide_eq_true (by omega)
    subst i1
    refine qif_df (by omega) ?_
    simp only [Tryz.f8,g3,go_sem]
    try rfl
end
end Go.Proofs.YtfkgaldbcngliaaGreatDoor
