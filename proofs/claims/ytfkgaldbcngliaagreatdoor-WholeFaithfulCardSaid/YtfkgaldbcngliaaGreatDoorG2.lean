/- Several parts in one text. -/
import Derived.Test.YtfkgaldbcngliaaGreatDoorG1
section
set_option linter.unusedVariables false
set_option linter.unusedSimpArgs false
namespace PG
open Go Go.RowKit
section
variable {E : PE} {N : Nat} {wk : Gh} {w0 : Fm} {Pr0 : Nat → Nat → Prop} {s : PS} {m : Nat → Value} {Pr : Nat → Nat → Prop} {a : Act} {w : World}
theorem run_at {o:Oper} {x:Value} {w':World} {f:Sem Value} (h:f.run E.P w = .ok x w') (he:execOp a.eval o=(do pure (.value (←f)))):(execOp a.eval o).run E.P w = .ok (.value x) w':=by
 rw [he,Sem.run_bind,h]
 rfl
theorem run_len_row {n:Nat} {x:Value} {t ty e:TypeId} (ht:E.P.underlying t=some (.slice e)) (hx:∃b c,x = .slice b n c):(Builtin.len_ #[t] ty #[x]).run E.P w = .ok (.int .i64 n) w:=by
 obtain ⟨b,c,rfl⟩:=hx
 simp [Builtin.len_,run_underlying ht,goInt]
theorem lst_form {g:Addr→Option Value} {n:Nat} {cs:List PV} {x:Value} (h:Rep g (.lst n cs) x):∃b c,x = .slice b n c:=by
 rcases h.lst_inv with ⟨rfl,rfl,rfl⟩ | ⟨ad,cap,xs,rfl,_⟩
 ·exact ⟨_,_,rfl⟩
 ·exact ⟨_,_,rfl⟩
theorem pbuiltin_sound (h:Rel E N wk w0 Pr0 s m Pr a w) {o:Oper} {c:Call} {b:Builtin} (hop:o.op = .call c) (hb:c.callee = .builtin b) {out:Out} {fz:List Nat} {s':PS}
  {K:Act→World→Prop} {Q:Exit→Act→World→Prop} (hd:∀d,o.dst=some d→d<N)
  (hs:pbuiltin E b c.argTypes.toList (c.args.toList.map (res E s.τ s.σ))=some (out,fz)) (ha:Appl E s o.dst fz out s')
  (hK:∀m' Pr' a' w',Rel E N wk w0 Pr0 s' m' Pr' a' w'→K a' w'):o.wp E.P a w K Q:=by
 obtain ⟨dst,op,type,pos,after,guard⟩:=o
 simp only at hop
 subst hop
 obtain ⟨callee,args,argTypes⟩:=c
 simp only at hb
 subst hb
 obtain ⟨args⟩:=args
 obtain ⟨ts⟩:=argTypes
 simp only at hs
 obtain ⟨Pr1,hP,h1⟩:=h.freeze fz
 have exe:∀{f:Sem Value},(∀cs,builtin b ⟨ts⟩ type cs ⟨args.map a.eval⟩=(do pure (.value (←f)))) →
   execOp a.eval ⟨dst,.call ⟨.builtin b,⟨args⟩,⟨ts⟩⟩,type,pos,after,guard⟩=(do pure (.value (←f))):=by
  intro f hf
  simp only [execOp,resolve,pure_bind,invoke,List.map_toArray]
  exact hf _
 unfold pbuiltin at hs
 split at hs
 ·
  rename_i t x hargs
  obtain ⟨y,rfl,rfl⟩:∃y,args=[y]∧res E s.τ s.σ y=x:=by
   cases args with
   | nil=>simp at hargs
   | cons y l=>cases l with
    | nil=>simp at hargs;exact ⟨y,rfl,hargs⟩
    | cons z l=>simp at hargs
  have fin:∀{v:Int},out = .val (.val (.int .i64 v))→fz=[]→(Builtin.len_ #[t] type #[a.eval y]).run E.P w = .ok (.int .i64 v) w →
    Oper.wp E.P ⟨dst,.call ⟨.builtin .len,⟨[y]⟩,⟨[t]⟩⟩,type,pos,after,guard⟩ a w K Q:=by
   intro v ho hf hr
   subst ho;subst hf
   simp only [Appl] at ha
   subst ha
   exact val_step (v := .val (.int .i64 v)) h1 hd (run_at hr (exe (fun _=>rfl))) (Rep.int _ _) (fun m' Pr' a' w' hr=>hK m' Pr' a' w' hr)
  split at hs
  ·rename_i n cs hl hv
   cases hs
   exact fin rfl rfl (run_len_row (lk_slice hl) (lst_form (h.opSV (res_val hv):Rep _ _ _)))
  ·rename_i hl hv
   cases hs
   have he:a.eval y = .slice none 0 0:=h.opSV (res_nil hv)
   refine fin rfl rfl ?_
   exact run_len_row (n:=0) (lk_slice hl) ⟨none,0,he⟩
  ·rename_i k e z n cs hl hv
   cases hs
   obtain ⟨ho,fl,hk⟩:=res_row hv
   have he:a.eval y=m k:=h.opSV ho
   obtain ⟨xs,_,hsh,_⟩:=h.blk k _ hk
   refine fin rfl rfl (run_len_row (lk_slice hl) ?_)
   rw [he]
   rcases hsh.2 with ⟨h0,h00⟩ | ⟨g,cap,cur,h0,_⟩
   ·rw [h0,h00];exact ⟨_,_,rfl⟩
   ·rw [h0];exact ⟨_,_,rfl⟩
  ·rename_i k o n b hl hv
   cases hs
   obtain ⟨ho,fl,hk⟩:=res_sub hv
   obtain ⟨g,c,_,he,_⟩:=(h.opSV ho:SRep _ _ _ _)
   exact fin rfl rfl (run_len_row (lk_slice hl) ⟨_,_,he⟩)
  ·rename_i st hl hv
   cases hs
   have he:=(h.opSV (res_val hv):Rep _ _ _).str_inv
   exact fin rfl rfl (by simp [Builtin.len_,he,run_underlying (lk_str hl),goInt])
  ·rename_i n e hl
   cases hs
   exact fin rfl rfl (by simp [Builtin.len_,run_underlying (lk_array hl),goInt])
  ·cases hs
 ·
  rename_i x y hargs
  obtain ⟨p,q,rfl,rfl,rfl⟩:∃p q,args=[p,q]∧res E s.τ s.σ p=x∧res E s.τ s.σ q=y:=by
   match args,hargs with
   | [p,q],hargs=>simp at hargs;exact ⟨p,q,rfl,hargs.1,hargs.2⟩
  simp only [Option.map_eq_some_iff] at hs
  obtain ⟨r,hr,he⟩:=hs
  cases he
  simp only [Appl] at ha
  subst ha
  unfold pmax2 at hr
  split at hr
  ·rename_i k x1 k' y1 hp hq
   cases hr
   have e1:=(h.opSV (res_val hp):Rep _ _ _).int_inv
   have e2:=(h.opSV (res_val hq):Rep _ _ _).int_inv
   refine val_step (v := .val (.int k (max x1 y1))) (x := .int k (max x1 y1)) h1 hd (run_at (f:=Builtin.max_ _ type #[a.eval p,a.eval q]) ?_ (exe (fun _=>rfl))) (Rep.int _ _) (fun m' Pr' a' w' hr=>hK m' Pr' a' w' hr)
   rw [e1,e2]
   simp [Builtin.max_,Builtin.max2]
   split<;>omega
  ·cases hr
 ·
  rename_i x y hargs
  obtain ⟨p,q,rfl,rfl,rfl⟩:∃p q,args=[p,q]∧res E s.τ s.σ p=x∧res E s.τ s.σ q=y:=by
   match args,hargs with
   | [p,q],hargs=>simp at hargs;exact ⟨p,q,rfl,hargs.1,hargs.2⟩
  simp only [Option.map_eq_some_iff] at hs
  obtain ⟨r,hr,he⟩:=hs
  cases he
  simp only [Appl] at ha
  subst ha
  unfold pmax2 at hr
  split at hr
  ·rename_i k x1 k' y1 hp hq
   cases hr
   have e1:=(h.opSV (res_val hp):Rep _ _ _).int_inv
   have e2:=(h.opSV (res_val hq):Rep _ _ _).int_inv
   refine val_step (v := .val (.int k (min x1 y1))) (x := .int k (min x1 y1)) h1 hd (run_at (f:=Builtin.min_ _ type #[a.eval p,a.eval q]) ?_ (exe (fun _=>rfl))) (Rep.int _ _) (fun m' Pr' a' w' hr=>hK m' Pr' a' w' hr)
   rw [e1,e2]
   simp [Builtin.min_,Builtin.min2]
   split<;>omega
  ·cases hr
 ·
  rename_i t t' x y hargs
  obtain ⟨p,q,rfl,rfl,rfl⟩:∃p q,args=[p,q]∧res E s.τ s.σ p=x∧res E s.τ s.σ q=y:=by
   match args,hargs with
   | [p,q],hargs=>simp at hargs;exact ⟨p,q,rfl,hargs.1,hargs.2⟩
  split at hs
  ·cases hs
  ·rename_i htt
   have htt':t=t':=Decidable.byContradiction htt
   subst htt'
   split at hs
   ·rename_i e hl
    split at hs
    ·rename_i mm z n' ys hsz hz hy
     split at hs
     ·cases hs
     ·rename_i hcond
      obtain ⟨i,zv,hi,hzv,hzall⟩:=zr_spec (g:=rd w Pr) hz
      obtain ⟨i',hi',hsize⟩:=sz_spec hsz
      rw [hi] at hi';cases hi'
      subst hsize
      have c1:¬i.size=0:=fun e=>hcond (.inl e)
      have c2:z.length=i.size:=Decidable.byContradiction fun e=>hcond (.inr (.inl e))
      have c3:ys.length=n'*i.size:=Decidable.byContradiction fun e=>hcond (.inr (.inr e))
      have hbyt:byt E.P e=i.bytes:=by simp [byt,hi]
      have hzs:zv.cells.size=i.size:=by have:=hzall.1;simp at this;omega
      have hdst:∀k b,Appl E s dst fz (.app k b) s'→∃d,dst=some d:=fun k b ⟨d,hd',_⟩=>⟨d,hd'⟩
      split at hs
      ·
       rename_i hx
       split at hs
       ·rename_i hc
        cases hs
        have hrep:=h.rvSlice h1 hP hy (fun k hk=>hk)
        obtain ⟨d,hdd,-,hs'⟩:=ha
        simp only at hdd
        subst hdd
        obtain ⟨v',w',us,hrun,hus,hown,hgrow,hat⟩:=run_append_rep w 0 t type e i zv (lk_slice hl) hi hzv hzs (Nat.pos_of_ne_zero c1) (.slice none 0 0) 0 [] (World.ownsRow_nil w _ e _) hrep c3
         (by simpa using hc.1) (by rw [←hbyt];simpa using hc.2) (Nat.zero_le _)
        have ep:a.eval p = .slice none 0 0:=h.opSV (res_nil hx)
        refine app_step h1 rfl (hd d rfl) (k:=none) (cs:=[]) (n:=0) ⟨rfl,rfl,rfl⟩ All2.nil hus hown hgrow hat rfl (run_at (f:=Builtin.append_ #[t,t] type #[a.eval p,a.eval q]) (by rw [ep];exact hrun) (exe (fun _=>rfl))) ?_
        intro m' Pr' a' w' hr
        refine hK m' Pr' a' w' ?_
        rw [hs']
        simpa using hr
       ·cases hs
      ·
       rename_i k e' m' n xs hx
       split at hs
       ·rename_i hc
        cases hs
        obtain ⟨rfl,rfl,hc1,hc2,hc3⟩:=hc
        have hrep:=h.rvSlice h1 hP hy (fun k hk=>hk)
        obtain ⟨d,hdd,hk,hs'⟩:=ha
        simp only at hdd
        subst hdd
        obtain ⟨ho,fl,hkk⟩:=res_row hx
        obtain ⟨⟨b0,hb0⟩,hkn⟩:=hk k rfl
        rw [hkk] at hb0;cases hb0
        have hk1:(⟨s.τ,frzσ s.σ (frzOf (res E s.τ s.σ q))⟩:PS).σ k=some (.row e' i.size n xs,false):=by simp only [frzσ,hkn,if_false,hkk]
        obtain ⟨xv,hxall,hxsh,hxpr⟩:=h1.blk k _ hk1
        obtain ⟨v',w',us,hrun,hus,hown,hgrow,hat⟩:=run_append_rep w 0 t type e' i zv (lk_slice hl) hi hzv hzs (Nat.pos_of_ne_zero c1) (m k) n xv hxsh hrep c3 hc1 (by rw [←hbyt];exact hc2) (Nat.zero_le _)
        have ep:a.eval p=m k:=h.opSV ho
        refine app_step h1 rfl (hd d rfl) (k:=some k) (v:=m k) (cs:=xs) (n:=n) ⟨rfl,hk1⟩ hxall hus hown hgrow hat (ownsRow_home hxsh) (run_at (f:=Builtin.append_ #[t,t] type #[a.eval p,a.eval q]) (by rw [ep];exact hrun) (exe (fun _=>rfl))) ?_
        intro m' Pr' a' w' hr
        refine hK m' Pr' a' w' ?_
        rw [hs']
        exact hr
       ·cases hs
      ·cases hs
    ·cases hs
   ·cases hs
 ·cases hs
theorem bound_cases (h:Rel E N wk w0 Pr0 s m Pr a w) {lo:Option Operand} {d l:Int} (hb:bound (lo.map (res E s.τ s.σ)) d=some l) :
  (lo.map a.eval=none∧l=d)∨∃k,lo.map a.eval=some (.int k l):=by
 cases lo with
 | none=>
  simp only [Option.map_none,bound,Option.some.injEq] at hb
  exact .inl ⟨rfl,hb.symm⟩
 | some y=>
  simp only [Option.map_some,bound] at hb
  obtain ⟨k,ek⟩:=h.rvInt hb
  exact .inr ⟨k,by simp [ek]⟩
theorem allSome_length {α:Type}:∀{l:List (Option α)} {r:List α},allSome l=some r→r.length=l.length
 | [],r,h=>by simp only [allSome,Option.some.injEq] at h;subst h;rfl
 | none::_,r,h=>by simp [allSome] at h
 | some x::l,r,h=>by
  simp only [allSome] at h
  split at h
  ·rename_i r' hr;cases h;simp [allSome_length hr]
  ·cases h
theorem allSome_get {α:Type} {o:Option α}:∀{l:List (Option α)} {r:List α},allSome l=some r→∀{j:Nat},l[j]?=some o→∃q,r[j]?=some q∧o=some q
 | [],r,h,j,hj=>by simp at hj
 | none::_,r,h,j,hj=>by simp [allSome] at h
 | some x::l,r,h,j,hj=>by
  simp only [allSome] at h
  split at h
  ·rename_i r' hr
   cases h
   cases j with
   | zero=>simp at hj;exact ⟨x,rfl,hj.symm⟩
   | succ j=>exact allSome_get hr (j:=j) (by simpa using hj)
  ·cases h
theorem nodup_inj {α:Type} {l:List α} (h:l.Nodup) {i j:Nat} {k:α} (hi:l[i]?=some k) (hj:l[j]?=some k):i=j:=by
 obtain ⟨h1,e1⟩:=List.getElem?_eq_some_iff.1 hi
 obtain ⟨h2,e2⟩:=List.getElem?_eq_some_iff.1 hj
 have hp:=List.pairwise_iff_getElem.1 h
 rcases Nat.lt_trichotomy i j with hlt | he | hlt
 ·exact absurd (e1.trans e2.symm) (hp i j h1 h2 hlt)
 ·exact he
 ·exact absurd (e2.trans e1.symm) (hp j i h2 h1 hlt)
theorem zrow_ne {z:List PV} {n:Nat} (h:z.length=n) (hn:n≠0):z≠[]:=by rintro rfl;exact hn (by simpa using h.symm)
set_option maxHeartbeats 4000000 in
theorem stepR_sound (h:Rel E N wk w0 Pr0 s m Pr a w) {o:Oper} {out:Out} {fz:List Nat} {s':PS} {K:Act→World→Prop} {Q:Exit→Act→World→Prop} (hd:∀d,o.dst=some d→d<N)
  (hnm:isNew o.op=true→∀d,o.dst=some d→∀t u,s.τ t=some u→u.key≠some d)
  (hs:stepR E o.op (res E s.τ s.σ)=some (out,fz)) (ha:Appl E s o.dst fz out s') (hK:∀m' Pr' a' w',Rel E N wk w0 Pr0 s' m' Pr' a' w'→K a' w'):o.wp E.P a w K Q:=by
 obtain ⟨Pr1,hP,h1⟩:=h.freeze fz
 obtain ⟨dst,op,type,pos,after,guard⟩:=o
 cases op<;>simp only [stepR,reduceCtorEq] at hs
 case alloc t=>
  simp only [Option.map_eq_some_iff] at hs
  obtain ⟨cs,hz,he⟩:=hs
  cases he
  obtain ⟨i,z,hi,hzv,hall⟩:=zr_spec (g:=rd w Pr1) hz
  obtain ⟨d,hdd,rfl⟩:=ha
  simp only at hdd
  subst hdd
  refine new_step h1 rfl (hd d rfl) (b := .box cs) (x := .pointer (some ⟨w.heap.size,0,none⟩)) (ob := .cells z.cells t) (hnm rfl d rfl) ?_ rfl (fun _ _=>rfl) hall ⟨w.heap.size,t,z.cells,rfl,heap_alloc_new w _,rfl⟩
   (fun m' Pr' a' w' hr=>hK m' Pr' a' w' hr)
  simp [execOp,Instr.alloc,zeroValue,typeInfo,hi,hzv,newVar,newRow]
 case box t x=>
  split at hs
  ·rename_i r hr
   split at hs
   ·rename_i p f hc
    split at hs
    ·rename_i vs hvs
     cases hs
     have hrep:=h.close h1 hP hr hc (fun k hk=>hk)
     have hall:=hrep.cells hvs
     obtain ⟨d,hdd,rfl⟩:=ha
     simp only at hdd
     subst hdd
     refine new_step h1 rfl (hd d rfl) (b := .box vs) (x := .pointer (some ⟨w.heap.size,0,none⟩)) (ob := .cells (a.eval x).cells t) (hnm rfl d rfl) ?_ rfl (fun _ _=>rfl) hall ⟨w.heap.size,t,_,rfl,heap_alloc_new w _,rfl⟩
      (fun m' Pr' a' w' hr=>hK m' Pr' a' w' hr)
     simp [execOp,Instr.box,newVar,newRow]
    ·cases hs
   ·cases hs
  ·cases hs
 case build t parts=>
  split at hs
  ·rename_i vs f z pl hcl hz hpl
   split at hs
   ·rename_i cs hf
    cases hs
    simp only [Appl] at ha
    subst ha
    obtain ⟨i,zv,hi,hzv,hall⟩:=zr_spec (g:=rd w Pr1) hz
    have hcl':closeL ((parts.toList.map (·.2)).map (res E s.τ s.σ))=some (vs,fz):=by rw [List.map_map];exact hcl
    obtain ⟨hlen,hreps⟩:=h.closeL h1 hP _ hcl' (fun k hk=>hk)
    obtain ⟨xs',hfill,hall'⟩:=fill_sound (fun i=>pl[i]?) (parts.toList.map (·.1)) vs ((parts.toList.map (·.2)).map a.eval) z cs zv.cells hall (by simpa using hlen) (by simp)
     (fun j p x hp hx=>by
      simp only [List.getElem?_map,Option.map_eq_some_iff] at hx
      obtain ⟨y,⟨q,hq,rfl⟩,rfl⟩:=hx
      exact hreps j p q.2 hp (by simp [hq])) hf
    unfold places at hpl
    split at hpl
    ·rename_i fs hl
     obtain ⟨Fs,hu,rfl⟩:=lk_struct hl
     have hrun:=placesL_run (P:=E.P) w Fs.toList hpl
     refine val_step (v := .val (.agg cs)) (x := .agg xs') h1 hd (run_at (f:=Instr.build t (parts.map fun (i,x)=>(i,a.eval x))) ?_ rfl) (All2.agg hall') (fun m' Pr' a' w' hr=>hK m' Pr' a' w' hr)
     have hrun':(Fs.mapM fun f=>do pure (f.offset,←Go.sizeOf f.type):Sem (Array (Nat × Nat))).run E.P w = .ok pl.toArray w:=by
      rw [Array.mapM_eq_mapM_toList]
      rw [Sem.run_map,hrun]
      rfl
     simp only [Instr.build,zeroValue,typeInfo,Sem.run_bind,run_program,hi,hzv,Result.andThen_ok,Sem.run_pure,run_underlying hu,hrun']
     have e1:(Array.map (fun x=>(x.fst,a.eval x.snd)) parts).toList=(parts.toList.map (·.1)).zip ((parts.toList.map (·.2)).map a.eval):=by
      simp only [Array.toList_map,List.map_map]
      rw [List.zip_map']
      rfl
     simp only [e1,List.getElem?_toArray,hfill,Sem.run_pure]
    ·cases hpl
   ·cases hs
  ·cases hs
 case buildSlice t len parts=>
  split at hs
  ·rename_i vs f e hcl hl
   split at hs
   ·rename_i n z hsz hz
    split at hs
    ·cases hs
    ·rename_i hcond
     split at hs
     ·rename_i cs hf
      cases hs
      obtain ⟨i,zv,hi,hzv,hall⟩:=zr_spec (g:=rd w Pr1) hz
      have c1:n≠0:=fun e=>hcond (.inl e)
      have c2:z.length=n:=Decidable.byContradiction fun e=>hcond (.inr (.inl e))
      have c3:¬len*n>16777216:=fun e=>hcond (.inr (.inr e))
      have hcl':closeL ((parts.toList.map (·.2)).map (res E s.τ s.σ))=some (vs,fz):=by rw [List.map_map];exact hcl
      obtain ⟨hlen,hreps⟩:=h.closeL h1 hP _ hcl' (fun k hk=>hk)
      have hzrow:=zrow_all2 hall (zrow_ne c2 c1) len
      rw [c2] at hzrow
      obtain ⟨xs',hfill,hall'⟩:=fill_sound (fun i=>some (i*n,n)) (parts.toList.map (·.1)) vs ((parts.toList.map (·.2)).map a.eval) (zrow z len) cs (madeCells zv.cells (len*n)) hzrow (by simpa using hlen) (by simp)
       (fun j p x hp hx=>by
        simp only [List.getElem?_map,Option.map_eq_some_iff] at hx
        obtain ⟨y,⟨q,hq,rfl⟩,rfl⟩:=hx
        exact hreps j p q.2 hp (by simp [hq])) hf
      obtain ⟨d,hdd,rfl⟩:=ha
      simp only at hdd
      subst hdd
      have hlx:xs'.size=len*n:=by
       have e1:=hall'.1
       have e2:cs.length=(zrow z len).length:=fillPV_length _ _ _ _ hf
       have e3:=hzrow.1
       have e4:=size_madeCells zv.cells (len*n)
       simp only [Array.length_toList] at e1 e3
       omega
      have hmax:len≤maxLen:=by
       have:len≤len*n:=Nat.le_mul_of_pos_right len (Nat.pos_of_ne_zero c1)
       simp only [maxLen];omega
      have hshape:Shape (w.alloc (.cells xs' e)) (.slice (some ⟨w.heap.size,0,none⟩) len len) xs'.toList (.row e n len cs):=
       ⟨by simpa using hlx,.inr ⟨w.heap.size,len,xs',rfl,Nat.zero_le _,heap_alloc_new w _,Nat.le_refl _,hmax,hlx,by rw [←hlx];exact List.take_of_length_le (by simp)⟩⟩
      refine new_step h1 rfl (hd d rfl) (b := .row e n len cs) (x := .slice (some ⟨w.heap.size,0,none⟩) len len) (ob := .cells xs' e) (hnm rfl d rfl) ?_ rfl (fun _ hb=>by cases hb) hall' hshape
       (fun m' Pr' a' w' hr=>hK m' Pr' a' w' hr)
      refine run_at (f:=Instr.buildSlice t len (parts.map fun (i,x)=>(i,a.eval x))) ?_ rfl
      have e1:(Array.map (fun x=>(x.fst,a.eval x.snd)) parts).toList=(parts.toList.map (·.1)).zip ((parts.toList.map (·.2)).map a.eval):=by
       simp only [Array.toList_map,List.map_map]
       rw [List.zip_map']
       rfl
      have c3':¬(len*n>2^24):=by simpa using c3
      by_cases h0:len*n=0
      ·have hlen0:len=0:=by
        rcases Nat.mul_eq_zero.1 h0 with e | e
        ·exact e
        ·exact absurd e c1
       subst hlen0
       have:madeCells zv.cells (0*n)=#[]:=by simp [madeCells,Array.range_zero']
       rw [this] at hfill
       simp only [Instr.buildSlice,Sem.run_bind,run_underlying (lk_slice hl),Result.andThen_ok,run_sizeOf hsz,Nat.zero_mul,gt_iff_lt,Nat.not_lt_zero,if_false,if_true,Sem.run_pure,Array.range_zero',List.map_toArray,List.map_nil,e1]
       simp only [hfill,Sem.run_bind,newRow,run_newObj,Result.andThen_ok,Sem.run_pure,World.alloc_eq]
      ·simp only [Instr.buildSlice,Sem.run_bind,run_underlying (lk_slice hl),Result.andThen_ok,run_sizeOf hsz,if_neg c3',if_neg h0,zeroValue,typeInfo,run_program,hi,hzv,Sem.run_pure,e1]
       simp only [madeCells] at hfill
       simp only [hfill,Sem.run_bind,newRow,run_newObj,Result.andThen_ok,Sem.run_pure,World.alloc_eq]
     ·cases hs
   ·cases hs
  ·cases hs
 case convert src dst x=>
  have main:∀{q:PV} {d:TypeDesc},PG.rvPV (PG.res E s.τ s.σ x)=some q→E.P.underlying src=some d→∀{v:PV},pconv E.P dst q=some v →
    ((∃k,d = .int k)∨d = .string)→∃z,(convert src dst (a.eval x)).run E.P w = .ok z w∧Rep (rd w Pr) v z:=by
   intro q d hp hu v hr hd
   have hrep:Rep _ _ _:=h.opSV (rvPV_some hp)
   unfold pconv at hr
   split at hr
   ·rename_i k' n
    have:=hrep.int_inv
    split at hr
    ·rename_i k hk
     cases hr
     exact ⟨.int k (k.wrap n),by simp [this,Go.convert,run_underlying hu,run_underlying (lk_int hk),Conv.intToInt],.int _ _⟩
    ·rename_i hk
     split at hr
     ·rename_i hn
      cases hr
      refine ⟨.string (Utf8.encode n),?_,?_⟩
      ·rw [this]
       rcases hd with ⟨k,rfl⟩ | rfl<;>simp [Go.convert,run_underlying hu,run_underlying (lk_str hk),Conv.intToString]
      ·rw [enc_ascii hn.1 hn.2]
       exact .str _
     ·cases hr
    ·cases hr
   ·split at hr
    ·rename_i hk
     cases hr
     have:=hrep.str_inv
     refine ⟨.string _,?_,.str _⟩
     rw [this]
     rcases hd with ⟨k,rfl⟩ | rfl<;>simp [Go.convert,run_underlying hu,run_underlying (lk_str hk)]
    ·cases hr
   ·cases hr
  split at hs
  ·rename_i k hl
   split at hs
   ·rename_i q hq
    simp only [Option.map_eq_some_iff] at hs
    obtain ⟨v,hv,he⟩:=hs
    cases he
    simp only [Appl] at ha
    subst ha
    obtain ⟨z,hz,hzr⟩:=main hq (lk_int hl) hv (.inl ⟨_,rfl⟩)
    exact val_step (v := .val v) h1 hd (run_at (f:=convert src dst (a.eval x)) hz rfl) (hzr.mono (rd_mono hP)) (fun m' Pr' a' w' hr=>hK m' Pr' a' w' hr)
   ·cases hs
  ·rename_i hl
   split at hs
   ·rename_i q hq
    simp only [Option.map_eq_some_iff] at hs
    obtain ⟨v,hv,he⟩:=hs
    cases he
    simp only [Appl] at ha
    subst ha
    obtain ⟨z,hz,hzr⟩:=main hq (lk_str hl) hv (.inr rfl)
    exact val_step (v := .val v) h1 hd (run_at (f:=convert src dst (a.eval x)) hz rfl) (hzr.mono (rd_mono hP)) (fun m' Pr' a' w' hr=>hK m' Pr' a' w' hr)
   ·cases hs
  ·rename_i e hl
   split at hs
   ·rename_i n cs hx
    simp only [Option.map_eq_some_iff] at hs
    obtain ⟨v,hv,he⟩:=hs
    cases he
    simp only [Appl] at ha
    subst ha
    have hz:∃z,(convert src dst (a.eval x)).run E.P w = .ok z w∧∀g',Rep g' v z:=by
     unfold PG.rvBytes at hx
     split at hx
     ·rename_i k o n' cs' hr
      split at hx
      ·rename_i hle
       cases hx
       obtain ⟨ho,fl,hk⟩:=res_sub hr
       obtain ⟨g,cap,hg,ex,hnc,hcm⟩:=(h.opSV ho:SRep _ _ _ _)
       obtain ⟨xs,hall,hsh,_⟩:=h.blk k _ hk
       rw [ex]
       refine bytes_sound hv (lk_slice hl) ((hall.drop o).take n) (.inr ⟨_,rfl,fun j y hy=>?_⟩)
       rw [addr_add]
       rw [List.getElem?_take] at hy
       split at hy
       ·exact hsh.cell hg _ y (by simpa using hy)
       ·cases hy
      ·cases hx
     rename_i hnb
     unfold PG.rvSlice at hx
     split at hx
     ·rename_i n' cs' hr
      cases hx
      rcases (h.opSV (res_val hr):Rep _ _ _).lst_inv with ⟨ex,rfl,rfl⟩ | ⟨ad,cap,xs,ex,_,_,hall,hm⟩
      ·rw [ex];exact bytes_sound hv (lk_slice hl) (All2.nil (g:=rd w Pr)) (.inl ⟨rfl,rfl⟩)
      ·rw [ex];exact bytes_sound hv (lk_slice hl) hall (.inr ⟨ad,rfl,fun j y hy=>(rd_some.1 (hm j y hy)).2⟩)
     ·rename_i n' cs' hr
      cases hx
      have hnn:Rep _ _ _:=h.opSV (res_val hr)
      generalize a.eval x=z at hnn
      cases hnn with
      | nn ad _ cap _ hh=>
       rcases hh.lst_inv with ⟨ex,_,_⟩ | ⟨ad',cap',xs,ex,_,_,hall,hm⟩
       ·cases ex
       ·rw [ex];exact bytes_sound hv (lk_slice hl) hall (.inr ⟨ad',rfl,fun j y hy=>(rd_some.1 (hm j y hy)).2⟩)
     ·rename_i hr
      cases hx
      rw [show a.eval x=_ from h.opSV (res_nil hr)]
      exact bytes_sound hv (lk_slice hl) (All2.nil (g:=rd w Pr)) (.inl ⟨rfl,rfl⟩)
     ·rename_i k e' z' n' cs' hr
      cases hx
      obtain ⟨ho,fl,hk⟩:=res_row hr
      have ex:a.eval x=m k:=h.opSV ho
      obtain ⟨xs,hall,hsh,_⟩:=h.blk k _ hk
      have hsh0:=hsh
      rcases hsh.2 with ⟨h0,h00⟩ | ⟨g,cap,cur,h0,_⟩
      ·subst h00
       have hxs:xs=[]:=List.eq_nil_of_length_eq_zero (by simpa using hsh.1)
       subst hxs
       rw [ex,h0]
       exact bytes_sound hv (lk_slice hl) hall (.inl ⟨rfl,rfl⟩)
      ·rw [ex,h0]
       exact bytes_sound hv (lk_slice hl) hall (.inr ⟨_,rfl,fun j y hy=>by rw [addr_add,Nat.zero_add];exact hsh0.cell (by rw [h0];rfl) j y hy⟩)
     ·rename_i k o n' e' z' n0 cs' hr
      split at hx
      ·rename_i hle
       cases hx
       obtain ⟨ho,fl,hk⟩:=res_sub hr
       obtain ⟨g,cap,hg,ex,hnc,hcm⟩:=(h.opSV ho:SRep _ _ _ _)
       obtain ⟨xs,hall,hsh,_⟩:=h.blk k _ hk
       rw [ex]
       refine bytes_sound hv (lk_slice hl) ((hall.drop o).take (n*z')) (.inr ⟨_,rfl,fun j y hy=>?_⟩)
       rw [addr_add]
       rw [List.getElem?_take] at hy
       split at hy
       ·exact hsh.cell hg _ y (by simpa using hy)
       ·cases hy
      ·cases hx
     ·cases hx
    obtain ⟨z,hz,hzr⟩:=hz
    exact val_step (v := .val v) h1 hd (run_at (f:=convert src dst (a.eval x)) hz rfl) (hzr _) (fun m' Pr' a' w' hr=>hK m' Pr' a' w' hr)
   ·cases hs
  ·rename_i hl
   split at hs
   ·rename_i b hq
    simp only [Option.map_eq_some_iff] at hs
    obtain ⟨v,hv,he⟩:=hs
    cases he
    simp only [Appl] at ha
    subst ha
    have hrep:Rep _ _ _:=h.opSV (rvPV_some hq)
    have ex:a.eval x = .float .f64 b:=by
     generalize a.eval x=z at hrep
     cases hrep;rfl
    unfold fconv at hv
    split at hv
    ·rename_i k hk
     split at hv
     ·rename_i n hn
      split at hv
      ·rename_i hc
       cases hv
       obtain ⟨d,hu⟩:∃d,E.P.underlying src=some d:=by
        cases hu:E.P.underlying src with
        | none=>simp [lk,lkOf,hu] at hl
        | some d=>exact ⟨d,rfl⟩
       have hz:(convert src dst (a.eval x)).run E.P w = .ok (.int k n) w:=by
        rw [ex]
        cases d<;>simp [Go.convert,run_underlying hu,run_underlying (lk_int hk),Conv.floatToInt,hn,hc]
       exact val_step (v := .val (.int k n)) h1 hd (run_at (f:=convert src dst (a.eval x)) hz rfl) (Rep.int _ _) (fun m' Pr' a' w' hr=>hK m' Pr' a' w' hr)
      ·cases hv
     ·cases hv
    ·cases hv
   ·cases hs
  ·cases hs
 case load t x=>
  split at hs
  ·rename_i k off b hr
   simp only [Option.map_eq_some_iff] at hs
   obtain ⟨p,hp,he⟩:=hs
   cases he
   simp only [Appl] at ha
   subst ha
   obtain ⟨ho,fl,hk⟩:=res_ptr hr
   obtain ⟨g,hg,he⟩:=(h.opSV ho:SRep _ _ _ _)
   obtain ⟨xs,hall,hsh,_⟩:=h.blk k _ hk
   obtain ⟨z,hz,hzr⟩:=load_sound (P:=E.P) (ad:=⟨g,0,none⟩) hp hall (w:=w) (fun j y hy=>by rw [addr_add,Nat.zero_add];exact hsh.cell hg j y hy)
   rw [addr_add,Nat.zero_add] at hz
   exact val_step (v := .val p) h1 hd (run_at (f:=Instr.loadAt t (a.eval x)) (by rw [he];simp only [Instr.loadAt,Instr.sureAddr,pure_bind];exact hz) rfl) (hzr.mono (rd_mono hP)) (fun m' Pr' a' w' hr=>hK m' Pr' a' w' hr)
  ·rename_i cs hr
   simp only [Option.map_eq_some_iff] at hs
   obtain ⟨p,hp,he⟩:=hs
   cases he
   simp only [Appl] at ha
   subst ha
   obtain ⟨ad,xs,he,hall,hm⟩:=(Rep.ref_inv (h.opSV (res_val hr):Rep _ _ _))
   obtain ⟨z,hz,hzr⟩:=load_sound (P:=E.P) (ad:=ad) hp hall (w:=w) (fun j y hy=>(rd_some.1 (hm j y hy)).2)
   rw [Addr.add_zero'] at hz
   exact val_step (v := .val p) h1 hd (run_at (f:=Instr.loadAt t (a.eval x)) (by rw [he];simp only [Instr.loadAt,Instr.sureAddr,pure_bind];exact hz) rfl) (hzr.mono (rd_mono hP)) (fun m' Pr' a' w' hr=>hK m' Pr' a' w' hr)
  ·cases hs
 case store t x y=>
  split at hs
  ·rename_i k off b r hx hy
   split at hs
   ·rename_i p f n hc hsz
    split at hs
    ·rename_i vs hvs
     split at hs
     ·cases hs
     ·rename_i hcond
      cases hs
      have c1:vs.length=n:=Decidable.byContradiction fun e=>hcond (.inl e)
      have c2:off+n≤b.cells.length:=Nat.le_of_not_gt fun e=>hcond (.inr (.inl e))
      have c3:k∉fz:=fun e=>hcond (.inr (.inr e))
      obtain ⟨⟨b0,hb0⟩,_,rfl⟩:=ha
      obtain ⟨ho,fl,hk⟩:=res_ptr hx
      rw [hk] at hb0;cases hb0
      obtain ⟨g,hg,he⟩:=(h.opSV ho:SRep _ _ _ _)
      have hrep:=h.close h1 hP hy hc (fun k hk=>hk)
      have hall:=hrep.cells hvs
      have hk1:(⟨s.τ,frzσ s.σ fz⟩:PS).σ k=some (b,false):=by simp only [frzσ,c3,if_false,hk]
      obtain ⟨w',hrun,hrel⟩:=Rel.storeN vs _ off 0 h1 hk1 hg hall (by omega)
      unfold Oper.wp
      have:(execOp a.eval ⟨dst,.store t x y,type,pos,after,guard⟩).run E.P w = .ok .skip w':=by
       have hsize:(a.eval y).cells.size=n:=by have:=hall.1;simp at this;omega
       have e0:(storeVar t ⟨g,off,none⟩ (a.eval y)).run E.P w = .ok () w':=by
        simp only [storeVar,Sem.run_bind,run_sizeOf hsz,Result.andThen_ok,hsize,ne_eq,not_true,if_false]
        exact hrun
       simp only [execOp,he,Instr.storeAt,Instr.sureAddr,pure_bind,Sem.run_bind,e0,Result.andThen_ok,Sem.run_pure]
      rw [this]
      rw [Nat.add_zero] at hrel
      have hput:=hrel.put dst hd (v := .junk) (x:=undef) trivial
      exact hK _ _ _ _ hput
    ·cases hs
   ·cases hs
  ·cases hs
 case nilCheck x=>
  split at hs
  ·rename_i k o b hr
   cases hs
   simp only [Appl] at ha
   subst ha
   obtain ⟨ho,fl,hk⟩:=res_ptr hr
   have hsr:=h1.opSV (s:=⟨s.τ,frzσ s.σ []⟩) ho
   obtain ⟨g,hg,he⟩:=(h.opSV ho:SRep _ _ _ _)
   exact val_step (v := .ptr k o) (x:=a.eval x) h1 hd (by simp [execOp,he]) hsr (fun m' Pr' a' w' hr=>hK m' Pr' a' w' hr)
  ·rename_i cs hr
   cases hs
   simp only [Appl] at ha
   subst ha
   have hsr:=h1.opSV (s:=⟨s.τ,frzσ s.σ []⟩) (res_val hr)
   obtain ⟨ad,xs,he,hall,hm⟩:=(Rep.ref_inv (h.opSV (res_val hr):Rep _ _ _))
   exact val_step (v := .val (.ref cs)) (x:=a.eval x) h1 hd (by simp [execOp,he]) hsr (fun m' Pr' a' w' hr=>hK m' Pr' a' w' hr)
  ·rename_i f cs hr
   cases hs
   simp only [Appl] at ha
   subst ha
   have hsr:=h1.opSV (s:=⟨s.τ,frzσ s.σ []⟩) (res_val hr)
   obtain ⟨xs,he,_⟩:=(Rep.clo_inv (h.opSV (res_val hr):Rep _ _ _))
   exact val_step (v := .val (.clo f cs)) (x:=a.eval x) h1 hd (by simp [execOp,he]) hsr (fun m' Pr' a' w' hr=>hK m' Pr' a' w' hr)
  ·cases hs
 case makeFunc fn first captured=>
  cases fn with
  | func f=>
   simp only at hs
   split at hs
   ·cases hs
   ·rename_i hfirst
    have hfirst':first=#[]:=Array.eq_empty_of_size_eq_zero (Decidable.byContradiction hfirst)
    subst hfirst'
    split at hs
    ·rename_i vs fz' hcl
     cases hs
     simp only [Appl] at ha
     subst ha
     obtain ⟨hlen,hreps⟩:=h.closeL h1 hP _ hcl (fun k hk=>hk)
     refine val_step (v := .val (.clo f vs)) (x := .func (.func f) #[] (captured.map a.eval)) h1 hd (by simp [execOp,Instr.makeFunc]) (Rep.clo f vs _ (by simp [hlen]) (fun j p x hp hx=>?_)) (fun m' Pr' a' w' hr=>hK m' Pr' a' w' hr)
     simp only [Array.getElem?_map,Option.map_eq_some_iff] at hx
     obtain ⟨y,hy,rfl⟩:=hx
     exact hreps j p y hp (by simpa using hy)
    ·cases hs
  | _=>simp at hs
 case makeSlice t l c=>
  split at hs
  ·rename_i e n mm hl hn hm
   split at hs
   ·rename_i sz' z hsz hz
    split at hs
    ·rename_i hc
     cases hs
     obtain ⟨rfl,c0,c63,cby,cs0,cz⟩:=hc
     obtain ⟨i,zv,hi,hzv,hall⟩:=zr_spec (g:=rd w Pr1) hz
     obtain ⟨i',hi',hsize⟩:=sz_spec hsz
     rw [hi] at hi';cases hi'
     subst hsize
     have hbyt:byt E.P e=i.bytes:=by simp [byt,hi]
     obtain ⟨d,hdd,rfl⟩:=ha
     simp only at hdd
     subst hdd
     obtain ⟨kl,el⟩:=h.rvInt hn
     obtain ⟨kc,ec⟩:=h.rvInt hm
     have hzrow:=zrow_all2 hall (zrow_ne cz cs0) n.toNat
     rw [cz] at hzrow
     have hrun:=run_make (P:=E.P) w t e i zv (lk_slice hl) hi hzv kl kc n n c0 (Int.le_refl _) (by rw [hbyt] at cby;omega) c63
     have hshape:Shape (w.alloc (.cells (madeCells zv.cells (n.toNat*i.size)) e)) (.slice (some ⟨w.heap.size,0,none⟩) n.toNat n.toNat) (madeCells zv.cells (n.toNat*i.size)).toList (.row e i.size n.toNat (zrow z n.toNat)):=
      World.ownsRow_lit w _ n.toNat (Nat.zero_le _) (by simp only [maxLen];omega) (size_madeCells _ _)
     exact new_step h1 rfl (hd d rfl) (b := .row e i.size n.toNat (zrow z n.toNat)) (x := .slice (some ⟨w.heap.size,0,none⟩) n.toNat n.toNat) (hnm rfl d rfl)
      (run_at (f:=Instr.makeSlice t (a.eval l) (a.eval c)) (by rw [el,ec];exact hrun) rfl) rfl (fun _ hb=>by cases hb) hzrow hshape (fun m' Pr' a' w' hr=>hK m' Pr' a' w' hr)
    ·cases hs
   ·cases hs
  ·cases hs
 case slice t x lo hi mx=>
  cases mx with
  | some _=>simp at hs
  | none=>
  simp only at hs
  split at hs
  ·rename_i e hl
   split at hs
   ·rename_i n hsz
    have cut:∀{ad:Addr} {nn cap:Nat} {l hh:Int},a.eval x = .slice (some ad) nn cap→nn≤cap→bound (lo.map (res E s.τ s.σ)) 0=some l→bound (hi.map (res E s.τ s.σ)) nn=some hh→0≤l→l≤hh→hh≤nn →
      (Instr.sliceAt t (a.eval x) (lo.map a.eval) (hi.map a.eval) none).run E.P w = .ok (.slice (if cap=l.toNat then some ad else some (ad.add (l.toNat*n))) (hh.toNat-l.toNat) (cap-l.toNat)) w:=by
     intro ad nn cap l hh ex hnc hlo hhi c0 c1 c2
     have hb:(Instr.sliceBounds true nn cap (lo.map a.eval) (hi.map a.eval) none).run E.P w = .ok (l.toNat,hh.toNat,cap) w:=run_bounds c0 c1 (by omega) (bound_cases h hhi) (bound_cases h hlo)
     rw [ex]
     simp only [Instr.sliceAt,Sem.run_bind,run_underlying (lk_slice hl),Result.andThen_ok,Instr.slice,hb,run_sizeOf hsz,Sem.run_pure,Option.map_some]
    split at hs
    ·rename_i k e' z nn cs hx
     split at hs
     ·rename_i l hh hlo hhi
      split at hs
      ·rename_i hc
       cases hs
       obtain ⟨c0,c1,c2⟩:=hc
       simp only [Appl] at ha
       subst ha
       obtain ⟨ho,fl,hk⟩:=res_row hx
       have ex:a.eval x=m k:=h.opSV ho
       obtain ⟨xs,_,hsh,_⟩:=h.blk k _ hk
       rcases hsh.2 with ⟨h0,h00⟩ | ⟨g,cap,cur,h0,_,hh',hnc,hcm,_⟩
       ·omega
       ·refine val_step (v := .sub k (l.toNat*n) (hh.toNat-l.toNat)) h1 hd (run_at (f:=Instr.sliceAt t (a.eval x) (lo.map a.eval) (hi.map a.eval) none) (cut (ex.trans h0) hnc hlo hhi c0 (by omega) c2) (by cases lo<;>cases hi<;>rfl)) ⟨g,cap-l.toNat,by rw [h0];rfl,?_,by omega,by omega⟩ (fun m' Pr' a' w' hr=>hK m' Pr' a' w' hr)
        rw [if_neg (by omega),addr_add,Nat.zero_add]
      ·cases hs
     ·cases hs
    ·rename_i k o nn b hx
     split at hs
     ·rename_i l hh hlo hhi
      split at hs
      ·rename_i hc
       cases hs
       obtain ⟨c0,c1,c2⟩:=hc
       simp only [Appl] at ha
       subst ha
       obtain ⟨ho,fl,hk⟩:=res_sub hx
       obtain ⟨g,cap,hg,ex,hnc,hcm⟩:=(h.opSV ho:SRep _ _ _ _)
       refine val_step (v := .sub k (o+l.toNat*n) (hh.toNat-l.toNat)) h1 hd (run_at (f:=Instr.sliceAt t (a.eval x) (lo.map a.eval) (hi.map a.eval) none) (cut ex hnc hlo hhi c0 (by omega) c2) (by cases lo<;>cases hi<;>rfl)) ⟨g,cap-l.toNat,hg,?_,by omega,by omega⟩ (fun m' Pr' a' w' hr=>hK m' Pr' a' w' hr)
       rw [if_neg (by omega),addr_add]
      ·cases hs
     ·cases hs
    ·rename_i p hx
     split at hs
     ·rename_i nn cs hv
      split at hs
      ·rename_i l hh hlo hhi
       split at hs
       ·rename_i hc
        cases hs
        obtain ⟨c0,c1,c2,c3⟩:=hc
        simp only [Appl] at ha
        subst ha
        have hrep:=h.rvSlice h1 hP (x:=x) (n:=nn) (cs:=cs) (by rw [hx];exact hv) (by rw [hx];simp [frzOf])
        rcases hrep.lst_inv with ⟨ex,rfl,rfl⟩ | ⟨ad,cap,xs,ex,hnc,hcm,hall,hm⟩
        ·have e1:l.toNat=0:=by omega
         have e2:hh.toNat=0:=by omega
         have hb:(Instr.sliceBounds true 0 0 (lo.map a.eval) (hi.map a.eval) none).run E.P w = .ok (l.toNat,hh.toNat,0) w:=run_bounds c0 c1 c2 (bound_cases h hhi) (bound_cases h hlo)
         refine val_step (v := .val (.lst (hh.toNat-l.toNat) ((([]:List PV).drop (l.toNat*n)).take ((hh.toNat-l.toNat)*n)))) (x := .slice none 0 0) h1 hd (run_at (f:=Instr.sliceAt t (a.eval x) (lo.map a.eval) (hi.map a.eval) none) ?_ (by cases lo<;>cases hi<;>rfl)) ?_ (fun m' Pr' a' w' hr=>hK m' Pr' a' w' hr)
         ·rw [ex]
          simp only [Instr.sliceAt,Sem.run_bind,run_underlying (lk_slice hl),Result.andThen_ok,Instr.slice,hb,run_sizeOf hsz,Sem.run_pure,e1,e2]
          rfl
         ·simp only [e1,e2,Nat.sub_self,Nat.zero_mul,List.take_zero]
          exact Rep.nil
        ·refine val_step (v := .val (.lst (hh.toNat-l.toNat) ((cs.drop (l.toNat*n)).take ((hh.toNat-l.toNat)*n)))) h1 hd (run_at (f:=Instr.sliceAt t (a.eval x) (lo.map a.eval) (hi.map a.eval) none) (cut ex hnc hlo hhi c0 c1 c2) (by cases lo<;>cases hi<;>rfl)) ?_ (fun m' Pr' a' w' hr=>hK m' Pr' a' w' hr)
         have hall2:=(hall.drop (l.toNat*n)).take ((hh.toNat-l.toNat)*n)
         by_cases hcl:cap=l.toNat
         ·have e1:hh.toNat-l.toNat=0:=by omega
          simp only [hcl,if_true,e1,Nat.zero_mul,List.take_zero,Nat.sub_self]
          exact Rep.lst ad 0 0 [] [] (Nat.le_refl _) (Nat.zero_le _) rfl (fun j x hx=>by simp at hx) (fun j x hx=>by simp at hx) (fun j c x hc _=>by simp at hc)
         ·simp only [hcl,if_false]
          refine Rep.lst _ _ _ _ _ (by omega) (by omega) hall2.1 hall2.2.1 (fun j y hy=>?_) hall2.2.2
          rw [List.getElem?_take] at hy
          split at hy
          ·rw [add_add];exact hm _ y (by simpa using hy)
          ·cases hy
       ·cases hs
      ·cases hs
     ·cases hs
    ·rename_i hx
     split at hs
     ·rename_i l hh hlo hhi
      split at hs
      ·rename_i hc
       cases hs
       obtain ⟨c0,c1,c2⟩:=hc
       simp only [Appl] at ha
       subst ha
       have ex:a.eval x = .slice none 0 0:=h.opSV (res_nil hx)
       have e1:l.toNat=0:=by omega
       have e2:hh.toNat=0:=by omega
       have hb:(Instr.sliceBounds true 0 0 (lo.map a.eval) (hi.map a.eval) none).run E.P w = .ok (l.toNat,hh.toNat,0) w:=run_bounds c0 c1 c2 (bound_cases h hhi) (bound_cases h hlo)
       refine val_step (v := .nil) (x := .slice none 0 0) h1 hd (run_at (f:=Instr.sliceAt t (a.eval x) (lo.map a.eval) (hi.map a.eval) none) ?_ (by cases lo<;>cases hi<;>rfl)) rfl (fun m' Pr' a' w' hr=>hK m' Pr' a' w' hr)
       rw [ex]
       simp only [Instr.sliceAt,Sem.run_bind,run_underlying (lk_slice hl),Result.andThen_ok,Instr.slice,hb,run_sizeOf hsz,Sem.run_pure,e1,e2]
       rfl
      ·cases hs
     ·cases hs
    ·cases hs
   ·cases hs
  ·rename_i hl
   split at hs
   ·rename_i b hx
    split at hs
    ·rename_i l hh hlo hhi
     split at hs
     ·rename_i hc
      cases hs
      obtain ⟨c0,c1,c2⟩:=hc
      simp only [Appl] at ha
      subst ha
      have ex:=(h.opSV (rvPV_some hx):Rep _ _ _).str_inv
      have hbounds:(Instr.sliceBounds false b.size b.size (lo.map a.eval) (hi.map a.eval) none).run E.P w = .ok (l.toNat,hh.toNat,b.size) w:=
       run_bounds c0 c1 c2 (bound_cases h hhi) (bound_cases h hlo)
      refine val_step (v := .val (.str (b.extract l.toNat hh.toNat))) (x := .string (b.extract l.toNat hh.toNat)) h1 hd (run_at (f:=Instr.sliceAt t (a.eval x) (lo.map a.eval) (hi.map a.eval) none) ?_ (by cases lo<;>cases hi<;>rfl)) (Rep.str _) (fun m' Pr' a' w' hr=>hK m' Pr' a' w' hr)
      rw [ex]
      simp [Instr.sliceAt,run_underlying (lk_str hl),Instr.slice,hbounds]
     ·cases hs
    ·cases hs
   ·cases hs
  ·rename_i n e hl
   split at hs
   ·rename_i sz' hsz
    split at hs
    ·rename_i k o b hx
     split at hs
     ·rename_i l hh hlo hhi
      split at hs
      ·rename_i hc
       cases hs
       obtain ⟨c0,c1,c2,c3⟩:=hc
       simp only [Appl] at ha
       subst ha
       obtain ⟨ho,fl,hk⟩:=res_ptr hx
       obtain ⟨g,hg,ex⟩:=(h.opSV ho:SRep _ _ _ _)
       have hb:(Instr.sliceBounds false n n (lo.map a.eval) (hi.map a.eval) none).run E.P w = .ok (l.toNat,hh.toNat,n) w:=run_bounds c0 (by omega) (by omega) (bound_cases h hhi) (bound_cases h hlo)
       refine val_step (v := .sub k (o+l.toNat*sz') (hh.toNat-l.toNat)) (x := .slice (some ⟨g,o+l.toNat*sz',none⟩) (hh.toNat-l.toNat) (n-l.toNat)) h1 hd (run_at (f:=Instr.sliceAt t (a.eval x) (lo.map a.eval) (hi.map a.eval) none) ?_ (by cases lo<;>cases hi<;>rfl)) ⟨g,n-l.toNat,hg,rfl,by omega,by omega⟩ (fun m' Pr' a' w' hr=>hK m' Pr' a' w' hr)
       rw [ex]
       simp only [Instr.sliceAt,Sem.run_bind,run_underlying (lk_array hl),Result.andThen_ok,Instr.sureAddr,Sem.run_pure,hb,run_sizeOf hsz]
       rw [if_neg (by omega),addr_add]
      ·cases hs
     ·cases hs
    ·cases hs
   ·cases hs
  ·cases hs
 case indexAddr t x i=>
  split at hs
  ·rename_i n e hn hl
   obtain ⟨kn,en⟩:=h.rvInt hn
   split at hs
   ·rename_i sz' hsz
    split at hs
    ·rename_i mm cs hx
     split at hs
     ·rename_i hc
      cases hs
      simp only [Appl] at ha
      subst ha
      have hrep:Rep (rd w Pr) (.lst mm cs) (a.eval x):=h.opSV (res_val hx)
      rcases hrep.lst_inv with ⟨ex,rfl,rfl⟩ | ⟨ad,cap,xs,ex,hnc,hcm,hall,hm⟩
      ·omega
      ·refine val_step (v := .val (.ref (cs.drop (n.toNat*sz')))) (x := .pointer (some (ad.add (n.toNat*sz')))) h1 hd (run_at (f:=Instr.indexAt t (a.eval x) (a.eval i)) ?_ rfl) ?_ (fun m' Pr' a' w' hr=>hK m' Pr' a' w' hr)
       ·rw [ex,en]
        simp only [Instr.indexAt,asIntOf,pure_bind,Sem.run_bind,run_underlying (lk_slice hl),Result.andThen_ok]
        rw [if_pos hc]
        simp [run_sizeOf hsz]
       ·have hall2:=(hall.drop (n.toNat*sz')).mono (rd_mono hP)
        refine Rep.ref _ _ _ hall2.1 hall2.2.1 (fun j y hy=>?_) hall2.2.2
        rw [add_add]
        exact rd_mono hP _ _ (hm _ y (by simpa using hy))
     ·cases hs
    ·rename_i k e' z' mm cs hx
     split at hs
     ·rename_i hc
      cases hs
      simp only [Appl] at ha
      subst ha
      obtain ⟨ho,fl,hk⟩:=res_row hx
      have ex:a.eval x=m k:=h.opSV ho
      obtain ⟨xs,_,hsh,_⟩:=h.blk k _ hk
      rcases hsh.2 with ⟨h0,h00⟩ | ⟨g,cap,cur,h0,_⟩
      ·omega
      ·refine val_step (v := .ptr k (n.toNat*sz')) (x := .pointer (some ⟨g,n.toNat*sz',none⟩)) h1 hd (run_at (f:=Instr.indexAt t (a.eval x) (a.eval i)) ?_ rfl) ⟨g,by rw [h0];rfl,rfl⟩ (fun m' Pr' a' w' hr=>hK m' Pr' a' w' hr)
       rw [ex,en,h0]
       simp only [Instr.indexAt,asIntOf,pure_bind,Sem.run_bind,run_underlying (lk_slice hl),Result.andThen_ok]
       rw [if_pos hc]
       simp [run_sizeOf hsz,addr_add]
     ·cases hs
    ·rename_i k o mm b hx
     split at hs
     ·rename_i hc
      cases hs
      simp only [Appl] at ha
      subst ha
      obtain ⟨ho,fl,hk⟩:=res_sub hx
      obtain ⟨g,cap,hg,ex,hnc,hcm⟩:=(h.opSV ho:SRep _ _ _ _)
      refine val_step (v := .ptr k (o+n.toNat*sz')) (x := .pointer (some ⟨g,o+n.toNat*sz',none⟩)) h1 hd (run_at (f:=Instr.indexAt t (a.eval x) (a.eval i)) ?_ rfl) ⟨g,hg,rfl⟩ (fun m' Pr' a' w' hr=>hK m' Pr' a' w' hr)
      rw [ex,en]
      simp only [Instr.indexAt,asIntOf,pure_bind,Sem.run_bind,run_underlying (lk_slice hl),Result.andThen_ok]
      rw [if_pos hc]
      simp [run_sizeOf hsz,addr_add]
     ·cases hs
    ·cases hs
   ·cases hs
  ·rename_i n len e hn hl
   obtain ⟨kn,en⟩:=h.rvInt hn
   split at hs
   ·rename_i sz' hsz
    split at hs
    ·rename_i k o b hx
     split at hs
     ·rename_i hc
      cases hs
      simp only [Appl] at ha
      subst ha
      obtain ⟨ho,fl,hk⟩:=res_ptr hx
      obtain ⟨g,hg,ex⟩:=(h.opSV ho:SRep _ _ _ _)
      refine val_step (v := .ptr k (o+n.toNat*sz')) (x := .pointer (some ⟨g,o+n.toNat*sz',none⟩)) h1 hd (run_at (f:=Instr.indexAt t (a.eval x) (a.eval i)) ?_ rfl) ⟨g,hg,rfl⟩ (fun m' Pr' a' w' hr=>hK m' Pr' a' w' hr)
      rw [ex,en]
      simp only [Instr.indexAt,asIntOf,pure_bind,Sem.run_bind,run_underlying (lk_array hl),Result.andThen_ok,Instr.sureAddr]
      rw [if_pos hc]
      simp [run_sizeOf hsz,addr_add]
     ·cases hs
    ·rename_i cs hx
     split at hs
     ·rename_i hc
      cases hs
      simp only [Appl] at ha
      subst ha
      obtain ⟨ad,xs,ex,hall,hm⟩:=(Rep.ref_inv (h.opSV (res_val hx):Rep _ _ _))
      refine val_step (v := .val (.ref (cs.drop (n.toNat*sz')))) (x := .pointer (some (ad.add (n.toNat*sz')))) h1 hd (run_at (f:=Instr.indexAt t (a.eval x) (a.eval i)) ?_ rfl) ?_ (fun m' Pr' a' w' hr=>hK m' Pr' a' w' hr)
      ·rw [ex,en]
       simp only [Instr.indexAt,asIntOf,pure_bind,Sem.run_bind,run_underlying (lk_array hl),Result.andThen_ok,Instr.sureAddr]
       rw [if_pos hc]
       simp [run_sizeOf hsz]
      ·have hall2:=(hall.drop (n.toNat*sz')).mono (rd_mono hP)
       refine Rep.ref _ _ _ hall2.1 hall2.2.1 (fun j y hy=>?_) hall2.2.2
       rw [add_add]
       exact rd_mono hP _ _ (hm _ y (by simpa using hy))
     ·cases hs
    ·cases hs
   ·cases hs
  ·cases hs
 case call c=>
  obtain ⟨callee,args,argTypes⟩:=c
  cases callee with
  | builtin b=>exact pbuiltin_sound h rfl rfl hd hs ha hK
  | invoke r mth=>simp at hs
  | value f=>
   simp only at hs
   split at hs
   ·rename_i g caps hf
    split at hs
    ·rename_i hmu
     split at hs
     ·rename_i _ g' rs hcl
      cases hs
      have hgg:g'=g:=by
       simp only [res,opSV,Option.bind_some,resSV,Option.some.injEq,RV.val.injEq,PV.clo.injEq] at hf
       exact hf.1
      subst hgg
      obtain ⟨ks,cargs,bs,bs',r,hpc,-,hargs,hnd,hkl,hblk,hdk,hd0,rfl⟩:=ha
      obtain ⟨hb1,hb2,hrk,hrj,hpc⟩:=hpc
      have hlen:cargs.length=args.size:=by
       have e1:=congrArg List.length hargs
       have e2:=allSome_length hcl
       simp only [List.length_map,Array.length_toList] at e1 e2
       omega
      have hki:∀(i:Nat) b,bs[i]?=some b→s.σ (ks.getD i 0)=some (b,false):=fun i b hb=>by
       have hlt:i<ks.length:=by rw [hkl];exact (List.getElem?_eq_some_iff.1 hb).1
       refine hblk i b _ hb ?_
       simp [List.getD,hlt]
      have hpc':=hpc w Pr (fun i=>m (ks.getD i 0)) (args.map a.eval) h.bnd h.globW
       (fun i b hb=>(h.blk _ _ (hki i b hb)).wide fun _ _=>trivial)
       (fun i j b c hb hc hne=>h.sep _ _ _ _ (hki i b hb) (hki j c hc) fun e=>by
        have h1:i<ks.length:=by rw [hkl];exact (List.getElem?_eq_some_iff.1 hb).1
        have h2:j<ks.length:=by rw [hkl];exact (List.getElem?_eq_some_iff.1 hc).1
        simp only [List.getD,List.getElem?_eq_getElem h1,List.getElem?_eq_getElem h2,Option.getD_some] at e
        exact hne (nodup_inj hnd (List.getElem?_eq_getElem h1) (by rw [List.getElem?_eq_getElem h2,e])))
       (by simp [hlen]) (fun j u v hu hv=>by
        simp only [Array.getElem?_map,Option.map_eq_some_iff] at hv
        obtain ⟨y,hy,rfl⟩:=hv
        have hy':args.toList[j]?=some y:=by simpa using hy
        obtain ⟨q,hq,hrq⟩:=allSome_get hcl (j:=j) (by rw [List.getElem?_map,hy'];rfl)
        have hs':=h.opSV (res_sv hrq)
        have:(rs.map RV.sv)[j]?=some (ren ks u):=by rw [hargs,List.getElem?_map,hu];rfl
        rw [List.getElem?_map,hq,Option.map_some,Option.some.injEq] at this
        rw [this] at hs'
        exact (SRep.ren (fun i=>rfl)).1 hs')
      have hexe:execOp a.eval ⟨dst,.call ⟨.value (.func g'),args,argTypes⟩,type,pos,after,guard⟩=callFunc g' (args.map a.eval):=by
       simp only [execOp,resolve,Act.eval,Deferred.ofValue,pure_bind,invoke,Array.empty_append,Array.append_empty]
      unfold Oper.wp
      rw [hexe]
      revert hpc'
      cases (callFunc g' (args.map a.eval)).run E.P w with
      | halt x w'=>exact fun h=>h.elim
      | ok nx w'=>
       cases nx<;>first | exact fun h=>h.elim | skip
       rename_i f' vs'
       rintro ⟨rfl,hcalls⟩
       refine hcalls.mono ?_
       rintro e w'' ⟨v,rfl,hpost⟩
       obtain ⟨m',Pr',hrel,hrv⟩:=h.inl (dst:=dst) hd hdk hd0 hnd hkl hb1 hb2 hrk hblk hpost
       exact hK _ _ _ _ (hrel.put dst hd hrv)
     ·cases hs
    ·split at hs
     all_goals first | (cases hs;done) | skip
     rename_i vs fz' hcl
     cases hs
     obtain ⟨r,hpc,rfl⟩:=ha
     obtain ⟨hlen,hreps⟩:=h.closeL h1 hP _ hcl (fun k hk=>hk)
     obtain ⟨xs,ef,hxl,hxr⟩:=(Rep.clo_inv (h.opSV (res_val hf):Rep _ _ _))
     have hpc':=hpc w Pr1 (args.map a.eval++xs) h1.bnd h1.globW (by simp [hlen,hxl]) (fun j p v hp hv=>by
      rw [List.getElem?_append] at hp
      rw [Array.getElem?_append] at hv
      simp only [Array.size_map] at hv
      have hl2:vs.length=args.size:=by simpa using hlen
      rw [hl2] at hp
      split at hp
      ·rename_i hlt
       simp only [hlt,if_true,Array.getElem?_map,Option.map_eq_some_iff] at hv
       obtain ⟨y,hy,rfl⟩:=hv
       exact hreps j p y hp (by simpa using hy)
      ·rename_i hlt
       simp only [hlt,if_false] at hv
       exact Rep.mono (rd_mono hP) (hxr _ p v hp hv))
     have hexe:execOp a.eval ⟨dst,.call ⟨.value f,args,argTypes⟩,type,pos,after,guard⟩=callFunc g (args.map a.eval++xs):=by
      simp only [execOp,resolve,ef,Deferred.ofValue,pure_bind,invoke,Array.empty_append]
     unfold Oper.wp
     rw [hexe]
     revert hpc'
     cases (callFunc g (args.map a.eval++xs)).run E.P w with
     | halt x w'=>exact fun h=>h.elim
     | ok nx w'=>
      cases nx<;>first | exact fun h=>h.elim | skip
      ·rename_i v
       intro hpost
       obtain ⟨Pr2,hrel,hrv⟩:=h1.post hpost
       exact hK _ _ _ _ (hrel.put dst hd (v := .val r) hrv)
      ·rename_i f' vs'
       rintro ⟨rfl,hcalls⟩
       refine hcalls.mono ?_
       rintro e w'' ⟨v,rfl,hpost⟩
       obtain ⟨Pr2,hrel,hrv⟩:=h1.post hpost
       exact hK _ _ _ _ (hrel.put dst hd (v := .val r) hrv)
   ·cases hs
end
end PG
end
section
set_option linter.unusedVariables false
set_option linter.unusedSimpArgs false
namespace PG
open Go Go.RowKit
def StepP (E:PE) (o:Oper) (s s':PS):Prop:=
 if isA o.op=true then ∃v,stepA E o.op (opSV E s.τ)=some v∧s'=⟨putτ s.τ o.dst v,s.σ⟩
 else ∃out fz,stepR E o.op (res E s.τ s.σ)=some (out,fz)∧Appl E s o.dst fz out s'
def gslot (ops:Array Oper) (τ:Nat→Option SV) (j:Nat):Option (Option Bool):=
 match (ops[j]?).bind (·.dst) with
 | some t=>match τ t with
  | some (.val (.bool b))=>some (some b)
  | some (.val (.tuple []))=>some none
  | _=>none
 | none=>none
def StepI (E:PE) (ops:Array Oper) (i:Nat) (s s':PS):Prop:=
 ∃o,ops[i]?=some o∧match o.guard with
  | none=>StepP E o s s'
  | some (j,want)=>∃b,gslot ops s.τ j=some b∧if b=some want then StepP E o s s' else s'=⟨putτ s.τ o.dst (.val (.tuple [])),s.σ⟩
def Trace (E:PE) (ops:Array Oper):List Nat→PS→PS→Prop
 | [],s,s'=>s'=s
 | i::l,s,s'=>∃s1,StepI E ops i s s1∧Trace E ops l s1 s'
def isApp (mu:Nat→Bool):Op→Bool
 | .call c=>match c.callee with
  | .builtin .append=>true
  | .value (.func f)=>mu f
  | _=>false
 | _=>false
def isStore:Op→Bool
 | .store .. => true
 | _=>false
def NMs (ops:Array Oper) (l:List Nat) (s:PS):Prop:=
 ∀i∈l,∀o,ops[i]?=some o→isNew o.op=true→∀d,o.dst=some d→∀t u,s.τ t=some u→u.key≠some d
def dstsOk (N:Nat) (ops:Array Oper):Bool:=ops.all fun o=>match o.dst with | some d=>decide (d<N) | none=>true
def mk (mu:Nat→Bool) (ops:Array Oper) (i:Nat):Option Nat:=(ops[i]?).bind fun o=>if isNew o.op || isApp mu o.op then o.dst else none
def distinct (mu:Nat→Bool) (ops:Array Oper):Bool:=
 (List.range ops.size).all fun i=>(List.range i).all fun j=>mk mu ops i == none || mk mu ops i != mk mu ops j
section
variable {E : PE} {N : Nat} {wk : Gh} {w0 : Fm} {Pr0 : Nat → Nat → Prop} {s s' : PS} {m : Nat → Value} {Pr : Nat → Nat → Prop} {a : Act} {w : World} {ops : Array Oper}
def RF (r:Option Nat):Fence:={ fn:=fun _=>True,depth:=none,alive:=false,round:=r }
theorem callsIn_RF {r:Option Nat} {n:Nat} {P:Program} {f:FuncId} {args:Array Value} {w:World} {R:Ending→World→Prop} (h:Calls P f args w R):CallsIn (RF r) n P f args w R:=by
 have h1:CallsIn Fence.wide n P f args w R:=callsIn_wide.2 h
 cases r with
 | none=>exact h1
 | some l=>exact CallsIn.inRound l h1
theorem wpIn_of_wp {r:Option Nat} {P:Program} {o:Oper} {a:Act} {w:World} {K:Act→World→Prop} {Q:Exit→Act→World→Prop} (hnd:∀c,o.op ≠ .defer c)
  (h:o.wp P a w K Q):o.wpIn (RF r) 0 P a w K Q:=by
 refine ⟨fun _ _=>trivial,?_⟩
 have e:o.semAt (RF r).round a.eval=execOp a.eval o:=by
  cases r with
  | none=>simp [Oper.semAt,RF]
  | some l=>exact Oper.semAt_some l _ _ hnd
 rw [e]
 unfold Oper.wp at h
 generalize (execOp a.eval o).run P w=res at h ⊢
 cases res with
 | ok n w'=>
  cases n with
  | value v=>exact h
  | skip=>exact h
  | defer d=>exact h
  | enter f args=>exact ⟨fun hd=>by simp [RF] at hd,callsIn_RF h⟩
  | row rw args=>
   refine ⟨fun hd=>by simp [RF] at hd,fun c cs _=>?_⟩
   obtain ⟨v,w'',hr,hs⟩:=h c cs
   refine ⟨v,w'',hr,?_⟩
   have hs':=stepsIn_wide.2 hs
   cases r with
   | none=>exact hs'
   | some l=>exact hs'
  | _=>exact h.elim
 | halt s w'=>
  cases s with
  | panic v=>exact h
  | _=>exact h.elim
theorem stepP_sound (h:Rel E N wk w0 Pr0 s m Pr a w) {o:Oper} {K:Act→World→Prop} {Q:Exit→Act→World→Prop} (hd:∀d,o.dst=some d→d<N)
  (hnm:isNew o.op=true→∀d,o.dst=some d→∀t u,s.τ t=some u→u.key≠some d) (hs:StepP E o s s') (hK:∀m' Pr' a' w',Rel E N wk w0 Pr0 s' m' Pr' a' w'→K a' w') :
  o.wp E.P a w K Q:=by
 unfold StepP at hs
 split at hs
 ·obtain ⟨v,hv,rfl⟩:=hs
  obtain ⟨x,hrun,hrep⟩:=stepA_sound h hv
  exact val_step h hd hrun hrep hK
 ·obtain ⟨out,fz,hv,ha⟩:=hs
  exact stepR_sound h hd hnm hv ha hK
theorem stepP_nd {o:Oper} (hs:StepP E o s s'):∀c,o.op ≠ .defer c:=by
 intro c e
 unfold StepP at hs
 rw [e] at hs
 simp [isA,stepR] at hs
theorem gslot_yielded (h:Rel E N wk w0 Pr0 s m Pr a w) {j:Nat} {b:Option Bool} (hg:gslot ops s.τ j=some b):yielded ops a.tmps j=b:=by
 unfold gslot at hg
 split at hg
 ·rename_i t ht
  split at hg
  ·rename_i b' hs
   cases hg
   obtain ⟨x,hx,hr⟩:=h.tmp t _ hs
   have:=(hr:Rep _ _ _).bool_inv
   subst this
   unfold yielded
   rw [ht]
   simp only [Option.bind_some,hx]
  ·rename_i hs
   cases hg
   obtain ⟨x,hx,hr⟩:=h.tmp t _ hs
   have hr':Rep _ (.tuple []) x:=hr
   have hxe:x = .tuple #[]:=by
    cases hr' with
    | tuple vs xs hl h=>simp only [List.length_nil,Array.size_eq_zero_iff] at hl;rw [hl]
   subst hxe
   unfold yielded
   rw [ht]
   simp only [Option.bind_some,hx]
  ·cases hg
 ·cases hg
theorem dstsOk_spec (hN:dstsOk N ops=true) {i:Nat} {o:Oper} (ho:ops[i]?=some o):∀d,o.dst=some d→d<N:=by
 intro d hd
 have:=Array.all_eq_true_iff_forall_mem.1 hN o (Array.mem_of_getElem? ho)
 simp only [hd,decide_eq_true_eq] at this
 exact this
theorem stepI_sound {r:Option Nat} (hN:dstsOk N ops=true) (h:Rel E N wk w0 Pr0 s m Pr a w) {i:Nat} {K:Act→World→Prop} {Q:Exit→Act→World→Prop} (hnm:NMs ops [i] s)
  (hs:StepI E ops i s s') (hK:∀m' Pr' a' w',Rel E N wk w0 Pr0 s' m' Pr' a' w'→K a' w'):wpOpIn (RF r) 0 E.P ops Q i K a w:=by
 obtain ⟨o,ho,hs⟩:=hs
 have hd:=dstsOk_spec hN ho
 have hn:=hnm i (by simp) o ho
 unfold wpOpIn
 simp only [ho]
 cases hgd:o.guard with
 | none=>
  simp only [hgd] at hs
  have hw:Region.wanted o (yielded ops a.tmps)=true:=by simp [Region.wanted,hgd]
  simp only [hw,if_true]
  exact wpIn_of_wp (stepP_nd hs) (stepP_sound h hd hn hs hK)
 | some gw=>
  obtain ⟨j,want⟩:=gw
  simp only [hgd] at hs
  obtain ⟨b,hb,hs⟩:=hs
  have hy:=gslot_yielded h hb
  have hwe:Region.wanted o (yielded ops a.tmps)=(b == some want):=by
   simp only [Region.wanted,hgd,hy]
  rw [hwe]
  split at hs
  ·rename_i hbw
   subst hbw
   simp only [beq_self_eq_true,if_true]
   exact wpIn_of_wp (stepP_nd hs) (stepP_sound h hd hn hs hK)
  ·rename_i hbw
   have:(b == some want)=false:=by simpa using hbw
   simp only [this,Bool.false_eq_true,if_false]
   subst hs
   exact ⟨fun _ _=>trivial,hK _ _ _ _ (h.put o.dst hd (v := .val (.tuple [])) (x:=undef) (Rep.tuple [] #[] rfl (by simp)))⟩
def Ment (τ:Nat→Option SV) (k:Nat):Prop:=∃t u,τ t=some u∧u.key=some k
theorem opSV_key {τ:Nat→Option SV} {x:Operand} {v:SV} {k:Nat} (h:opSV E τ x=some v) (hk:v.key=some k):Ment τ k:=by
 cases x with
 | tmp t=>exact ⟨t,v,h,hk⟩
 | const c=>
  simp only [opSV,constSV] at h
  split at h
  ·cases h;cases hk
  ·cases h;cases hk
  ·simp only [Option.map_eq_some_iff] at h
   obtain ⟨p,_,rfl⟩:=h
   cases hk
 | global g=>
  simp only [opSV,Option.map_eq_some_iff] at h
  obtain ⟨p,_,rfl⟩:=h
  cases hk
 | func f=>simp only [opSV,Option.some.injEq] at h;subst h;cases hk
theorem map_val_key {o:Option PV} {v:SV} (h:o.map SV.val=some v):v.key=none:=by
 simp only [Option.map_eq_some_iff] at h
 obtain ⟨p,_,rfl⟩:=h
 rfl
theorem nilCmp_key {P:Program} {op:BinOp} {t:TypeId} {x y:Option SV} {v:SV} (h:nilCmp P op t x y=some v):v.key=none:=by
 unfold nilCmp at h
 repeat' (split at h)
 all_goals first
  | (cases h;done)
  | (cases h;rfl)
theorem stepA_key {op:Op} {τ:Nat→Option SV} {v:SV} {k:Nat} (h:stepA E op (opSV E τ)=some v) (hk:v.key=some k):Ment τ k:=by
 cases op<;>simp only [stepA,reduceCtorEq] at h
 case move x => split at h
                · cases h
                · exact opSV_key h hk
 case assign x=>exact opSV_key h hk
 case fieldAddr t x i=>
  repeat' (split at h)
  all_goals first
   | (cases h;done)
   | (cases h;cases hk;done)
   | (rename_i hx;cases h;exact opSV_key hx hk)
 all_goals
  repeat' (split at h)
  all_goals first
   | (cases h;done)
   | (cases h;cases hk;done)
   | (have:=map_val_key h;rw [this] at hk;cases hk)
   | (have:=nilCmp_key h;rw [this] at hk;cases hk)
theorem close_key {r:RV} {p:PV} {f:List Nat} {σ:Nat→Option (Bk × Bool)} {τ:Nat→Option SV} {x:Operand} (hr:res E τ σ x=some r) (hc:close r=some (p,f)):∀k∈f,Ment τ k:=by
 intro k hk
 cases r with
 | val v=>simp only [close,Option.some.injEq,Prod.mk.injEq] at hc;rw [←hc.2] at hk;cases hk
 | nil=>simp only [close,Option.some.injEq,Prod.mk.injEq] at hc;rw [←hc.2] at hk;cases hk
 | row j b=>
  obtain ⟨ho,_⟩:=res_row hr
  cases b with
  | box cs=>cases hc
  | row e z n cs=>
   simp only [close,Option.some.injEq,Prod.mk.injEq] at hc
   rw [←hc.2] at hk
   simp only [List.mem_singleton] at hk
   subst hk
   exact opSV_key ho rfl
 | ptr j off b=>
  obtain ⟨ho,_⟩:=res_ptr hr
  simp only [close,Option.some.injEq,Prod.mk.injEq] at hc
  rw [←hc.2] at hk
  simp only [List.mem_singleton] at hk
  subst hk
  exact opSV_key ho rfl
 | sub j off n b=>
  obtain ⟨ho,_⟩:=res_sub hr
  cases b with
  | box cs=>cases hc
  | row e z n0 cs=>
   simp only [close] at hc
   split at hc
   ·simp only [Option.some.injEq,Prod.mk.injEq] at hc
    rw [←hc.2] at hk
    simp only [List.mem_singleton] at hk
    subst hk
    exact opSV_key ho rfl
   ·cases hc
theorem closeL_key {σ:Nat→Option (Bk × Bool)} {τ:Nat→Option SV}:∀(l:List (Option RV)) {ps:List PV} {f:List Nat},(∀r∈l,∃x,r=res E τ σ x)→closeL l=some (ps,f)→∀k∈f,Ment τ k
 | [],ps,f,_,hc,k,hk=>by
  simp only [closeL,Option.some.injEq,Prod.mk.injEq] at hc
  rw [←hc.2] at hk;cases hk
 | none::l,ps,f,_,hc,k,hk=>by simp [closeL] at hc
 | some r::l,ps,f,hl,hc,k,hk=>by
  simp only [closeL] at hc
  split at hc
  ·rename_i v f1 vs f2 h1 h2
   simp only [Option.some.injEq,Prod.mk.injEq] at hc
   rw [←hc.2] at hk
   rcases List.mem_append.1 hk with hk | hk
   ·obtain ⟨x,hx⟩:=hl (some r) (by simp)
    exact close_key hx.symm h1 k hk
   ·exact closeL_key l (fun r hr=>hl r (by simp [hr])) h2 k hk
  ·cases hc
theorem frzOf_key {σ:Nat→Option (Bk × Bool)} {τ:Nat→Option SV} {x:Operand}:∀k∈frzOf (res E τ σ x),Ment τ k:=by
 intro k hk
 unfold frzOf at hk
 split at hk
 ·rename_i j b hr
  simp only [List.mem_singleton] at hk;subst hk
  exact opSV_key (res_row hr).1 rfl
 ·rename_i j off b hr
  simp only [List.mem_singleton] at hk;subst hk
  exact opSV_key (res_ptr hr).1 rfl
 ·rename_i j off n b hr
  simp only [List.mem_singleton] at hk;subst hk
  exact opSV_key (res_sub hr).1 rfl
 ·cases hk
theorem pbuiltin_key {σ:Nat→Option (Bk × Bool)} {τ:Nat→Option SV} {b:Builtin} {ts:List TypeId} {l:List Operand} {out:Out} {fz:List Nat} (h:pbuiltin E b ts (l.map (res E τ σ))=some (out,fz)) :
  (∀k∈fz,Ment τ k)∧(∀v,out = .val v→v.key=none)∧(∀b',out ≠ .new b')∧(∀k b',out ≠ .st k b')∧(∀f as,out ≠ .inl f as):=by
 unfold pbuiltin at h
 split at h
 ·repeat' (split at h)
  all_goals first
   | (cases h;done)
   | (cases h;exact ⟨(fun k hk=>by simp at hk),(fun v hv=>by cases hv;rfl),(fun _ e=>by cases e),(fun _ _ e=>by cases e),(fun _ _ e=>by cases e)⟩)
 ·simp only [Option.map_eq_some_iff] at h
  obtain ⟨r,_,he⟩:=h
  cases he
  exact ⟨(fun k hk=>by simp at hk),(fun v hv=>by cases hv;rfl),(fun _ e=>by cases e),(fun _ _ e=>by cases e),(fun _ _ e=>by cases e)⟩
 ·simp only [Option.map_eq_some_iff] at h
  obtain ⟨r,_,he⟩:=h
  cases he
  exact ⟨(fun k hk=>by simp at hk),(fun v hv=>by cases hv;rfl),(fun _ e=>by cases e),(fun _ _ e=>by cases e),(fun _ _ e=>by cases e)⟩
 ·rename_i t t' x y hargs
  obtain ⟨p,q,rfl,rfl,rfl⟩:∃p q,l=[p,q]∧res E τ σ p=x∧res E τ σ q=y:=by
   match l,hargs with
   | [p,q],hargs=>simp at hargs;exact ⟨p,q,rfl,hargs.1,hargs.2⟩
  repeat' (split at h)
  all_goals first
   | (cases h;done)
   | (cases h;exact ⟨frzOf_key,(fun v hv=>by cases hv),(fun _ e=>by cases e),(fun _ _ e=>by cases e),(fun _ _ e=>by cases e)⟩)
 ·cases h
end
end PG
end
section
set_option linter.unusedVariables false
set_option linter.unusedSimpArgs false
namespace PG
open Go Go.RowKit
section
variable {E : PE} {N : Nat} {wk : Gh} {w0 : Fm} {Pr0 : Nat → Nat → Prop} {s s' s1 s2 : PS} {m : Nat → Value} {Pr : Nat → Nat → Prop} {a : Act} {w : World} {ops : Array Oper}
theorem stepA_congr {op:Op} {ρ ρ':Operand→Option SV} (h:∀x∈op.operands,ρ x=ρ' x):stepA E op ρ=stepA E op ρ':=by
 cases op<;>simp only [Op.operands] at h<;>simp only [stepA]
 case move x=>rw [h x (by simp)]
 case assign x=>rw [h x (by simp)]
 case pick c x y=>rw [h c (by simp),h x (by simp),h y (by simp)]
 case binOp o t x y t'=>rw [h x (by simp),h y (by simp)]
 case unOp o t x=>rw [h x (by simp)]
 case extract x i=>rw [h x (by simp)]
 case field t x i=>rw [h x (by simp)]
 case fieldAddr t x i=>rw [h x (by simp)]
 case index t x i=>rw [h x (by simp),h i (by simp)]
 case makeInterface t x=>rw [h x (by simp)]
theorem stepR_congr {op:Op} {ρ ρ':Operand→Option RV} (h:∀x∈op.operands,ρ x=ρ' x):stepR E op ρ=stepR E op ρ':=by
 cases op<;>simp only [Op.operands] at h<;>simp only [stepR]
 case box t x=>rw [h x (by simp)]
 case build t ps=>
  have e:(ps.toList.map fun p=>ρ p.2)=ps.toList.map fun p=>ρ' p.2:=List.map_congr_left fun p hp=>h p.2 (by simp only [List.mem_toArray,List.mem_map];exact ⟨p,hp,rfl⟩)
  rw [e]
 case buildSlice t n ps=>
  have e:(ps.toList.map fun p=>ρ p.2)=ps.toList.map fun p=>ρ' p.2:=List.map_congr_left fun p hp=>h p.2 (by simp only [List.mem_toArray,List.mem_map];exact ⟨p,hp,rfl⟩)
  rw [e]
 case convert t t' x=>rw [h x (by simp)]
 case load t x=>rw [h x (by simp)]
 case store t x y=>rw [h x (by simp),h y (by simp)]
 case nilCheck x=>rw [h x (by simp)]
 case makeFunc fn first captured=>
  have e:captured.toList.map ρ=captured.toList.map ρ':=List.map_congr_left fun x hx=>h x (by simp [Array.mem_toList_iff.1 hx])
  cases fn with
  | func f=>simp only [e]
  | _=>rfl
 case makeSlice t l c=>rw [h l (by simp),h c (by simp)]
 case slice t x lo hi mx=>
  have ex:=h x (by simp)
  have e1:lo.map ρ=lo.map ρ':=by cases lo with
   | none=>rfl
   | some y=>simp only [Option.map_some];rw [h y (by simp)]
  have e2:hi.map ρ=hi.map ρ':=by cases hi with
   | none=>rfl
   | some y=>simp only [Option.map_some];rw [h y (by simp)]
  cases mx with
  | none=>simp only [ex,e1,e2]
  | some _=>rfl
 case indexAddr t x i=>rw [h x (by simp),h i (by simp)]
 case call c=>
  have e:c.args.toList.map ρ=c.args.toList.map ρ':=List.map_congr_left fun x hx=>h x (by simp [Call.operands,Array.mem_toList_iff.1 hx])
  rw [e]
  cases hc:c.callee with
  | value f=>simp only [h f (by simp [Call.operands,hc])]
  | invoke r mm=>rfl
  | builtin b=>rfl
theorem stepR_key {op:Op} {τ:Nat→Option SV} {σ:Nat→Option (Bk × Bool)} {out:Out} {fz:List Nat} (h:stepR E op (res E τ σ)=some (out,fz)) :
  (∀k∈fz,Ment τ k)∧(∀v k,out = .val v→v.key=some k→Ment τ k)∧((∃b,out = .new b)→isNew op=true)∧((∃k b,out = .st k b)→isStore op=true)∧((∃k b,out = .app k b)→isApp E.mu op=true)∧((∃f as,out = .inl f as)→isApp E.mu op=true∧fz=[]):=by
 have nofz:∀{fz':List Nat},fz'=[]→∀k∈fz',Ment τ k:=by rintro _ rfl k hk;cases hk
 cases op<;>simp only [stepR,reduceCtorEq] at h
 case alloc t=>
  simp only [Option.map_eq_some_iff] at h
  obtain ⟨cs,_,he⟩:=h
  cases he
  exact ⟨nofz rfl,(fun v k e=>by cases e),(fun _=>rfl),(fun ⟨_,_,e⟩=>by cases e),(fun ⟨_,_,e⟩=>by cases e),(fun ⟨_,_,e⟩=>by cases e)⟩
 case box t x=>
  split at h
  ·rename_i r hr
   split at h
   ·rename_i p f hc
    split at h
    ·cases h
     exact ⟨close_key hr hc,(fun v k e=>by cases e),(fun _=>rfl),(fun ⟨_,_,e⟩=>by cases e),(fun ⟨_,_,e⟩=>by cases e),(fun ⟨_,_,e⟩=>by cases e)⟩
    ·cases h
   ·cases h
  ·cases h
 case build t ps=>
  split at h
  ·rename_i vs f z pl hcl _ _
   split at h
   ·cases h
    exact ⟨closeL_key _ (fun r hr=>by obtain ⟨p,_,rfl⟩:=List.mem_map.1 hr;exact ⟨p.2,rfl⟩) hcl,(fun v k e hk=>by cases e;cases hk),(fun ⟨_,e⟩=>by cases e),(fun ⟨_,_,e⟩=>by cases e),(fun ⟨_,_,e⟩=>by cases e),(fun ⟨_,_,e⟩=>by cases e)⟩
   ·cases h
  ·cases h
 case buildSlice t n ps=>
  split at h
  ·rename_i vs f e hcl _
   split at h
   ·split at h
    ·cases h
    ·split at h
     ·cases h
      exact ⟨closeL_key _ (fun r hr=>by obtain ⟨p,_,rfl⟩:=List.mem_map.1 hr;exact ⟨p.2,rfl⟩) hcl,(fun v k e=>by cases e),(fun _=>rfl),(fun ⟨_,_,e⟩=>by cases e),(fun ⟨_,_,e⟩=>by cases e),(fun ⟨_,_,e⟩=>by cases e)⟩
     ·cases h
   ·cases h
  ·cases h
 case convert t t' x=>
  repeat' split at h
  all_goals first | (cases h;done) | skip
  all_goals
   simp only [Option.map_eq_some_iff] at h
   obtain ⟨p,_,he⟩:=h
   cases he
   exact ⟨nofz rfl,(fun v k e hk=>by cases e;cases hk),(fun ⟨_,e⟩=>by cases e),(fun ⟨_,_,e⟩=>by cases e),(fun ⟨_,_,e⟩=>by cases e),(fun ⟨_,_,e⟩=>by cases e)⟩
 case load t x=>
  split at h
  ·simp only [Option.map_eq_some_iff] at h
   obtain ⟨p,_,he⟩:=h
   cases he
   exact ⟨nofz rfl,(fun v k e hk=>by cases e;cases hk),(fun ⟨_,e⟩=>by cases e),(fun ⟨_,_,e⟩=>by cases e),(fun ⟨_,_,e⟩=>by cases e),(fun ⟨_,_,e⟩=>by cases e)⟩
  ·simp only [Option.map_eq_some_iff] at h
   obtain ⟨p,_,he⟩:=h
   cases he
   exact ⟨nofz rfl,(fun v k e hk=>by cases e;cases hk),(fun ⟨_,e⟩=>by cases e),(fun ⟨_,_,e⟩=>by cases e),(fun ⟨_,_,e⟩=>by cases e),(fun ⟨_,_,e⟩=>by cases e)⟩
  ·cases h
 case store t x y=>
  split at h
  ·rename_i k off b r hx hy
   split at h
   ·rename_i p f n hc hsz
    split at h
    ·split at h
     ·cases h
     ·cases h
      exact ⟨close_key hy hc,(fun v k e=>by cases e),(fun ⟨_,e⟩=>by cases e),(fun _=>rfl),(fun ⟨_,_,e⟩=>by cases e),(fun ⟨_,_,e⟩=>by cases e)⟩
    ·cases h
   ·cases h
  ·cases h
 case nilCheck x=>
  split at h
  ·rename_i k o b hr
   cases h
   exact ⟨nofz rfl,(fun v k e hk=>by cases e;exact opSV_key (res_ptr hr).1 hk),(fun ⟨_,e⟩=>by cases e),(fun ⟨_,_,e⟩=>by cases e),(fun ⟨_,_,e⟩=>by cases e),(fun ⟨_,_,e⟩=>by cases e)⟩
  ·cases h
   exact ⟨nofz rfl,(fun v k e hk=>by cases e;cases hk),(fun ⟨_,e⟩=>by cases e),(fun ⟨_,_,e⟩=>by cases e),(fun ⟨_,_,e⟩=>by cases e),(fun ⟨_,_,e⟩=>by cases e)⟩
  ·cases h
   exact ⟨nofz rfl,(fun v k e hk=>by cases e;cases hk),(fun ⟨_,e⟩=>by cases e),(fun ⟨_,_,e⟩=>by cases e),(fun ⟨_,_,e⟩=>by cases e),(fun ⟨_,_,e⟩=>by cases e)⟩
  ·cases h
 case makeFunc fn first captured=>
  cases fn with
  | func f=>
   simp only at h
   split at h
   ·cases h
   ·split at h
    ·rename_i vs fz' hcl
     cases h
     exact ⟨closeL_key _ (fun r hr=>by obtain ⟨p,_,rfl⟩:=List.mem_map.1 hr;exact ⟨p,rfl⟩) hcl,(fun v k e hk=>by cases e;cases hk),(fun ⟨_,e⟩=>by cases e),(fun ⟨_,_,e⟩=>by cases e),(fun ⟨_,_,e⟩=>by cases e),(fun ⟨_,_,e⟩=>by cases e)⟩
    ·cases h
  | _=>simp at h
 case makeSlice t l c=>
  repeat' (split at h)
  all_goals first
   | (cases h;done)
   | (cases h;exact ⟨nofz rfl,(fun v k e=>by cases e),(fun _=>rfl),(fun ⟨_,_,e⟩=>by cases e),(fun ⟨_,_,e⟩=>by cases e),(fun ⟨_,_,e⟩=>by cases e)⟩)
 case slice t x lo hi mx=>
  cases mx with
  | some _=>simp at h
  | none=>
   simp only at h
   split at h
   ·split at h
    ·split at h
     ·rename_i hx
      have hkey:=(res_row hx).1
      repeat' (split at h)
      all_goals first
       | (cases h;done)
       | (cases h;exact ⟨nofz rfl,(fun v k e hk=>by cases e;exact opSV_key hkey hk),(fun ⟨_,e⟩=>by cases e),(fun ⟨_,_,e⟩=>by cases e),(fun ⟨_,_,e⟩=>by cases e),(fun ⟨_,_,e⟩=>by cases e)⟩)
     ·rename_i hx
      have hkey:=(res_sub hx).1
      repeat' (split at h)
      all_goals first
       | (cases h;done)
       | (cases h;exact ⟨nofz rfl,(fun v k e hk=>by cases e;exact opSV_key hkey hk),(fun ⟨_,e⟩=>by cases e),(fun ⟨_,_,e⟩=>by cases e),(fun ⟨_,_,e⟩=>by cases e),(fun ⟨_,_,e⟩=>by cases e)⟩)
     all_goals
      repeat' (split at h)
      all_goals first
       | (cases h;done)
       | (cases h;exact ⟨nofz rfl,(fun v k e hk=>by cases e;cases hk),(fun ⟨_,e⟩=>by cases e),(fun ⟨_,_,e⟩=>by cases e),(fun ⟨_,_,e⟩=>by cases e),(fun ⟨_,_,e⟩=>by cases e)⟩)
    ·cases h
   ·repeat' (split at h)
    all_goals first
     | (cases h;done)
     | (cases h;exact ⟨nofz rfl,(fun v k e hk=>by cases e;cases hk),(fun ⟨_,e⟩=>by cases e),(fun ⟨_,_,e⟩=>by cases e),(fun ⟨_,_,e⟩=>by cases e),(fun ⟨_,_,e⟩=>by cases e)⟩)
   ·split at h
    ·split at h
     ·rename_i hx
      have hkey:=(res_ptr hx).1
      repeat' (split at h)
      all_goals first
       | (cases h;done)
       | (cases h;exact ⟨nofz rfl,(fun v k e hk=>by cases e;exact opSV_key hkey hk),(fun ⟨_,e⟩=>by cases e),(fun ⟨_,_,e⟩=>by cases e),(fun ⟨_,_,e⟩=>by cases e),(fun ⟨_,_,e⟩=>by cases e)⟩)
     ·cases h
    ·cases h
   ·cases h
 case indexAddr t x i=>
  repeat' (split at h)
  all_goals first
   | (cases h;done)
   | (rename_i hx _;have hkey:=res_row hx;cases h;exact ⟨nofz rfl,(fun v k e hk=>by cases e;exact opSV_key hkey.1 hk),(fun ⟨_,e⟩=>by cases e),(fun ⟨_,_,e⟩=>by cases e),(fun ⟨_,_,e⟩=>by cases e),(fun ⟨_,_,e⟩=>by cases e)⟩)
   | (rename_i hx _;have hkey:=res_sub hx;cases h;exact ⟨nofz rfl,(fun v k e hk=>by cases e;exact opSV_key hkey.1 hk),(fun ⟨_,e⟩=>by cases e),(fun ⟨_,_,e⟩=>by cases e),(fun ⟨_,_,e⟩=>by cases e),(fun ⟨_,_,e⟩=>by cases e)⟩)
   | (rename_i hx _;have hkey:=res_ptr hx;cases h;exact ⟨nofz rfl,(fun v k e hk=>by cases e;exact opSV_key hkey.1 hk),(fun ⟨_,e⟩=>by cases e),(fun ⟨_,_,e⟩=>by cases e),(fun ⟨_,_,e⟩=>by cases e),(fun ⟨_,_,e⟩=>by cases e)⟩)
   | (cases h;exact ⟨nofz rfl,(fun v k e hk=>by cases e;cases hk),(fun ⟨_,e⟩=>by cases e),(fun ⟨_,_,e⟩=>by cases e),(fun ⟨_,_,e⟩=>by cases e),(fun ⟨_,_,e⟩=>by cases e)⟩)
 case call c=>
  obtain ⟨callee,args,ts⟩:=c
  cases callee with
  | builtin b=>
   simp only at h
   obtain ⟨h1,h2,h3,h4,h5⟩:=pbuiltin_key h
   refine ⟨h1,(fun v k e hk=>by rw [h2 v e] at hk;cases hk),(fun ⟨b',e⟩=>absurd e (h3 b')),(fun ⟨k,b',e⟩=>absurd e (h4 k b')),(fun ⟨k,b',e⟩=>?_),(fun ⟨f,as,e⟩=>absurd e (h5 f as))⟩
   subst e
   unfold pbuiltin at h
   split at h
   ·repeat' (split at h)
    all_goals (cases h;done)
   ·simp only [Option.map_eq_some_iff] at h
    obtain ⟨r,_,he⟩:=h
    cases he
   ·simp only [Option.map_eq_some_iff] at h
    obtain ⟨r,_,he⟩:=h
    cases he
   ·rfl
   ·cases h
  | invoke r mm=>simp at h
  | value f=>
   simp only at h
   split at h
   ·rename_i g caps hf
    split at h
    ·rename_i hmu
     split at h
     ·rename_i _ g' rs hcl
      cases h
      have hgg:g'=g:=by
       simp only [res,opSV,Option.bind_some,resSV,Option.some.injEq,RV.val.injEq,PV.clo.injEq] at hf
       exact hf.1
      subst hgg
      exact ⟨nofz rfl,(fun v k e=>by cases e),(fun ⟨_,e⟩=>by cases e),(fun ⟨_,_,e⟩=>by cases e),(fun ⟨_,_,e⟩=>by cases e),(fun _=>⟨hmu,rfl⟩)⟩
     ·cases h
    ·split at h
     ·rename_i vs fz' hcl
      cases h
      exact ⟨closeL_key _ (fun r hr=>by obtain ⟨p,_,rfl⟩:=List.mem_map.1 hr;exact ⟨p,rfl⟩) hcl,(fun v k e=>by cases e),(fun ⟨_,e⟩=>by cases e),(fun ⟨_,_,e⟩=>by cases e),(fun ⟨_,_,e⟩=>by cases e),(fun ⟨_,_,e⟩=>by cases e)⟩
     ·cases h
   ·cases h
def effσ (σ:Nat→Option (Bk × Bool)) (fz:List Nat) (u:Option (Nat × Bk)):Nat→Option (Bk × Bool):=
 match u with
 | none=>frzσ σ fz
 | some (k,b)=>updσ (frzσ σ fz) k (some (b,false))
def DOut (E:PE) (s:PS) (dst:Option Tmp) (fz:List Nat) (v:SV) (u:Option (Nat × Bk)):Out→Prop
 | .val v'=>v=v'∧u=none
 | .new b=>∃d,dst=some d∧v=newSV d b∧u=some (d,b)
 | .st k b=>(∃b0,s.σ k=some (b0,false))∧k∉fz∧v = .junk∧u=some (k,b)
 | .app .. => False
 | .inl .. => False
 | .call f args=>∃r,PC E f args r∧v = .val r∧u=none
def Does (E:PE) (o:Oper) (s:PS) (v:SV) (fz:List Nat) (u:Option (Nat × Bk)):Prop:=
 (isA o.op=true∧stepA E o.op (opSV E s.τ)=some v∧fz=[]∧u=none) ∨
 (isA o.op=false∧∃out,stepR E o.op (res E s.τ s.σ)=some (out,fz)∧DOut E s o.dst fz v u out)
def DoesI (E:PE) (ops:Array Oper) (o:Oper) (s:PS) (v:SV) (fz:List Nat) (u:Option (Nat × Bk)):Prop:=
 match o.guard with
 | none=>Does E o s v fz u
 | some (j,want)=>∃b,gslot ops s.τ j=some b∧if b=some want then Does E o s v fz u else v = .val (.tuple [])∧fz=[]∧u=none
def leaves (s:PS) (o:Oper) (v:SV) (fz:List Nat) (u:Option (Nat × Bk)):PS:=⟨putτ s.τ o.dst v,effσ s.σ fz u⟩
theorem does_of_step {o:Oper} (happ:isApp E.mu o.op=false) (h:StepP E o s s'):∃v fz u,Does E o s v fz u∧s'=leaves s o v fz u:=by
 unfold StepP at h
 split at h
 ·rename_i hA
  obtain ⟨v,hv,rfl⟩:=h
  exact ⟨v,[],none,.inl ⟨hA,hv,rfl,rfl⟩,by simp [leaves,effσ,frzσ_nil]⟩
 ·rename_i hA
  obtain ⟨out,fz,hv,ha⟩:=h
  have hA':isA o.op=false:=by simpa using hA
  cases out with
  | val v=>exact ⟨v,fz,none,.inr ⟨hA',_,hv,rfl,rfl⟩,ha⟩
  | new b=>obtain ⟨d,hd,rfl⟩:=ha;exact ⟨_,fz,_,.inr ⟨hA',_,hv,d,hd,rfl,rfl⟩,rfl⟩
  | st k b=>obtain ⟨h1,h2,rfl⟩:=ha;exact ⟨_,fz,_,.inr ⟨hA',_,hv,h1,h2,rfl,rfl⟩,rfl⟩
  | app k b=>have:=(stepR_key hv).2.2.2.2.1 ⟨k,b,rfl⟩;rw [happ] at this;cases this
  | inl f as=>have:=((stepR_key hv).2.2.2.2.2 ⟨f,as,rfl⟩).1;rw [happ] at this;cases this
  | call f args=>obtain ⟨r,h1,rfl⟩:=ha;exact ⟨_,fz,none,.inr ⟨hA',_,hv,r,h1,rfl,rfl⟩,rfl⟩
theorem step_of_does {o:Oper} {v:SV} {fz:List Nat} {u:Option (Nat × Bk)} (h:Does E o s v fz u):StepP E o s (leaves s o v fz u):=by
 unfold StepP
 rcases h with ⟨hA,hv,rfl,rfl⟩ | ⟨hA,out,hv,hd⟩
 ·rw [if_pos hA];exact ⟨v,hv,by simp [leaves,effσ,frzσ_nil]⟩
 ·rw [if_neg (by simp [hA])]
  refine ⟨out,fz,hv,?_⟩
  cases out with
  | val v'=>obtain ⟨rfl,rfl⟩:=hd;rfl
  | new b=>obtain ⟨d,hdd,rfl,rfl⟩:=hd;exact ⟨d,hdd,rfl⟩
  | st k b=>obtain ⟨h1,h2,rfl,rfl⟩:=hd;exact ⟨h1,h2,rfl⟩
  | app k b=>exact hd.elim
  | inl f as=>exact hd.elim
  | call f args=>obtain ⟨r,h1,rfl,rfl⟩:=hd;exact ⟨r,h1,rfl⟩
theorem doesI_of_step {i:Nat} {o:Oper} (ho:ops[i]?=some o) (happ:isApp E.mu o.op=false) (h:StepI E ops i s s'):∃v fz u,DoesI E ops o s v fz u∧s'=leaves s o v fz u:=by
 obtain ⟨o',ho',h⟩:=h
 rw [ho] at ho';cases ho'
 unfold DoesI
 cases hg:o.guard with
 | none=>simp only [hg] at h;exact does_of_step happ h
 | some gw=>
  obtain ⟨j,want⟩:=gw
  simp only [hg] at h
  obtain ⟨b,hb,h⟩:=h
  by_cases hbw:b=some want
  ·simp only [hbw,if_true] at h
   obtain ⟨v,fz,u,hd,e⟩:=does_of_step happ h
   exact ⟨v,fz,u,⟨b,hb,by simp only [hbw,if_true];exact hd⟩,e⟩
  ·simp only [hbw,if_false] at h
   exact ⟨.val (.tuple []),[],none,⟨b,hb,by simp [hbw]⟩,by rw [h];simp [leaves,effσ,frzσ_nil]⟩
theorem stepI_of_does {i:Nat} {o:Oper} (ho:ops[i]?=some o) {v:SV} {fz:List Nat} {u:Option (Nat × Bk)} (h:DoesI E ops o s v fz u):StepI E ops i s (leaves s o v fz u):=by
 refine ⟨o,ho,?_⟩
 unfold DoesI at h
 cases hg:o.guard with
 | none=>simp only [hg] at h ⊢;exact step_of_does h
 | some gw=>
  obtain ⟨j,want⟩:=gw
  simp only [hg] at h ⊢
  obtain ⟨b,hb,h⟩:=h
  refine ⟨b,hb,?_⟩
  by_cases hbw:b=some want
  ·simp only [hbw,if_true] at h ⊢;exact step_of_does h
  ·simp only [hbw,if_false] at h ⊢
   obtain ⟨rfl,rfl,rfl⟩:=h
   simp [leaves,effσ,frzσ_nil]
theorem does_fz {o:Oper} {v:SV} {fz:List Nat} {u:Option (Nat × Bk)} (h:DoesI E ops o s v fz u):∀k∈fz,Ment s.τ k:=by
 have key:Does E o s v fz u→∀k∈fz,Ment s.τ k:=by
  rintro (⟨_,_,rfl,_⟩ | ⟨_,out,hv,_⟩)
  ·intro k hk;cases hk
  ·exact (stepR_key hv).1
 unfold DoesI at h
 split at h
 ·exact key h
 ·obtain ⟨b,_,h⟩:=h
  split at h
  ·exact key h
  ·rw [h.2.1];intro k hk;cases hk
theorem does_new {o:Oper} {v:SV} {fz:List Nat} {k:Nat} {b:Bk} (h:DoesI E ops o s v fz (some (k,b))) (hst:isStore o.op=false):isNew o.op=true∧o.dst=some k:=by
 have key:Does E o s v fz (some (k,b))→isNew o.op=true∧o.dst=some k:=by
  rintro (⟨_,_,_,hu⟩ | ⟨_,out,hv,hd⟩)
  ·cases hu
  ·cases out with
   | val v'=>cases hd.2
   | new b'=>obtain ⟨d,hdd,_,hu⟩:=hd;cases hu;exact ⟨(stepR_key hv).2.2.1 ⟨_,rfl⟩,hdd⟩
   | st k' b'=>have:=(stepR_key hv).2.2.2.1 ⟨_,_,rfl⟩;rw [hst] at this;cases this
   | app k b=>exact hd.elim
   | inl f as=>exact hd.elim
   | call f args=>obtain ⟨r,_,_,hu⟩:=hd;cases hu
 unfold DoesI at h
 split at h
 ·exact key h
 ·obtain ⟨b,_,h⟩:=h
  split at h
  ·exact key h
  ·cases h.2.2
theorem does_transfer {o:Oper} {v:SV} {fz:List Nat} {u:Option (Nat × Bk)} (h:DoesI E ops o s v fz u) (hτ:∀t∈o.looksAt ops,s'.τ t=s.τ t)
  (hσ:isA o.op=true∨s'.σ=s.σ∨((isStore o.op=true→∀k b,u=some (k,b)→s'.σ k=s.σ k)∧∀k,(∃x∈o.op.operands,∃y,opSV E s.τ x=some y∧y.key=some k)→(s'.σ k).map (·.1)=(s.σ k).map (·.1))):DoesI E ops o s' v fz u:=by
 have hsv:∀x∈o.op.operands,opSV E s'.τ x=opSV E s.τ x:=by
  intro x hx
  cases x with
  | tmp t=>exact hτ t (List.mem_append_left _ (List.mem_filterMap.2 ⟨.tmp t,by simpa using hx,rfl⟩))
  | _=>rfl
 have key:Does E o s v fz u→Does E o s' v fz u:=by
  rintro (⟨hA,hv,h1,h2⟩ | ⟨hA,out,hv,hd⟩)
  ·exact .inl ⟨hA,by rw [stepA_congr hsv];exact hv,h1,h2⟩
  ·rcases hσ with hA' | hσ
   ·rw [hA] at hA';cases hA'
   ·have hres:∀x∈o.op.operands,res E s'.τ s'.σ x=res E s.τ s.σ x:=by
     intro x hx
     unfold res
     rw [hsv x hx]
     cases hvx:opSV E s.τ x with
     | none=>rfl
     | some y=>
      simp only [Option.bind_some]
      rcases hσ with hσ | ⟨_,hσ⟩
      ·rw [hσ]
      ·have hmap:∀(f:Bk→RV) k,y.key=some k→(s'.σ k).map (fun b=>f b.1)=(s.σ k).map (fun b=>f b.1):=by
        intro f k hk
        have:=congrArg (Option.map f) (hσ k ⟨x,hx,y,hvx,hk⟩)
        simpa [Function.comp_def] using this
       cases y with
       | row k=>exact hmap (RV.row k) k rfl
       | ptr k o=>exact hmap (RV.ptr k o) k rfl
       | sub k o n=>exact hmap (RV.sub k o n) k rfl
       | _=>rfl
    refine .inr ⟨hA,out,by rw [stepR_congr hres];exact hv,?_⟩
    cases out with
    | val v'=>exact hd
    | new b=>exact hd
    | st k b=>
     obtain ⟨h1,h2⟩:=hd
     rcases hσ with hσ | ⟨hst,_⟩
     ·exact ⟨by rw [hσ];exact h1,h2⟩
     ·exact ⟨by rw [hst ((stepR_key hv).2.2.2.1 ⟨_,_,rfl⟩) k b h2.2.2];exact h1,h2⟩
    | app k b=>exact hd
    | inl f as=>exact hd
    | call f args=>exact hd
 unfold DoesI at h ⊢
 cases hg:o.guard with
 | none=>simp only [hg] at h ⊢;exact key h
 | some gw=>
  obtain ⟨j,want⟩:=gw
  simp only [hg] at h ⊢
  obtain ⟨b,hb,h⟩:=h
  refine ⟨b,?_,?_⟩
  ·unfold gslot at hb ⊢
   cases ht:(ops[j]?).bind (·.dst) with
   | none=>simp [ht] at hb
   | some t=>
    simp only [ht] at hb ⊢
    rw [hτ t (List.mem_append_right _ (by simp [hg,ht]))]
    exact hb
  ·split at h
   ·rename_i e;rw [if_pos e];exact key h
   ·rename_i e;rw [if_neg e];exact h
theorem putτ_comm {τ:Nat→Option SV} {d1 d2:Option Tmp} {v1 v2:SV} (h:∀d,d1=some d→d2≠some d):putτ (putτ τ d1 v1) d2 v2=putτ (putτ τ d2 v2) d1 v1:=by
 cases d1 with
 | none=>rfl
 | some a=>cases d2 with
  | none=>rfl
  | some b=>
   have hne:b≠a:=fun e=>h a rfl (by rw [e])
   funext t
   simp only [putτ]
   by_cases h1:t=b<;>by_cases h2:t=a<;>simp_all
theorem effσ_nil (σ:Nat→Option (Bk × Bool)):effσ σ [] none=σ:=frzσ_nil σ
theorem effσ_at {σ:Nat→Option (Bk × Bool)} {fz:List Nat} {u:Option (Nat × Bk)} {k:Nat} (h:∀b,u≠some (k,b)):(effσ σ fz u k).map (·.1)=(σ k).map (·.1):=by
 have hf:(frzσ σ fz k).map (·.1)=(σ k).map (·.1):=by
  unfold frzσ;split<;>simp [Function.comp_def]
 cases u with
 | none=>exact hf
 | some kb=>
  obtain ⟨d,b⟩:=kb
  have hne:k≠d:=fun e=>h b (by rw [e])
  simp only [effσ,updσ,hne,if_false]
  exact hf
theorem effσ_comm {σ:Nat→Option (Bk × Bool)} {f1 f2:List Nat} {u1 u2:Option (Nat × Bk)} (h12:∀k b b',u1=some (k,b)→u2≠some (k,b')) (h1:∀k b,u1=some (k,b)→k∉f2) (h2:∀k b,u2=some (k,b)→k∉f1) :
  effσ (effσ σ f1 u1) f2 u2=effσ (effσ σ f2 u2) f1 u1:=by
 have hf:∀(σ:Nat→Option (Bk × Bool)),frzσ (frzσ σ f1) f2=frzσ (frzσ σ f2) f1:=by
  intro σ;funext k;unfold frzσ
  by_cases a1:k∈f1<;>by_cases a2:k∈f2<;>simp [a1,a2]
 have hu:∀(σ:Nat→Option (Bk × Bool)) (fz:List Nat) (k:Nat) (b:Option (Bk × Bool)),k∉fz→frzσ (updσ σ k b) fz=updσ (frzσ σ fz) k b:=by
  intro σ fz k b hk;funext j;unfold frzσ updσ
  by_cases hj:j=k
  ·subst hj;simp [hk]
  ·simp [hj]
 have huu:∀(σ:Nat→Option (Bk × Bool)) (k j:Nat) (b c:Option (Bk × Bool)),k≠j→updσ (updσ σ k b) j c=updσ (updσ σ j c) k b:=by
  intro σ k j b c hne;funext i;unfold updσ
  by_cases e1:i=k<;>by_cases e2:i=j<;>simp_all
 cases u1 with
 | none=>cases u2 with
  | none=>exact hf σ
  | some kb=>obtain ⟨k,b⟩:=kb;simp only [effσ];rw [hu _ _ _ _ (h2 k b rfl),hf]
 | some kb=>
  obtain ⟨k,b⟩:=kb
  cases u2 with
  | none=>simp only [effσ];rw [hu _ _ _ _ (h1 k b rfl),hf]
  | some jb=>
   obtain ⟨j,c⟩:=jb
   have hne:k≠j:=fun e=>h12 k b c rfl (by rw [e])
   simp only [effσ]
   rw [hu _ _ _ _ (h1 k b rfl),hu _ _ _ _ (h2 j c rfl),hf,huu _ _ _ _ _ hne]
def compat (mu:Nat→Bool) (ops:Array Oper) (x y:Oper):Bool:=
 x.apart ops y && !isApp mu x.op && !isApp mu y.op && (isA x.op || isA y.op || (!isStore x.op && !isStore y.op))
theorem putτ_apart {τ:Nat→Option SV} {dst:Option Tmp} {v:SV} {t:Nat} (h:∀d,dst=some d→t≠d):putτ τ dst v t=τ t:=by
 cases dst with
 | none=>rfl
 | some d=>simp only [putτ,h d rfl,if_false]
theorem commute {e i:Nat} {x y:Oper} (hx:ops[e]?=some x) (hy:ops[i]?=some y) (hc:compat E.mu ops x y=true)
  (nx:isNew x.op=true→∀d,x.dst=some d→¬Ment s.τ d) (ny:isNew y.op=true→∀d,y.dst=some d→¬Ment s.τ d)
  (h1:StepI E ops e s s1) (h2:StepI E ops i s1 s2):∃s3,StepI E ops i s s3∧StepI E ops e s3 s2:=by
 simp only [compat,Bool.and_eq_true,Bool.not_eq_true',Bool.or_eq_true] at hc
 obtain ⟨⟨⟨hap,hxa⟩,hya⟩,hcls⟩:=hc
 obtain ⟨a1,a2,a3⟩:=Oper.apart_spec hap
 obtain ⟨v1,f1,u1,d1,rfl⟩:=doesI_of_step hx hxa h1
 obtain ⟨v2,f2,u2,d2,rfl⟩:=doesI_of_step hy hya h2
 have hA:∀{o:Oper} {s:PS} {v:SV} {fz:List Nat} {u:Option (Nat × Bk)},isA o.op=true→DoesI E ops o s v fz u→fz=[]∧u=none:=by
  intro o s v fz u hA h
  have key:Does E o s v fz u→fz=[]∧u=none:=by
   rintro (⟨_,_,h1,h2⟩ | ⟨h0,_⟩)
   ·exact ⟨h1,h2⟩
   ·rw [hA] at h0;cases h0
  unfold DoesI at h
  split at h
  ·exact key h
  ·obtain ⟨b,_,h⟩:=h
   split at h
   ·exact key h
   ·exact h.2
 have opx:∀{o:Oper} {τ:Nat→Option SV} {dst:Option Tmp} {v:SV},(∀d,dst=some d→d∉o.looksAt ops)→∀z∈o.op.operands,opSV E (putτ τ dst v) z=opSV E τ z:=by
  intro o τ dst v h z hz
  cases z with
  | tmp t=>exact putτ_apart (fun d hd e=>h d hd (by rw [←e];exact List.mem_append_left _ (List.mem_filterMap.2 ⟨.tmp t,by simpa using hz,rfl⟩)))
  | _=>rfl
 have d2':DoesI E ops y s v2 f2 u2:=by
  refine does_transfer d2 (fun t ht=>(putτ_apart (fun d hd e=>a1 d hd (by rw [←e];exact ht))).symm) ?_
  rcases hcls with (hcls | hcls) | ⟨hsx,hsy⟩
  ·obtain ⟨rfl,rfl⟩:=hA hcls d1
   exact .inr (.inl (effσ_nil _).symm)
  ·exact .inl hcls
  ·refine .inr (.inr ⟨(fun hh=>by rw [hsy] at hh;cases hh),fun k ⟨z,hz,sv,hsv,hk⟩=>?_⟩)
   simp only [leaves] at hsv
   rw [opx a1 z hz] at hsv
   refine (effσ_at fun b hu=>?_).symm
   subst hu
   obtain ⟨hn,hd⟩:=does_new d1 hsx
   exact nx hn k hd (opSV_key hsv hk)
 refine ⟨leaves s y v2 f2 u2,stepI_of_does hy d2',?_⟩
 have d1':DoesI E ops x (leaves s y v2 f2 u2) v1 f1 u1:=by
  refine does_transfer d1 (fun t ht=>putτ_apart (fun d hd e=>a3 d hd (by rw [←e];exact ht))) ?_
  rcases hcls with (hcls | hcls) | ⟨hsx,hsy⟩
  ·exact .inl hcls
  ·obtain ⟨rfl,rfl⟩:=hA hcls d2
   exact .inr (.inl (effσ_nil _))
  ·refine .inr (.inr ⟨(fun hh=>by rw [hsx] at hh;cases hh),fun k ⟨z,hz,sv,hsv,hk⟩=>effσ_at fun b hu=>?_⟩)
   subst hu
   obtain ⟨hn,hd⟩:=does_new d2' hsy
   exact ny hn k hd (opSV_key hsv hk)
 have he:leaves (leaves s x v1 f1 u1) y v2 f2 u2=leaves (leaves s y v2 f2 u2) x v1 f1 u1:=by
  unfold leaves
  simp only
  rw [putτ_comm a2]
  congr 1
  rcases hcls with (hcls | hcls) | ⟨hsx,hsy⟩
  ·obtain ⟨rfl,rfl⟩:=hA hcls d1
   rw [effσ_nil,effσ_nil]
  ·obtain ⟨rfl,rfl⟩:=hA hcls d2
   rw [effσ_nil,effσ_nil]
  ·refine effσ_comm (fun k b b' e1 e2=>?_) (fun k b e1 hk=>?_) (fun k b e2 hk=>?_)
   ·subst e1;subst e2
    exact a2 k (does_new d1 hsx).2 (does_new d2' hsy).2
   ·subst e1
    obtain ⟨hn,hd⟩:=does_new d1 hsx
    exact nx hn k hd (does_fz d2' k hk)
   ·subst e2
    obtain ⟨hn,hd⟩:=does_new d2' hsy
    exact ny hn k hd (does_fz d1 k hk)
 rw [he]
 exact stepI_of_does hx d1'
open Classical in
noncomputable def restr (op:Op) (τ:Nat→Option SV):Nat→Option SV:=fun t=>if Operand.tmp t∈op.operands then τ t else none
theorem opSV_restr {op:Op} {τ:Nat→Option SV} {x:Operand} (hx:x∈op.operands):opSV E (restr op τ) x=opSV E τ x:=by
 cases x with
 | tmp t=>simp only [opSV,restr,hx,if_true]
 | _=>rfl
theorem ment_restr {op:Op} {τ:Nat→Option SV} {k:Nat} (h:Ment (restr op τ) k):∃t u,Operand.tmp t∈op.operands∧τ t=some u∧u.key=some k:=by
 obtain ⟨t,u,hu,hk⟩:=h
 simp only [restr] at hu
 split at hu
 ·exact ⟨t,u,by assumption,hu,hk⟩
 ·cases hu
def OMent (op:Op) (τ:Nat→Option SV) (k:Nat):Prop:=∃t u,Operand.tmp t∈op.operands∧τ t=some u∧u.key=some k
theorem stepA_okey {op:Op} {τ:Nat→Option SV} {v:SV} {k:Nat} (h:stepA E op (opSV E τ)=some v) (hk:v.key=some k):OMent op τ k:=
 ment_restr (stepA_key (E:=E) (by rw [stepA_congr (fun x hx=>opSV_restr hx)];exact h) hk)
theorem stepR_okey {op:Op} {τ:Nat→Option SV} {σ:Nat→Option (Bk × Bool)} {out:Out} {fz:List Nat} (h:stepR E op (res E τ σ)=some (out,fz)) :
  (∀k∈fz,OMent op τ k)∧(∀v k,out = .val v→v.key=some k→OMent op τ k):=by
 have h':stepR E op (res E (restr op τ) σ)=some (out,fz):=by
  rw [stepR_congr (fun x hx=>show res E (restr op τ) σ x=res E τ σ x by unfold res;rw [opSV_restr hx])]
  exact h
 obtain ⟨h1,h2,_⟩:=stepR_key h'
 exact ⟨fun k hk=>ment_restr (h1 k hk),fun v k e hk=>ment_restr (h2 v k e hk)⟩
theorem does_ofz {o:Oper} {v:SV} {fz:List Nat} {u:Option (Nat × Bk)} (h:DoesI E ops o s v fz u):∀k∈fz,OMent o.op s.τ k:=by
 have key:Does E o s v fz u→∀k∈fz,OMent o.op s.τ k:=by
  rintro (⟨_,_,rfl,_⟩ | ⟨_,out,hv,_⟩)
  ·intro k hk;cases hk
  ·exact (stepR_okey hv).1
 unfold DoesI at h
 split at h
 ·exact key h
 ·obtain ⟨b,_,h⟩:=h
  split at h
  ·exact key h
  ·rw [h.2.1];intro k hk;cases hk
theorem does_okey {o:Oper} {v:SV} {fz:List Nat} {u:Option (Nat × Bk)} {k:Nat} (h:DoesI E ops o s v fz u) (hk:v.key=some k):OMent o.op s.τ k∨(isNew o.op=true∧o.dst=some k):=by
 have key:Does E o s v fz u→OMent o.op s.τ k∨(isNew o.op=true∧o.dst=some k):=by
  rintro (⟨_,hv,_,_⟩ | ⟨_,out,hv,hd⟩)
  ·exact .inl (stepA_okey hv hk)
  ·cases out with
   | val v'=>obtain ⟨rfl,_⟩:=hd;exact .inl ((stepR_okey hv).2 _ _ rfl hk)
   | new b=>
    obtain ⟨d,hdd,rfl,_⟩:=hd
    have:d=k:=by cases b<;>simpa [newSV,SV.key] using hk
    exact .inr ⟨(stepR_key hv).2.2.1 ⟨_,rfl⟩,by rw [hdd,this]⟩
   | st j b=>obtain ⟨_,_,rfl,_⟩:=hd;cases hk
   | app j b=>exact hd.elim
   | inl f as=>exact hd.elim
   | call f args=>obtain ⟨r,_,rfl,_⟩:=hd;cases hk
 unfold DoesI at h
 split at h
 ·exact key h
 ·obtain ⟨b,_,h⟩:=h
  split at h
  ·exact key h
  ·rw [h.1] at hk;cases hk
def stAddr:Op→Option Nat
 | .store _ (.tmp a) _=>some a
 | _=>none
theorem res_key {τ:Nat→Option SV} {σ:Nat→Option (Bk × Bool)} {x:Operand} {k o:Nat} {b:Bk} (h:res E τ σ x=some (.ptr k o b)):∃y,opSV E τ x=some y∧y.key=some k:=by
 unfold res at h
 cases hv:opSV E τ x with
 | none=>rw [hv] at h;cases h
 | some y=>
  rw [hv] at h
  simp only [Option.bind_some] at h
  cases y<;>simp only [resSV,Option.map_eq_some_iff,reduceCtorEq,Option.some.injEq] at h
  ·obtain ⟨_,_,e⟩:=h;cases e
  ·obtain ⟨_,_,e⟩:=h;cases e;exact ⟨_,rfl,rfl⟩
  ·obtain ⟨_,_,e⟩:=h;cases e
theorem does_upd {o:Oper} {v:SV} {fz:List Nat} {k:Nat} {b:Bk} (h:DoesI E ops o s v fz (some (k,b))) :
  (isNew o.op=true∧o.dst=some k)∨(isStore o.op=true∧∃t x y sv,o.op = .store t x y∧opSV E s.τ x=some sv∧sv.key=some k):=by
 have key:Does E o s v fz (some (k,b))→(isNew o.op=true∧o.dst=some k)∨(isStore o.op=true∧∃t x y sv,o.op = .store t x y∧opSV E s.τ x=some sv∧sv.key=some k):=by
  rintro (⟨_,_,_,hu⟩ | ⟨_,out,hv,hd⟩)
  ·cases hu
  ·cases out with
   | val v'=>cases hd.2
   | new b'=>obtain ⟨d,hdd,_,hu⟩:=hd;cases hu;exact .inl ⟨(stepR_key hv).2.2.1 ⟨_,rfl⟩,hdd⟩
   | st k' b'=>
    have hst:=(stepR_key hv).2.2.2.1 ⟨_,_,rfl⟩
    have hu:=hd.2.2.2
    cases hu
    refine .inr ⟨hst,?_⟩
    cases hop:o.op<;>rw [hop] at hst hv<;>simp only [isStore,Bool.false_eq_true] at hst
    rename_i t x y
    simp only [stepR] at hv
    split at hv
    ·rename_i k2 off b2 r hx hy
     have hk2:k2=k:=by
      split at hv
      ·split at hv
       ·split at hv
        ·cases hv
        ·simp only [Option.some.injEq,Prod.mk.injEq,Out.st.injEq] at hv;exact hv.1.1
       ·cases hv
      ·cases hv
     subst hk2
     obtain ⟨sv,h1,h2⟩:=res_key hx
     exact ⟨t,x,y,sv,rfl,h1,h2⟩
    ·cases hv
   | app k b=>exact hd.elim
   | inl f as=>exact hd.elim
   | call f args=>obtain ⟨r,_,_,hu⟩:=hd;cases hu
 unfold DoesI at h
 split at h
 ·exact key h
 ·obtain ⟨b,_,h⟩:=h
  split at h
  ·exact key h
  ·cases h.2.2
def famA:List (Nat × List Nat)→Nat→Option (List Nat)
 | [],_=>none
 | (t',l)::A,t=>if t=t' then some l else famA A t
def opFam (A:List (Nat × List Nat)):Operand→Option (List Nat)
 | .tmp t=>famA A t
 | _=>some []
def Inv (A:List (Nat × List Nat)) (τ:Nat→Option SV):Prop:=∀t l,famA A t=some l→∀u k,τ t=some u→u.key=some k→k∈l
def famStep (mu:Nat→Bool) (A:List (Nat × List Nat)) (o:Oper):Bool:=
 !isApp mu o.op && match o.dst with
 | none=>true
 | some d=>match famA A d with
  | none=>true
  | some l=>(o.op.operands.toList.all fun x=>match opFam A x with
   | some lx=>lx.all fun k=>l.contains k
   | none=>false) && (!isNew o.op || l.contains d)
theorem omem_fam {A:List (Nat × List Nat)} {op:Op} {τ:Nat→Option SV} {k:Nat} (hI:Inv A τ) (h:OMent op τ k):∃x∈op.operands,∀l,opFam A x=some l→k∈l:=by
 obtain ⟨t,u,hx,hu,hk⟩:=h
 exact ⟨.tmp t,hx,fun l hl=>hI t l hl u k hu hk⟩
theorem inv_step {A:List (Nat × List Nat)} {i:Nat} {o:Oper} (ho:ops[i]?=some o) (hf:famStep E.mu A o=true) (hI:Inv A s.τ) (h:StepI E ops i s s'):Inv A s'.τ:=by
 simp only [famStep,Bool.and_eq_true,Bool.not_eq_true'] at hf
 obtain ⟨happ,hf⟩:=hf
 obtain ⟨v,fz,u,hd,rfl⟩:=doesI_of_step ho happ h
 intro t l hl w k hw hk
 simp only [leaves] at hw
 cases hdst:o.dst with
 | none=>rw [hdst] at hw;exact hI t l hl w k hw hk
 | some d=>
  rw [hdst] at hw hf
  simp only [putτ] at hw
  split at hw
  ·rename_i e
   subst e
   cases hw
   simp only [hl,Bool.and_eq_true,List.all_eq_true] at hf
   rcases does_okey hd hk with h1 | ⟨h1,h2⟩
   ·obtain ⟨x,hx,hxl⟩:=omem_fam hI h1
    have h3:=hf.1 x (by simpa using hx)
    cases hxf:opFam A x with
    | none=>rw [hxf] at h3;cases h3
    | some lx=>
     rw [hxf] at h3
     have h4:=List.all_eq_true.1 h3 k (hxl lx hxf)
     simpa using h4
   ·have h3:=hf.2
    rw [hdst] at h2
    cases h2
    rw [h1] at h3
    simpa using h3
  ·exact hI t l hl w k hw hk
def sepO (A:List (Nat × List Nat)) (x y:Oper):Bool:=
 !isStore x.op || match stAddr x.op with
 | some a=>match famA A a with
  | some la=>y.op.operands.toList.all fun z=>match opFam A z with
   | some lz=>la.all fun k=>!lz.contains k
   | none=>false
  | none=>false
 | none=>false
theorem sepO_spec {A:List (Nat × List Nat)} {x y:Oper} (h:sepO A x y=true) (hI:Inv A s.τ) {t:TypeId} {p q:Operand} {sv:SV} {k:Nat} (hop:x.op = .store t p q) (hp:opSV E s.τ p=some sv) (hk:sv.key=some k) (hm:OMent y.op s.τ k):False:=by
 unfold sepO at h
 rw [hop] at h
 simp only [isStore,Bool.not_true,Bool.false_or] at h
 cases p with
 | tmp a=>
  simp only [stAddr] at h
  cases ha:famA A a with
  | none=>rw [ha] at h;cases h
  | some la=>
   rw [ha] at h
   have hka:=hI a la ha sv k hp hk
   obtain ⟨z,hz,hzl⟩:=omem_fam hI hm
   have h1:=List.all_eq_true.1 h z (by simpa using hz)
   cases hzf:opFam A z with
   | none=>rw [hzf] at h1;cases h1
   | some lz=>
    rw [hzf] at h1
    have h2:=List.all_eq_true.1 h1 k hka
    have h3:=hzl lz hzf
    simp [h3] at h2
 | const _=>simp only [stAddr] at h;cases h
 | global _=>simp only [stAddr] at h;cases h
 | func _=>simp only [stAddr] at h;cases h
def compatO (A:List (Nat × List Nat)) (mu:Nat→Bool) (ops:Array Oper) (x y:Oper):Bool:=
 x.apart ops y && !isApp mu x.op && !isApp mu y.op && sepO A x y && sepO A y x
theorem ment_of_o {op:Op} {τ:Nat→Option SV} {k:Nat} (h:OMent op τ k):Ment τ k:=by
 obtain ⟨t,u,_,h1,h2⟩:=h;exact ⟨t,u,h1,h2⟩
theorem omem_of_op {op:Op} {z:Operand} {sv:SV} {k:Nat} (hz:z∈op.operands) (hsv:opSV E s.τ z=some sv) (hk:sv.key=some k):OMent op s.τ k:=by
 cases z with
 | tmp t=>exact ⟨t,sv,hz,hsv,hk⟩
 | const c=>
  obtain ⟨t,u,hu,_⟩:=opSV_key (τ:=fun _=>none) (E:=E) (x := .const c) (v:=sv) (k:=k) (show opSV E (fun _=>none) (.const c)=some sv from hsv) hk
  cases hu
 | global c=>
  obtain ⟨t,u,hu,_⟩:=opSV_key (τ:=fun _=>none) (E:=E) (x := .global c) (v:=sv) (k:=k) (show opSV E (fun _=>none) (.global c)=some sv from hsv) hk
  cases hu
 | func c=>
  obtain ⟨t,u,hu,_⟩:=opSV_key (τ:=fun _=>none) (E:=E) (x := .func c) (v:=sv) (k:=k) (show opSV E (fun _=>none) (.func c)=some sv from hsv) hk
  cases hu
theorem mem_store_addr {o:Oper} {t:TypeId} {p q:Operand} (h:o.op = .store t p q):p∈o.op.operands:=by rw [h];simp [Op.operands]
theorem commute2 {A:List (Nat × List Nat)} {e i:Nat} {x y:Oper} (hx:ops[e]?=some x) (hy:ops[i]?=some y) (hc:compatO A E.mu ops x y=true) (hI:Inv A s.τ)
  (nx:isNew x.op=true→∀d,x.dst=some d→¬Ment s.τ d) (ny:isNew y.op=true→∀d,y.dst=some d→¬Ment s.τ d)
  (h1:StepI E ops e s s1) (h2:StepI E ops i s1 s2):∃s3,StepI E ops i s s3∧StepI E ops e s3 s2:=by
 simp only [compatO,Bool.and_eq_true,Bool.not_eq_true'] at hc
 obtain ⟨⟨⟨⟨hap,hxa⟩,hya⟩,hsx⟩,hsy⟩:=hc
 obtain ⟨a1,a2,a3⟩:=Oper.apart_spec hap
 obtain ⟨v1,f1,u1,d1,rfl⟩:=doesI_of_step hx hxa h1
 obtain ⟨v2,f2,u2,d2,rfl⟩:=doesI_of_step hy hya h2
 have opx:∀{o:Oper} {τ:Nat→Option SV} {dst:Option Tmp} {v:SV},(∀d,dst=some d→d∉o.looksAt ops)→∀z∈o.op.operands,opSV E (putτ τ dst v) z=opSV E τ z:=by
  intro o τ dst v h z hz
  cases z with
  | tmp t=>exact putτ_apart (fun d hd e=>h d hd (by rw [←e];exact List.mem_append_left _ (List.mem_filterMap.2 ⟨.tmp t,by simpa using hz,rfl⟩)))
  | _=>rfl
 have nox:∀k b,u1=some (k,b)→¬OMent y.op s.τ k:=by
  intro k b hu hm
  subst hu
  rcases does_upd d1 with ⟨hn,hd⟩ | ⟨_,t,p,q,sv,hop,hp,hk⟩
  ·exact nx hn k hd (ment_of_o hm)
  ·exact sepO_spec hsx hI hop hp hk hm
 have om2:∀{k},OMent y.op (leaves s x v1 f1 u1).τ k→OMent y.op s.τ k:=by
  rintro k ⟨t,u,ht,hu,hk⟩
  have:=opx (τ:=s.τ) (dst:=x.dst) (v:=v1) a1 (.tmp t) ht
  simp only [opSV] at this
  exact ⟨t,u,ht,by simp only [leaves] at hu;rw [this] at hu;exact hu,hk⟩
 have d2':DoesI E ops y s v2 f2 u2:=by
  refine does_transfer d2 (fun t ht=>(putτ_apart (fun d hd e=>a1 d hd (by rw [←e];exact ht))).symm) (.inr (.inr ⟨fun hst k b hu=>?_,fun k ⟨z,hz,sv,hsv,hk⟩=>?_⟩))
  ·subst hu
   rcases does_upd d2 with ⟨hn,hd⟩ | ⟨_,t,p,q,sv,hop,hp,hk⟩
   ·cases hyo:y.op<;>rw [hyo] at hst hn<;>simp [isStore,isNew] at hst hn
   ·have hpm:=mem_store_addr hop
    simp only [leaves] at hp
    rw [opx a1 p hpm] at hp
    have hom:=omem_of_op hpm hp hk
    have hnf:k∉f1:=fun hkf=>sepO_spec hsy hI hop hp hk (does_ofz d1 k hkf)
    simp only [leaves]
    cases u1 with
    | none=>simp only [effσ,frzσ,hnf,if_false]
    | some kb=>
     obtain ⟨j,c⟩:=kb
     have hne:k≠j:=fun e=>nox j c rfl (by rw [←e];exact hom)
     simp only [effσ,updσ,hne,if_false,frzσ,hnf]
  ·simp only [leaves] at hsv
   rw [opx a1 z hz] at hsv
   exact (effσ_at fun b hu=>nox k b hu (omem_of_op hz hsv hk)).symm
 have noy:∀k b,u2=some (k,b)→¬OMent x.op s.τ k:=by
  intro k b hu hm
  subst hu
  rcases does_upd d2' with ⟨hn,hd⟩ | ⟨_,t,p,q,sv,hop,hp,hk⟩
  ·exact ny hn k hd (ment_of_o hm)
  ·exact sepO_spec hsy hI hop hp hk hm
 refine ⟨leaves s y v2 f2 u2,stepI_of_does hy d2',?_⟩
 have d1':DoesI E ops x (leaves s y v2 f2 u2) v1 f1 u1:=by
  refine does_transfer d1 (fun t ht=>putτ_apart (fun d hd e=>a3 d hd (by rw [←e];exact ht))) (.inr (.inr ⟨fun hst k b hu=>?_,fun k ⟨z,hz,sv,hsv,hk⟩=>effσ_at fun b hu=>noy k b hu (omem_of_op hz hsv hk)⟩))
  subst hu
  rcases does_upd d1 with ⟨hn,hd⟩ | ⟨_,t,p,q,sv,hop,hp,hk⟩
  ·cases hxo:x.op<;>rw [hxo] at hst hn<;>simp [isStore,isNew] at hst hn
  ·have hom:=omem_of_op (mem_store_addr hop) hp hk
   have hnf:k∉f2:=fun hkf=>sepO_spec hsx hI hop hp hk (does_ofz d2' k hkf)
   simp only [leaves]
   cases u2 with
   | none=>simp only [effσ,frzσ,hnf,if_false]
   | some kb=>
    obtain ⟨j,c⟩:=kb
    have hne:k≠j:=fun e=>noy j c rfl (by rw [←e];exact hom)
    simp only [effσ,updσ,hne,if_false,frzσ,hnf]
 have he:leaves (leaves s x v1 f1 u1) y v2 f2 u2=leaves (leaves s y v2 f2 u2) x v1 f1 u1:=by
  unfold leaves
  simp only
  rw [putτ_comm a2]
  congr 1
  refine effσ_comm (fun k b b' e1 e2=>?_) (fun k b e1 hk=>nox k b e1 (does_ofz d2' k hk)) (fun k b e2 hk=>noy k b e2 (does_ofz d1 k hk))
  subst e1;subst e2
  rcases does_upd d1 with ⟨hn1,hd1⟩ | ⟨_,t,p,q,sv,hop,hp,hk⟩
  ·rcases does_upd d2' with ⟨hn2,hd2⟩ | ⟨_,t,p,q,sv,hop,hp,hk⟩
   ·exact a2 k hd1 hd2
   ·exact nx hn1 k hd1 (ment_of_o (omem_of_op (mem_store_addr hop) hp hk))
  ·exact noy k b' rfl (omem_of_op (mem_store_addr hop) hp hk)
 rw [he]
 exact stepI_of_does hx d1'
def isInl (mu:Nat→Bool):Op→Bool
 | .call c=>match c.callee with
  | .value (.func f)=>mu f
  | _=>false
 | _=>false
def compat3 (mu:Nat→Bool) (ops:Array Oper) (x y:Oper):Bool:=
 x.apart ops y && ((isA x.op && isInl mu y.op && y.guard.isNone) || (isInl mu x.op && x.guard.isNone && isA y.op))
theorem app_of_inl {mu:Nat→Bool} {op:Op} (h:isInl mu op=true):isApp mu op=true:=by
 cases op<;>simp only [isInl,reduceCtorEq,Bool.false_eq_true] at h
 case call c=>
  simp only [isApp]
  cases hc:c.callee with
  | builtin b=>rw [hc] at h;cases h
  | value f=>
   rw [hc] at h
   cases f<;>simp_all
  | _=>rw [hc] at h;cases h
theorem notA_of_inl {mu:Nat→Bool} {op:Op} (h:isInl mu op=true):isA op=false:=by
 cases op<;>simp_all [isInl,isA]
theorem inl_out {op:Op} {ρ:Operand→Option RV} {out:Out} {fz:List Nat} (hi:isInl E.mu op=true) (hf:∀g,ρ (.func g)=some (.val (.clo g []))) (h:stepR E op ρ=some (out,fz)):∃f args,out = .inl f args∧fz=[]:=by
 cases op<;>simp only [isInl,reduceCtorEq,Bool.false_eq_true] at hi
 case call c=>
  cases hc:c.callee with
  | builtin b=>rw [hc] at hi;cases hi
  | value f=>
   rw [hc] at hi
   cases f with
   | func g=>
    simp only at hi
    simp only [stepR,hc,hf g,hi,if_true] at h
    split at h
    ·cases h;exact ⟨_,_,rfl,rfl⟩
    ·cases h
   | _=>cases hi
  | _=>rw [hc] at hi;cases hi
theorem killτ_id {τ:Nat→Option SV} {ks:List Nat} (h:∀t u,τ t=some u→∀k∈ks,u.key≠some k):killτ τ ks=τ:=by
 funext t
 unfold killτ
 cases hv:τ t with
 | none=>rfl
 | some v=>
  simp only
  cases hk:v.key with
  | none=>rfl
  | some k=>simp only;rw [if_neg (fun hm=>h t v hv k hm hk)]
theorem inl_step {o:Oper} (hi:isInl E.mu o.op=true) (h:StepP E o s s'):∃f args,stepR E o.op (res E s.τ s.σ)=some (.inl f args,[])∧Appl E s o.dst [] (.inl f args) s':=by
 unfold StepP at h
 rw [if_neg (by rw [notA_of_inl hi];decide)] at h
 obtain ⟨out,fz,hv,ha⟩:=h
 obtain ⟨f,args,rfl,rfl⟩:=inl_out hi (fun g=>rfl) hv
 exact ⟨f,args,hv,ha⟩
theorem step_inl {o:Oper} (hi:isInl E.mu o.op=true) {f:FuncId} {args:List SV} (h:stepR E o.op (res E s.τ s.σ)=some (.inl f args,[])) (ha:Appl E s o.dst [] (.inl f args) s'):StepP E o s s':=by
 unfold StepP
 rw [if_neg (by rw [notA_of_inl hi];decide)]
 exact ⟨_,_,h,ha⟩
theorem doesA_key {o:Oper} {v:SV} {fz:List Nat} {u:Option (Nat × Bk)} (hA:isA o.op=true) (h:DoesI E ops o s v fz u):fz=[]∧u=none∧∀k,v.key=some k→Ment s.τ k:=by
 have key:Does E o s v fz u→fz=[]∧u=none∧∀k,v.key=some k→Ment s.τ k:=by
  rintro (⟨_,h0,h1,h2⟩ | ⟨h0,_⟩)
  ·exact ⟨h1,h2,fun k hk=>stepA_key h0 hk⟩
  ·rw [hA] at h0;cases h0
 unfold DoesI at h
 split at h
 ·exact key h
 ·obtain ⟨b,_,h⟩:=h
  split at h
  ·exact key h
  ·obtain ⟨rfl,h1,h2⟩:=h
   exact ⟨h1,h2,fun k hk=>by cases hk⟩
theorem commute3 {e i:Nat} {x y:Oper} (hx:ops[e]?=some x) (hy:ops[i]?=some y) (hc:compat3 E.mu ops x y=true)
  (nx:isInl E.mu x.op=true→∀d,x.dst=some d→¬Ment s.τ d) (ny:isInl E.mu y.op=true→∀d,y.dst=some d→¬Ment s.τ d)
  (h1:StepI E ops e s s1) (h2:StepI E ops i s1 s2):∃s3,StepI E ops i s s3∧StepI E ops e s3 s2:=by
 simp only [compat3,Bool.and_eq_true,Bool.or_eq_true,Option.isNone_iff_eq_none] at hc
 obtain ⟨hap,hcls⟩:=hc
 obtain ⟨a1,a2,a3⟩:=Oper.apart_spec hap
 have opx:∀{o:Oper} {τ:Nat→Option SV} {dst:Option Tmp} {v:SV},(∀d,dst=some d→d∉o.looksAt ops)→∀z∈o.op.operands,opSV E (putτ τ dst v) z=opSV E τ z:=by
  intro o τ dst v h z hz
  cases z with
  | tmp t=>exact putτ_apart (fun d hd e=>h d hd (by rw [←e];exact List.mem_append_left _ (List.mem_filterMap.2 ⟨.tmp t,by simpa using hz,rfl⟩)))
  | _=>rfl
 have resx:∀{o:Oper} {τ:Nat→Option SV} {σ:Nat→Option (Bk × Bool)} {dst:Option Tmp} {v:SV},(∀d,dst=some d→d∉o.looksAt ops)→stepR E o.op (res E (putτ τ dst v) σ)=stepR E o.op (res E τ σ):=by
  intro o τ σ dst v h
  exact stepR_congr (fun z hz=>by unfold res;rw [opx h z hz])
 have killput:∀{τ:Nat→Option SV} {dst dx:Option Tmp} {v:SV},(∀d,dst=some d→¬Ment τ d)→(∀k,v.key=some k→Ment τ k)→killτ (putτ τ dx v) dst.toList=putτ τ dx v:=by
  intro τ dst dx v h hv
  refine killτ_id (fun t u hu k hk hkey=>?_)
  have hkd:dst=some k:=by cases dst<;>simp_all
  cases dx with
  | none=>exact h k hkd ⟨t,u,hu,hkey⟩
  | some d=>
   simp only [putτ] at hu
   split at hu
   ·cases hu;exact h k hkd (hv k hkey)
   ·exact h k hkd ⟨t,u,hu,hkey⟩
 have killid:∀{τ:Nat→Option SV} {dst:Option Tmp},(∀d,dst=some d→¬Ment τ d)→killτ τ dst.toList=τ:=by
  intro τ dst h
  refine killτ_id (fun t u hu k hk hkey=>?_)
  have hkd:dst=some k:=by cases dst<;>simp_all
  exact h k hkd ⟨t,u,hu,hkey⟩
 rcases hcls with ⟨⟨hxA,hyI⟩,hyg⟩ | ⟨⟨hxI,hxg⟩,hyA⟩
 ·
  have hxapp:isApp E.mu x.op=false:=by
   cases hh:x.op<;>simp_all [isA,isApp]
  obtain ⟨v,f,u,d1,rfl⟩:=doesI_of_step hx hxapp h1
  obtain ⟨rfl,rfl,hvk⟩:=doesA_key hxA d1
  obtain ⟨o,ho,h2⟩:=h2
  rw [hy] at ho;cases ho
  rw [hyg] at h2
  simp only at h2
  obtain ⟨g,args,hr,ha⟩:=inl_step hyI h2
  have hny:=ny hyI
  simp only [leaves,effσ_nil] at hr ha
  rw [resx a1] at hr
  obtain ⟨ks,cargs,bs,bs',r,p1,p2,p3,p4,p5,p6,p7,p8,rfl⟩:=ha
  simp only at p6
  rw [killput hny hvk]
  refine ⟨⟨putτ (killτ s.τ y.dst.toList) y.dst (ren (ks++y.dst.toList) r),ovr (eraseσ s.σ y.dst) ((ks++y.dst.toList).zip (bs'.map fun b=>(b,false)))⟩,⟨y,hy,?_⟩,?_⟩
  ·rw [hyg]
   exact step_inl hyI hr ⟨ks,cargs,bs,bs',r,p1,p2,p3,p4,p5,p6,p7,p8,rfl⟩
  ·rw [killid hny]
   have d1':DoesI E ops x ⟨putτ s.τ y.dst (ren (ks++y.dst.toList) r),ovr (eraseσ s.σ y.dst) ((ks++y.dst.toList).zip (bs'.map fun b=>(b,false)))⟩ v [] none:=
    does_transfer d1 (fun t ht=>putτ_apart (fun d hd e=>a3 d hd (by rw [←e];exact ht))) (.inl hxA)
   have:=stepI_of_does hx d1'
   simp only [leaves,effσ_nil] at this
   rw [putτ_comm a2]
   exact this
 ·
  have hyapp:isApp E.mu y.op=false:=by
   cases hh:y.op<;>simp_all [isA,isApp]
  obtain ⟨o,ho,h1⟩:=h1
  rw [hx] at ho;cases ho
  rw [hxg] at h1
  simp only at h1
  obtain ⟨g,args,hr,ha⟩:=inl_step hxI h1
  have hnx:=nx hxI
  obtain ⟨ks,cargs,bs,bs',r,p1,p2,p3,p4,p5,p6,p7,p8,rfl⟩:=ha
  rw [killid hnx] at h2
  obtain ⟨v,f,u,d2,rfl⟩:=doesI_of_step hy hyapp h2
  obtain ⟨rfl,rfl,-⟩:=doesA_key hyA d2
  have d2':DoesI E ops y s v [] none:=does_transfer d2 (fun t ht=>(putτ_apart (fun d hd e=>a1 d hd (by rw [←e];exact ht))).symm) (.inl hyA)
  obtain ⟨-,-,hvk⟩:=doesA_key hyA d2'
  refine ⟨leaves s y v [] none,stepI_of_does hy d2',⟨x,hx,?_⟩⟩
  rw [hxg]
  simp only [leaves,effσ_nil]
  refine step_inl hxI (f:=g) (args:=args) (by rw [resx a3];exact hr) ⟨ks,cargs,bs,bs',r,p1,p2,p3,p4,p5,p6,p7,p8,?_⟩
  simp only
  rw [killput hnx hvk,putτ_comm a2]
end
end PG
end
section
set_option linter.unusedVariables false
set_option linter.unusedSimpArgs false
namespace PG
open Go Go.RowKit
section
variable {E : PE} {N : Nat} {wk : Gh} {w0 : Fm} {Pr0 : Nat → Nat → Prop} {s s' s1 s2 : PS} {m : Nat → Value} {Pr : Nat → Nat → Prop} {a : Act} {w : World} {ops : Array Oper}
theorem putτ_ment {τ:Nat→Option SV} {dst:Option Tmp} {v:SV} {k:Nat} (h:Ment (putτ τ dst v) k):Ment τ k∨v.key=some k:=by
 obtain ⟨t,u,hu,hk⟩:=h
 cases dst with
 | none=>exact .inl ⟨t,u,hu,hk⟩
 | some d=>
  simp only [putτ] at hu
  split at hu
  ·cases hu;exact .inr hk
  ·exact .inl ⟨t,u,hu,hk⟩
theorem stepP_ment {o:Oper} {k:Nat} (h:StepP E o s s') (hm:Ment s'.τ k):Ment s.τ k∨((isNew o.op || isApp E.mu o.op)=true∧o.dst=some k):=by
 unfold StepP at h
 split at h
 ·obtain ⟨v,hv,rfl⟩:=h
  rcases putτ_ment hm with hm | hm
  ·exact .inl hm
  ·exact .inl (stepA_key hv hm)
 ·obtain ⟨out,fz,hv,ha⟩:=h
  cases out with
  | val v=>
   simp only [Appl] at ha;subst ha
   rcases putτ_ment hm with hm | hm
   ·exact .inl hm
   ·exact .inl ((stepR_key hv).2.1 v k rfl hm)
  | new b=>
   obtain ⟨d,hd,rfl⟩:=ha
   rcases putτ_ment hm with hm | hm
   ·exact .inl hm
   ·have hn:=(stepR_key hv).2.2.1 ⟨b,rfl⟩
    have:d=k:=by cases b<;>simpa [newSV,SV.key] using hm
    exact .inr ⟨by simp [hn],by rw [hd,this]⟩
  | st j b=>
   obtain ⟨_,_,rfl⟩:=ha
   rcases putτ_ment hm with hm | hm
   ·exact .inl hm
   ·cases hm
  | app j b=>
   obtain ⟨d,hd,_,rfl⟩:=ha
   rcases putτ_ment hm with hm | hm
   ·obtain ⟨t,u,hu,hk⟩:=hm
    simp only [killτ] at hu
    split at hu
    ·rename_i x hx
     split at hu
     ·split at hu
      ·cases hu;cases hk
      ·cases hu;exact .inl ⟨t,_,hx,hk⟩
     ·cases hu;exact .inl ⟨t,_,hx,hk⟩
    ·cases hu
   ·have ha:=(stepR_key hv).2.2.2.2.1 ⟨j,b,rfl⟩
    have:d=k:=by simpa [SV.key] using hm
    exact .inr ⟨by simp [ha],by rw [hd,this]⟩
  | inl f args=>
   have happ:=((stepR_key hv).2.2.2.2.2 ⟨f,args,rfl⟩).1
   obtain ⟨ks,cargs,bs,bs',r,hpc,-,-,-,hkl,-,hdk,hd0,rfl⟩:=ha
   rcases putτ_ment hm with hm | hm
   ·obtain ⟨t,u,hu,hk⟩:=hm
    simp only [killτ] at hu
    split at hu
    ·rename_i x hx
     split at hu
     ·split at hu
      ·cases hu;cases hk
      ·cases hu;exact .inl ⟨t,_,hx,hk⟩
     ·cases hu;exact .inl ⟨t,_,hx,hk⟩
    ·cases hu
   ·refine .inr ⟨by simp [happ],?_⟩
    have hrk:=hpc.2.2.1
    have hkey:∀j,r.key=some j→(ks++o.dst.toList).getD j 0=k:=fun j hj=>by
     cases r<;>simp only [SV.key,Option.some.injEq,reduceCtorEq] at hj
     all_goals subst hj;simpa [ren,SV.key] using hm
    cases hr:r.key with
    | none=>cases r<;>simp [SV.key,ren] at hr hm
    | some j=>
     obtain ⟨rfl,hlen⟩:=hrk j hr
     have e:=hkey _ hr
     cases hdst:o.dst with
     | none=>have:=hd0 hdst;omega
     | some d=>rw [hdst] at e;simp [←hkl] at e;rw [e]
  | call f args=>
   obtain ⟨r,_,rfl⟩:=ha
   rcases putτ_ment hm with hm | hm
   ·exact .inl hm
   ·cases hm
theorem stepI_ment {i k:Nat} (h:StepI E ops i s s') (hm:Ment s'.τ k):Ment s.τ k∨mk E.mu ops i=some k:=by
 obtain ⟨o,ho,h⟩:=h
 have key:StepP E o s s'→Ment s.τ k∨mk E.mu ops i=some k:=fun h=>by
  rcases stepP_ment h hm with h | ⟨h1,h2⟩
  ·exact .inl h
  ·exact .inr (by simp only [mk,ho,Option.bind_some,h1,if_true];exact h2)
 split at h
 ·exact key h
 ·obtain ⟨b,_,h⟩:=h
  split at h
  ·exact key h
  ·subst h
   rcases putτ_ment hm with hm | hm
   ·exact .inl hm
   ·cases hm
theorem mk_lt {i d:Nat} (h:mk E.mu ops i=some d):i<ops.size:=by
 unfold mk at h
 cases ho:ops[i]? with
 | none=>simp [ho] at h
 | some o=>exact (Array.getElem?_eq_some_iff.1 ho).1
theorem distinct_spec (h:distinct E.mu ops=true) {i j d:Nat} (hi:mk E.mu ops i=some d) (hj:mk E.mu ops j=some d):i=j:=by
 simp only [distinct,List.all_eq_true,List.mem_range,Bool.or_eq_true,beq_iff_eq,bne_iff_ne,ne_eq] at h
 rcases Nat.lt_trichotomy i j with hlt | he | hlt
 ·rcases h j (mk_lt hj) i hlt with e | e
  ·rw [hj] at e;cases e
  ·exact absurd (hj.trans hi.symm) e
 ·exact he
 ·rcases h i (mk_lt hi) j hlt with e | e
  ·rw [hi] at e;cases e
  ·exact absurd (hi.trans hj.symm) e
theorem nms_step (hdis:distinct E.mu ops=true) {i:Nat} {l:List Nat} (hN:NMs ops l s) (hi:i∉l) (h:StepI E ops i s s'):NMs ops l s':=by
 intro j hj o ho hn d hd t u hu hk
 rcases stepI_ment h ⟨t,u,hu,hk⟩ with ⟨t',u',hu',hk'⟩ | hmk
 ·exact hN j hj o ho hn d hd t' u' hu' hk'
 ·have:mk E.mu ops j=some d:=by simp only [mk,ho,Option.bind_some,hn,Bool.true_or,if_true];exact hd
  have:=distinct_spec hdis hmk this
  subst this
  exact hi hj
def NMi (mu:Nat→Bool) (ops:Array Oper) (l:List Nat) (s:PS):Prop:=
 ∀i∈l,∀o,ops[i]?=some o→isInl mu o.op=true→∀d,o.dst=some d→∀t u,s.τ t=some u→u.key≠some d
theorem nmi_step (hdis:distinct E.mu ops=true) {i:Nat} {l:List Nat} (hN:NMi E.mu ops l s) (hi:i∉l) (h:StepI E ops i s s'):NMi E.mu ops l s':=by
 intro j hj o ho hn d hd t u hu hk
 rcases stepI_ment h ⟨t,u,hu,hk⟩ with ⟨t',u',hu',hk'⟩ | hmk
 ·exact hN j hj o ho hn d hd t' u' hu' hk'
 ·have:mk E.mu ops j=some d:=by simp only [mk,ho,Option.bind_some,app_of_inl hn,Bool.or_true,if_true];exact hd
  have:=distinct_spec hdis hmk this
  subst this
  exact hi hj
theorem text_sound {r:Option Nat} (hN:dstsOk N ops=true) (hdis:distinct E.mu ops=true) {Q:Exit→Act→World→Prop}:∀(l:List Nat) {s:PS} {m:Nat→Value} {Pr:Nat→Nat→Prop} {a:Act} {w:World},l.Nodup →
  Trace E ops l s s'→NMs ops l s→Rel E N wk w0 Pr0 s m Pr a w→(∀m' Pr' a' w',Rel E N wk w0 Pr0 s' m' Pr' a' w'→Q .normal a' w')→wpOpsIn (RF r) 0 E.P ops Q l a w
 | [],s,m,Pr,a,w,_,ht,_,hr,hQ=>by
  simp only [Trace] at ht;subst ht
  exact hQ _ _ _ _ hr
 | i::l,s,m,Pr,a,w,hnd,ht,hn,hr,hQ=>by
  obtain ⟨s1,h1,ht⟩:=ht
  rw [wpOpsIn_cons]
  have hnd':=List.nodup_cons.1 hnd
  refine stepI_sound hN hr (fun j hj=>hn j (by simp only [List.mem_singleton] at hj;simp [hj])) h1 fun m' Pr' a' w' hr'=>?_
  exact text_sound hN hdis l hnd'.2 ht (nms_step hdis (fun j hj=>hn j (by simp [hj])) hnd'.1 h1) hr' hQ
def bnd (o:Oper) (p:Nat→Bool):Bool:=o.after.any fun e=>Region.binds .any e && p e.on
def edgesOk (ops:Array Oper):Bool:=ops.toList.zipIdx.all fun (o,i)=>o.after.all fun e=>!Region.binds .any e || decide (e.on<i)
def tabOk (ops:Array Oper) (T:List (List Nat)):Bool:=
 ops.toList.zipIdx.all fun (o,i)=>(T.getD i []).all fun e=>bnd o fun j=>decide (j<i) && (j == e || (T.getD j []).contains e)
def mkTab (ops:Array Oper):List (List Nat):=
 ops.toList.foldl (fun T o=>T++[(o.after.toList.foldl (fun l e=>if Region.binds .any e then (e.on::T.getD e.on []).foldl (fun l j=>if l.contains j then l else j::l) l else l) [])]) []
def drawOk (mu:Nat→Bool) (ops:Array Oper) (T:List (List Nat)):Bool:=
 edgesOk ops && tabOk ops T && (List.range ops.size).all fun i=>(List.range i).all fun e=>(T.getD i []).contains e ||
  match ops[e]?,ops[i]? with
  | some x,some y=>compat mu ops x y || compat3 mu ops x y
  | _,_=>true
def Listed (ops:Array Oper) (listed:Array Bool):Prop:=
 ∀j o,ops[j]?=some o→listed.getD j false=true→∀e∈o.after,Region.binds .any e=true→listed.getD e.on false=true
theorem anc_listed {T:List (List Nat)} (hT:tabOk ops T=true) {listed:Array Bool} (hl:Listed ops listed):∀(i:Nat) (o:Oper),ops[i]?=some o →
  (∀e∈o.after,Region.binds .any e=true→listed.getD e.on false=true)→∀e∈T.getD i [],listed.getD e false=true:=by
 intro i
 induction i using Nat.strongRecOn with
 | _ i ih=>
  intro o ho hall e he
  simp only [tabOk,List.all_eq_true] at hT
  have h1:=hT (o,i) (by
   rw [List.mem_zipIdx_iff_getElem?]
   simpa using ho)
  have h2:=h1 e he
  simp only [bnd,Array.any_eq_true'] at h2
  obtain ⟨ed,hed,h3⟩:=h2
  simp only [Bool.and_eq_true,decide_eq_true_eq,Bool.or_eq_true,beq_iff_eq] at h3
  obtain ⟨hb,hlt,h4⟩:=h3
  have hon:=hall ed hed hb
  rcases h4 with h4 | h4
  ·rw [←h4];exact hon
  ·have hlt':ed.on<ops.size:=Nat.lt_trans hlt (Array.getElem?_eq_some_iff.1 ho).1
   exact ih ed.on hlt _ (Array.getElem?_eq_getElem hlt') (hl ed.on _ (Array.getElem?_eq_getElem hlt') hon) e (by simpa using h4)
theorem trace_front {i:Nat} {y:Oper} (hy:ops[i]?=some y) (hdis:distinct E.mu ops=true):∀(L1 L2:List Nat) {s:PS},(L1++i::L2).Nodup→NMs ops (L1++i::L2) s→NMi E.mu ops (L1++i::L2) s →
  (∀e∈L1,∃x,ops[e]?=some x∧(compat E.mu ops x y || compat3 E.mu ops x y)=true)→Trace E ops (L1++i::L2) s s'→∃s1,StepI E ops i s s1∧Trace E ops (L1++L2) s1 s'
 | [],L2,s,_,_,_,_,ht=>ht
 | e::L1,L2,s,hnd,hn,hni,hc,ht=>by
  obtain ⟨sa,h1,ht⟩:=ht
  have hnd':=List.nodup_cons.1 hnd
  obtain ⟨sb,h2,ht2⟩:=trace_front hy hdis L1 L2 hnd'.2 (nms_step hdis (fun j hj=>hn j (by simp only [List.cons_append,List.mem_cons];exact .inr hj)) hnd'.1 h1)
   (nmi_step hdis (fun j hj=>hni j (by simp only [List.cons_append,List.mem_cons];exact .inr hj)) hnd'.1 h1) (fun e he=>hc e (by simp [he])) ht
  obtain ⟨x,hx,hcx⟩:=hc e (by simp)
  rcases Bool.or_eq_true _ _ ▸ hcx with hcx | hcx
  ·obtain ⟨s3,h3,h4⟩:=commute hx hy hcx (fun hne d hd hm=>by obtain ⟨t,u,hu,hk⟩:=hm;exact hn e (by simp) x hx hne d hd t u hu hk)
    (fun hne d hd hm=>by obtain ⟨t,u,hu,hk⟩:=hm;exact hn i (by simp) y hy hne d hd t u hu hk) h1 h2
   exact ⟨s3,h3,sb,h4,ht2⟩
  ·obtain ⟨s3,h3,h4⟩:=commute3 hx hy hcx (fun hne d hd hm=>by obtain ⟨t,u,hu,hk⟩:=hm;exact hni e (by simp) x hx hne d hd t u hu hk)
    (fun hne d hd hm=>by obtain ⟨t,u,hu,hk⟩:=hm;exact hni i (by simp) y hy hne d hd t u hu hk) h1 h2
   exact ⟨s3,h3,sb,h4,ht2⟩
theorem any_sound {r:Option Nat} (hN:dstsOk N ops=true) (hdis:distinct E.mu ops=true) {T:List (List Nat)} (hdr:drawOk E.mu ops T=true) {Q:Exit→Act→World→Prop}
  (hQ:∀m' Pr' a' w',Rel E N wk w0 Pr0 s' m' Pr' a' w'→Q .normal a' w'):∀(n:Nat) (L:List Nat) (listed:Array Bool) {s:PS} {m:Nat→Value} {Pr:Nat→Nat→Prop} {a:Act} {w:World},
   L.length=n→L.Pairwise (· < ·)→(∀i,i∈L↔i<ops.size∧listed.getD i true=false)→listed.size=ops.size→Listed ops listed →
   Trace E ops L s s'→NMs ops L s→NMi E.mu ops L s→Rel E N wk w0 Pr0 s m Pr a w→wpAnyIn (RF r) 0 E.P .any ops Q n listed a w:=by
 simp only [drawOk,Bool.and_eq_true] at hdr
 obtain ⟨⟨hedge,htab⟩,hcomp⟩:=hdr
 intro n
 induction n with
 | zero=>
  intro L listed s m Pr a w hlen hsort hmem hsz hlst ht hn hni hr
  have hL:L=[]:=List.eq_nil_of_length_eq_zero hlen
  subst hL
  simp only [Trace] at ht;subst ht
  refine ⟨?_,hQ _ _ _ _ hr⟩
  rw [List.eq_nil_iff_forall_not_mem]
  intro i hi
  have h1:=mem_ready.1 hi
  obtain ⟨h0,o,ho,_⟩:=h1
  have:=(hmem i).2 ⟨(Array.getElem?_eq_some_iff.1 ho).1,h0⟩
  cases this
 | succ n ih=>
  intro L listed s m Pr a w hlen hsort hmem hsz hlst ht hn hni hr
  refine ⟨fun h0=>?_,fun i hi=>?_⟩
  ·
   exfalso
   cases L with
   | nil=>cases hlen
   | cons i l=>
    have hi:=(hmem i).1 (by simp)
    have:i∈Region.ready .any ops listed:=mem_ready.2 ⟨hi.2,_,Array.getElem?_eq_getElem hi.1,fun e he hb=>by
     simp only [edgesOk,List.all_eq_true] at hedge
     have h1:=hedge (ops[i],i) (by rw [List.mem_zipIdx_iff_getElem?];simp [Array.getElem?_eq_getElem hi.1])
     have h2:=Array.all_eq_true_iff_forall_mem.1 h1 e he
     simp only [Bool.or_eq_true,Bool.not_eq_true',decide_eq_true_eq] at h2
     have hlt:e.on<i:=by
      rcases h2 with h2 | h2
      ·rw [hb] at h2;cases h2
      ·exact h2
     cases hle:listed.getD e.on true with
     | true=>
      have:e.on<listed.size:=by rw [hsz];exact Nat.lt_trans hlt hi.1
      simp only [Array.getD_eq_getD_getElem?,Array.getElem?_eq_getElem this,Option.getD_some] at hle ⊢
      exact hle
     | false=>
      have hin:=(hmem e.on).2 ⟨Nat.lt_trans hlt hi.1,hle⟩
      rcases List.mem_cons.1 hin with h3 | h3
      ·omega
      ·have:=(List.pairwise_cons.1 hsort).1 _ h3
       omega⟩
    rw [h0] at this
    cases this
  ·obtain ⟨hun,y,hy,hall⟩:=mem_ready.1 hi
   have hilt:=(Array.getElem?_eq_some_iff.1 hy).1
   have hiL:=(hmem i).2 ⟨hilt,hun⟩
   obtain ⟨L1,L2,rfl⟩:=List.append_of_mem hiL
   have hnd:(L1++i::L2).Nodup:=hsort.imp (fun h=>Nat.ne_of_lt h)
   have hlt1:∀e∈L1,e<i:=fun e he=>(List.pairwise_append.1 hsort).2.2 e he i (by simp)
   obtain ⟨s1,h1,ht1⟩:=trace_front hy hdis L1 L2 hnd hn hni (fun e he=>by
    have hein:=(hmem e).1 (by simp [he])
    refine ⟨_,Array.getElem?_eq_getElem hein.1,?_⟩
    simp only [List.all_eq_true,List.mem_range,Bool.or_eq_true] at hcomp
    rcases hcomp i hilt e (hlt1 e he) with h2 | h2
    ·have h3:=anc_listed htab hlst i y hy hall e (by simpa using h2)
     have h4:=hein.2
     have:e<listed.size:=by rw [hsz];exact hein.1
     simp only [Array.getD_eq_getD_getElem?,Array.getElem?_eq_getElem this,Option.getD_some] at h3 h4
     rw [h3] at h4;cases h4
    ·simp only [Array.getElem?_eq_getElem hein.1,hy] at h2
     exact h2) ht
   have hi1:i∉L1++L2:=by
    have:=(List.nodup_append.1 hnd)
    intro hmem'
    rcases List.mem_append.1 hmem' with h | h
    ·exact absurd rfl (this.2.2 i h i (by simp))
    ·exact (List.nodup_cons.1 this.2.1).1 h
   refine stepI_sound hN hr (fun j hj=>hn j (by simp only [List.mem_singleton] at hj;simp [hj])) h1 fun m' Pr' a' w' hr'=>?_
   refine ih (L1++L2) (listed.setIfInBounds i true) (by simp at hlen ⊢;omega) ?_ ?_ (by simpa using hsz) ?_ ht1 (nms_step hdis (fun j hj=>hn j (by
    rcases List.mem_append.1 hj with h | h
    ·simp [h]
    ·simp [h])) hi1 h1) (nmi_step hdis (fun j hj=>hni j (by
    rcases List.mem_append.1 hj with h | h
    ·simp [h]
    ·simp [h])) hi1 h1) hr'
   ·have:=List.pairwise_append.1 hsort
    exact List.pairwise_append.2 ⟨this.1,(List.pairwise_cons.1 this.2.1).2,fun e he j hj=>this.2.2 e he j (by simp [hj])⟩
   ·intro j
    by_cases hji:j=i
    ·subst hji
     constructor
     ·intro h;exact absurd h hi1
     ·rintro ⟨_,h⟩
      have:j<listed.size:=by rw [hsz];exact hilt
      simp [this] at h
    ·rw [getD_set_ne true (fun e=>hji e.symm)]
     rw [←hmem j]
     simp [hji]
   ·intro j o ho hj e he hb
    by_cases hji:j=i
    ·subst hji
     rw [hy] at ho;cases ho
     exact getD_set_true (hall e he hb)
    ·rw [getD_set_ne false (fun e=>hji e.symm)] at hj
     exact getD_set_true (hlst j o ho hj e he hb)
def drawOk2 (mu:Nat→Bool) (ops:Array Oper) (T:List (List Nat)) (A:List (Nat × List Nat)):Bool:=
 edgesOk ops && tabOk ops T && (ops.toList.all fun o=>famStep mu A o) && (List.range ops.size).all fun i=>(List.range i).all fun e=>(T.getD i []).contains e ||
  match ops[e]?,ops[i]? with
  | some x,some y=>compat mu ops x y || compatO A mu ops x y
  | _,_=>true
theorem trace_front2 {A:List (Nat × List Nat)} (hfam:∀(j:Nat) (o:Oper),ops[j]?=some o→famStep E.mu A o=true) {i:Nat} {y:Oper} (hy:ops[i]?=some y) (hdis:distinct E.mu ops=true):∀(L1 L2:List Nat) {s:PS},(L1++i::L2).Nodup→NMs ops (L1++i::L2) s→Inv A s.τ →
  (∀e∈L1,∃x,ops[e]?=some x∧(compat E.mu ops x y || compatO A E.mu ops x y)=true)→Trace E ops (L1++i::L2) s s'→∃s1,StepI E ops i s s1∧Trace E ops (L1++L2) s1 s'
 | [],L2,s,_,_,_,_,ht=>ht
 | e::L1,L2,s,hnd,hn,hI,hc,ht=>by
  obtain ⟨x,hx,hcx⟩:=hc e (by simp)
  obtain ⟨sa,h1,ht⟩:=ht
  have hnd':=List.nodup_cons.1 hnd
  obtain ⟨sb,h2,ht2⟩:=trace_front2 hfam hy hdis L1 L2 hnd'.2 (nms_step hdis (fun j hj=>hn j (by simp only [List.cons_append,List.mem_cons];exact .inr hj)) hnd'.1 h1) (inv_step hx (hfam e x hx) hI h1) (fun e he=>hc e (by simp [he])) ht
  have nx:isNew x.op=true→∀d,x.dst=some d→¬Ment s.τ d:=fun hne d hd hm=>by obtain ⟨t,u,hu,hk⟩:=hm;exact hn e (by simp) x hx hne d hd t u hu hk
  have ny:isNew y.op=true→∀d,y.dst=some d→¬Ment s.τ d:=fun hne d hd hm=>by obtain ⟨t,u,hu,hk⟩:=hm;exact hn i (by simp) y hy hne d hd t u hu hk
  rcases Bool.or_eq_true _ _ ▸ hcx with hcx | hcx
  ·obtain ⟨s3,h3,h4⟩:=commute hx hy hcx nx ny h1 h2
   exact ⟨s3,h3,sb,h4,ht2⟩
  ·obtain ⟨s3,h3,h4⟩:=commute2 hx hy hcx hI nx ny h1 h2
   exact ⟨s3,h3,sb,h4,ht2⟩
theorem any_sound2 {r:Option Nat} (hN:dstsOk N ops=true) (hdis:distinct E.mu ops=true) {T:List (List Nat)} {A:List (Nat × List Nat)} (hdr:drawOk2 E.mu ops T A=true) {Q:Exit→Act→World→Prop}
  (hQ:∀m' Pr' a' w',Rel E N wk w0 Pr0 s' m' Pr' a' w'→Q .normal a' w'):∀(n:Nat) (L:List Nat) (listed:Array Bool) {s:PS} {m:Nat→Value} {Pr:Nat→Nat→Prop} {a:Act} {w:World},
   L.length=n→L.Pairwise (· < ·)→(∀i,i∈L↔i<ops.size∧listed.getD i true=false)→listed.size=ops.size→Listed ops listed →
   Trace E ops L s s'→NMs ops L s→Inv A s.τ→Rel E N wk w0 Pr0 s m Pr a w→wpAnyIn (RF r) 0 E.P .any ops Q n listed a w:=by
 simp only [drawOk2,Bool.and_eq_true] at hdr
 obtain ⟨⟨⟨hedge,htab⟩,hfam'⟩,hcomp⟩:=hdr
 have hfam:∀(j:Nat) (o:Oper),ops[j]?=some o→famStep E.mu A o=true:=fun j o ho=>by
  have:=List.all_eq_true.1 hfam' o (by simpa using Array.mem_of_getElem? ho)
  exact this
 intro n
 induction n with
 | zero=>
  intro L listed s m Pr a w hlen hsort hmem hsz hlst ht hn hI hr
  have hL:L=[]:=List.eq_nil_of_length_eq_zero hlen
  subst hL
  simp only [Trace] at ht;subst ht
  refine ⟨?_,hQ _ _ _ _ hr⟩
  rw [List.eq_nil_iff_forall_not_mem]
  intro i hi
  have h1:=mem_ready.1 hi
  obtain ⟨h0,o,ho,_⟩:=h1
  have:=(hmem i).2 ⟨(Array.getElem?_eq_some_iff.1 ho).1,h0⟩
  cases this
 | succ n ih=>
  intro L listed s m Pr a w hlen hsort hmem hsz hlst ht hn hI hr
  refine ⟨fun h0=>?_,fun i hi=>?_⟩
  ·
   exfalso
   cases L with
   | nil=>cases hlen
   | cons i l=>
    have hi:=(hmem i).1 (by simp)
    have:i∈Region.ready .any ops listed:=mem_ready.2 ⟨hi.2,_,Array.getElem?_eq_getElem hi.1,fun e he hb=>by
     simp only [edgesOk,List.all_eq_true] at hedge
     have h1:=hedge (ops[i],i) (by rw [List.mem_zipIdx_iff_getElem?];simp [Array.getElem?_eq_getElem hi.1])
     have h2:=Array.all_eq_true_iff_forall_mem.1 h1 e he
     simp only [Bool.or_eq_true,Bool.not_eq_true',decide_eq_true_eq] at h2
     have hlt:e.on<i:=by
      rcases h2 with h2 | h2
      ·rw [hb] at h2;cases h2
      ·exact h2
     cases hle:listed.getD e.on true with
     | true=>
      have:e.on<listed.size:=by rw [hsz];exact Nat.lt_trans hlt hi.1
      simp only [Array.getD_eq_getD_getElem?,Array.getElem?_eq_getElem this,Option.getD_some] at hle ⊢
      exact hle
     | false=>
      have hin:=(hmem e.on).2 ⟨Nat.lt_trans hlt hi.1,hle⟩
      rcases List.mem_cons.1 hin with h3 | h3
      ·omega
      ·have:=(List.pairwise_cons.1 hsort).1 _ h3
       omega⟩
    rw [h0] at this
    cases this
  ·obtain ⟨hun,y,hy,hall⟩:=mem_ready.1 hi
   have hilt:=(Array.getElem?_eq_some_iff.1 hy).1
   have hiL:=(hmem i).2 ⟨hilt,hun⟩
   obtain ⟨L1,L2,rfl⟩:=List.append_of_mem hiL
   have hnd:(L1++i::L2).Nodup:=hsort.imp (fun h=>Nat.ne_of_lt h)
   have hlt1:∀e∈L1,e<i:=fun e he=>(List.pairwise_append.1 hsort).2.2 e he i (by simp)
   obtain ⟨s1,h1,ht1⟩:=trace_front2 hfam hy hdis L1 L2 hnd hn hI (fun e he=>by
    have hein:=(hmem e).1 (by simp [he])
    refine ⟨_,Array.getElem?_eq_getElem hein.1,?_⟩
    simp only [List.all_eq_true,List.mem_range,Bool.or_eq_true] at hcomp
    rcases hcomp i hilt e (hlt1 e he) with h2 | h2
    ·have h3:=anc_listed htab hlst i y hy hall e (by simpa using h2)
     have h4:=hein.2
     have:e<listed.size:=by rw [hsz];exact hein.1
     simp only [Array.getD_eq_getD_getElem?,Array.getElem?_eq_getElem this,Option.getD_some] at h3 h4
     rw [h3] at h4;cases h4
    ·simp only [Array.getElem?_eq_getElem hein.1,hy] at h2
     exact h2) ht
   have hi1:i∉L1++L2:=by
    have:=(List.nodup_append.1 hnd)
    intro hmem'
    rcases List.mem_append.1 hmem' with h | h
    ·exact absurd rfl (this.2.2 i h i (by simp))
    ·exact (List.nodup_cons.1 this.2.1).1 h
   refine stepI_sound hN hr (fun j hj=>hn j (by simp only [List.mem_singleton] at hj;simp [hj])) h1 fun m' Pr' a' w' hr'=>?_
   refine ih (L1++L2) (listed.setIfInBounds i true) (by simp at hlen ⊢;omega) ?_ ?_ (by simpa using hsz) ?_ ht1 (nms_step hdis (fun j hj=>hn j (by
    rcases List.mem_append.1 hj with h | h
    ·simp [h]
    ·simp [h])) hi1 h1) (inv_step hy (hfam i y hy) hI h1) hr'
   ·have:=List.pairwise_append.1 hsort
    exact List.pairwise_append.2 ⟨this.1,(List.pairwise_cons.1 this.2.1).2,fun e he j hj=>this.2.2 e he j (by simp [hj])⟩
   ·intro j
    by_cases hji:j=i
    ·subst hji
     constructor
     ·intro h;exact absurd h hi1
     ·rintro ⟨_,h⟩
      have:j<listed.size:=by rw [hsz];exact hilt
      simp [this] at h
    ·rw [getD_set_ne true (fun e=>hji e.symm)]
     rw [←hmem j]
     simp [hji]
   ·intro j o ho hj e he hb
    by_cases hji:j=i
    ·subst hji
     rw [hy] at ho;cases ho
     exact getD_set_true (hall e he hb)
    ·rw [getD_set_ne false (fun e=>hji e.symm)] at hj
     exact getD_set_true (hlst j o ho hj e he hb)
theorem region_sound {r:Option Nat} (hm:E.P.follows .mixedOrders=true) (hN:dstsOk N ops=true) (hdis:distinct E.mu ops=true) {id:Nat} {draw:Bool} {T:List (List Nat)} {A:List (Nat × List Nat)} (hdr:draw=true→drawOk E.mu ops T=true∨drawOk2 E.mu ops T A=true) (hI:Inv A s.τ)
  {Q:Exit→Act→World→Prop} (ht:Trace E ops (List.range ops.size) s s') (hn:NMs ops (List.range ops.size) s) (hni:draw=true→NMi E.mu ops (List.range ops.size) s) (hr:Rel E N wk w0 Pr0 s m Pr a w)
  (hQ:∀m' Pr' a' w',Rel E N wk w0 Pr0 s' m' Pr' a' w'→Q .normal a' w'):(Code.region id ops draw).wpIn (RF r) 0 E.P Q a w:=by
 cases draw with
 | false=>exact wpIn_region (text_sound hN hdis _ List.nodup_range ht hn hr hQ)
 | true=>
  have hr':Rel E N wk w0 Pr0 s m Pr a { w with drawn:=w.drawn+1 }:=⟨hr.below.drew,dk_keep hr.dfr (KeepsOthers.drew _),hr.pin,hr.keep,hr.sz,hr.pr0,hr.new,hr.bnd,hr.glob,hr.tmp,hr.blk,hr.sep⟩
  have c1:∀i,i∈List.range ops.size↔i<ops.size∧(Array.replicate ops.size false).getD i true=false:=by
   intro i
   simp only [List.mem_range]
   constructor
   ·intro h;exact ⟨h,by simp [h]⟩
   ·exact fun h=>h.1
  have c2:Listed ops (Array.replicate ops.size false):=by
   intro j o ho hj
   simp only [Array.getD_eq_getD_getElem?,Array.getElem?_replicate] at hj
   split at hj<;>simp at hj
  rcases hdr rfl with hdr | hdr
  ·exact wpIn_region_any hm (any_sound hN hdis hdr hQ ops.size (List.range ops.size) _ (by simp) List.pairwise_lt_range c1 (by simp) c2 ht hn (hni rfl) hr')
  ·exact wpIn_region_any hm (any_sound2 hN hdis hdr hQ ops.size (List.range ops.size) _ (by simp) List.pairwise_lt_range c1 (by simp) c2 ht hn hI hr')
end
end PG
end
section
set_option linter.unusedVariables false
set_option linter.unusedSimpArgs false
namespace PG
open Go Go.RowKit
def sget {α:Type}:List (Nat × α)→Nat→Option α
 | [],_=>none
 | (k,v)::r,t=>if t=k then some v else sget r t
structure ES where
 τ:List (Nat × SV)
 σ:List (Nat × (Bk × Bool))
def ES.den (s:ES):PS:=⟨sget s.τ,sget s.σ⟩
def ES.put (s:ES) (dst:Option Tmp) (v:SV):ES:=
 match dst with
 | some d=>⟨(d,v)::s.τ,s.σ⟩
 | none=>s
def frzL (σ:List (Nat × (Bk × Bool))) (fz:List Nat):List (Nat × (Bk × Bool)):=
 match fz with
 | []=>σ
 | _=>σ.map fun p=>if p.1∈fz then (p.1,(p.2.1,true)) else p
def kill1 (ks:List Nat) (p:Nat × SV):Nat × SV:=
 match p.2.key with
 | some k=>if k∈ks then (p.1,.junk) else p
 | none=>p
def killL (τ:List (Nat × SV)) (ks:List Nat):List (Nat × SV):=
 match ks with
 | []=>τ
 | _=>τ.map (kill1 ks)
def eraL (σ:List (Nat × (Bk × Bool))) (k:Nat):List (Nat × (Bk × Bool)):=σ.filter fun p=>decide (p.1≠k)
def pif (b:Bool) (X Y:Prop):Prop:=(b=true→X)∧(b=false→Y)
def PCW (E:PE) (f:FuncId) (args:List PV) (K:PV→Prop):Prop:=∃r,PC E f args r∧K r
def pval {α:Type} (v:Option α) (K:α→Prop):Prop:=
 match v with
 | some v=>K v
 | none=>False
def pbool (v:Option SV) (T F:Prop):Prop:=
 match v with
 | some (.val (.bool b))=>pif b T F
 | _=>False
def pfree (b:Option (Bk × Bool)) (K:Prop):Prop:=
 match b with
 | some (_,false)=>K
 | _=>False
def eraO (σ:List (Nat × (Bk × Bool))):Option Nat→List (Nat × (Bk × Bool))
 | some d=>eraL σ d
 | none=>σ
def PIW (E:PE) (s:ES) (dst:Option Tmp) (f:FuncId) (args:List SV) (K:ES→Prop):Prop:=
 ∃(ks:List Nat) (cargs:List SV) (bs bs':List Bk) (r:SV),PCM E f cargs bs r bs'∧args=cargs.map (ren ks)∧ks.Nodup∧ks.length=bs.length ∧
  (∀(i:Nat) (b:Bk) (k:Nat),bs[i]?=some b→ks[i]?=some k→sget s.σ k=some (b,false))∧(∀d,dst=some d→d∉ks)∧(dst=none→bs'.length=bs.length) ∧
  K ((⟨killL s.τ dst.toList,(ks++dst.toList).zip (bs'.map fun b=>(b,false))++eraO s.σ dst⟩:ES).put dst (ren (ks++dst.toList) r))
def pcont (E:PE) (s:ES) (dst:Option Tmp) (fz:List Nat) (K:ES→Prop):Out→Prop
 | .val v=>K ((⟨s.τ,frzL s.σ fz⟩:ES).put dst v)
 | .new b=>pval dst fun d=>K ⟨(d,newSV d b)::s.τ,(d,(b,false))::frzL s.σ fz⟩
 | .st k b=>pfree (sget s.σ k) (k∉fz∧K ((⟨s.τ,(k,(b,false))::frzL s.σ fz⟩:ES).put dst .junk))
 | .app none b=>pval dst fun d=>K ⟨(d,.row d)::killL s.τ [d],(d,(b,false))::frzL s.σ fz⟩
 | .app (some j) b=>pval dst fun d=>pfree (sget s.σ j) (j∉fz∧K ⟨(d,.row d)::killL s.τ [d],(d,(b,false))::eraL (frzL s.σ fz) j⟩)
 | .call f args=>PCW E f args fun r=>K ((⟨s.τ,frzL s.σ fz⟩:ES).put dst (.val r))
 | .inl f args=>PIW E s dst f args K
def pstep (E:PE) (o:Oper) (s:ES) (K:ES→Prop):Prop:=
 if isA o.op=true then pval (stepA E o.op (opSV E (sget s.τ))) fun v=>K (s.put o.dst v)
 else pval (stepR E o.op (res E (sget s.τ) (sget s.σ))) fun p=>pcont E s o.dst p.2 K p.1
def gdst:List Oper→Nat→Option Tmp
 | [],_=>none
 | o::_,0=>o.dst
 | _::l,n+1=>gdst l n
def pgs (v:Option SV) (T F U:Prop):Prop:=match v with
 | some (.val (.tuple []))=>U
 | v=>pbool v T F
theorem pgs_spec {v:Option SV} {T F U:Prop} (h:pgs v T F U):(v=some (.val (.tuple []))∧U)∨pbool v T F:=by
 unfold pgs at h
 split at h
 ·exact .inl ⟨rfl,h⟩
 ·exact .inr h
def pgrd (w:Bool) (X Y:Prop):Prop:=if w=true then X else Y
def pops (E:PE) (ops:List Oper):List Oper→ES→(ES→Prop)→Prop
 | [],s,K=>K s
 | o::rest,s,K=>match o.guard with
  | none=>pstep E o s fun s'=>pops E ops rest s' K
  | some (j,want)=>pval (gdst ops j) fun t=>pgs (sget s.τ t)
    (pgrd want (pstep E o (s.put (some t) (.val (.bool true))) fun s'=>pops E ops rest s' K) (pops E ops rest ((s.put (some t) (.val (.bool true))).put o.dst (.val (.tuple []))) K))
    (pgrd want (pops E ops rest ((s.put (some t) (.val (.bool false))).put o.dst (.val (.tuple []))) K) (pstep E o (s.put (some t) (.val (.bool false))) fun s'=>pops E ops rest s' K))
    (pops E ops rest ((s.put (some t) (.val (.tuple []))).put o.dst (.val (.tuple []))) K)
def newDsts:List Oper→List Nat
 | []=>[]
 | o::r=>if isNew o.op=true then o.dst.toList++newDsts r else newDsts r
def inlDsts (mu:Nat→Bool):List Oper→List Nat
 | []=>[]
 | o::r=>if isInl mu o.op=true then o.dst.toList++inlDsts mu r else inlDsts mu r
def regDsts (mu:Nat→Bool) (draw:Bool) (l:List Oper):List Nat:=if draw=true then newDsts l++inlDsts mu l else newDsts l
def noRange:Code→Bool
 | .seq a b=>noRange a && noRange b
 | .cond _ a b=>noRange a && noRange b
 | .block _ c=>noRange c
 | .loop c=>noRange c
 | .rangeFunc _ _ _ _=>false
 | _=>true
def codeOk (mu:Nat→Bool) (own:Nat→Nat→List (Nat × List Nat)) (N:Nat):Code→Bool
 | .region id ops draw=>dstsOk N ops && distinct mu ops && (!draw || drawOk mu ops (mkTab ops) || drawOk2 mu ops (mkTab ops) (own N id))
 | .seq a b=>codeOk mu own N a && codeOk mu own N b
 | .cond _ a b=>codeOk mu own N a && codeOk mu own N b
 | .block _ c=>codeOk mu own N c
 | .loop c=>codeOk mu own N c
 | .rangeFunc _ _ x y=>codeOk mu own N x && codeOk mu own N y && noRange x && noRange y
 | _=>true
def lift (E:PE) (N:Nat) (wk:Gh) (w0:Fm) (Pr0:Nat→Nat→Prop) (Q:Exit→ES→Prop):Exit→Act→World→Prop:=
 fun e a w=>∃s m Pr,Q e s∧Rel E N wk w0 Pr0 s.den m Pr a w
def PSem (E:PE) (N:Nat) (r:Option Nat) (c:Code) (Q:Exit→ES→Prop) (s:ES):Prop:=
 ∀wk w0 Pr0 m Pr a w,Rel E N wk w0 Pr0 s.den m Pr a w→c.wpIn (RF r) 0 E.P (lift E N wk w0 Pr0 Q) a w
def PLoop (E:PE) (N:Nat) (c:Code) (Q:Exit→ES→Prop) (s:ES):Prop:=codeOk E.mu E.own N c=true→E.P.follows .mixedOrders=true→∀r:Option Nat,(r=none∨noRange c=true)→PSem E N r (.loop c) Q s
def PRange (E:PE) (N:Nat) (f:Operand) (ps:Array Tmp) (x y:Code) (Q:Exit→ES→Prop) (s:ES):Prop:=
 codeOk E.mu E.own N x=true→codeOk E.mu E.own N y=true→noRange x=true→noRange y=true→E.P.follows .mixedOrders=true→PSem E N none (.rangeFunc f ps x y) Q s
def pseq (K:ES→Prop) (Q:Exit→ES→Prop):Exit→ES→Prop
 | .normal,s=>K s
 | e,s=>Q e s
def pblk (id:Nat) (Q:Exit→ES→Prop):Exit→ES→Prop
 | .exit i,s=>if i=id then Q .normal s else Q (.exit i) s
 | e,s=>Q e s
def setB (s:ES) (c:Operand) (b:Bool):ES:=
 match c with
 | .tmp t=>⟨(t,.val (.bool b))::s.τ,s.σ⟩
 | _=>s
def pcond (E:PE) (c:Operand) (s:ES) (X Y:ES→Prop):Prop:=
 pbool (opSV E (sget s.τ) c) (X (setB s c true)) (Y (setB s c false))
def keyIn (l:List Nat):Option SV→Prop
 | some u=>∀k,u.key=some k→k∈l
 | none=>True
def pneed (τ:List (Nat × SV)):List (Nat × List Nat)→Prop→Prop
 | [],X=>X
 | (t,l)::A,X=>keyIn l (sget τ t)∧pneed τ A X
def pexec (E:PE) (N:Nat):Code→(Exit→ES→Prop)→ES→Prop
 | .skip,Q,s=>Q .normal s
 | .region id ops draw,Q,s=>pneed (killL s.τ (regDsts E.mu draw ops.toList)) (if draw=true then E.own N id else []) (pops E ops.toList ops.toList ⟨killL s.τ (regDsts E.mu draw ops.toList),s.σ⟩ (Q .normal))
 | .seq a b,Q,s=>pexec E N a (pseq (pexec E N b Q) Q) s
 | .cond c x y,Q,s=>pcond E c s (pexec E N x Q) (pexec E N y Q)
 | .block id c,Q,s=>pexec E N c (pblk id Q) s
 | .loop c,Q,s=>PLoop E N c Q s
 | .exit id,Q,s=>Q (.exit id) s
 | .ret,Q,s=>Q .ret s
 | .rangeFunc f ps x y,Q,s=>PRange E N f ps x y Q s
 | _,_,_=>False
section
variable {E : PE} {N : Nat} {wk : Gh} {w0 : Fm} {Pr0 : Nat → Nat → Prop}
theorem den_put (s:ES) (dst:Option Tmp) (v:SV):(s.put dst v).den=⟨putτ s.den.τ dst v,s.den.σ⟩:=by
 cases dst<;>rfl
theorem get_frz (fz:List Nat):∀(σ:List (Nat × (Bk × Bool))),sget (frzL σ fz)=frzσ (sget σ) fz:=by
 intro σ
 funext k
 cases fz with
 | nil=>simp [frzL,frzσ]
 | cons a l=>
  simp only [frzL]
  induction σ with
  | nil=>simp [sget,frzσ]
  | cons p r ih=>
   obtain ⟨j,b⟩:=p
   simp only [List.map_cons]
   by_cases hj:j∈a::l
   ·rw [if_pos hj]
    simp only [sget,frzσ]
    by_cases hk:k=j
    ·subst hk;simp [hj]
    ·simp only [hk,if_false]
     rw [ih];rfl
   ·rw [if_neg hj]
    simp only [sget,frzσ]
    by_cases hk:k=j
    ·subst hk;simp [hj]
    ·simp only [hk,if_false]
     rw [ih];rfl
theorem get_kill (ks:List Nat):∀(τ:List (Nat × SV)),sget (killL τ ks)=killτ (sget τ) ks:=by
 intro τ
 funext t
 cases ks with
 | nil=>
  simp only [killL,killτ]
  cases sget τ t with
  | none=>rfl
  | some v=>cases hk:v.key<;>simp [hk]
 | cons a l=>
  simp only [killL]
  induction τ with
  | nil=>rfl
  | cons p r ih=>
   obtain ⟨j,v⟩:=p
   simp only [List.map_cons,kill1]
   cases hv:v.key with
   | none=>
    simp only [sget,killτ]
    by_cases ht:t=j
    ·subst ht;simp [hv]
    ·simp only [ht,if_false];rw [ih];rfl
   | some k=>
    simp only
    by_cases hk:k∈a::l
    ·rw [if_pos hk]
     simp only [sget,killτ]
     by_cases ht:t=j
     ·subst ht;simp only [if_true,hv];rw [if_pos hk]
     ·simp only [ht,if_false];rw [ih];rfl
    ·rw [if_neg hk]
     simp only [sget,killτ]
     by_cases ht:t=j
     ·subst ht;simp only [if_true,hv];rw [if_neg hk]
     ·simp only [ht,if_false];rw [ih];rfl
theorem get_era (k:Nat):∀(σ:List (Nat × (Bk × Bool))),sget (eraL σ k)=updσ (sget σ) k none:=by
 intro σ
 funext j
 unfold eraL
 induction σ with
 | nil=>simp [sget,updσ]
 | cons p r ih=>
  obtain ⟨i,b⟩:=p
  rw [List.filter_cons]
  by_cases hi:i=k
  ·subst hi
   simp only [ne_eq,not_true,decide_false,Bool.false_eq_true,if_false]
   rw [ih]
   simp only [updσ,sget]
   by_cases hj:j=i<;>simp [hj]
  ·simp only [ne_eq,hi,not_false_eq_true,decide_true,if_true,sget,updσ]
   by_cases hj:j=i
   ·subst hj;simp [hi]
   ·simp only [hj,if_false];rw [ih];rfl
theorem get_cons {α:Type} (k:Nat) (v:α) (r:List (Nat × α)) (t:Nat):sget ((k,v)::r) t=if t=k then some v else sget r t:=rfl
theorem get_cons_upd (σ:List (Nat × (Bk × Bool))) (k:Nat) (b:Bk × Bool):sget ((k,b)::σ)=updσ (sget σ) k (some b):=by
 funext j;rfl
theorem get_ovr (σ:List (Nat × (Bk × Bool))):∀(l:List (Nat × (Bk × Bool))),sget (l++σ)=ovr (sget σ) l
 | []=>rfl
 | (k,b)::l=>by
  rw [List.cons_append,get_cons_upd,get_ovr σ l]
  rfl
theorem pval_spec {α:Type} {v:Option α} {K:α→Prop} (h:pval v K):∃x,v=some x∧K x:=by
 cases v with
 | none=>exact h.elim
 | some x=>exact ⟨x,rfl,h⟩
theorem pbool_spec {v:Option SV} {T F:Prop} (h:pbool v T F):∃b,v=some (.val (.bool b))∧pif b T F:=by
 unfold pbool at h
 split at h
 ·exact ⟨_,rfl,h⟩
 ·exact h.elim
theorem pfree_spec {b:Option (Bk × Bool)} {K:Prop} (h:pfree b K):(∃b0,b=some (b0,false))∧K:=by
 unfold pfree at h
 split at h
 ·exact ⟨⟨_,rfl⟩,h⟩
 ·exact h.elim
theorem gdst_eq:∀(l:List Oper) (j:Nat),gdst l j=(l[j]?).bind (·.dst)
 | [],_=>by simp [gdst]
 | o::l,0=>by simp [gdst]
 | o::l,n+1=>by simp only [gdst,List.getElem?_cons_succ];exact gdst_eq l n
theorem pstep_trace {o:Oper} {s:ES} {K:ES→Prop} (h:pstep E o s K):∃s':ES,StepP E o s.den s'.den∧K s':=by
 unfold pstep at h
 unfold StepP
 split at h
 ·rename_i hA
  simp only [hA,if_true]
  obtain ⟨v,hv,h⟩:=pval_spec h
  exact ⟨_,⟨v,hv,den_put s o.dst v⟩,h⟩
 ·rename_i hA
  simp only [hA,Bool.false_eq_true,if_false]
  obtain ⟨⟨out,fz⟩,hv,h⟩:=pval_spec h
  have hfz:(⟨s.τ,frzL s.σ fz⟩:ES).den=⟨s.den.τ,frzσ s.den.σ fz⟩:=by simp only [ES.den,get_frz]
  cases out with
  | val v=>
   exact ⟨_,⟨_,fz,hv,by rw [den_put,hfz];rfl⟩,h⟩
  | new b=>
   obtain ⟨d,hd,h⟩:=pval_spec h
   exact ⟨_,⟨_,fz,hv,d,hd,by rw [hd];simp only [ES.den,get_cons_upd,get_frz];rfl⟩,h⟩
  | st k b=>
   obtain ⟨⟨b0,hk⟩,hkf,h⟩:=pfree_spec h
   exact ⟨_,⟨_,fz,hv,⟨b0,hk⟩,hkf,by rw [den_put];simp only [ES.den,get_cons_upd,get_frz]⟩,h⟩
  | app k b=>
   cases k with
   | none=>
    obtain ⟨d,hd,h⟩:=pval_spec h
    exact ⟨_,⟨_,fz,hv,d,hd,(fun j hj=>by cases hj),by rw [hd];simp only [ES.den,get_cons_upd,get_frz,eraseσ];simp only [←get_kill];rfl⟩,h⟩
   | some j=>
    obtain ⟨d,hd,h⟩:=pval_spec h
    obtain ⟨⟨b0,hk⟩,hkf,h⟩:=pfree_spec h
    exact ⟨_,⟨_,fz,hv,d,hd,(fun i hi=>by cases hi;exact ⟨⟨b0,hk⟩,hkf⟩),by rw [hd];simp only [ES.den,get_cons_upd,get_era,get_frz,eraseσ];simp only [←get_kill];rfl⟩,h⟩
  | inl f args=>
   have hfz0:fz=[]:=((stepR_key hv).2.2.2.2.2 ⟨f,args,rfl⟩).2
   subst hfz0
   obtain ⟨ks,cargs,bs,bs',r,hpc,hargs,hnd,hkl,hblk,hdk,hd0,h⟩:=h
   refine ⟨_,⟨_,[],hv,ks,cargs,bs,bs',r,hpc,rfl,hargs,hnd,hkl,hblk,hdk,hd0,?_⟩,h⟩
   rw [den_put]
   congr 1
   ·simp only [ES.den,get_kill]
   ·simp only [ES.den,get_ovr]
    congr 1
    cases o.dst with
    | none=>rfl
    | some d=>exact get_era d s.σ
  | call f args=>
   obtain ⟨r,hpc,h⟩:=h
   exact ⟨_,⟨_,fz,hv,r,hpc,by rw [den_put,hfz]⟩,h⟩
theorem put_same (s:ES) (t:Tmp) (v:SV) (h:sget s.τ t=some v):(s.put (some t) v).den=s.den:=by
 unfold ES.den ES.put
 congr 1
 funext j
 simp only [sget]
 split
 ·rename_i e;subst e;exact h.symm
 ·rfl
theorem pops_trace {ops:Array Oper} {K:ES→Prop}:∀(rest:List Oper) (k:Nat) (s:ES),(∀j,rest[j]?=ops[k+j]?)→pops E ops.toList rest s K→∃s':ES,Trace E ops (List.range' k rest.length) s.den s'.den∧K s'
 | [],k,s,_,h=>⟨s,rfl,h⟩
 | o::rest,k,s,hl,h=>by
  have h0:ops[k]?=some o:=by simpa using (hl 0).symm
  have hl':∀j,rest[j]?=ops[k+1+j]?:=fun j=>by have:=hl (j+1);simpa [Nat.add_assoc,Nat.add_comm 1 j] using this
  have done:∀(s0 s1:ES),s0.den=s.den→StepI E ops k s0.den s1.den→pops E ops.toList rest s1 K→∃s':ES,Trace E ops (List.range' k (o::rest).length) s.den s'.den∧K s':=by
   intro s0 s1 he hst hp
   obtain ⟨s',ht,hk⟩:=pops_trace rest (k+1) s1 hl' hp
   exact ⟨s',by simp only [List.length_cons,List.range'_succ];exact ⟨s1.den,he ▸ hst,ht⟩,hk⟩
  simp only [pops] at h
  split at h
  ·rename_i hg
   obtain ⟨s1,hst,hp⟩:=pstep_trace h
   exact done s s1 rfl ⟨o,h0,by simp only [hg];exact hst⟩ hp
  ·rename_i j want hg
   obtain ⟨t,ht,h⟩:=pval_spec h
   have ht':(ops[j]?).bind (·.dst)=some t:=by
    rw [gdst_eq] at ht
    simpa using ht
   rcases pgs_spec h with ⟨hb,h1⟩ | h
   ·have he:=put_same s t _ hb
    exact done _ _ he ⟨o,h0,by simp only [hg];exact ⟨none,by rw [he];simp only [gslot,ht',ES.den,hb],by rw [if_neg (by simp)];exact den_put _ _ _⟩⟩ h1
   obtain ⟨b,hb,hT,hF⟩:=pbool_spec h
   have hgs:∀(s0:ES),s0.den=s.den→gslot ops s0.den.τ j=some (some b):=by
    intro s0 he
    rw [he]
    simp only [gslot,ht',ES.den,hb]
   have he:=put_same s t _ hb
   cases b with
   | true=>
    have h1:=hT rfl
    unfold pgrd at h1
    split at h1
    ·rename_i hw
     obtain ⟨s1,hst,hp⟩:=pstep_trace h1
     exact done _ s1 he ⟨o,h0,by simp only [hg];exact ⟨some true,hgs _ he,by simp only [hw,if_true];exact hst⟩⟩ hp
    ·rename_i hw
     have hw':want=false:=by simpa using hw
     exact done _ _ he ⟨o,h0,by simp only [hg];exact ⟨some true,hgs _ he,by rw [if_neg (by simp [hw'])];exact den_put _ _ _⟩⟩ h1
   | false=>
    have h1:=hF rfl
    unfold pgrd at h1
    split at h1
    ·rename_i hw
     exact done _ _ he ⟨o,h0,by simp only [hg];exact ⟨some false,hgs _ he,by rw [if_neg (by simp [hw])];exact den_put _ _ _⟩⟩ h1
    ·rename_i hw
     have hw':want=false:=by simpa using hw
     obtain ⟨s1,hst,hp⟩:=pstep_trace h1
     exact done _ s1 he ⟨o,h0,by simp only [hg];exact ⟨some false,hgs _ he,by simp only [hw',if_true];exact hst⟩⟩ hp
theorem newDsts_mem {o:Oper} {d:Nat} (hn:isNew o.op=true) (hd:o.dst=some d):∀{l:List Oper},o∈l→d∈newDsts l
 | [],h=>by cases h
 | x::l,h=>by
  simp only [newDsts]
  rcases List.mem_cons.1 h with rfl | h
  ·simp [hn,hd]
  ·have:=newDsts_mem hn hd h
   split
   ·exact List.mem_append_right _ this
   ·exact this
theorem inlDsts_mem {mu:Nat→Bool} {o:Oper} {d:Nat} (hn:isInl mu o.op=true) (hd:o.dst=some d):∀{l:List Oper},o∈l→d∈inlDsts mu l
 | [],h=>by cases h
 | x::l,h=>by
  simp only [inlDsts]
  rcases List.mem_cons.1 h with rfl | h
  ·simp [hn,hd]
  ·have:=inlDsts_mem hn hd h
   split
   ·exact List.mem_append_right _ this
   ·exact this
theorem regDsts_new {mu:Nat→Bool} {draw:Bool} {o:Oper} {d:Nat} (hn:isNew o.op=true) (hd:o.dst=some d) {l:List Oper} (h:o∈l):d∈regDsts mu draw l:=by
 unfold regDsts
 split
 ·exact List.mem_append_left _ (newDsts_mem hn hd h)
 ·exact newDsts_mem hn hd h
theorem regDsts_inl {mu:Nat→Bool} {o:Oper} {d:Nat} (hn:isInl mu o.op=true) (hd:o.dst=some d) {l:List Oper} (h:o∈l):d∈regDsts mu true l:=by
 unfold regDsts
 rw [if_pos rfl]
 exact List.mem_append_right _ (inlDsts_mem hn hd h)
theorem pneed_inv {τ:List (Nat × SV)} {X:Prop}:∀{A:List (Nat × List Nat)},pneed τ A X→Inv A (sget τ)∧X
 | [],h=>⟨fun t l hl=>(by cases hl),h⟩
 | (t',l')::A,h=>by
  obtain ⟨h1,h2⟩:=h
  obtain ⟨h3,h4⟩:=pneed_inv h2
  refine ⟨fun t l hl u k hu hk=>?_,h4⟩
  simp only [famA] at hl
  split at hl
  ·rename_i e
   cases hl
   subst e
   rw [hu] at h1
   exact h1 k hk
  ·exact h3 t l hl u k hu hk
theorem pexec_sound (hm:E.P.follows .mixedOrders=true):∀(c:Code) (Q:Exit→ES→Prop) (s:ES),codeOk E.mu E.own N c=true→∀(r:Option Nat),(r=none∨noRange c=true)→pexec E N c Q s→PSem E N r c Q s
 | .skip,Q,s,_,_,_,h=>fun wk w0 Pr0 m Pr a w hr=>wpIn_skip ⟨s,m,Pr,h,hr⟩
 | .exit id,Q,s,_,_,_,h=>fun wk w0 Pr0 m Pr a w hr=>wpIn_exit ⟨s,m,Pr,h,hr⟩
 | .ret,Q,s,_,_,_,h=>fun wk w0 Pr0 m Pr a w hr=>wpIn_ret ⟨s,m,Pr,h,hr⟩
 | .loop c,Q,s,hok,r,hr0,h=>h hok hm r (by simpa only [noRange] using hr0)
 | .region id ops draw,Q,s,hok,r,hr0,h=>fun wk w0 Pr0 m Pr a w hr=>by
  simp only [codeOk,Bool.and_eq_true,Bool.or_eq_true,Bool.not_eq_true'] at hok
  obtain ⟨⟨h1,h2⟩,h3⟩:=hok
  obtain ⟨hI,h⟩:=pneed_inv h
  obtain ⟨s',ht,hq⟩:=pops_trace ops.toList 0 _ (by simp) h
  have hr':Rel E N wk w0 Pr0 (⟨killL s.τ (regDsts E.mu draw ops.toList),s.σ⟩:ES).den m Pr a w:=by
   have:=hr.kill (regDsts E.mu draw ops.toList)
   simp only [ES.den,get_kill] at this ⊢
   exact this
  refine region_sound hm h1 h2 (T:=mkTab ops) (A:=if draw=true then E.own N id else []) (fun hd=>by rcases h3 with (h3 | h3) | h3<;>simp_all) (by simpa only [ES.den] using hI) (s:=(⟨killL s.τ (regDsts E.mu draw ops.toList),s.σ⟩:ES).den) (s':=s'.den) (by
   rw [List.range_eq_range'];simpa using ht) ?_ ?_ hr' (fun m' Pr' a' w' hr'=>⟨s',m',Pr',hq,hr'⟩)
  ·intro i _ o ho hn d hd t u hu
   simp only [ES.den,get_kill] at hu
   exact killτ_key hu d (regDsts_new hn hd (by simpa using Array.mem_of_getElem? ho))
  ·rintro rfl i _ o ho hn d hd t u hu
   simp only [ES.den,get_kill] at hu
   exact killτ_key hu d (regDsts_inl hn hd (by simpa using Array.mem_of_getElem? ho))
 | .seq x y,Q,s,hok,r,hr0,h=>fun wk w0 Pr0 m Pr a w hr=>by
  simp only [codeOk,Bool.and_eq_true] at hok
  have hn:(r=none∨noRange x=true)∧(r=none∨noRange y=true):=by
   simp only [noRange,Bool.and_eq_true] at hr0
   rcases hr0 with h0 | ⟨h1,h2⟩
   ·exact ⟨.inl h0,.inl h0⟩
   ·exact ⟨.inr h1,.inr h2⟩
  refine wpIn_seq (wpIn_mono (pexec_sound hm x _ s hok.1 r hn.1 h wk w0 Pr0 m Pr a w hr) ?_)
  rintro e a' w' ⟨s',m',Pr',hq,hr'⟩
  cases e with
  | normal=>exact pexec_sound hm y Q s' hok.2 r hn.2 hq wk w0 Pr0 m' Pr' a' w' hr'
  | _=>exact ⟨s',m',Pr',hq,hr'⟩
 | .cond c x y,Q,s,hok,r,hr0,h=>fun wk w0 Pr0 m Pr a w hr=>by
  simp only [codeOk,Bool.and_eq_true] at hok
  have hn:(r=none∨noRange x=true)∧(r=none∨noRange y=true):=by
   simp only [noRange,Bool.and_eq_true] at hr0
   rcases hr0 with h0 | ⟨h1,h2⟩
   ·exact ⟨.inl h0,.inl h0⟩
   ·exact ⟨.inr h1,.inr h2⟩
  simp only [pexec,pcond] at h
  obtain ⟨b,hb,h⟩:=pbool_spec h
  have hv:=(hr.opSV (x:=c) (s:=s.den) hb:Rep _ _ _).bool_inv
  have hset:∀b',b=b'→Rel E N wk w0 Pr0 (setB s c b').den m Pr a w:=by
   rintro b' rfl
   cases c with
   | tmp t=>
    have:(setB s (.tmp t) b).den=s.den:=put_same s t _ hb
    rw [this];exact hr
   | _=>exact hr
  cases b with
  | true=>exact wpIn_cond_true hv (pexec_sound hm x Q _ hok.1 r hn.1 (h.1 rfl) wk w0 Pr0 m Pr a w (hset true rfl))
  | false=>exact wpIn_cond_false hv (pexec_sound hm y Q _ hok.2 r hn.2 (h.2 rfl) wk w0 Pr0 m Pr a w (hset false rfl))
 | .block id c,Q,s,hok,r,hr0,h=>fun wk w0 Pr0 m Pr a w hr=>by
  simp only [codeOk] at hok
  simp only [noRange] at hr0
  refine wpIn_block (wpIn_mono (pexec_sound hm c _ s hok r hr0 h wk w0 Pr0 m Pr a w hr) ?_)
  rintro e a' w' ⟨s',m',Pr',hq,hr'⟩
  cases e with
  | exit i=>
   simp only [pblk] at hq
   simp only [Exit.inBlock]
   split
   ·rename_i e;simp only [e,if_true] at hq;exact ⟨s',m',Pr',hq,hr'⟩
   ·rename_i e;simp only [e,if_false] at hq;exact ⟨s',m',Pr',hq,hr'⟩
  | _=>exact ⟨s',m',Pr',hq,hr'⟩
 | .rangeFunc f ps x y,Q,s,hok,r,hr0,h=>by
  simp only [codeOk,Bool.and_eq_true] at hok
  simp only [noRange,Bool.false_eq_true,or_false] at hr0
  subst hr0
  exact h hok.1.1.1 hok.1.1.2 hok.1.2 hok.2 hm
 | .scope _,_,_,_,_,_,h | .label _,_,_,_,_,_,h | .goto _,_,_,_,_,_,h | .refuse _,_,_,_,_,_,h=>h.elim
end
end PG
end
