/- Several parts in one text. -/
import Derived.Test.YtfkgaldbcngliaaGreatDoorG2
section
set_option linter.unusedVariables false
set_option linter.unusedSimpArgs false
namespace PG
open Go Go.RowKit
section
variable {E : PE} {N : Nat} {wk : Gh} {w0 : Fm} {Pr0 : Nat → Nat → Prop}
def presL (E:PE) (s:ES):List ResultVar→Option (List PV × List Nat)
 | []=>some ([],[])
 | .tmp t::rest=>match res E (sget s.τ) (sget s.σ) (.tmp t) with
  | some r=>match close r,presL E s rest with
   | some (v,f),some (vs,fs)=>some (v::vs,f++fs)
   | _,_=>none
  | none=>none
 | .cell a t::rest=>match res E (sget s.τ) (sget s.σ) (.tmp a) with
  | some (.ptr _ off b)=>match partPV E.P t b.cells off,presL E s rest with
   | some v,some (vs,fs)=>some (v::vs,fs)
   | _,_=>none
  | _=>none
def presF (E:PE) (s:ES) (rs:List ResultVar):Option (PV × List Nat):=
 match presL E s rs with
 | some ([v],f)=>some (v,f)
 | some (vs,f)=>some (.tuple vs,f)
 | none=>none
def pres (E:PE) (s:ES) (rs:List ResultVar):Option PV:=
 match presL E s rs with
 | some ([v],_)=>some v
 | some (vs,_)=>some (.tuple vs)
 | none=>none
theorem presF_of {s:ES} {rs:List ResultVar} {r:PV} (h:pres E s rs=some r):∃fz,presF E s rs=some (r,fz):=by
 unfold pres at h
 unfold presF
 split at h
 ·rename_i v f hv;cases h;exact ⟨f,rfl⟩
 ·rename_i vs f hne hv
  cases h
  match vs,hne with
  | [],_=>exact ⟨f,rfl⟩
  | [v],hne=>exact (hne v rfl).elim
  | v::u::l,_=>exact ⟨f,rfl⟩
 ·cases h
def retQ (E:PE) (rs:List ResultVar) (r:PV):Exit→ES→Prop
 | .normal,s=>pres E s rs=some r
 | .ret,s=>pres E s rs=some r
 | _,_=>False
def startL:Nat→List PV→List (Nat × SV)
 | _,[]=>[]
 | i,v::vs=>(i,.val v)::startL (i+1) vs
def pstart (args:List PV):ES:=⟨startL 0 args,[]⟩
theorem get_start (args:List PV):∀(i t:Nat) (v:SV),sget (startL i args) t=some v→∃p,args[t-i]?=some p∧i≤t∧v = .val p:=by
 induction args with
 | nil=>intro i t v h;simp [startL,sget] at h
 | cons a l ih=>
  intro i t v h
  simp only [startL,sget] at h
  split at h
  ·rename_i e;subst e;cases h;exact ⟨a,by simp,Nat.le_refl _,rfl⟩
  ·rename_i hne
   obtain ⟨p,hp,hle,rfl⟩:=ih (i+1) t v h
   refine ⟨p,?_,by omega,rfl⟩
   rw [show t-i=(t-(i+1))+1 by omega]
   simpa using hp
theorem presL_run {s:ES} {m:Nat→Value} {Pr:Nat→Nat→Prop} {a:Act} {w:World} (h:Rel E N wk w0 Pr0 s.den m Pr a w) {fz:List Nat} {Pr':Nat→Nat→Prop}
  (h':Rel E N wk w0 Pr0 ⟨s.den.τ,frzσ s.den.σ fz⟩ m Pr' a w) (hP:∀b o,Pr b o→Pr' b o):∀(rs:List ResultVar) {ps:List PV} {f:List Nat},presL E s rs=some (ps,f)→(∀k∈f,k∈fz) →
   ∃xs:List Value,(rs.mapM fun | .tmp t=>pure (a.tmps.getD t undef) | .cell p t=>do loadVar t (←asAddr (a.tmps.getD p undef)):Sem (List Value)).run E.P w = .ok xs w∧xs.length=ps.length ∧
    ∀(j:Nat) p x,ps[j]?=some p→xs[j]?=some x→Rep (rd w Pr') p x
 | [],ps,f,hp,_=>by
  simp only [presL,Option.some.injEq,Prod.mk.injEq] at hp
  obtain ⟨rfl,rfl⟩:=hp
  exact ⟨[],by simp,rfl,fun j p x hp _=>by simp at hp⟩
 | .tmp t::rest,ps,f,hp,hf=>by
  simp only [presL] at hp
  split at hp
  ·rename_i r hr
   split at hp
   ·rename_i v f1 vs f2 hc hl
    simp only [Option.some.injEq,Prod.mk.injEq] at hp
    obtain ⟨rfl,rfl⟩:=hp
    have hrep:=h.close h' hP (x := .tmp t) hr hc (fun k hk=>hf k (by simp [hk]))
    obtain ⟨xs,hrun,hlen,hreps⟩:=presL_run h h' hP rest hl (fun k hk=>hf k (by simp [hk]))
    refine ⟨a.eval (.tmp t)::xs,?_,by simp [hlen],fun j p x hp hx=>?_⟩
    ·simp only [List.mapM_cons,Sem.run_bind,Sem.run_pure,Result.andThen_ok,hrun]
     rfl
    ·cases j with
     | zero=>simp only [List.getElem?_cons_zero,Option.some.injEq] at hp hx;subst hp;subst hx;exact hrep
     | succ j=>exact hreps j p x (by simpa using hp) (by simpa using hx)
   ·cases hp
  ·cases hp
 | .cell p t::rest,ps,f,hp,hf=>by
  simp only [presL] at hp
  split at hp
  ·rename_i k off b hr
   split at hp
   ·rename_i v vs fs hv hl
    simp only [Option.some.injEq,Prod.mk.injEq] at hp
    obtain ⟨rfl,rfl⟩:=hp
    obtain ⟨ho,fl,hk⟩:=res_ptr hr
    obtain ⟨g,hg,he⟩:=(h.opSV (x := .tmp p) ho:SRep _ _ _ _)
    obtain ⟨ys,hall,hsh,_⟩:=h.blk k _ hk
    obtain ⟨z,hz,hzr⟩:=load_sound (P:=E.P) (ad:=⟨g,0,none⟩) hv hall (w:=w) (fun j y hy=>by rw [addr_add,Nat.zero_add];exact hsh.cell hg j y hy)
    rw [addr_add,Nat.zero_add] at hz
    obtain ⟨xs,hrun,hlen,hreps⟩:=presL_run h h' hP rest hl hf
    have he':asAddr (a.tmps.getD p undef)=pure ⟨g,off,none⟩:=by rw [show a.tmps.getD p undef = .pointer (some ⟨g,off,none⟩) from he];rfl
    refine ⟨z::xs,?_,by simp [hlen],fun j q x hq hx=>?_⟩
    ·simp only [List.mapM_cons,Sem.run_bind,Sem.run_pure,Result.andThen_ok,he',hz,hrun]
    ·cases j with
     | zero=>simp only [List.getElem?_cons_zero,Option.some.injEq] at hq hx;subst hq;subst hx;exact hzr.mono (rd_mono hP)
     | succ j=>exact hreps j q x (by simpa using hq) (by simpa using hx)
   ·cases hp
  ·cases hp
theorem pres_run {s:ES} {m:Nat→Value} {Pr:Nat→Nat→Prop} {a:Act} {w:World} (h:Rel E N wk w0 Pr0 s.den m Pr a w) {fn:Func} {r:PV} {fz:List Nat} (hp:presF E s fn.results.toList=some (r,fz)) :
  ∃v Pr',(results fn a.tmps).run E.P w = .ok v w∧Rel E N wk w0 Pr0 ⟨s.den.τ,frzσ s.den.σ fz⟩ m Pr' a w∧Rep (rd w Pr') r v:=by
 unfold presF at hp
 have fin:∀{vs:List PV} {f:List Nat},presL E s fn.results.toList=some (vs,f)→∃(xs:List Value) (Pr':Nat→Nat→Prop),xs.length=vs.length ∧
   (results fn a.tmps).run E.P w = .ok (if h:xs.toArray.size=1 then xs.toArray[0] else .tuple xs.toArray) w∧Rel E N wk w0 Pr0 ⟨s.den.τ,frzσ s.den.σ f⟩ m Pr' a w ∧
   ∀(j:Nat) p x,vs[j]?=some p→xs[j]?=some x→Rep (rd w Pr') p x:=by
  intro vs f hv
  obtain ⟨Pr',hP,h'⟩:=h.freeze f
  obtain ⟨xs,hrun,hlen,hreps⟩:=presL_run h h' hP fn.results.toList hv (fun k hk=>hk)
  refine ⟨xs,Pr',hlen,?_,h',hreps⟩
  unfold results
  have hrun':(fn.results.mapM fun | .tmp t=>pure (a.tmps.getD t undef) | .cell p t=>do loadVar t (←asAddr (a.tmps.getD p undef)):Sem (Array Value)).run E.P w = .ok xs.toArray w:=by
   rw [Array.mapM_eq_mapM_toList,Sem.run_map,hrun]
   rfl
  rw [Sem.run_bind]
  exact congrArg (fun r:Result (Array Value)=>r.andThen fun vs w'=>Result.ok (if h:vs.size=1 then vs[0] else .tuple vs) w') hrun'
 split at hp
 ·rename_i v f hv
  cases hp
  obtain ⟨xs,Pr',hlen,hrun,h',hreps⟩:=fin hv
  match xs,hlen with
  | [x],_=>exact ⟨x,Pr',by simpa using hrun,h',hreps 0 _ x rfl rfl⟩
 ·rename_i vs f hne hv
  cases hp
  obtain ⟨xs,Pr',hlen,hrun,h',hreps⟩:=fin hv
  have h1:¬xs.toArray.size=1:=by
   intro h1
   simp only [List.size_toArray] at h1
   rw [hlen] at h1
   match vs,h1 with
   | [v],_=>exact hne v rfl
  rw [dif_neg h1] at hrun
  exact ⟨_,Pr',hrun,h',Rep.tuple vs _ (by simp [hlen]) (fun j p x hp hx=>hreps j p x hp (by simpa using hx))⟩
 ·cases hp
theorem Rel.turn {s:PS} {m:Nat→Value} {Pr:Nat→Nat→Prop} {a:Act} {w:World} (h:Rel E N wk w0 Pr0 s m Pr a w) {w':World} {row:Option Nat} (hg:w.grownBy w' row)
  (hr:∀r,row=some r→w0.O r∧∃o:Obj,w.heap[r]?=some o∧o.isCells=false) {a':Act} (ht:a'.tmps=a.tmps) {wk':World} (hd:DfrOk w0.O a' w'∧KeepsOthers wk' w'):Rel E N ⟨wk',wk.m,wk.g⟩ w0 Pr0 s m Pr a' w':=by
 have hcell:∀(a:Addr) x,a.block<w.heap.size→w.cell? a=some x→w'.cell? a=some x:=fun a x hlt hx=>by
  by_cases e:row=some a.block
  ·obtain ⟨_,o,ho,hc⟩:=hr _ e
   exfalso
   unfold World.cell? at hx
   rw [ho] at hx
   cases o<;>simp [Obj.isCells] at hc hx
  ·rw [World.cell?_of_block (hg.block a.block hlt (fun e'=>e e'.symm))];exact hx
 have hle:∀a x,rd w Pr a=some x→rd w' Pr a=some x:=rd_le fun a x hp hc=>⟨hp,hcell a x (h.bnd _ _ hp) hc⟩
 refine ⟨h.below.trans ((Bel.refl _ _).grown hg (fun k hk=>w0.top k (Nat.le_trans h.below.size hk)) (fun g e=>(hr g e).1)),hd,h.pin,fun p x hx=>hle _ _ (h.keep p x hx),by rw [ht];exact h.sz,h.pr0,h.new,fun b o hp=>Nat.lt_of_lt_of_le (h.bnd b o hp) hg.size,fun g cs hG=>(h.glob g cs hG).mono hle,fun t v hv=>?_,fun k b hk=>?_,h.sep⟩
 ·obtain ⟨x,hx,hrep⟩:=h.tmp t v hv
  exact ⟨x,by rw [ht];exact hx,hrep.mono hle fun _ _=>rfl⟩
 ·have hb:=h.blk k b hk
  refine hb.keep hle (fun g hgm=>?_) (fun g _ o=>Iff.rfl)
  obtain ⟨xs,_,hsh,_⟩:=hb
  obtain ⟨cur,e',hh,_⟩:=hsh.at_ hgm
  refine hg.block g (Array.getElem?_eq_some_iff.1 hh).1 (fun e=>?_)
  obtain ⟨_,o,ho,hc⟩:=hr _ e.symm
  rw [hh] at ho;cases ho;cases hc
theorem leaves_rel {fn:Func} {s:ES} {m:Nat→Value} {Pr:Nat→Nat→Prop} {X:Value→World→Prop}
  (fin:∀(wk':World) (a:Act) (w:World),Rel E N ⟨wk',wk.m,wk.g⟩ w0 Pr0 s.den m Pr a w→∃v,(results fn a.tmps).run E.P w = .ok v w∧X v w):∀(Ds:List Nat) {wk':World} {a:Act} {w:World},Rel E N ⟨wk',wk.m,wk.g⟩ w0 Pr0 s.den m Pr a w →
  a.defers=Ds.map (fun D=>{ target := .collected D,args:=#[] })→Ds.Nodup→(∀D∈Ds,w0.O D∧w.heap[D]?=some (.deferred (some []))) →
  LeavesInM (RF none) 0 E.P fn a.tmps (fun e w''=>∃v,e = .returned v∧X v w'') a.defers .returning w
 | [],wk',a,w,h,hd,_,_=>by
  rw [hd]
  obtain ⟨v,hv,hx⟩:=fin _ _ _ h
  exact ⟨v,hv,v,rfl,hx⟩
 | D::Ds,wk',a,w,h,hd,hn,hD=>by
  rw [hd]
  obtain ⟨hge,hh⟩:=hD D (by simp)
  have hn':=List.nodup_cons.1 hn
  have hrest:∀D'∈Ds,w0.O D'∧(w.putObj D (.deferred none)).heap[D']?=some (.deferred (some [])):=fun D' hm=>by
   have h1:=hD D' (by simp [hm])
   have hne:D'≠D:=fun e=>hn'.1 (e ▸ hm)
   have h2:=(grownBy_putObj' w D (.deferred none)).block D' (Array.getElem?_eq_some_iff.1 h1.2).1 (fun e=>by cases e;exact hne rfl)
   exact ⟨h1.1,h2.trans h1.2⟩
  have ht:=h.turn (grownBy_putObj' w D (.deferred none)) (fun r e=>by cases e;exact ⟨hge,_,hh,rfl⟩) (a':={ a with defers:=Ds.map (fun D=>{ target := .collected D,args:=#[] }) }) rfl (wk':=w.putObj D (.deferred none)) ⟨⟨Ds,rfl,hn'.2,hrest⟩,KeepsOthers.refl _⟩
  exact ⟨by simp,.inl ⟨D,_,rfl,run_takeDeferred hh,leaves_rel fin Ds ht rfl hn'.2 hrest⟩⟩
theorem enter_rel {f : FuncId} {fn : Func} {c : Code} {vs : Array Value} {w : World} {Q : Exit → ES → Prop} {X : Value → World → Prop} {s : ES} {m : Nat → Value} {wk : Gh} {w0 : Fm} {Pr0 Pr : Nat → Nat → Prop} (hf : E.P.funcs[f]? = some fn) (hname : (fn.name == "runtime.NumGoroutine") = false) (hb : fn.body = some c)
  (hsem:PSem E fn.ntmps none c Q s)
  (hrel:Rel E fn.ntmps wk w0 Pr0 s.den m Pr { tmps:=vs++Array.replicate (fn.ntmps-vs.size) undef,defers:=[] } w)
  (fin:∀(e:Exit) (s':ES),Q e s'→(e = .normal∨e = .ret)∧∀(m':Nat→Value) (Pr':Nat→Nat→Prop) (wk':World) (a:Act) (w':World),Rel E fn.ntmps ⟨wk',wk.m,wk.g⟩ w0 Pr0 s'.den m' Pr' a w'→∃v,(results fn a.tmps).run E.P w' = .ok v w'∧X v w') :
  (callFunc f vs).run E.P w = .ok (.enter f vs) w∧Calls E.P f vs w (fun e w''=>∃v,e = .returned v∧X v w''):=by
 have hcall:(callFunc f vs).run E.P w = .ok (.enter f vs) w:=by
  have h1 : fn.name ≠ "runtime.NumGoroutine" := by simpa using hname
  simp [callFunc,hf,h1,hb]
 refine ⟨hcall,callsIn_wide.1 (callsIn_of_wp_marks (F:=RF none) (n:=0) hf hb trivial ?_)⟩
 refine wpIn_mono (hsem wk w0 Pr0 m Pr _ w hrel) ?_
 rintro e a' w' ⟨s',m',Pr',hq,hr'⟩
 obtain ⟨Ds,hd,hn,hD⟩:=hr'.dfr.1
 obtain ⟨he,hfin⟩:=fin e s' hq
 rcases he with rfl | rfl
 ·exact leaves_rel (wk:=wk) (hfin m' Pr') Ds (wk':=wk.w) hr' hd hn hD
 ·exact leaves_rel (wk:=wk) (hfin m' Pr') Ds (wk':=wk.w) hr' hd hn hD
theorem PC.enter {f : FuncId} {fn : Func} {c : Code} {vs : Array Value} {r : PV} {w : World} {Pr : Nat → Nat → Prop} {s : ES} (hf : E.P.funcs[f]? = some fn) (hname : (fn.name == "runtime.NumGoroutine") = false) (hb : fn.body = some c)
  (hle:vs.size≤fn.ntmps) (hσ:s.σ=[]) (hτ:∀t v,sget s.τ t=some v→∃x,vs[t]?=some x∧SRep (rd w Pr) (fun _=>undef) v x)
  (hPr:∀g o,Pr g o→g<w.heap.size) (hG:∀g cs,E.G g=some cs→GRep (rd w Pr) (.ref cs) (.pointer (some ⟨g,0,none⟩)) (Whole w g cs.length)) (h:PSem E fn.ntmps none c (retQ E fn.results.toList r) s) :
  match (callFunc f vs).run E.P w with
  | .ok (.value v) w'=>Post w Pr r v w'
  | .ok (.enter f' vs') w'=>w'=w∧Calls E.P f' vs' w (fun e w''=>∃v,e = .returned v∧Post w Pr r v w'')
  | _=>False:=by
 have key:=enter_rel (vs:=vs) (w:=w) (wk:=⟨w,fun _=>undef,rd w Pr⟩) (w0:=⟨w,fun g=>w.heap.size≤g,fun _ h=>h⟩) (Pr0:=Pr) (Pr:=Pr) (m:=fun _=>undef) (X:=fun v w'=>Post w Pr r v w') hf hname hb h
  ⟨Bel.refl _ _,⟨dfrOk_nil rfl,KeepsOthers.refl _⟩,fun _ _=>rfl,fun _ _ h=>h,by simp;omega,fun _ _ h=>h,fun _ _ h => .inl h,hPr,fun g cs hg=>⟨(hG g cs hg).rep,by obtain ⟨_,vs',t,fr,hb',_⟩:=(hG g cs hg).ex;exact Nat.not_le.2 (Array.getElem?_eq_some_iff.1 hb').1,(hG g cs hg).ex⟩,fun t v hv=>by
   obtain ⟨x,hx,hr⟩:=hτ t v hv
   exact ⟨x,by rw [Array.getElem?_append_left (Array.getElem?_eq_some_iff.1 hx).1];exact hx,hr⟩,fun k b hk=>by simp [hσ,ES.den,sget] at hk,fun k k' b b' hk=>by simp [hσ,ES.den,sget] at hk⟩
  (fun e s' hq=>by
   have key:pres E s' fn.results.toList=some r→∀(m':Nat→Value) (Pr':Nat→Nat→Prop) (wk':World) (a:Act) (w':World),Rel E fn.ntmps ⟨wk',fun _=>undef,rd w Pr⟩ ⟨w,fun g=>w.heap.size≤g,fun _ h=>h⟩ Pr s'.den m' Pr' a w'→∃v,(results fn a.tmps).run E.P w' = .ok v w'∧Post w Pr r v w':=by
    intro hp m' Pr' wk' a w' hrel
    obtain ⟨fz,hpF⟩:=presF_of hp
    obtain ⟨v,Pr2,hrun,h2,hrep⟩:=pres_run hrel hpF
    exact ⟨v,hrun,hrep.mono (rd_mono fun g o hp=>h2.new g o hp),h2.below.below⟩
   cases e with
   | normal=>exact ⟨.inl rfl,key hq⟩
   | ret=>exact ⟨.inr rfl,key hq⟩
   | _=>exact hq.elim)
 rw [key.1]
 exact ⟨rfl,key.2⟩
def shiftSV (N:Nat):SV→SV
 | .row k => .row (N+k)
 | .ptr k o => .ptr (N+k) o
 | .sub k o n => .sub (N+k) o n
 | v=>v
def startS (N:Nat):Nat→List SV→List (Nat × SV)
 | _,[]=>[]
 | i,v::vs=>(i,shiftSV N v)::startS N (i+1) vs
def blkL (N:Nat):Nat→List Bk→List (Nat × (Bk × Bool))
 | _,[]=>[]
 | i,b::bs=>(N+i,(b,false))::blkL N (i+1) bs
def mstart (N:Nat) (args:List SV) (bs:List Bk):ES:=⟨startS N 0 args,blkL N 0 bs⟩
def keyM (N nb kn i:Nat):Nat:=if i<nb then N+i else kn
def finM (E:PE) (N nb:Nat) (rs:List ResultVar) (r:SV) (bs':List Bk) (s:ES):Prop:=
 ∃kn,kn<N∧(∀(i:Nat) (b:Bk),bs'[i]?=some b→sget s.σ (keyM N nb kn i)=some (b,false)) ∧
  ((∃pv fz,r = .val pv∧presF E s rs=some (pv,fz)∧∀i,i<bs'.length→keyM N nb kn i∉fz) ∨
   (∃t,rs=[.tmp t]∧bs'.length=nb+1∧((∃o,sget s.τ t=some (.ptr kn o)∧r = .ptr nb o)∨(sget s.τ t=some (.row kn)∧r = .row nb))))
def retM (E:PE) (N nb:Nat) (rs:List ResultVar) (r:SV) (bs':List Bk):Exit→ES→Prop
 | .normal,s=>finM E N nb rs r bs' s
 | .ret,s=>finM E N nb rs r bs' s
 | _,_=>False
theorem get_startS (N:Nat) (args:List SV):∀(i t:Nat) (v:SV),sget (startS N i args) t=some v→∃p,args[t-i]?=some p∧i≤t∧v=shiftSV N p:=by
 induction args with
 | nil=>intro i t v h;simp [startS,sget] at h
 | cons a l ih=>
  intro i t v h
  simp only [startS,sget] at h
  split at h
  ·rename_i e;subst e;cases h;exact ⟨a,by simp,Nat.le_refl _,rfl⟩
  ·rename_i hne
   obtain ⟨p,hp,hle,rfl⟩:=ih (i+1) t v h
   refine ⟨p,?_,by omega,rfl⟩
   rw [show t-i=(t-(i+1))+1 by omega]
   simpa using hp
theorem get_blkL (N:Nat) (bs:List Bk):∀(i k:Nat) (b:Bk × Bool),sget (blkL N i bs) k=some b→∃j c,i≤j∧k=N+j∧bs[j-i]?=some c∧b=(c,false):=by
 induction bs with
 | nil=>intro i k b h;simp [blkL,sget] at h
 | cons a l ih=>
  intro i k b h
  simp only [blkL,sget] at h
  split at h
  ·rename_i e;subst e;cases h;exact ⟨i,a,Nat.le_refl _,rfl,by simp,rfl⟩
  ·obtain ⟨j,c,hle,rfl,hc,rfl⟩:=ih (i+1) k b h
   refine ⟨j,c,by omega,rfl,?_,rfl⟩
   rw [show j-i=(j-(i+1))+1 by omega]
   simpa using hc
theorem PCM.of_sem {f : FuncId} {fn : Func} {c : Code} {args : List SV} {bs : List Bk} {r : SV} {bs' : List Bk} (hf : E.P.funcs[f]? = some fn) (hname : (fn.name == "runtime.NumGoroutine") = false) (hb : fn.body = some c)
  (hle:args.length≤fn.ntmps) (hb1:bs.length≤bs'.length) (hb2:bs'.length≤bs.length+1) (hrk:∀k,r.key=some k→k=bs.length∧bs'.length=bs.length+1) (hrj:r ≠ .junk)
  (h:PSem E fn.ntmps none c (retM E fn.ntmps bs.length fn.results.toList r bs') (mstart fn.ntmps args bs)):PCM E f args bs r bs':=by
 refine ⟨hb1,hb2,hrk,hrj,fun w Pr mv vs hPr hG hbs hsep hsz hreps=>?_⟩
 let N:=fn.ntmps
 let m:Nat→Value:=fun k=>if k<N then undef else mv (k-N)
 have hmk:∀i,m (N+i)=mv i:=fun i=>by
  show (if N+i<N then undef else mv (N+i-N))=mv i
  rw [if_neg (by omega),Nat.add_sub_cancel_left]
 let w0:Fm:=⟨w,OwnM w mv bs.length,fun k hk => .inl hk⟩
 have hcells:∀g,OwnM w mv bs.length g→∀o,w.heap[g]?=some o→o.isCells=false→False:=by
  rintro g (hg | ⟨i,hi,hg⟩) o ho hoc
  ·have:=(Array.getElem?_eq_some_iff.1 ho).1;omega
  ·obtain ⟨xs,_,hsh,_⟩:=hbs i _ (List.getElem?_eq_getElem hi)
   obtain ⟨cur,e',hh,_⟩:=hsh.at_ hg
   rw [hh] at ho;cases ho;cases hoc
 have hown:∀g cs,E.G g=some cs→¬OwnM w mv bs.length g:=by
  intro g cs hg hO
  obtain ⟨hr,hn,vs',t,fr,hb',hl'⟩:=hG g cs hg
  have hlt:=(Array.getElem?_eq_some_iff.1 hb').1
  rcases hO with h1 | ⟨i,hi,h1⟩
  ·omega
  ·obtain ⟨_,_,_,hpr⟩:=hbs i _ (List.getElem?_eq_getElem hi)
   obtain ⟨a0,xs0,ha0,hall,hm⟩:=hr.ref_inv
   cases ha0
   obtain ⟨x,hx,_,_⟩:=hall.at_ (j:=0) (List.getElem?_eq_getElem (by omega))
   have h2:=(rd_some.1 (hm 0 x hx)).1
   rw [addr_add] at h2
   have:=((hpr g h1).2 _).1 h2
   cases this.1
 have hblk0:∀k b,sget (blkL N 0 bs) k=some b→∃i c,k=N+i∧bs[i]?=some c∧b=(c,false):=fun k b hk=>by
  obtain ⟨j,c,_,rfl,hc,rfl⟩:=get_blkL N bs 0 k b hk
  exact ⟨j,c,rfl,by simpa using hc,rfl⟩
 have hrel:Rel E N ⟨w,m,rd w Pr⟩ w0 Pr (mstart N args bs).den m Pr { tmps:=vs++Array.replicate (N-vs.size) undef,defers:=[] } w:=by
  have hN:args.length≤N:=hle
  refine ⟨Bel.refl _ _,⟨dfrOk_nil rfl,KeepsOthers.refl _⟩,fun _ _=>rfl,fun _ _ h=>h,by simp;omega,fun _ _ h=>h,fun _ _ h => .inl h,hPr,fun g cs hg=>⟨(hG g cs hg).rep,hown g cs hg,(hG g cs hg).ex⟩,fun t v hv=>?_,fun k b hk=>?_,fun k k' b b' hk hk' hne=>?_⟩
  ·obtain ⟨p,hp,_,rfl⟩:=get_startS N args 0 t v hv
   simp only [Nat.sub_zero] at hp
   have hlt:t<vs.size:=by rw [hsz];exact (List.getElem?_eq_some_iff.1 hp).1
   refine ⟨vs[t],by rw [Array.getElem?_append_left hlt];exact Array.getElem?_eq_getElem hlt,?_⟩
   have hr:=hreps t p _ hp (Array.getElem?_eq_getElem hlt)
   cases p<;>simp only [shiftSV,SRep,hmk]<;>exact hr
  ·obtain ⟨i,c,rfl,hc,rfl⟩:=hblk0 k b hk
   rw [hmk]
   exact (hbs i c hc).wide fun g hg => .inr ⟨i,(List.getElem?_eq_some_iff.1 hc).1,hg⟩
  ·obtain ⟨i,c,rfl,hc,rfl⟩:=hblk0 k b hk
   obtain ⟨j,d,rfl,hd,rfl⟩:=hblk0 k' b' hk'
   rw [hmk,hmk]
   exact hsep i j c d hc hd fun e=>hne (by rw [e])
 have key:=enter_rel (vs:=vs) (w:=w) (X:=fun v w'=>PostM w Pr mv bs.length r bs' v w') hf hname hb h hrel (fun e s' hq=>by
  have key:finM E N bs.length fn.results.toList r bs' s'→∀(m':Nat→Value) (Pr':Nat→Nat→Prop) (wk':World) (a:Act) (w':World),Rel E N ⟨wk',m,rd w Pr⟩ w0 Pr s'.den m' Pr' a w'→∃v,(results fn a.tmps).run E.P w' = .ok v w'∧PostM w Pr mv bs.length r bs' v w':=by
   rintro ⟨kn,hkn,hσ,hres⟩ m' Pr' wk' a w' hrel'
   have hpin:∀i,m' (N+i)=mv i:=fun i=>(hrel'.pin _ (by omega)).trans (hmk i)
   let mv':Nat→Value:=fun i=>if i<bs.length then mv i else if i<bs'.length then m' kn else undef
   have hmv:∀i,i<bs'.length→m' (keyM N bs.length kn i)=mv' i:=fun i hi=>by
    simp only [keyM,mv']
    split
    ·exact hpin i
    ·first | rfl | rw [if_pos hi]
   have hkinj:∀i j,i<bs'.length→j<bs'.length→i≠j→keyM N bs.length kn i≠keyM N bs.length kn j:=fun i j hi hj hne=>by
    simp only [keyM]
    split<;>split<;>omega
   have fin:∀(v:Value) (Pr2:Nat→Nat→Prop) (s2:PS),Rel E N ⟨wk',m,rd w Pr⟩ w0 Pr s2 m' Pr2 a w'→(∀(i:Nat) (b:Bk),bs'[i]?=some b→s2.σ (keyM N bs.length kn i)=some (b,false))→SRep (rd w' Pr2) mv' r v→PostM w Pr mv bs.length r bs' v w':=by
    intro v Pr2 s2 h2 hσ2 hr
    have hbr:∀(i:Nat) (b:Bk),bs'[i]?=some b→BRep (OwnM w mv bs.length) w' Pr2 (mv' i) (b,false):=fun i b hb=>by
     have:=h2.blk _ _ (hσ2 i b hb)
     rw [hmv i (List.getElem?_eq_some_iff.1 hb).1] at this
     exact this
    have hsep2:∀(i j:Nat) (b c:Bk),bs'[i]?=some b→bs'[j]?=some c→i≠j→∀g,home (mv' i)=some g→home (mv' j)≠some g:=fun i j b c hb hc hne=>by
     have hi:=(List.getElem?_eq_some_iff.1 hb).1
     have hj:=(List.getElem?_eq_some_iff.1 hc).1
     have:=h2.sep _ _ _ _ (hσ2 i b hb) (hσ2 j c hc) (hkinj i j hi hj hne)
     rw [hmv i hi,hmv j hj] at this
     exact this
    refine ⟨mv',Pr2,fun i hi=>by simp [mv',hi],h2.below,⟨h2.below.size,fun k o hk hoc=>?_⟩,h2.pr0,fun g o hp=>?_,h2.bnd,h2.keep,hbr,hsep2,fun i hi g hg=>?_,hr⟩
    ·rw [h2.below.block k (fun hO=>hcells k hO o hk hoc)];exact hk
    ·rcases h2.new g o hp with hp0 | hO | ⟨i,hi,hg⟩
     ·exact .inl hp0
     ·exact .inr hO
     ·exfalso
      obtain ⟨xs,_,_,hpr⟩:=hbr i _ (List.getElem?_eq_getElem (show i<bs'.length by omega))
      have:=((hpr g (by simp only [mv',hi,if_true];exact hg)).2 o).1 hp
      cases this.1
    ·by_cases hil:i<bs'.length
     ·have hbi:=hbr i _ (List.getElem?_eq_getElem hil)
      obtain ⟨xs,_,_,hpr⟩:=hbi
      rcases (hpr g hg).1 with h0 | ⟨j,hj,hgj⟩
      ·exact h0
      ·exfalso
       exact hsep2 i j _ _ (List.getElem?_eq_getElem hil) (List.getElem?_eq_getElem (show j<bs'.length by omega)) (by omega) g hg (by simp only [mv',hj,if_true];exact hgj)
     ·simp only [mv',show ¬i<bs.length by omega,hil,if_false] at hg
      simp [home,undef] at hg
   rcases hres with ⟨pv,fz,rfl,hpF,hfz⟩ | ⟨t,hrs,hlen,hcase⟩
   ·obtain ⟨v,Pr2,hrun,h2,hrep⟩:=pres_run hrel' hpF
    refine ⟨v,hrun,fin v Pr2 _ h2 (fun i b hb=>?_) hrep⟩
    simp only [frzσ,hfz i (List.getElem?_eq_some_iff.1 hb).1,if_false]
    exact hσ i b hb
   ·have hrun:∀x,a.tmps[t]?=some x→(results fn a.tmps).run E.P w' = .ok x w':=fun x hx=>by
     unfold results
     have e:fn.results=#[.tmp t]:=by apply Array.toList_inj.1;rw [hrs]
     rw [e]
     simp [hx]
    have e:m' kn=mv' bs.length:=by simp [mv',hlen]
    rcases hcase with ⟨o,ht,rfl⟩ | ⟨ht,rfl⟩
    ·obtain ⟨x,hx,hr⟩:=hrel'.tmp t _ ht
     refine ⟨x,hrun x hx,fin x Pr' _ hrel' hσ ?_⟩
     simp only [SRep,←e]
     exact hr
    ·obtain ⟨x,hx,hr⟩:=hrel'.tmp t _ ht
     refine ⟨x,hrun x hx,fin x Pr' _ hrel' hσ ?_⟩
     simp only [SRep,←e]
     exact hr
  cases e with
  | normal=>exact ⟨.inl rfl,key hq⟩
  | ret=>exact ⟨.inr rfl,key hq⟩
  | _=>exact hq.elim)
 rw [key.1]
 exact ⟨rfl,key.2⟩
theorem PCM.of_body (hm : E.P.follows .mixedOrders = true) {f : FuncId} {fn : Func} {c : Code} {args : List SV} {bs : List Bk} {r : SV} {bs' : List Bk} (hf : E.P.funcs[f]? = some fn) (hname : (fn.name == "runtime.NumGoroutine") = false) (hb : fn.body = some c)
  (hok:codeOk E.mu E.own fn.ntmps c=true) (hle:args.length≤fn.ntmps) (hb1:bs.length≤bs'.length) (hb2:bs'.length≤bs.length+1) (hrk:∀k,r.key=some k→k=bs.length∧bs'.length=bs.length+1) (hrj:r ≠ .junk)
  (h:pexec E fn.ntmps c (retM E fn.ntmps bs.length fn.results.toList r bs') (mstart fn.ntmps args bs)):PCM E f args bs r bs':=
 PCM.of_sem hf hname hb hle hb1 hb2 hrk hrj (pexec_sound hm c _ _ hok none (.inl rfl) h)
theorem PC.of_sem {f : FuncId} {fn : Func} {c : Code} {args : List PV} {r : PV} (hf : E.P.funcs[f]? = some fn) (hname : (fn.name == "runtime.NumGoroutine") = false) (hb : fn.body = some c)
  (hle:args.length≤fn.ntmps) (h:PSem E fn.ntmps none c (retQ E fn.results.toList r) (pstart args)):PC E f args r:=by
 intro w Pr vs hPr hG hsz hreps
 refine PC.enter hf hname hb (by omega) rfl (fun t v hv=>?_) hPr hG h
 obtain ⟨p,hp,_,rfl⟩:=get_start args 0 t v hv
 simp only [Nat.sub_zero] at hp
 have hlt:t<vs.size:=by rw [hsz];exact (List.getElem?_eq_some_iff.1 hp).1
 exact ⟨vs[t],Array.getElem?_eq_getElem hlt,hreps t p _ hp (Array.getElem?_eq_getElem hlt)⟩
theorem PC.of_body (hm : E.P.follows .mixedOrders = true) {f : FuncId} {fn : Func} {c : Code} {args : List PV} {r : PV} (hf : E.P.funcs[f]? = some fn) (hname : (fn.name == "runtime.NumGoroutine") = false) (hb : fn.body = some c)
  (hok:codeOk E.mu E.own fn.ntmps c=true) (hle:args.length≤fn.ntmps) (h:pexec E fn.ntmps c (retQ E fn.results.toList r) (pstart args)):PC E f args r:=
 PC.of_sem hf hname hb hle (pexec_sound hm c _ _ hok none (.inl rfl) h)
theorem PC.of_slice (hm : E.P.follows .mixedOrders = true) {f : FuncId} {fn : Func} {c : Code} {n : Nat} {cs : List PV} {r : PV} (hf : E.P.funcs[f]? = some fn) (hname : (fn.name == "runtime.NumGoroutine") = false) (hb : fn.body = some c)
  (hok:codeOk E.mu E.own fn.ntmps c=true) (hle:1≤fn.ntmps) (h0:n=0→cs=[]→pexec E fn.ntmps c (retQ E fn.results.toList r) ⟨[(0,.nil)],[]⟩)
  (h1:pexec E fn.ntmps c (retQ E fn.results.toList r) ⟨[(0,.val (.nn n cs))],[]⟩):PC E f [.lst n cs] r:=by
 intro w Pr vs hPr hG hsz hreps
 have hx:∃x,vs=#[x]:=by
  have h2:vs.toList.length=1:=by simpa using hsz
  match hv:vs.toList,h2 with
  | [x],_=>exact ⟨x,by apply Array.toList_inj.1;rw [hv]⟩
 obtain ⟨x,rfl⟩:=hx
 have hr:=hreps 0 _ x rfl rfl
 have hn:=hr.lst_inv
 rcases hn with ⟨rfl,rfl,rfl⟩ | ⟨a,cap,xs,rfl,_⟩
 ·refine PC.enter hf hname hb hle (s:=⟨[(0,.nil)],[]⟩) rfl (fun t v hv=>?_) hPr hG (pexec_sound hm c _ _ hok none (.inl rfl) (h0 rfl rfl))
  simp only [sget] at hv
  split at hv
  ·rename_i e;subst e;cases hv;exact ⟨_,rfl,rfl⟩
  ·cases hv
 ·refine PC.enter hf hname hb hle (s:=⟨[(0,.val (.nn n cs))],[]⟩) rfl (fun t v hv=>?_) hPr hG (pexec_sound hm c _ _ hok none (.inl rfl) h1)
  simp only [sget] at hv
  split at hv
  ·rename_i e;subst e;cases hv;exact ⟨_,rfl,.nn a n cap cs hr⟩
  ·cases hv
def Wk (s s':ES):Prop:=(∀p∈s'.τ,sget s.τ p.1=some p.2)∧(∀p∈s'.σ,sget s.σ p.1=some p.2)
theorem get_mem {α:Type}:∀{l:List (Nat × α)} {t:Nat} {v:α},sget l t=some v→(t,v)∈l
 | [],_,_,h=>by simp [sget] at h
 | (k,u)::l,t,v,h=>by
  simp only [sget] at h
  split at h
  ·rename_i e;subst e;cases h;simp
  ·exact List.mem_cons_of_mem _ (get_mem h)
theorem Rel.weak {s s':ES} {m:Nat→Value} {Pr:Nat→Nat→Prop} {a:Act} {w:World} (h:Rel E N wk w0 Pr0 s.den m Pr a w) (hw:Wk s s'):Rel E N wk w0 Pr0 s'.den m Pr a w:=
 ⟨h.below,h.dfr,h.pin,h.keep,h.sz,h.pr0,h.new,h.bnd,h.glob,fun t v hv=>h.tmp t v (hw.1 _ (get_mem hv)),fun k b hk=>h.blk k b (hw.2 _ (get_mem hk)),
  fun k k' b b' hk hk'=>h.sep k k' b b' (hw.2 _ (get_mem hk)) (hw.2 _ (get_mem hk'))⟩
theorem exists_least {p:Nat→Prop} (h:∃n,p n):∃n,p n∧∀k,p k→n≤k:=by
 obtain ⟨n,hn⟩:=h
 induction n using Nat.strongRecOn with
 | _ n ih=>
  by_cases hl:∃k,k<n∧p k
  ·obtain ⟨k,hk,hpk⟩:=hl
   exact ih k hk hpk
  ·exact ⟨n,hn,fun k hk=>Nat.le_of_not_lt fun hlt=>hl ⟨k,hlt,hk⟩⟩
theorem PLoop.intro {ι:Type} (St:ι→ES) (J:ι→Prop) (μ:ι→Nat) {c:Code} {Q:Exit→ES→Prop} {s:ES} (i0:ι) (hJ:J i0) (h0:Wk s (St i0))
  (hr:∀i,J i→pexec E N c (pseq (fun s'=>∃i',J i'∧μ i'<μ i∧Wk s' (St i')) Q) (St i)):PLoop E N c Q s:=by
 intro hok hm r hr0 wk w0 Pr0 m Pr a w hrel
 let Good:Act→World→Nat→Prop:=fun a w n=>∃i,J i∧μ i=n∧∃m Pr,Rel E N wk w0 Pr0 (St i).den m Pr a w
 let mu:Act→World→Nat:=fun a w=>open Classical in if h:∃n,Good a w n then Classical.choose (exists_least h) else 0
 have hmu:∀a w,(h:∃n,Good a w n)→Good a w (mu a w)∧∀k,Good a w k→mu a w≤k:=fun a w h=>by
  have:=Classical.choose_spec (exists_least h)
  simp only [mu,dif_pos h]
  exact this
 refine wpIn_loop (fun a w=>∃n,Good a w n) mu ⟨_,i0,hJ,rfl,m,Pr,hrel.weak h0⟩ fun a w hI=>?_
 obtain ⟨⟨i,hJi,hμ,m,Pr,hrel⟩,hmin⟩:=hmu a w hI
 refine wpIn_mono (pexec_sound hm c _ _ hok r hr0 (hr i hJi) wk w0 Pr0 m Pr a w hrel) ?_
 rintro e a' w' ⟨s',m',Pr',hq,hr'⟩
 cases e with
 | normal=>
  obtain ⟨i',hJ',hlt,hw⟩:=hq
  have hg:Good a' w' (μ i'):=⟨i',hJ',rfl,m',Pr',hr'.weak hw⟩
  refine ⟨⟨_,hg⟩,?_⟩
  have:=(hmu a' w' ⟨_,hg⟩).2 _ hg
  omega
 | _=>exact ⟨s',m',Pr',hq,hr'⟩
theorem PLoop.nilrow {c:Code} {Q:Exit→ES→Prop} {s:ES} (t k:Nat) (hk:k<N) (e:TypeId) (z:Nat) (ht:sget s.τ t=some .nil)
  (h:PLoop E N c Q ⟨(t,.row k)::killL s.τ [k],(k,(.row e z 0 [],false))::s.σ⟩):PLoop E N c Q s:=by
 intro hok hm r0 hr0 wk w0 Pr0 m Pr a w hrel
 have h1:=hrel.kill [k]
 have h2:=h1.blkset k (.row e z 0 [],false) (.slice none 0 0) w Pr hk (fun t u hu hk=>absurd hk (killτ_key hu k (by simp))) (Bel.refl _ _) (KeepsOthers.refl _) (fun _ _ h=>h) (fun _ _ h => .inl h) (fun _ _ h=>h)
  ⟨[],All2.nil,World.ownsRow_nil w _ e z,fun g hg=>by simp [home] at hg⟩ (fun j bj _ _ g _=>⟨rfl,by simp [home]⟩)
 obtain ⟨x,hx,hr⟩:=hrel.tmp t .nil ht
 refine h hok hm r0 hr0 wk w0 Pr0 (updm m k (.slice none 0 0)) Pr a w ⟨h2.below,h2.dfr,h2.pin,h2.keep,h2.sz,h2.pr0,h2.new,h2.bnd,h2.glob,fun j v hv=>?_,fun j b hj=>?_,fun j j' b b' hj hj'=>?_⟩
 ·simp only [ES.den,get_cons] at hv
  split at hv
  ·rename_i e;subst e;cases hv
   exact ⟨x,hx,by rw [show x=_ from hr];simp [SRep,updm]⟩
  ·rw [get_kill] at hv
   exact h2.tmp j v hv
 ·exact h2.blk j b (by simpa [ES.den,get_cons_upd] using hj)
 ·exact h2.sep j j' b b' (by simpa [ES.den,get_cons_upd] using hj) (by simpa [ES.den,get_cons_upd] using hj')
theorem PLoop.nilval {c:Code} {Q:Exit→ES→Prop} {s:ES} (t:Nat) (ht:sget s.τ t=some .nil) (h:PLoop E N c Q ⟨(t,.val (.lst 0 []))::s.τ,s.σ⟩):PLoop E N c Q s:=by
 intro hok hm r0 hr0 wk w0 Pr0 m Pr a w hrel
 refine h hok hm r0 hr0 wk w0 Pr0 m Pr a w ⟨hrel.below,hrel.dfr,hrel.pin,hrel.keep,hrel.sz,hrel.pr0,hrel.new,hrel.bnd,hrel.glob,fun j v hv=>?_,hrel.blk,hrel.sep⟩
 simp only [ES.den,get_cons] at hv
 split at hv
 ·rename_i e;subst e;cases hv
  obtain ⟨x,hx,hr⟩:=hrel.tmp j .nil ht
  exact ⟨x,hx,by rw [show x=_ from hr];exact Rep.nil⟩
 ·exact hrel.tmp j v hv
theorem PLoop.frz {c:Code} {Q:Exit→ES→Prop} {s:ES} (t k:Nat) {e:TypeId} {z n:Nat} {cs:List PV} {fl:Bool} (ht:sget s.τ t=some (.row k)) (hk:sget s.σ k=some (.row e z n cs,fl)) (h:PLoop E N c Q ⟨(t,.val (.lst n cs))::s.τ,frzL s.σ [k]⟩):PLoop E N c Q s:=by
 intro hok hm r0 hr0 wk w0 Pr0 m Pr a w hrel
 obtain ⟨Pr',hP,h1⟩:=hrel.freeze [k]
 obtain ⟨x,hx,hr⟩:=h1.tmp t (.row k) ht
 have hrow:=h1.frozen_row (k:=k) (e:=e) (z:=z) (n:=n) (cs:=cs) (by
  show frzσ (sget s.σ) [k] k=_
  unfold frzσ
  rw [if_pos (by simp),hk];rfl)
 refine h hok hm r0 hr0 wk w0 Pr0 m Pr' a w ⟨h1.below,h1.dfr,h1.pin,h1.keep,h1.sz,h1.pr0,h1.new,h1.bnd,h1.glob,fun j v hv=>?_,?_,?_⟩
 ·simp only [ES.den,get_cons] at hv
  split at hv
  ·rename_i e;subst e;cases hv
   exact ⟨x,hx,by rw [show x=m k from hr];exact hrow⟩
  ·exact h1.tmp j v hv
 ·intro j b hj
  exact h1.blk j b (by simpa [ES.den,get_frz] using hj)
 ·intro j j' b b' hj hj'
  exact h1.sep j j' b b' (by simpa [ES.den,get_frz] using hj) (by simpa [ES.den,get_frz] using hj')
theorem PC.of_value {f:FuncId} {args:List PV} {r:PV} {v:Value} {xs:Array Value} (hxs:∀(g:Addr→Option Value) (vs:Array Value),vs.size=args.length→(∀(j:Nat) p x,args[j]?=some p→vs[j]?=some x→Rep g p x)→vs=xs)
  (hrun:∀w,(callFunc f xs).run E.P w = .ok (.value v) w) (hr:∀g,Rep g r v):PC E f args r:=by
 intro w Pr vs hPr hG hsz hreps
 have:=hxs _ vs hsz hreps
 subst this
 rw [hrun w]
 exact ⟨hr _,Below.refl _ _⟩
end
end PG
end
section
set_option linter.unusedVariables false
set_option linter.unusedSimpArgs false
namespace PG
open Go Go.RowKit
def back {n:Nat}:Nat→List (Fin n)
 | 0=>[]
 | k+1=>if h:k<n then back k++[⟨n-1-k,by omega⟩] else back k
theorem back_length {n:Nat}:∀k,k≤n→(back (n:=n) k).length=k
 | 0,_=>rfl
 | k+1,h=>by
  have hk:k<n:=h
  simp only [back,dif_pos hk,List.length_append,List.length_singleton,back_length k (Nat.le_of_lt hk)]
theorem back_succ {n k:Nat} (h:k<n):back (n:=n) (k+1)=back k++[⟨n-1-k,by omega⟩]:=by simp only [back];rw [dif_pos h]
def Kg (g:Addr→Option Value) (A B:World):Prop:=∀p x,g p=some x→A.cell? p=some x→B.cell? p=some x
def PIter (E:PE) (gf:FuncId) (caps:List PV) (len:Nat) (el:Nat→PV):Prop:=
 (∀args w,(callFunc gf args).run E.P w = .ok (.enter gf args) w) ∧
 ∀(w:World) (Pr:Nat→Nat→Prop) (lb:Array Value),(∀g o,Pr g o→g<w.heap.size)→lb.size=caps.length→(∀(j:Nat) p x,caps[j]?=some p→lb[j]?=some x→Rep (rd w Pr) p x) →
  ∃ev:Nat→Value,(∀j,j<len→Rep (rd w Pr) (el j) (ev j)) ∧
   SeqStopsK (RF none) 3 E.P gf lb (fun x:Fin len=>#[.int .i64 x.1,ev x.1]) (Kg (rd w Pr)) (fun xs=>xs=back len) (fun pre=>∃k,k≤len∧pre=back k) len w
def shiftB (N:Nat) (σ:List (Nat × (Bk × Bool))):List (Nat × (Bk × Bool)):=σ.map fun p=>(N+p.1,p.2)
def shiftT (N:Nat) (τ:List (Nat × SV)):List (Nat × SV):=τ.map fun p=>(p.1,shiftSV N p.2)
theorem get_shiftT (N:Nat):∀(τ:List (Nat × SV)) (t:Nat),sget (shiftT N τ) t=(sget τ t).map (shiftSV N)
 | [],t=>rfl
 | (k,v)::r,t=>by
  simp only [shiftT,List.map_cons,sget]
  split
  ·rfl
  ·exact get_shiftT N r t
theorem get_shiftB (N:Nat):∀(σ:List (Nat × (Bk × Bool))) (k:Nat) (b:Bk × Bool),sget (shiftB N σ) k=some b→∃j,k=N+j∧sget σ j=some b
 | [],k,b,h=>by simp [shiftB,sget] at h
 | (i,v)::r,k,b,h=>by
  simp only [shiftB,List.map_cons,sget] at h
  split at h
  ·rename_i e;cases h;exact ⟨i,e,by simp [sget]⟩
  ·rename_i hne
   obtain ⟨j,rfl,hj⟩:=get_shiftB N r k b h
   refine ⟨j,rfl,?_⟩
   simp only [sget]
   rw [if_neg (fun e=>hne (by rw [e]))]
   exact hj
theorem SRep.shift {g:Addr→Option Value} {m mS:Nat→Value} {N:Nat} (hm:∀k,mS (N+k)=m k) {u:SV} {x:Value}:SRep g mS (shiftSV N u) x↔SRep g m u x:=by
 cases u<;>simp only [shiftSV,SRep,hm]
section
variable {E : PE} {N : Nat} {wk : Gh} {w0 : Fm} {Pr0 : Nat → Nat → Prop}
theorem room_RF (r:Option Nat) (k:Nat):(RF r).room k:=fun d h=>by simp [RF] at h
theorem wpIn_any {r:Option Nat} {n n':Nat} {P:Program} {c:Code} {Q:Exit→Act→World→Prop} {a:Act} {w:World} (h:c.wpIn (RF r) n P Q a w):c.wpIn (RF r) n' P Q a w:=
 fun b k cs hro hb _=>h b k cs hro hb (room_RF r _)
def asgAct (d p:Nat) (a:Act):Act:=a.put (some d) (a.eval (.tmp p))
theorem wpIn_asg {r:Option Nat} {n id:Nat} {P:Program} {d p:Nat} {ty:TypeId} {pos:String} {after:Array Edge} {Q:Exit→Act→World→Prop} {a:Act} {w:World}
  (h:Q .normal (asgAct d p a) w):(Code.region id #[⟨some d,.assign (.tmp p),ty,pos,after,none⟩] false).wpIn (RF r) n P Q a w:=by
 refine wpIn_any (n:=0) (wpIn_region ?_)
 show wpOpsIn (RF r) 0 P _ Q [0] a w
 rw [wpOpsIn_cons]
 unfold wpOpIn
 simp only [List.size_toArray,List.getElem?_toArray,List.getElem?_cons_zero,Region.wanted,if_true]
 refine wpIn_of_wp (fun c e=>by cases e) ?_
 unfold Oper.wp
 simp only [execOp,Sem.run_pure]
 exact h
def endR (St:List Nat→List (Nat × (Bk × Bool))) (J:List Nat→Prop) (QX:List Nat→Exit→List (Nat × (Bk × Bool))→Prop) (N:Nat) (pre:List Nat):Exit→ES→Prop
 | .normal,s=>J pre∧∀p∈St pre,sget s.σ (N+p.1)=some p.2
 | .ret,s=>∃σ,QX pre .ret σ∧∀p∈σ,sget s.σ (N+p.1)=some p.2
 | .exit i,s=>∃σ,QX pre (.exit i) σ∧∀p∈σ,sget s.σ (N+p.1)=some p.2
 | _,_=>False
theorem Rel.backFrom {τ:List (Nat × SV)} {σ1:List (Nat × (Bk × Bool))} {m m2 mS:Nat→Value} {Pr1 Pr2:Nat→Nat→Prop} {a a2:Act} {W W2:World} {s':ES} {w:World} {g:Addr→Option Value} {σ0:List (Nat × (Bk × Bool))}
  (h1:Rel E N ⟨w,m,g⟩ w0 Pr0 ⟨sget τ,sget σ0⟩ m Pr1 a W) (hmS:∀k,mS (N+k)=m k) (h2:Rel E N ⟨W,mS,rd W Pr1⟩ w0 Pr0 s'.den m2 Pr2 a2 W2) (hσ:∀p∈σ1,sget s'.σ (N+p.1)=some p.2) :
  Rel E N ⟨w,m,g⟩ w0 Pr0 ⟨sget τ,sget σ1⟩ m Pr2 a W2:=by
 have hm2:∀k,m2 (N+k)=m k:=fun k=>(h2.pin _ (by omega)).trans (hmS k)
 refine ⟨h2.below,dk_keep h1.dfr h2.dfr.2,h1.pin,fun p x hx=>h2.keep _ _ (h1.keep p x hx),h1.sz,h2.pr0,h2.new,h2.bnd,h2.glob,fun t u hu=>?_,fun k b hk=>?_,fun k k' b c hk hk' hne=>?_⟩
 ·obtain ⟨x,hx,hr⟩:=h1.tmp t u hu
  exact ⟨x,hx,hr.mono h2.keep fun _ _=>rfl⟩
 ·have:=h2.blk (N+k) b (hσ _ (get_mem hk))
  rwa [hm2] at this
 ·have:=h2.sep (N+k) (N+k') b c (hσ _ (get_mem hk)) (hσ _ (get_mem hk')) (by omega)
  rwa [hm2,hm2] at this
theorem PRange.intro {gf:FuncId} {caps:List PV} {len:Nat} {el:Nat→PV} {f:Operand} {p0 p1 d p id:Nat} {ty:TypeId} {pos:String} {after:Array Edge} {y:Code} {Q:Exit→ES→Prop} {τ:List (Nat × SV)} {σ:List (Nat × (Bk × Bool))}
  (hit:PIter E gf caps len el) (hf:opSV E (sget τ) f=some (.val (.clo gf caps)))
  (hd:d<N) (hp0:p0<N) (hp1:p1<N) (hp01:p0≠p1) (hp:p=p0∨p=p1) (hlen:(len:Int)≤9223372036854775807)
  (St:List Nat→List (Nat × (Bk × Bool))) (J:List Nat→Prop) (QX:List Nat→Exit→List (Nat × (Bk × Bool))→Prop)
  (hJ0:J []) (h0:∀q∈St [],sget σ q.1=some q.2)
  (hround:∀pre i,J pre→pre.length<len→i<len→pexec E N y (endR St J QX N (pre++[i])) ⟨(d,.val (if p=p0 then .int .i64 i else el i))::(p0,.val (.int .i64 i))::(p1,.val (el i))::shiftT N τ,shiftB N (St pre)⟩)
  (hdone:J ((back (n:=len) len).map (·.1))→Q .normal ⟨τ,St ((back (n:=len) len).map (·.1))⟩)
  (hstop:∀k e σx,k≤len→QX ((back (n:=len) k).map (·.1)) e σx→Q e ⟨τ,σx⟩) :
  PRange E N f #[p0,p1] (.region id #[⟨some d,.assign (.tmp p),ty,pos,after,none⟩] false) y Q ⟨τ,σ⟩:=by
 intro hokx hoky hnx hny hmo wk w0 Pr0 m Pr a w hrel
 obtain ⟨lb,hfe,hlb,hlr⟩:=(Rep.clo_inv (hrel.opSV hf:Rep _ _ _))
 obtain ⟨heg,hit⟩:=hit
 obtain ⟨ev,hev,hseq⟩:=hit w Pr lb hrel.bnd hlb hlr
 let gh:Gh:=⟨w,m,rd w Pr⟩
 obtain ⟨Ds,hDs,hDn,hDD⟩:=hrel.dfr.1
 have hDlt:∀D∈Ds,D<w.heap.size:=fun D hD=>(Array.getElem?_eq_some_iff.1 (hDD D hD).2).1
 have htop:∀k,w.heap.size≤k→w0.O k:=fun k hk=>w0.top k (Nat.le_trans hrel.below.size hk)
 let I0:List (Nat × (Bk × Bool))→World→Prop:=fun σ1 W=>∃Pr',Rel E N gh w0 Pr0 ⟨sget τ,sget σ1⟩ m Pr' a W
 have hturn:∀σ1 W W' row,I0 σ1 W→W.grownBy W' row→(∀r,row=some r→w.heap.size≤r∧∃o:Obj,W.heap[r]?=some o∧o.isCells=false)→I0 σ1 W':=by
  rintro σ1 W W' row ⟨Pr',h⟩ hg hr
  obtain ⟨Ds',e',hn',hD'⟩:=h.dfr.1
  have hko:KeepsOthers w W':=⟨Nat.le_trans h.dfr.2.size hg.size,fun k o hk ho=>by
   have hlt:=(Array.getElem?_eq_some_iff.1 hk).1
   rw [hg.block k (Nat.lt_of_lt_of_le hlt h.dfr.2.size) (fun e=>by have:=(hr k e.symm).1;omega)]
   exact h.dfr.2.same k o hk ho⟩
  refine ⟨Pr',h.turn hg (fun r e=>⟨htop r (hr r e).1,(hr r e).2⟩) rfl (wk':=w) ⟨⟨Ds,hDs,hDn,fun D hD=>⟨(hDD D hD).1,?_⟩⟩,hko⟩⟩
  exact hko.same D _ (hDD D hD).2 rfl
 have hI00:I0 (St []) w:=by
  refine ⟨Pr,⟨hrel.below,⟨hrel.dfr.1,KeepsOthers.refl _⟩,fun _ _=>rfl,fun _ _ h=>h,hrel.sz,hrel.pr0,hrel.new,hrel.bnd,hrel.glob,hrel.tmp,fun k b hk=>?_,fun k k' b c hk hk'=>?_⟩⟩
  ·exact hrel.blk k b (h0 _ (get_mem hk))
  ·exact hrel.sep k k' b c (h0 _ (get_mem hk)) (h0 _ (get_mem hk'))
 let I:List (Fin len)→World→Prop:=fun pre W=>J (pre.map (·.1))∧I0 (St (pre.map (·.1))) W
 let Ix:Code→List (Fin len)→World→Prop:=fun c pre W=>match c with
  | .ret=>∃σx,QX (pre.map (·.1)) .ret σx∧I0 σx W
  | .exit i=>∃σx,QX (pre.map (·.1)) (.exit i) σx∧I0 σx W
  | _=>False
 have fin:∀(D:Nat) (W:World) σ1,w.heap.size≤D→I0 σ1 W→W.heap[D]?=some (.deferred (some []))→∃Pr',Rel E N wk w0 Pr0 ⟨sget τ,sget σ1⟩ m Pr' { a with defers:={ target := .collected D,args:=#[] }::a.defers } W:=by
  rintro D W σ1 hD ⟨Pr',h⟩ hh
  refine ⟨Pr',⟨h.below,⟨⟨D::Ds,by rw [hDs];rfl,List.nodup_cons.2 ⟨fun hm=>by have:=hDlt D hm;omega,hDn⟩,fun D' hD'=>?_⟩,hrel.dfr.2.trans h.dfr.2⟩,hrel.pin,fun q x hx=>h.keep _ _ (hrel.keep q x hx),h.sz,h.pr0,h.new,h.bnd,h.glob,h.tmp,h.blk,h.sep⟩⟩
  rcases List.mem_cons.1 hD' with rfl | hD'
  ·exact ⟨htop _ hD,hh⟩
  ·exact ⟨(hDD D' hD').1,h.dfr.2.same D' _ (hDD D' hD').2 rfl⟩
 have hps:∀x:Fin len,(#[Value.int .i64 x.1,ev x.1]:Array Value).size=(#[p0,p1]:Array Tmp).size:=fun x=>rfl
 have hfold:∀x:Fin len,((#[p0,p1]:Array Tmp).zip #[Value.int .i64 x.1,ev x.1]).foldl (fun t (p,v)=>t.setIfInBounds p v) a.tmps=(a.tmps.setIfInBounds p0 (.int .i64 x.1)).setIfInBounds p1 (ev x.1):=fun x=>by simp
 refine wpIn_any (n:=4) (wpIn_rangeFunc_ownF (F:=RF none) (w0:=w) rfl (by decide) hfe trivial heg hseq (fun h k q x hq hA=>k q x hq (h q x hq hA)) ?_ (Below.refl _ _) hps I Ix ?_ ?_ ⟨hJ0,hI00⟩
  (fun x=>asgAct d p { tmps:=(a.tmps.setIfInBounds p0 (.int .i64 x.1)).setIfInBounds p1 (ev x.1),defers:=[] }) ?_ ?_ ?_ ?_)
 ·intro W l o o' hl hh ho _ q x hq hA
  rw [World.cell?_of_block (World.putObj_heap_other (fun e=>?_))]
  ·exact hA
  ·unfold World.cell? at hA
   rw [e,hh] at hA
   cases o<;>simp [Obj.isCells] at ho hA
 ·rintro pre W W' row ⟨hj,hi⟩ hg hr
  exact ⟨hj,hturn _ W W' row hi hg hr⟩
 ·intro c pre W W' row hx hg hr
  cases c with
  | ret=>obtain ⟨σx,hq,hi⟩:=hx;exact ⟨σx,hq,hturn _ W W' row hi hg hr⟩
  | exit i=>obtain ⟨σx,hq,hi⟩:=hx;exact ⟨σx,hq,hturn _ W W' row hi hg hr⟩
  | _=>exact hx.elim
 ·intro l x W K hK
  rw [hfold]
  exact wpIn_asg (r:=some l) hK
 ·rintro l pre x W ⟨hj,Pr',hr⟩ hl
  let mS:Nat→Value:=fun k=>if k<N then undef else m (k-N)
  have hmS:∀k,mS (N+k)=m k:=fun k=>by
   show (if N+k<N then undef else m (N+k-N))=m k
   rw [if_neg (by omega),Nat.add_sub_cancel_left]
  have hsz:a.tmps.size=N:=hr.sz
  have hevx:Rep (rd W Pr') (el x.1) (ev x.1):=(hev x.1 x.2).mono hr.keep
  have h1:Rel E N ⟨W,mS,rd W Pr'⟩ w0 Pr0 (⟨shiftT N τ,shiftB N (St (pre.map (·.1)))⟩:ES).den mS Pr' { tmps:=a.tmps,defers:=[] } W:=by
   refine ⟨hr.below,⟨dfrOk_nil rfl,KeepsOthers.refl _⟩,fun _ _=>rfl,fun _ _ h=>h,hr.sz,hr.pr0,hr.new,hr.bnd,hr.glob,fun t u hu=>?_,fun k b hk=>?_,fun k k' b c hk hk' hne=>?_⟩
   ·simp only [ES.den,get_shiftT,Option.map_eq_some_iff] at hu
    obtain ⟨u0,hu0,rfl⟩:=hu
    obtain ⟨v,hv,hrr⟩:=hr.tmp t u0 hu0
    exact ⟨v,hv,(SRep.shift hmS).2 hrr⟩
   ·obtain ⟨j,rfl,hj'⟩:=get_shiftB N _ k b hk
    rw [hmS];exact hr.blk j b hj'
   ·obtain ⟨j,rfl,hj'⟩:=get_shiftB N _ k b hk
    obtain ⟨j',rfl,hj''⟩:=get_shiftB N _ k' c hk'
    rw [hmS,hmS];exact hr.sep j j' b c hj' hj'' (fun e=>hne (by rw [e]))
  have h2:=h1.put (some p1) (fun q e=>by cases e;exact hp1) (v := .val (el x.1)) (x:=ev x.1) hevx
  have h3:=h2.put (some p0) (fun q e=>by cases e;exact hp0) (v := .val (.int .i64 x.1)) (x := .int .i64 x.1) (Rep.int _ _)
  have hvd:SRep (rd W Pr') mS (.val (if p=p0 then .int .i64 x.1 else el x.1)) (((a.tmps.setIfInBounds p0 (.int .i64 x.1)).setIfInBounds p1 (ev x.1)).getD p undef):=by
   rcases hp with rfl | rfl
   ·rw [if_pos rfl]
    have:((a.tmps.setIfInBounds p (.int .i64 x.1)).setIfInBounds p1 (ev x.1))[p]?=some (.int .i64 x.1):=by
     rw [Array.getElem?_setIfInBounds_ne (fun e=>hp01 e.symm)];simp [hsz,hp0]
    rw [getD_of this];exact Rep.int _ _
   ·rw [if_neg (fun e=>hp01 e.symm)]
    have:((a.tmps.setIfInBounds p0 (.int .i64 x.1)).setIfInBounds p (ev x.1))[p]?=some (ev x.1):=by simp [hsz,hp1]
    rw [getD_of this];exact hevx
  have e3:(({ tmps:=a.tmps,defers:=[] }:Act).put (some p1) (ev x.1)).put (some p0) (.int .i64 x.1)={ tmps:=(a.tmps.setIfInBounds p0 (.int .i64 x.1)).setIfInBounds p1 (ev x.1),defers:=[] }:=by
   simp only [Act.put]
   congr 1
   rw [Array.setIfInBounds_comm _ _ (fun e=>hp01 e.symm)]
  rw [e3] at h3
  have h4:=h3.put (some d) (fun q e=>by cases e;exact hd) hvd
  have hpe:=hround (pre.map (·.1)) x.1 hj (by simpa using hl) x.2
  have hsem:=pexec_sound hmo y _ _ hoky (some l) (.inr hny) hpe ⟨W,mS,rd W Pr'⟩ w0 Pr0 mS Pr' _ W h4
  refine wpIn_any (n:=0) (wpIn_mono hsem ?_)
  rintro e a2 W2 ⟨s',m2,Pr2,hq,hrel2⟩
  have hkp:KeepsOthers W W2:=hrel2.dfr.2
  have hKp:Kg (rd w Pr) W W2:=fun q x hq hA=>(rd_some.1 (hrel2.keep q x (hr.keep q x hq))).2
  have hmap:(pre++[x]).map (·.1)=pre.map (·.1)++[x.1]:=by simp
  cases e with
  | normal=>
   obtain ⟨hj',hσ'⟩:=hq
   exact ⟨hkp,hKp,by rw [hmap];exact hj',by rw [hmap];exact ⟨Pr2,hr.backFrom hmS hrel2 hσ'⟩⟩
  | ret=>
   obtain ⟨σx,hqx,hσ'⟩:=hq
   exact ⟨hkp,σx,by rw [hmap];exact hqx,Pr2,hr.backFrom hmS hrel2 hσ'⟩
  | exit i=>
   obtain ⟨σx,hqx,hσ'⟩:=hq
   exact ⟨hkp,σx,by rw [hmap];exact hqx,Pr2,hr.backFrom hmS hrel2 hσ'⟩
  | _=>exact hq.elim
 ·rintro D xs W hD rfl ⟨hj,hi⟩ hh
  obtain ⟨Pr',h⟩:=fin D W _ hD hi hh
  exact ⟨_,m,Pr',hdone hj,h⟩
 ·rintro D c pre W hD ⟨k,hk,rfl⟩ hx hh
  cases c with
  | ret=>
   obtain ⟨σx,hq,hi⟩:=hx
   obtain ⟨Pr',h⟩:=fin D W _ hD hi hh
   exact wpIn_ret ⟨⟨τ,σx⟩,m,Pr',hstop k _ σx hk hq,h⟩
  | exit i=>
   obtain ⟨σx,hq,hi⟩:=hx
   obtain ⟨Pr',h⟩:=fin D W _ hD hi hh
   exact wpIn_exit ⟨⟨τ,σx⟩,m,Pr',hstop k _ σx hk hq,h⟩
  | _=>exact hx.elim
end
end PG
end
section
set_option linter.unusedVariables false
set_option linter.unusedSimpArgs false
namespace PG
open Go Go.RowKit
class KT where
 k:ES→Prop
class QT where
 q:Exit→ES→Prop
class VT (α:Type) where
 k:α→Prop
class PT where
 p:Prop
def qexec (E:PE) (N:Nat) (c:Code) (s:ES) [Q:QT]:Prop:=pexec E N c Q.q s
def qops (E:PE) (ops l:List Oper) (s:ES) [K:KT]:Prop:=pops E ops l s K.k
def qdo (E : PE) (dst : Option Tmp) (op : Op) (s : ES) [K : KT] : Prop := pstep E ⟨dst, op, 0, "", #[], none⟩ s K.k
def qval {α:Type} (v:Option α) [K:VT α]:Prop:=pval v K.k
def qbool (v:Option SV) [T:PT] [F:PT]:Prop:=pbool v T.p F.p
def qfree (b:Option (Bk × Bool)) [K:PT]:Prop:=pfree b K.p
def qif (b:Bool) [X:PT] [Y:PT]:Prop:=pif b X.p Y.p
def qcont (E:PE) (s:ES) (dst:Option Tmp) (fz:List Nat) (o:Out) [K:KT]:Prop:=pcont E s dst fz K.k o
def qcall (E:PE) (f:FuncId) (args:List PV) [K:VT PV]:Prop:=PCW E f args K.k
def qloop (E:PE) (N:Nat) (c:Code) (s:ES) [Q:QT]:Prop:=PLoop E N c Q.q s
def qrange (E:PE) (N:Nat) (f:Operand) (ps:Array Tmp) (x y:Code) (s:ES) [Q:QT]:Prop:=PRange E N f ps x y Q.q s
def qinl (E:PE) (s:ES) (dst:Option Tmp) (f:FuncId) (args:List SV) [K:KT]:Prop:=PIW E s dst f args K.k
def qgs (v:Option SV) [T:PT] [F:PT] [U:PT]:Prop:=pgs v T.p F.p U.p
def qgrd (want:Bool) [X:PT] [Y:PT]:Prop:=pgrd want X.p Y.p
def qneed (τ:List (Nat × SV)) (A:List (Nat × List Nat)) [X:PT]:Prop:=pneed τ A X.p
def qkeyIn (l:List Nat) (v:Option SV) [X:PT]:Prop:=keyIn l v∧X.p
def qkeyAt (l:List Nat) (o:Option Nat) [X:PT]:Prop:=(∀k,o=some k→k∈l)∧X.p
def qand (c:Prop) [X:PT]:Prop:=c∧X.p
theorem walk {E:PE} {N:Nat} {c:Code} {Q:Exit→ES→Prop} {s:ES} (h:@qexec E N c s ⟨Q⟩):pexec E N c Q s:=h
section
variable {E : PE} {N : Nat} {s : ES} {K : KT} {Q : QT} {ops rest : List Oper} {dst : Option Tmp} {ty : TypeId} {pos : String} {after : Array Edge}
theorem qexec_seq {a b:Code}:@qexec E N (.seq a b) s Q=@qexec E N a s ⟨pseq (fun s'=>@qexec E N b s' Q) Q.q⟩:=(rfl)
theorem qexec_skip:@qexec E N .skip s Q=Q.q .normal s:=(rfl)
theorem qexec_exit {i:Nat}:@qexec E N (.exit i) s Q=Q.q (.exit i) s:=(rfl)
theorem qexec_ret:@qexec E N .ret s Q=Q.q .ret s:=(rfl)
theorem qexec_block {i:Nat} {c:Code}:@qexec E N (.block i c) s Q=@qexec E N c s ⟨pblk i Q.q⟩:=(rfl)
theorem qexec_range {f:Operand} {ps:Array Tmp} {x y:Code}:@qexec E N (.rangeFunc f ps x y) s Q=@qrange E N f ps x y s Q:=(rfl)
theorem qexec_loop {c:Code}:@qexec E N (.loop c) s Q=@qloop E N c s Q:=(rfl)
theorem qexec_cond {c:Operand} {x y:Code} {τ:List (Nat × SV)} {σ:List (Nat × (Bk × Bool))} :
  @qexec E N (.cond c x y) ⟨τ,σ⟩ Q=@qbool (opSV E (sget τ) c) ⟨@qexec E N x (setB ⟨τ,σ⟩ c true) Q⟩ ⟨@qexec E N y (setB ⟨τ,σ⟩ c false) Q⟩:=(rfl)
theorem qexec_region {id:Nat} {l:List Oper} {τ:List (Nat × SV)} {σ:List (Nat × (Bk × Bool))} :
  @qexec E N (.region id l.toArray false) ⟨τ,σ⟩ Q=@qops E l l ⟨killL τ (newDsts l),σ⟩ ⟨Q.q .normal⟩:=by
 simp [qexec,pexec,qops,pneed,regDsts]
theorem qexec_drawn {id:Nat} {l:List Oper} {τ:List (Nat × SV)} {σ:List (Nat × (Bk × Bool))} :
  @qexec E N (.region id l.toArray true) ⟨τ,σ⟩ Q=@qneed (killL τ (newDsts l++inlDsts E.mu l)) (E.own N id) ⟨@qops E l l ⟨killL τ (newDsts l++inlDsts E.mu l),σ⟩ ⟨Q.q .normal⟩⟩:=by
 simp [qexec,pexec,qops,qneed,regDsts]
theorem qneed_nil {τ:List (Nat × SV)} {X:PT}:@qneed τ [] X=X.p:=(rfl)
theorem qneed_cons {τ:List (Nat × SV)} {t:Nat} {l:List Nat} {A:List (Nat × List Nat)} {X:PT}:@qneed τ ((t,l)::A) X=@qkeyIn l (sget τ t) ⟨@qneed τ A X⟩:=(rfl)
theorem qkeyIn_none {l:List Nat} {X:PT}:@qkeyIn l none X=X.p:=by simp [qkeyIn,keyIn]
theorem qkeyIn_some {l:List Nat} {u:SV} {X:PT}:@qkeyIn l (some u) X=@qkeyAt l u.key X:=(rfl)
theorem qkeyAt_none {l:List Nat} {X:PT}:@qkeyAt l none X=X.p:=by simp [qkeyAt]
theorem qkeyAt_some {l:List Nat} {k:Nat} {X:PT}:@qkeyAt l (some k) X=@qand (k∈l) X:=by simp [qkeyAt,qand]
theorem qops_nil:@qops E ops [] s K=K.k s:=(rfl)
theorem qops_none {op:Op}:@qops E ops (⟨dst,op,ty,pos,after,none⟩::rest) s K=@qdo E dst op s ⟨fun s'=>@qops E ops rest s' K⟩:=(rfl)
theorem qops_some {op:Op} {j:Nat} {want:Bool} {τ:List (Nat × SV)} {σ:List (Nat × (Bk × Bool))} :
  @qops E ops (⟨dst,op,ty,pos,after,some (j,want)⟩::rest) ⟨τ,σ⟩ K=@qval _ (gdst ops j) ⟨fun t=>@qgs (sget τ t)
  ⟨@qgrd want ⟨@qdo E dst op ⟨(t,.val (.bool true))::τ,σ⟩ ⟨fun s'=>@qops E ops rest s' K⟩⟩ ⟨@qops E ops rest ((⟨(t,.val (.bool true))::τ,σ⟩:ES).put dst (.val (.tuple []))) K⟩⟩
  ⟨@qgrd want ⟨@qops E ops rest ((⟨(t,.val (.bool false))::τ,σ⟩:ES).put dst (.val (.tuple []))) K⟩ ⟨@qdo E dst op ⟨(t,.val (.bool false))::τ,σ⟩ ⟨fun s'=>@qops E ops rest s' K⟩⟩⟩
  ⟨@qops E ops rest ((⟨(t,.val (.tuple []))::τ,σ⟩:ES).put dst (.val (.tuple []))) K⟩⟩:=(rfl)
theorem put_some {τ:List (Nat × SV)} {σ:List (Nat × (Bk × Bool))} {d:Tmp} {v:SV}:(⟨τ,σ⟩:ES).put (some d) v=⟨(d,v)::τ,σ⟩:=(rfl)
theorem put_none {v:SV}:s.put none v=s:=(rfl)
theorem pseq_normal {K:ES→Prop} {Q:Exit→ES→Prop}:pseq K Q .normal s=K s:=(rfl)
theorem pseq_ret {K:ES→Prop} {Q:Exit→ES→Prop}:pseq K Q .ret s=Q .ret s:=(rfl)
theorem pseq_exit {K:ES→Prop} {Q:Exit→ES→Prop} {i:Nat}:pseq K Q (.exit i) s=Q (.exit i) s:=(rfl)
theorem pblk_normal {Q:Exit→ES→Prop} {i:Nat}:pblk i Q .normal s=Q .normal s:=(rfl)
theorem pblk_ret {Q:Exit→ES→Prop} {i:Nat}:pblk i Q .ret s=Q .ret s:=(rfl)
theorem pblk_exit {Q:Exit→ES→Prop} {i:Nat}:pblk i Q (.exit i) s=Q .normal s:=if_pos rfl
theorem pblk_other {Q:Exit→ES→Prop} {i j:Nat} (h:Nat.beq j i=false):pblk i Q (.exit j) s=Q (.exit j) s:=if_neg (fun e=>by subst e;rw [show Nat.beq j j=true from Nat.beq_refl j] at h;cases h)
theorem inlDsts_nil {mu:Nat→Bool}:inlDsts mu []=[]:=(rfl)
theorem inlDsts_cons {mu:Nat→Bool} {op:Op} {g:Option (Nat × Bool)}:inlDsts mu (⟨dst,op,ty,pos,after,g⟩::rest)=if isInl mu op=true then dst.toList++inlDsts mu rest else inlDsts mu rest:=(rfl)
theorem newDsts_nil:newDsts []=[]:=(rfl)
theorem newDsts_cons {op:Op} {g:Option (Nat × Bool)}:newDsts (⟨dst,op,ty,pos,after,g⟩::rest)=if isNew op=true then dst.toList++newDsts rest else newDsts rest:=(rfl)
theorem gdst_zero {op:Op} {g:Option (Nat × Bool)}:gdst (⟨dst,op,ty,pos,after,g⟩::rest) 0=dst:=(rfl)
theorem gdst_succ {o:Oper} {n:Nat}:gdst (o::rest) (n+1)=gdst rest n:=(rfl)
theorem sget_nil {α:Type} {t:Nat}:sget ([]:List (Nat × α)) t=none:=(rfl)
theorem sget_cons {α:Type} {k t:Nat} {v:α} {r:List (Nat × α)}:sget ((k,v)::r) t=if t=k then some v else sget r t:=(rfl)
def presC (r:Option RV) (l:Option (List PV × List Nat)):Option (List PV × List Nat):=match r with
 | some r=>match close r,l with
  | some (v,f),some (vs,fs)=>some (v::vs,f++fs)
  | _,_=>none
 | none=>none
def idxS (s:ByteArray) (n:Int):Option SV:=if h:0≤n∧n.toNat<s.size then some (.val (.int .u8 (s[n.toNat]'h.2).toNat)) else none
theorem qdo_indexS {t:TypeId} {x y:Operand} {d:Tmp} {τ:List (Nat × SV)} {σ:List (Nat × (Bk × Bool))} {b:ByteArray} {k:IntKind} {n:Int} (ht:lk E.P t = .str) (hx:opSV E (sget τ) x=some (.val (.str b))) (hy:opSV E (sget τ) y=some (.val (.int k n)))
  (h:@qval _ (idxS b n) ⟨fun v=>K.k ⟨(d,v)::τ,σ⟩⟩):@qdo E (some d) (.index t x y) ⟨τ,σ⟩ K:=by
 show pval (stepA E (.index t x y) (opSV E (sget τ))) fun v=>K.k ⟨(d,v)::τ,σ⟩
 simp only [stepA,hx,hy,ht,svPV]
 exact h
theorem idx_tab {s:ByteArray} {n:Int} (f:Nat→Nat) (m:Nat) (hs:(Nat.beq s.size m && (List.range m).all fun i=>Nat.beq (s[i]!).toNat (f i))=true) (h0:0≤n) (h1:n.toNat<m):idxS s n=some (.val (.int .u8 (f n.toNat))):=by
 simp only [Bool.and_eq_true,List.all_eq_true,List.mem_range] at hs
 obtain ⟨hsz,hall⟩:=hs
 have hsz:=Nat.eq_of_beq_eq_true hsz
 have hlt:n.toNat<s.size:=by omega
 have hv:=Nat.eq_of_beq_eq_true (hall n.toNat h1)
 rw [getElem!_pos s n.toNat hlt] at hv
 unfold idxS
 rw [dif_pos ⟨h0,hlt⟩,←hv]
theorem presL_nil:presL E s []=some ([],[]):=(rfl)
theorem presL_tmp {t:Tmp} {rest:List ResultVar} {τ:List (Nat × SV)} {σ:List (Nat × (Bk × Bool))}:presL E ⟨τ,σ⟩ (.tmp t::rest)=presC (res E (sget τ) (sget σ) (.tmp t)) (presL E ⟨τ,σ⟩ rest):=(rfl)
def presC2 (v:Option PV) (l:Option (List PV × List Nat)):Option (List PV × List Nat):=match v,l with
 | some v,some (vs,fs)=>some (v::vs,fs)
 | _,_=>none
def cellPV (E:PE) (r:Option RV) (t:TypeId):Option PV:=match r with
 | some (.ptr _ off b)=>partPV E.P t b.cells off
 | _=>none
theorem cellPV_ptr {k off:Nat} {b:Bk} {t:TypeId}:cellPV E (some (.ptr k off b)) t=partPV E.P t b.cells off:=(rfl)
theorem presC2_some {v:PV} {vs:List PV} {fs:List Nat}:presC2 (some v) (some (vs,fs))=some (v::vs,fs):=(rfl)
theorem presL_cell {a:Tmp} {t:TypeId} {rest:List ResultVar} {τ:List (Nat × SV)} {σ:List (Nat × (Bk × Bool))}:presL E ⟨τ,σ⟩ (.cell a t::rest)=presC2 (cellPV E (res E (sget τ) (sget σ) (.tmp a)) t) (presL E ⟨τ,σ⟩ rest):=by
 simp only [presL,presC2,cellPV]
 cases res E (sget τ) (sget σ) (.tmp a) with
 | none=>rfl
 | some r=>cases r<;>rfl
theorem retM_normal {nb:Nat} {rs:List ResultVar} {r:SV} {bs':List Bk}:retM E N nb rs r bs' .normal s=finM E N nb rs r bs' s:=(rfl)
theorem retM_ret {nb:Nat} {rs:List ResultVar} {r:SV} {bs':List Bk}:retM E N nb rs r bs' .ret s=finM E N nb rs r bs' s:=(rfl)
theorem endR_normal {St J QX} {pre:List Nat}:endR St J QX N pre .normal s=(J pre∧∀p∈St pre,sget s.σ (N+p.1)=some p.2):=(rfl)
theorem endR_ret {St J QX} {pre:List Nat}:endR St J QX N pre .ret s=(∃σ,QX pre .ret σ∧∀p∈σ,sget s.σ (N+p.1)=some p.2):=(rfl)
theorem finM_val {nb:Nat} {rs:List ResultVar} {pv:PV} {fz:List Nat} {bs':List Bk} (h0:0<N) (hσ:∀(i:Nat) (b:Bk),bs'[i]?=some b→sget s.σ (N+i)=some (b,false)) (hl:bs'.length=nb) (hp:presF E s rs=some (pv,fz)) (hf:∀i,i<nb→N+i∉fz):finM E N nb rs (.val pv) bs' s:=
 ⟨0,h0,fun i b hb=>by
  have hlt:=(List.getElem?_eq_some_iff.1 hb).1
  simp only [keyM,show i<nb by omega,if_true];exact hσ i b hb,.inl ⟨pv,fz,rfl,hp,fun i hi=>by simp only [keyM,show i<nb by omega,if_true];exact hf i (by omega)⟩⟩
theorem retQ_ret {rs:List ResultVar} {r:PV}:retQ E rs r .ret s=(pres E s rs=some r):=(rfl)
theorem qval_some {α:Type} {v:α} {K:VT α}:@qval α (some v) K=K.k v:=(rfl)
theorem qbool_some {b:Bool} {T F:PT}:@qbool (some (.val (.bool b))) T F=@qif b T F:=(rfl)
theorem qgs_bool {b:Bool} {T F U:PT}:@qgs (some (.val (.bool b))) T F U=@qif b T F:=(rfl)
theorem qgs_und {T F U:PT}:@qgs (some (.val (.tuple []))) T F U=U.p:=(rfl)
theorem qfree_some {b:Bk} {K:PT}:@qfree (some (b,false)) K=K.p:=(rfl)
theorem qgrd_true {X Y:PT}:@qgrd true X Y=X.p:=(rfl)
theorem qgrd_false {X Y:PT}:@qgrd false X Y=Y.p:=(rfl)
theorem qif_true {X Y:PT}:@qif true X Y=X.p:=by simp [qif,pif]
theorem qif_false {X Y:PT}:@qif false X Y=Y.p:=by simp [qif,pif]
theorem qval_ite {α:Type} {c:Prop} [Decidable c] {v:Option α} {K:VT α}:@qval α (if c then v else none) K=@qand c ⟨@qval α v K⟩:=by
 by_cases h:c<;>simp [h,qval,pval,qand]
theorem qval_itn {α:Type} {c:Prop} [Decidable c] {v:Option α} {K:VT α}:@qval α (if c then none else v) K=@qand (¬c) ⟨@qval α v K⟩:=by
 by_cases h:c<;>simp [h,qval,pval,qand]
theorem qand_true {X:PT}:@qand True X=X.p:=by simp [qand]
theorem map_ite {α β:Type} {c:Prop} [Decidable c] {u v:Option α} {f:α→β}:Option.map f (if c then u else v)=if c then Option.map f u else Option.map f v:=by
 split<;>rfl
theorem map_some' {α β:Type} {f:α→β} {v:α}:Option.map f (some v)=some (f v):=(rfl)
theorem map_none' {α β:Type} {f:α→β}:Option.map f none=none:=(rfl)
theorem qif_i {b:Bool} {X Y:PT} (h1:b=true→X.p) (h2:b=false→Y.p):@qif b X Y:=⟨h1,h2⟩
theorem qif_t {b:Bool} {X Y:PT} (hb:b=true) (h:X.p):@qif b X Y:=by subst hb;rw [qif_true];exact h
theorem qif_f {b:Bool} {X Y:PT} (hb:b=false) (h:Y.p):@qif b X Y:=by subst hb;rw [qif_false];exact h
theorem qif_d {c:Prop} [Decidable c] {X Y:PT} (h1:c→X.p) (h2:¬c→Y.p):@qif (decide c) X Y:=⟨fun h=>h1 (of_decide_eq_true h),fun h=>h2 (of_decide_eq_false h)⟩
theorem qif_dt {c:Prop} [Decidable c] {X Y:PT} (hc:c) (h:X.p):@qif (decide c) X Y:=qif_t (decide_eq_true hc) h
theorem qif_df {c:Prop} [Decidable c] {X Y:PT} (hc:¬c) (h:Y.p):@qif (decide c) X Y:=qif_f (decide_eq_false hc) h
theorem qand_i {c:Prop} {X:PT} (hc:c) (h:X.p):@qand c X:=⟨hc,h⟩
theorem qcall_i {f:FuncId} {args:List PV} {K:VT PV} {r:PV} (h:PC E f args r) (hk:K.k r):@qcall E f args K:=⟨r,h,hk⟩
theorem qinl_i {τ:List (Nat × SV)} {σ:List (Nat × (Bk × Bool))} {f:FuncId} {args cargs:List SV} {bs bs':List Bk} {r:SV} (ks:List Nat) (h:PCM E f cargs bs r bs') (hargs:args=cargs.map (ren ks)) (hnd:ks.Nodup) (hlen:ks.length=bs.length)
  (hb:∀(i:Nat) (b:Bk) (k:Nat),bs[i]?=some b→ks[i]?=some k→sget σ k=some (b,false)) (hd:∀d,dst=some d→d∉ks) (hd0:dst=none→bs'.length=bs.length)
  (hk:K.k ((⟨killL τ dst.toList,(ks++dst.toList).zip (bs'.map fun b=>(b,false))++eraO σ dst⟩:ES).put dst (ren (ks++dst.toList) r))):@qinl E ⟨τ,σ⟩ dst f args K:=
 ⟨ks,cargs,bs,bs',r,h,hargs,hnd,hlen,hb,hd,hd0,hk⟩
theorem qval_i {α:Type} {v:Option α} {x:α} {K:VT α} (h:v=some x) (hk:K.k x):@qval α v K:=by subst h;exact hk
def njSV (v:Option SV):Option SV:=match v with
 | some .junk=>none
 | v=>v
def binV (E:PE) (op:BinOp) (t:TypeId) (x y:Option SV):Option SV:=match svPV x,svPV y with
 | some a,some b=>(pbin E.P op t a b).map .val
 | _,_=>nilCmp E.P op t x y
section
variable {d : Tmp} {τ : List (Nat × SV)} {σ : List (Nat × (Bk × Bool))} {x y : Operand} {t r : TypeId}
theorem qdo_move:@qdo E (some d) (.move x) ⟨τ,σ⟩ K=@qval _ (njSV (opSV E (sget τ) x)) ⟨fun v=>K.k ⟨(d,v)::τ,σ⟩⟩:=(rfl)
theorem qdo_assign:@qdo E (some d) (.assign x) ⟨τ,σ⟩ K=@qval _ (opSV E (sget τ) x) ⟨fun v=>K.k ⟨(d,v)::τ,σ⟩⟩:=(rfl)
theorem qdo_binOp {op:BinOp}:@qdo E (some d) (.binOp op t x y r) ⟨τ,σ⟩ K=@qval _ (binV E op t (opSV E (sget τ) x) (opSV E (sget τ) y)) ⟨fun v=>K.k ⟨(d,v)::τ,σ⟩⟩:=(rfl)
theorem qdo_pick {x y z}:@qdo E (some d) (.pick x y z) ⟨τ,σ⟩ K=@qval _ (stepA E (.pick x y z) (opSV E (sget τ))) ⟨fun v=>K.k ⟨(d,v)::τ,σ⟩⟩:=(rfl)
theorem qdo_unOp {op t x}:@qdo E (some d) (.unOp op t x) ⟨τ,σ⟩ K=@qval _ (stepA E (.unOp op t x) (opSV E (sget τ))) ⟨fun v=>K.k ⟨(d,v)::τ,σ⟩⟩:=(rfl)
theorem qdo_convert {t t' x}:@qdo E dst (.convert t t' x) ⟨τ,σ⟩ K=@qval _ (stepR E (.convert t t' x) (res E (sget τ) (sget σ))) ⟨fun p=>@qcont E ⟨τ,σ⟩ dst p.2 p.1 K⟩:=(rfl)
theorem qdo_extract {x i}:@qdo E (some d) (.extract x i) ⟨τ,σ⟩ K=@qval _ (stepA E (.extract x i) (opSV E (sget τ))) ⟨fun v=>K.k ⟨(d,v)::τ,σ⟩⟩:=(rfl)
theorem qdo_field {t x i}:@qdo E (some d) (.field t x i) ⟨τ,σ⟩ K=@qval _ (stepA E (.field t x i) (opSV E (sget τ))) ⟨fun v=>K.k ⟨(d,v)::τ,σ⟩⟩:=(rfl)
theorem qdo_fieldAddr {t x i}:@qdo E (some d) (.fieldAddr t x i) ⟨τ,σ⟩ K=@qval _ (stepA E (.fieldAddr t x i) (opSV E (sget τ))) ⟨fun v=>K.k ⟨(d,v)::τ,σ⟩⟩:=(rfl)
theorem qdo_alloc {t}:@qdo E dst (.alloc t) ⟨τ,σ⟩ K=@qval _ (stepR E (.alloc t) (res E (sget τ) (sget σ))) ⟨fun p=>@qcont E ⟨τ,σ⟩ dst p.2 p.1 K⟩:=(rfl)
theorem qdo_box {t x}:@qdo E dst (.box t x) ⟨τ,σ⟩ K=@qval _ (stepR E (.box t x) (res E (sget τ) (sget σ))) ⟨fun p=>@qcont E ⟨τ,σ⟩ dst p.2 p.1 K⟩:=(rfl)
theorem qdo_build {t parts}:@qdo E dst (.build t parts) ⟨τ,σ⟩ K=@qval _ (stepR E (.build t parts) (res E (sget τ) (sget σ))) ⟨fun p=>@qcont E ⟨τ,σ⟩ dst p.2 p.1 K⟩:=(rfl)
theorem qdo_buildSlice {t i parts}:@qdo E dst (.buildSlice t i parts) ⟨τ,σ⟩ K=@qval _ (stepR E (.buildSlice t i parts) (res E (sget τ) (sget σ))) ⟨fun p=>@qcont E ⟨τ,σ⟩ dst p.2 p.1 K⟩:=(rfl)
theorem qdo_load {t x}:@qdo E dst (.load t x) ⟨τ,σ⟩ K=@qval _ (stepR E (.load t x) (res E (sget τ) (sget σ))) ⟨fun p=>@qcont E ⟨τ,σ⟩ dst p.2 p.1 K⟩:=(rfl)
theorem qdo_store {t x y}:@qdo E dst (.store t x y) ⟨τ,σ⟩ K=@qval _ (stepR E (.store t x y) (res E (sget τ) (sget σ))) ⟨fun p=>@qcont E ⟨τ,σ⟩ dst p.2 p.1 K⟩:=(rfl)
theorem qdo_makeFunc {f a b}:@qdo E dst (.makeFunc f a b) ⟨τ,σ⟩ K=@qval _ (stepR E (.makeFunc f a b) (res E (sget τ) (sget σ))) ⟨fun p=>@qcont E ⟨τ,σ⟩ dst p.2 p.1 K⟩:=(rfl)
theorem qdo_makeSlice {t x y}:@qdo E dst (.makeSlice t x y) ⟨τ,σ⟩ K=@qval _ (stepR E (.makeSlice t x y) (res E (sget τ) (sget σ))) ⟨fun p=>@qcont E ⟨τ,σ⟩ dst p.2 p.1 K⟩:=(rfl)
theorem qdo_slice {t x lo hi mx}:@qdo E dst (.slice t x lo hi mx) ⟨τ,σ⟩ K=@qval _ (stepR E (.slice t x lo hi mx) (res E (sget τ) (sget σ))) ⟨fun p=>@qcont E ⟨τ,σ⟩ dst p.2 p.1 K⟩:=(rfl)
theorem qdo_indexAddr {t x y}:@qdo E dst (.indexAddr t x y) ⟨τ,σ⟩ K=@qval _ (stepR E (.indexAddr t x y) (res E (sget τ) (sget σ))) ⟨fun p=>@qcont E ⟨τ,σ⟩ dst p.2 p.1 K⟩:=(rfl)
theorem qdo_call {c}:@qdo E dst (.call c) ⟨τ,σ⟩ K=@qval _ (stepR E (.call c) (res E (sget τ) (sget σ))) ⟨fun p=>@qcont E ⟨τ,σ⟩ dst p.2 p.1 K⟩:=(rfl)
theorem qcont_val {fz:List Nat} {v:SV}:@qcont E ⟨τ,σ⟩ dst fz (.val v) K=K.k ((⟨τ,frzL σ fz⟩:ES).put dst v):=(rfl)
theorem qcont_new {fz:List Nat} {b:Bk}:@qcont E ⟨τ,σ⟩ (some d) fz (.new b) K=K.k ⟨(d,newSV d b)::τ,(d,(b,false))::frzL σ fz⟩:=(rfl)
theorem qcont_st {fz:List Nat} {k:Nat} {b:Bk}:@qcont E ⟨τ,σ⟩ dst fz (.st k b) K=@qfree (sget σ k) ⟨@qand (k∉fz) ⟨K.k ((⟨τ,(k,(b,false))::frzL σ fz⟩:ES).put dst .junk)⟩⟩:=(rfl)
theorem qcont_app0 {fz:List Nat} {b:Bk}:@qcont E ⟨τ,σ⟩ (some d) fz (.app none b) K=K.k ⟨(d,.row d)::killL τ [d],(d,(b,false))::frzL σ fz⟩:=(rfl)
theorem qcont_app {fz:List Nat} {j:Nat} {b:Bk}:@qcont E ⟨τ,σ⟩ (some d) fz (.app (some j) b) K =
  @qfree (sget σ j) ⟨@qand (j∉fz) ⟨K.k ⟨(d,.row d)::killL τ [d],(d,(b,false))::eraL (frzL σ fz) j⟩⟩⟩:=(rfl)
theorem qcont_inl {fz:List Nat} {f:FuncId} {args:List SV}:@qcont E ⟨τ,σ⟩ dst fz (.inl f args) K=@qinl E ⟨τ,σ⟩ dst f args K:=(rfl)
theorem qcont_call {fz:List Nat} {f:FuncId} {args:List PV}:@qcont E ⟨τ,σ⟩ dst fz (.call f args) K=@qcall E f args ⟨fun r=>K.k ((⟨τ,frzL σ fz⟩:ES).put dst (.val r))⟩:=(rfl)
end
theorem njSV_val {v:PV}:njSV (some (.val v))=some (.val v):=(rfl)
theorem njSV_nil:njSV (some .nil)=some .nil:=(rfl)
theorem njSV_row {k:Nat}:njSV (some (.row k))=some (.row k):=(rfl)
theorem njSV_sub {k o n:Nat}:njSV (some (.sub k o n))=some (.sub k o n):=(rfl)
section
variable {P : Program} {t : TypeId} {k k' : IntKind} {a b : Int}
theorem binV_val {op:BinOp} {v w:PV}:binV E op t (some (.val v)) (some (.val w))=(pbin E.P op t v w).map .val:=(rfl)
theorem binV_nil {op:BinOp}:binV E op t (some .nil) (some .nil)=nilCmp E.P op t (some .nil) (some .nil):=(rfl)
theorem binV_nn {op:BinOp} {n:Nat} {cs:List PV}:binV E op t (some (.val (.nn n cs))) (some .nil)=nilCmp E.P op t (some (.val (.nn n cs))) (some .nil):=(rfl)
theorem bin_add:pbin P .add t (.int k a) (.int k b)=some (.int k (k.wrap (a+b))):=if_pos rfl
theorem bin_sub:pbin P .sub t (.int k a) (.int k b)=some (.int k (k.wrap (a-b))):=if_pos rfl
theorem bin_mul:pbin P .mul t (.int k a) (.int k b)=some (.int k (k.wrap (a*b))):=if_pos rfl
theorem bin_quo:pbin P .quo t (.int k a) (.int k b)=if b=0 then none else some (.int k (k.wrap (a.tdiv b))):=if_pos rfl
theorem bin_rem:pbin P .rem t (.int k a) (.int k b)=if b=0 then none else some (.int k (a.tmod b)):=if_pos rfl
theorem bin_and:pbin P .and t (.int k a) (.int k b)=some (.int k (bits .and k a b)):=if_pos rfl
theorem bin_or:pbin P .or t (.int k a) (.int k b)=some (.int k (bits .or k a b)):=if_pos rfl
theorem bin_andNot:pbin P .andNot t (.int k a) (.int k b)=some (.int k (bits .andNot k a b)):=if_pos rfl
theorem bin_eql:pbin P .eql t (.int k a) (.int k b)=some (.bool (decide (a=b))):=if_pos rfl
theorem bin_neq:pbin P .neq t (.int k a) (.int k b)=some (.bool (decide (a≠b))):=if_pos rfl
theorem bin_lss:pbin P .lss t (.int k a) (.int k b)=some (.bool (decide (a<b))):=if_pos rfl
theorem bin_leq:pbin P .leq t (.int k a) (.int k b)=some (.bool (decide (a≤b))):=if_pos rfl
theorem bin_gtr:pbin P .gtr t (.int k a) (.int k b)=some (.bool (decide (a>b))):=if_pos rfl
theorem bin_geq:pbin P .geq t (.int k a) (.int k b)=some (.bool (decide (a≥b))):=if_pos rfl
theorem bin_shl:pbin P .shl t (.int k a) (.int k' b)=if b<0 then none else some (.int k (k.wrap (a*2^(min b.toNat k.bits)))):=(rfl)
theorem bin_shr:pbin P .shr t (.int k a) (.int k' b)=if b<0 then none else some (.int k (a.fdiv (2^(min b.toNat k.bits)))):=(rfl)
theorem bin_aeql {xs ys:List PV}:pbin P .eql t (.agg xs) (.agg ys)=if flat P t=true∧isStruct P t=true then (eqCells P (fieldTypes P t) xs ys).map .bool else none:=(rfl)
def eqAnd (x y:Option Bool):Option Bool:=match x,y with
 | some x,some y=>some (x && y)
 | _,_=>none
theorem eqAnd_some {x y:Bool}:eqAnd (some x) (some y)=some (x && y):=(rfl)
theorem eqCells_nil {xs ys:List PV}:eqCells P [] xs ys=some true:=by unfold eqCells;rfl
theorem eqCells_cons {t:TypeId} {ts:List TypeId} {x y:PV} {xs ys:List PV}:eqCells P (t::ts) (x::xs) (y::ys)=eqAnd (eqCell P t x y) (eqCells P ts xs ys):=by
 rw [eqCells]
 rfl
theorem bin_np:pbin P .eql t .np .np=match lk P t with | .ptr=>some (.bool true) | _=>none:=(rfl)
theorem bin_nnp:pbin P .neq t .np .np=match lk P t with | .ptr=>some (.bool false) | _=>none:=(rfl)
theorem bin_beql {x y:Bool}:pbin P .eql t (.bool x) (.bool y)=match lk P t with | .bool=>some (.bool (x == y)) | _=>none:=(rfl)
theorem bin_bneq {x y:Bool}:pbin P .neq t (.bool x) (.bool y)=match lk P t with | .bool=>some (.bool (x != y)) | _=>none:=(rfl)
theorem un_not {b:Bool}:pun .not (.bool b)=some (.bool (!b)):=(rfl)
theorem un_neg:pun .neg (.int k a)=some (.int k (k.wrap (0-a))):=(rfl)
end
end
end PG
end
section
set_option linter.unusedVariables false
set_option linter.unusedSimpArgs false
namespace PG
open Go Go.RowKit
def after:Nat→Code→Code
 | n+1,.seq _ b=>after n b
 | _,c=>c
def pfirst (E:PE) (N:Nat):Nat→Code→(Exit→ES→Prop)→(ES→Prop)→ES→Prop
 | n+1,.seq a b,Q,K,s=>pexec E N a (pseq (fun s'=>pfirst E N n b Q K s') Q) s
 | 0,_,_,K,s=>K s
 | _,_,_,_,_=>False
section
variable {E : PE} {N : Nat}
theorem cut_sound (hm:E.P.follows .mixedOrders=true) {K:ES→Prop} {Q:Exit→ES→Prop}:∀(n:Nat) (c:Code) (s:ES),codeOk E.mu E.own N c=true→(∀s,K s→PSem E N none (after n c) Q s)→pfirst E N n c Q K s→PSem E N none c Q s
 | 0,c,s,hok,hK,h=>by
  have h':K s:=by cases c<;>exact h
  have:=hK s h'
  cases c<;>exact this
 | n+1,.seq a b,s,hok,hK,h=>fun wk w0 Pr0 m Pr ac w hr=>by
  simp only [codeOk,Bool.and_eq_true] at hok
  refine wpIn_seq (wpIn_mono (pexec_sound hm a _ s hok.1 none (.inl rfl) h wk w0 Pr0 m Pr ac w hr) ?_)
  rintro e a' w' ⟨s',m',Pr',hq,hr'⟩
  cases e with
  | normal=>exact cut_sound hm n b s' hok.2 hK hq wk w0 Pr0 m' Pr' a' w' hr'
  | _=>exact ⟨s',m',Pr',hq,hr'⟩
 | n+1,.skip,s,hok,hK,h=>h.elim
 | n+1,.region ..,s,hok,hK,h=>h.elim
 | n+1,.cond ..,s,hok,hK,h=>h.elim
 | n+1,.loop ..,s,hok,hK,h=>h.elim
 | n+1,.block ..,s,hok,hK,h=>h.elim
 | n+1,.exit ..,s,hok,hK,h=>h.elim
 | n+1,.ret,s,hok,hK,h=>h.elim
 | n+1,.rangeFunc ..,s,hok,hK,h=>h.elim
 | n+1,.scope ..,s,hok,hK,h=>h.elim
 | n+1,.label ..,s,hok,hK,h=>h.elim
 | n+1,.goto ..,s,hok,hK,h=>h.elim
 | n+1,.refuse ..,s,hok,hK,h=>h.elim
theorem PSem.weak {c:Code} {Q:Exit→ES→Prop} {s s':ES} {r:Option Nat} (h:PSem E N r c Q s') (hw:Wk s s'):PSem E N r c Q s:=
 fun wk w0 Pr0 m Pr a w hr=>h wk w0 Pr0 m Pr a w (hr.weak hw)
class CT where
 k:ES→Prop
def qfirst (E:PE) (N:Nat) (n:Nat) (c:Code) (s:ES) [Q:QT] [K:CT]:Prop:=pfirst E N n c Q.q K.k s
theorem qfirst_succ {n:Nat} {a b:Code} {s:ES} {Q:QT} {K:CT}:@qfirst E N (n+1) (.seq a b) s Q K=@qexec E N a s ⟨pseq (fun s'=>@qfirst E N n b s' Q K) Q.q⟩:=(rfl)
theorem qfirst_zero {c:Code} {s:ES} {Q:QT} {K:CT}:@qfirst E N 0 c s Q K=K.k s:=by
 unfold qfirst;cases c<;>rfl
theorem after_succ {n:Nat} {a b:Code}:after (n+1) (.seq a b)=after n b:=(rfl)
theorem after_zero {c:Code}:after 0 c=c:=by cases c<;>rfl
theorem PSem.cut (hm:E.P.follows .mixedOrders=true) {c:Code} {Q:Exit→ES→Prop} {s:ES} (hok:codeOk E.mu E.own N c=true) (n:Nat) {ι:Type} (St:ι→ES) (J:ι→Prop)
  (h1:@qfirst E N n c s ⟨Q⟩ ⟨fun s'=>∃i,J i∧Wk s' (St i)⟩) (h2:∀i,J i→PSem E N none (after n c) Q (St i)):PSem E N none c Q s:=
 cut_sound hm n c s hok (fun s' ⟨i,hj,hw⟩=>(h2 i hj).weak hw) h1
theorem PSem.last (hm:E.P.follows .mixedOrders=true) {c:Code} {Q:Exit→ES→Prop} {s:ES} (hok:codeOk E.mu E.own N c=true) (h:@qexec E N c s ⟨Q⟩):PSem E N none c Q s:=
 pexec_sound hm c Q s hok none (.inl rfl) h
end
end PG
end
section
set_option linter.unusedVariables false
set_option linter.unusedSimpArgs false
namespace PG
open Go Go.RowKit
def PUnr (E:PE) (N:Nat) (c:Code) (Q:Exit→ES→Prop):Nat→ES→Prop
 | 0,_=>False
 | n+1,s=>pexec E N c (pseq (PUnr E N c Q n) Q) s
section
variable {E : PE} {N : Nat}
theorem PLoop.unroll {c:Code} {Q:Exit→ES→Prop} {s:ES} (n:Nat) (h:PUnr E N c Q n s):PLoop E N c Q s:=by
 intro hok hm r hr0 wk w0 Pr0 m Pr a w hrel
 let Good:Act→World→Nat→Prop:=fun a w n=>∃s,PUnr E N c Q n s∧∃m Pr,Rel E N wk w0 Pr0 s.den m Pr a w
 let mu:Act→World→Nat:=fun a w=>open Classical in if h:∃n,Good a w n then Classical.choose (exists_least h) else 0
 have hmu:∀a w,(h:∃n,Good a w n)→Good a w (mu a w)∧∀k,Good a w k→mu a w≤k:=fun a w h=>by
  have:=Classical.choose_spec (exists_least h)
  simp only [mu,dif_pos h]
  exact this
 refine wpIn_loop (fun a w=>∃n,Good a w n) mu ⟨n,s,h,m,Pr,hrel⟩ fun a w hI=>?_
 obtain ⟨⟨s,hs,m,Pr,hrel⟩,hmin⟩:=hmu a w hI
 generalize hn:mu a w=k at *
 cases k with
 | zero=>exact hs.elim
 | succ k=>
  refine wpIn_mono (pexec_sound hm c _ _ hok r hr0 hs wk w0 Pr0 m Pr a w hrel) ?_
  rintro e a' w' ⟨s',m',Pr',hq,hr'⟩
  cases e with
  | normal=>
   have hg:Good a' w' k:=⟨s',hq,m',Pr',hr'⟩
   refine ⟨⟨_,hg⟩,?_⟩
   have:=(hmu a' w' ⟨_,hg⟩).2 _ hg
   omega
  | _=>exact ⟨s',m',Pr',hq,hr'⟩
def qunr (E:PE) (N:Nat) (n:Nat) (c:Code) (s:ES) [Q:QT]:Prop:=PUnr E N c Q.q n s
theorem qunr_succ {n:Nat} {c:Code} {s:ES} {Q:QT}:@qunr E N (n+1) c s Q=@qexec E N c s ⟨pseq (fun s'=>@qunr E N n c s' Q) Q.q⟩:=(rfl)
theorem qloop_u {c:Code} {s:ES} {Q:QT} (n:Nat) (h:@qunr E N n c s Q):@qloop E N c s Q:=PLoop.unroll n h
end
end PG
end
