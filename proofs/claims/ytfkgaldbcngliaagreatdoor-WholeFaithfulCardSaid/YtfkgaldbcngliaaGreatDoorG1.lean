/- Several parts in one text. -/
import Derived.WalkKit
import Derived.Laws.StructEq
import Derived.RangeFuncFrom
import Derived.RangeFuncCalls
import Derived.OrdersIn
import Derived.Maps.AppendAt
import Derived.Laws.BytesString
section
set_option linter.unusedVariables false
set_option linter.unusedSimpArgs false
namespace PG
open Go Go.RowKit
inductive PV where
 | int (k:IntKind) (n:Int)
 | bool (b:Bool)
 | str (s:ByteArray)
 | agg (cs:List PV)
 | tuple (vs:List PV)
 | lst (n:Nat) (cs:List PV)
 | nn (n:Nat) (cs:List PV)
 | ref (cs:List PV)
 | clo (f:FuncId) (caps:List PV)
 | np
 | any
 | ifc
 | flt (b:Nat)
 | nif
 | ifv (t:TypeId) (k:IntKind) (n:Int)
 deriving Inhabited
def PV.cells:PV→Option (List PV)
 | .agg cs=>some cs
 | .tuple _=>none
 | .any=>none
 | v=>some [v]
inductive Rep (g:Addr→Option Value):PV→Value→Prop where
 | int (k:IntKind) (n:Int):Rep g (.int k n) (.int k n)
 | bool (b:Bool):Rep g (.bool b) (.bool b)
 | str (s:ByteArray):Rep g (.str s) (.string s)
 | agg (cs:List PV) (xs:Array Value) (hl:xs.size=cs.length) (h1:∀(j:Nat) x,xs[j]?=some x→x.oneCell'=true)
   (h:∀(j:Nat) c x,cs[j]?=some c→xs[j]?=some x→Rep g c x):Rep g (.agg cs) (.agg xs)
 | tuple (vs:List PV) (xs:Array Value) (hl:xs.size=vs.length)
   (h:∀(j:Nat) c x,vs[j]?=some c→xs[j]?=some x→Rep g c x):Rep g (.tuple vs) (.tuple xs)
 | nil:Rep g (.lst 0 []) (.slice none 0 0)
 | lst (a:Addr) (n cap:Nat) (cs:List PV) (xs:List Value) (hn:n≤cap) (hc:cap≤maxLen) (hl:xs.length=cs.length)
   (h1:∀(j:Nat) x,xs[j]?=some x→x.oneCell'=true) (hm:∀(j:Nat) x,xs[j]?=some x→g (a.add j)=some x)
   (h:∀(j:Nat) c x,cs[j]?=some c→xs[j]?=some x→Rep g c x):Rep g (.lst n cs) (.slice (some a) n cap)
 | ref (a:Addr) (cs:List PV) (xs:List Value) (hl:xs.length=cs.length)
   (h1:∀(j:Nat) x,xs[j]?=some x→x.oneCell'=true) (hm:∀(j:Nat) x,xs[j]?=some x→g (a.add j)=some x)
   (h:∀(j:Nat) c x,cs[j]?=some c→xs[j]?=some x→Rep g c x):Rep g (.ref cs) (.pointer (some a))
 | nn (a:Addr) (n cap:Nat) (cs:List PV) (h:Rep g (.lst n cs) (.slice (some a) n cap)):Rep g (.nn n cs) (.slice (some a) n cap)
 | clo (f:FuncId) (caps:List PV) (xs:Array Value) (hl:xs.size=caps.length)
   (h:∀(j:Nat) c x,caps[j]?=some c→xs[j]?=some x→Rep g c x):Rep g (.clo f caps) (.func (.func f) #[] xs)
 | np:Rep g .np (.pointer none)
 | any (v:Value):Rep g .any v
 | ifc (t:TypeId) (v:Value):Rep g .ifc (.iface t v)
 | flt (b:Nat):Rep g (.flt b) (.float .f64 b)
 | nif:Rep g .nif .nilIface
 | ifv (t:TypeId) (k:IntKind) (n:Int):Rep g (.ifv t k n) (.iface t (.int k n))
theorem Rep.mono {g g':Addr→Option Value} (hg:∀a x,g a=some x→g' a=some x) {p:PV} {v:Value} (h:Rep g p v):Rep g' p v:=by
 induction h with
 | int k n=>exact .int k n
 | bool b=>exact .bool b
 | str s=>exact .str s
 | agg cs xs hl h1 _ ih=>exact .agg cs xs hl h1 ih
 | tuple vs xs hl _ ih=>exact .tuple vs xs hl ih
 | nil=>exact .nil
 | lst a n cap cs xs hn hc hl h1 hm _ ih=>exact .lst a n cap cs xs hn hc hl h1 (fun j x hx=>hg _ _ (hm j x hx)) ih
 | ref a cs xs hl h1 hm _ ih=>exact .ref a cs xs hl h1 (fun j x hx=>hg _ _ (hm j x hx)) ih
 | nn a n cap cs _ ih=>exact .nn a n cap cs ih
 | clo f caps xs hl _ ih=>exact .clo f caps xs hl ih
 | np=>exact .np
 | any v=>exact .any v
 | ifc t v=>exact .ifc t v
 | flt b=>exact .flt b
 | nif=>exact .nif
 | ifv t k n=>exact .ifv t k n
noncomputable def rd (w:World) (Pr:Nat→Nat→Prop):Addr→Option Value:=fun a=>open Classical in if Pr a.block a.off then w.cell? a else none
theorem rd_some {w:World} {Pr:Nat→Nat→Prop} {a:Addr} {x:Value}:rd w Pr a=some x↔Pr a.block a.off∧w.cell? a=some x:=by
 unfold rd
 by_cases h:Pr a.block a.off<;>simp [h]
theorem rd_le {w w':World} {Pr Pr':Nat→Nat→Prop} (h:∀a x,Pr a.block a.off→w.cell? a=some x→Pr' a.block a.off∧w'.cell? a=some x) :
  ∀a x,rd w Pr a=some x→rd w' Pr' a=some x:=fun a x hx=>by
 rw [rd_some] at hx ⊢
 exact h a x hx.1 hx.2
structure PE where
 P:Program
 G:Nat→Option (List PV)
 mu:Nat→Bool
 own:Nat→Nat→List (Nat × List Nat)
inductive SV where
 | val (v:PV)
 | nil
 | row (k:Nat)
 | ptr (k off:Nat)
 | sub (k off n:Nat)
 | junk
 deriving Inhabited
inductive Bk where
 | box (cs:List PV)
 | row (e:TypeId) (sz n:Nat) (cs:List PV)
 deriving Inhabited
def Bk.cells:Bk→List PV
 | .box cs=>cs
 | .row _ _ _ cs=>cs
def Bk.with (b:Bk) (cs:List PV):Bk:=
 match b with
 | .box _ => .box cs
 | .row e s n _ => .row e s n cs
structure PS where
 τ:Nat→Option SV
 σ:Nat→Option (Bk × Bool)
inductive RV where
 | val (v:PV)
 | nil
 | row (k:Nat) (b:Bk)
 | ptr (k off:Nat) (b:Bk)
 | sub (k off n:Nat) (b:Bk)
 deriving Inhabited
def cst:Value→Option PV
 | .int k n=>some (.int k n)
 | .bool b=>some (.bool b)
 | .string s=>some (.str s)
 | .pointer none=>some .np
 | .float .f64 b=>some (.flt b)
 | .nilIface=>some .nif
 | _=>none
def constSV:Value→Option SV
 | .slice none 0 0=>some .nil
 | .nilFunc=>some .junk
 | v=>(cst v).map .val
def opSV (E:PE) (τ:Nat→Option SV):Operand→Option SV
 | .tmp t=>τ t
 | .const v=>constSV v
 | .global g=>(E.G g).map fun cs => .val (.ref cs)
 | .func f=>some (.val (.clo f []))
def resSV (σ:Nat→Option (Bk × Bool)):SV→Option RV
 | .val v=>some (.val v)
 | .nil=>some .nil
 | .row k=>(σ k).map fun b => .row k b.1
 | .ptr k o=>(σ k).map fun b => .ptr k o b.1
 | .sub k o n=>(σ k).map fun b => .sub k o n b.1
 | .junk=>none
def res (E:PE) (τ:Nat→Option SV) (σ:Nat→Option (Bk × Bool)) (x:Operand):Option RV:=(opSV E τ x).bind (resSV σ)
def close:RV→Option (PV × List Nat)
 | .val v=>some (v,[])
 | .nil=>some (.lst 0 [],[])
 | .row k (.row _ _ n cs)=>some (.lst n cs,[k])
 | .row _ (.box _)=>none
 | .ptr k off b=>some (.ref (b.cells.drop off),[k])
 | .sub k off n (.row _ s _ cs)=>if off+n*s≤cs.length then some (.lst n ((cs.drop off).take (n*s)),[k]) else none
 | .sub .. => none
def RV.sv:RV→SV
 | .val v => .val v
 | .nil => .nil
 | .row k _ => .row k
 | .ptr k o _ => .ptr k o
 | .sub k o n _ => .sub k o n
def allSome {α:Type}:List (Option α)→Option (List α)
 | []=>some []
 | none::_=>none
 | some x::l=>match allSome l with
  | some r=>some (x::r)
  | none=>none
def closeL:List (Option RV)→Option (List PV × List Nat)
 | []=>some ([],[])
 | none::_=>none
 | some r::rest=>match close r,closeL rest with
  | some (v,f),some (vs,fs)=>some (v::vs,f++fs)
  | _,_=>none
inductive LK where
 | bool
 | int (k:IntKind)
 | str
 | struct (fs:List (Nat × TypeId))
 | array (n:Nat) (e:TypeId)
 | slice (e:TypeId)
 | one
 | ptr
 | none
 deriving Inhabited
def lkOf:Option TypeDesc→LK
 | some .bool => .bool
 | some (.int k) => .int k
 | some .string => .str
 | some (.struct fs) => .struct (fs.toList.map fun f=>(f.offset,f.type))
 | some (.array n e) => .array n e
 | some (.slice e) => .slice e
 | some (.pointer _) => .ptr
 | some _ => .one
 | none => .none
def lk (P:Program) (t:TypeId):LK:=lkOf (P.underlying t)
def sz (P:Program) (t:TypeId):Option Nat:=(P.info? t).map (·.size)
def byt (P:Program) (t:TypeId):Nat:=((P.info? t).map (·.bytes)).getD 0
def zcell:Value→Option PV
 | .slice none 0 0=>some (.lst 0 [])
 | v=>cst v
def zcells (v:Value):Option (List PV):=v.cells.toList.mapM zcell
def zr (P:Program) (t:TypeId):Option (List PV):=((P.info? t).bind (·.zero)).bind zcells
def partPV (P:Program) (t:TypeId) (cs:List PV) (off:Nat):Option PV:=
 match lk P t with
 | .struct _ | .array _ _=>match sz P t with
  | some n=>if off+n≤cs.length then some (.agg ((cs.drop off).take n)) else none
  | none=>none
 | .none=>none
 | _=>cs[off]?
def setCells (cs:List PV) (off:Nat):List PV→List PV
 | []=>cs
 | v::vs=>setCells (cs.set off v) (off+1) vs
def fillPV (place:Nat→Option (Nat × Nat)) (cs:List PV):List (Nat × PV)→Option (List PV)
 | []=>some cs
 | (i,v)::rest=>match place i,v.cells with
  | some (off,n),some vs=>if vs.length≠n∨off+vs.length>cs.length then none else fillPV place (setCells cs off vs) rest
  | _,_=>none
def placesL (P:Program):List (Nat × TypeId)→Option (List (Nat × Nat))
 | []=>some []
 | (off,t)::r=>match sz P t,placesL P r with
  | some n,some l=>some ((off,n)::l)
  | _,_=>none
def places (P:Program) (t:TypeId):Option (List (Nat × Nat)):=
 match lk P t with
 | .struct fs=>placesL P fs
 | _=>none
def zrow (z:List PV) (n:Nat):List PV:=
 match z with
 | [c]=>List.replicate n c
 | _=>(List.range (n*z.length)).map fun i=>z.getD (i%z.length) (.bool false)
def pint (op:BinOp) (k:IntKind) (x y:Int):Option PV:=
 match op with
 | .add=>some (.int k (k.wrap (x+y)))
 | .sub=>some (.int k (k.wrap (x-y)))
 | .mul=>some (.int k (k.wrap (x*y)))
 | .quo=>if y=0 then none else some (.int k (k.wrap (x.tdiv y)))
 | .rem=>if y=0 then none else some (.int k (x.tmod y))
 | .and=>some (.int k (bits .and k x y))
 | .or=>some (.int k (bits .or k x y))
 | .xor=>some (.int k (bits .xor k x y))
 | .andNot=>some (.int k (bits .andNot k x y))
 | .eql=>some (.bool (decide (x=y)))
 | .neq=>some (.bool (decide (x≠y)))
 | .lss=>some (.bool (decide (x<y)))
 | .leq=>some (.bool (decide (x≤y)))
 | .gtr=>some (.bool (decide (x>y)))
 | .geq=>some (.bool (decide (x≥y)))
 | _=>none
def pshift (op:BinOp) (k:IntKind) (x y:Int):Option PV:=
 if y<0 then none else
 match op with
 | .shl=>some (.int k (k.wrap (x*2^(min y.toNat k.bits))))
 | .shr=>some (.int k (x.fdiv (2^(min y.toNat k.bits))))
 | _=>none
def isShift:BinOp→Bool
 | .shl | .shr=>true
 | _=>false
def pstr (op:BinOp) (a b:ByteArray):Option PV:=
 match op with
 | .add=>if a.size+b.size≤maxLen then some (.str (a++b)) else none
 | .eql=>some (.bool (decide (a=b)))
 | .neq=>some (.bool (decide (a≠b)))
 | _=>none
def eqCell (P:Program) (t:TypeId):PV→PV→Option Bool
 | .int k x,.int k' y=>match lk P t with
  | .int _=>if k=k' then some (decide (x=y)) else none
  | _=>none
 | .bool x,.bool y=>match lk P t with
  | .bool=>some (x == y)
  | _=>none
 | .str x,.str y=>match lk P t with
  | .str=>some (decide (x=y))
  | _=>none
 | _,_=>none
def eqCells (P:Program):List TypeId→List PV→List PV→Option Bool
 | [],_,_=>some true
 | t::ts,a::as,b::bs=>match eqCell P t a b,eqCells P ts as bs with
  | some x,some y=>some (x && y)
  | _,_=>none
 | _,_,_=>none
def flatFs:Nat→List Field→Bool
 | _,[]=>true
 | i, f :: fs => f.name != "_" && f.offset == i && flatFs (i + 1) fs
def flat (P:Program) (t:TypeId):Bool:=
 !P.stoodInHeld t && flatFs 0 (P.fieldsOf t).toList && !P.eqGuardType P.depth t
def fieldTypes (P:Program) (t:TypeId):List TypeId:=
 match lk P t with
 | .struct fs=>fs.map (·.2)
 | _=>[]
def isStruct (P:Program) (t:TypeId):Bool:=
 match lk P t with
 | .struct _=>true
 | _=>false
def pbin (P:Program) (op:BinOp) (xT:TypeId):PV→PV→Option PV
 | .int k x,.int k' y=>if isShift op then pshift op k x y else if k=k' then pint op k x y else none
 | .str a,.str b=>pstr op a b
 | .bool a,.bool b=>match op with
  | .eql=>match lk P xT with | .bool=>some (.bool (a == b)) | _=>none
  | .neq=>match lk P xT with | .bool=>some (.bool (a != b)) | _=>none
  | _=>none
 | .agg as,.agg bs=>if flat P xT∧isStruct P xT then match op with
  | .eql=>(eqCells P (fieldTypes P xT) as bs).map .bool
  | .neq=>(eqCells P (fieldTypes P xT) as bs).map fun b => .bool (!b)
  | _=>none
  else none
 | .np,.np=>match op with
  | .eql=>match lk P xT with | .ptr=>some (.bool true) | _=>none
  | .neq=>match lk P xT with | .ptr=>some (.bool false) | _=>none
  | _=>none
 | _,_=>none
def pun (op:UnOp):PV→Option PV
 | .bool b=>match op with | .not=>some (.bool (!b)) | _=>none
 | .int k x=>match op with
  | .neg=>some (.int k (k.wrap (0-x)))
  | .xor=>some (.int k (bits .xor k (if k.signed then -1 else k.max) x))
  | _=>none
 | _=>none
def pconv (P:Program) (dst:TypeId):PV→Option PV
 | .int _ n=>match lk P dst with
  | .int k=>some (.int k (k.wrap n))
  | .str=>if 0≤n∧n<128 then some (.str ⟨#[UInt8.ofNat n.toNat]⟩) else none
  | _=>none
 | .str s=>match lk P dst with
  | .str=>some (.str s)
  | _=>none
 | _=>none
def byteOf:PV→Option UInt8
 | .int .u8 n=>some (UInt8.ofNat n.toNat)
 | _=>none
def bconv (P:Program) (e dst:TypeId) (n:Nat) (cs:List PV):Option PV:=
 match lk P e,lk P dst with
 | .int .u8,.str=>if cs.length=n then (allSome (cs.map byteOf)).map fun l => .str ⟨l.toArray⟩ else none
 | _,_=>none
def svPV:Option SV→Option PV
 | some (.val v)=>some v
 | _=>none
def nilCmp (P:Program) (op:BinOp) (t:TypeId) (x y:Option SV):Option SV:=
 match lk P t,x,y with
 | .slice _,some (.val (.nn _ _)),some .nil=>match op with
  | .eql=>some (.val (.bool false))
  | .neq=>some (.val (.bool true))
  | _=>none
 | .slice _,some .nil,some .nil=>match op with
  | .eql=>some (.val (.bool true))
  | .neq=>some (.val (.bool false))
  | _=>none
 | .ptr,some (.ptr _ _),some (.val .np)=>match op with
  | .eql=>some (.val (.bool false))
  | .neq=>some (.val (.bool true))
  | _=>none
 | _,_,_=>none
def cnc (P:Program) (t:TypeId):Bool:=match P.underlying t with
 | some (.interface _)=>false
 | some _=>true
 | none=>false
def stepA (E:PE) (op:Op) (ρ:Operand→Option SV):Option SV:=
 match op with
 | .move x=>match ρ x with
  | some .junk=>none
  | v=>v
 | .assign x=>ρ x
 | .pick c a b=>match svPV (ρ c) with
  | some (.bool true)=>match ρ a with
   | some (.val v)=>some (.val v)
   | _=>none
  | some (.bool false)=>match ρ b with
   | some (.val v)=>some (.val v)
   | _=>none
  | _=>none
 | .binOp op t x y _=>match svPV (ρ x),svPV (ρ y) with
  | some a,some b=>(pbin E.P op t a b).map .val
  | _,_=>nilCmp E.P op t (ρ x) (ρ y)
 | .unOp op _ x=>match svPV (ρ x) with
  | some a=>(pun op a).map .val
  | none=>none
 | .extract x i=>match svPV (ρ x) with
  | some (.tuple vs)=>(vs[i]?).map .val
  | _=>none
 | .field t x i=>match svPV (ρ x),lk E.P t with
  | some (.agg cs),.struct fs=>match fs[i]? with
   | some (off,ft)=>(partPV E.P ft cs off).map .val
   | none=>none
  | _,_=>none
 | .fieldAddr t x i=>match lk E.P t with
  | .struct fs=>match fs[i]? with
   | some (off,ft)=>match sz E.P ft with
    | some 0=>none
    | some _=>match ρ x with
     | some (.ptr k o)=>some (.ptr k (o+off))
     | some (.val (.ref cs))=>some (.val (.ref (cs.drop off)))
     | _=>none
    | none=>none
   | none=>none
  | _=>none
 | .index t x i=>match svPV (ρ x),svPV (ρ i),lk E.P t with
  | some (.str s),some (.int _ n),.str=>if h:0≤n∧n.toNat<s.size then some (.val (.int .u8 (s[n.toNat]'h.2).toNat)) else none
  | _,_,_=>none
 | .makeInterface t x=>match svPV (ρ x) with
  | some (.int k n)=>if cnc E.P t=true then some (.val (.ifv t k n)) else none
  | _=>none
 | _=>none
def isA:Op→Bool
 | .move _ | .assign _ | .pick .. | .binOp .. | .unOp .. | .extract .. | .field .. | .fieldAddr .. | .index .. | .makeInterface .. => true
 | _=>false
inductive Out where
 | val (v:SV)
 | new (b:Bk)
 | st (k:Nat) (b:Bk)
 | app (k:Option Nat) (b:Bk)
 | call (f:FuncId) (args:List PV)
 | inl (f:FuncId) (args:List SV)
def rvPV:Option RV→Option PV
 | some (.val v)=>some v
 | _=>none
def rvInt (r:Option RV):Option Int:=
 match r with
 | some (.val (.int _ n))=>some n
 | _=>none
def rvSlice:Option RV→Option (Nat × List PV)
 | some (.val (.lst n cs))=>some (n,cs)
 | some (.val (.nn n cs))=>some (n,cs)
 | some .nil=>some (0,[])
 | some (.row _ (.row _ _ n cs))=>some (n,cs)
 | some (.sub _ o n (.row _ s _ cs))=>if o+n*s≤cs.length then some (n,(cs.drop o).take (n*s)) else none
 | _=>none
def rvBytes:Option RV→Option (Nat × List PV)
 | some (.sub _ o n (.box cs))=>if o+n≤cs.length then some (n,(cs.drop o).take n) else none
 | r=>rvSlice r
def fconv (P:Program) (dst:TypeId) (b:Nat):Option PV:=
 match lk P dst with
 | .int k=>match (FloatKind.f64.decode b).toInt .zero with
  | some n=>if k.min≤n∧n≤k.max then some (.int k n) else none
  | none=>none
 | _=>none
def frzOf:Option RV→List Nat
 | some (.row k _)=>[k]
 | some (.ptr k _ _)=>[k]
 | some (.sub k _ _ _)=>[k]
 | _=>[]
def bound (lo:Option (Option RV)) (d:Int):Option Int:=
 match lo with
 | none=>some d
 | some r=>rvInt r
def pmax2 (mx:Bool):Option RV→Option RV→Option PV
 | some (.val (.int k x)),some (.val (.int _ y))=>some (.int k (if mx then max x y else min x y))
 | _,_=>none
def pbuiltin (E:PE) (b:Builtin) (ts:List TypeId) (args:List (Option RV)):Option (Out × List Nat):=
 match b,ts,args with
 | .len,[t],[x]=>match lk E.P t,x with
  | .slice _,some (.val (.lst n _))=>some (.val (.val (.int .i64 n)),[])
  | .slice _,some .nil=>some (.val (.val (.int .i64 0)),[])
  | .slice _,some (.row _ (.row _ _ n _))=>some (.val (.val (.int .i64 n)),[])
  | .slice _,some (.sub _ _ n _)=>some (.val (.val (.int .i64 n)),[])
  | .str,some (.val (.str s))=>some (.val (.val (.int .i64 s.size)),[])
  | .array n _,_=>some (.val (.val (.int .i64 n)),[])
  | _,_=>none
 | .max,_,[x,y]=>(pmax2 true x y).map fun v=>(.val (.val v),[])
 | .min,_,[x,y]=>(pmax2 false x y).map fun v=>(.val (.val v),[])
 | .append,[t,t'],[x,y]=>if t≠t' then none else match lk E.P t with
  | .slice e=>match sz E.P e,zr E.P e,rvSlice y with
   | some m,some z,some (n',ys)=>
    if m=0∨z.length≠m∨ys.length≠n'*m then none else
    match x with
    | some .nil=>if n'≤maxLen∧n'*byt E.P e≤140737488355328 then some (.app none (.row e m n' ys),frzOf y) else none
    | some (.row k (.row e' m' n xs))=>if e'=e∧m'=m∧n+n'≤maxLen∧(n+n')*byt E.P e≤140737488355328∧k∉frzOf y then
      some (.app (some k) (.row e m (n+n') (xs++ys)),frzOf y) else none
    | _=>none
   | _,_,_=>none
  | _=>none
 | _,_,_=>none
def stepR (E:PE) (op:Op) (ρ:Operand→Option RV):Option (Out × List Nat):=
 match op with
 | .alloc t=>(zr E.P t).map fun cs=>(.new (.box cs),[])
 | .box _ x=>match ρ x with
  | some r=>match close r with
   | some (v,f)=>match v.cells with
    | some vs=>some (.new (.box vs),f)
    | none=>none
   | none=>none
  | none=>none
 | .build t parts=>match closeL (parts.toList.map fun p=>ρ p.2),zr E.P t,places E.P t with
  | some (vs,f),some z,some pl=>match fillPV (fun i=>pl[i]?) z ((parts.toList.map (·.1)).zip vs) with
   | some cs=>some (.val (.val (.agg cs)),f)
   | none=>none
  | _,_,_=>none
 | .buildSlice t len parts=>match closeL (parts.toList.map fun p=>ρ p.2),lk E.P t with
  | some (vs,f),.slice e=>match sz E.P e,zr E.P e with
   | some n,some z=>if n=0∨z.length≠n∨len*n>16777216 then none else
    match fillPV (fun i=>some (i*n,n)) (zrow z len) ((parts.toList.map (·.1)).zip vs) with
    | some cs=>some (.new (.row e n len cs),f)
    | none=>none
   | _,_=>none
  | _,_=>none
 | .convert src dst x=>match lk E.P src with
  | .int _=>match rvPV (ρ x) with
   | some a=>(pconv E.P dst a).map fun v=>(.val (.val v),[])
   | none=>none
  | .str=>match rvPV (ρ x) with
   | some a=>(pconv E.P dst a).map fun v=>(.val (.val v),[])
   | none=>none
  | .slice e=>match rvBytes (ρ x) with
   | some (n,cs)=>(bconv E.P e dst n cs).map fun v=>(.val (.val v),[])
   | none=>none
  | .one=>match rvPV (ρ x) with
   | some (.flt b)=>(fconv E.P dst b).map fun v=>(.val (.val v),[])
   | _=>none
  | _=>none
 | .load t x=>match ρ x with
  | some (.ptr _ off b)=>(partPV E.P t b.cells off).map fun v=>(.val (.val v),[])
  | some (.val (.ref cs))=>(partPV E.P t cs 0).map fun v=>(.val (.val v),[])
  | _=>none
 | .store t x y=>match ρ x,ρ y with
  | some (.ptr k off b),some r=>match close r,sz E.P t with
   | some (v,f),some n=>match v.cells with
    | some vs=>if vs.length≠n∨off+n>b.cells.length∨k∈f then none else some (.st k (b.with (setCells b.cells off vs)),f)
    | none=>none
   | _,_=>none
  | _,_=>none
 | .nilCheck x=>match ρ x with
  | some (.ptr k o _)=>some (.val (.ptr k o),[])
  | some (.val (.ref cs))=>some (.val (.val (.ref cs)),[])
  | some (.val (.clo f cs))=>some (.val (.val (.clo f cs)),[])
  | _=>none
 | .makeFunc (.func f) first captured=>if first.size≠0 then none else
  match closeL (captured.toList.map ρ) with
  | some (vs,fz)=>some (.val (.val (.clo f vs)),fz)
  | none=>none
 | .makeSlice t l c=>match lk E.P t,rvInt (ρ l),rvInt (ρ c) with
  | .slice e,some n,some m=>match sz E.P e,zr E.P e with
   | some s,some z=>if n=m∧0≤n∧n≤9223372036854775807∧byt E.P e*n≤140737488355328∧s≠0∧z.length=s then
     some (.new (.row e s n.toNat (zrow z n.toNat)),[]) else none
   | _,_=>none
  | _,_,_=>none
 | .slice t x lo hi none=>match lk E.P t with
  | .slice e=>match sz E.P e with
   | some s=>match ρ x with
    | some (.row k (.row _ _ n _))=>match bound (lo.map ρ) 0,bound (hi.map ρ) n with
     | some l,some h=>if 0≤l∧l<h∧h≤n then some (.val (.sub k (l.toNat*s) (h.toNat-l.toNat)),[]) else none
     | _,_=>none
    | some (.sub k o n _)=>match bound (lo.map ρ) 0,bound (hi.map ρ) n with
     | some l,some h=>if 0≤l∧l<h∧h≤n then some (.val (.sub k (o+l.toNat*s) (h.toNat-l.toNat)),[]) else none
     | _,_=>none
    | some (.val v)=>match rvSlice (some (.val v)) with
     | some (n,cs)=>match bound (lo.map ρ) 0,bound (hi.map ρ) n with
      | some l,some h=>if 0≤l∧l≤h∧h≤n∧cs.length=n*s then
        some (.val (.val (.lst (h.toNat-l.toNat) ((cs.drop (l.toNat*s)).take ((h.toNat-l.toNat)*s)))),[]) else none
      | _,_=>none
     | none=>none
    | some .nil=>match bound (lo.map ρ) 0,bound (hi.map ρ) 0 with
     | some l,some h=>if 0≤l∧l≤h∧h≤0 then some (.val .nil,[]) else none
     | _,_=>none
    | _=>none
   | none=>none
  | .str=>match rvPV (ρ x) with
   | some (.str b)=>match bound (lo.map ρ) 0,bound (hi.map ρ) b.size with
    | some l,some h=>if 0≤l∧l≤h∧h≤b.size then some (.val (.val (.str (b.extract l.toNat h.toNat))),[]) else none
    | _,_=>none
   | _=>none
  | .array n e=>match sz E.P e with
   | some s=>match ρ x with
    | some (.ptr k o _)=>match bound (lo.map ρ) 0,bound (hi.map ρ) n with
     | some l,some h=>if 0≤l∧l<h∧h≤n∧n≤maxLen then some (.val (.sub k (o+l.toNat*s) (h.toNat-l.toNat)),[]) else none
     | _,_=>none
    | _=>none
   | none=>none
  | _=>none
 | .indexAddr t x i=>match rvInt (ρ i),lk E.P t with
  | some n,.slice e=>match sz E.P e with
   | some s=>match ρ x with
    | some (.val (.lst m cs))=>if 0≤n∧n<m then some (.val (.val (.ref (cs.drop (n.toNat*s)))),[]) else none
    | some (.row k (.row _ _ m _))=>if 0≤n∧n<m then some (.val (.ptr k (n.toNat*s)),[]) else none
    | some (.sub k o m _)=>if 0≤n∧n<m then some (.val (.ptr k (o+n.toNat*s)),[]) else none
    | _=>none
   | none=>none
  | some n,.array m e=>match sz E.P e with
   | some s=>match ρ x with
    | some (.ptr k o _)=>if 0≤n∧n<m then some (.val (.ptr k (o+n.toNat*s)),[]) else none
    | some (.val (.ref cs))=>if 0≤n∧n<m then some (.val (.val (.ref (cs.drop (n.toNat*s)))),[]) else none
    | _=>none
   | none=>none
  | _,_=>none
 | .call c=>match c.callee with
  | .builtin b=>pbuiltin E b c.argTypes.toList (c.args.toList.map ρ)
  | .value f=>match ρ f with
   | some (.val (.clo g caps))=>if E.mu g=true then
     match f,allSome (c.args.toList.map ρ) with
     | .func _,some rs=>some (.inl g (rs.map RV.sv),[])
     | _,_=>none
    else match closeL (c.args.toList.map ρ) with
    | some (vs,fz)=>some (.call g (vs++caps),fz)
    | none=>none
   | _=>none
  | _=>none
 | _=>none
end PG
end
section
set_option linter.unusedVariables false
set_option linter.unusedSimpArgs false
namespace PG
open Go Go.RowKit
def putτ (τ:Nat→Option SV) (dst:Option Tmp) (v:SV):Nat→Option SV:=
 match dst with
 | some d=>fun t=>if t=d then some v else τ t
 | none=>τ
def frzσ (σ:Nat→Option (Bk × Bool)) (fz:List Nat):Nat→Option (Bk × Bool):=
 fun k=>if k∈fz then (σ k).map (fun b=>(b.1,true)) else σ k
def updσ (σ:Nat→Option (Bk × Bool)) (d:Nat) (b:Option (Bk × Bool)):Nat→Option (Bk × Bool):=fun k=>if k=d then b else σ k
def SV.key:SV→Option Nat
 | .row k | .ptr k _ | .sub k _ _=>some k
 | _=>none
def killτ (τ:Nat→Option SV) (ks:List Nat):Nat→Option SV:=
 fun t=>match τ t with
  | some v=>match v.key with
   | some k=>if k∈ks then some .junk else some v
   | none=>some v
  | none=>none
def home:Value→Option Nat
 | .pointer (some a)=>some a.block
 | .slice (some a) _ _=>some a.block
 | _=>none
def SRep (g:Addr→Option Value) (m:Nat→Value):SV→Value→Prop
 | .val v,x=>Rep g v x
 | .nil,x=>x = .slice none 0 0
 | .row k,x=>x=m k
 | .ptr k o,x=>∃b,home (m k)=some b∧x = .pointer (some ⟨b,o,none⟩)
 | .sub k o n,x=>∃b c,home (m k)=some b∧x = .slice (some ⟨b,o,none⟩) n c∧n≤c∧c≤maxLen
 | .junk,_=>True
def Shape (w:World) (m:Value) (xs:List Value):Bk→Prop
 | .box _=>∃g e cur,m = .pointer (some ⟨g,0,none⟩)∧w.heap[g]?=some (.cells cur e (0,0))∧cur.toList=xs
 | .row e s n _=>w.ownsRow 0 e s m n xs
def All2 (g:Addr→Option Value) (cs:List PV) (xs:List Value):Prop:=
 xs.length=cs.length∧(∀(j:Nat) x,xs[j]?=some x→x.oneCell'=true)∧∀(j:Nat) c x,cs[j]?=some c→xs[j]?=some x→Rep g c x
theorem All2.mono {g g':Addr→Option Value} (hg:∀a x,g a=some x→g' a=some x) {cs:List PV} {xs:List Value} (h:All2 g cs xs):All2 g' cs xs:=
 ⟨h.1,h.2.1,fun j c x hc hx=>(h.2.2 j c x hc hx).mono hg⟩
def BRep (O:Nat→Prop) (w:World) (Pr:Nat→Nat→Prop) (m:Value) (b:Bk × Bool):Prop:=
 ∃xs,All2 (rd w Pr) b.1.cells xs∧Shape w m xs b.1∧∀g,home m=some g→O g∧∀o,Pr g o↔(b.2=true∧o<b.1.cells.length)
theorem Shape.at_ {w:World} {m:Value} {xs:List Value} {b:Bk} (h:Shape w m xs b) {g:Nat} (hg:home m=some g) :
  ∃cur e,w.heap[g]?=some (.cells cur e (0,0))∧cur.toList.take xs.length=xs:=by
 cases b with
 | box cs=>
  obtain ⟨g',e,cur,rfl,hh,rfl⟩:=h
  simp only [home,Option.some.injEq] at hg
  subst hg
  exact ⟨cur,e,hh,List.take_of_length_le (Nat.le_refl _)⟩
 | row e s n cs=>
  obtain ⟨hl,h | ⟨g',cap,cur,rfl,hb,hh,_,_,_,ht⟩⟩:=h
  ·obtain ⟨rfl,_⟩:=h;simp [home] at hg
  ·simp only [home,Option.some.injEq] at hg
   subst hg
   exact ⟨cur,e,hh,by rw [hl];exact ht⟩
theorem Shape.lt {w:World} {m:Value} {xs:List Value} {b:Bk} (h:Shape w m xs b) {g:Nat} (hg:home m=some g):g<w.heap.size:=by
 obtain ⟨cur,e,hh,_⟩:=h.at_ hg
 exact (Array.getElem?_eq_some_iff.1 hh).1
theorem Shape.cell {w:World} {m:Value} {xs:List Value} {b:Bk} (h:Shape w m xs b) {g:Nat} (hg:home m=some g) (j:Nat) (x:Value) (hx:xs[j]?=some x) :
  w.cell? ⟨g,j,none⟩=some x:=by
 obtain ⟨cur,e,hh,ht⟩:=h.at_ hg
 rw [cell_of_row w g j cur e (0,0) hh]
 rw [←ht,List.getElem?_take] at hx
 split at hx
 ·simpa using hx
 ·cases hx
theorem Shape.keep {w w':World} {m:Value} {xs:List Value} {b:Bk} (h:Shape w m xs b) (hk:∀g,home m=some g→w'.heap[g]?=w.heap[g]?):Shape w' m xs b:=by
 cases b with
 | box cs=>
  obtain ⟨g',e,cur,rfl,hh,rfl⟩:=h
  exact ⟨g',e,cur,rfl,by rw [hk g' rfl];exact hh,rfl⟩
 | row e s n cs=>
  obtain ⟨hl,h | ⟨g',cap,cur,rfl,hb,hh,h4⟩⟩:=h
  ·exact ⟨hl,.inl h⟩
  ·exact ⟨hl,.inr ⟨g',cap,cur,rfl,hb,by rw [hk g' rfl];exact hh,h4⟩⟩
theorem addr_add (g j o:Nat):(⟨g,o,none⟩:Addr).add j=⟨g,o+j,none⟩:=by
 unfold Addr.add;split<;>simp_all
theorem add_add (a:Addr) (i j:Nat):(a.add i).add j=a.add (i+j):=by
 unfold Addr.add
 by_cases hi:i=0<;>by_cases hj:j=0<;>simp [hi,hj,Nat.add_assoc]
def DfrOk (O:Nat→Prop) (a:Act) (w:World):Prop:=
 ∃Ds:List Nat,a.defers=Ds.map (fun D=>{ target := .collected D,args:=#[] })∧Ds.Nodup∧∀D∈Ds,O D∧w.heap[D]?=some (.deferred (some []))
theorem dfrOk_nil {O:Nat→Prop} {a:Act} {w:World} (h:a.defers=[]):DfrOk O a w:=⟨[],h,List.nodup_nil,fun D hD=>by cases hD⟩
structure Gh where
 w:World
 m:Nat→Value
 g:Addr→Option Value
structure Fm where
 w:World
 O:Nat→Prop
 top:∀k,w.heap.size≤k→O k
theorem dk_keep {O:Nat→Prop} {a:Act} {wk w w':World} (h:DfrOk O a w∧KeepsOthers wk w) (hk:KeepsOthers w w'):DfrOk O a w'∧KeepsOthers wk w':=
 ⟨let ⟨Ds,e,hn,hD⟩:=h.1;⟨Ds,e,hn,fun D hm=>⟨(hD D hm).1,hk.same D _ (hD D hm).2 rfl⟩⟩,h.2.trans hk⟩
structure Bel (O:Nat→Prop) (w w':World):Prop where
 os:w'.os=w.os
 tape:w'.tape=w.tape
 output:w'.output=w.output
 size:w.heap.size≤w'.heap.size
 block:∀k,¬O k→w'.heap[k]?=w.heap[k]?
theorem Bel.refl (O:Nat→Prop) (w:World):Bel O w w:=⟨rfl,rfl,rfl,Nat.le_refl _,fun _ _=>rfl⟩
theorem Bel.trans {O:Nat→Prop} {a b c:World} (h:Bel O a b) (k:Bel O b c):Bel O a c:=
 ⟨k.os.trans h.os,k.tape.trans h.tape,k.output.trans h.output,Nat.le_trans h.size k.size,fun i hi=>(k.block i hi).trans (h.block i hi)⟩
theorem Bel.mono {O O':Nat→Prop} {w w':World} (h:Bel O w w') (hO:∀k,O k→O' k):Bel O' w w':=⟨h.os,h.tape,h.output,h.size,fun k hk=>h.block k fun hk'=>hk (hO k hk')⟩
theorem Bel.drew {O:Nat→Prop} {a w:World} (h:Bel O a w):Bel O a w.drew:=⟨h.os,h.tape,h.output,h.size,h.block⟩
theorem Bel.alloc {O:Nat→Prop} {a w:World} (h:Bel O a w) (hB:O w.heap.size) (o:Obj):Bel O a (w.alloc o):=
 h.trans ⟨rfl,rfl,rfl,by simp,fun k hk=>by
  show (w.heap.push o)[k]?=_
  rw [Array.getElem?_push,if_neg (show ¬k=w.heap.size from fun e=>hk (by rw [e];exact hB))]⟩
theorem Bel.setCell {O:Nat→Prop} {a w:World} (h:Bel O a w) {p:Addr} (hp:O p.block) (u:Value):Bel O a (w.setCell p u):=
 h.trans ⟨rfl,rfl,rfl,by simp [World.setCell],fun k hk=>Below.heap_setCell _ _ _ _ (fun e=>hk (e ▸ hp))⟩
theorem Bel.grown {O:Nat→Prop} {a w w':World} {row:Option Nat} (h:Bel O a w) (hg:w.grownBy w' row) (hB:∀k,w.heap.size≤k→O k) (hr:∀k,row=some k→O k):Bel O a w':=
 h.trans ⟨hg.os,hg.tape,hg.output,hg.size,fun k hk=>hg.block k (Nat.lt_of_not_le fun hle=>hk (hB k hle)) (fun e=>hk (hr k e.symm))⟩
theorem Bel.of_below {O:Nat→Prop} {w w':World} (h:Below w.heap.size w w') (hB:∀k,w.heap.size≤k→O k):Bel O w w':=
 ⟨h.os,h.tape,h.output,h.size,fun k hk=>h.block k (Nat.lt_of_not_le fun hle=>hk (hB k hle))⟩
theorem Bel.below {w w':World} (h:Bel (fun k=>w.heap.size≤k) w w'):Below w.heap.size w w':=⟨h.os,h.tape,h.output,h.size,fun k hk=>h.block k (Nat.not_le.2 hk)⟩
theorem keeps_below {w w':World} (h:Below w.heap.size w w'):KeepsOthers w w':=
 ⟨h.size,fun k o hk _=>(h.block k (Array.getElem?_eq_some_iff.1 hk).1).trans hk⟩
def Whole (w:World) (g n:Nat):Prop:=n≠0∧∃vs t fr,w.heap[g]?=some (.cells vs t fr)∧vs.size=n
structure GRep (g:Addr→Option Value) (p:PV) (v:Value) (T:Prop):Prop where
 rep:Rep g p v
 ex:T
theorem GRep.mono {g g':Addr→Option Value} (hg:∀a x,g a=some x→g' a=some x) {p:PV} {v:Value} {T:Prop} (h:GRep g p v T):GRep g' p v T:=⟨h.rep.mono hg,h.ex⟩
structure Rel (E:PE) (N:Nat) (wk:Gh) (w0:Fm) (Pr0:Nat→Nat→Prop) (s:PS) (m:Nat→Value) (Pr:Nat→Nat→Prop) (a:Act) (w:World):Prop where
 below:Bel w0.O w0.w w
 dfr:DfrOk w0.O a w∧KeepsOthers wk.w w
 pin:∀k,N≤k→m k=wk.m k
 keep:∀p x,wk.g p=some x→rd w Pr p=some x
 sz:a.tmps.size=N
 pr0:∀b o,Pr0 b o→Pr b o
 new:∀b o,Pr b o→Pr0 b o∨w0.O b
 bnd:∀b o,Pr b o→b<w.heap.size
 glob:∀g cs,E.G g=some cs→GRep (rd w Pr) (.ref cs) (.pointer (some ⟨g,0,none⟩)) (¬w0.O g∧Whole w0.w g cs.length)
 tmp:∀t v,s.τ t=some v→∃x,a.tmps[t]?=some x∧SRep (rd w Pr) m v x
 blk:∀k b,s.σ k=some b→BRep w0.O w Pr (m k) b
 sep:∀k k' b b',s.σ k=some b→s.σ k'=some b'→k≠k'→∀h,home (m k)=some h→home (m k')≠some h
section
variable {E : PE} {N : Nat} {wk : Gh} {w0 : Fm} {Pr0 : Nat → Nat → Prop} {s : PS} {m : Nat → Value} {Pr : Nat → Nat → Prop} {a : Act} {w : World}
theorem Rel.globW (h:Rel E N wk w0 Pr0 s m Pr a w):∀g cs,E.G g=some cs→GRep (rd w Pr) (.ref cs) (.pointer (some ⟨g,0,none⟩)) (Whole w g cs.length):=fun g cs hg=>by
 obtain ⟨hr,hO,hn,vs,t,fr,hb,hl⟩:=h.glob g cs hg
 exact ⟨hr,hn,vs,t,fr,by rw [h.below.block g hO];exact hb,hl⟩
theorem cst_rep {g:Addr→Option Value} {v:Value} {p:PV} (h:cst v=some p):Rep g p v:=by
 unfold cst at h
 split at h<;>first | (cases h;done) | (cases h;constructor)
theorem getD_of {tmps:Array Value} {t:Nat} {x:Value} (h:tmps[t]?=some x):tmps.getD t undef=x:=by
 simp [h]
theorem Rel.opSV (h:Rel E N wk w0 Pr0 s m Pr a w) {x:Operand} {v:SV} (hv:opSV E s.τ x=some v):SRep (rd w Pr) m v (a.eval x):=by
 cases x with
 | tmp t=>
  obtain ⟨x,hx,hr⟩:=h.tmp t v hv
  simp only [Act.eval,getD_of hx]
  exact hr
 | const c=>
  simp only [PG.opSV] at hv
  unfold constSV at hv
  split at hv
  ·cases hv;rfl
  ·cases hv;trivial
  ·simp only [Option.map_eq_some_iff] at hv
   obtain ⟨p,hp,rfl⟩:=hv
   exact cst_rep hp
 | global g=>
  simp only [PG.opSV,Option.map_eq_some_iff] at hv
  obtain ⟨cs,hc,rfl⟩:=hv
  exact (h.glob g cs hc).rep
 | func f=>
  simp only [PG.opSV,Option.some.injEq] at hv
  subst hv
  exact Rep.clo f [] #[] rfl (fun j c x hc _=>by simp at hc)
theorem Rel.put (h:Rel E N wk w0 Pr0 s m Pr a w) (dst:Option Tmp) (hd:∀d,dst=some d→d<N) {v:SV} {x:Value} (hv:SRep (rd w Pr) m v x) :
  Rel E N wk w0 Pr0 ⟨putτ s.τ dst v,s.σ⟩ m Pr (a.put dst x) w:=by
 cases dst with
 | none=>exact h
 | some d=>
  refine ⟨h.below,h.dfr,h.pin,h.keep,by simpa [Act.put] using h.sz,h.pr0,h.new,h.bnd,h.glob,fun t u hu=>?_,h.blk,h.sep⟩
  simp only [putτ] at hu
  have hlt:d<a.tmps.size:=by rw [h.sz];exact hd d rfl
  by_cases ht:t=d
  ·subst ht
   simp only [if_true,Option.some.injEq] at hu
   subst hu
   exact ⟨x,by simp [Act.put,hlt],hv⟩
  ·simp only [ht,if_false] at hu
   obtain ⟨y,hy,hr⟩:=h.tmp t u hu
   refine ⟨y,?_,hr⟩
   simp only [Act.put]
   rw [Array.getElem?_setIfInBounds_ne (fun e=>ht e.symm)]
   exact hy
theorem SRep.mono {g g':Addr→Option Value} (hg:∀a x,g a=some x→g' a=some x) {m m':Nat→Value} {v:SV} {x:Value}
  (hk:∀k,v.key=some k→m' k=m k) (h:SRep g m v x):SRep g' m' v x:=by
 cases v with
 | val p=>exact Rep.mono hg h
 | nil=>exact h
 | row k=>simp only [SRep] at h ⊢;rw [hk k rfl];exact h
 | ptr k o=>simp only [SRep] at h ⊢;rw [hk k rfl];exact h
 | sub k o n=>simp only [SRep] at h ⊢;rw [hk k rfl];exact h
 | junk=>trivial
theorem Rel.freeze1 (h:Rel E N wk w0 Pr0 s m Pr a w) (k:Nat) :
  ∃Pr',(∀b o,Pr b o→Pr' b o)∧Rel E N wk w0 Pr0 ⟨s.τ,frzσ s.σ [k]⟩ m Pr' a w:=by
 cases hk:s.σ k with
 | none=>
  have he:frzσ s.σ [k]=s.σ:=by
   funext j;unfold frzσ;by_cases hj:j=k
   ·subst hj;simp [hk]
   ·simp [hj]
  exact ⟨Pr,fun _ _ h=>h,by rw [he];exact h⟩
 | some bf=>
  obtain ⟨b,fl⟩:=bf
  let Pr':Nat→Nat→Prop:=fun g o=>Pr g o∨(home (m k)=some g∧o<b.cells.length)
  have hbk:=h.blk k _ hk
  have hle:∀a x,rd w Pr a=some x→rd w Pr' a=some x:=rd_le fun a x hp hc=>⟨.inl hp,hc⟩
  refine ⟨Pr',fun _ _ h => .inl h,h.below,h.dfr,h.pin,fun p x hx=>hle _ _ (h.keep p x hx),h.sz,fun _ _ h0 => .inl (h.pr0 _ _ h0),?_,?_,fun g cs hg=>(h.glob g cs hg).mono hle,?_,?_,?_⟩
  ·rintro g o (hp | ⟨hg,_⟩)
   ·exact h.new g o hp
   ·obtain ⟨xs,_,_,hpr⟩:=hbk
    exact .inr (hpr g hg).1
  ·rintro g o (hp | ⟨hg,_⟩)
   ·exact h.bnd g o hp
   ·obtain ⟨xs,_,hsh,_⟩:=hbk
    exact hsh.lt hg
  ·intro t v hv
   obtain ⟨x,hx,hr⟩:=h.tmp t v hv
   exact ⟨x,hx,hr.mono hle fun _ _=>rfl⟩
  ·intro j bj hj
   simp only [frzσ,List.mem_singleton] at hj
   by_cases hjk:j=k
   ·subst hjk
    simp only [if_true,hk,Option.map_some,Option.some.injEq] at hj
    subst hj
    obtain ⟨xs,ha,hsh,hpr⟩:=hbk
    refine ⟨xs,ha.mono hle,hsh,fun g hg=>⟨(hpr g hg).1,fun o=>?_⟩⟩
    simp only [Pr',hg,true_and]
    rw [(hpr g hg).2 o]
    constructor
    ·rintro (⟨_,h⟩ | h)<;>exact h
    ·intro h;exact .inr h
   ·simp only [hjk,if_false] at hj
    obtain ⟨xs,ha,hsh,hpr⟩:=h.blk j bj hj
    refine ⟨xs,ha.mono hle,hsh,fun g hg=>⟨(hpr g hg).1,fun o=>?_⟩⟩
    rw [←(hpr g hg).2 o]
    constructor
    ·rintro (hp | ⟨hg',_⟩)
     ·exact hp
     ·exact absurd hg (h.sep k j _ _ hk hj (fun e=>hjk e.symm) g hg')
    ·exact .inl
  ·intro j j' b1 b2 hj hj' hne
   have e:∀i bi,frzσ s.σ [k] i=some bi→∃b0,s.σ i=some b0:=by
    intro i bi hi
    simp only [frzσ] at hi
    split at hi
    ·simp only [Option.map_eq_some_iff] at hi
     obtain ⟨b0,h0,_⟩:=hi
     exact ⟨b0,h0⟩
    ·exact ⟨bi,hi⟩
   obtain ⟨c1,h1⟩:=e _ _ hj
   obtain ⟨c2,h2⟩:=e _ _ hj'
   exact h.sep j j' c1 c2 h1 h2 hne
theorem frzσ_cons (σ:Nat→Option (Bk × Bool)) (k:Nat) (ks:List Nat):frzσ (frzσ σ [k]) ks=frzσ σ (k::ks):=by
 funext j
 simp only [frzσ,List.mem_cons,List.not_mem_nil,or_false]
 by_cases h1:j∈ks<;>by_cases h2:j=k<;>simp [h1,h2,Function.comp_def]
theorem frzσ_nil (σ:Nat→Option (Bk × Bool)):frzσ σ []=σ:=by funext j;simp [frzσ]
theorem Rel.freeze (fz:List Nat):∀{s:PS} {Pr:Nat→Nat→Prop},Rel E N wk w0 Pr0 s m Pr a w →
  ∃Pr',(∀b o,Pr b o→Pr' b o)∧Rel E N wk w0 Pr0 ⟨s.τ,frzσ s.σ fz⟩ m Pr' a w:=by
 induction fz with
 | nil=>intro s Pr h;exact ⟨Pr,fun _ _ h=>h,by rw [frzσ_nil];exact h⟩
 | cons k ks ih=>
  intro s Pr h
  obtain ⟨P1,h1,r1⟩:=h.freeze1 k
  obtain ⟨P2,h2,r2⟩:=ih r1
  exact ⟨P2,fun b o hp=>h2 b o (h1 b o hp),by rw [←frzσ_cons];exact r2⟩
theorem rd_mono {w:World} {Pr Pr':Nat→Nat→Prop} (h:∀b o,Pr b o→Pr' b o):∀a x,rd w Pr a=some x→rd w Pr' a=some x:=
 rd_le fun _ _ hp hc=>⟨h _ _ hp,hc⟩
theorem Rel.frozen_row (h:Rel E N wk w0 Pr0 s m Pr a w) {k:Nat} {e:TypeId} {z n:Nat} {cs:List PV} (hk:s.σ k=some (.row e z n cs,true)):Rep (rd w Pr) (.lst n cs) (m k):=by
 obtain ⟨xs,⟨hl,h1,hr⟩,hsh,hpr⟩:=h.blk k _ hk
 have hsh0:=hsh
 obtain ⟨hl',hd⟩:=hsh
 rcases hd with ⟨hm,hn⟩ | ⟨g,cap,cur,hm,hb,hh,hnc,hc,hcs,ht⟩
 ·subst hn
  have hx:xs=[]:=List.eq_nil_of_length_eq_zero (by simpa using hl')
  subst hx
  have hc:cs=[]:=List.eq_nil_of_length_eq_zero (by simpa [Bk.cells] using hl.symm)
  subst hc
  rw [hm]
  exact .nil
 ·rw [hm]
  refine .lst _ n cap cs xs hnc hc hl h1 (fun j x hx=>?_) hr
  rw [addr_add,Nat.zero_add,rd_some]
  refine ⟨((hpr g (by rw [hm];rfl)).2 j).2 ⟨rfl,?_⟩,hsh0.cell (by rw [hm];rfl) j x hx⟩
  have:=(List.getElem?_eq_some_iff.1 hx).1
  simp only [Bk.cells] at hl ⊢
  omega
theorem Rel.frozen_ptr (h:Rel E N wk w0 Pr0 s m Pr a w) {k:Nat} {b:Bk} (hk:s.σ k=some (b,true)) {g:Nat} (hg:home (m k)=some g) (off:Nat) :
  Rep (rd w Pr) (.ref (b.cells.drop off)) (.pointer (some ⟨g,off,none⟩)):=by
 obtain ⟨xs,⟨hl,h1,hr⟩,hsh,hpr⟩:=h.blk k _ hk
 refine .ref _ _ (xs.drop off) (by simp [hl]) (fun j x hx=>h1 (off+j) x (by simpa using hx)) (fun j x hx=>?_) (fun j c x hc hx=>hr (off+j) c x (by simpa using hc) (by simpa using hx))
 rw [List.getElem?_drop] at hx
 rw [addr_add,rd_some]
 have hlt:=(List.getElem?_eq_some_iff.1 hx).1
 exact ⟨((hpr g hg).2 _).2 ⟨rfl,by show off+j<b.cells.length;have hl':xs.length=b.cells.length:=hl;omega⟩,hsh.cell hg _ x hx⟩
theorem Rel.frozen_sub (h:Rel E N wk w0 Pr0 s m Pr a w) {k:Nat} {e:TypeId} {z n0:Nat} {cs:List PV} (hk:s.σ k=some (.row e z n0 cs,true)) {g:Nat} (hg:home (m k)=some g) {off n c:Nat} (hn:n≤c) (hc:c≤maxLen) :
  Rep (rd w Pr) (.lst n ((cs.drop off).take (n*z))) (.slice (some ⟨g,off,none⟩) n c):=by
 obtain ⟨xs,⟨hl,h1,hr⟩,hsh,hpr⟩:=h.blk k _ hk
 have hl:xs.length=cs.length:=hl
 have hat:∀(j:Nat) x,((xs.drop off).take (n*z))[j]?=some x→xs[off+j]?=some x:=fun j x hx=>by
  rw [List.getElem?_take] at hx
  split at hx
  ·simpa using hx
  ·cases hx
 refine .lst _ n c _ ((xs.drop off).take (n*z)) hn hc (by simp [hl]) (fun j x hx=>h1 (off+j) x (hat j x hx)) (fun j x hx=>?_) (fun j q x hq hx=>?_)
 ·rw [addr_add,rd_some]
  have hx':=hat j x hx
  have hlt:=(List.getElem?_eq_some_iff.1 hx').1
  exact ⟨((hpr g hg).2 _).2 ⟨rfl,by show off+j<cs.length;omega⟩,hsh.cell hg _ x hx'⟩
 ·rw [List.getElem?_take] at hq
  split at hq
  ·exact hr (off+j) q x (by simpa [Bk.cells] using hq) (hat j x hx)
  ·cases hq
theorem Rel.close (h:Rel E N wk w0 Pr0 s m Pr a w) {fz:List Nat} {Pr':Nat→Nat→Prop} (h':Rel E N wk w0 Pr0 ⟨s.τ,frzσ s.σ fz⟩ m Pr' a w) (hP:∀b o,Pr b o→Pr' b o)
  {x:Operand} {r:RV} (hr:res E s.τ s.σ x=some r) {p:PV} {f:List Nat} (hc:close r=some (p,f)) (hf:∀k∈f,k∈fz):Rep (rd w Pr') p (a.eval x):=by
 unfold res at hr
 cases hv:PG.opSV E s.τ x with
 | none=>simp [hv] at hr
 | some v=>
  simp only [hv,Option.bind_some] at hr
  have hs:=h.opSV hv
  cases v with
  | val q=>
   simp only [resSV,Option.some.injEq] at hr
   subst hr
   simp only [PG.close,Option.some.injEq,Prod.mk.injEq] at hc
   obtain ⟨rfl,_⟩:=hc
   exact Rep.mono (rd_mono hP) hs
  | nil=>
   simp only [resSV,Option.some.injEq] at hr
   subst hr
   simp only [PG.close,Option.some.injEq,Prod.mk.injEq] at hc
   obtain ⟨rfl,_⟩:=hc
   rw [show a.eval x=_ from hs]
   exact .nil
  | row k=>
   simp only [resSV,Option.map_eq_some_iff] at hr
   obtain ⟨⟨b,fl⟩,hk,rfl⟩:=hr
   cases b with
   | box cs=>simp [PG.close] at hc
   | row e z n cs=>
    simp only [PG.close,Option.some.injEq,Prod.mk.injEq] at hc
    obtain ⟨rfl,rfl⟩:=hc
    have hk':(⟨s.τ,frzσ s.σ fz⟩:PS).σ k=some (.row e z n cs,true):=by
     simp [frzσ,hf k (by simp),hk]
    rw [show a.eval x=_ from hs]
    exact h'.frozen_row hk'
  | ptr k o=>
   simp only [resSV,Option.map_eq_some_iff] at hr
   obtain ⟨⟨b,fl⟩,hk,rfl⟩:=hr
   simp only [PG.close,Option.some.injEq,Prod.mk.injEq] at hc
   obtain ⟨rfl,rfl⟩:=hc
   have hk':(⟨s.τ,frzσ s.σ fz⟩:PS).σ k=some (b,true):=by
    simp [frzσ,hf k (by simp),hk]
   obtain ⟨g,hg,e⟩:=hs
   rw [e]
   exact h'.frozen_ptr hk' hg o
  | sub k o n=>
   simp only [resSV,Option.map_eq_some_iff] at hr
   obtain ⟨⟨b,fl⟩,hk,rfl⟩:=hr
   cases b with
   | box cs=>simp [PG.close] at hc
   | row e z n0 cs=>
    simp only [PG.close] at hc
    split at hc
    ·simp only [Option.some.injEq,Prod.mk.injEq] at hc
     obtain ⟨rfl,rfl⟩:=hc
     have hk':(⟨s.τ,frzσ s.σ fz⟩:PS).σ k=some (.row e z n0 cs,true):=by
      simp [frzσ,hf k (by simp),hk]
     obtain ⟨g,c,hg,ex,hn,hcm⟩:=hs
     rw [ex]
     exact h'.frozen_sub hk' hg hn hcm
    ·cases hc
  | junk=>simp [resSV] at hr
theorem Rel.closeL (h:Rel E N wk w0 Pr0 s m Pr a w) {fz:List Nat} {Pr':Nat→Nat→Prop} (h':Rel E N wk w0 Pr0 ⟨s.τ,frzσ s.σ fz⟩ m Pr' a w) (hP:∀b o,Pr b o→Pr' b o) :
  ∀(l:List Operand) {ps:List PV} {f:List Nat},PG.closeL (l.map (res E s.τ s.σ))=some (ps,f)→(∀k∈f,k∈fz) →
   ps.length=l.length∧∀(j:Nat) p x,ps[j]?=some p→l[j]?=some x→Rep (rd w Pr') p (a.eval x)
 | [],ps,f,hc,_=>by
  simp only [List.map_nil,PG.closeL,Option.some.injEq,Prod.mk.injEq] at hc
  obtain ⟨rfl,rfl⟩:=hc
  exact ⟨rfl,fun j p x hp _=>by simp at hp⟩
 | y::l,ps,f,hc,hf=>by
  simp only [List.map_cons] at hc
  cases hy:res E s.τ s.σ y with
  | none=>simp [hy,PG.closeL] at hc
  | some r=>
   simp only [hy,PG.closeL] at hc
   split at hc
   ·rename_i v f1 vs f2 h1 h2
    simp only [Option.some.injEq,Prod.mk.injEq] at hc
    obtain ⟨rfl,rfl⟩:=hc
    obtain ⟨hl,hr⟩:=h.closeL h' hP l h2 (fun k hk=>hf k (by simp [hk]))
    refine ⟨by simp [hl],fun j p x hp hx=>?_⟩
    cases j with
    | zero=>
     simp only [List.getElem?_cons_zero,Option.some.injEq] at hp hx
     subst hp;subst hx
     exact h.close h' hP hy h1 (fun k hk=>hf k (by simp [hk]))
    | succ j=>exact hr j p x (by simpa using hp) (by simpa using hx)
   ·cases hc
end
end PG
end
section
set_option linter.unusedVariables false
set_option linter.unusedSimpArgs false
namespace PG
open Go Go.RowKit
section inv
variable {g : Addr → Option Value} {v : Value}
theorem Rep.int_inv {k:IntKind} {n:Int} (h:Rep g (.int k n) v):v = .int k n:=by cases h;rfl
theorem Rep.bool_inv {b:Bool} (h:Rep g (.bool b) v):v = .bool b:=by cases h;rfl
theorem Rep.str_inv {s:ByteArray} (h:Rep g (.str s) v):v = .string s:=by cases h;rfl
theorem Rep.agg_inv {cs:List PV} (h:Rep g (.agg cs) v):∃xs:Array Value,v = .agg xs∧All2 g cs xs.toList:=by
 cases h with
 | agg _ xs hl h1 hr=>exact ⟨xs,rfl,by simpa using hl,fun j x hx=>h1 j x (by simpa using hx),fun j c x hc hx=>hr j c x hc (by simpa using hx)⟩
theorem Rep.tuple_inv {vs:List PV} (h:Rep g (.tuple vs) v):∃xs:Array Value,v = .tuple xs∧xs.size=vs.length∧∀(j:Nat) c x,vs[j]?=some c→xs[j]?=some x→Rep g c x:=by
 cases h with
 | tuple _ xs hl hr=>exact ⟨xs,rfl,hl,hr⟩
theorem Rep.ref_inv {cs:List PV} (h:Rep g (.ref cs) v):∃(a:Addr) (xs:List Value),v = .pointer (some a)∧All2 g cs xs∧∀(j:Nat) x,xs[j]?=some x→g (a.add j)=some x:=by
 cases h with
 | ref a _ xs hl h1 hm hr=>exact ⟨a,xs,rfl,⟨hl,h1,hr⟩,hm⟩
theorem Rep.clo_inv {f:FuncId} {cs:List PV} (h:Rep g (.clo f cs) v):∃xs:Array Value,v = .func (.func f) #[] xs∧xs.size=cs.length∧∀(j:Nat) c x,cs[j]?=some c→xs[j]?=some x→Rep g c x:=by
 cases h with
 | clo _ _ xs hl hr=>exact ⟨xs,rfl,hl,hr⟩
theorem Rep.lst_inv {n:Nat} {cs:List PV} (h:Rep g (.lst n cs) v):(v = .slice none 0 0∧n=0∧cs=[]) ∨
  ∃(a:Addr) (cap:Nat) (xs:List Value),v = .slice (some a) n cap∧n≤cap∧cap≤maxLen∧All2 g cs xs∧∀(j:Nat) x,xs[j]?=some x→g (a.add j)=some x:=by
 cases h with
 | nil=>exact .inl ⟨rfl,rfl,rfl⟩
 | lst a _ cap _ xs hn hc hl h1 hm hr=>exact .inr ⟨a,cap,xs,rfl,hn,hc,⟨hl,h1,hr⟩,hm⟩
theorem All2.agg {cs:List PV} {xs:Array Value} (h:All2 g cs xs.toList):Rep g (.agg cs) (.agg xs):=
 .agg cs xs (by simpa using h.1) (fun j x hx=>h.2.1 j x (by simpa using hx)) (fun j c x hc hx=>h.2.2 j c x hc (by simpa using hx))
theorem All2.at_ {cs:List PV} {xs:List Value} (h:All2 g cs xs) {j:Nat} {c:PV} (hc:cs[j]?=some c):∃x,xs[j]?=some x∧Rep g c x∧x.oneCell'=true:=by
 have hlt:=(List.getElem?_eq_some_iff.1 hc).1
 have hx:xs[j]?=some (xs[j]'(by rw [h.1];exact hlt)):=List.getElem?_eq_getElem _
 exact ⟨_,hx,h.2.2 j c _ hc hx,h.2.1 j _ hx⟩
theorem All2.drop {cs:List PV} {xs:List Value} (h:All2 g cs xs) (n:Nat):All2 g (cs.drop n) (xs.drop n):=
 ⟨by simp [h.1],fun j x hx=>h.2.1 (n+j) x (by simpa using hx),fun j c x hc hx=>h.2.2 (n+j) c x (by simpa using hc) (by simpa using hx)⟩
theorem All2.take {cs:List PV} {xs:List Value} (h:All2 g cs xs) (n:Nat):All2 g (cs.take n) (xs.take n):=by
 refine ⟨by simp [h.1],fun j x hx=>?_,fun j c x hc hx=>?_⟩
 ·rw [List.getElem?_take] at hx
  split at hx
  ·exact h.2.1 j x hx
  ·cases hx
 ·rw [List.getElem?_take] at hx hc
  split at hx
  ·rename_i hlt
   simp only [hlt,if_true] at hc
   exact h.2.2 j c x hc hx
  ·cases hx
end inv
section
variable {E : PE} {N : Nat} {wk : Gh} {w0 : Fm} {Pr0 : Nat → Nat → Prop} {s : PS} {m : Nat → Value} {Pr : Nat → Nat → Prop} {a : Act} {w : World}
theorem Rel.svPV (h:Rel E N wk w0 Pr0 s m Pr a w) {x:Operand} {p:PV} (hv:PG.svPV (PG.opSV E s.τ x)=some p):Rep (rd w Pr) p (a.eval x):=by
 cases hs:PG.opSV E s.τ x with
 | none=>simp [hs,PG.svPV] at hv
 | some v=>
  cases v<;>simp [hs,PG.svPV] at hv
  subst hv
  exact h.opSV hs
theorem pint_sound {P:Program} {op:BinOp} {k:IntKind} {x y:Int} {p:PV} (t:TypeId) (hp:pint op k x y=some p) (hs:isShift op=false) (g:Addr→Option Value) (w:World) :
  ∃z,(binOp op t (.int k x) (.int k y)).run P w = .ok z w∧Rep g p z:=by
 have e1:(x == y)=decide (x=y):=by rw [Bool.eq_iff_iff];simp
 have e2:(x != y)=decide (x≠y):=by rw [Bool.eq_iff_iff];simp
 cases op<;>simp only [isShift,pint,reduceCtorEq,Option.some.injEq] at hp hs
 case quo=>
  split at hp
  ·cases hp
  ·rename_i h0
   cases hp
   exact ⟨_,by simp [binOp_quo,Op.intDiv,h0],.int _ _⟩
 case rem=>
  split at hp
  ·cases hp
  ·rename_i h0
   cases hp
   exact ⟨_,by simp [binOp_rem,Op.intDiv,h0],.int _ _⟩
 case eql=>subst hp;exact ⟨_,by simp only [binOp_eql,Sem.run_pure,e1],.bool _⟩
 case neq=>subst hp;exact ⟨_,by simp only [binOp_neq,Sem.run_pure,e2],.bool _⟩
 all_goals subst hp
 all_goals first
  | exact ⟨_,by simp only [binOp_add,binOp_sub,binOp_mul,Op.intArith];rfl,.int _ _⟩
  | exact ⟨_,by simp only [binOp_and,binOp_or,binOp_xor,binOp_andNot,intBits_and,intBits_or,intBits_xor,intBits_andNot];rfl,.int _ _⟩
  | exact ⟨_,by simp only [binOp_lss,binOp_leq,binOp_gtr,binOp_geq];rfl,.bool _⟩
theorem pshift_sound {P:Program} {op:BinOp} {k yk:IntKind} {x y:Int} {p:PV} (t:TypeId) (hp:pshift op k x y=some p) (g:Addr→Option Value) (w:World) :
  ∃z,(binOp op t (.int k x) (.int yk y)).run P w = .ok z w∧Rep g p z:=by
 unfold pshift at hp
 split at hp
 ·cases hp
 ·rename_i h0
  cases op<;>simp only [reduceCtorEq,Option.some.injEq] at hp
  all_goals subst hp
  ·exact ⟨_,by simp only [binOp_shl,Op.shift,h0,if_false];rfl,.int _ _⟩
  ·exact ⟨_,by simp only [binOp_shr,Op.shift,h0,if_false];rfl,.int _ _⟩
theorem byteArray_beq (a b:ByteArray):(a.toList == b.toList)=decide (a=b):=by
 rw [←beq_toListBytes,Bool.eq_iff_iff]
 simp only [decide_eq_true_eq]
 constructor
 ·intro h
  obtain ⟨x⟩:=a
  obtain ⟨y⟩:=b
  have h':(x == y)=true:=h
  rw [beq_iff_eq] at h'
  rw [h']
 ·rintro rfl
  obtain ⟨x⟩:=a
  show (x == x)=true
  simp
theorem pstr_sound {P:Program} {op:BinOp} {x y:ByteArray} {p:PV} (t:TypeId) (hp:pstr op x y=some p) (g:Addr→Option Value) (w:World) :
  ∃z,(binOp op t (.string x) (.string y)).run P w = .ok z w∧Rep g p z:=by
 cases op<;>simp only [pstr,reduceCtorEq,Option.some.injEq] at hp
 case add=>
  split at hp
  ·rename_i hle
   cases hp
   refine ⟨_,?_,.str _⟩
   have hle':¬((x.size+y.size:Nat):Int)>IntKind.i64.max:=by
    simp only [IntKind.max_i64,maxLen] at hle ⊢
    omega
   simp only [binOp,Op.stringOp,hle',if_false]
   rfl
  ·cases hp
 case eql=>subst hp;exact ⟨_,by simp only [binOp,Op.stringOp,Sem.run_pure,byteArray_beq],.bool _⟩
 case neq=>
  subst hp
  have:(!decide (x=y))=decide (x≠y):=by simp
  exact ⟨.bool (decide (x≠y)),by simp only [binOp,Op.stringOp,Sem.run_pure,byteArray_beq,this],.bool _⟩
theorem lk_struct {P:Program} {t:TypeId} {fs:List (Nat × TypeId)} (h:lk P t = .struct fs):∃Fs,P.underlying t=some (.struct Fs)∧fs=Fs.toList.map fun f=>(f.offset,f.type):=by
 unfold lk lkOf at h
 split at h<;>first | (cases h;done) | skip
 rename_i Fs he
 exact ⟨Fs,he,by cases h;rfl⟩
theorem lk_int {P:Program} {t:TypeId} {k:IntKind} (h:lk P t = .int k):P.underlying t=some (.int k):=by
 unfold lk lkOf at h
 split at h<;>first | (cases h;done) | skip
 rename_i he
 cases h;exact he
theorem lk_bool {P:Program} {t:TypeId} (h:lk P t = .bool):P.underlying t=some .bool:=by
 unfold lk lkOf at h
 split at h<;>first | (cases h;done) | assumption
theorem lk_str {P:Program} {t:TypeId} (h:lk P t = .str):P.underlying t=some .string:=by
 unfold lk lkOf at h
 split at h<;>first | (cases h;done) | assumption
theorem lk_slice {P:Program} {t e:TypeId} (h:lk P t = .slice e):P.underlying t=some (.slice e):=by
 unfold lk lkOf at h
 split at h<;>first | (cases h;done) | skip
 rename_i he
 cases h;exact he
theorem lk_ptr {P:Program} {t:TypeId} (h:lk P t = .ptr):∃e,P.underlying t=some (.pointer e):=by
 unfold lk lkOf at h
 split at h<;>first | (cases h;done) | skip
 rename_i he
 exact ⟨_,he⟩
theorem eqGuard_ptr {op:BinOp} {t:TypeId} {X Y:Operand} {a b:Option Addr}:eqGuard op t X Y (.pointer a) (.pointer b)=pure ():=by
 cases op<;>rfl
theorem equalIn_ptr_nil {P:Program} (w:World) (d:Nat) (t e:TypeId) (a:Option Addr) (h:P.underlying t=some (.pointer e)) :
  (Op.equalIn (d+1) t (.pointer a) (.pointer none)).run P w = .ok a.isNone w:=by
 cases a<;>simp [Op.equalIn,run_underlying h]
theorem lk_array {P:Program} {t e:TypeId} {n:Nat} (h:lk P t = .array n e):P.underlying t=some (.array n e):=by
 unfold lk lkOf at h
 split at h<;>first | (cases h;done) | skip
 rename_i he
 cases h;exact he
def isAggD:TypeDesc→Bool
 | .struct _ | .array _ _=>true
 | _=>false
theorem run_isAgg {P:Program} {t:TypeId} {d:TypeDesc} (h:P.underlying t=some d) (w:World) :
  (isAgg t).run P w = .ok (isAggD d) w:=by
 simp only [isAgg,Sem.run_bind,run_underlying h,Result.andThen_ok]
 cases d<;>rfl
theorem part_sound {P:Program} {t:TypeId} {cs:List PV} {off:Nat} {p:PV} {xs:Array Value} {g:Addr→Option Value} (hp:partPV P t cs off=some p) (h:All2 g cs xs.toList) (w:World) :
  ∃z,(part t xs off).run P w = .ok z w∧Rep g p z:=by
 have agg:∀n,sz P t=some n→(∃d,P.underlying t=some d∧isAggD d=true)→off+n≤cs.length→p = .agg ((cs.drop off).take n) →
   ∃z,(part t xs off).run P w = .ok z w∧Rep g p z:=by
  intro n hn ⟨d,hd,hda⟩ hle hpe
  unfold sz at hn
  simp only [Option.map_eq_some_iff] at hn
  obtain ⟨i,hi,rfl⟩:=hn
  refine ⟨.agg (xs.extract off (off+i.size)),by simp [part,run_isAgg hd,hda,Go.sizeOf,typeInfo,hi],?_⟩
  subst hpe
  refine All2.agg ?_
  have:(xs.extract off (off+i.size)).toList=(xs.toList.drop off).take i.size:=by
   simp [List.take_drop]
  rw [this]
  exact (h.drop off).take i.size
 unfold partPV at hp
 split at hp
 ·rename_i hl
  obtain ⟨Fs,hu,_⟩:=lk_struct hl
  split at hp
  ·rename_i n hn
   split at hp
   ·rename_i hle
    cases hp
    exact agg n hn ⟨_,hu,rfl⟩ hle rfl
   ·cases hp
  ·cases hp
 ·rename_i hl
  have hu:=lk_array hl
  split at hp
  ·rename_i n hn
   split at hp
   ·rename_i hle
    cases hp
    exact agg n hn ⟨_,hu,rfl⟩ hle rfl
   ·cases hp
  ·cases hp
 ·cases hp
 ·rename_i h1 h2 h3
  obtain ⟨x,hx,hr,_⟩:=h.at_ hp
  have hu:∃d,P.underlying t=some d∧isAggD d=false:=by
   cases hu:P.underlying t with
   | none=>exact absurd (by simp [lk,lkOf,hu]) h3
   | some d=>
    refine ⟨d,rfl,?_⟩
    cases d<;>first | rfl | skip
    ·rename_i n e;exact (h2 n e (by simp only [lk,lkOf,hu])).elim
    ·rename_i fs;exact (h1 (fs.toList.map fun f=>(f.offset,f.type)) (by simp only [lk,lkOf,hu])).elim
  obtain ⟨d,hd,hda⟩:=hu
  have hx':xs[off]?=some x:=by simpa using hx
  exact ⟨x,by simp [part,run_isAgg hd,hda,hx'],hr⟩
theorem eqCell_sound {P:Program} {g:Addr→Option Value} {c d:PV} {x y:Value} {r:Bool} {t:TypeId} (hc:Rep g c x) (hd:Rep g d y) (he:eqCell P t c d=some r) (D:Nat) (w:World) :
  (Op.equalIn (D+1) t x y).run P w = .ok r w∧∃k,P.underlying t=some k∧isAggD k=false:=by
 unfold eqCell at he
 split at he
 ·split at he
  ·rename_i k' hk
   split at he
   ·rename_i hkk
    cases he;cases hc;cases hd;subst hkk
    refine ⟨?_,_,lk_int hk,rfl⟩
    rw [run_equalIn_int w D t _ _ _ _ (lk_int hk)]
    rw [show ∀(a b:Int),(a == b)=decide (a=b) from fun a b=>by rw [Bool.eq_iff_iff];simp]
   ·cases he
  ·cases he
 ·split at he
  ·rename_i hk
   cases he;cases hc;cases hd
   exact ⟨run_equalIn_bool' w D t _ _ (lk_bool hk),_,lk_bool hk,rfl⟩
  ·cases he
 ·split at he
  ·rename_i hk
   cases he;cases hc;cases hd
   refine ⟨?_,_,lk_str hk,rfl⟩
   rw [run_equalIn_string w D t _ _ (lk_str hk),byteArray_beq]
  ·cases he
 ·cases he
theorem eqFields_sound {P:Program} {g:Addr→Option Value} (D:Nat) (w:World) {xs ys:Array Value}:∀(fs:List Field) (i:Nat) (cs ds:List PV) (r:Bool),flatFs i fs=true →
  All2 g cs (xs.toList.drop i)→All2 g ds (ys.toList.drop i)→eqCells P (fs.map (·.type)) cs ds=some r→(Op.eqFields (D+1) xs ys fs).run P w = .ok r w
 | [],i,cs,ds,r,_,_,_,he=>by
  simp only [List.map_nil,eqCells,Option.some.injEq] at he
  subst he
  rfl
 | f::fs,i,cs,ds,r,hf,hx,hy,he=>by
  simp only [flatFs,Bool.and_eq_true,bne_iff_ne,ne_eq,beq_iff_eq] at hf
  obtain ⟨⟨hn,ho⟩,hf'⟩:=hf
  cases cs with
  | nil=>simp [eqCells] at he
  | cons c cs=>
  cases ds with
  | nil=>simp [eqCells] at he
  | cons d ds=>
  simp only [List.map_cons,eqCells] at he
  split at he
  ·rename_i r1 r2 h1 h2
   cases he
   obtain ⟨x,hxe,hxr,_⟩:=hx.at_ (j:=0) rfl
   obtain ⟨y,hye,hyr,_⟩:=hy.at_ (j:=0) rfl
   obtain ⟨heq,k,hk,hka⟩:=eqCell_sound hxr hyr h1 D w
   have hx0:xs[i]?=some x:=by simpa using hxe
   have hy0:ys[i]?=some y:=by simpa using hye
   have px:(part f.type xs f.offset).run P w = .ok x w:=by rw [ho];simp [part,run_isAgg hk,hka,hx0]
   have py:(part f.type ys f.offset).run P w = .ok y w:=by rw [ho];simp [part,run_isAgg hk,hka,hy0]
   have ih:=eqFields_sound D w fs (i+1) cs ds r2 hf' (by have:=hx.drop 1;simpa [Nat.add_comm] using this) (by have:=hy.drop 1;simpa [Nat.add_comm] using this) h2
   simp only [Op.eqFields,hn,not_false_eq_true,ne_eq,if_true,Sem.run_bind,px,py,heq,Result.andThen_ok,Sem.run_ite]
   cases r1
   ·simp
   ·simpa using ih
  ·cases he
theorem eqAgg_sound {P:Program} {g:Addr→Option Value} {t:TypeId} {cs ds:List PV} {xs ys:Array Value} {r:Bool} (hf:flat P t=true) (hs:isStruct P t=true)
  (hx:All2 g cs xs.toList) (hy:All2 g ds ys.toList) (he:eqCells P (fieldTypes P t) cs ds=some r) (w:World):(Op.equalIn 10000 t (.agg xs) (.agg ys)).run P w = .ok r w:=by
 unfold flat at hf
 simp only [Bool.and_eq_true,Bool.not_eq_true'] at hf
 obtain ⟨⟨h1,h2⟩,_⟩:=hf
 unfold isStruct at hs
 split at hs
 ·rename_i fs hl
  obtain ⟨Fs,hu,hfs⟩:=lk_struct hl
  have hfo:P.fieldsOf t=Fs:=by simp [Program.fieldsOf,hu]
  have hft:fieldTypes P t=(P.fieldsOf t).toList.map (·.type):=by
   simp only [fieldTypes,hl,hfo,hfs,List.map_map]
   rfl
  rw [run_equalIn_struct w 9999 t xs ys (by rw [hfo];exact hu) h1]
  exact eqFields_sound 9998 w _ 0 cs ds r h2 (by simpa using hx) (by simpa using hy) (by rw [←hft];exact he)
 ·cases hs
theorem pbin_sound {P:Program} {op:BinOp} {t:TypeId} {p q r:PV} {x y:Value} {g:Addr→Option Value} (hx:Rep g p x) (hy:Rep g q y) (hp:pbin P op t p q=some r) (X Y:Operand) (w:World) :
  ∃z,(do eqGuard op t X Y x y;binOp op t x y:Sem Value).run P w = .ok z w∧Rep g r z:=by
 unfold pbin at hp
 split at hp
 ·rename_i k a k' b
  cases hx;cases hy
  simp only [eqGuard_at_int,pure_bind]
  split at hp
  ·exact pshift_sound t hp g w
  ·rename_i hs
   split at hp
   ·rename_i hk;subst hk;exact pint_sound t hp (by simpa using hs) g w
   ·cases hp
 ·cases hx;cases hy
  simp only [eqGuard_at_string,pure_bind]
  exact pstr_sound t hp g w
 ·rename_i a b
  cases hx;cases hy
  simp only [eqGuard_at_bool,pure_bind]
  split at hp
  ·split at hp
   ·rename_i hl
    cases hp
    refine ⟨.bool (a == b),?_,.bool _⟩
    simp only [binOp]
    simp [Op.equal,Op.maxDepth,run_equalIn_bool' w 9999 t a b (lk_bool hl)]
   ·cases hp
  ·split at hp
   ·rename_i hl
    cases hp
    refine ⟨.bool (a != b),?_,.bool _⟩
    simp only [binOp]
    simp [Op.equal,Op.maxDepth,run_equalIn_bool' w 9999 t a b (lk_bool hl),bne]
   ·cases hp
  ·cases hp
 ·obtain ⟨xs,rfl,ax⟩:=hx.agg_inv
  obtain ⟨ys,rfl,ay⟩:=hy.agg_inv
  split at hp
  ·rename_i hf
   have hg:P.eqGuardType P.depth t=false:=by
    have:=hf.1;unfold flat at this
    simp only [Bool.and_eq_true,Bool.not_eq_true'] at this
    exact this.2
   split at hp
   ·simp only [Option.map_eq_some_iff] at hp
    obtain ⟨b,hb,rfl⟩:=hp
    refine ⟨.bool b,?_,.bool _⟩
    simp only [Sem.run_bind,run_eqGuard_agg w .eql t X Y xs ys hg,Result.andThen_ok,run_eql_struct,eqAgg_sound hf.1 hf.2 ax ay hb w]
   ·simp only [Option.map_eq_some_iff] at hp
    obtain ⟨b,hb,rfl⟩:=hp
    refine ⟨.bool (!b),?_,.bool _⟩
    simp only [Sem.run_bind,run_eqGuard_agg w .neq t X Y xs ys hg,Result.andThen_ok,run_neq_struct,eqAgg_sound hf.1 hf.2 ax ay hb w]
   ·cases hp
  ·cases hp
 ·cases hx;cases hy
  simp only [eqGuard_ptr,pure_bind]
  split at hp
  ·split at hp
   ·rename_i hl
    cases hp
    obtain ⟨e,he⟩:=lk_ptr hl
    exact ⟨.bool true,by simp only [binOp];simp [Op.equal,Op.maxDepth,equalIn_ptr_nil w 9999 t e none he],.bool _⟩
   ·cases hp
  ·split at hp
   ·rename_i hl
    cases hp
    obtain ⟨e,he⟩:=lk_ptr hl
    exact ⟨.bool false,by simp only [binOp];simp [Op.equal,Op.maxDepth,equalIn_ptr_nil w 9999 t e none he],.bool _⟩
   ·cases hp
  ·cases hp
 ·cases hp
theorem pun_sound {P:Program} {op:UnOp} {p q:PV} {x:Value} {g:Addr→Option Value} (hq:Rep g q x) (hp:pun op q=some p) (w:World) :
  ∃z,(Op.unary op x).run P w = .ok z w∧Rep g p z:=by
 unfold pun at hp
 split at hp
 ·split at hp
  ·cases hp;cases hq;exact ⟨_,by simp only [Op.unary];rfl,.bool _⟩
  ·cases hp
 ·split at hp
  ·cases hp;cases hq;exact ⟨_,by simp only [Op.unary,Op.intArith];rfl,.int _ _⟩
  ·cases hp;cases hq;exact ⟨_,by simp only [Op.unary,intBits_xor];rfl,.int _ _⟩
  ·cases hp
 ·cases hp
theorem eqGuard_slice {op:BinOp} {t:TypeId} {X Y:Operand} {a b:Option Addr} {n c n' c':Nat}:eqGuard op t X Y (.slice a n c) (.slice b n' c')=pure ():=by
 cases op<;>rfl
theorem equalIn_slice_nil {P:Program} (w:World) (d:Nat) (t e:TypeId) (a:Option Addr) (l c:Nat) (h:P.underlying t=some (.slice e)) :
  (Op.equalIn (d+1) t (.slice a l c) (.slice none 0 0)).run P w = .ok a.isNone w:=by
 cases a<;>simp [Op.equalIn,run_underlying h]
theorem nilCmp_sound (h:Rel E N wk w0 Pr0 s m Pr a w) {op:BinOp} {t:TypeId} {x y:Operand} {v:SV} (hs:nilCmp E.P op t (PG.opSV E s.τ x) (PG.opSV E s.τ y)=some v) :
  ∃b,v = .val (.bool b)∧(do eqGuard op t x y (a.eval x) (a.eval y);binOp op t (a.eval x) (a.eval y):Sem Value).run E.P w = .ok (.bool b) w:=by
 unfold nilCmp at hs
 split at hs
 ·rename_i e n cs hl hx hy
  have h1:=(h.opSV hx:Rep _ _ _)
  have h2:a.eval y = .slice none 0 0:=h.opSV hy
  have hl':=lk_slice hl
  rw [h2]
  generalize a.eval x=z at h1
  cases h1 with
  | nn ad _ cap _ _=>
   simp only [eqGuard_slice,pure_bind]
   split at hs
   ·cases hs;exact ⟨false,rfl,by simp only [binOp];simp [Op.equal,Op.maxDepth,equalIn_slice_nil w 9999 t e (some ad) n cap hl']⟩
   ·cases hs;exact ⟨true,rfl,by simp only [binOp];simp [Op.equal,Op.maxDepth,equalIn_slice_nil w 9999 t e (some ad) n cap hl']⟩
   ·cases hs
 ·rename_i e hl hx hy
  have h1:a.eval x = .slice none 0 0:=h.opSV hx
  have h2:a.eval y = .slice none 0 0:=h.opSV hy
  have hl':=lk_slice hl
  rw [h2,h1]
  simp only [eqGuard_slice,pure_bind]
  split at hs
  ·cases hs;exact ⟨true,rfl,by simp only [binOp];simp [Op.equal,Op.maxDepth,equalIn_slice_nil w 9999 t e none 0 0 hl']⟩
  ·cases hs;exact ⟨false,rfl,by simp only [binOp];simp [Op.equal,Op.maxDepth,equalIn_slice_nil w 9999 t e none 0 0 hl']⟩
  ·cases hs
 ·rename_i k o hl hx hy
  have h1:=(h.opSV hx:SRep _ _ _ _)
  have h2:=(h.opSV hy:Rep _ _ _)
  obtain ⟨e,he⟩:=lk_ptr hl
  generalize a.eval y=zy at h2
  cases h2
  obtain ⟨bk,-,hz⟩:=h1
  rw [hz]
  simp only [eqGuard_ptr,pure_bind]
  split at hs
  ·cases hs;exact ⟨false,rfl,by simp only [binOp];simp [Op.equal,Op.maxDepth,equalIn_ptr_nil w 9999 t e (some ⟨bk,o,none⟩) he]⟩
  ·cases hs;exact ⟨true,rfl,by simp only [binOp];simp [Op.equal,Op.maxDepth,equalIn_ptr_nil w 9999 t e (some ⟨bk,o,none⟩) he]⟩
  ·cases hs
 ·cases hs
theorem stepA_sound (h:Rel E N wk w0 Pr0 s m Pr a w) {o:Oper} {v:SV} (hs:stepA E o.op (PG.opSV E s.τ)=some v) :
  ∃x,(execOp a.eval o).run E.P w = .ok (.value x) w∧SRep (rd w Pr) m v x:=by
 obtain ⟨ds,op,type,pos,after,guard⟩:=o
 cases op<;>simp only [stepA,reduceCtorEq] at hs
 case move x=>
  refine ⟨a.eval x,by simp [execOp],h.opSV ?_⟩
  split at hs
  ·cases hs
  ·exact hs
 case assign x=>exact ⟨a.eval x,by simp [execOp],h.opSV hs⟩
 case pick c x y=>
  split at hs
  ·rename_i hc
   split at hs
   ·rename_i u hx
    cases hs
    have:=(h.svPV hc).bool_inv
    exact ⟨a.eval x,by simp [execOp,this,asBool],h.opSV hx⟩
   ·cases hs
  ·rename_i hc
   split at hs
   ·rename_i u hx
    cases hs
    have:=(h.svPV hc).bool_inv
    exact ⟨a.eval y,by simp [execOp,this,asBool],h.opSV hx⟩
   ·cases hs
  ·cases hs
 case binOp op t x y yt=>
  split at hs
  ·rename_i p q hp hq
   simp only [Option.map_eq_some_iff] at hs
   obtain ⟨r,hr,rfl⟩:=hs
   obtain ⟨z,hz,hzr⟩:=pbin_sound (h.svPV hp) (h.svPV hq) hr x y w
   refine ⟨z,?_,hzr⟩
   simp only [execOp]
   rw [Sem.run_bind,hz]
   rfl
  ·obtain ⟨b,rfl,hz⟩:=nilCmp_sound h hs (w:=w)
   refine ⟨.bool b,?_,.bool b⟩
   simp only [execOp]
   rw [Sem.run_bind,hz]
   rfl
 case unOp op t x=>
  split at hs
  ·rename_i p hp
   simp only [Option.map_eq_some_iff] at hs
   obtain ⟨r,hr,rfl⟩:=hs
   obtain ⟨z,hz,hzr⟩:=pun_sound (h.svPV hp) hr w (P:=E.P)
   refine ⟨z,?_,hzr⟩
   simp only [execOp]
   rw [Sem.run_bind,hz]
   rfl
  ·cases hs
 case extract x i=>
  split at hs
  ·rename_i vs hx
   simp only [Option.map_eq_some_iff] at hs
   obtain ⟨r,hr,rfl⟩:=hs
   obtain ⟨xs,he,hl,hrep⟩:=(h.svPV hx).tuple_inv
   have hlt:=(List.getElem?_eq_some_iff.1 hr).1
   have hxi:xs[i]?=some (xs[i]'(by omega)):=Array.getElem?_eq_getElem _
   exact ⟨_,by simp [execOp,he,Instr.extract,hxi],hrep i r _ hr hxi⟩
  ·cases hs
 case field t x i=>
  split at hs
  ·rename_i cs fs hx hl
   obtain ⟨Fs,hu,rfl⟩:=lk_struct hl
   split at hs
   ·rename_i off ft hf
    simp only [Option.map_eq_some_iff] at hs
    obtain ⟨r,hr,rfl⟩:=hs
    obtain ⟨xs,he,hall⟩:=(h.svPV hx).agg_inv
    obtain ⟨z,hz,hzr⟩:=part_sound hr hall w
    refine ⟨z,?_,hzr⟩
    simp only [List.getElem?_map,Option.map_eq_some_iff,Prod.mk.injEq] at hf
    obtain ⟨f,hfi,rfl,rfl⟩:=hf
    have hfi':Fs[i]?=some f:=by simpa using hfi
    simp only [execOp,Instr.field,he,Sem.run_bind,run_underlying hu,Result.andThen_ok,hfi',asAgg,Sem.run_pure,hz]
   ·cases hs
  ·cases hs
 case fieldAddr t x i=>
  split at hs
  ·rename_i fs hl
   obtain ⟨Fs,hu,rfl⟩:=lk_struct hl
   split at hs
   ·rename_i off ft hf
    simp only [List.getElem?_map,Option.map_eq_some_iff,Prod.mk.injEq] at hf
    obtain ⟨f,hfi,rfl,rfl⟩:=hf
    have hfi':Fs[i]?=some f:=by simpa using hfi
    split at hs
    ·cases hs
    ·rename_i n hn0 hn
     have hsz:(Go.sizeOf f.type).run E.P w = .ok n w:=by
      unfold sz at hn
      simp only [Option.map_eq_some_iff] at hn
      obtain ⟨j,hj,rfl⟩:=hn
      simp [Go.sizeOf,typeInfo,hj]
     have hn0':¬n=0:=fun e=>hn0 (by subst e;rfl)
     have run:∀ad:Addr,a.eval x = .pointer (some ad)→(execOp a.eval ⟨ds,.fieldAddr t x i,type,pos,after,guard⟩).run E.P w = .ok (.value (.pointer (some (ad.add f.offset)))) w:=by
      intro ad he
      simp only [execOp,Instr.fieldAt,he,Sem.run_bind,run_underlying hu,Result.andThen_ok,hfi',Instr.sureAddr,Sem.run_pure,Go.fieldPlace,hsz,hn0',if_false]
     split at hs
     ·rename_i k o hx
      cases hs
      have hr:=h.opSV hx
      obtain ⟨b,hb,he⟩:=hr
      refine ⟨_,run _ he,b,hb,?_⟩
      rw [addr_add]
     ·rename_i cs hx
      cases hs
      obtain ⟨ad,xs,he,hall,hm⟩:=(Rep.ref_inv (h.opSV hx:Rep _ _ _))
      refine ⟨_,run _ he,?_⟩
      refine Rep.ref _ _ (xs.drop f.offset) (hall.drop _).1 (hall.drop _).2.1 (fun j y hy=>?_) (hall.drop _).2.2
      rw [add_add]
      exact hm _ y (by simpa using hy)
     ·cases hs
    ·cases hs
   ·cases hs
  ·cases hs
 case index t x i=>
  split at hs
  ·rename_i st k n hx hi hl
   split at hs
   ·rename_i hn
    cases hs
    have e1:=(h.svPV hx).str_inv
    have e2:=(h.svPV hi).int_inv
    refine ⟨.int .u8 (st[n.toNat]'hn.2).toNat,?_,.int _ _⟩
    have hg:st[n.toNat]?=some (st[n.toNat]'hn.2):=getElem?_pos st _ hn.2
    simp [execOp,Instr.index,e1,e2,asIntOf,run_underlying (lk_str hl),hn.1,hg]
   ·cases hs
  ·cases hs
 case makeInterface t x=>
  split at hs
  ·rename_i k n hx
   split at hs
   ·rename_i hc
    cases hs
    have e1:=(h.svPV hx).int_inv
    refine ⟨.iface t (.int k n),?_,.ifv _ _ _⟩
    unfold cnc at hc
    split at hc
    ·cases hc
    ·rename_i d hni hd
     simp only [execOp,Instr.makeInterface,e1,Sem.run_bind,run_underlying hd,Result.andThen_ok]
     rfl
    ·cases hc
   ·cases hs
  ·cases hs
end
end PG
end
section
set_option linter.unusedVariables false
set_option linter.unusedSimpArgs false
namespace PG
open Go Go.RowKit
def updm (m:Nat→Value) (d:Nat) (v:Value):Nat→Value:=fun k=>if k=d then v else m k
section
variable {E : PE} {N : Nat} {wk : Gh} {w0 : Fm} {Pr0 : Nat → Nat → Prop} {s : PS} {m : Nat → Value} {Pr : Nat → Nat → Prop} {a : Act} {w : World}
theorem BRep.keep {O:Nat→Prop} {w w':World} {Pr Pr':Nat→Nat→Prop} {v:Value} {b:Bk × Bool} (h:BRep O w Pr v b) (hle:∀a x,rd w Pr a=some x→rd w' Pr' a=some x)
  (hk:∀g,home v=some g→w'.heap[g]?=w.heap[g]?) (hp:∀g,home v=some g→∀o,Pr' g o↔Pr g o):BRep O w' Pr' v b:=by
 obtain ⟨xs,ha,hs,hpr⟩:=h
 exact ⟨xs,ha.mono hle,hs.keep hk,fun g hg=>⟨(hpr g hg).1,fun o=>(hp g hg o).trans ((hpr g hg).2 o)⟩⟩
theorem BRep.wide {O O':Nat→Prop} {w:World} {Pr:Nat→Nat→Prop} {v:Value} {b:Bk × Bool} (h:BRep O w Pr v b) (hO:∀g,home v=some g→O' g):BRep O' w Pr v b:=by
 obtain ⟨xs,ha,hs,hpr⟩:=h
 exact ⟨xs,ha,hs,fun g hg=>⟨hO g hg,(hpr g hg).2⟩⟩
theorem Rel.blkset0 (h:Rel E N wk w0 Pr0 s m Pr a w) (d:Nat) (b:Bk × Bool) (v:Value) (w':World) (Pr':Nat→Nat→Prop)
  (hpin:∀k,N≤k→updm m d v k=wk.m k) (hnm:∀t u,s.τ t=some u→u.key=some d→v=m d) (hbelow:Bel w0.O w w') (hko:KeepsOthers w w')
  (hP:∀g o,Pr g o→Pr' g o) (hP':∀g o,Pr' g o→Pr g o∨home v=some g)
  (hle:∀a x,rd w Pr a=some x→rd w' Pr' a=some x) (hb:BRep w0.O w' Pr' v b)
  (hoth:∀k bk,k≠d→s.σ k=some bk→∀g,home (m k)=some g→w'.heap[g]?=w.heap[g]?∧home v≠some g) :
  Rel E N wk w0 Pr0 ⟨s.τ,updσ s.σ d (some b)⟩ (updm m d v) Pr' a w':=by
 have hg:∀g,home v=some g→w0.O g∧g<w'.heap.size:=fun g hg=>by
  obtain ⟨xs,_,hsh,hpr⟩:=hb
  exact ⟨(hpr g hg).1,hsh.lt hg⟩
 refine ⟨h.below.trans hbelow,dk_keep h.dfr hko,hpin,fun p x hx=>hle _ _ (h.keep p x hx),h.sz,fun g o h0=>hP g o (h.pr0 g o h0),?_,?_,fun g cs hgl=>(h.glob g cs hgl).mono hle,?_,?_,?_⟩
 ·intro g o hp
  rcases hP' g o hp with hp | hv
  ·exact h.new g o hp
  ·exact .inr (hg g hv).1
 ·intro g o hp
  rcases hP' g o hp with hp | hv
  ·exact Nat.lt_of_lt_of_le (h.bnd g o hp) hbelow.size
  ·exact (hg g hv).2
 ·intro t u hu
  obtain ⟨x,hx,hr⟩:=h.tmp t u hu
  refine ⟨x,hx,hr.mono hle fun k hk=>?_⟩
  unfold updm
  split
  ·rename_i e;subst e;exact hnm t u hu hk
  ·rfl
 ·intro k bk hk
  simp only [updσ] at hk
  unfold updm
  by_cases hkd:k=d
  ·simp only [hkd,if_true,Option.some.injEq] at hk ⊢
   subst hk;exact hb
  ·simp only [hkd,if_false] at hk ⊢
   refine (h.blk k bk hk).keep hle (fun g hg=>(hoth k bk hkd hk g hg).1) (fun g hg o=>⟨fun hp=>?_,hP g o⟩)
   rcases hP' g o hp with hp | hv
   ·exact hp
   ·exact absurd hv (hoth k bk hkd hk g hg).2
 ·intro k k' b1 b2 h1 h2 hne g hg1 hg2
  simp only [updσ] at h1 h2
  unfold updm at hg1 hg2
  by_cases hk:k=d
  ·have hk':¬k'=d:=fun e=>hne (hk.trans e.symm)
   simp only [hk,if_true] at hg1
   simp only [hk',if_false] at h2 hg2
   exact (hoth k' b2 hk' h2 g hg2).2 hg1
  ·simp only [hk,if_false] at h1 hg1
   by_cases hk':k'=d
   ·simp only [hk',if_true] at hg2
    exact (hoth k b1 hk h1 g hg1).2 hg2
   ·simp only [hk',if_false] at h2 hg2
    exact h.sep k k' b1 b2 h1 h2 hne g hg1 hg2
theorem Rel.blkset (h:Rel E N wk w0 Pr0 s m Pr a w) (d:Nat) (b:Bk × Bool) (v:Value) (w':World) (Pr':Nat→Nat→Prop)
  (hdN:d<N) (hnm:∀t u,s.τ t=some u→u.key=some d→v=m d) (hbelow:Bel w0.O w w') (hko:KeepsOthers w w')
  (hP:∀g o,Pr g o→Pr' g o) (hP':∀g o,Pr' g o→Pr g o∨home v=some g)
  (hle:∀a x,rd w Pr a=some x→rd w' Pr' a=some x) (hb:BRep w0.O w' Pr' v b)
  (hoth:∀k bk,k≠d→s.σ k=some bk→∀g,home (m k)=some g→w'.heap[g]?=w.heap[g]?∧home v≠some g) :
  Rel E N wk w0 Pr0 ⟨s.τ,updσ s.σ d (some b)⟩ (updm m d v) Pr' a w':=
 h.blkset0 d b v w' Pr' (fun k hk=>by
  unfold updm
  rw [if_neg (by omega)]
  exact h.pin k hk) hnm hbelow hko hP hP' hle hb hoth
theorem Rel.newBlk (h:Rel E N wk w0 Pr0 s m Pr a w) (d:Nat) (hdN:d<N) (b:Bk) (v:Value) (o:Obj) (xs:List Value) (hnm:∀t u,s.τ t=some u→u.key≠some d)
  (hv:home v=some w.heap.size) (ha:All2 (rd w Pr) b.cells xs) (hs:Shape (w.alloc o) v xs b) :
  Rel E N wk w0 Pr0 ⟨s.τ,updσ s.σ d (some (b,false))⟩ (updm m d v) Pr a (w.alloc o):=by
 have hle:∀a x,rd w Pr a=some x→rd (w.alloc o) Pr a=some x:=rd_le fun a x hp hc=>⟨hp,by rw [World.cell?_alloc_lt w o a (h.bnd _ _ hp)];exact hc⟩
 have htop:w0.O w.heap.size:=w0.top _ h.below.size
 refine h.blkset d (b,false) v _ Pr hdN (fun t u hu hk=>absurd hk (hnm t u hu)) ((Bel.refl _ _).alloc htop o) (KeepsOthers.alloc _ _) (fun _ _ h=>h) (fun _ _ h => .inl h) hle ⟨xs,ha.mono hle,hs,fun g hg=>?_⟩ ?_
 ·rw [hv] at hg
  cases hg
  refine ⟨htop,fun p=>?_⟩
  constructor
  ·intro hp;exact absurd (h.bnd _ _ hp) (Nat.lt_irrefl _)
  ·rintro ⟨h0,_⟩;cases h0
 ·intro k bk _ hk g hg
  obtain ⟨ys,_,hsh,_⟩:=h.blk k bk hk
  have hlt:=hsh.lt hg
  exact ⟨Below.heap_alloc w o g hlt,by rw [hv];intro e;cases e;exact Nat.lt_irrefl _ hlt⟩
theorem setCells_nil (cs:List PV) (off:Nat):setCells cs off []=cs:=rfl
theorem length_setCells:∀(vs cs:List PV) (off:Nat),(setCells cs off vs).length=cs.length
 | [],_,_=>rfl
 | v::vs,cs,off=>by simp only [setCells];rw [length_setCells vs];simp
theorem All2.set {g:Addr→Option Value} {cs:List PV} {xs:List Value} (h:All2 g cs xs) (j:Nat) {c:PV} {x:Value} (hr:Rep g c x) (h1:x.oneCell'=true):All2 g (cs.set j c) (xs.set j x):=by
 refine ⟨by simp [h.1],fun i y hy=>?_,fun i d y hd hy=>?_⟩
 ·rw [List.getElem?_set] at hy
  split at hy
  ·split at hy
   ·cases hy;exact h1
   ·cases hy
  ·exact h.2.1 i y hy
 ·rw [List.getElem?_set] at hy hd
  split at hy
  ·rename_i hij
   simp only [hij,if_true] at hd
   split at hy
   ·split at hd
    ·cases hy;cases hd;exact hr
    ·cases hd
   ·cases hy
  ·rename_i hij
   simp only [hij,if_false] at hd
   exact h.2.2 i d y hd hy
theorem Shape.stored {w:World} {m:Value} {b:Bk} {xs:List Value} (h:Shape w m xs b) {g:Nat} (hg:home m=some g) (j:Nat) (u:Value) (cs':List PV) :
  Shape (w.setCell ⟨g,j,none⟩ u) m (xs.set j u) (match b with | .box _ => .box cs' | .row e s n _ => .row e s n cs'):=by
 cases b with
 | box cs=>
  obtain ⟨g',e,cur,rfl,hh,rfl⟩:=h
  simp only [home,Option.some.injEq] at hg;subst hg
  exact ⟨g',e,cur.setIfInBounds j u,rfl,heap_setCell_same w g' j cur e u hh,by simp⟩
 | row e s n cs=>
  simp only [Shape] at h ⊢
  have hform:∃cap,m = .slice (some ⟨g,0,none⟩) n cap:=by
   rcases h.2 with ⟨rfl,_⟩ | ⟨g',cap,cur,rfl,_⟩
   ·simp [home] at hg
   ·simp only [home,Option.some.injEq] at hg;subst hg;exact ⟨cap,rfl⟩
  obtain ⟨cap,rfl⟩:=hform
  exact (h.stored j u).1
theorem Bk.with_cells (b:Bk) (cs:List PV):(b.with cs).cells=cs:=by cases b<;>rfl
theorem Bk.with_with (b:Bk) (cs ds:List PV):(b.with cs).with ds=b.with ds:=by cases b<;>rfl
theorem Bk.with_self (b:Bk):b.with b.cells=b:=by cases b<;>rfl
theorem Rel.store1 (h:Rel E N wk w0 Pr0 s m Pr a w) {k:Nat} {b:Bk} (hk:s.σ k=some (b,false)) {g:Nat} (hg:home (m k)=some g) (j:Nat) {c:PV} {x:Value} (hr:Rep (rd w Pr) c x) (h1:x.oneCell'=true) :
  Rel E N wk w0 Pr0 ⟨s.τ,updσ s.σ k (some (b.with (b.cells.set j c),false))⟩ m Pr a (w.setCell ⟨g,j,none⟩ x):=by
 obtain ⟨xs,ha,hsh,hpr⟩:=h.blk k _ hk
 have hfree:∀o,¬Pr g o:=fun o hp=>by have:=((hpr g hg).2 o).1 hp;cases this.1
 have hge:w0.O g:=(hpr g hg).1
 have hle:∀a y,rd w Pr a=some y→rd (w.setCell ⟨g,j,none⟩ x) Pr a=some y:=rd_le fun a y hp hc=>⟨hp,by
  rw [World.cell?_setCell_other]
  ·exact hc
  ·intro e;subst e;exact hfree _ hp⟩
 have hm:updm m k (m k)=m:=by funext i;unfold updm;split<;>simp_all
 have:=h.blkset0 k (b.with (b.cells.set j c),false) (m k) (w.setCell ⟨g,j,none⟩ x) Pr (fun i hi=>by rw [hm];exact h.pin i hi) (fun _ _ _ _=>rfl) ((Bel.refl _ _).setCell (p:=⟨g,j,none⟩) hge x) (KeepsOthers.setCell _ _ _) (fun _ _ h=>h) (fun _ _ h => .inl h) hle
  ⟨xs.set j x,by rw [Bk.with_cells];exact (ha.mono hle).set j (hr.mono hle) h1,by
    have:=hsh.stored hg j x (b.cells.set j c)
    cases b<;>exact this,fun g' hg'=>⟨by rw [hg] at hg';cases hg';exact hge,fun o=>by
    rw [hg] at hg';cases hg'
    constructor
    ·intro hp;exact absurd hp (hfree o)
    ·rintro ⟨h0,_⟩;cases h0⟩⟩
  (fun i bi hi hbi g' hg'=>⟨heap_setCell_other w ⟨g,j,none⟩ g' x (fun e=>h.sep k i _ _ hk hbi (fun e=>hi e.symm) g hg (by rw [hg'];simpa using e)),fun e=>h.sep k i _ _ hk hbi (fun e=>hi e.symm) g' e hg'⟩)
 rw [hm] at this
 exact this
theorem updσ_updσ (σ:Nat→Option (Bk × Bool)) (k:Nat) (x y:Option (Bk × Bool)):updσ (updσ σ k x) k y=updσ σ k y:=by
 funext j;unfold updσ;split<;>rfl
theorem updσ_self (σ:Nat→Option (Bk × Bool)) (k:Nat) (x:Option (Bk × Bool)) (h:σ k=x):updσ σ k x=σ:=by
 funext j;unfold updσ;split
 ·rename_i e;subst e;exact h.symm
 ·rfl
theorem Rel.storeN:∀(cs:List PV) (xs:List Value) (off i:Nat) {s:PS} {w:World} {b:Bk},Rel E N wk w0 Pr0 s m Pr a w→∀{k:Nat},s.σ k=some (b,false)→∀{g:Nat},home (m k)=some g →
  All2 (rd w Pr) cs xs→off+i+cs.length≤b.cells.length →
  ∃w',(storeCells ⟨g,off,none⟩ xs i).run E.P w = .ok () w'∧Rel E N wk w0 Pr0 ⟨s.τ,updσ s.σ k (some (b.with (setCells b.cells (off+i) cs),false))⟩ m Pr a w'
 | [],xs,off,i,s,w,b,h,k,hk,g,hg,ha,hle=>by
  have hx:xs=[]:=List.eq_nil_of_length_eq_zero (by simpa using ha.1)
  subst hx
  refine ⟨w,rfl,?_⟩
  rw [setCells_nil,Bk.with_self,updσ_self _ _ _ hk]
  exact h
 | c::cs,xs,off,i,s,w,b,h,k,hk,g,hg,ha,hle=>by
  cases xs with
  | nil=>have:=ha.1;simp at this
  | cons x xs=>
   have hr:=ha.2.2 0 c x rfl rfl
   have h1:=ha.2.1 0 x rfl
   obtain ⟨ys,hall,hsh,hpr⟩:=h.blk k _ hk
   obtain ⟨cur,e,hh,ht⟩:=hsh.at_ hg
   have hlt:off+i<ys.length:=by
    have h2:ys.length=b.cells.length:=hall.1
    simp only [List.length_cons] at hle;omega
   have hcell:=hsh.cell hg (off+i) _ (List.getElem?_eq_getElem hlt)
   have hst:(store ((⟨g,off,none⟩:Addr).add i) x).run E.P w = .ok () (w.setCell ⟨g,off+i,none⟩ x):=by
    rw [addr_add,run_store E.P w _ x _ h1,hcell,frozen_of_row w g _ cur e hh]
    rfl
   have hs1:=h.store1 hk hg (off+i) hr h1
   have hfree:∀o,¬Pr g o:=fun o hp=>by have:=((hpr g hg).2 o).1 hp;cases this.1
   have hle':∀a y,rd w Pr a=some y→rd (w.setCell ⟨g,off+i,none⟩ x) Pr a=some y:=rd_le fun a y hp hc=>⟨hp,by
    rw [World.cell?_setCell_other]
    ·exact hc
    ·intro e;subst e;exact hfree _ hp⟩
   have hall':All2 (rd (w.setCell ⟨g,off+i,none⟩ x) Pr) cs xs:=
    All2.mono hle' ⟨by simpa using ha.1,fun j y hy=>ha.2.1 (j+1) y (by simpa using hy),fun j d y hd hy=>ha.2.2 (j+1) d y (by simpa using hd) (by simpa using hy)⟩
   obtain ⟨w',hrun,hrel⟩:=Rel.storeN cs xs off (i+1) hs1 (k:=k) (b:=b.with (b.cells.set (off+i) c)) (by simp [updσ]) hg hall' (by rw [Bk.with_cells];simp only [List.length_cons,List.length_set] at hle ⊢;omega)
   refine ⟨w',?_,?_⟩
   ·simp only [storeCells,Sem.run_bind,hst,Result.andThen_ok,hrun]
   ·simp only [updσ_updσ,Bk.with_with,Bk.with_cells] at hrel
    simp only [setCells]
    rw [show off+i+1=off+(i+1) by omega]
    exact hrel
theorem Rel.called (h:Rel E N wk w0 Pr0 s m Pr a w) {w':World} (hb:Below w.heap.size w w') :
  Rel E N wk w0 Pr0 s m (fun g o=>Pr g o∨(w.heap.size≤g∧g<w'.heap.size)) a w':=by
 have hle:∀a x,rd w Pr a=some x→rd w' (fun g o=>Pr g o∨(w.heap.size≤g∧g<w'.heap.size)) a=some x:=
  rd_le fun a x hp hc=>⟨.inl hp,by rw [hb.cell (h.bnd _ _ hp)];exact hc⟩
 have htop:∀k,w.heap.size≤k→w0.O k:=fun k hk=>w0.top k (Nat.le_trans h.below.size hk)
 refine ⟨h.below.trans (Bel.of_below hb htop),dk_keep h.dfr (keeps_below hb),h.pin,fun p x hx=>hle _ _ (h.keep p x hx),h.sz,fun g o h0 => .inl (h.pr0 g o h0),?_,?_,fun g cs hg=>(h.glob g cs hg).mono hle,?_,?_,h.sep⟩
 ·rintro g o (hp | ⟨hge,_⟩)
  ·exact h.new g o hp
  ·exact .inr (htop g hge)
 ·rintro g o (hp | ⟨_,hlt⟩)
  ·exact Nat.lt_of_lt_of_le (h.bnd g o hp) hb.size
  ·exact hlt
 ·intro t v hv
  obtain ⟨x,hx,hr⟩:=h.tmp t v hv
  exact ⟨x,hx,hr.mono hle fun _ _=>rfl⟩
 ·intro k b hk
  obtain ⟨xs,ha,hsh,hpr⟩:=h.blk k b hk
  refine BRep.keep ⟨xs,ha,hsh,hpr⟩ hle (fun g hg=>hb.block g (hsh.lt hg)) (fun g hg o=>⟨?_,.inl⟩)
  rintro (hp | ⟨hge,_⟩)
  ·exact hp
  ·exact absurd (hsh.lt hg) (Nat.not_lt.2 hge)
def Post (w:World) (Pr:Nat→Nat→Prop) (r:PV) (v:Value) (w':World):Prop:=
 Rep (rd w' (fun g o=>Pr g o∨w.heap.size≤g)) r v∧Below w.heap.size w w'
def PC (E:PE) (f:FuncId) (args:List PV) (r:PV):Prop:=
 ∀(w:World) (Pr:Nat→Nat→Prop) (vs:Array Value),(∀g o,Pr g o→g<w.heap.size)→(∀g cs,E.G g=some cs→GRep (rd w Pr) (.ref cs) (.pointer (some ⟨g,0,none⟩)) (Whole w g cs.length)) →
  vs.size=args.length→(∀(j:Nat) p v,args[j]?=some p→vs[j]?=some v→Rep (rd w Pr) p v) →
  match (callFunc f vs).run E.P w with
  | .ok (.value v) w'=>Post w Pr r v w'
  | .ok (.enter f' vs') w'=>w'=w∧Calls E.P f' vs' w (fun e w''=>∃v,e = .returned v∧Post w Pr r v w'')
  | _=>False
def OwnM (w:World) (mv:Nat→Value) (nb:Nat):Nat→Prop:=fun g=>w.heap.size≤g∨∃i,i<nb∧home (mv i)=some g
def PostM (w:World) (Pr:Nat→Nat→Prop) (mv:Nat→Value) (nb:Nat) (r:SV) (bs':List Bk) (v:Value) (w':World):Prop:=
 ∃(mv':Nat→Value) (Pr':Nat→Nat→Prop),(∀i,i<nb→mv' i=mv i)∧Bel (OwnM w mv nb) w w'∧KeepsOthers w w'∧(∀g o,Pr g o→Pr' g o)∧(∀g o,Pr' g o→Pr g o∨w.heap.size≤g) ∧
  (∀g o,Pr' g o→g<w'.heap.size)∧(∀p x,rd w Pr p=some x→rd w' Pr' p=some x) ∧
  (∀i b,bs'[i]?=some b→BRep (OwnM w mv nb) w' Pr' (mv' i) (b,false)) ∧
  (∀i j b c,bs'[i]?=some b→bs'[j]?=some c→i≠j→∀g,home (mv' i)=some g→home (mv' j)≠some g) ∧
  (∀i,nb≤i→∀g,home (mv' i)=some g→w.heap.size≤g)∧SRep (rd w' Pr') mv' r v
def PCM (E:PE) (f:FuncId) (args:List SV) (bs:List Bk) (r:SV) (bs':List Bk):Prop:=
 bs.length≤bs'.length∧bs'.length≤bs.length+1∧(∀k,r.key=some k→k=bs.length∧bs'.length=bs.length+1)∧r ≠ .junk ∧
 ∀(w:World) (Pr:Nat→Nat→Prop) (mv:Nat→Value) (vs:Array Value),(∀g o,Pr g o→g<w.heap.size)→(∀g cs,E.G g=some cs→GRep (rd w Pr) (.ref cs) (.pointer (some ⟨g,0,none⟩)) (Whole w g cs.length)) →
  (∀i b,bs[i]?=some b→BRep (fun _=>True) w Pr (mv i) (b,false)) →
  (∀i j b c,bs[i]?=some b→bs[j]?=some c→i≠j→∀g,home (mv i)=some g→home (mv j)≠some g) →
  vs.size=args.length→(∀(j:Nat) u v,args[j]?=some u→vs[j]?=some v→SRep (rd w Pr) mv u v) →
  match (callFunc f vs).run E.P w with
  | .ok (.enter f' vs') w'=>w'=w∧Calls E.P f' vs' w (fun e w''=>∃v,e = .returned v∧PostM w Pr mv bs.length r bs' v w'')
  | _=>False
def ren (ks:List Nat):SV→SV
 | .row k => .row (ks.getD k 0)
 | .ptr k o => .ptr (ks.getD k 0) o
 | .sub k o n => .sub (ks.getD k 0) o n
 | v=>v
def ovr (σ:Nat→Option (Bk × Bool)):List (Nat × (Bk × Bool))→Nat→Option (Bk × Bool)
 | []=>σ
 | (k,b)::l=>updσ (ovr σ l) k (some b)
theorem SRep.ren {g:Addr→Option Value} {m mv:Nat→Value} {ks:List Nat} (hm:∀i,mv i=m (ks.getD i 0)) {u:SV} {x:Value}:SRep g m (PG.ren ks u) x↔SRep g mv u x:=by
 cases u<;>simp only [PG.ren,SRep,hm]
theorem Rel.post (h:Rel E N wk w0 Pr0 s m Pr a w) {r:PV} {v:Value} {w':World} (hp:Post w Pr r v w') :
  ∃Pr',Rel E N wk w0 Pr0 s m Pr' a w'∧Rep (rd w' Pr') r v:=by
 refine ⟨_,h.called hp.2,hp.1.mono (rd_le fun a x hpr hc=>⟨?_,hc⟩)⟩
 rcases hpr with hpr | hge
 ·exact .inl hpr
 ·exact .inr ⟨hge,World.block_lt_of_cell? _ _ hc⟩
end
end PG
end
section
set_option linter.unusedVariables false
set_option linter.unusedSimpArgs false
namespace PG
open Go Go.RowKit
section
variable {g : Addr → Option Value}
theorem cst_one {v:Value} {p:PV} (h:cst v=some p):v.oneCell'=true:=by
 unfold cst at h
 split at h<;>first | (cases h;done) | rfl
theorem zcell_rep {v:Value} {p:PV} (h:zcell v=some p):Rep g p v∧v.oneCell'=true:=by
 unfold zcell at h
 split at h
 ·cases h;exact ⟨.nil,rfl⟩
 ·exact ⟨cst_rep h,cst_one h⟩
theorem All2.nil:All2 g [] []:=⟨rfl,fun j x hx=>by simp at hx,fun j c x hc _=>by simp at hc⟩
theorem All2.cons {c:PV} {x:Value} {cs:List PV} {xs:List Value} (hr:Rep g c x) (h1:x.oneCell'=true) (h:All2 g cs xs):All2 g (c::cs) (x::xs):=by
 refine ⟨by simp [h.1],fun j y hy=>?_,fun j d y hd hy=>?_⟩
 ·cases j with
  | zero=>cases hy;exact h1
  | succ j=>exact h.2.1 j y (by simpa using hy)
 ·cases j with
  | zero=>cases hd;cases hy;exact hr
  | succ j=>exact h.2.2 j d y (by simpa using hd) (by simpa using hy)
theorem zlist_rep:∀(l:List Value) {cs:List PV},l.mapM zcell=some cs→All2 g cs l
 | [],cs,h=>by simp at h;subst h;exact All2.nil
 | v::l,cs,h=>by
  simp only [List.mapM_cons,bind,Option.bind_eq_some_iff,pure,Option.some.injEq] at h
  obtain ⟨c,hc,ds,hd,rfl⟩:=h
  obtain ⟨h1,h2⟩:=zcell_rep (g:=g) hc
  exact All2.cons h1 h2 (zlist_rep l hd)
theorem zr_spec {P:Program} {t:TypeId} {cs:List PV} (h:zr P t=some cs):∃i z,P.info? t=some i∧i.zero=some z∧All2 g cs z.cells.toList:=by
 unfold zr at h
 simp only [Option.bind_eq_some_iff] at h
 obtain ⟨z,⟨i,hi,hz⟩,hc⟩:=h
 exact ⟨i,z,hi,hz,zlist_rep _ hc⟩
theorem sz_spec {P:Program} {t:TypeId} {n:Nat} (h:sz P t=some n):∃i,P.info? t=some i∧i.size=n:=by
 unfold sz at h
 simp only [Option.map_eq_some_iff] at h
 exact h
theorem run_sizeOf {P:Program} {t:TypeId} {n:Nat} (h:sz P t=some n) (w:World):(Go.sizeOf t).run P w = .ok n w:=by
 obtain ⟨i,hi,rfl⟩:=sz_spec h
 simp [Go.sizeOf,typeInfo,hi]
theorem Rep.cells {p:PV} {x:Value} (h:Rep g p x) {vs:List PV} (hv:p.cells=some vs):All2 g vs x.cells.toList:=by
 cases h with
 | agg cs xs hl h1 hr=>cases hv;exact ⟨by simpa [Value.cells] using hl,fun j y hy=>h1 j y (by simpa [Value.cells] using hy),fun j c y hc hy=>hr j c y hc (by simpa [Value.cells] using hy)⟩
 | tuple=>simp [PV.cells] at hv
 | int k n=>cases hv;exact All2.cons (.int k n) rfl All2.nil
 | bool b=>cases hv;exact All2.cons (.bool b) rfl All2.nil
 | str s=>cases hv;exact All2.cons (.str s) rfl All2.nil
 | nil=>cases hv;exact All2.cons .nil rfl All2.nil
 | lst a n cap cs xs hn hc hl h1 hm hr=>cases hv;exact All2.cons (.lst a n cap cs xs hn hc hl h1 hm hr) rfl All2.nil
 | nn a n cap cs hh=>cases hv;exact All2.cons (.nn a n cap cs hh) rfl All2.nil
 | ref a cs xs hl h1 hm hr=>cases hv;exact All2.cons (.ref a cs xs hl h1 hm hr) rfl All2.nil
 | clo f cs xs hl hr=>cases hv;exact All2.cons (.clo f cs xs hl hr) rfl All2.nil
 | np=>cases hv;exact All2.cons .np rfl All2.nil
 | any v=>simp [PV.cells] at hv
 | ifc t v=>cases hv;exact All2.cons (.ifc t v) rfl All2.nil
 | flt b=>cases hv;exact All2.cons (.flt b) rfl All2.nil
 | nif=>cases hv;exact All2.cons .nif rfl All2.nil
 | ifv t k n=>cases hv;exact All2.cons (.ifv t k n) rfl All2.nil
theorem fold_all2:∀(ys:List Value) (vs:List PV) (cs:List PV) (xs:Array Value) (off k:Nat),All2 g cs xs.toList→All2 g vs ys →
  All2 g (setCells cs (off+k) vs) ((ys.zipIdx k).foldl (fun cs (c,j)=>cs.setIfInBounds (off+j) c) xs).toList
 | [],vs,cs,xs,off,k,h,hv=>by
  have:vs=[]:=List.eq_nil_of_length_eq_zero (by simpa using hv.1.symm)
  subst this
  exact h
 | y::ys,vs,cs,xs,off,k,h,hv=>by
  cases vs with
  | nil=>have:=hv.1;simp at this
  | cons v vs=>
   simp only [List.zipIdx_cons,List.foldl_cons,setCells]
   have h1:=hv.2.2 0 v y rfl rfl
   have h2:=hv.2.1 0 y rfl
   have:=fold_all2 ys vs (cs.set (off+k) v) (xs.setIfInBounds (off+k) y) off (k+1) (by rw [Array.toList_setIfInBounds];exact h.set _ h1 h2)
    ⟨by simpa using hv.1,fun j z hz=>hv.2.1 (j+1) z (by simpa using hz),fun j d z hd hz=>hv.2.2 (j+1) d z (by simpa using hd) (by simpa using hz)⟩
   rwa [←Nat.add_assoc] at this
theorem fillPV_length (place:Nat→Option (Nat × Nat)):∀(l:List (Nat × PV)) (cs cs':List PV),fillPV place cs l=some cs'→cs'.length=cs.length
 | [],cs,cs',h=>by simp only [fillPV,Option.some.injEq] at h;rw [h]
 | (i,v)::l,cs,cs',h=>by
  simp only [fillPV] at h
  split at h
  ·split at h
   ·cases h
   ·rw [fillPV_length place l _ _ h,length_setCells]
  ·cases h
theorem fill_sound (place:Nat→Option (Nat × Nat)):∀(is:List Nat) (vs:List PV) (xv:List Value) (cs cs':List PV) (xs:Array Value),All2 g cs xs.toList →
  vs.length=is.length→xv.length=is.length→(∀(j:Nat) p x,vs[j]?=some p→xv[j]?=some x→Rep g p x)→fillPV place cs (is.zip vs)=some cs' →
  ∃xs',Instr.fill place xs (is.zip xv)=some xs'∧All2 g cs' xs'.toList
 | [],vs,xv,cs,cs',xs,h,_,_,_,hf=>by
  simp only [List.zip_nil_left,fillPV,Option.some.injEq] at hf
  subst hf
  exact ⟨xs,by simp [Instr.fill],h⟩
 | i::is,[],xv,cs,cs',xs,h,hl,_,_,hf=>by simp at hl
 | i::is,v::vs,[],cs,cs',xs,h,_,hl,_,hf=>by simp at hl
 | i::is,v::vs,x::xv,cs,cs',xs,h,h1,h2,hr,hf=>by
  simp only [List.zip_cons_cons,fillPV] at hf
  split at hf
  ·rename_i off n us hp hc
   split at hf
   ·cases hf
   ·rename_i hcond
    have hx:=(hr 0 v x rfl rfl).cells hc
    have hlen:x.cells.size=us.length:=by simpa using hx.1
    have hlx:xs.size=cs.length:=by simpa using h.1
    have hcond':¬(us.length≠n∨off+us.length>cs.length):=hcond
    have e1:us.length=n:=Decidable.byContradiction fun e=>hcond' (.inl e)
    have e2:¬off+us.length>cs.length:=fun e=>hcond' (.inr e)
    have hfold:=fold_all2 x.cells.toList us cs xs off 0 h hx
    rw [Nat.add_zero] at hfold
    obtain ⟨xs',hr',ha'⟩:=fill_sound place is vs xv _ cs' _ hfold (by simpa using h1) (by simpa using h2) (fun j p y hp' hy=>hr (j+1) p y (by simpa using hp') (by simpa using hy)) hf
    refine ⟨xs',?_,ha'⟩
    simp only [List.zip_cons_cons,Instr.fill,hp]
    rw [if_neg (by simp only [hlen,hlx,e1];simp;omega)]
    rw [←hr']
    congr 1
    rw [←Array.foldl_toList]
    simp
  ·cases hf
theorem load_sound {P:Program} {t:TypeId} {cs:List PV} {off:Nat} {p:PV} {xs:List Value} (hp:partPV P t cs off=some p) (h:All2 g cs xs) {w:World} {ad:Addr}
  (hc:∀(j:Nat) x,xs[j]?=some x→w.cell? (ad.add j)=some x):∃z,(loadVar t (ad.add off)).run P w = .ok z w∧Rep g p z:=by
 have agg:∀n,sz P t=some n→(∃d,P.underlying t=some d∧isAggD d=true)→off+n≤cs.length→p = .agg ((cs.drop off).take n) →
   ∃z,(loadVar t (ad.add off)).run P w = .ok z w∧Rep g p z:=by
  intro n hn ⟨d,hd,hda⟩ hle hpe
  have hall:=(h.drop off).take n
  have hln:((xs.drop off).take n).length=n:=by have:=h.1;simp;omega
  have hrun:=run_loadCells_list (P:=P) w (ad.add off) ((xs.drop off).take n) (fun j v hv=>by
   rw [List.getElem?_take] at hv
   split at hv
   ·rw [add_add];exact hc _ v (by simpa using hv)
   ·cases hv)
  rw [hln] at hrun
  refine ⟨.agg ((xs.drop off).take n).toArray,by simp [loadVar,run_isAgg hd,hda,run_sizeOf hn,hrun],?_⟩
  subst hpe
  exact All2.agg (by simpa using hall)
 unfold partPV at hp
 split at hp
 ·rename_i hl
  obtain ⟨Fs,hu,_⟩:=lk_struct hl
  split at hp
  ·rename_i n hn
   split at hp
   ·rename_i hle
    cases hp
    exact agg n hn ⟨_,hu,rfl⟩ hle rfl
   ·cases hp
  ·cases hp
 ·rename_i hl
  have hu:=lk_array hl
  split at hp
  ·rename_i n hn
   split at hp
   ·rename_i hle
    cases hp
    exact agg n hn ⟨_,hu,rfl⟩ hle rfl
   ·cases hp
  ·cases hp
 ·cases hp
 ·rename_i h1 h2 h3
  obtain ⟨x,hx,hr,_⟩:=h.at_ hp
  have hu:∃d,P.underlying t=some d∧isAggD d=false:=by
   cases hu:P.underlying t with
   | none=>exact absurd (by simp [lk,lkOf,hu]) h3
   | some d=>
    refine ⟨d,rfl,?_⟩
    cases d<;>first | rfl | skip
    ·rename_i n e;exact (h2 n e (by simp only [lk,lkOf,hu])).elim
    ·rename_i fs;exact (h1 (fs.toList.map fun f=>(f.offset,f.type)) (by simp only [lk,lkOf,hu])).elim
  obtain ⟨d,hd,hda⟩:=hu
  exact ⟨x,by simp [loadVar,run_isAgg hd,hda,hc off x hx],hr⟩
theorem placesL_run {P:Program} (w:World):∀(Fs:List Field) {pl:List (Nat × Nat)},placesL P (Fs.map fun f=>(f.offset,f.type))=some pl →
  (Fs.mapM fun f=>do pure (f.offset,←Go.sizeOf f.type):Sem (List (Nat × Nat))).run P w = .ok pl w
 | [],pl,h=>by simp only [List.map_nil,placesL,Option.some.injEq] at h;subst h;simp
 | f::Fs,pl,h=>by
  simp only [List.map_cons,placesL] at h
  split at h
  ·rename_i n l hn hl
   cases h
   have ih:=placesL_run w Fs hl
   simp only [List.mapM_cons,Sem.run_bind,run_sizeOf hn,Result.andThen_ok,Sem.run_pure] at ih ⊢
   rw [ih]
   rfl
  ·cases h
theorem zrow_all2 {z:List PV} {zs:Array Value} (h:All2 g z zs.toList) (hz:z≠[]) (n:Nat):All2 g (zrow z n) (madeCells zs (n*z.length)).toList:=by
 have hl:zs.size=z.length:=by simpa using h.1
 have hpos:0<z.length:=by cases z<;>simp_all
 have key:∀j,j<n*z.length→∃c x,z[j%z.length]?=some c∧(madeCells zs (n*z.length)).toList[j]?=some x∧Rep g c x∧x.oneCell'=true:=by
  intro j hj
  have hm:j%z.length<z.length:=Nat.mod_lt _ hpos
  obtain ⟨x,hx,hr,h1⟩:=h.at_ (List.getElem?_eq_getElem hm)
  refine ⟨_,x,List.getElem?_eq_getElem hm,?_,hr,h1⟩
  have hx':zs[j%z.length]?=some x:=by simpa using hx
  have hb:j%z.length<zs.size:=by rw [hl];exact hm
  simp only [madeCells,Array.toList_map,List.getElem?_map,Array.toList_range,List.getElem?_range hj,Option.map_some,hl]
  rw [getElem!_pos zs _ hb]
  have:=Array.getElem?_eq_getElem hb
  rw [this] at hx'
  exact hx'
 have hlen:(zrow z n).length=n*z.length:=by
  unfold zrow;split<;>simp
 have hat:∀j c,(zrow z n)[j]?=some c→z[j%z.length]?=some c:=by
  intro j c hc
  unfold zrow at hc
  split at hc
  ·rw [List.getElem?_replicate] at hc
   split at hc
   ·cases hc;simp [Nat.mod_one]
   ·cases hc
  ·simp only [List.getElem?_map,Option.map_eq_some_iff] at hc
   obtain ⟨i,hi,rfl⟩:=hc
   have hlt:=(List.getElem?_eq_some_iff.1 hi).1
   simp only [List.length_range] at hlt
   rw [List.getElem?_range hlt] at hi
   cases hi
   have hm:j%z.length<z.length:=Nat.mod_lt _ hpos
   simp [List.getD,List.getElem?_eq_getElem hm]
 have hlen2:(madeCells zs (n*z.length)).toList.length=n*z.length:=by simpa using size_madeCells zs (n*z.length)
 refine ⟨by rw [hlen,hlen2],fun j x hx=>?_,fun j c x hc hx=>?_⟩
 ·have hj:j<n*z.length:=by rw [←hlen2];exact (List.getElem?_eq_some_iff.1 hx).1
  obtain ⟨_,y,_,hy,_,h1⟩:=key j hj
  rw [hy] at hx;cases hx;exact h1
 ·have hj:j<n*z.length:=by rw [←hlen];exact (List.getElem?_eq_some_iff.1 hc).1
  obtain ⟨d,y,hd,hy,hr,_⟩:=key j hj
  rw [hy] at hx;cases hx
  rw [hat j c hc] at hd;cases hd
  exact hr
end
theorem run_bound {P:Program} {w:World} {n:Int} {k:IntKind} {y:Nat} {code:BoundsCode} (h0:0≤n) (h1:n≤y):(Instr.sliceBound (.int k n) y code).run P w = .ok n.toNat w:=by
 simp [Instr.sliceBound,asIntOf,h0,h1]
theorem run_bounds {P:Program} {w:World} {lo hi:Option Value} {isS:Bool} {len cap:Nat} {l h:Int} (h0:0≤l) (h1:l≤h) (h2:h≤cap)
  (hhi:(hi=none∧h=len)∨∃k,hi=some (.int k h)) (hlo:(lo=none∧l=0)∨∃k,lo=some (.int k l)) :
  (Instr.sliceBounds isS len cap lo hi none).run P w = .ok (l.toNat,h.toNat,cap) w:=by
 have hh:h.toNat≤cap:=by omega
 have hl:l≤(h.toNat:Int):=by omega
 rcases hhi with ⟨rfl,rfl⟩ | ⟨k,rfl⟩<;>rcases hlo with ⟨rfl,rfl⟩ | ⟨k',rfl⟩
 ·simp [Instr.sliceBounds]
 ·simp only [Int.toNat_natCast] at hl
  simp [Instr.sliceBounds,run_bound h0 hl]
 ·simp [Instr.sliceBounds,run_bound (Int.le_trans h0 h1) h2]
 ·simp [Instr.sliceBounds,run_bound (Int.le_trans h0 h1) h2,run_bound h0 hl]
end PG
end
section
set_option linter.unusedVariables false
set_option linter.unusedSimpArgs false
namespace PG
open Go Go.RowKit
def isNew:Op→Bool
 | .alloc _ | .box .. | .buildSlice .. | .makeSlice .. => true
 | _=>false
def newSV (d:Nat):Bk→SV
 | .box _ => .ptr d 0
 | .row .. => .row d
def eraseσ (σ:Nat→Option (Bk × Bool)) (k:Option Nat):Nat→Option (Bk × Bool):=
 match k with
 | some k=>updσ σ k none
 | none=>σ
def Appl (E:PE) (s:PS) (dst:Option Tmp) (fz:List Nat):Out→PS→Prop
 | .val v,s'=>s'=⟨putτ s.τ dst v,frzσ s.σ fz⟩
 | .new b,s'=>∃d,dst=some d∧s'=⟨putτ s.τ dst (newSV d b),updσ (frzσ s.σ fz) d (some (b,false))⟩
 | .st k b,s'=>(∃b0,s.σ k=some (b0,false))∧k∉fz∧s'=⟨putτ s.τ dst .junk,updσ (frzσ s.σ fz) k (some (b,false))⟩
 | .app k b,s'=>∃d,dst=some d∧(∀j,k=some j→(∃b0,s.σ j=some (b0,false))∧j∉fz) ∧
   s'=⟨putτ (killτ s.τ [d]) dst (.row d),updσ (eraseσ (frzσ s.σ fz) k) d (some (b,false))⟩
 | .call f args,s'=>∃r,PC E f args r∧s'=⟨putτ s.τ dst (.val r),frzσ s.σ fz⟩
 | .inl f args,s'=>∃(ks:List Nat) (cargs:List SV) (bs bs':List Bk) (r:SV),PCM E f cargs bs r bs'∧fz=[]∧args=cargs.map (ren ks)∧ks.Nodup∧ks.length=bs.length ∧
   (∀(i:Nat) (b:Bk) (k:Nat),bs[i]?=some b→ks[i]?=some k→s.σ k=some (b,false)) ∧
   (∀d,dst=some d→d∉ks)∧(dst=none→bs'.length=bs.length) ∧
   s'=⟨putτ (killτ s.τ dst.toList) dst (ren (ks++dst.toList) r),ovr (eraseσ s.σ dst) ((ks++dst.toList).zip (bs'.map fun b=>(b,false)))⟩
section
variable {g : Addr → Option Value}
theorem bytes_all:∀(cs:List PV) (xs:List Value) (l:List UInt8),All2 g cs xs→allSome (cs.map byteOf)=some l→∃ns:List Int,xs=ns.map (Value.int .u8)∧l=ns.map fun n=>UInt8.ofNat n.toNat
 | [],xs,l,h,ha=>by
  have:xs=[]:=List.eq_nil_of_length_eq_zero (by simpa using h.1)
  subst this
  simp only [List.map_nil,allSome,Option.some.injEq] at ha
  subst ha
  exact ⟨[],rfl,rfl⟩
 | c::cs,[],l,h,ha=>by have:=h.1;simp at this
 | c::cs,x::xs,l,h,ha=>by
  have h2:All2 g cs xs:=⟨by simpa using h.1,fun j y hy=>h.2.1 (j+1) y (by simpa using hy),fun j d y hd hy=>h.2.2 (j+1) d y (by simpa using hd) (by simpa using hy)⟩
  have hr:=h.2.2 0 c x rfl rfl
  simp only [List.map_cons] at ha
  unfold byteOf at ha
  split at ha
  ·rename_i n
   simp only [allSome] at ha
   split at ha
   ·rename_i r hr'
    cases ha
    obtain ⟨ns,rfl,rfl⟩:=bytes_all cs xs r h2 hr'
    refine ⟨n::ns,?_,rfl⟩
    rw [hr.int_inv];rfl
   ·cases ha
  ·simp [allSome] at ha
theorem enc_ascii {n:Int} (h0:0≤n) (h1:n<128):Utf8.encode n=⟨#[UInt8.ofNat n.toNat]⟩:=by
 have hv:Utf8.valid n=true:=by simp [Utf8.valid];omega
 simp only [Utf8.encode,hv,if_true]
 rw [if_pos (by omega)]
theorem push_all (ns:List Int):∀s:ByteArray,ns.foldl (fun r n=>r.push (UInt8.ofNat n.toNat)) s=⟨(s.data.toList++ns.map fun n=>UInt8.ofNat n.toNat).toArray⟩:=by
 induction ns with
 | nil=>intro s;simp
 | cons n ns ih=>
  intro s
  rw [List.foldl_cons,ih]
  simp [ByteArray.push]
theorem bytes_sound {P:Program} {e dst src:TypeId} {n:Nat} {cs:List PV} {p:PV} (hb:bconv P e dst n cs=some p) (hsrc:P.underlying src=some (.slice e)) {w:World} {xs:List Value} (hall:All2 g cs xs) {a:Option Addr} {cap:Nat}
  (hcell:(a=none∧xs=[])∨∃ad,a=some ad∧∀(j:Nat) x,xs[j]?=some x→w.cell? (ad.add j)=some x):∃z,(convert src dst (.slice a n cap)).run P w = .ok z w∧∀g',Rep g' p z:=by
 unfold bconv at hb
 split at hb
 ·rename_i he hd
  split at hb
  ·rename_i hn
   simp only [Option.map_eq_some_iff] at hb
   obtain ⟨l,hl,rfl⟩:=hb
   obtain ⟨ns,rfl,rfl⟩:=bytes_all cs xs l hall hl
   rw [run_convert_bytes_string w src dst e a n cap hsrc (lk_int he) (lk_str hd)]
   rcases hcell with ⟨rfl,hx⟩ | ⟨ad,rfl,hc⟩
   ·have:ns=[]:=by simpa using hx
    subst this
    exact ⟨.string .empty,by simp [Conv.bytesToString],fun g' => .str _⟩
   ·have hrun:=run_loadCells_list (P:=P) w ad (ns.map (Value.int .u8)) hc
    have hlen:(ns.map (Value.int .u8)).length=n:=by rw [hall.1,hn]
    rw [hlen] at hrun
    refine ⟨_,run_bytesToString w ad n cap ns hrun,fun g'=>?_⟩
    rw [push_all]
    exact .str _
  ·cases hb
 ·cases hb
end
section
variable {E : PE} {N : Nat} {wk : Gh} {w0 : Fm} {Pr0 : Nat → Nat → Prop} {s : PS} {m : Nat → Value} {Pr : Nat → Nat → Prop} {a : Act} {w : World}
theorem rvPV_some {σ:Nat→Option (Bk × Bool)} {τ:Nat→Option SV} {x:Operand} {p:PV} (h:rvPV (res E τ σ x)=some p):opSV E τ x=some (.val p):=by
 unfold res at h
 cases hv:opSV E τ x with
 | none=>simp [hv,rvPV] at h
 | some v=>
  cases v with
  | val q=>simp [hv,resSV,rvPV] at h;rw [h]
  | nil=>simp [hv,resSV,rvPV] at h
  | row k=>cases hk:σ k<;>simp [hv,resSV,rvPV,hk] at h
  | ptr k o=>cases hk:σ k<;>simp [hv,resSV,rvPV,hk] at h
  | sub k o n=>cases hk:σ k<;>simp [hv,resSV,rvPV,hk] at h
  | junk=>simp [hv,resSV,rvPV] at h
theorem res_val {σ:Nat→Option (Bk × Bool)} {τ:Nat→Option SV} {x:Operand} {p:PV} (h:res E τ σ x=some (.val p)):opSV E τ x=some (.val p):=rvPV_some (by rw [h];rfl)
theorem res_nil {σ:Nat→Option (Bk × Bool)} {τ:Nat→Option SV} {x:Operand} (h:res E τ σ x=some .nil):opSV E τ x=some .nil:=by
 unfold res at h
 cases hv:opSV E τ x with
 | none=>simp [hv] at h
 | some v=>
  cases v with
  | val q=>simp [hv,resSV] at h
  | nil=>rfl
  | row k=>cases hk:σ k<;>simp [hv,resSV,hk] at h
  | ptr k o=>cases hk:σ k<;>simp [hv,resSV,hk] at h
  | sub k o n=>cases hk:σ k<;>simp [hv,resSV,hk] at h
  | junk=>simp [hv,resSV] at h
theorem res_row {σ:Nat→Option (Bk × Bool)} {τ:Nat→Option SV} {x:Operand} {k:Nat} {b:Bk} (h:res E τ σ x=some (.row k b)):opSV E τ x=some (.row k)∧∃fl,σ k=some (b,fl):=by
 unfold res at h
 cases hv:opSV E τ x with
 | none=>simp [hv] at h
 | some v=>
  cases v with
  | val q=>simp [hv,resSV] at h
  | nil=>simp [hv,resSV] at h
  | row j=>
   cases hk:σ j with
   | none=>simp [hv,resSV,hk] at h
   | some bf=>simp [hv,resSV,hk] at h;obtain ⟨rfl,rfl⟩:=h;exact ⟨rfl,bf.2,hk⟩
  | ptr j o=>cases hk:σ j<;>simp [hv,resSV,hk] at h
  | sub j o n=>cases hk:σ j<;>simp [hv,resSV,hk] at h
  | junk=>simp [hv,resSV] at h
theorem res_ptr {σ:Nat→Option (Bk × Bool)} {τ:Nat→Option SV} {x:Operand} {k off:Nat} {b:Bk} (h:res E τ σ x=some (.ptr k off b)):opSV E τ x=some (.ptr k off)∧∃fl,σ k=some (b,fl):=by
 unfold res at h
 cases hv:opSV E τ x with
 | none=>simp [hv] at h
 | some v=>
  cases v with
  | val q=>simp [hv,resSV] at h
  | nil=>simp [hv,resSV] at h
  | row j=>cases hk:σ j<;>simp [hv,resSV,hk] at h
  | ptr j o=>
   cases hk:σ j with
   | none=>simp [hv,resSV,hk] at h
   | some bf=>simp [hv,resSV,hk] at h;obtain ⟨rfl,rfl,rfl⟩:=h;exact ⟨rfl,bf.2,hk⟩
  | sub j o n=>cases hk:σ j<;>simp [hv,resSV,hk] at h
  | junk=>simp [hv,resSV] at h
theorem res_sub {σ:Nat→Option (Bk × Bool)} {τ:Nat→Option SV} {x:Operand} {k off n:Nat} {b:Bk} (h:res E τ σ x=some (.sub k off n b)):opSV E τ x=some (.sub k off n)∧∃fl,σ k=some (b,fl):=by
 unfold res at h
 cases hv:opSV E τ x with
 | none=>simp [hv] at h
 | some v=>
  cases v with
  | val q=>simp [hv,resSV] at h
  | nil=>simp [hv,resSV] at h
  | row j=>cases hk:σ j<;>simp [hv,resSV,hk] at h
  | ptr j o=>cases hk:σ j<;>simp [hv,resSV,hk] at h
  | sub j o n=>
   cases hk:σ j with
   | none=>simp [hv,resSV,hk] at h
   | some bf=>simp [hv,resSV,hk] at h;obtain ⟨rfl,rfl,rfl,rfl⟩:=h;exact ⟨rfl,bf.2,hk⟩
  | junk=>simp [hv,resSV] at h
theorem res_sv {σ:Nat→Option (Bk × Bool)} {τ:Nat→Option SV} {x:Operand} {r:RV} (h:res E τ σ x=some r):opSV E τ x=some r.sv:=by
 cases r with
 | val v=>exact res_val h
 | nil=>exact res_nil h
 | row k b=>exact (res_row h).1
 | ptr k o b=>exact (res_ptr h).1
 | sub k o n b=>exact (res_sub h).1
theorem Rel.rvInt (h:Rel E N wk w0 Pr0 s m Pr a w) {x:Operand} {n:Int} (hv:PG.rvInt (res E s.τ s.σ x)=some n):∃k,a.eval x = .int k n:=by
 unfold PG.rvInt at hv
 split at hv
 ·rename_i k n' hr
  cases hv
  exact ⟨k,(h.opSV (res_val hr):Rep _ _ _).int_inv⟩
 ·cases hv
theorem Rel.rvSlice (h:Rel E N wk w0 Pr0 s m Pr a w) {fz:List Nat} {Pr':Nat→Nat→Prop} (h':Rel E N wk w0 Pr0 ⟨s.τ,frzσ s.σ fz⟩ m Pr' a w) (hP:∀b o,Pr b o→Pr' b o)
  {x:Operand} {n:Nat} {cs:List PV} (hv:PG.rvSlice (res E s.τ s.σ x)=some (n,cs)) (hf:∀k∈frzOf (res E s.τ s.σ x),k∈fz):Rep (rd w Pr') (.lst n cs) (a.eval x):=by
 unfold PG.rvSlice at hv
 split at hv
 ·rename_i n' cs' hr
  cases hv
  exact Rep.mono (rd_mono hP) (h.opSV (res_val hr))
 ·rename_i n' cs' hr
  cases hv
  have h1:=Rep.mono (rd_mono hP) (h.opSV (res_val hr):Rep _ _ _)
  generalize a.eval x=z at h1
  cases h1 with
  | nn ad _ cap _ hh=>exact hh
 ·rename_i hr
  cases hv
  rw [show a.eval x=_ from h.opSV (res_nil hr)]
  exact .nil
 ·rename_i k e z n' cs' hr
  cases hv
  exact h.close h' hP hr rfl (fun j hj=>hf j (by rw [hr];exact hj))
 ·rename_i k o n' e z n0 cs' hr
  split at hv
  ·rename_i hle
   cases hv
   exact h.close h' hP hr (by simp only [PG.close];rw [if_pos hle]) (fun j hj=>hf j (by rw [hr];exact hj))
  ·cases hv
 ·cases hv
theorem val_step (h:Rel E N wk w0 Pr0 s m Pr a w) {o:Oper} {K:Act→World→Prop} {Q:Exit→Act→World→Prop} {v:SV} {x:Value} (hd:∀d,o.dst=some d→d<N)
  (hrun:(execOp a.eval o).run E.P w = .ok (.value x) w) (hv:SRep (rd w Pr) m v x)
  (hK:∀m' Pr' a' w',Rel E N wk w0 Pr0 ⟨putτ s.τ o.dst v,s.σ⟩ m' Pr' a' w'→K a' w'):o.wp E.P a w K Q:=by
 unfold Oper.wp
 rw [hrun]
 exact hK _ _ _ _ (h.put o.dst hd hv)
theorem new_step (h:Rel E N wk w0 Pr0 s m Pr a w) {o:Oper} {K:Act→World→Prop} {Q:Exit→Act→World→Prop} {d:Nat} (hdst:o.dst=some d) (hd:d<N)
  {b:Bk} {x:Value} {ob:Obj} {xs:List Value} (hnm:∀t u,s.τ t=some u→u.key≠some d)
  (hrun:(execOp a.eval o).run E.P w = .ok (.value x) (w.alloc ob)) (hx:home x=some w.heap.size) (hp:∀cs,b = .box cs→x = .pointer (some ⟨w.heap.size,0,none⟩))
  (ha:All2 (rd w Pr) b.cells xs) (hs:Shape (w.alloc ob) x xs b)
  (hK:∀m' Pr' a' w',Rel E N wk w0 Pr0 ⟨putτ s.τ o.dst (newSV d b),updσ s.σ d (some (b,false))⟩ m' Pr' a' w'→K a' w'):o.wp E.P a w K Q:=by
 unfold Oper.wp
 rw [hrun]
 have h1:=h.newBlk d hd b x ob xs hnm hx ha hs
 refine hK _ _ _ _ (h1.put o.dst (fun e he=>by rw [hdst] at he;cases he;exact hd) ?_)
 cases b with
 | box cs=>exact ⟨w.heap.size,by simp [updm,hx],hp cs rfl⟩
 | row e z n cs=>simp [newSV,SRep,updm]
theorem run_append_of_nil {P:Program} (w:World) (base:Nat) (t ty e:TypeId) (i:TypeInfo) (size:Nat) (ht:P.underlying t=some (.slice e)) (hi:P.info? e=some i)
  (v:Value) (n:Nat) (xs:List Value) (hown:w.ownsRow base e size v n xs) (c:Nat):(Builtin.append_ #[t,t] ty #[v,.slice none 0 c]).run P w = .ok v w:=by
 rcases hown.2 with ⟨rfl,rfl⟩ | ⟨g,cap,cur,rfl,_,_,hnc,_⟩
 ·simp [Builtin.append_,run_underlying ht,Go.sizeOf,typeInfo,hi,Builtin.lenOf,Builtin.firstCells]
 ·simp [Builtin.append_,run_underlying ht,Go.sizeOf,typeInfo,hi,Builtin.lenOf,Builtin.firstCells,hnc,storeCells]
theorem run_append_rep {P:Program} (w:World) (base:Nat) (t ty e:TypeId) (i:TypeInfo) (z:Value) (ht:P.underlying t=some (.slice e)) (hi:P.info? e=some i) (hz:i.zero=some z)
  (hzs:z.cells.size=i.size) (hsz:0<i.size) (v:Value) (n:Nat) (xs:List Value) (hown:w.ownsRow base e i.size v n xs)
  {Pr:Nat→Nat→Prop} {n':Nat} {ys:List PV} {y:Value} (hy:Rep (rd w Pr) (.lst n' ys) y) (hl:ys.length=n'*i.size)
  (h63:n+n'≤maxLen) (hbytes:(n+n')*i.bytes≤140737488355328) (hbase:base≤w.heap.size) :
  ∃v' w' us,(Builtin.append_ #[t,t] ty #[v,y]).run P w = .ok v' w'∧All2 (rd w Pr) ys us∧w'.ownsRow base e i.size v' (n+n') (xs++us)∧w.grownBy w' v.ownBlock ∧
   (v'.ownBlock=v.ownBlock∨v'.ownBlock=some w.heap.size):=by
 rcases hy.lst_inv with ⟨rfl,rfl,rfl⟩ | ⟨ad,cap,us,rfl,hnc,hc,hall,hm⟩
 ·exact ⟨v,w,[],run_append_of_nil w base t ty e i i.size ht hi v n xs hown 0,All2.nil,by simpa using hown,World.grownBy.refl w _,.inl rfl⟩
 ·obtain ⟨v',w',hrun,h2,h3,_,h5⟩:=run_append_own_at (P:=P) w base t ty e i z i.size i.bytes ht hi hz rfl rfl hzs hsz v n xs hown ad n' cap us (by rw [hall.1,hl])
   (fun j u hu=>(rd_some.1 (hm j u hu)).2) (fun u hu=>by obtain ⟨j,hj⟩:=List.getElem?_of_mem hu;exact hall.2.1 j u hj) h63 hbytes hbase
  exact ⟨v',w',us,hrun,hall,h2,h3,h5⟩
theorem All2.append {g:Addr→Option Value} {cs ds:List PV} {xs ys:List Value} (h:All2 g cs xs) (k:All2 g ds ys):All2 g (cs++ds) (xs++ys):=by
 refine ⟨by simp [h.1,k.1],fun j x hx=>?_,fun j c x hc hx=>?_⟩
 ·rw [List.getElem?_append] at hx
  split at hx
  ·exact h.2.1 j x hx
  ·exact k.2.1 _ x hx
 ·rw [List.getElem?_append] at hx hc
  rw [←h.1] at hc
  split at hx
  ·rename_i hlt;simp only [hlt,if_true] at hc;exact h.2.2 j c x hc hx
  ·rename_i hlt;simp only [hlt,if_false] at hc;exact k.2.2 _ c x hc hx
theorem ownsRow_home {w:World} {base:Nat} {e:TypeId} {size:Nat} {v:Value} {n:Nat} {xs:List Value} (h:w.ownsRow base e size v n xs):home v=v.ownBlock:=by
 rcases h.2 with ⟨rfl,_⟩ | ⟨g,cap,cur,rfl,_⟩<;>rfl
theorem Rel.kill (h:Rel E N wk w0 Pr0 s m Pr a w) (ks:List Nat):Rel E N wk w0 Pr0 ⟨killτ s.τ ks,s.σ⟩ m Pr a w:=by
 refine ⟨h.below,h.dfr,h.pin,h.keep,h.sz,h.pr0,h.new,h.bnd,h.glob,fun t v hv=>?_,h.blk,h.sep⟩
 simp only [killτ] at hv
 split at hv
 ·rename_i u hu
  obtain ⟨x,hx,hr⟩:=h.tmp t u hu
  refine ⟨x,hx,?_⟩
  split at hv
  ·split at hv
   ·cases hv;trivial
   ·cases hv;exact hr
  ·cases hv;exact hr
 ·cases hv
theorem killτ_key {τ:Nat→Option SV} {ks:List Nat} {t:Nat} {v:SV} (h:killτ τ ks t=some v):∀k∈ks,v.key≠some k:=by
 intro k hk
 unfold killτ at h
 split at h
 ·split at h
  ·rename_i j hj
   split at h
   ·cases h;intro e;cases e
   ·rename_i hn;cases h;rw [hj];intro e;cases e;exact hn hk
  ·rename_i hj;cases h;rw [hj];intro e;cases e
 ·cases h
theorem Rel.erase (h:Rel E N wk w0 Pr0 s m Pr a w) (k:Option Nat):Rel E N wk w0 Pr0 ⟨s.τ,eraseσ s.σ k⟩ m Pr a w:=by
 cases k with
 | none=>exact h
 | some k=>
  refine ⟨h.below,h.dfr,h.pin,h.keep,h.sz,h.pr0,h.new,h.bnd,h.glob,h.tmp,fun j b hj=>?_,fun j j' b b' hj hj'=>?_⟩
  ·simp only [eraseσ,updσ] at hj
   split at hj
   ·cases hj
   ·exact h.blk j b hj
  ·simp only [eraseσ,updσ] at hj hj'
   split at hj
   ·cases hj
   ·split at hj'
    ·cases hj'
    ·exact h.sep j j' b b' hj hj'
theorem app_step (h:Rel E N wk w0 Pr0 s m Pr a w) {o:Oper} {K:Act→World→Prop} {Q:Exit→Act→World→Prop} {d:Nat} (hdst:o.dst=some d) (hd:d<N)
  {k:Option Nat} {e:TypeId} {i:TypeInfo} {v v':Value} {w':World} {xs us:List Value} {cs ys:List PV} {n n':Nat}
  (hk:match k with | some j=>v=m j∧s.σ j=some (.row e i.size n cs,false) | none=>v = .slice none 0 0∧cs=[]∧n=0)
  (hxs:All2 (rd w Pr) cs xs) (hus:All2 (rd w Pr) ys us) (hown:w'.ownsRow 0 e i.size v' (n+n') (xs++us)) (hgrow:w.grownBy w' v.ownBlock)
  (hat:v'.ownBlock=v.ownBlock∨v'.ownBlock=some w.heap.size) (hvo:home v=v.ownBlock)
  (hrun:(execOp a.eval o).run E.P w = .ok (.value v') w')
  (hK:∀m' Pr' a' w',Rel E N wk w0 Pr0 ⟨putτ (killτ s.τ [d]) o.dst (.row d),updσ (eraseσ s.σ k) d (some (.row e i.size (n+n') (cs++ys),false))⟩ m' Pr' a' w'→K a' w') :
  o.wp E.P a w K Q:=by
 have htop:∀k,w.heap.size≤k→w0.O k:=fun k hk=>w0.top k (Nat.le_trans h.below.size hk)
 have hfree:∀g,home v=some g→(∀p,¬Pr g p)∧w0.O g:=by
  intro g hg
  cases k with
  | none=>obtain ⟨rfl,_⟩:=hk;simp [home] at hg
  | some j=>
   obtain ⟨rfl,hj⟩:=hk
   obtain ⟨ys,_,hsh,hpr⟩:=h.blk j _ hj
   exact ⟨(fun p hp=>by have:=((hpr g hg).2 p).1 hp;cases this.1),(hpr g hg).1⟩
 have hle:∀a x,rd w Pr a=some x→rd w' Pr a=some x:=rd_le fun a x hp hc=>⟨hp,by
  rw [World.cell?_of_block (hgrow.block a.block (h.bnd _ _ hp) (fun he=>?_))]
  ·exact hc
  ·rw [←hvo] at he
   exact (hfree _ he.symm).1 _ hp⟩
 have hv'o:=ownsRow_home hown
 have hnew:∀g,home v'=some g→∀p,¬Pr g p:=by
  intro g hg p hp
  rw [hv'o] at hg
  rcases hat with e1 | e1
  ·rw [e1,←hvo] at hg;exact (hfree g hg).1 p hp
  ·rw [e1] at hg;cases hg;exact Nat.lt_irrefl _ (h.bnd _ _ hp)
 have hbelow:Bel w0.O w w':=(Bel.refl _ _).grown hgrow htop (fun g hg=>(hfree g (by rw [hvo];exact hg)).2)
 have hO':∀g,home v'=some g→w0.O g:=fun g hg=>by
  rw [hv'o] at hg
  rcases hat with e1 | e1
  ·rw [e1,←hvo] at hg;exact (hfree g hg).2
  ·rw [e1] at hg;cases hg;exact htop _ (Nat.le_refl _)
 have hko:KeepsOthers w w':=KeepsOthers.of_grownBy hgrow fun j o hj ho=>by
  rw [←hvo] at hj
  cases k with
  | none=>obtain ⟨rfl,_⟩:=hk;simp [home] at hj
  | some kk=>
   obtain ⟨rfl,hkk⟩:=hk
   obtain ⟨zs,_,hsh,_⟩:=h.blk kk _ hkk
   obtain ⟨cur,e',hh,_⟩:=hsh.at_ hj
   rw [hh] at ho
   cases ho
   rfl
 have h1:=(h.kill [d]).erase k
 have h2:=h1.blkset d (.row e i.size (n+n') (cs++ys),false) v' w' Pr hd (fun t u hu hkey=>absurd hkey (killτ_key hu d (by simp))) hbelow hko (fun _ _ h=>h) (fun _ _ h => .inl h) hle
  ⟨xs++us,(hxs.append hus).mono hle,hown,fun g hg=>⟨hO' g hg,fun p=>⟨fun hp=>absurd hp (hnew g hg p),(fun hp=>by cases hp.1)⟩⟩⟩ (by
   intro j bj hjd hj g hg
   simp only at hj
   have hσ:s.σ j=some bj∧k≠some j:=by
    cases k with
    | none=>exact ⟨hj,by simp⟩
    | some kk=>
     simp only [eraseσ,updσ] at hj
     split at hj
     ·cases hj
     ·rename_i hne;exact ⟨hj,by intro e;cases e;exact hne rfl⟩
   obtain ⟨zs,_,hsh,_⟩:=h.blk j _ hσ.1
   have hlt:=hsh.lt hg
   have hne:home v≠some g:=by
    cases k with
    | none=>obtain ⟨rfl,_⟩:=hk;simp [home]
    | some kk=>
     obtain ⟨rfl,hkk⟩:=hk
     intro e1
     exact h.sep kk j _ _ hkk hσ.1 (fun e2=>hσ.2 (by rw [e2])) g e1 hg
   refine ⟨hgrow.block g hlt (fun e1=>hne (by rw [hvo];exact e1.symm)),fun e1=>?_⟩
   rw [hv'o] at e1
   rcases hat with e2 | e2
   ·rw [e2,←hvo] at e1;exact hne e1
   ·rw [e2] at e1;cases e1;exact Nat.lt_irrefl _ hlt)
 unfold Oper.wp
 rw [hrun]
 refine hK _ _ _ _ (h2.put o.dst (fun e he=>by rw [hdst] at he;cases he;exact hd) ?_)
 simp [SRep,updm]
theorem ovr_cases {σ:Nat→Option (Bk × Bool)} {k:Nat} {b:Bk × Bool}:∀{l:List (Nat × (Bk × Bool))},ovr σ l k=some b→(∃i:Nat,l[i]?=some (k,b))∨((∀p∈l,p.1≠k)∧σ k=some b)
 | [],h => .inr ⟨(fun p hp=>by cases hp),h⟩
 | (j,c)::l,h=>by
  simp only [ovr,updσ] at h
  split at h
  ·rename_i e;cases h;exact .inl ⟨0,by rw [e];rfl⟩
  ·rename_i hne
   rcases ovr_cases h with ⟨i,hi⟩ | ⟨h1,h2⟩
   ·exact .inl ⟨i+1,by simpa using hi⟩
   ·refine .inr ⟨fun p hp=>?_,h2⟩
    rcases List.mem_cons.1 hp with rfl | hp
    ·exact fun e=>hne e.symm
    ·exact h1 p hp
theorem Rel.inl (h:Rel E N wk w0 Pr0 s m Pr a w) {ks:List Nat} {bs bs':List Bk} {r:SV} {v:Value} {w':World} {dst:Option Nat} (hdN:∀d,dst=some d→d<N) (hdk:∀d,dst=some d→d∉ks) (hd0:dst=none→bs'.length=bs.length)
  (hnd:ks.Nodup) (hlen:ks.length=bs.length) (hb1:bs.length≤bs'.length) (hb2:bs'.length≤bs.length+1) (hr:∀k,r.key=some k→k=bs.length∧bs'.length=bs.length+1)
  (hblk:∀(i:Nat) (b:Bk) (k:Nat),bs[i]?=some b→ks[i]?=some k→s.σ k=some (b,false)) (hp:PostM w Pr (fun i=>m (ks.getD i 0)) bs.length r bs' v w') :
  ∃m' Pr',Rel E N wk w0 Pr0 ⟨killτ s.τ dst.toList,ovr (eraseσ s.σ dst) ((ks++dst.toList).zip (bs'.map fun b=>(b,false)))⟩ m' Pr' a w'∧SRep (rd w' Pr') m' (ren (ks++dst.toList) r) v:=by
 obtain ⟨mv',Pr',hmv,hbel,hko,hP,hP',hbnd,hle,hbs',hsep',hnew',hrv⟩:=hp
 let m':Nat→Value:=match dst with | some d=>updm m d (mv' bs.length) | none=>m
 have hm':∀k,(∀d,dst=some d→k≠d)→m' k=m k:=fun k hk=>by
  cases dst with
  | none=>rfl
  | some d=>show updm m d _ k=m k;unfold updm;rw [if_neg (hk d rfl)]
 have hmd:∀d,dst=some d→m' d=mv' bs.length:=fun d hd=>by
  subst hd;show updm m d _ d=_;unfold updm;rw [if_pos rfl]
 have htop:∀k,w.heap.size≤k→w0.O k:=fun k hk=>w0.top k (Nat.le_trans h.below.size hk)
 have hki:∀i,i<bs.length→∃k b,ks[i]?=some k∧bs[i]?=some b∧ks.getD i 0=k∧s.σ k=some (b,false):=fun i hi=>by
  have h1:i<ks.length:=by omega
  refine ⟨ks[i],bs[i],List.getElem?_eq_getElem h1,List.getElem?_eq_getElem hi,by simp [List.getD,h1],hblk i _ _ (List.getElem?_eq_getElem hi) (List.getElem?_eq_getElem h1)⟩
 have hown:∀g,OwnM w (fun i=>m (ks.getD i 0)) bs.length g→w0.O g:=by
  rintro g (hg | ⟨i,hi,hg⟩)
  ·exact htop g hg
  ·obtain ⟨k,b,_,_,e,hσ⟩:=hki i hi
   simp only [e] at hg
   obtain ⟨xs,_,_,hpr⟩:=h.blk k _ hσ
   exact (hpr g hg).1
 have hkey:∀(i k:Nat),(ks++dst.toList)[i]?=some k→i<bs'.length→m' k=mv' i∧((i<bs.length∧ks[i]?=some k∧(∀d,dst=some d→k≠d))∨(i=bs.length∧dst=some k)):=by
  intro i k hk hi
  by_cases hlt:i<bs.length
  ·rw [List.getElem?_append_left (by omega)] at hk
   have hne:∀d,dst=some d→k≠d:=fun d hd e=>hdk d hd (by rw [←e];exact List.mem_of_getElem? hk)
   refine ⟨?_,.inl ⟨hlt,hk,hne⟩⟩
   rw [hm' k hne,hmv i hlt]
   simp [List.getD,hk]
  ·have e:i=bs.length:=by omega
   subst e
   rw [List.getElem?_append_right (by omega),hlen,Nat.sub_self] at hk
   cases hdst:dst with
   | none=>rw [hdst] at hk;simp at hk
   | some d=>
    rw [hdst] at hk
    simp at hk
    subst hk
    exact ⟨hmd d hdst,.inr ⟨rfl,rfl⟩⟩
 have hat:∀(i k:Nat) (b:Bk × Bool),((ks++dst.toList).zip (bs'.map fun b=>(b,false)))[i]?=some (k,b)→(ks++dst.toList)[i]?=some k∧∃c,bs'[i]?=some c∧b=(c,false):=by
  intro i k b hi
  rw [List.getElem?_zip_eq_some] at hi
  obtain ⟨h1,h2⟩:=hi
  simp only [List.getElem?_map,Option.map_eq_some_iff] at h2
  obtain ⟨c,hc,e⟩:=h2
  exact ⟨h1,c,hc,e.symm⟩
 have hout:∀(k:Nat) (b:Bk × Bool),(∀p∈(ks++dst.toList).zip (bs'.map fun b=>(b,false)),p.1≠k)→eraseσ s.σ dst k=some b→s.σ k=some b∧(∀d,dst=some d→k≠d)∧k∉ks:=by
  intro k b hz hk
  have h1:s.σ k=some b∧∀d,dst=some d→k≠d:=by
   cases dst with
   | none=>exact ⟨hk,(fun d hd=>by cases hd)⟩
   | some d=>
    simp only [eraseσ,updσ] at hk
    split at hk
    ·cases hk
    ·rename_i hne;exact ⟨hk,fun d' hd'=>by cases hd';exact hne⟩
  refine ⟨h1.1,h1.2,fun hmem=>?_⟩
  obtain ⟨i,hi⟩:=List.getElem?_of_mem hmem
  have hil:i<bs.length:=by have:=(List.getElem?_eq_some_iff.1 hi).1;omega
  refine hz (k,(bs'[i]'(by omega),false)) (List.mem_of_getElem? (i:=i) ?_) rfl
  rw [List.getElem?_zip_eq_some]
  refine ⟨?_,?_⟩
  ·show (ks++dst.toList)[i]?=some k
   rw [List.getElem?_append_left (by omega)];exact hi
  ·simp [List.getElem?_eq_getElem (show i<bs'.length by omega)]
 have hfar:∀(k:Nat) (b:Bk × Bool) (g:Nat),s.σ k=some b→k∉ks→home (m k)=some g→g<w.heap.size∧¬OwnM w (fun i=>m (ks.getD i 0)) bs.length g:=by
  intro k b g hk hkn hg
  obtain ⟨xs,_,hsh,_⟩:=h.blk k _ hk
  have hlt:=hsh.lt hg
  refine ⟨hlt,?_⟩
  rintro (hge | ⟨i,hi,hgi⟩)
  ·omega
  ·obtain ⟨k',b',hk',_,e,hσ'⟩:=hki i hi
   simp only [e] at hgi
   exact h.sep k k' b _ hk hσ' (fun e'=>hkn (by rw [e'];exact List.mem_of_getElem? hk')) g hg hgi
 refine ⟨m',Pr',⟨h.below.trans (hbel.mono hown),dk_keep h.dfr hko,fun k hk=>?_,fun p x hx=>hle _ _ (h.keep p x hx),h.sz,fun g o h0=>hP g o (h.pr0 g o h0),?_,hbnd,fun g cs hG=>(h.glob g cs hG).mono hle,?_,?_,?_⟩,?_⟩
 ·rw [hm' k (fun d hd e=>by have:=hdN d hd;omega)]
  exact h.pin k hk
 ·intro g o hp
  rcases hP' g o hp with hp | hge
  ·exact h.new g o hp
  ·exact .inr (htop g hge)
 ·intro t u hu
  have hu':∃u0,s.τ t=some u0∧(u = .junk∨(u=u0∧∀k∈dst.toList,u0.key≠some k)):=by
   simp only [killτ] at hu
   split at hu
   ·rename_i u0 hu0
    refine ⟨u0,hu0,?_⟩
    split at hu
    ·rename_i k hk
     split at hu
     ·cases hu;exact .inl rfl
     ·rename_i hn;cases hu;exact .inr ⟨rfl,fun j hj e=>hn (by rw [hk] at e;cases e;exact hj)⟩
    ·rename_i hk;cases hu;exact .inr ⟨rfl,fun j _ e=>by rw [hk] at e;cases e⟩
   ·cases hu
  obtain ⟨u0,hu0,hc⟩:=hu'
  obtain ⟨x,hx,hr⟩:=h.tmp t u0 hu0
  refine ⟨x,hx,?_⟩
  rcases hc with rfl | ⟨rfl,hk⟩
  ·trivial
  ·exact hr.mono hle fun k hkk=>hm' k (fun d hd e=>hk d (by rw [hd];simp) (by rw [←e];exact hkk))
 ·intro k b hk
  rcases ovr_cases hk with ⟨i,hi⟩ | ⟨hz,hk⟩
  ·obtain ⟨h1,c,hc,rfl⟩:=hat i k b hi
   obtain ⟨e,_⟩:=hkey i k h1 (List.getElem?_eq_some_iff.1 hc).1
   rw [e]
   exact (hbs' i c hc).wide fun g hg=>by
    obtain ⟨xs,_,_,hpr⟩:=hbs' i c hc
    exact hown g (hpr g hg).1
  ·obtain ⟨h1,h2,h3⟩:=hout k b hz hk
   rw [hm' k h2]
   refine (h.blk k b h1).keep hle (fun g hg=>hbel.block g (hfar k b g h1 h3 hg).2) (fun g hg o=>⟨fun hp=>?_,hP g o⟩)
   rcases hP' g o hp with hp | hge
   ·exact hp
   ·have:=(hfar k b g h1 h3 hg).1;omega
 ·intro k k' b c hk hk' hne g hg hg'
  rcases ovr_cases hk with ⟨i,hi⟩ | ⟨hz,hk⟩<;>rcases ovr_cases hk' with ⟨j,hj⟩ | ⟨hz',hk'⟩
  ·obtain ⟨h1,b0,hb0,rfl⟩:=hat i k b hi
   obtain ⟨h2,c0,hc0,rfl⟩:=hat j k' c hj
   obtain ⟨e1,_⟩:=hkey i k h1 (List.getElem?_eq_some_iff.1 hb0).1
   obtain ⟨e2,_⟩:=hkey j k' h2 (List.getElem?_eq_some_iff.1 hc0).1
   rw [e1] at hg;rw [e2] at hg'
   exact hsep' i j b0 c0 hb0 hc0 (fun e=>by subst e;rw [h1] at h2;cases h2;exact hne rfl) g hg hg'
  ·obtain ⟨h1,b0,hb0,rfl⟩:=hat i k b hi
   obtain ⟨e1,hcase⟩:=hkey i k h1 (List.getElem?_eq_some_iff.1 hb0).1
   obtain ⟨h2,h3,h4⟩:=hout k' c hz' hk'
   rw [hm' k' h3] at hg'
   rcases hcase with ⟨hlt,hki',hkd⟩ | ⟨rfl,hd⟩
   ·rw [hm' k hkd] at hg
    exact h.sep k k' _ c (hblk i _ k (List.getElem?_eq_getElem hlt) hki') h2 hne g hg hg'
   ·rw [e1] at hg
    have:=hnew' _ (Nat.le_refl _) g hg
    have:=(hfar k' c g h2 h4 hg').1
    omega
  ·obtain ⟨h1,c0,hc0,rfl⟩:=hat j k' c hj
   obtain ⟨e1,hcase⟩:=hkey j k' h1 (List.getElem?_eq_some_iff.1 hc0).1
   obtain ⟨h2,h3,h4⟩:=hout k b hz hk
   rw [hm' k h3] at hg
   rcases hcase with ⟨hlt,hki',hkd⟩ | ⟨rfl,hd⟩
   ·rw [hm' k' hkd] at hg'
    exact h.sep k k' b _ h2 (hblk j _ k' (List.getElem?_eq_getElem hlt) hki') hne g hg hg'
   ·rw [e1] at hg'
    have:=hnew' _ (Nat.le_refl _) g hg'
    have:=(hfar k b g h2 h4 hg).1
    omega
  ·obtain ⟨h1,h2,h3⟩:=hout k b hz hk
   obtain ⟨h4,h5,h6⟩:=hout k' c hz' hk'
   rw [hm' k h2] at hg;rw [hm' k' h5] at hg'
   exact h.sep k k' b c h1 h4 hne g hg hg'
 ·cases hkr:r.key with
  | none=>cases r<;>first | exact hrv | (cases hkr;done)
  | some k=>
   obtain ⟨rfl,hbl⟩:=hr k hkr
   cases hdst:dst with
   | none=>have:=hd0 hdst;omega
   | some d=>
    have e:(ks++(some d).toList).getD bs.length 0=d:=by simp [←hlen]
    have e2:m' d=mv' bs.length:=hmd d hdst
    cases r<;>simp only [SV.key,Option.some.injEq,reduceCtorEq] at hkr
    all_goals
     subst hkr
     simp only [ren,SRep,e,e2]
     exact hrv
end
end PG
end
