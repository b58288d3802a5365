/-
  Several of the proof's texts in one, squeezed: a claim may have 1,500,000 bytes.
-/
import Derived.Orders
import Derived.KernelRfl
import Derived.Tactics
import Derived.Deep.LoopGhost
import Derived.Deep.AppendSrc
import Derived.Deep.Upon
import Derived.Laws.BytesString
import Derived.Laws.Slices
import Derived.Below
import Derived.Laws.Strings
import Derived.ChangeArms
import Derived.ChangeOld
import Derived.ChangeShapes
import Derived.Laws.BitsLemmas
import Derived.Laws.MakeOwn
import Derived.Lib.SliceRun
import Derived.Lib.AppendZerosOnto
import Derived.Lib.Overlaps
import Derived.Laws.LoneSync
set_option linter.unusedVariables false
set_option linter.unusedSimpArgs false
namespace Go.Proofs.YtniojdaddolnfaaGreat
section
open Go
abbrev Heap:=Array Obj
def mkW(h:Heap):World:={(default:World) with heap:=h}
def Qed(h:Heap)(a:Addr):Option Value:=(mkW h).cell? a
def Qdc(h:Heap)(a:Addr):Bool:=(mkW h).frozen? a
def setH(h:Heap)(a:Addr)(v:Value):Heap:=((mkW h).setCell a v).heap
theorem QbP(w:World)(a:Addr):w.cell? a=Qed w.heap a:=rfl
theorem Qeb(w:World)(a:Addr):w.frozen? a=Qdc w.heap a:=rfl
theorem set_eq(w:World)(a:Addr)(v:Value):(w.setCell a v).heap=setH w.heap a v:=rfl
structure Env(w w':World):Prop where
 os:w'.os=w.os
 tape:w'.tape=w.tape
 output:w'.output=w.output
theorem Env.refl(w:World):Env w w:=⟨rfl,rfl,rfl⟩
theorem Env.trans{a b c:World}(h:Env a b)(k:Env b c):Env a c:=⟨k.os.trans h.os,k.tape.trans h.tape,k.output.trans h.output⟩
def RunsH{α:Type}(P:Program)(s:Sem α)(h:Heap)(K:α->Heap->Prop):Prop:=
 ∀w:World,w.heap=h->∃x w',s.run P w= .ok x w'/\Env w w'/\K x w'.heap
def CallsH(P:Program)(f:FuncId)(args:Array Value)(h:Heap)(R:Ending->Heap->Prop):Prop:=
 ∀w:World,w.heap=h->Calls P f args w fun e w'=>Env w w'/\R e w'.heap
theorem CallsH.mono{P:Program}{f:FuncId}{args:Array Value}{h:Heap}{R R':Ending->Heap->Prop}(hs:CallsH P f args h R)(hr:∀e h,R e h->R' e h):CallsH P f args h R':=
 fun w hw=>(hs w hw).mono fun _ _ ⟨a,b⟩=>⟨a,hr _ _ b⟩
structure Sl where
 a:Option Addr
 n:Nat
 c:Nat
@[reducible] def Sl.v (s:Sl):Value:= .slice s.a s.n s.c
inductive Kd where
 |int (k:IntKind)|bool|str|ptr|sl|map|val
@[reducible] def Kd.T:Kd->Type
 | .int _=>Int
 | .bool=>Bool
 | .str=>ByteArray
 | .ptr=>Option Addr
 | .sl=>Sl
 | .map=>Option Nat
 | .val=>Value
@[reducible] def Kd.mk:(k:Kd)->k.T->Value
 | .int k,x=> .int k x
 | .bool,x=> .bool x
 | .str,x=> .string x
 | .ptr,x=> .pointer x
 | .sl,x=> .slice x.a x.n x.c
 | .map,x=> .map x
 | .val,x=>x
inductive Sh where
 |one (k:Kd)
 |agg (ks:List Kd)
 |raw
def KL:List Kd->Type
 | []=>Unit
 |k::ks=>k.T×KL ks
@[reducible] def Sh.T:Sh->Type
 | .one k=>k.T
 | .agg ks=>KL ks
 | .raw=>Array Value
def KL.vals:(ks:List Kd)->KL ks->List Value
 | [],_=> []
 |k::ks,x=>k.mk x.1::KL.vals ks x.2
def Sh.mk:(s:Sh)->s.T->Value
 | .one k,x=>k.mk x
 | .agg ks,x=> .agg ⟨KL.vals ks x⟩
 | .raw,x=> .agg x
@[reducible] def TH (T:Type):List Sh->Type
 | []=>T
 |s::ss=>s.T->TH T ss
def HL:List Sh->Type
 | []=>Unit
 |s::ss=>s.T×HL ss
def TH.un{T:Type}:(ss:List Sh)->TH T ss->HL ss->T
 | [],t,_=>t
 |_::ss,f,x=>TH.un ss (f x.1) x.2
def TH.cu{T:Type}:(ss:List Sh)->(HL ss->T)->TH T ss
 | [],f=>f ()
 |_::ss,f=>fun x=>TH.cu ss fun y=>f (x,y)
theorem TH.un_cu{T:Type}:∀(ss:List Sh) (f:HL ss->T) (x:HL ss),TH.un ss (TH.cu ss f) x=f x
 | [],_,()=>rfl
 |_::ss,f,(x,y)=>TH.un_cu ss (fun y=>f (x,y)) y
def HL.vals:(ss:List Sh)->HL ss->List Value
 | [],_=> []
 |s::ss,x=>s.mk x.1::HL.vals ss x.2
def retV:(ss:List Sh)->HL ss->Value
 | [],_=> .tuple #[]
 | [s],x=>s.mk x.1
 |s::t::ss,x=> .tuple ⟨HL.vals (s::t::ss) x⟩
def Kd.get:(k:Kd)->Value->(k.T->Prop)->Prop
 | .int k,.int k' n,K=>if k'=k then K n else False
 | .bool,.bool b,K=>K b
 | .str,.string s,K=>K s
 | .ptr,.pointer a,K=>K a
 | .sl,.slice a n c,K=>K ⟨a,n,c⟩
 | .map,.map m,K=>K m
 | .val,v,K=>K v
 |_,_,_=>False
theorem Kd.get_spec:∀(k:Kd) (v:Value) (K:k.T->Prop),k.get v K->∃x,v=k.mk x/\K x:=by
 intro k v K h
 cases k<;>cases v<;>simp only[Kd.get] at h<;>try exact h.elim
 case int.int k k' n=>
  split at h
  ·rename_i e;subst e;exact⟨n,rfl,h⟩
  ·exact h.elim
 all_goals exact⟨_,rfl,h⟩
def KL.get:(ks:List Kd)->List Value->(KL ks->Prop)->Prop
 | [],[],K=>K ()
 |k::ks,v::vs,K=>k.get v fun x=>KL.get ks vs fun y=>K (x,y)
 |_,_,_=>False
theorem KL.get_spec:∀(ks:List Kd) (vs:List Value) (K:KL ks->Prop),KL.get ks vs K->∃x,vs=KL.vals ks x/\K x
 | [],[],_,h=>⟨(),rfl,h⟩
 | [],_::_,_,h=>h.elim
 |_::_,[],_,h=>h.elim
 |k::ks,v::vs,K,h=>by
  obtain⟨x,e1,h1⟩:=k.get_spec v _ h
  obtain⟨y,e2,h2⟩:=KL.get_spec ks vs _ h1
  exact⟨(x,y),by rw[e1,e2];rfl,h2⟩
def Sh.get:(s:Sh)->Value->(s.T->Prop)->Prop
 | .one k,v,K=>k.get v K
 | .agg ks,.agg cs,K=>KL.get ks cs.toList K
 | .raw,.agg cs,K=>K cs
 |_,_,_=>False
theorem Sh.get_spec(s:Sh)(v:Value)(K:s.T->Prop)(h:s.get v K):∃x,v=s.mk x/\K x:=by
 cases s with
 |one k=>exact k.get_spec v K h
 |agg ks=>
  cases v<;>simp only[Sh.get] at h<;>try exact h.elim
  rename_i cs
  obtain⟨x,e,h⟩:=KL.get_spec ks _ K h
  exact⟨x,by simp[Sh.mk,<-e],h⟩
 |raw=>
  cases v<;>simp only[Sh.get] at h<;>try exact h.elim
  exact⟨_,rfl,h⟩
def kdV:Value->Kd
 | .int k _=> .int k
 | .bool _=> .bool
 | .string _=> .str
 | .pointer _=> .ptr
 | .slice .. => .sl
 | .map _=> .map
 |_=> .val
def aggD:Option TypeDesc->Bool
 |some (.struct _)=>true
 |some (.array _ _)=>true
 |_=>false
def shOf(P:Program)(t:TypeId):Sh:=
 match P.underlying t with
 |none=> .raw
 |some d=>match P.info? t with
  |none=> .raw
  |some i=>
   if aggD (some d) then
    match i.zero with
    |some (.agg cs)=>if cs.size=i.size/\i.size<=24 then .agg (cs.toList.map kdV) else .raw
    |_=> .raw
   else match i.zero with
    |some v=> .one (kdV v)
    |none=> .one .val
def Qfa(P:Program)(t:TypeId):List Sh:=
 match P.underlying t with
 |some (.tuple ts)=>ts.toList.map (shOf P)
 |_=> [shOf P t]
def semP{α:Type}(P:Program):Sem α->Option α
 | .pure a=>some a
 | .program k=>semP P (k P)
 | .mark _ k=>semP P k
 |_=>none
theorem semP_run{α:Type}{P:Program}{x:α}:∀(s:Sem α) (w:World),semP P s=some x->s.run P w= .ok x w:=by
 intro s
 induction s with
 |pure a=>intro w h;simp only[semP,Option.some.injEq] at h;subst h;rfl
 |program k ih=>intro w h;exact ih P w h
 |mark m k ih=>intro w h;exact ih w h
 |_=>intro w h;simp[semP] at h
def semA{α:Type}(P:Program):Sem α->Heap->Option (α×Heap)
 | .pure a,h=>some (a,h)
 | .program k,h=>semA P (k P) h
 | .mark _ k,h=>semA P k h
 | .new o k,h=>semA P (k h.size) (h.push o)
 |_,_=>none
theorem semA_run{α:Type}{P:Program}{x:α}{h':Heap}:∀(s:Sem α) (w:World),semA P s w.heap=some (x,h')->s.run P w= .ok x {w with heap:=h'}:=by
 intro s
 induction s with
 |pure a=>intro w h;simp only[semA,Option.some.injEq,Prod.mk.injEq] at h;obtain⟨rfl,rfl⟩:=h;rfl
 |program k ih=>intro w h;exact ih P w h
 |mark m k ih=>intro w h;exact ih w h
 |new o k ih=>
  intro w h
  exact ih w.heap.size {w with heap:=w.heap.push o} h
 |_=>intro w h;simp[semA] at h
def Nn(a:Option Addr)(K:Addr->Prop):Prop:=∃x,a=some x/\K x
def Ld(k:Kd)(h:Heap)(a:Addr)(K:k.T->Prop):Prop:=∃x:k.T,Qed h a=some (k.mk x)/\K x
def St(h:Heap)(a:Addr)(v:Value)(K:Heap->Prop):Prop:=(Qed h a).isSome=true/\Qdc h a=false/\K (setH h a v)
def LdL(h:Heap)(a:Addr):Nat->List Kd->(List Value->Prop)->Prop
 |_,[],K=>K []
 |i,k::ks,K=>Ld k h (a.add i) fun x=>LdL h a (i+1) ks fun vs=>K (k.mk x::vs)
def OpT(P:Program)(s:Sem Value)(h:Heap)(ss:List Sh)(K:TH (Heap->Prop) ss):Prop:=
 RunsH P s h fun v h'=>∃x,v=retV ss x/\TH.un ss K x h'
def OpU(P:Program)(s:Sem Unit)(h:Heap)(K:Heap->Prop):Prop:=RunsH P s h fun _ h'=>K h'
def one1:Value->Bool
 | .agg _=>false
 | .tuple _=>false
 |_=>true
def StL(h:Heap)(a:Addr):Nat->List Value->(Heap->Prop)->Prop
 |_,[],K=>K h
 |i,v::vs,K=>if one1 v then St h (a.add i) v fun h'=>StL h' a (i+1) vs K else False
def StS(P:Program)(t:TypeId)(h:Heap)(a:Addr)(v:Value)(K:Heap->Prop):Prop:=
 match P.info? t with
 |none=>False
 |some i=>if v.cells.size=i.size then StL h a 0 v.cells.toList K else False
def okF(P:Program)(f:FuncId):Bool:=
 match P.funcs[f]? with
 | some fn => fn.body.isSome && !(fn.name == "runtime.NumGoroutine")
 |none=>false
def CallR(P:Program)(f:FuncId)(args:List Value)(h:Heap)(ss:List Sh)(K:TH (Heap->Prop) ss):Prop:=
 CallsH P f ⟨args⟩ h fun e h'=>∃x,e= .returned (retV ss x)/\TH.un ss K x h'
def Ix(s:Sl)(i:Int)(size:Nat)(K:Addr->Prop):Prop:=∃a,s.a=some a/\0<=i/\i<s.n/\K (a.add (i.toNat*size))
def IxA(a:Addr)(n:Nat)(i:Int)(size:Nat)(K:Addr->Prop):Prop:=0<=i/\i<n/\K (a.add (i.toNat*size))
def IxS(s:ByteArray)(i:Int)(K:Int->Prop):Prop:=∃b:UInt8,0<=i/\s[i.toNat]? =some b/\K b.toNat
def Cat(s t:ByteArray)(K:ByteArray->Prop):Prop:=s.size+t.size<=9223372036854775807/\K (s++t)
def Nz(b:Int)(K:Prop):Prop:=b≠0/\K
def Qkv(b:Int)(K:Prop):Prop:=0<=b/\K
end
section
open Go
def evS(σ:Nat->Value):Operand->Value
 | .tmp t=>σ t
 | .const v=>v
 | .global g=> .pointer (some ⟨g,0,none⟩)
 | .func f=> .func (.func f) #[] #[]
def up(σ:Nat->Value)(d:Nat)(v:Value):Nat->Value:=fun t=>cond (Nat.beq t d) v (σ t)
def Qm7(σ:Nat->Value):Option Tmp->Value->Nat->Value
 |some d,v=>up σ d v
 |none,_=>σ
def pickV(t:Bool)(x y:Value):Value:=
 match x,y with
 | .bool a,.bool b=> .bool (cond t a b)
 |x,y=>cond t x y
theorem pickV_eq(t:Bool)(x y:Value):pickV t x y=cond t x y:=by
 unfold pickV
 split
 ·cases t<;>rfl
 ·rfl
abbrev Kont:=(Nat->Value)->Heap->Prop
def OpV(P:Program)(s:Sem Value)(h:Heap)(ss:List Sh)(K:TH Prop ss):Prop:=
 ∃x,(∀w:World,w.heap=h->∃w',s.run P w= .ok (retV ss x) w'/\Env w w'/\w'.heap=h)/\TH.un ss K x
def OpP(P:Program)(s:Sem Value)(ss:List Sh)(K:TH Prop ss):Prop:=
 ∃x,(∀w:World,s.run P w= .ok (retV ss x) w)/\TH.un ss K x
def ExtR(P:Program)(f:FuncId)(args:Array Value)(h:Heap)(ss:List Sh)(K:TH (Heap->Prop) ss):Prop:=
 RunsH P (callFunc f args) h fun nx h'=>∃x,nx= .value (retV ss x)/\TH.un ss K x h'
def LdS(P:Program)(t:TypeId)(h:Heap)(a:Addr)(K:Value->Prop):Prop:=
 match shOf P t with
 | .one k=>Ld k h a fun x=>K (k.mk x)
 | .agg ks=>LdL h a 0 ks fun vs=>K (.agg ⟨vs⟩)
 | .raw=>OpV P (Instr.loadAt t (.pointer (some a))) h [.raw] fun cs=>K (.agg cs)
section
variable (P:Program)
def genP(o:Oper)(σ:Nat->Value)(K:Value->Prop):Prop:=
 match semP P (execOp (evS σ) o) with
 |some (.value v)=>K v
 |_=>False
def genA(o:Oper)(σ:Nat->Value)(h:Heap)(K:Value->Heap->Prop):Prop:=
 match semA P (execOp (evS σ) o) h with
 |some (.value v,h')=>K v h'
 |_=>False
def tT(ss:List Sh)(K:Value->Heap->Prop):TH (Heap->Prop) ss:=TH.cu ss fun x=>K (retV ss x)
def tP(ss:List Sh)(K:Value->Prop):TH Prop ss:=TH.cu ss fun x=>K (retV ss x)
def isPtr:Option TypeDesc->Bool
 |some (.pointer _)=>true
 |_=>false
def isSlc:Option TypeDesc->Bool
 |some (.slice _)=>true
 |_=>false
def isMap:Option TypeDesc->Bool
 |some (.map _ _)=>true
 |_=>false
def isStr:Option TypeDesc->Bool
 |some .string=>true
 |_=>false
def basicT:Option TypeDesc->Bool
 |some (.int _)=>true
 |some .string=>true
 |some .bool=>true
 |_=>false
def neg?(op:BinOp)(b:Bool):Bool:=
 match op with
 | .neq=> !b
 |_=>b
def eqW(o:Oper)(op:BinOp)(t:TypeId)(x y:Operand)(σ:Nat->Value)(h:Heap)(K:Value->Prop):Prop:=
 match y with
 | .const (.pointer none)=>match evS σ x with
  | .pointer a=>if isPtr (P.underlying t) then K (.bool (neg? op a.isNone)) else False
  |_=>False
 | .const (.slice none _ _)=>match evS σ x with
  | .slice a _ _=>if isSlc (P.underlying t) then K (.bool (neg? op a.isNone)) else False
  |_=>False
 | .const (.map none)=>match evS σ x with
  | .map a=>if isMap (P.underlying t) then K (.bool (neg? op a.isNone)) else False
  |_=>False
 |y=>if basicT (P.underlying t) then genP P o σ K
  else OpV P (do eqGuard op t x y (evS σ x) (evS σ y);binOp op t (evS σ x) (evS σ y)) h [.one .bool] (fun b=>K (.bool b))
def QaL(op:BinOp)(k:IntKind)(m n:Int):Int:=
 match op with
 | .shl=>k.wrap (m*2^(min n.toNat k.bits))
 |_=>m.fdiv (2^(min n.toNat k.bits))
def divV(op:BinOp)(k:IntKind)(m n:Int):Int:=
 match op with
 | .quo=>k.wrap (m.tdiv n)
 |_=>m.tmod n
def binW(o:Oper)(op:BinOp)(t:TypeId)(x y:Operand)(σ:Nat->Value)(h:Heap)(K:Value->Prop):Prop:=
 match op with
 | .eql=>eqW P o .eql t x y σ h K
 | .neq=>eqW P o .neq t x y σ h K
 | .quo=>match evS σ x,evS σ y with
  | .int k m,.int k' n=>if k=k' then Nz n (K (.int k (divV .quo k m n))) else False
  |_,_=>False
 | .rem=>match evS σ x,evS σ y with
  | .int k m,.int k' n=>if k=k' then Nz n (K (.int k (divV .rem k m n))) else False
  |_,_=>False
 | .shl=>match evS σ x,evS σ y with
  | .int k m,.int _ n=>Qkv n (K (.int k (QaL .shl k m n)))
  |_,_=>False
 | .shr=>match evS σ x,evS σ y with
  | .int k m,.int _ n=>Qkv n (K (.int k (QaL .shr k m n)))
  |_,_=>False
 | .add=>match evS σ x with
  | .string s=>match evS σ y with
   | .string t=>Cat s t fun r=>K (.string r)
   |_=>False
  |_=>genP P o σ K
 |_=>genP P o σ K
def idxW(t:TypeId)(x i:Value)(K:Value->Prop):Prop:=
 match P.underlying t with
 |some (.slice e)=>match P.info? e with
  |some j=>match x with
   | .slice a n c=>match i with
    | .int _ i=>Ix ⟨a,n,c⟩ i j.size fun a'=>K (.pointer (some a'))
    |_=>False
   |_=>False
  |none=>False
 |some (.array n e)=>match P.info? e with
  |some j=>match x with
   | .pointer (some a)=>match i with
    | .int _ i=>IxA a n i j.size fun a'=>K (.pointer (some a'))
    |_=>False
   |_=>False
  |none=>False
 |_=>False
def indexW(o:Oper)(t:TypeId)(x i:Value)(K:Value->Prop):Prop:=
 match P.underlying t with
 |some .string=>match x with
  | .string s=>match i with
   | .int _ i=>IxS s i fun n=>K (.int .u8 n)
   |_=>False
  |_=>False
 |_=>OpP P (Instr.index t x i) (Qfa P o.type) (tP (Qfa P o.type) K)
def convW(o:Oper)(src dst:TypeId)(x:Value)(σ:Nat->Value)(h:Heap)(K:Value->Heap->Prop):Prop:=
 if isSlc (P.underlying dst) then OpT P (convert src dst x) h (Qfa P o.type) (tT (Qfa P o.type) K)
 else if isSlc (P.underlying src)&&isStr (P.underlying dst) then OpV P (convert src dst x) h (Qfa P o.type) (tP (Qfa P o.type) fun v=>K v h)
 else genP P o σ fun v=>K v h
def bltW(o:Oper)(b:Builtin)(c:Call)(σ:Nat->Value)(h:Heap)(K:Value->Heap->Prop):Prop:=
 match b with
 | .len=>if isMap ((c.argTypes[0]?).bind P.underlying) then OpV P (Builtin.len_ c.argTypes o.type (c.args.map (evS σ))) h [.one (.int .i64)] (fun n=>K (.int .i64 n) h)
  else genP P o σ fun v=>K v h
 | .cap=>genP P o σ fun v=>K v h
 | .min=>genP P o σ fun v=>K v h
 | .max=>genP P o σ fun v=>K v h
 | .append=>OpT P (Builtin.append_ c.argTypes o.type (c.args.map (evS σ))) h (Qfa P o.type) (tT (Qfa P o.type) K)
 | .copy=>OpT P (Builtin.copy_ c.argTypes o.type (c.args.map (evS σ))) h [.one (.int .i64)] (tT [.one (.int .i64)] K)
 | .clear=>OpT P (Builtin.clear_ c.argTypes o.type (c.args.map (evS σ))) h [] (tT [] K)
 | .delete=>OpT P (Builtin.delete_ c.argTypes o.type (c.args.map (evS σ))) h [] (tT [] K)
 |_=>False
def mthW(x:Value)(m:String):Option (FuncId×Value):=
 match x with
 | .iface t v=>semP P (method (P.types.size+Made.depth) t v m)
 |_=>none
def Invk(x:Value)(m:String)(args:List Value)(h:Heap)(ss:List Sh)(R:TH (Heap->Prop) ss):Prop:=
 match mthW P x m with
 |some (g,rv)=>okF P g=true/\CallR P g (rv::args) h ss R
 |none=>False
def callW(o:Oper)(c:Call)(σ:Nat->Value)(h:Heap)(K:Value->Heap->Prop):Prop:=
 match c.callee with
 | .builtin b=>bltW P o b c σ h K
 | .value f=>match evS σ f with
  | .func (.func g) first cap=>cond (okF P g) (CallR P g (first++c.args.map (evS σ)++cap).toList h (Qfa P o.type) (tT (Qfa P o.type) K))
    (ExtR P g (first++c.args.map (evS σ)++cap) h (Qfa P o.type) (tT (Qfa P o.type) K))
  |_=>False
 | .invoke r m=>Invk P (evS σ r) m (c.args.map (evS σ)).toList h (Qfa P o.type) (tT (Qfa P o.type) K)
def NnI(x:Value)(K:Value->Prop):Prop:=
 match x with
 | .pointer a=>Nn a fun a'=>K (.pointer (some a'))
 | .iface t v=>K (.iface t v)
 | .func (.func f) a b=>K (.func (.func f) a b)
 |_=>False
def opW(o:Oper)(σ:Nat->Value)(h:Heap)(K:Value->Heap->Prop):Prop:=
 match o.op with
 | .move x=>K (evS σ x) h
 | .assign x=>K (evS σ x) h
 | .pick c a b=>match evS σ c with
  | .bool t=>K (pickV t (evS σ a) (evS σ b)) h
  |_=>False
 | .load t x=>match evS σ x with
  | .pointer (some a)=>LdS P t h a fun v=>K v h
  |_=>False
 | .store t x v=>match evS σ x with
  | .pointer (some a)=>StS P t h a (evS σ v) fun h'=>K undef h'
  |_=>False
 | .nilCheck x=>NnI (evS σ x) fun v=>K v h
 | .binOp op t x y _=>binW P o op t x y σ h fun v=>K v h
 | .convert src dst x=>convW P o src dst (evS σ x) σ h K
 | .indexAddr t x i=>idxW P t (evS σ x) (evS σ i) fun v=>K v h
 | .index t x i=>indexW P o t (evS σ x) (evS σ i) fun v=>K v h
 | .slice t x lo hi mx=>OpP P (Instr.sliceAt t (evS σ x) (lo.map (evS σ)) (hi.map (evS σ)) (mx.map (evS σ))) (Qfa P o.type) (tP (Qfa P o.type) fun v=>K v h)
 | .call c=>callW P o c σ h K
 | .lookup t x i ok=>OpV P (Instr.lookup t (evS σ x) (evS σ i) ok) h (Qfa P o.type) (tP (Qfa P o.type) fun v=>K v h)
 | .mapUpdate t m k x=>OpU P (Instr.mapUpdate t (evS σ m) (evS σ k) (evS σ x)) h fun h'=>K undef h'
 | .insert t m k x=>OpU P (Instr.mapUpdate t (evS σ m) (evS σ k) (evS σ x)) h fun h'=>K undef h'
 | .makeSlice t l c=>OpT P (Instr.makeSlice t (evS σ l) (evS σ c)) h [.one .sl] (tT [.one .sl] K)
 | .makeMap t r=>OpT P (Instr.makeMap t (r.map (evS σ))) h [.one .map] (tT [.one .map] K)
 | .range t x=>OpT P (Instr.range t (evS σ x)) h [.one .ptr] (tT [.one .ptr] K)
 | .next it s=>OpT P (Instr.next (evS σ it) s o.type) h (Qfa P o.type) (tT (Qfa P o.type) K)
 | .typeAssert x t u ok=>OpV P (Instr.typeAssert (evS σ x) t u ok) h (Qfa P o.type) (tP (Qfa P o.type) fun v=>K v h)
 | .alloc _=>genA P o σ h K
 | .box _ _=>genA P o σ h K
 | .buildSlice _ _ _=>genA P o σ h K
 | .unOp _ _ _=>genP P o σ fun v=>K v h
 | .fieldAddr _ _ _=>genP P o σ fun v=>K v h
 | .field _ _ _=>genP P o σ fun v=>K v h
 | .extract _ _=>genP P o σ fun v=>K v h
 | .build _ _=>genP P o σ fun v=>K v h
 | .makeFunc _ _ _=>genP P o σ fun v=>K v h
 | .makeInterface _ _=>genP P o σ fun v=>K v h
 |_=>False
def Done(K:Value->Heap->Prop)(w₀:World):Result Next->Prop
 | .ok (.value v) w'=>Env w₀ w'/\K v w'.heap
 | .ok .skip w'=>Env w₀ w'/\K undef w'.heap
 | .ok (.enter f args) w'=>Env w₀ w'/\CallsH P f args w'.heap fun e h'=>∃v,e= .returned v/\K v h'
 |_=>False
def Ans(o:Oper)(σ:Nat->Value)(h:Heap)(v:Value):Prop:=
 ∀w:World,w.heap=h->∃w',(execOp (evS σ) o).run P w= .ok (.value v) w'/\Env w w'/\w'.heap=h
theorem Qi8(s:Sem Value)(w:World):(do let v<-s;pure (Next.value v):Sem Next).run P w=
  match s.run P w with
  | .ok v w'=> .ok (.value v) w'
  | .halt x w'=> .halt x w':=by
 rw[Sem.run_bind]
 cases s.run P w<;>rfl
theorem QkM(s:Sem Unit)(w:World):(do s;pure Next.skip:Sem Next).run P w=
  match s.run P w with
  | .ok _ w'=> .ok .skip w'
  | .halt x w'=> .halt x w':=by
 rw[Sem.run_bind]
 cases s.run P w<;>rfl
theorem tT_un(ss:List Sh)(K:Value->Heap->Prop)(x:HL ss):TH.un ss (tT ss K) x=K (retV ss x):=TH.un_cu ss _ x
theorem tP_un(ss:List Sh)(K:Value->Prop)(x:HL ss):TH.un ss (tP ss K) x=K (retV ss x):=TH.un_cu ss _ x
variable {P}
theorem QeD{o:Oper}{σ:Nat->Value}{K:Value->Prop}(hg:genP P o σ K):∃v,K v/\∀h,Ans P o σ h v:=by
 unfold genP at hg
 split at hg
 ·rename_i v e
  exact⟨v,hg,fun h w hw=>⟨w,semP_run _ w e,Env.refl w,hw⟩⟩
 ·exact hg.elim
theorem Qmu{o:Oper}{σ:Nat->Value}{h:Heap}{K:Value->Heap->Prop}(hg:genA P o σ h K)(w:World)(hw:w.heap=h):Done P K w ((execOp (evS σ) o).run P w):=by
 subst hw
 unfold genA at hg
 split at hg
 ·rename_i v h' e
  rw[semA_run _ w e]
  exact⟨⟨rfl,rfl,rfl⟩,hg⟩
 ·exact hg.elim
theorem Ans.done{o:Oper}{σ:Nat->Value}{h:Heap}{v:Value}{K:Value->Heap->Prop}(ha:Ans P o σ h v)(hk:K v h)(w:World)(hw:w.heap=h):Done P K w ((execOp (evS σ) o).run P w):=by
 obtain⟨w',e,he,e2⟩:=ha w hw
 rw[e]
 exact⟨he,by rw[e2];exact hk⟩
theorem QgF{o:Oper}{σ:Nat->Value}{h:Heap}{s:Sem Value}(he:execOp (evS σ) o=(do let v<-s;pure (Next.value v))){v:Value}
  (hs:∀w:World,w.heap=h->∃w',s.run P w= .ok v w'/\Env w w'/\w'.heap=h):Ans P o σ h v:=by
 intro w hw
 obtain⟨w',e,he2,e2⟩:=hs w hw
 exact⟨w',by rw[he,Qi8,e],he2,e2⟩
theorem Qjz{o:Oper}{σ:Nat->Value}{v:Value}(h:Heap)(he:execOp (evS σ) o=pure (Next.value v)):Ans P o σ h v:=
 fun w hw=>⟨w,by rw[he];rfl,Env.refl w,hw⟩
theorem OpV.ans{o:Oper}{σ:Nat->Value}{h:Heap}{s:Sem Value}{ss:List Sh}{K:Value->Prop}(he:execOp (evS σ) o=(do let v<-s;pure (Next.value v)))
  (hv:OpV P s h ss (tP ss K)):∃v,K v/\Ans P o σ h v:=by
 obtain⟨x,hr,hk⟩:=hv
 rw[tP_un] at hk
 exact⟨_,hk,QgF he hr⟩
theorem OpP.ans{o:Oper}{σ:Nat->Value}{s:Sem Value}{ss:List Sh}{K:Value->Prop}(he:execOp (evS σ) o=(do let v<-s;pure (Next.value v)))
  (hv:OpP P s ss (tP ss K)):∃v,K v/\∀h,Ans P o σ h v:=by
 obtain⟨x,hr,hk⟩:=hv
 rw[tP_un] at hk
 exact⟨_,hk,fun h=>QgF he fun w hw=>⟨w,hr w,Env.refl w,hw⟩⟩
theorem OpT.done{o:Oper}{σ:Nat->Value}{h:Heap}{s:Sem Value}{ss:List Sh}{K:Value->Heap->Prop}(he:execOp (evS σ) o=(do let v<-s;pure (Next.value v)))
  (hv:OpT P s h ss (tT ss K)) (w:World) (hw:w.heap=h):Done P K w ((execOp (evS σ) o).run P w):=by
 obtain⟨v,w',hr,hE,x,rfl,hk⟩:=hv w hw
 rw[tT_un] at hk
 rw[he,Qi8,hr]
 exact⟨hE,hk⟩
theorem OpU.done{o:Oper}{σ:Nat->Value}{h:Heap}{s:Sem Unit}{K:Value->Heap->Prop}(he:execOp (evS σ) o=(do s;pure Next.skip))
  (hv:OpU P s h fun h'=>K undef h') (w:World) (hw:w.heap=h):Done P K w ((execOp (evS σ) o).run P w):=by
 obtain⟨v,w',hr,hE,hk⟩:=hv w hw
 rw[he,QkM,hr]
 exact⟨hE,hk⟩
theorem LdL_run{h:Heap}{a:Addr}:∀(ks:List Kd) (i:Nat) (K:List Value->Prop),LdL h a i ks K->
  ∃vs,K vs/\∀(w:World) (acc:Array Value),w.heap=h->(loadCellsFrom a i ks.length acc).run P w= .ok (acc++vs.toArray) w
 | [],i,K,hK=>⟨[],hK,fun w acc _=>by simp[loadCellsFrom]⟩
 |k::ks,i,K,⟨x,hx,hr⟩=>by
  obtain⟨vs,hv,hrun⟩:=LdL_run ks (i+1) _ hr
  refine⟨k.mk x::vs,hv,fun w acc hw=> ?_⟩
  have hc:w.cell? (a.add i)=some (k.mk x):=by rw[QbP,hw];exact hx
  have hl:∀(f:Value->Sem (Array Value)),(load (a.add i)>>=f).run P w=(f (k.mk x)).run P w:=fun f=>by
   show(Sem.load .plain (a.add i) _).run P w=_
   simp only[Sem.run,hc]
   rfl
  simp only[List.length_cons,loadCellsFrom]
  rw[hl,hrun w _ hw]
  simp
theorem Qi9{t:TypeId}{d:TypeDesc}(hd:P.underlying t=some d)(w:World):(isAgg t).run P w= .ok (aggD (some d)) w:=by
 unfold isAgg
 rw[Sem.run_bind,run_underlying hd]
 cases d<;>rfl
theorem LdS_run{t:TypeId}{h:Heap}{a:Addr}{K:Value->Prop}(hl:LdS P t h a K):
  ∃v,K v/\∀w:World,w.heap=h->∃w',(Instr.loadAt t (.pointer (some a))).run P w= .ok v w'/\Env w w'/\w'.heap=h:=by
 unfold LdS at hl
 have hsz:∀i,P.info? t=some i->∀w,(sizeOf t).run P w= .ok i.size w:=fun i hi w=>by
  unfold sizeOf;rw[Sem.run_bind,show(typeInfo t).run P w= .ok i w by simp[typeInfo,hi,program,Sem.run_bind,Sem.run]];rfl
 split at hl
 ·rename_i k hk
  obtain⟨x,hx,hK⟩:=hl
  refine⟨_,hK,fun w hw=>⟨w, ?_,Env.refl w,hw⟩⟩
  unfold shOf at hk
  split at hk
  ·cases hk
  ·rename_i d hd
   split at hk
   ·cases hk
   ·rename_i i hi
    split at hk
    ·split at hk
     ·split at hk<;>cases hk
     ·cases hk
    ·rename_i hag
     have hc:w.cell? a=some (k.mk x):=by rw[QbP,hw];exact hx
     simp only[Instr.loadAt,Instr.sureAddr,Sem.run_bind,Sem.run_pure,Result.andThen_ok,loadVar,Qi9 hd]
     rw[if_neg (by simpa using hag)]
     show(Sem.load .plain a _).run P w=_
     simp only[Sem.run,hc]
 ·rename_i ks hk
  obtain⟨vs,hv,hrun⟩:=LdL_run (P:=P) ks 0 _ hl
  refine⟨_,hv,fun w hw=>⟨w, ?_,Env.refl w,hw⟩⟩
  unfold shOf at hk
  split at hk
  ·cases hk
  ·rename_i d hd
   split at hk
   ·cases hk
   ·rename_i i hi
    split at hk
    ·rename_i hag
     split at hk
     ·rename_i cs hz
      split at hk
      ·rename_i hsize
       injection hk with hk
       have hlen:ks.length=i.size:=by rw[<-hk];simp[hsize.1]
       simp only[Instr.loadAt,Instr.sureAddr,Sem.run_bind,Sem.run_pure,Result.andThen_ok,loadVar,Qi9 hd]
       rw[if_pos (by simpa using hag)]
       simp only[Sem.run_bind,hsz i hi,Result.andThen_ok,loadCells,<-hlen,hrun w #[] hw]
       simp
      ·cases hk
     ·cases hk
    ·split at hk<;>cases hk
 ·obtain⟨x,hr,hK⟩:=hl
  exact⟨_,hK,hr⟩
theorem StL_run{a:Addr}:∀(vs:List Value) (i:Nat) (h:Heap) (K:Heap->Prop),StL h a i vs K->
  ∀w:World,w.heap=h->∃w',(storeCells a vs i).run P w= .ok () w'/\Env w w'/\K w'.heap
 | [],i,h,K,hK,w,hw=>⟨w,rfl,Env.refl w,by rw[hw];exact hK⟩
 |v::vs,i,h,K,hK,w,hw=>by
  unfold StL at hK
  split at hK
  ·rename_i h1
   obtain⟨hc,hf,hr⟩:=hK
   obtain⟨w',hrun,hE,hk⟩:=StL_run vs (i+1) _ K hr (w.setCell (a.add i) v) (by rw[set_eq,hw])
   refine⟨w', ?_,Env.trans (b:=w.setCell (a.add i) v) ⟨rfl,rfl,rfl⟩ hE,hk⟩
   have hc':(w.cell? (a.add i)).isSome=true:=by rw[QbP,hw];exact hc
   have hf':w.frozen? (a.add i)=false:=by rw[Qeb,hw];exact hf
   obtain⟨u,hu⟩:=Option.isSome_iff_exists.1 hc'
   have hst:(store (a.add i) v).run P w= .ok () (w.setCell (a.add i) v):=by
    show(Sem.store .plain (a.add i) v _).run P w=_
    cases v<;>first|(simp[one1] at h1;done)|simp[Sem.run,hu,hf']
   simp only[storeCells,Sem.run_bind,hst,Result.andThen_ok]
   exact hrun
  ·exact hK.elim
theorem StS_run{t:TypeId}{h:Heap}{a:Addr}{v:Value}{K:Heap->Prop}(hs:StS P t h a v K)(w:World)(hw:w.heap=h):
  ∃w',(Instr.storeAt t (.pointer (some a)) v).run P w= .ok () w'/\Env w w'/\K w'.heap:=by
 unfold StS at hs
 split at hs
 ·exact hs.elim
 ·rename_i i hi
  split at hs
  ·rename_i hsz
   obtain⟨w',hr,hE,hk⟩:=StL_run (P:=P) _ _ _ _ hs w hw
   refine⟨w', ?_,hE,hk⟩
   have h1:(sizeOf t).run P w= .ok i.size w:=by unfold sizeOf;rw[Sem.run_bind,show(typeInfo t).run P w= .ok i w by simp[typeInfo,hi,program,Sem.run_bind,Sem.run]];rfl
   simp only[Instr.storeAt,Instr.sureAddr,Sem.run_bind,Sem.run_pure,Result.andThen_ok,storeVar,h1]
   rw[if_neg (by simp[hsz])]
   exact hr
  ·exact hs.elim
end
end
section
open Go
variable {P:Program}
def nwK(P:Program)(o:Oper):Bool:=
 match o.op with
 | .move _=>true
 | .assign _=>true
 | .pick _ _ _=>true
 | .load _ _=>true
 | .nilCheck _=>true
 | .binOp _ _ _ _ _=>true
 | .indexAddr _ _ _=>true
 | .index _ _ _=>true
 | .slice _ _ _ _ _=>true
 | .lookup _ _ _ _=>true
 | .typeAssert _ _ _ _=>true
 | .unOp _ _ _=>true
 | .fieldAddr _ _ _=>true
 | .field _ _ _=>true
 | .extract _ _=>true
 | .build _ _=>true
 | .makeFunc _ _ _=>true
 | .makeInterface _ _=>true
 | .convert _ dst _=> !isSlc (P.underlying dst)
 | .call c=>match c.callee with
  | .builtin .len=>true
  | .builtin .cap=>true
  | .builtin .min=>true
  | .builtin .max=>true
  |_=>false
 |_=>false
def ns(P:Program)(o:Oper):Bool:=
 match o.op with
 | .load _ _=>true
 | .lookup _ _ _ _=>true
 | .typeAssert _ _ _ _=>true
 | .convert src dst _=>isSlc (P.underlying src)&&isStr (P.underlying dst)
 | .binOp op t _ y _=>match op with
  | .eql=>match y with
   | .const (.pointer none)=>false
   | .const (.slice none _ _)=>false
   | .const (.map none)=>false
   |_=> !basicT (P.underlying t)
  | .neq=>match y with
   | .const (.pointer none)=>false
   | .const (.slice none _ _)=>false
   | .const (.map none)=>false
   |_=> !basicT (P.underlying t)
  |_=>false
 | .call c=>match c.callee with
  | .builtin .len=>isMap ((c.argTypes[0]?).bind P.underlying)
  |_=>false
 |_=>false
def Rd(P:Program)(o:Oper)(σ:Nat->Value)(h:Heap)(v:Value):Prop:=Ans P o σ h v/\(ns P o=false->∀h',Ans P o σ h' v)
theorem Rd.all{o:Oper}{σ:Nat->Value}{v:Value}(h:Heap)(ha:∀h',Ans P o σ h' v):Rd P o σ h v:=⟨ha h,fun _=>ha⟩
theorem Qhe{o:Oper}{σ:Nat->Value}{K:Value->Prop}(h:Heap)(hg:∃v,K v/\∀h,Ans P o σ h v):∃v,K v/\Rd P o σ h v:=let⟨v,a,b⟩:=hg;⟨v,a,Rd.all h b⟩
theorem rd_ns{o:Oper}{σ:Nat->Value}{K:Value->Prop}{h:Heap}(hn:ns P o=true)(hg:∃v,K v/\Ans P o σ h v):∃v,K v/\Rd P o σ h v:=
 let⟨v,a,b⟩:=hg;⟨v,a,b,fun e=>by rw[hn] at e;cases e⟩
theorem equalIn_ptr{t e:TypeId}(hu:P.underlying t=some (.pointer e))(a:Option Addr)(d:Nat)(w:World):(Op.equalIn (d+1) t (.pointer a) (.pointer none)).run P w= .ok a.isNone w:=by
 cases a<;>simp[Op.equalIn,run_underlying hu]
theorem equalIn_slc{t e:TypeId}(hu:P.underlying t=some (.slice e))(a:Option Addr)(n c n' c':Nat)(d:Nat)(w:World):(Op.equalIn (d+1) t (.slice a n c) (.slice none n' c')).run P w= .ok a.isNone w:=by
 cases a<;>simp[Op.equalIn,run_underlying hu]
theorem equalIn_map{t k e:TypeId}(hu:P.underlying t=some (.map k e))(a:Option Nat)(d:Nat)(w:World):(Op.equalIn (d+1) t (.map a) (.map none)).run P w= .ok a.isNone w:=by
 cases a<;>simp[Op.equalIn,run_underlying hu]
theorem Qkt{op:BinOp}{t:TypeId}{x y:Operand}{a b:Value}{r:Bool}{w:World}(hop:op= .eql\/op= .neq)
  (hg:(eqGuard op t x y a b).run P w= .ok () w) (hb:(Op.equal t a b).run P w= .ok r w)
  (hk:binOp op t a b=match op with
   | .eql=>(do pure (.bool (<-Op.equal t a b)))
   |_=>(do pure (.bool (!(<-Op.equal t a b))))):
  (do eqGuard op t x y a b;binOp op t a b:Sem Value).run P w= .ok (.bool (neg? op r)) w:=by
 rw[Sem.run_bind,hg,hk]
 rcases hop with rfl|rfl
 ·simp only[Result.andThen_ok,Sem.run_bind,hb,Sem.run_pure,neg?]
 ·simp only[Result.andThen_ok,Sem.run_bind,hb,Sem.run_pure,neg?]
theorem eqW_ans{o:Oper}{op:BinOp}{t yt:TypeId}{x y:Operand}{σ:Nat->Value}{h:Heap}{K:Value->Prop}(ho:o.op= .binOp op t x y yt)(hop:op= .eql\/op= .neq)
  (hq:eqW P o op t x y σ h K):∃v,K v/\Rd P o σ h v:=by
 have he:execOp (evS σ) o=(do let v<-(do eqGuard op t x y (evS σ x) (evS σ y);binOp op t (evS σ x) (evS σ y):Sem Value);pure (Next.value v)):=by
  unfold execOp;rw[ho]
 unfold eqW at hq
 split at hq
 ·split at hq
  ·rename_i a ha
   split at hq
   ·rename_i hu
    refine⟨_,hq,Rd.all h fun h'=>QgF he fun w hw=>⟨w, ?_,Env.refl w,hw⟩⟩
    obtain⟨e,hu⟩:∃e,P.underlying t=some (.pointer e):=by
     unfold isPtr at hu;split at hu
     ·exact⟨_,by assumption⟩
     ·cases hu
    rw[ha]
    refine Qkt hop ?_ (equalIn_ptr hu a 9999 w) ?_
    ·rcases hop with rfl|rfl<;>simp[eqGuard]
    ·rcases hop with rfl|rfl<;>simp[binOp,evS]
   ·exact hq.elim
  ·exact hq.elim
 ·split at hq
  ·rename_i a n c ha
   split at hq
   ·rename_i hu
    refine⟨_,hq,Rd.all h fun h'=>QgF he fun w hw=>⟨w, ?_,Env.refl w,hw⟩⟩
    obtain⟨e,hu⟩:∃e,P.underlying t=some (.slice e):=by
     unfold isSlc at hu;split at hu
     ·exact⟨_,by assumption⟩
     ·cases hu
    rw[ha]
    refine Qkt hop ?_ (equalIn_slc hu a n c _ _ 9999 w) ?_
    ·rcases hop with rfl|rfl<;>simp[eqGuard]
    ·rcases hop with rfl|rfl<;>simp[binOp,evS]
   ·exact hq.elim
  ·exact hq.elim
 ·split at hq
  ·rename_i a ha
   split at hq
   ·rename_i hu
    refine⟨_,hq,Rd.all h fun h'=>QgF he fun w hw=>⟨w, ?_,Env.refl w,hw⟩⟩
    obtain⟨k,e,hu⟩:∃k e,P.underlying t=some (.map k e):=by
     unfold isMap at hu;split at hu
     ·exact⟨_,_,by assumption⟩
     ·cases hu
    rw[ha]
    refine Qkt hop ?_ (equalIn_map hu a 9999 w) ?_
    ·rcases hop with rfl|rfl<;>simp[eqGuard]
    ·rcases hop with rfl|rfl<;>simp[binOp,evS]
   ·exact hq.elim
  ·exact hq.elim
 ·split at hq
  ·exact Qhe h (QeD hq)
  ·rename_i hb
   obtain⟨b,hr,hk⟩:=hq
   refine⟨_,hk,QgF he fun w hw=>hr w hw,fun hns=> ?_⟩
   exfalso
   apply hb
   unfold ns at hns
   rw[ho] at hns
   rcases hop with rfl|rfl
   ·simpa using hns
   ·simpa using hns
theorem binW_ans{o:Oper}{op:BinOp}{t yt:TypeId}{x y:Operand}{σ:Nat->Value}{h:Heap}{K:Value->Prop}(ho:o.op= .binOp op t x y yt)
  (hq:binW P o op t x y σ h K):∃v,K v/\Rd P o σ h v:=by
 have he:execOp (evS σ) o=(do let v<-(do eqGuard op t x y (evS σ x) (evS σ y);binOp op t (evS σ x) (evS σ y):Sem Value);pure (Next.value v)):=by
  unfold execOp;rw[ho]
 have hgo:∀w,op≠ .eql->op≠ .neq->(eqGuard op t x y (evS σ x) (evS σ y)).run P w= .ok () w:=fun w h1 h2=>by
  cases op<;>first|exact absurd rfl h1|exact absurd rfl h2|rfl
 have pure_of:∀v:Value,op≠ .eql->op≠ .neq->(∀w,(binOp op t (evS σ x) (evS σ y)).run P w= .ok v w)->Rd P o σ h v:=fun v h1 h2 hb=>
  Rd.all h fun h'=>QgF he fun w hw=>⟨w,by rw[Sem.run_bind,hgo w h1 h2];exact hb w,Env.refl w,hw⟩
 cases op
 case eql=>exact eqW_ans ho (.inl rfl) hq
 case neq=>exact eqW_ans ho (.inr rfl) hq
 case quo=>
  simp only[binW] at hq
  split at hq
  ·rename_i k m k' n hx hy
   split at hq
   ·rename_i hk;subst hk
    exact⟨_,hq.2,pure_of _ (by simp) (by simp) fun w=>by rw[hx,hy];simp[binOp,Op.intDiv,hq.1,divV]⟩
   ·exact hq.elim
  ·exact hq.elim
 case rem=>
  simp only[binW] at hq
  split at hq
  ·rename_i k m k' n hx hy
   split at hq
   ·rename_i hk;subst hk
    exact⟨_,hq.2,pure_of _ (by simp) (by simp) fun w=>by rw[hx,hy];simp[binOp,Op.intDiv,hq.1,divV]⟩
   ·exact hq.elim
  ·exact hq.elim
 case shl=>
  simp only[binW] at hq
  split at hq
  ·rename_i k m k' n hx hy
   exact⟨_,hq.2,pure_of _ (by simp) (by simp) fun w=>by
    rw[hx,hy];have h0:=hq.1;simp[binOp,Op.shift,show ¬n<0 by omega,QaL]⟩
  ·exact hq.elim
 case shr=>
  simp only[binW] at hq
  split at hq
  ·rename_i k m k' n hx hy
   exact⟨_,hq.2,pure_of _ (by simp) (by simp) fun w=>by
    rw[hx,hy];have h0:=hq.1;simp[binOp,Op.shift,show ¬n<0 by omega,QaL]⟩
  ·exact hq.elim
 case add=>
  simp only[binW] at hq
  split at hq
  ·rename_i s hx
   split at hq
   ·rename_i s' hy
    exact⟨_,hq.2,pure_of _ (by simp) (by simp) fun w=>by
     have hm:IntKind.i64.max=9223372036854775807:=by decide
     rw[hx,hy];have h0:=hq.1;simp only[binOp,Op.stringOp,hm];rw[if_neg (by omega)];rfl⟩
   ·exact hq.elim
  ·exact Qhe h (QeD hq)
 all_goals exact Qhe h (QeD hq)
theorem info_run{e:TypeId}{j:TypeInfo}(hj:P.info? e=some j)(w:World):(sizeOf e).run P w= .ok j.size w:=by
 unfold sizeOf;rw[Sem.run_bind,show(typeInfo e).run P w= .ok j w by simp[typeInfo,hj,program,Sem.run_bind,Sem.run]];rfl
theorem idxW_ans{o:Oper}{t:TypeId}{x i:Operand}{σ:Nat->Value}{h:Heap}{K:Value->Prop}(ho:o.op= .indexAddr t x i)
  (hq:idxW P t (evS σ x) (evS σ i) K):∃v,K v/\Rd P o σ h v:=by
 have he:execOp (evS σ) o=(do let v<-Instr.indexAt t (evS σ x) (evS σ i);pure (Next.value v)):=by
  unfold execOp;rw[ho]
 unfold idxW at hq
 split at hq
 ·rename_i e hu
  split at hq
  ·rename_i j hj
   split at hq
   ·rename_i a n c hx
    split at hq
    ·rename_i k m hi
     obtain⟨a',ha,h0,h1,hk⟩:=hq
     simp only at ha
     subst ha
     refine⟨_,hk,Rd.all h fun h'=>QgF he fun w hw=>⟨w, ?_,Env.refl w,hw⟩⟩
     rw[hx,hi]
     have h1':m<(n:Int):=h1
     simp[Instr.indexAt,asIntOf,run_underlying hu,info_run hj,h0,h1']
    ·exact hq.elim
   ·exact hq.elim
  ·exact hq.elim
 ·rename_i n e hu
  split at hq
  ·rename_i j hj
   split at hq
   ·rename_i a hx
    split at hq
    ·rename_i k m hi
     obtain⟨h0,h1,hk⟩:=hq
     refine⟨_,hk,Rd.all h fun h'=>QgF he fun w hw=>⟨w, ?_,Env.refl w,hw⟩⟩
     rw[hx,hi]
     simp[Instr.indexAt,asIntOf,Instr.sureAddr,run_underlying hu,info_run hj,h0,h1]
    ·exact hq.elim
   ·exact hq.elim
  ·exact hq.elim
 ·exact hq.elim
theorem indexW_ans{o:Oper}{t:TypeId}{x i:Operand}{σ:Nat->Value}{h:Heap}{K:Value->Prop}(ho:o.op= .index t x i)
  (hq:indexW P o t (evS σ x) (evS σ i) K):∃v,K v/\Rd P o σ h v:=by
 have he:execOp (evS σ) o=(do let v<-Instr.index t (evS σ x) (evS σ i);pure (Next.value v)):=by
  unfold execOp;rw[ho]
 unfold indexW at hq
 split at hq
 ·rename_i hu
  split at hq
  ·rename_i s hx
   split at hq
   ·rename_i k m hi
    obtain⟨b,h0,hb,hk⟩:=hq
    refine⟨_,hk,Rd.all h fun h'=>QgF he fun w hw=>⟨w, ?_,Env.refl w,hw⟩⟩
    rw[hx,hi]
    simp[Instr.index,asIntOf,run_underlying hu,h0,hb]
   ·exact hq.elim
  ·exact hq.elim
 ·exact Qhe h (OpP.ans he hq)
theorem nw_ans{o:Oper}{σ:Nat->Value}{h:Heap}{K:Value->Heap->Prop}(hn:nwK P o=true)(hq:opW P o σ h K):∃v,K v h/\Rd P o σ h v:=by
 obtain⟨dst,op,type,pos,after,guard⟩:=o
 cases op<;>simp only[nwK,Bool.false_eq_true] at hn<;>simp only[opW] at hq
 case move x=>exact⟨_,hq,Rd.all h fun h'=>Qjz h' rfl⟩
 case assign x=>exact⟨_,hq,Rd.all h fun h'=>Qjz h' rfl⟩
 case pick c a b=>
  split at hq
  ·rename_i t ht
   refine⟨_,hq,Rd.all h fun h' w hw=>⟨w, ?_,Env.refl w,hw⟩⟩
   simp only[execOp,ht,asBool,pickV_eq]
   cases t<;>rfl
  ·exact hq.elim
 case load t x=>
  split at hq
  ·rename_i a ha
   obtain⟨v,hk,hr⟩:=LdS_run hq
   refine rd_ns rfl ⟨v,hk,QgF (s:=Instr.loadAt t (.pointer (some a))) ?_ hr⟩
   simp only[execOp,ha]
  ·exact hq.elim
 case nilCheck x=>
  unfold NnI at hq
  split at hq
  ·rename_i a ha
   obtain⟨a',rfl,hk⟩:=hq
   refine⟨_,hk,Rd.all h fun h'=>Qjz h' ?_⟩
   simp only[execOp,ha]
  ·rename_i t v ha
   refine⟨_,hq,Rd.all h fun h'=>Qjz h' ?_⟩
   simp only[execOp,ha]
  ·rename_i f fs cap ha
   refine⟨_,hq,Rd.all h fun h'=>Qjz h' ?_⟩
   simp only[execOp,ha]
  ·exact hq.elim
 case binOp op t x y yt=>exact binW_ans rfl hq
 case indexAddr t x i=>exact idxW_ans rfl hq
 case index t x i=>exact indexW_ans rfl hq
 case slice t x lo hi mx=>exact Qhe h (OpP.ans rfl hq)
 case lookup t x i ok=>exact rd_ns rfl (OpV.ans rfl hq)
 case typeAssert x t u ok=>exact rd_ns rfl (OpV.ans rfl hq)
 case convert src dst x=>
  have hn':isSlc (P.underlying dst)=false:=by rwa[Bool.not_eq_true'] at hn
  unfold convW at hq
  rw[if_neg (by simp[hn'])] at hq
  split at hq
  ·rename_i hsl
   exact rd_ns hsl (OpV.ans rfl hq)
  ·exact Qhe h (QeD hq)
 case call c=>
  obtain⟨callee,args,argTypes⟩:=c
  cases callee with
  |builtin b=>
   have he:∀s:Sem Value,builtin b argTypes type (args.map fun| .const _=>true|_=>false) (args.map (evS σ))=(do let v<-s;pure (Next.value v))->
     execOp (evS σ) ⟨dst,.call ⟨.builtin b,args,argTypes⟩,type,pos,after,guard⟩=(do let v<-s;pure (Next.value v)):=fun s hs=>by
    rw[<-hs];rfl
   cases b<;>first|(exact Bool.noConfusion hn)|skip
   case len=>
    simp only[callW,bltW] at hq
    split at hq
    ·rename_i hm
     obtain⟨n,hr,hk⟩:=hq
     exact rd_ns hm ⟨_,hk,QgF (he (Builtin.len_ argTypes type (args.map (evS σ))) rfl) hr⟩
    ·exact Qhe h (QeD hq)
   case cap=>exact Qhe h (QeD hq)
   case min=>exact Qhe h (QeD hq)
   case max=>exact Qhe h (QeD hq)
  |value f=>exact Bool.noConfusion hn
  |invoke r m=>exact Bool.noConfusion hn
 all_goals exact Qhe h (QeD hq)
theorem Qno{g:FuncId}{args:Array Value}(hg:okF P g=true)(w:World):(callFunc g args).run P w= .ok (.enter g args) w:=by
 unfold okF at hg
 cases hf:P.funcs[g]? with
 |none=>rw[hf] at hg;cases hg
 |some fn=>
  rw[hf] at hg
  simp only[Bool.and_eq_true,Bool.not_eq_true'] at hg
  have hb:¬fn.body=none:=by
   intro hb;rw[hb] at hg;exact Bool.noConfusion hg.1
  have hn : ¬ fn.name = "runtime.NumGoroutine" := by
   intro hn;rw[hn] at hg;simp at hg
  simp[callFunc,program,Sem.run,Sem.run_bind,hf,hn,hb]
theorem CallR.done{g:FuncId}{args:Array Value}{w:World}{h:Heap}{ss:List Sh}{K:Value->Heap->Prop}(hg:okF P g=true)(hw:w.heap=h)
  (hc:CallR P g args.toList h ss (tT ss K)):Done P K w ((callFunc g args).run P w):=by
 subst hw
 rw[Qno hg]
 refine⟨Env.refl w,CallsH.mono hc ?_⟩
 rintro e h' ⟨x,rfl,hk⟩
 rw[tT_un] at hk
 exact⟨_,rfl,hk⟩
theorem invoke_iface(t:TypeId)(v:Value)(m:String)(xs:Array Value):invoke (.fn (.method m) #[]) (#[Value.iface t v]++xs)=callMethod (.iface t v) m xs:=by
 have h0:(#[Value.iface t v]++xs)[0]? =some (Value.iface t v):=by rw[Array.getElem?_append_left (by simp)];rfl
 have h1:(#[Value.iface t v]++xs).extract 1 (#[Value.iface t v]++xs).size=xs:=by simp
 unfold invoke
 simp only[h0,h1]
theorem opW_done{o:Oper}{σ:Nat->Value}{h:Heap}{K:Value->Heap->Prop}(hq:opW P o σ h K)(w:World)(hw:w.heap=h):Done P K w ((execOp (evS σ) o).run P w):=by
 by_cases hn:nwK P o=true
 ·obtain⟨v,hk,ha⟩:=nw_ans hn hq
  exact ha.1.done hk w hw
 ·obtain⟨dst,op,type,pos,after,guard⟩:=o
  cases op<;>(first|(exact absurd rfl hn)|skip)<;>simp only[opW] at hq
  case store t x v=>
   split at hq
   ·rename_i a ha
    obtain⟨w',hr,hE,hk⟩:=StS_run hq w hw
    have he:execOp (evS σ) ⟨dst,.store t x v,type,pos,after,guard⟩=(do Instr.storeAt t (.pointer (some a)) (evS σ v);pure Next.skip):=by simp only[execOp,ha]
    rw[he,QkM,hr]
    exact⟨hE,hk⟩
   ·exact hq.elim
  case convert src dst' x=>
   unfold convW at hq
   split at hq
   ·exact OpT.done rfl hq w hw
   ·rename_i h1
    exact absurd (show(!isSlc (P.underlying dst'))=true by rw[Bool.not_eq_true',<-Bool.not_eq_true];exact h1) hn
  case call c=>
   obtain⟨callee,args,argTypes⟩:=c
   cases callee with
   |builtin b=>
    have he:∀s:Sem Value,builtin b argTypes type (args.map fun| .const _=>true|_=>false) (args.map (evS σ))=(do let v<-s;pure (Next.value v))->
      execOp (evS σ) ⟨dst,.call ⟨.builtin b,args,argTypes⟩,type,pos,after,guard⟩=(do let v<-s;pure (Next.value v)):=fun s hs=>by
     rw[<-hs];rfl
    cases b<;>simp only[callW,bltW] at hq<;>(first|exact hq.elim|skip)
    case append=>exact OpT.done (he _ rfl) hq w hw
    case copy=>exact OpT.done (he _ rfl) hq w hw
    case clear=>exact OpT.done (he _ rfl) hq w hw
    case delete=>exact OpT.done (he _ rfl) hq w hw
    all_goals exact absurd rfl hn
   |value f=>
    simp only[callW] at hq
    split at hq
    ·rename_i g first cap hf
     have he:execOp (evS σ) ⟨dst,.call ⟨.value f,args,argTypes⟩,type,pos,after,guard⟩=callFunc g (first++args.map (evS σ)++cap):=by
      simp only[execOp,resolve,hf];rfl
     rw[he]
     cases hg:okF P g with
     |true=>
      rw[hg] at hq
      exact CallR.done hg hw hq
     |false=>
      rw[hg] at hq
      obtain⟨nx,w',hr,hE,x,rfl,hk⟩:=hq w hw
      rw[tT_un] at hk
      rw[hr]
      exact⟨hE,hk⟩
    ·exact hq.elim
   |invoke r m=>
    simp only[callW] at hq
    unfold Invk at hq
    split at hq
    ·rename_i g rv hm
     unfold mthW at hm
     split at hm
     ·rename_i t v hv
      have he:execOp (evS σ) ⟨dst,.call ⟨.invoke r m,args,argTypes⟩,type,pos,after,guard⟩=callMethod (.iface t v) m (args.map (evS σ)):=by
       have hi:invoke (.fn (.method m) #[]) (#[Value.iface t v]++args.map (evS σ))=callMethod (.iface t v) m (args.map (evS σ)):=by
        exact invoke_iface t v m _
       rw[<-hi]
       simp only[execOp,resolve,hv]
       rfl
      have hr:=semP_run _ w hm
      have hc:(callMethod (.iface t v) m (args.map (evS σ))).run P w=(callFunc g (#[rv]++args.map (evS σ))).run P w:=by
       simp[callMethod,Sem.run_bind,program,Sem.run,hr]
      rw[he,hc]
      exact CallR.done hq.1 hw (by simpa using hq.2)
     ·cases hm
    ·exact hq.elim
  case mapUpdate t m k x=>exact OpU.done rfl hq w hw
  case insert t m k x=>exact OpU.done rfl hq w hw
  case makeSlice t l c=>exact OpT.done rfl hq w hw
  case makeMap t r=>exact OpT.done rfl hq w hw
  case range t x=>exact OpT.done rfl hq w hw
  case next it s=>exact OpT.done rfl hq w hw
  case alloc e=>exact Qmu hq w hw
  case box e v=>exact Qmu hq w hw
  case buildSlice t n ps=>exact Qmu hq w hw
  all_goals exact hq.elim
end
section
open Go
theorem beq_ff{t d:Nat}(h:t≠d):Nat.beq t d=false:=by
 cases e:Nat.beq t d with
 |true=>exact absurd (Nat.eq_of_beq_eq_true e) h
 |false=>rfl
structure Fr(n:Nat)(a:Act)(σ:Nat->Value):Prop where
 size:a.tmps.size=n
 defers:a.defers= []
 at_:∀t,a.tmps.getD t undef=σ t
theorem Fr.eval{n:Nat}{a:Act}{σ:Nat->Value}(h:Fr n a σ):a.eval=evS σ:=by
 funext x
 cases x with
 |tmp t=>exact h.at_ t
 |_=>rfl
theorem Fr.put{n:Nat}{a:Act}{σ:Nat->Value}(h:Fr n a σ)(o:Option Tmp)(hd:∀d,o=some d->d<n)(v:Value):Fr n (a.put o v) (Qm7 σ o v):=by
 cases o with
 |none=>exact h
 |some d=>
  have hd:=hd d rfl
  refine⟨by simp[Act.put,h.size],h.defers,fun t=> ?_⟩
  by_cases e:t=d
  ·subst e
   have:t<a.tmps.size:=by rw[h.size];exact hd
   simp[Act.put,Qm7,up,Array.getD,this]
  ·have e1:Nat.beq t d=false:=beq_ff e
   have e2:d≠t:=fun x=>e x.symm
   have:=h.at_ t
   simp only[Act.put,Qm7,up,e1,cond_false]
   rw[<-this]
   simp[Array.getD_eq_getD_getElem?,Array.getElem?_setIfInBounds_ne e2]
theorem up_self (σ : Nat → Value) (d : Nat) : up σ d (σ d) = σ := by
  funext t
  unfold up
  cases e : Nat.beq t d with
  | true => have : t = d := by simpa using e
            rw [this]; rfl
  | false => rfl
theorem up_ne{σ:Nat->Value}{d t:Nat}{v:Value}(h:t≠d):up σ d v t=σ t:=by
 have e:Nat.beq t d=false:=beq_ff h
 simp[up,e]
theorem up_eq{σ:Nat->Value}{d:Nat}{v:Value}:up σ d v d=v:=by
 have e:Nat.beq d d=true:=by simp
 simp[up,e]
theorem QoA{σ:Nat->Value}{o:Option Tmp}{t:Nat}{v:Value}(h:o≠some t):Qm7 σ o v t=σ t:=by
 cases o with
 |none=>rfl
 |some d=>exact up_ne fun e=>h (by rw[e])
section
variable (P:Program) (ops:Array Oper)
def runB(o:Oper)(d:Nat)(b want:Bool)(σ:Nat->Value)(h:Heap)(Kr Ks:Kont):Prop:=
 if b=want then opW P o (up σ d (.bool b)) h fun v h'=>Kr (Qm7 (up σ d (.bool b)) o.dst v) h' else Ks (Qm7 (up σ d (.bool b)) o.dst undef) h
def runG(o:Oper)(σ:Nat->Value)(h:Heap)(Kr Ks:Kont):Prop:=
 match o.guard with
 |none=>opW P o σ h fun v h'=>Kr (Qm7 σ o.dst v) h'
 |some (j,want)=>match(ops[j]?).bind (·.dst) with
  |none=>False
  |some d=>match σ d with
   | .bool t=>cond t (runB P o d true want σ h Kr Ks) (runB P o d false want σ h Kr Ks)
   |_=>Ks (Qm7 σ o.dst undef) h
def X:List Oper->Kont->Kont
 | [],K,σ,h=>K σ h
 |o::os,K,σ,h=>runG P ops o σ h (X os K) (X os K)
def QiA(o:Oper)(σ:Nat->Value):Bool:=
 match o.guard with
 |none=>true
 |some (j,want)=>match(ops[j]?).bind (·.dst) with
  |some d=>match σ d with
   | .bool t=>t==want
   |_=>false
  |none=>false
variable {P ops}
theorem wanted_eq{n:Nat}{a:Act}{σ:Nat->Value}(hf:Fr n a σ)(o:Oper):Region.wanted o (yielded ops a.tmps)=QiA ops o σ:=by
 unfold Region.wanted QiA
 cases o.guard with
 |none=>rfl
 |some g=>
  obtain⟨j,want⟩:=g
  simp only[yielded]
  cases hd:(ops[j]?).bind (·.dst) with
  |none=>rfl
  |some d=>
   simp only[Option.bind_some]
   have:=hf.at_ d
   rw[Array.getD_eq_getD_getElem?] at this
   cases e:a.tmps[d]? with
   |none=>rw[e] at this;simp only[Option.getD_none] at this;rw[<-this];rfl
   |some v=>rw[e] at this;simp only[Option.getD_some] at this;rw[<-this];cases v<;>rfl
theorem Qka{o:Oper}{σ:Nat->Value}{h:Heap}{Kr Ks:Kont}(hr:runG P ops o σ h Kr Ks):
  (QiA ops o σ=true/\opW P o σ h fun v h'=>Kr (Qm7 σ o.dst v) h')\/(QiA ops o σ=false/\Ks (Qm7 σ o.dst undef) h):=by
 unfold runG at hr
 unfold QiA
 split at hr
 ·exact .inl ⟨rfl,hr⟩
 ·rename_i j want hg
  split at hr
  ·exact hr.elim
  ·rename_i d hd
   simp only[hd]
   split at hr
   ·rename_i t ht
    have hb:∀b,b=t->runB P o d b want σ h Kr Ks->((t==want)=true/\opW P o σ h fun v h'=>Kr (Qm7 σ o.dst v) h')\/((t==want)=false/\Ks (Qm7 σ o.dst undef) h):=by
     intro b e hq
     subst e
     have hs:up σ d (.bool b)=σ:=by rw[<-ht];exact up_self σ d
     unfold runB at hq
     rw[hs] at hq
     split at hq
     ·rename_i e;subst e;exact .inl ⟨by simp,hq⟩
     ·rename_i e;exact .inr ⟨by simpa using e,hq⟩
    cases t with
    |true=>exact hb true rfl hr
    |false=>exact hb false rfl hr
   ·exact .inr ⟨rfl,hr⟩
theorem upon_done{o:Oper}{a:Act}{w:World}{K:Value->Heap->Prop}{next:Act->World->Prop}{Q:Exit->Act->World->Prop}{r:Result Next}(hd:Done P K w r)
  (hk:∀v w',Env w w'->K v w'.heap->next (a.put o.dst v) w'):o.upon P a next Q r:=by
 cases r with
 |halt x w'=>exact hd.elim
 |ok nx w'=>
  cases nx<;>simp only[Done] at hd<;>first|exact hd.elim|skip
  case value v=>exact hk _ _ hd.1 hd.2
  case skip=>exact hk _ _ hd.1 hd.2
  case enter f args=>
   refine Calls.mono (hd.2 w' rfl) ?_
   rintro e w'' ⟨hE,v,rfl,hK⟩
   exact hk _ _ (hd.1.trans hE) hK
def Agr(m:Nat->Prop)(σ σ':Nat->Value):Prop:=∀t,¬m t->σ' t=σ t
theorem X_sound{n:Nat}{w₀:World}{Q:Exit->Act->World->Prop}{K:Kont}:∀(os:List Oper) (σ:Nat->Value) (h:Heap) (a:Act) (w:World),X P ops os K σ h->
  Fr n a σ->w.heap=h->Env w₀ w->(∀o∈os,∀d,o.dst=some d->d<n)->
  (∀σ' a' w',Fr n a' σ'->Env w₀ w'->K σ' w'.heap->Agr (fun t=>∃o∈os,o.dst=some t) σ σ'->Q .normal a' w')->wpList P ops Q os a w
 | [],σ,h,a,w,hx,hf,hw,hE,_,hQ=>hQ σ a w hf hE (by rw[hw];exact hx) (fun _ _=>rfl)
 |o::os,σ,h,a,w,hx,hf,hw,hE,hd,hQ=>by
  have hd1:∀d,o.dst=some d->d<n:=hd o (List.mem_cons_self ..)
  have step:∀v w',Env w w'->X P ops os K (Qm7 σ o.dst v) w'.heap->wpList P ops Q os (a.put o.dst v) w':=fun v w' hE' hx'=>by
   refine X_sound os _ _ _ _ hx' (hf.put o.dst hd1 v) rfl (hE.trans hE') (fun o' ho=>hd o' (List.mem_cons_of_mem _ ho)) fun σ' a' w'' hf' hE'' hK hag=> ?_
   refine hQ σ' a' w'' hf' hE'' hK fun t ht=> ?_
   rw[hag t fun⟨o',ho',e⟩=>ht ⟨o',List.mem_cons_of_mem _ ho',e⟩]
   exact QoA fun e=>ht ⟨o,List.mem_cons_self ..,e⟩
  unfold wpList
  rw[wanted_eq hf]
  rcases Qka hx with⟨hg,hq⟩|⟨hg,hq⟩
  ·rw[if_pos hg]
   refine .inl ?_
   unfold Oper.wp
   rw[hf.eval]
   exact upon_done (opW_done hq w hw) step
  ·rw[if_neg (by simp[hg])]
   refine step undef w (Env.refl w) ?_
   rw[hw];exact hq
end
section
variable (P:Program) (ops:Array Oper)
def bef(i k:Nat):Bool:=((Region.before ops).getD k 0).testBit i
def rdy(L i:Nat):Bool:=
 match ops[i]? with
 |none=>false
 |some o=> !Nat.testBit L i&&o.after.toList.all fun e=> !Region.binds .any e||Nat.testBit L e.on
def looks(k:Nat):List Nat:=
 match ops[k]? with
 |none=> []
 |some o=>o.looksAt ops
def QfS(k:Nat):Option Nat:=(ops[k]?).bind (·.dst)
def isD(k d:Nat):Bool:=
 match QfS ops k with
 |some e=>Nat.beq e d
 |none=>false
def ssa(i:Nat):Bool:=
 match QfS ops i with
 |none=>false
 |some d=>(List.range ops.size).all fun k=>if Nat.beq k i then !(looks ops k).contains d else(!(looks ops k).contains d&& !isD ops k d)||bef ops i k
def nw(i:Nat):Bool:=
 match ops[i]? with
 |none=>false
 |some o=>nwK P o&&ssa ops i
def chk:Bool:=
 (List.range ops.size).all fun k=>
  (match ops[k]? with
   |none=>false
   |some o=>o.after.toList.all fun e=> !Region.binds .any e||decide (e.on<k))&&
  (match QfS ops k with
   |none=>true
   |some d=>(List.range ops.size).all fun j=>Nat.beq j k||(!(looks ops j).contains d&& !isD ops j d)||bef ops k j||bef ops j k)
def nextNW(L:Nat):Option Nat:=(List.range ops.size).find? fun i=>rdy ops L i&&nw P ops i
def allI:List Nat->(Nat->Prop)->Prop
 | [],_=>True
 | [i],f=>f i
 |i::j::is,f=>f i/\allI (j::is) f
def stabOp(r:Nat)(σ:Nat->Value)(h:Heap):Prop:=
 match ops[r]? with
 |none=>True
 |some o=>match o.dst with
  |none=>True
  |some d=>match o.guard with
   |none=>opW P o σ h fun v _=>v=σ d
   |some (j,want)=>match(ops[j]?).bind (·.dst) with
    |none=>True
    |some g=>match σ g with
     | .bool t=>if t=want then opW P o σ h fun v _=>v=σ d else True
     |_=>True
def stabs:List Nat->(Nat->Value)->Heap->Prop->Prop
 | [],_,_,p=>p
 |r::rs,σ,h,p=>stabOp P ops r σ h/\stabs rs σ h p
def nsI(r:Nat):Bool:=
 match ops[r]? with
 |none=>false
 |some o=>ns P o
def again(L i:Nat):List Nat:=(List.range ops.size).filter fun r=>Nat.testBit L r&&nw P ops r&&nsI P ops r&& !bef ops r i
def T:Nat->Nat->Kont->Kont
 |0,_,_=>fun _ _=>False
 |f+1,L,K=>fun σ h=>
  match nextNW P ops L with
  |some i=>match ops[i]? with
   |some o=>runG P ops o σ h (T f (L|||2^i) K) (T f (L|||2^i) K)
   |none=>False
  |none=>match(List.range ops.size).filter (rdy ops L) with
   | []=>K σ h
   |is=>allI is fun i=>match ops[i]? with
    |some o=>runG P ops o σ h (fun σ' h'=>stabs P ops (again P ops L i) σ' h' (T f (L|||2^i) K σ' h')) (T f (L|||2^i) K)
    |none=>False
end
end
section
open Go
variable {P:Program}{ops:Array Oper}
def fIn(acc:Array Nat)(s:Nat)(e:Edge):Nat:=if Region.binds .any e then s|||2^e.on|||acc.getD e.on 0 else s
def fB(acc:Array Nat)(o:Oper):Array Nat:=acc.push (o.after.foldl (fIn acc) 0)
theorem before_eq(ops:Array Oper):Region.before ops=ops.toList.foldl fB #[]:=by
 unfold Region.before
 rw[<-Array.foldl_toList]
 rfl
theorem inner_bit(acc:Array Nat)(i:Nat):∀(es:List Edge) (s:Nat),(es.foldl (fIn acc) s).testBit i=true->
  s.testBit i=true\/∃e∈es,Region.binds .any e=true/\(i=e.on\/(acc.getD e.on 0).testBit i=true)
 | [],s,h=> .inl h
 |e::es,s,h=>by
  rcases inner_bit acc i es _ h with h1|⟨e',he',hb⟩
  ·unfold fIn at h1
   split at h1
   ·rename_i hb
    simp only[Nat.testBit_or,Bool.or_eq_true,Nat.testBit_two_pow,decide_eq_true_eq] at h1
    rcases h1 with(h1|h1)|h1
    ·exact .inl h1
    ·exact .inr ⟨e,List.mem_cons_self ..,hb,.inl h1.symm⟩
    ·exact .inr ⟨e,List.mem_cons_self ..,hb,.inr h1⟩
   ·exact .inl h1
  ·exact .inr ⟨e',List.mem_cons_of_mem _ he',hb⟩
def BInv(pre:List Oper)(acc:Array Nat):Prop:=
 acc.size=pre.length/\∀k i,(acc.getD k 0).testBit i=true->∃o,pre[k]? =some o/\∃e∈o.after.toList,Region.binds .any e=true/\(i=e.on\/(acc.getD e.on 0).testBit i=true)
theorem BInv.step{pre:List Oper}{acc:Array Nat}(h:BInv pre acc)(o:Oper):BInv (pre++ [o]) (fB acc o):=by
 obtain⟨hs,hb⟩:=h
 have keep:∀k i,(acc.getD k 0).testBit i=true->((fB acc o).getD k 0).testBit i=true:=by
  intro k i hk
  by_cases hlt:k<acc.size
  ·have:(fB acc o).getD k 0=acc.getD k 0:=by
    simp only[fB,Array.getD_eq_getD_getElem?,Array.getElem?_push]
    rw[if_neg (by omega)]
   rw[this];exact hk
  ·rw[Array.getD_eq_getD_getElem?,Array.getElem?_eq_none (by omega)] at hk
   simp at hk
 refine⟨by simp[fB,hs],fun k i hk=> ?_⟩
 by_cases hlt:k<acc.size
 ·have e1:(fB acc o).getD k 0=acc.getD k 0:=by
   simp only[fB,Array.getD_eq_getD_getElem?,Array.getElem?_push]
   rw[if_neg (by omega)]
  rw[e1] at hk
  obtain⟨o',ho',e,he,hbd,hor⟩:=hb k i hk
  refine⟨o',by rw[List.getElem?_append_left (by omega)];exact ho',e,he,hbd,hor.imp id (keep _ _)⟩
 ·by_cases heq:k=acc.size
  ·subst heq
   have e1:(fB acc o).getD acc.size 0=o.after.toList.foldl (fIn acc) 0:=by
    simp[fB,Array.getD_eq_getD_getElem?]
   rw[e1] at hk
   rcases inner_bit acc i _ _ hk with h0|⟨e,he,hbd,hor⟩
   ·simp at h0
   ·exact⟨o,by rw[hs];simp,e,he,hbd,hor.imp id (keep _ _)⟩
  ·have:(fB acc o).getD k 0=0:=by
    rw[Array.getD_eq_getD_getElem?,Array.getElem?_eq_none (by simp[fB];omega)];rfl
   rw[this] at hk
   simp at hk
theorem BInv.all:∀(l pre:List Oper) (acc:Array Nat),BInv pre acc->BInv (pre++l) (l.foldl fB acc)
 | [],pre,acc,h=>by simpa using h
 |o::l,pre,acc,h=>by
  have:=BInv.all l (pre++ [o]) (fB acc o) (h.step o)
  simpa using this
theorem bef_step{i k:Nat}(h:bef ops i k=true):∃o,ops[k]? =some o/\∃e∈o.after.toList,Region.binds .any e=true/\(i=e.on\/bef ops i e.on=true):=by
 have hI:=BInv.all ops.toList [] #[] ⟨rfl,fun k i hk=>by simp at hk⟩
 rw[<-before_eq] at hI
 obtain⟨o,ho,he⟩:=hI.2 k i h
 exact⟨o,by simpa using ho,he⟩
def Cl(ops:Array Oper)(S:Nat->Prop):Prop:=∀k o,S k->ops[k]? =some o->∀e∈o.after.toList,Region.binds .any e=true->S e.on
def Down(ops:Array Oper):Prop:=∀k o,ops[k]? =some o->∀e∈o.after.toList,Region.binds .any e=true->e.on<k
theorem bef_in{S:Nat->Prop}(hd:Down ops)(hS:Cl ops S)(i:Nat):∀k,bef ops i k=true->S k->S i:=by
 intro k
 induction k using Nat.strongRecOn with
 |_ k ih=>
  intro hb hk
  obtain⟨o,ho,e,he,hbd,hor⟩:=bef_step hb
  have h1:=hS k o hk ho e he hbd
  rcases hor with rfl|h2
  ·exact h1
  ·exact ih e.on (hd k o ho e he hbd) h2 h1
theorem bef_rdy{S:Nat->Prop}(hd:Down ops)(hS:Cl ops S){i k:Nat}{o:Oper}(ho:ops[k]? =some o)(hr:∀e∈o.after.toList,Region.binds .any e=true->S e.on)
  (hb:bef ops i k=true):S i:=by
 obtain⟨o',ho',e,he,hbd,hor⟩:=bef_step hb
 rw[ho] at ho'
 injection ho' with ho'
 subst ho'
 rcases hor with rfl|h2
 ·exact hr e he hbd
 ·exact bef_in hd hS i e.on h2 (hr e he hbd)
theorem Qcz{k:Nat}{o:Oper}(h:ops[k]? =some o):k<ops.size:=(Array.getElem?_eq_some_iff.1 h).1
theorem chk_down(h:chk ops=true):Down ops:=by
 intro k o ho e he hb
 have:=List.all_eq_true.1 h k (by simpa using Qcz ho)
 simp only[ho,Bool.and_eq_true,List.all_eq_true] at this
 have:=this.1 e he
 simpa [hb] using this
theorem chk_slots(h:chk ops=true){k j d:Nat}{o o':Oper}(ho:ops[k]? =some o)(hd:o.dst=some d)(ho':ops[j]? =some o')(hne:j≠k)
  (hm:d∈o'.looksAt ops\/o'.dst=some d):bef ops k j=true\/bef ops j k=true:=by
 have h1:=List.all_eq_true.1 h k (by simpa using Qcz ho)
 simp only[QfS,ho,Option.bind_some,hd,Bool.and_eq_true,List.all_eq_true] at h1
 have h2:=h1.2 j (by simpa using Qcz ho')
 have h3:isD ops j d=true\/d∈looks ops j:=by
  rcases hm with hm|hm
  ·exact .inr (by unfold looks;rw[ho'];exact hm)
  ·exact .inl (by simp[isD,QfS,ho',hm])
 simp only[beq_ff hne,Bool.false_or,Bool.or_eq_true,Bool.and_eq_true,Bool.not_eq_true',List.contains_eq_mem,decide_eq_false_iff_not] at h2
 rcases h2 with(h2|h2)|h2
 ·rcases h3 with h3|h3
  ·rw[h2.2] at h3;cases h3
  ·exact absurd h3 h2.1
 ·exact .inl h2
 ·exact .inr h2
theorem Qmg{i:Nat}(h:nw P ops i=true):∃o d,ops[i]? =some o/\o.dst=some d/\nwK P o=true/\d∉o.looksAt ops/\
  ∀k o',ops[k]? =some o'->k≠i->(d∈o'.looksAt ops\/o'.dst=some d)->bef ops i k=true:=by
 unfold nw at h
 split at h
 ·cases h
 ·rename_i o ho
  simp only[Bool.and_eq_true] at h
  have h2:=h.2
  unfold ssa at h2
  split at h2
  ·cases h2
  ·rename_i d hd
   have hd':o.dst=some d:=by simpa [QfS,ho] using hd
   rw[List.all_eq_true] at h2
   refine⟨o,d,ho,hd',h.1, ?_,fun k o' ho' hne hm=> ?_⟩
   ·have:=h2 i (by simpa using Qcz ho)
    have e:Nat.beq i i=true:=by simp
    simp only[e,if_true,looks,ho,Bool.not_eq_true',List.contains_eq_mem,decide_eq_false_iff_not] at this
    exact this
   ·have:=h2 k (by simpa using Qcz ho')
    simp only[beq_ff hne,Bool.false_eq_true,if_false,Bool.or_eq_true,Bool.and_eq_true,Bool.not_eq_true',List.contains_eq_mem,decide_eq_false_iff_not] at this
    rcases this with h3|h3
    ·rcases hm with hm|hm
     ·exact absurd (by unfold looks;rw[ho'];exact hm) h3.1
     ·have:isD ops k d=true:=by simp[isD,QfS,ho',hm]
      rw[h3.2] at this;cases this
    ·exact h3
theorem nwK_sel{o:Oper}(h:nwK P o=true):∀cs b,o.op≠ .select cs b:=by
 intro cs b e
 unfold nwK at h
 rw[e] at h
 cases h
theorem opW_sel{o:Oper}{σ:Nat->Value}{h:Heap}{K:Value->Heap->Prop}(hq:opW P o σ h K):∀cs b,o.op≠ .select cs b:=by
 intro cs b e
 unfold opW at hq
 rw[e] at hq
 exact hq
theorem Qkp{o:Oper}{σ σ':Nat->Value}(hs:∀cs b,o.op≠ .select cs b)(h:∀t∈o.looksAt ops,σ t=σ' t):execOp (evS σ) o=execOp (evS σ') o:=by
 refine execOp_congr o hs fun x hx=> ?_
 cases x with
 |tmp t=>exact h t (List.mem_append_left _ (List.mem_filterMap.2 ⟨.tmp t,by simpa using hx,rfl⟩))
 |_=>rfl
theorem Qj4{o:Oper}{σ σ':Nat->Value}(h:∀t∈o.looksAt ops,σ t=σ' t):QiA ops o σ=QiA ops o σ':=by
 unfold QiA
 cases hg:o.guard with
 |none=>rfl
 |some g=>
  obtain⟨j,want⟩:=g
  simp only
  cases hd:(ops[j]?).bind (·.dst) with
  |none=>rfl
  |some d=>
   have:σ d=σ' d:=h d (List.mem_append_right _ (by rw[hg];simp[hd]))
   simp only[this]
theorem Ans.looks{o:Oper}{σ σ':Nat->Value}{h:Heap}{v:Value}(hs:∀cs b,o.op≠ .select cs b)(he:∀t∈o.looksAt ops,σ t=σ' t)(ha:Ans P o σ h v):Ans P o σ' h v:=by
 unfold Ans at*
 rw[<-Qkp hs he]
 exact ha
theorem Rd.looks{o:Oper}{σ σ':Nat->Value}{h:Heap}{v:Value}(hs:∀cs b,o.op≠ .select cs b)(he:∀t∈o.looksAt ops,σ t=σ' t)(ha:Rd P o σ h v):Rd P o σ' h v:=
 ⟨ha.1.looks hs he,fun hn h'=>(ha.2 hn h').looks hs he⟩
theorem tb(L i j:Nat):(L|||2^i).testBit j=true↔L.testBit j=true\/j=i:=by
 rw[Nat.testBit_or,Bool.or_eq_true,Nat.testBit_two_pow,decide_eq_true_eq]
 constructor
 ·rintro (h|h)
  ·exact .inl h
  ·exact .inr h.symm
 ·rintro (h|h)
  ·exact .inl h
  ·exact .inr h.symm
theorem Qov{L i:Nat}:rdy ops L i=true↔∃o,ops[i]? =some o/\Nat.testBit L i=false/\∀e∈o.after.toList,Region.binds .any e=true->Nat.testBit L e.on=true:=by
 unfold rdy
 cases ho:ops[i]? with
 |none=>simp
 |some o=>
  simp only[Bool.and_eq_true,Bool.not_eq_true',List.all_eq_true,Bool.or_eq_true]
  constructor
  ·rintro ⟨h1,h2⟩
   exact⟨o,rfl,h1,fun e he hb=>(h2 e he).resolve_left (by simp[hb])⟩
  ·rintro ⟨o',ho',h1,h2⟩
   injection ho' with ho'
   subst ho'
   refine⟨h1,fun e he=> ?_⟩
   cases hb:Region.binds .any e with
   |true=>exact .inr (h2 e he hb)
   |false=>exact .inl rfl
theorem getD_tf{A:Array Bool}{i:Nat}(h:i<A.size):A.getD i true=A.getD i false:=by simp[Array.getD,h]
theorem QhY{A:Array Bool}{i:Nat}(hsz:A.size=ops.size):i∈Region.ready .any ops A↔∃o,ops[i]? =some o/\A.getD i false=false/\∀e∈o.after.toList,Region.binds .any e=true->A.getD e.on false=true:=by
 unfold Region.ready
 rw[List.mem_filter]
 cases ho:ops[i]? with
 |none=>simp
 |some o=>
  simp only[List.mem_range,Option.map_some,Option.getD_some,Bool.and_eq_true,Bool.not_eq_true',Array.all_eq_true_iff_forall_mem,Bool.or_eq_true]
  constructor
  ·rintro ⟨hlt,h1,h2⟩
   rw[getD_tf (by omega)] at h1
   exact⟨o,rfl,h1,fun e he hb=>(h2 e (by simpa using he)).resolve_left (by simp[hb])⟩
  ·rintro ⟨o',ho',h1,h2⟩
   injection ho' with ho'
   subst ho'
   have hlt:=Qcz ho
   refine⟨hlt,by rw[getD_tf (by omega)];exact h1,fun e he=> ?_⟩
   cases hb:Region.binds .any e with
   |true=>exact .inr (h2 e (by simpa using he) hb)
   |false=>exact .inl rfl
def Val(P:Program)(ops:Array Oper)(r:Nat)(σ:Nat->Value)(h:Heap):Prop:=
 ∀o d,ops[r]? =some o->o.dst=some d->(QiA ops o σ=true->Rd P o σ h (σ d))/\(QiA ops o σ=false->σ d=undef)
structure Inv(P:Program)(ops:Array Oper)(A:Array Bool)(L:Nat)(σa σc:Nat->Value)(h:Heap):Prop where
 sizeA:A.size=ops.size
 sub:∀i,A.getD i false=true->Nat.testBit L i=true
 clA:Cl ops fun i=>A.getD i false=true
 clL:Cl ops fun i=>Nat.testBit L i=true
 bound:∀i,Nat.testBit L i=true->i<ops.size
 pend:∀r,Nat.testBit L r=true->A.getD r false=false->nw P ops r=true/\Val P ops r σc h
 agr:∀t,(∀r,Nat.testBit L r=true->A.getD r false=false->QfS ops r≠some t)->σa t=σc t
theorem runG_nw{o:Oper}{σ:Nat->Value}{h:Heap}{K:Kont}(hn:nwK P o=true)(hr:runG P ops o σ h K K):
  ∃v,K (Qm7 σ o.dst v) h/\(QiA ops o σ=true->Rd P o σ h v)/\(QiA ops o σ=false->v=undef):=by
 rcases Qka hr with⟨hw,hq⟩|⟨hw,hq⟩
 ·obtain⟨v,hk,hv⟩:=nw_ans hn hq
  exact⟨v,hk,fun _=>hv,fun e=>by rw[hw] at e;cases e⟩
 ·exact⟨undef,hq,(fun e=>by rw[hw] at e;cases e),fun _=>rfl⟩
section
variable {A:Array Bool}{L:Nat}{σa σc:Nat->Value}{h:Heap}
theorem cl_or{i:Nat}{o:Oper}(hc:Cl ops fun j=>Nat.testBit L j=true)(ho:ops[i]? =some o)(hr:∀e∈o.after.toList,Region.binds .any e=true->Nat.testBit L e.on=true):
  Cl ops fun j=>Nat.testBit (L|||2^i) j=true:=by
 intro k o' hk ho' e he hb
 rw[tb]
 rcases(tb L i k).1 hk with hk|rfl
 ·exact .inl (hc k o' hk ho' e he hb)
 ·rw[ho] at ho';injection ho' with ho';subst ho'
  exact .inl (hr e he hb)
theorem Val.put{r d:Nat}{v:Value}(hv:Val P ops r σc h)(hr:nw P ops r=true)
  (hno:∀o',ops[r]? =some o'->¬(d∈o'.looksAt ops\/o'.dst=some d)):Val P ops r (up σc d v) h:=by
 obtain⟨o',d',ho',hd',hk,_,_⟩:=Qmg hr
 have h1:=hno o' ho'
 have e1:∀t∈o'.looksAt ops,σc t=up σc d v t:=fun t ht=>(up_ne (fun e=>h1 (.inl (by rw[<-e];exact ht)))).symm
 intro o2 d2 ho2 hd2
 rw[ho'] at ho2;injection ho2 with ho2;subst ho2
 rw[hd'] at hd2;injection hd2 with hd2;subst hd2
 have e2:up σc d v d'=σc d':=up_ne fun e=>h1 (.inr (by rw[hd',e]))
 rw[<-Qj4 e1,e2]
 obtain⟨a,b⟩:=hv o' d' ho' hd'
 exact⟨fun hw=>(a hw).looks (nwK_sel hk) e1,b⟩
theorem Inv.nwStep{i:Nat}{o:Oper}{K:Kont}(hd:Down ops)(hI:Inv P ops A L σa σc h)(hr:rdy ops L i=true)(hn:nw P ops i=true)(ho:ops[i]? =some o)(hg:runG P ops o σc h K K):
  ∃v,Inv P ops A (L|||2^i) σa (Qm7 σc o.dst v) h/\K (Qm7 σc o.dst v) h:=by
 obtain⟨o',d,ho',hd',hk,hself,hssa⟩:=Qmg hn
 rw[ho] at ho';injection ho' with ho';subst ho'
 obtain⟨v,hK,hv1,hv2⟩:=runG_nw hk hg
 refine⟨v, ?_,hK⟩
 obtain⟨o2,ho2,hni,hed⟩:=Qov.1 hr
 rw[ho] at ho2;injection ho2 with ho2;subst ho2
 rw[hd']
 show Inv P ops A (L|||2^i) σa (up σc d v) h
 refine⟨hI.sizeA,fun j hj=>(tb L i j).2 (.inl (hI.sub j hj)),hI.clA,cl_or hI.clL ho hed,fun j hj=> ?_,fun r hr1 hr2=> ?_,fun t ht=> ?_⟩
 ·rcases(tb L i j).1 hj with h1|rfl
  ·exact hI.bound j h1
  ·exact Qcz ho
 ·rcases(tb L i r).1 hr1 with h1|rfl
  ·obtain⟨ha,hb⟩:=hI.pend r h1 hr2
   refine⟨ha,hb.put ha fun o' ho' hm=> ?_⟩
   have hri:r≠i:=fun e=>by rw[e,hni] at h1;cases h1
   have:=bef_in hd hI.clL i r (hssa r o' ho' hri hm) h1
   rw[hni] at this;cases this
  ·refine⟨hn,fun o2 d2 ho2 hd2=> ?_⟩
   rw[ho] at ho2;injection ho2 with ho2;subst ho2
   rw[hd'] at hd2;injection hd2 with hd2;subst hd2
   have e1:∀t∈o.looksAt ops,σc t=up σc d v t:=fun t ht=>(up_ne (fun e=>hself (by rw[<-e];exact ht))).symm
   rw[<-Qj4 e1,up_eq]
   exact⟨fun hw=>(hv1 hw).looks (nwK_sel hk) e1,hv2⟩
 ·have hAi:A.getD i false=false:=by
   cases e:A.getD i false with
   |true=>rw[hI.sub i e] at hni;cases hni
   |false=>rfl
  have htd:t≠d:=fun e=>ht i ((tb L i i).2 (.inr rfl)) hAi (by simp[QfS,ho,hd',e])
  rw[up_ne htd]
  exact hI.agr t fun r h1 h2=>ht r ((tb L i r).2 (.inl h1)) h2
theorem T_norm{K:Kont}(hd:Down ops):∀(f L:Nat) (σc:Nat->Value),Inv P ops A L σa σc h->T P ops f L K σc h->
  ∃f' L' σc',Inv P ops A L' σa σc' h/\nextNW P ops L'=none/\T P ops (f'+1) L' K σc' h
 |0,L,σc,hI,hT=>hT.elim
 |f+1,L,σc,hI,hT=>by
  cases hn:nextNW P ops L with
  |none=>exact⟨f,L,σc,hI,hn,hT⟩
  |some i=>
   unfold T at hT
   simp only[hn] at hT
   have hf:=List.find?_some hn
   simp only[Bool.and_eq_true] at hf
   cases ho:ops[i]? with
   |none=>rw[ho] at hT;exact hT.elim
   |some o=>
    rw[ho] at hT
    obtain⟨v,hI',hT'⟩:=hI.nwStep hd hf.1 hf.2 ho hT
    exact T_norm hd f _ _ hI' hT'
theorem fin_{K:Kont}{f:Nat}(hI:Inv P ops A L σa σc h)(hd:Down ops)(hn:nextNW P ops L=none)(hT:T P ops (f+1) L K σc h)(hr:Region.ready .any ops A= []):K σa h:=by
 have hp:∀r,Nat.testBit L r=true->A.getD r false=true:=by
  intro r
  induction r using Nat.strongRecOn with
  |_ r ih=>
   intro hL
   cases e:A.getD r false with
   |true=>rfl
   |false=>
    exfalso
    obtain⟨o,ho⟩:∃o,ops[r]? =some o:=⟨ops[r]'(hI.bound r hL),Array.getElem?_eq_getElem (hI.bound r hL)⟩
    have:r∈Region.ready .any ops A:=(QhY hI.sizeA).2 ⟨o,ho,e,fun ed he hb=>ih ed.on (hd r o ho ed he hb) (hI.clL r o hL ho ed he hb)⟩
    rw[hr] at this
    cases this
 have hσ:σa=σc:=funext fun t=>hI.agr t fun r h1 h2=>by rw[hp r h1] at h2;cases h2
 have hf:(List.range ops.size).filter (rdy ops L)= []:=by
  rw[List.filter_eq_nil_iff]
  intro i _ hi
  obtain⟨o,ho,hni,he⟩:=Qov.1 hi
  have hAi:A.getD i false=false:=by
   cases e:A.getD i false with
   |true=>rw[hI.sub i e] at hni;cases hni
   |false=>rfl
  have:i∈Region.ready .any ops A:=(QhY hI.sizeA).2 ⟨o,ho,hAi,fun ed hed hb=>hp _ (he ed hed hb)⟩
  rw[hr] at this
  cases this
 unfold T at hT
 simp only[hn,hf] at hT
 rw[hσ]
 exact hT
theorem allI_mem{f:Nat->Prop}:∀{is:List Nat},allI is f->∀i∈is,f i
 | [],_,i,hi=>by cases hi
 | [j],h,i,hi=>by
  have:i=j:=by simpa using hi
  subst this;exact h
 |j::k::is,h,i,hi=>by
  rcases List.mem_cons.1 hi with rfl|hi
  ·exact h.1
  ·exact allI_mem h.2 i hi
theorem QlX{σ:Nat->Value}{h:Heap}{p:Prop}:∀{rs:List Nat},stabs P ops rs σ h p->(∀r∈rs,stabOp P ops r σ h)/\p
 | [],hp=>⟨fun _ h=>(by cases h),hp⟩
 |r::rs,hp=>⟨fun i hi=>by
   rcases List.mem_cons.1 hi with rfl|hi
   ·exact hp.1
   ·exact(QlX hp.2).1 i hi,(QlX hp.2).2⟩
theorem stab_val{r:Nat}{σ:Nat->Value}{h':Heap}(hr:nw P ops r=true)(hs:stabOp P ops r σ h'){o:Oper}{d:Nat}(ho:ops[r]? =some o)(hd:o.dst=some d)
  (hw:QiA ops o σ=true):Rd P o σ h' (σ d):=by
 obtain⟨o',d',ho',_,hk,_,_⟩:=Qmg hr
 rw[ho] at ho';injection ho' with ho';subst ho'
 have key:(opW P o σ h' fun v _=>v=σ d)->Rd P o σ h' (σ d):=fun hq=>by
  obtain⟨v,rfl,hv⟩:=nw_ans hk hq
  exact hv
 unfold stabOp at hs
 simp only[ho,hd] at hs
 unfold QiA at hw
 cases hg:o.guard with
 |none=>rw[hg] at hs;exact key hs
 |some g=>
  obtain⟨j,want⟩:=g
  rw[hg] at hs hw
  simp only at hs hw
  cases hdj:(ops[j]?).bind (·.dst) with
  |none=>rw[hdj] at hw;cases hw
  |some dg=>
   rw[hdj] at hs hw
   simp only at hs hw
   split at hs
   ·rename_i t ht
    rw[ht] at hw
    simp only[beq_iff_eq] at hw
    rw[if_pos hw] at hs
    exact key hs
   ·rename_i hx
    split at hw
    ·rename_i t ht;exact absurd ht (hx t)
    ·cases hw
theorem Qgq{A:Array Bool}{i j:Nat}(hi:i<A.size):(A.setIfInBounds i true).getD j false=true↔A.getD j false=true\/j=i:=by
 simp only[Array.getD_eq_getD_getElem?]
 by_cases e:i=j
 ·subst e
  rw[Array.getElem?_setIfInBounds_self_of_lt hi]
  simp
 ·rw[Array.getElem?_setIfInBounds_ne e]
  constructor
  ·exact .inl
  ·rintro (h|rfl)
   ·exact h
   ·exact absurd rfl e
theorem Qkn{A:Array Bool}{i j:Nat}(hi:i<A.size)(h:(A.setIfInBounds i true).getD j false=false):A.getD j false=false/\j≠i:=by
 constructor
 ·cases e:A.getD j false with
  |false=>rfl
  |true=>rw[(Qgq hi).2 (.inl e)] at h;cases h
 ·rintro rfl
  rw[(Qgq hi).2 (.inr rfl)] at h;cases h
theorem cl_set{A:Array Bool}{i:Nat}{o:Oper}(hi:i<A.size)(hc:Cl ops fun j=>A.getD j false=true)(ho:ops[i]? =some o)
  (hr:∀e∈o.after.toList,Region.binds .any e=true->A.getD e.on false=true):Cl ops fun j=>(A.setIfInBounds i true).getD j false=true:=by
 intro k o' hk ho' e he hb
 rw[Qgq hi]
 rcases(Qgq hi).1 hk with hk|rfl
 ·exact .inl (hc k o' hk ho' e he hb)
 ·rw[ho] at ho';injection ho' with ho';subst ho'
  exact .inl (hr e he hb)
theorem Inv.looks{i:Nat}{o:Oper}(hd:Down ops)(hI:Inv P ops A L σa σc h)(ho:ops[i]? =some o)(hAi:A.getD i false=false)
  (hed:∀e∈o.after.toList,Region.binds .any e=true->A.getD e.on false=true):∀t∈o.looksAt ops,σa t=σc t:=by
 intro t ht
 refine hI.agr t fun r h1 h2 hr=> ?_
 obtain⟨hn,_⟩:=hI.pend r h1 h2
 obtain⟨o',d,ho',hd',_,hself,hssa⟩:=Qmg hn
 have hdt:d=t:=by simpa [QfS,ho',hd'] using hr
 subst hdt
 by_cases e:i=r
 ·subst e
  rw[ho] at ho';injection ho' with ho';subst ho'
  exact hself ht
 ·have:=bef_rdy hd hI.clA ho hed (hssa i o ho e (.inl ht))
  rw[h2] at this;cases this
theorem Inv.meet{i:Nat}{o:Oper}{d:Nat}(hI:Inv P ops A L σa σc h)(ho:ops[i]? =some o)(hod:o.dst=some d)(hL:Nat.testBit L i=true)
  (hed:∀e∈o.after.toList,Region.binds .any e=true->A.getD e.on false=true):Inv P ops (A.setIfInBounds i true) L (up σa d (σc d)) σc h:=by
 have hi:i<A.size:=by rw[hI.sizeA];exact hI.bound i hL
 refine⟨by simp[hI.sizeA],fun j hj=> ?_,cl_set hi hI.clA ho hed,hI.clL,hI.bound,fun r h1 h2=>hI.pend r h1 (Qkn hi h2).1,fun t ht=> ?_⟩
 ·rcases(Qgq hi).1 hj with hj|rfl
  ·exact hI.sub j hj
  ·exact hL
 ·by_cases e:t=d
  ·subst e;exact up_eq
  ·rw[up_ne e]
   refine hI.agr t fun r h1 h2 hr=> ?_
   by_cases e2:r=i
   ·subst e2
    exact e (by simpa [QfS,ho,hod] using hr.symm)
   ·refine ht r h1 ?_ hr
    cases e3:(A.setIfInBounds i true).getD r false with
    |false=>rfl
    |true=>
     rcases(Qgq hi).1 e3 with e4|e4
     ·rw[e4] at h2;cases h2
     ·exact absurd e4 e2
theorem Inv.write{i:Nat}{o:Oper}{v:Value}{h':Heap}(hchk:chk ops=true)(hI:Inv P ops A L σa σc h)(ho:ops[i]? =some o)(hL:Nat.testBit L i=false)
  (hed:∀e∈o.after.toList,Region.binds .any e=true->A.getD e.on false=true)
  (hval:∀r,Nat.testBit L r=true->nw P ops r=true->bef ops r i=false->Val P ops r σc h->Val P ops r (Qm7 σc o.dst v) h'):
  Inv P ops (A.setIfInBounds i true) (L|||2^i) (Qm7 σa o.dst v) (Qm7 σc o.dst v) h':=by
 have hi:i<A.size:=by rw[hI.sizeA];exact Qcz ho
 have hd:=chk_down hchk
 refine⟨by simp[hI.sizeA],fun j hj=> ?_,cl_set hi hI.clA ho hed,cl_or hI.clL ho fun e he hb=>hI.sub _ (hed e he hb),fun j hj=> ?_,fun r h1 h2=> ?_,fun t ht=> ?_⟩
 ·rw[tb]
  rcases(Qgq hi).1 hj with hj|hj
  ·exact .inl (hI.sub j hj)
  ·exact .inr hj
 ·rcases(tb L i j).1 hj with h1|rfl
  ·exact hI.bound j h1
  ·exact Qcz ho
 ·obtain⟨h3,h4⟩:=Qkn hi h2
  rcases(tb L i r).1 h1 with h1|h1
  ·obtain⟨ha,hb⟩:=hI.pend r h1 h3
   refine⟨ha,hval r h1 ha ?_ hb⟩
   cases e:bef ops r i with
   |false=>rfl
   |true=>have:=bef_rdy hd hI.clA ho hed e;rw[h3] at this;cases this
  ·exact absurd h1 h4
 ·by_cases e:o.dst=some t
  ·rw[e];show up σa t v t=up σc t v t;rw[up_eq,up_eq]
  ·rw[QoA e,QoA e]
   refine hI.agr t fun r h1 h2 hr=>ht r ((tb L i r).2 (.inl h1)) ?_ hr
   cases e3:(A.setIfInBounds i true).getD r false with
   |false=>rfl
   |true=>
    rcases(Qgq hi).1 e3 with e4|e4
    ·rw[e4] at h2;cases h2
    ·rw[e4,hL] at h1;cases h1
def left(A:Array Bool)(n:Nat):Nat:=((List.range n).filter fun i=> !A.getD i false).length
theorem filter_lt{p q:Nat->Bool}{i:Nat}:∀(l:List Nat),(∀x,q x=true->p x=true)->i∈l->p i=true->q i=false->(l.filter q).length<(l.filter p).length
 | [],_,hi,_,_=>by cases hi
 |x::l,hs,hi,hp,hq=>by
  have hle:∀l:List Nat,(l.filter q).length<=(l.filter p).length:=by
   intro l
   induction l with
   |nil=>simp
   |cons y l ih=>
    by_cases h1:q y=true
    ·rw[List.filter_cons_of_pos h1,List.filter_cons_of_pos (hs y h1)];simpa using ih
    ·rw[List.filter_cons_of_neg h1]
     by_cases h2:p y=true
     ·rw[List.filter_cons_of_pos h2];simp only[List.length_cons];omega
     ·rw[List.filter_cons_of_neg h2];exact ih
  rcases List.mem_cons.1 hi with rfl|hi
  ·rw[List.filter_cons_of_neg (by simp[hq]),List.filter_cons_of_pos hp]
   have:=hle l
   simp only[List.length_cons];omega
  ·have ih:=filter_lt l hs hi hp hq
   by_cases h1:q x=true
   ·rw[List.filter_cons_of_pos h1,List.filter_cons_of_pos (hs x h1)];simpa using ih
   ·rw[List.filter_cons_of_neg h1]
    by_cases h2:p x=true
    ·rw[List.filter_cons_of_pos h2];simp only[List.length_cons];omega
    ·rw[List.filter_cons_of_neg h2];exact ih
theorem left_set{i n:Nat}(hi:i<n)(hs:A.size=n)(h:A.getD i false=false):left (A.setIfInBounds i true) n<left A n:=by
 refine filter_lt (i:=i) _ (fun x hx=> ?_) (by simpa using hi) (by simp[h]) ?_
 ·simp only[Bool.not_eq_true'] at hx⊢
  exact(Qkn (by omega) hx).1
 ·have:=(Qgq (A:=A) (i:=i) (j:=i) (by omega)).2 (.inr rfl)
  simp[this]
end
theorem T_any{n:Nat}{w₀:World}{Q:Exit->Act->World->Prop}{K:Kont}{σ₀:Nat->Value}(hchk:chk ops=true)(hn:∀i d,QfS ops i=some d->d<n)
  (hQ:∀σ' a' w',Fr n a' σ'->Env w₀ w'->K σ' w'.heap->Agr (fun t=>∃i,QfS ops i=some t) σ₀ σ'->Q .normal a' w'):
  ∀(fuel:Nat) (A:Array Bool) (L:Nat) (σa σc:Nat->Value) (h:Heap) (a:Act) (w:World) (f:Nat),Inv P ops A L σa σc h->left A ops.size<=fuel->T P ops f L K σc h->
   Fr n a σa->w.heap=h->Env w₀ w->Agr (fun t=>∃i,QfS ops i=some t) σ₀ σa->wpAny P .any ops Q fuel A a w:=by
 have hd:=chk_down hchk
 intro fuel
 induction fuel with
 |zero=>
  intro A L σa σc h a w f hI hl hT hf hw hE hag
  have hr:Region.ready .any ops A= []:=by
   rw[List.eq_nil_iff_forall_not_mem]
   intro i hi
   obtain⟨o,ho,hAi,_⟩:=(QhY hI.sizeA).1 hi
   have:i∈(List.range ops.size).filter fun i=> !A.getD i false:=by
    rw[List.mem_filter];exact⟨by simpa using Qcz ho,by simp[hAi]⟩
   unfold left at hl
   rw[List.eq_nil_of_length_eq_zero (Nat.le_zero.1 hl)] at this
   cases this
  obtain⟨f',L',σc',hI',hn',hT'⟩:=T_norm hd f L σc hI hT
  exact⟨hr,hQ σa a w hf hE (by rw[hw];exact fin_ hI' hd hn' hT' hr) hag⟩
 |succ fuel ih=>
  intro A L σa σc h a w f hI hl hT hf hw hE hag
  obtain⟨f',L',σc',hI',hn',hT'⟩:=T_norm hd f L σc hI hT
  refine⟨fun hr=>hQ σa a w hf hE (by rw[hw];exact fin_ hI' hd hn' hT' hr) hag,fun i hi=> ?_⟩
  obtain⟨o,ho,hAi,hed⟩:=(QhY hI'.sizeA).1 hi
  have hlk:=hI'.looks hd ho hAi hed
  have hil:=Qcz ho
  have hl':=left_set hil hI'.sizeA hAi
  have hag':∀v,Agr (fun t=>∃i,QfS ops i=some t) σ₀ (Qm7 σa o.dst v):=fun v t ht=>by
   rw[QoA fun e=>ht ⟨i,by simp[QfS,ho,e]⟩];exact hag t ht
  have hfp:∀v,Fr n (a.put o.dst v) (Qm7 σa o.dst v):=fun v=>hf.put o.dst (fun d e=>hn i d (by simp[QfS,ho,e])) v
  unfold wpOp
  simp only[ho]
  rw[wanted_eq hf,Qj4 hlk]
  cases hLi:Nat.testBit L' i with
  |true=>
   obtain⟨hnw,hv⟩:=hI'.pend i hLi hAi
   obtain⟨o',d,ho',hod,hk,_,_⟩:=Qmg hnw
   rw[ho] at ho';injection ho' with ho';subst ho'
   obtain⟨hv1,hv2⟩:=hv o d ho hod
   have next:∀w',Env w w'->w'.heap=h->wpAny P .any ops Q fuel (A.setIfInBounds i true) (a.put o.dst (σc' d)) w':=fun w' hE' hw'=>by
    have hm:=hI'.meet ho hod hLi hed
    have h1:=hfp (σc' d)
    have h2:=hag' (σc' d)
    rw[hod] at h1 h2⊢
    exact ih _ _ _ _ _ _ _ (f'+1) hm (by omega) hT' h1 hw' (hE.trans hE') h2
   cases hwt:QiA ops o σc' with
   |true=>
    rw[if_pos rfl]
    refine .inl ?_
    obtain⟨w',hrun,hE',hw'⟩:=(hv1 hwt).1 w hw
    unfold Oper.wp
    rw[hf.eval,Qkp (nwK_sel hk) hlk,hrun]
    exact next w' hE' hw'
   |false=>
    rw[if_neg (by simp)]
    have:=next w (Env.refl w) hw
    rwa[hv2 hwt] at this
  |false=>
   have hrd:rdy ops L' i=true:=Qov.2 ⟨o,ho,hLi,fun e he hb=>hI'.sub _ (hed e he hb)⟩
   have hmem:i∈(List.range ops.size).filter (rdy ops L'):=List.mem_filter.2 ⟨by simpa using hil,hrd⟩
   have hall:runG P ops o σc' h (fun σ' h'=>stabs P ops (again P ops L' i) σ' h' (T P ops f' (L'|||2^i) K σ' h')) (T P ops f' (L'|||2^i) K):=by
    have h0:=hT'
    unfold T at h0
    simp only[hn'] at h0
    cases hfl:(List.range ops.size).filter (rdy ops L') with
    |nil=>rw[hfl] at hmem;cases hmem
    |cons x xs=>
     rw[hfl] at h0
     have:=allI_mem h0 i (by rw[<-hfl];exact hmem)
     simpa only[ho] using this
   have hno:∀r,Nat.testBit L' r=true->nw P ops r=true->bef ops r i=false->∀d,o.dst=some d->∀o',ops[r]? =some o'->¬(d∈o'.looksAt ops\/o'.dst=some d):=by
    intro r hr _ hb d hod o' ho' hm
    have hri:r≠i:=fun e=>by rw[e,hLi] at hr;cases hr
    rcases chk_slots hchk ho hod ho' hri hm with h1|h1
    ·have:=bef_in hd hI'.clL i r h1 hr
     rw[hLi] at this;cases this
    ·rw[hb] at h1;cases h1
   have hkeep:∀v r,Nat.testBit L' r=true->nw P ops r=true->bef ops r i=false->Val P ops r σc' h->Val P ops r (Qm7 σc' o.dst v) h:=by
    intro v r h1 h2 h3 h4
    cases hod:o.dst with
    |none=>exact h4
    |some d=>exact h4.put h2 (hno r h1 h2 h3 d hod)
   rcases Qka hall with⟨hwt,hq⟩|⟨hwt,hq⟩
   ·rw[hwt,if_pos rfl]
    refine .inl ?_
    unfold Oper.wp
    rw[hf.eval,Qkp (opW_sel hq) hlk]
    refine upon_done (opW_done hq w hw) fun v w' hE' hK=> ?_
    obtain⟨hst,hT2⟩:=QlX hK
    refine ih _ _ _ _ _ _ _ f' (hI'.write (v:=v) hchk ho hLi hed fun r h1 h2 h3 h4=> ?_) (by omega) hT2 (hfp v) rfl (hE.trans hE') (hag' v)
    have h5:=hkeep v r h1 h2 h3 h4
    intro o2 d2 ho2 hd2
    obtain⟨h6,h7⟩:=h5 o2 d2 ho2 hd2
    refine⟨fun hw2=> ?_,h7⟩
    cases hns:ns P o2 with
    |false=>exact⟨(h6 hw2).2 hns w'.heap,(h6 hw2).2⟩
    |true=>
     refine stab_val h2 (hst r ?_) ho2 hd2 hw2
     unfold again
     rw[List.mem_filter]
     refine⟨by simpa using hI'.bound r h1, ?_⟩
     simp[h1,h2,h3,nsI,ho2,hns]
   ·rw[hwt,if_neg (by simp)]
    exact ih _ _ _ _ _ _ _ f' (hI'.write (v:=undef) hchk ho hLi hed fun r h1 h2 h3 h4=>hkeep undef r h1 h2 h3 h4) (by omega) hq (hfp undef) hw hE (hag' undef)
theorem T_sound{n:Nat}{w₀:World}{Q:Exit->Act->World->Prop}{K:Kont}{σ:Nat->Value}{h:Heap}{a:Act}{w:World}{id:Nat}{f:Nat}(hm:P.follows .mixedOrders=true)(hchk:chk ops=true)
  (hn:∀i d,QfS ops i=some d->d<n) (hT:T P ops f 0 K σ h) (hf:Fr n a σ) (hw:w.heap=h) (hE:Env w₀ w)
  (hQ:∀σ' a' w',Fr n a' σ'->Env w₀ w'->K σ' w'.heap->Agr (fun t=>∃i,QfS ops i=some t) σ σ'->Q .normal a' w'):(Code.region id ops true).wp P Q a w:=by
 refine wp_region_any hm ?_
 have h0:∀i,(Array.replicate ops.size false).getD i false=false:=fun i=>by
  rw[Array.getD_eq_getD_getElem?,Array.getElem?_replicate]
  split<;>rfl
 refine T_any hchk hn hQ ops.size _ 0 σ σ h a _ f ⟨by simp,fun i hi=> ?_,fun k o hk=> ?_,fun k o hk=> ?_,fun i hi=> ?_,fun r hr=> ?_,fun _ _=>rfl⟩ ?_ hT hf hw ⟨hE.os,hE.tape,hE.output⟩ (fun _ _=>rfl)
 ·rw[h0] at hi;cases hi
 ·have hk':(Array.replicate ops.size false).getD k false=true:=hk
  rw[h0] at hk';cases hk'
 ·simp at hk
 ·simp at hi
 ·simp at hr
 ·unfold left
  exact Nat.le_trans (List.length_filter_le _ _) (by simp)
end
section
open Go
def memN:List Nat->Nat->Bool
 | [],_=>false
 |d::l,t=>cond (Nat.beq t d) true (memN l t)
theorem memN_iff (l : List Nat) (t : Nat) : memN l t = true ↔ t ∈ l := by
  induction l with
  | nil => simp [memN]
  | cons d l ih =>
    unfold memN
    cases e : Nat.beq t d with
    | true => have : t = d := Nat.eq_of_beq_eq_true e
              simp [this]
    | false =>
      have : t ≠ d := fun x => by rw [x] at e; simp at e
      simp [ih, this]
def mix(m:List Nat)(τ σ:Nat->Value):Nat->Value:=fun t=>cond (memN m t) (τ t) (σ t)
theorem mix_agr{m:List Nat}{σ σ':Nat->Value}(h:Agr (· ∈m) σ σ'):mix m σ' σ=σ':=by
 funext t
 unfold mix
 cases e:memN m t with
 |true=>rfl
 |false=>exact(h t fun hm=>by rw[(memN_iff m t).2 hm] at e;cases e).symm
abbrev Slots:=List (Nat×Sh)
def Slots.sh(sl:Slots):List Sh:=sl.map (·.2)
def getS:(sl:Slots)->(Nat->Value)->(HL sl.sh->Prop)->Prop
 | [],_,K=>K ()
 |(d,s)::sl,σ,K=>s.get (σ d) fun x=>getS sl σ fun y=>K (x,y)
def setS:(sl:Slots)->(Nat->Value)->HL sl.sh->Nat->Value
 | [],σ,_=>σ
 |(d,s)::sl,σ,x=>up (setS sl σ x.2) d (s.mk x.1)
theorem Qjo:∀(sl:Slots) (σ:Nat->Value) (K:HL sl.sh->Prop),getS sl σ K->∃x,K x/\setS sl σ x=σ
 | [],_,_,h=>⟨(),h,rfl⟩
 |(d,s)::sl,σ,K,h=>by
  obtain⟨x,e1,h1⟩:=s.get_spec _ _ h
  obtain⟨y,h2,e2⟩:=Qjo sl σ _ h1
  refine⟨(x,y),h2, ?_⟩
  show up (setS sl σ y) d (s.mk x)=σ
  rw[e2,<-e1,up_self]
def Qf9(ss:List Sh)(body:(Nat->Value)->TH (Heap->TH (Heap->Prop) ss->Prop) ss)(x₀:HL ss)(h₀:Heap):Prop:=
 ∃(I:TH (Heap->Prop) ss) (μ:TH (Heap->Nat) ss),TH.un ss I x₀ h₀/\
  ∀τ x h,TH.un ss I x h->TH.un ss (body τ) x h (TH.cu ss fun x' h'=>TH.un ss I x' h'/\TH.un ss μ x' h'<TH.un ss μ x h)
def Qie(ss:List Sh)(rest:(Nat->Value)->TH (Heap->Prop) ss)(body:TH (Heap->Prop) ss->Prop):Prop:=
 ∃J:TH (Heap->Prop) ss,(∀τ x h,TH.un ss J x h->TH.un ss (rest τ) x h)/\body J
def annOf:List (Nat×Slots)->Nat->Option Slots
 | [],_=>none
 |(q,sl)::l,p=>cond (Nat.beq p q) (some sl) (annOf l p)
def lookE:List (Nat×Kont)->Nat->Kont
 | [],_=>fun _ _=>False
 |(i,K)::E,id=>cond (Nat.beq id i) K (lookE E id)
def Qkh:Code->List Nat
 | .region _ ops _=>ops.toList.filterMap (·.dst)
 | .seq a b=>Qkh a++Qkh b
 | .cond _ a b=>Qkh a++Qkh b
 | .block _ c=>Qkh c
 | .loop c=>Qkh c
 |_=> []
def joinW(an:Option Slots)(m:List Nat)(K:Kont)(σ:Nat->Value)(body:Kont->Prop):Prop:=
 match an with
 |none=>body K
 |some sl=>Qie sl.sh (fun τ=>TH.cu sl.sh fun x=>fun h=>K (setS sl (mix m τ σ) x) h) fun J=>body fun σ' h'=>getS sl σ' fun x=>TH.un sl.sh J x h'
section
variable (P:Program) (an:List (Nat×Slots))
def V:Code->Nat->List (Nat×Kont)->Kont->Kont->Kont
 | .skip,_,_,_,K=>K
 | .label _,_,_,_,K=>K
 | .region _ ops draw,p,_,_,K=>fun σ h=>joinW (annOf an p) (ops.toList.filterMap (·.dst)) K σ fun K'=>
  cond draw (cond (chk ops) (T P ops (ops.size+1) 0 K' σ h) False) (X P ops ops.toList K' σ h)
 | .seq a b,p,E,R,K=>V a (2*p) E R (V b (2*p+1) E R K)
 | .cond c a b,p,E,R,K=>fun σ h=>joinW (annOf an p) (Qkh a++Qkh b) K σ fun K'=>match evS σ c with
  | .bool t=>cond t (V a (2*p) E R K' σ h) (V b (2*p+1) E R K' σ h)
  |_=>False
 | .block id c,p,E,R,K=>fun σ h=>joinW (annOf an p) (Qkh c) K σ fun K'=>V c (2*p) ((id,K')::E) R K' σ h
 | .loop c,p,E,R,_=>fun σ h=>match annOf an p with
  |none=>False
  |some sl=>getS sl σ fun x₀=>Qf9 sl.sh (fun τ=>TH.cu sl.sh fun x=>fun h rec=>V c (2*p) E R (fun σ' h'=>getS sl σ' fun x'=>TH.un sl.sh rec x' h') (setS sl (mix (Qkh c) τ σ) x) h) x₀ h
 | .exit id,_,E,_,_=>lookE E id
 | .ret,_,_,R,_=>R
 |_,_,_,_,_=>fun _ _=>False
def Post(n:Nat)(w₀:World)(E:List (Nat×Kont))(R K:Kont)(m:List Nat)(σ:Nat->Value):Exit->Act->World->Prop
 | .normal,a,w=>Env w₀ w/\∃σ',Fr n a σ'/\K σ' w.heap/\Agr (· ∈m) σ σ'
 | .exit id,a,w=>Env w₀ w/\∃σ',Fr n a σ'/\lookE E id σ' w.heap/\Agr (· ∈m) σ σ'
 | .ret,a,w=>Env w₀ w/\∃σ',Fr n a σ'/\R σ' w.heap
 |_,_,_=>False
theorem Agr.trans{m m':Nat->Prop}{a b c:Nat->Value}(h:Agr m a b)(k:Agr m' b c):Agr (fun t=>m t\/m' t) a c:=
 fun t ht=>(k t fun x=>ht (.inr x)).trans (h t fun x=>ht (.inl x))
theorem Agr.mono{m m':Nat->Prop}{a b:Nat->Value}(h:Agr m a b)(hm:∀t,m t->m' t):Agr m' a b:=fun t ht=>h t fun x=>ht (hm t x)
variable {P an}
theorem Qkl{n:Nat}{w₀:World}{E:List (Nat×Kont)}{R K:Kont}{m:List Nat}{σ:Nat->Value}{ann:Option Slots}{body:Kont->Prop}{G:(Kont->Prop)->Prop}
  (hj:joinW ann m K σ body) (hb:∀K',body K'->(∀e a w,Post n w₀ E R K' m σ e a w->Post n w₀ E R K m σ e a w)->G body):G body:=by
 unfold joinW at hj
 split at hj
 ·exact hb K hj fun _ _ _ h=>h
 ·rename_i sl
  obtain⟨J,hJ,hbody⟩:=hj
  refine hb _ hbody fun e a w hp=> ?_
  cases e with
  |normal=>
   obtain⟨hE,σ',hf,hk,hag⟩:=hp
   obtain⟨x,hx,hs⟩:=Qjo sl σ' _ hk
   have:=hJ σ' x _ hx
   rw[TH.un_cu,mix_agr hag,hs] at this
   exact⟨hE,σ',hf,this,hag⟩
  |exit id=>exact hp
  |ret=>exact hp
  |_=>exact hp
theorem V_sound{n:Nat}{w₀:World}(hm:P.follows .mixedOrders=true):∀(c:Code) (p:Nat) (E:List (Nat×Kont)) (R K:Kont) (σ:Nat->Value) (h:Heap) (a:Act) (w:World),
  V P an c p E R K σ h->Fr n a σ->w.heap=h->Env w₀ w->(∀d∈Qkh c,d<n)->c.wp P (Post n w₀ E R K (Qkh c) σ) a w:=by
 intro c
 induction c with
 |skip=>intro p E R K σ h a w hv hf hw hE _;exact wp_skip ⟨hE,σ,hf,by rw[hw];exact hv,fun _ _=>rfl⟩
 |label l=>intro p E R K σ h a w hv hf hw hE _;exact wp_label ⟨hE,σ,hf,by rw[hw];exact hv,fun _ _=>rfl⟩
 |ret=>intro p E R K σ h a w hv hf hw hE _;exact wp_ret ⟨hE,σ,hf,by rw[hw];exact hv⟩
 |exit id=>intro p E R K σ h a w hv hf hw hE _;exact wp_exit ⟨hE,σ,hf,by rw[hw];exact hv,fun _ _=>rfl⟩
 |goto l=>intro p E R K σ h a w hv;exact hv.elim
 |refuse s=>intro p E R K σ h a w hv;exact hv.elim
 |scope c=>intro p E R K σ h a w hv;exact hv.elim
 |rangeFunc f ps x y=>intro p E R K σ h a w hv;exact hv.elim
 |region id ops draw=>
  intro p E R K σ h a w hv hf hw hE hd
  have hdn:∀i d,QfS ops i=some d->d∈Qkh (.region id ops draw):=fun i d hi=>by
   obtain⟨o,ho,hod⟩:=Option.bind_eq_some_iff.1 hi
   have:o∈ops.toList:=by rw[Array.mem_toList_iff];exact Array.mem_of_getElem? ho
   exact List.mem_filterMap.2 ⟨o,this,hod⟩
  simp only[V] at hv
  refine Qkl (n:=n) (w₀:=w₀) (E:=E) (R:=R) (G:=fun _=>Code.wp P (.region id ops draw) (Post n w₀ E R K (Qkh (.region id ops draw)) σ) a w) hv fun K' hb hk=> ?_
  refine wp_mono (Q:=Post n w₀ E R K' (Qkh (.region id ops draw)) σ) ?_ hk
  cases draw with
  |true=>
   simp only[cond_true] at hb
   cases hc:chk ops with
   |false=>rw[hc] at hb;exact hb.elim
   |true=>
    rw[hc] at hb
    refine T_sound hm hc (fun i d hi=>hd d (hdn i d hi)) hb hf hw hE fun σ' a' w' hf' hE' hK hag=> ?_
    exact⟨hE',σ',hf',hK,hag.mono fun t ⟨i,hi⟩=>hdn i t hi⟩
  |false=>
   simp only[cond_false] at hb
   refine wp_region_list (X_sound ops.toList σ h a w hb hf hw hE (fun o ho d hod=>hd d (List.mem_filterMap.2 ⟨o,ho,hod⟩)) fun σ' a' w' hf' hE' hK hag=> ?_)
   exact⟨hE',σ',hf',hK,hag.mono fun t ⟨o,ho,hod⟩=>List.mem_filterMap.2 ⟨o,ho,hod⟩⟩
 |seq x y ihx ihy=>
  intro p E R K σ h a w hv hf hw hE hd
  refine wp_seq (wp_mono (ihx (2*p) E R (V P an y (2*p+1) E R K) σ h a w hv hf hw hE fun d hx=>hd d (List.mem_append_left _ hx)) fun e a' w' hp=> ?_)
  cases e with
  |normal=>
   obtain⟨hE',σ',hf',hk,hag⟩:=hp
   refine wp_mono (ihy (2*p+1) E R K σ' _ a' w' hk hf' rfl hE' fun d hx=>hd d (List.mem_append_right _ hx)) fun e2 a2 w2 hp2=> ?_
   cases e2 with
   |normal=>
    obtain⟨hE2,σ2,hf2,hk2,hag2⟩:=hp2
    exact⟨hE2,σ2,hf2,hk2,(hag.trans hag2).mono fun t ht=>List.mem_append.2 ht⟩
   |exit id=>
    obtain⟨hE2,σ2,hf2,hk2,hag2⟩:=hp2
    exact⟨hE2,σ2,hf2,hk2,(hag.trans hag2).mono fun t ht=>List.mem_append.2 ht⟩
   |ret=>exact hp2
   |_=>exact hp2.elim
  |exit id=>
   obtain⟨hE',σ',hf',hk,hag⟩:=hp
   exact⟨hE',σ',hf',hk,hag.mono fun t ht=>List.mem_append_left _ ht⟩
  |ret=>exact hp
  |_=>exact hp.elim
 |cond c x y ihx ihy=>
  intro p E R K σ h a w hv hf hw hE hd
  simp only[V] at hv
  refine Qkl (n:=n) (w₀:=w₀) (E:=E) (R:=R) (G:=fun _=>Code.wp P (.cond c x y) (Post n w₀ E R K (Qkh x++Qkh y) σ) a w) hv fun K' hb hk=> ?_
  refine wp_mono (Q:=Post n w₀ E R K' (Qkh x++Qkh y) σ) ?_ hk
  split at hb
  ·rename_i t ht
   refine wp_cond (t:=t) (by rw[hf.eval];exact ht) ?_
   have mono:∀(m:List Nat),(∀d∈m,d∈Qkh x++Qkh y)->∀e a w,Post n w₀ E R K' m σ e a w->Post n w₀ E R K' (Qkh x++Qkh y) σ e a w:=fun m hmm e a w hp=>by
    cases e with
    |normal=>obtain⟨h1,h2,h3,h4,h5⟩:=hp;exact⟨h1,h2,h3,h4,h5.mono hmm⟩
    |exit id=>obtain⟨h1,h2,h3,h4,h5⟩:=hp;exact⟨h1,h2,h3,h4,h5.mono hmm⟩
    |ret=>exact hp
    |_=>exact hp.elim
   cases t with
   |true=>exact wp_mono (ihx _ E R K' σ h a w hb hf hw hE fun d hx=>hd d (List.mem_append_left _ hx)) (mono _ fun d hx=>List.mem_append_left _ hx)
   |false=>exact wp_mono (ihy _ E R K' σ h a w hb hf hw hE fun d hx=>hd d (List.mem_append_right _ hx)) (mono _ fun d hx=>List.mem_append_right _ hx)
  ·exact hb.elim
 |block id c ih=>
  intro p E R K σ h a w hv hf hw hE hd
  simp only[V] at hv
  refine Qkl (n:=n) (w₀:=w₀) (E:=E) (R:=R) (G:=fun _=>Code.wp P (.block id c) (Post n w₀ E R K (Qkh c) σ) a w) hv fun K' hb hk=> ?_
  refine wp_mono (Q:=Post n w₀ E R K' (Qkh c) σ) ?_ hk
  refine wp_block (wp_mono (ih _ ((id,K')::E) R K' σ h a w hb hf hw hE hd) fun e a' w' hp=> ?_)
  cases e with
  |normal=>exact hp
  |exit id'=>
   obtain⟨hE',σ',hf',hk',hag⟩:=hp
   simp only[Exit.inBlock]
   by_cases e:id'=id
   ·subst e
    rw[if_pos rfl]
    have e1:Nat.beq id' id'=true:=by simp
    simp only[lookE,e1,cond_true] at hk'
    exact⟨hE',σ',hf',hk',hag⟩
   ·rw[if_neg e]
    simp only[lookE,beq_ff e,cond_false] at hk'
    exact⟨hE',σ',hf',hk',hag⟩
  |ret=>exact hp
  |_=>exact hp.elim
 |loop c ih=>
  intro p E R K σ h a w hv hf hw hE hd
  simp only[V] at hv
  split at hv
  ·exact hv.elim
  ·rename_i sl _
   obtain⟨x₀,⟨I,μ,h0,hround⟩,hs0⟩:=Qjo sl σ _ hv
   subst hw
   let J:Nat->Act->World->Prop:=fun k a w=>Env w₀ w/\∃σ' x,Fr n a σ'/\Agr (· ∈Qkh c) σ σ'/\setS sl σ' x=σ'/\TH.un sl.sh I x w.heap/\TH.un sl.sh μ x w.heap=k
   refine wp_loop_ghost J _ ⟨hE,σ,x₀,hf,fun _ _=>rfl,hs0,h0,rfl⟩ fun k a w hJ=> ?_
   obtain⟨hE',σ',x,hf',hag,hs,hI,hμ⟩:=hJ
   have hb:=hround σ' x _ hI
   rw[TH.un_cu,mix_agr hag,hs] at hb
   refine wp_mono (ih _ E R _ σ' _ a w hb hf' rfl hE' hd) fun e a2 w2 hp=> ?_
   cases e with
   |normal=>
    obtain⟨hE2,σ2,hf2,hk2,hag2⟩:=hp
    obtain⟨x2,hx2,hs2⟩:=Qjo sl σ2 _ hk2
    rw[TH.un_cu] at hx2
    exact⟨_,by rw[<-hμ];exact hx2.2,hE2,σ2,x2,hf2,(hag.trans hag2).mono fun t ht=>ht.elim (fun x=>x) fun x=>x,hs2,hx2.1,rfl⟩
   |exit id=>
    obtain⟨hE2,σ2,hf2,hk2,hag2⟩:=hp
    exact⟨hE2,σ2,hf2,hk2,(hag.trans hag2).mono fun t ht=>ht.elim (fun x=>x) fun x=>x⟩
   |ret=>exact hp
   |_=>exact hp.elim
end
def getR:(ss:List Sh)->List Value->(HL ss->Prop)->Prop
 | [],[],K=>K ()
 |s::ss,v::vs,K=>s.get v fun x=>getR ss vs fun y=>K (x,y)
 |_,_,_=>False
theorem Qmt:∀(ss:List Sh) (vs:List Value) (K:HL ss->Prop),getR ss vs K->∃x,vs=HL.vals ss x/\K x
 | [],[],_,h=>⟨(),rfl,h⟩
 | [],_::_,_,h=>h.elim
 |_::_,[],_,h=>h.elim
 |s::ss,v::vs,K,h=>by
  obtain⟨x,e1,h1⟩:=s.get_spec _ _ h
  obtain⟨y,e2,h2⟩:=Qmt ss vs _ h1
  exact⟨(x,y),by rw[e1,e2];rfl,h2⟩
def QlR:List ResultVar->Option (List Nat)
 | []=>some []
 | .tmp t::rs=>(QlR rs).map (t:: ·)
 |_::_=>none
def argS(args:List Value):Nat->Value:=fun t=>args.getD t undef
def VF(P:Program)(an:List (Nat×Slots))(fn:Func)(args:List Value)(h:Heap)(ss:List Sh)(R:TH (Heap->Prop) ss):Prop:=
 match fn.body with
 |none=>False
 |some c=>match QlR fn.results.toList with
  |none=>False
  |some rs=>
   let K:Kont:=fun σ h'=>getR ss (rs.map σ) fun x=>TH.un ss R x h'
   V P an c 1 [] K K (argS args) h
def resF(tmps:Array Value):ResultVar->Sem Value
 | .tmp t=>pure (tmps.getD t undef)
 | .cell a t=>do loadVar t (<-asAddr (tmps.getD a undef))
theorem QnI(fn:Func)(tmps:Array Value):results fn tmps=(do
  let vs<-fn.results.mapM (resF tmps)
  pure (if h:vs.size=1 then vs[0] else .tuple vs)):=by
 unfold results
 congr 1
theorem mapM_tmps{tmps:Array Value}{σ:Nat->Value}(hσ:∀t,tmps.getD t undef=σ t){P:Program}(w:World):∀(l:List ResultVar) (rs:List Nat),QlR l=some rs->
  (l.mapM (resF tmps)).run P w= .ok (rs.map σ) w
 | [],rs,h=>by simp only[QlR,Option.some.injEq] at h;subst h;simp
 | .cell a t::l,rs,h=>by simp[QlR] at h
 | .tmp t::l,rs,h=>by
  simp only[QlR,Option.map_eq_some_iff] at h
  obtain⟨rs',h',rfl⟩:=h
  simp only[List.mapM_cons,Sem.run_bind,mapM_tmps hσ w l rs' h',resF,Sem.run_pure,Result.andThen_ok,List.map_cons,hσ]
theorem results_vals{fn:Func}{rs:List Nat}(hrs:QlR fn.results.toList=some rs){tmps:Array Value}{σ:Nat->Value}(hσ:∀t,tmps.getD t undef=σ t){P:Program}(w:World){ss:List Sh}{x:HL ss}
  (hx:rs.map σ=HL.vals ss x):(results fn tmps).run P w= .ok (retV ss x) w:=by
 have h1:(fn.results.mapM (resF tmps)).run P w= .ok (rs.map σ).toArray w:=by
  have e:fn.results=fn.results.toList.toArray:=rfl
  rw[e,List.mapM_toArray,Sem.run_map,mapM_tmps hσ w _ rs hrs]
  rfl
 rw[QnI,Sem.run_bind,h1,hx]
 match ss,x with
 | [],_=>rfl
 | [s],x=>rfl
 |s::t::ss,x=>
  simp only[Result.andThen_ok]
  rw[dif_neg (by simp[HL.vals])]
  rfl
theorem argS_at(args:List Value)(n t:Nat):((⟨args⟩:Array Value)++Array.replicate n undef).getD t undef=argS args t:=by
 unfold argS
 rw[Array.getD_eq_getD_getElem?,List.getD_eq_getElem?_getD]
 by_cases h:t<args.length
 ·rw[Array.getElem?_append_left (by simpa using h)];simp
 ·rw[Array.getElem?_append_right (by simpa using h),Array.getElem?_replicate,List.getElem?_eq_none (by omega)]
  split<;>rfl
def QkZ(fn:Func)(k:Nat):Bool:=
 match fn.body with
 |none=>false
 |some c=>(Qkh c).all (fun d=>decide (d<fn.ntmps))&&decide (k<=fn.ntmps)
theorem VF_sound{P:Program}{an:List (Nat×Slots)}{f:FuncId}{fn:Func}{args:List Value}{h:Heap}{ss:List Sh}{R:TH (Heap->Prop) ss}(hm:P.follows .mixedOrders=true)(hf:P.funcs[f]? =some fn)
  (hok:QkZ fn args.length=true) (hv:VF P an fn args h ss R):CallR P f args h ss R:=by
 intro w hw
 unfold VF at hv
 split at hv
 ·exact hv.elim
 ·rename_i c hc
  split at hv
  ·exact hv.elim
  ·rename_i rs hrs
   simp only[QkZ,hc,Bool.and_eq_true,List.all_eq_true,decide_eq_true_eq] at hok
   refine calls_of_wp hf hc (wp_mono (V_sound (n:=fn.ntmps) (w₀:=w) hm c 1 [] _ _ (argS args) h _ w hv ⟨?_,rfl,fun t=>argS_at args _ t⟩ hw (Env.refl w) hok.1) fun e a' w' hp=> ?_)
   ·have:=hok.2
    simp;omega
   have fin:∀σ',Fr fn.ntmps a' σ'->(getR ss (rs.map σ') fun x=>TH.un ss R x w'.heap)->Env w w'->a'.defers= []/\∃v,(results fn a'.tmps).run P w'= .ok v w'/\(Env w w'/\∃x,Ending.returned v= .returned (retV ss x)/\TH.un ss R x w'.heap):=fun σ' hfr hr hE=>by
    obtain⟨x,e1,h1⟩:=Qmt ss _ _ hr
    exact⟨hfr.defers,_,results_vals hrs hfr.at_ w' e1,hE,x,rfl,h1⟩
   cases e with
   |normal=>obtain⟨hE,σ',hfr,hk,_⟩:=hp;exact fin σ' hfr hk hE
   |ret=>obtain⟨hE,σ',hfr,hk⟩:=hp;exact fin σ' hfr hk hE
   |exit id=>obtain⟨_,σ',_,hk,_⟩:=hp;exact hk.elim
   |_=>exact hp.elim
def Let{α:Type}(x:α)(K:α->Prop):Prop:=K x
def QaG(h:Heap)(o:Obj)(K:Addr->Heap->Prop):Prop:=K ⟨h.size,0,none⟩ (h.push o)
def App(P:Program)(t ty:TypeId)(s x:Sl)(h:Heap)(K:Sl->Heap->Prop):Prop:=OpT P (Builtin.append_ #[t,t] ty #[.slice s.a s.n s.c,.slice x.a x.n x.c]) h [.one .sl] K
def Cut(P:Program)(t:TypeId)(s:Sl)(lo hi mx:Option Value)(K:Sl->Prop):Prop:=OpP P (Instr.sliceAt t (.slice s.a s.n s.c) lo hi mx) [.one .sl] K
def CutS(P:Program)(t:TypeId)(s:ByteArray)(lo hi:Option Value)(K:ByteArray->Prop):Prop:=OpP P (Instr.sliceAt t (.string s) lo hi none) [.one .str] K
def ToS(P:Program)(t u:TypeId)(s:Sl)(h:Heap)(K:ByteArray->Prop):Prop:=OpV P (convert t u (.slice s.a s.n s.c)) h [.one .str] K
def QdH(op:BinOp)(k:IntKind)(x y:Int):Int:=
 k.wrap (match op with
  | .and=>BitVec.ofInt k.bits x&&&BitVec.ofInt k.bits y
  | .or=>BitVec.ofInt k.bits x|||BitVec.ofInt k.bits y
  | .xor=>BitVec.ofInt k.bits x^^^BitVec.ofInt k.bits y
  |_=>BitVec.ofInt k.bits x&&& ~~~ BitVec.ofInt k.bits y).toNat
def zc(P:Program)(t:TypeId):Array Value:=
 match(P.info? t).bind (·.zero) with
 |some v=>v.cells
 |none=> #[]
end
section
open Go
structure Upd(F:Nat->Prop)(h h':Heap):Prop where
 size:h.size<=h'.size
 keep:∀k,k<h.size->¬F k->h'[k]? =h[k]?
theorem Upd.refl(F:Nat->Prop)(h:Heap):Upd F h h:=⟨Nat.le_refl _,fun _ _ _=>rfl⟩
theorem Upd.trans{F G H:Nat->Prop}{a b c:Heap}(h1:Upd F a b)(h2:Upd G b c)(hf:∀k,k<a.size->F k->H k)(hg:∀k,k<a.size->G k->H k):Upd H a c:=
 ⟨Nat.le_trans h1.size h2.size,fun k hk hn=>by
  rw[h2.keep k (Nat.lt_of_lt_of_le hk h1.size) fun x=>hn (hg k hk x),h1.keep k hk fun x=>hn (hf k hk x)]⟩
theorem Upd.mono{F G:Nat->Prop}{a b:Heap}(h:Upd F a b)(hf:∀k,k<a.size->F k->G k):Upd G a b:=⟨h.size,fun k hk hn=>h.keep k hk fun x=>hn (hf k hk x)⟩
def Ext(B:Nat)(h h':Heap):Prop:=h.size<=h'.size/\∀k,k<B->h'[k]? =h[k]?
theorem Ext.refl(B:Nat)(h:Heap):Ext B h h:=⟨Nat.le_refl _,fun _ _=>rfl⟩
theorem Ext.trans{B:Nat}{a b c:Heap}(h1:Ext B a b)(h2:Ext B b c):Ext B a c:=⟨Nat.le_trans h1.1 h2.1,fun k hk=>(h2.2 k hk).trans (h1.2 k hk)⟩
theorem Ext.mono{B B':Nat}{a b:Heap}(h:Ext B a b)(hB:B'<=B):Ext B' a b:=⟨h.1,fun k hk=>h.2 k (Nat.lt_of_lt_of_le hk hB)⟩
theorem Upd.ext{F:Nat->Prop}{a b:Heap}{B:Nat}(h:Upd F a b)(hB:B<=a.size)(hf:∀k,k<B->¬F k):Ext B a b:=⟨h.size,fun k hk=>h.keep k (Nat.lt_of_lt_of_le hk hB) (hf k hk)⟩
theorem Ext.upd{a b:Heap}(h:Ext a.size a b)(F:Nat->Prop):Upd F a b:=⟨h.1,fun k hk _=>h.2 k hk⟩
theorem ext_push(h:Heap)(o:Obj){B:Nat}(hB:B<=h.size):Ext B h (h.push o):=⟨by simp,fun k hk=>by rw[Array.getElem?_push,if_neg (by omega)]⟩
theorem setH_get(h:Heap)(a:Addr)(v:Value){k:Nat}(hk:k≠a.block):(setH h a v)[k]? =h[k]? :=by
 show(((mkW h).setCell a v).heap)[k]? =h[k]?
 simp only[World.setCell,Array.getElem?_modify]
 rw[if_neg (fun e=>hk e.symm)]
 rfl
theorem Qd7(h:Heap)(a:Addr)(v:Value):(setH h a v).size=h.size:=by
 show(((mkW h).setCell a v).heap).size=h.size
 simp[World.setCell,mkW]
theorem cellH_eq{h h':Heap}{a:Addr}(e:h'[a.block]? =h[a.block]?):Qed h' a=Qed h a:=by
 show(mkW h').cell? a=(mkW h).cell? a
 simp[World.cell?,mkW,e]
theorem frozenH_eq{h h':Heap}{a:Addr}(e:h'[a.block]? =h[a.block]?):Qdc h' a=Qdc h a:=by
 show(mkW h').frozen? a=(mkW h).frozen? a
 simp[World.frozen?,mkW,e]
theorem Qki{h:Heap}{a:Addr}{v:Value}(hc:Qed h a=some v):a.block<h.size:=by
 rcases Nat.lt_or_ge a.block h.size with h1|h1
 ·exact h1
 ·have e:h[a.block]? =none:=Array.getElem?_eq_none h1
  have:Qed h a=none:=by show(mkW h).cell? a=none;simp[World.cell?,mkW,e]
  rw[this] at hc;cases hc
theorem Upd.ext1{a b:Heap}{p B:Nat}(h:Upd (· =p) a b)(hp:B<=p)(hB:B<=a.size):Ext B a b:=h.ext hB fun k hk e=>by omega
def Blk(h:Heap)(b:Nat)(t:TypeId)(cs:List Value):Prop:=∃fz,h[b]? =some (.cells cs.toArray t fz)/\(fz=(0,0)\/fz=(cs.length,cs.length+1))
theorem Blk.lt{h:Heap}{b:Nat}{t:TypeId}{cs:List Value}(hb:Blk h b t cs):b<h.size:=by
 obtain⟨fz,e,_⟩:=hb
 exact(Array.getElem?_eq_some_iff.1 e).1
theorem Blk.cell{h:Heap}{b:Nat}{t:TypeId}{cs:List Value}(hb:Blk h b t cs)(i:Nat):Qed h ⟨b,i,none⟩=cs[i]? :=by
 obtain⟨fz,e,_⟩:=hb
 show(mkW h).cell? ⟨b,i,none⟩=cs[i]?
 have:(mkW h).heap[b]? =some (.cells cs.toArray t fz):=e
 simp[World.cell?,this]
theorem Blk.free{h:Heap}{b:Nat}{t:TypeId}{cs:List Value}(hb:Blk h b t cs){i:Nat}(hi:i<cs.length):Qdc h ⟨b,i,none⟩=false:=by
 obtain⟨fz,e,hf⟩:=hb
 show(mkW h).frozen? ⟨b,i,none⟩=false
 have:(mkW h).heap[b]? =some (.cells cs.toArray t fz):=e
 rcases hf with rfl|rfl
 ·simp[World.frozen?,this]
 ·simp only[World.frozen?,this]
  have:decide (cs.length<=i)=false:=by simp;omega
  simp[this]
theorem Blk.eq{h h':Heap}{b:Nat}{t:TypeId}{cs:List Value}(hb:Blk h b t cs)(e:h'[b]? =h[b]?):Blk h' b t cs:=by
 obtain⟨fz,e1,hf⟩:=hb
 exact⟨fz,e.trans e1,hf⟩
theorem Blk.new(h:Heap)(t:TypeId)(cs:List Value):Blk (h.push (.cells cs.toArray t)) h.size t cs:=⟨(0,0),by simp,.inl rfl⟩
theorem Blk.set{h:Heap}{b:Nat}{t:TypeId}{cs:List Value}(hb:Blk h b t cs)(i:Nat)(v:Value):Blk (setH h ⟨b,i,none⟩ v) b t (cs.set i v):=by
 obtain⟨fz,e,hf⟩:=hb
 refine⟨fz, ?_,by simpa using hf⟩
 show(((mkW h).setCell ⟨b,i,none⟩ v).heap)[b]? =_
 have:(mkW h).heap[b]? =some (.cells cs.toArray t fz):=e
 simp[World.setCell,Array.getElem?_modify,this]
theorem Qol(h:Heap)(a:Addr)(v:Value):Upd (· =a.block) h (setH h a v):=⟨by rw[Qd7];exact Nat.le_refl _,fun k _ hn=>setH_get h a v hn⟩
theorem nn{a:Addr}{K:Addr->Prop}(h:K a):Nn (some a) K:=⟨a,rfl,h⟩
theorem ld{k:Kd}{h:Heap}{a:Addr}{K:k.T->Prop}(x:k.T)(hc:Qed h a=some (k.mk x))(hk:K x):Ld k h a K:=⟨x,hc,hk⟩
theorem ldB{k:Kd}{h:Heap}{b i:Nat}{t:TypeId}{cs:List Value}{K:k.T->Prop}(hb:Blk h b t cs)(x:k.T)(hc:cs[i]? =some (k.mk x))(hk:K x):Ld k h ⟨b,i,none⟩ K:=⟨x,(hb.cell i).trans hc,hk⟩
theorem stB{h:Heap}{b i:Nat}{t:TypeId}{cs:List Value}{v:Value}{K:Heap->Prop}(hb:Blk h b t cs)(hi:i<cs.length)(hk:∀h',Blk h' b t (cs.set i v)->Upd (· =b) h h'->h'.size=h.size->K h'):
  St h ⟨b,i,none⟩ v K:=
 ⟨by rw[hb.cell,List.getElem?_eq_getElem hi];rfl,hb.free hi,hk _ (hb.set i v) (Qol h ⟨b,i,none⟩ v) (Qd7 h _ v)⟩
theorem add0(g o n:Nat):(⟨g,o,none⟩:Addr).add n=⟨g,o+n,none⟩:=by
 unfold Addr.add;split
 ·rename_i e;rw[e];rfl
 ·rfl
theorem ldF{k:Kd}{h:Heap}{b i:Nat}{t:TypeId}{cs:List Value}{K:k.T->Prop}(hb:Blk h b t cs)(x:k.T)(hc:cs[i]? =some (k.mk x))(hk:K x):Ld k h ((⟨b,0,none⟩:Addr).add i) K:=by
 rw[add0,Nat.zero_add];exact ldB hb x hc hk
theorem stF{h:Heap}{b i:Nat}{t:TypeId}{cs:List Value}{v:Value}{K:Heap->Prop}(hb:Blk h b t cs)(hi:i<cs.length)(hk:∀h',Blk h' b t (cs.set i v)->Upd (· =b) h h'->h'.size=h.size->K h'):
  St h ((⟨b,0,none⟩:Addr).add i) v K:=by
 rw[add0,Nat.zero_add];exact stB hb hi hk
theorem alloc{h:Heap}{t:TypeId}{cs:List Value}{K:Addr->Heap->Prop}(hk:∀h',Blk h' h.size t cs->Ext h.size h h'->h'.size=h.size+1->K ⟨h.size,0,none⟩ h'):QaG h (.cells cs.toArray t) K:=
 hk _ (Blk.new h t cs) (ext_push h _ (Nat.le_refl _)) (by simp)
theorem QbF{α:Type}{x:α}{K:α->Prop}(h:K x):Let x K:=h
theorem br{p:Prop}{b:Bool}{A B:Prop}(hb:b=true↔p)(h1:p->A)(h2:¬p->B):cond b A B:=by
 cases b with
 |true=>exact h1 (hb.1 rfl)
 |false=>exact h2 fun x=>by have:=hb.2 x;cases this
theorem brY{b:Bool}{A B:Prop}(hb:b=true)(h:A):cond b A B:=by subst hb;exact h
theorem brN{b:Bool}{A B:Prop}(hb:b=false)(h:B):cond b A B:=by subst hb;exact h
theorem brT{A B:Prop}(h:A):cond true A B:=h
theorem brF{A B:Prop}(h:B):cond false A B:=h
theorem brB{b:Bool}{A B:Prop}(h1:b=true->A)(h2:b=false->B):cond b A B:=by
 cases b with
 |true=>exact h1 rfl
 |false=>exact h2 rfl
theorem brD{p:Prop}[Decidable p]{A B:Prop}(h1:p->A)(h2:¬p->B):cond (decide p) A B:=br decide_eq_true_iff h1 h2
theorem nz{b:Int}{K:Prop}(h:b≠0)(hk:K):Nz b K:=⟨h,hk⟩
theorem QlB{b:Int}{K:Prop}(h:0<=b)(hk:K):Qkv b K:=⟨h,hk⟩
theorem w64{n:Int}(h1: -9223372036854775808<=n)(h2:n<=9223372036854775807):IntKind.i64.wrap n=n:=by
 rw[IntKind.wrap_i64];omega
theorem Qg3{rest:(Nat->Value)->Heap->Prop}{body:(Heap->Prop)->Prop}(J:Heap->Prop)(h1:∀τ h,J h->rest τ h)(h2:body J):Qie [] rest body:=
 ⟨J,fun τ () h hJ=>h1 τ h hJ,h2⟩
theorem Qhl{s1:Sh}{body:(Nat->Value)->s1.T->Heap->(s1.T->Heap->Prop)->Prop}{x1:s1.T}{h:Heap}(I:s1.T->Heap->Prop)(μ:s1.T->Heap->Nat)(h0:I x1 h)
  (hr:∀τ x1 h,I x1 h->body τ x1 h (fun y1 h'=>I y1 h'/\μ y1 h'<μ x1 h)):Qf9 [s1] body (x1,()) h:=
 ⟨I,μ,h0,fun τ (x1,()) h hI=>hr τ x1 h hI⟩
theorem Qg2{s1:Sh}{rest:(Nat->Value)->s1.T->Heap->Prop}{body:(s1.T->Heap->Prop)->Prop}(J:s1.T->Heap->Prop)(h1:∀τ x1 h,J x1 h->rest τ x1 h)(h2:body J):Qie [s1] rest body:=
 ⟨J,fun τ (x1,()) h hJ=>h1 τ x1 h hJ,h2⟩
theorem QiH{s1 s2:Sh}{body:(Nat->Value)->s1.T->s2.T->Heap->(s1.T->s2.T->Heap->Prop)->Prop}{x1:s1.T}{x2:s2.T}{h:Heap}(I:s1.T->s2.T->Heap->Prop)(μ:s1.T->s2.T->Heap->Nat)(h0:I x1 x2 h)
  (hr:∀τ x1 x2 h,I x1 x2 h->body τ x1 x2 h (fun y1 y2 h'=>I y1 y2 h'/\μ y1 y2 h'<μ x1 x2 h)):Qf9 [s1,s2] body (x1,x2,()) h:=
 ⟨I,μ,h0,fun τ (x1,x2,()) h hI=>hr τ x1 x2 h hI⟩
theorem loop3{s1 s2 s3:Sh}{body:(Nat->Value)->s1.T->s2.T->s3.T->Heap->(s1.T->s2.T->s3.T->Heap->Prop)->Prop}{x1:s1.T}{x2:s2.T}{x3:s3.T}{h:Heap}(I:s1.T->s2.T->s3.T->Heap->Prop)(μ:s1.T->s2.T->s3.T->Heap->Nat)(h0:I x1 x2 x3 h)
  (hr:∀τ x1 x2 x3 h,I x1 x2 x3 h->body τ x1 x2 x3 h (fun y1 y2 y3 h'=>I y1 y2 y3 h'/\μ y1 y2 y3 h'<μ x1 x2 x3 h)):Qf9 [s1,s2,s3] body (x1,x2,x3,()) h:=
 ⟨I,μ,h0,fun τ (x1,x2,x3,()) h hI=>hr τ x1 x2 x3 h hI⟩
def Sl.blk(s:Sl):Option Nat:=s.a.map (·.block)
def RdS(h:Heap)(sz:Nat)(s:Sl)(xs:List Value):Prop:=
 xs.length=s.n*sz/\(0<xs.length->∃g o,s.a=some ⟨g,o,none⟩/\∀j,j<xs.length->Qed h ⟨g,o+j,none⟩=xs[j]?)
def Own(h:Heap)(sz:Nat)(s:Sl)(xs:List Value):Prop:=
 xs.length=s.n*sz/\s.n<=s.c/\s.c<=9223372036854775807/\
  ((s.a=none/\s.c=0)\/∃g o,s.a=some ⟨g,o,none⟩/\g<h.size/\(∀j,j<xs.length->Qed h ⟨g,o+j,none⟩=xs[j]?)/\
   ∀j,j<s.c*sz->(Qed h ⟨g,o+j,none⟩).isSome=true/\Qdc h ⟨g,o+j,none⟩=false)
theorem Own.rd{h:Heap}{sz:Nat}{s:Sl}{xs:List Value}(ho:Own h sz s xs):RdS h sz s xs:=by
 obtain⟨h1,h2,_,h3⟩:=ho
 refine⟨h1,fun hp=> ?_⟩
 rcases h3 with⟨_,hc⟩|⟨g,o,ha,_,hx,_⟩
 ·rw[h1,show s.n=0 by omega] at hp;simp at hp
 ·exact⟨g,o,ha,hx⟩
theorem RdS.nil(h:Heap)(sz:Nat)(a:Option Addr)(c:Nat):RdS h sz ⟨a,0,c⟩ []:=⟨by simp,fun h=>by simp at h⟩
theorem Own.nil(h:Heap)(sz:Nat):Own h sz ⟨none,0,0⟩ []:=⟨by simp,Nat.le_refl _,Nat.zero_le _,.inl ⟨rfl,rfl⟩⟩
theorem RdS.keep{h h':Heap}{sz:Nat}{s:Sl}{xs:List Value}(hr:RdS h sz s xs)(hk:∀g,s.blk=some g->g<h.size->h'[g]? =h[g]?):RdS h' sz s xs:=by
 refine⟨hr.1,fun hp=> ?_⟩
 obtain⟨g,o,ha,hx⟩:=hr.2 hp
 have hg:g<h.size:=Qki (a:=⟨g,o+0,none⟩) ((hx 0 hp).trans (List.getElem?_eq_getElem hp))
 exact⟨g,o,ha,fun j hj=>(cellH_eq (hk g (by simp[Sl.blk,ha]) hg)).trans (hx j hj)⟩
theorem Own.keep{h h':Heap}{sz:Nat}{s:Sl}{xs:List Value}(hr:Own h sz s xs)(hsz:h.size<=h'.size)(hk:∀g,s.blk=some g->g<h.size->h'[g]? =h[g]?):Own h' sz s xs:=by
 obtain⟨h1,h2,h3,h4⟩:=hr
 refine⟨h1,h2,h3,h4.imp id ?_⟩
 rintro ⟨g,o,ha,hg,hx,hc⟩
 have e:=hk g (by simp[Sl.blk,ha]) hg
 exact⟨g,o,ha,by omega,fun j hj=>(cellH_eq e).trans (hx j hj),fun j hj=>⟨by rw[cellH_eq e];exact(hc j hj).1,by rw[frozenH_eq e];exact(hc j hj).2⟩⟩
def Sl.below(s:Sl)(B:Nat):Prop:=∀g,s.blk=some g->g<B
def Sl.from_(s:Sl)(B:Nat):Prop:=∀g,s.blk=some g->B<=g
theorem RdS.ext'{h h':Heap}{sz:Nat}{s:Sl}{xs:List Value}(hr:RdS h sz s xs)(he:Ext h.size h h'):RdS h' sz s xs:=hr.keep fun g _ hl=>he.2 g hl
theorem Own.ext'{h h':Heap}{sz:Nat}{s:Sl}{xs:List Value}(hr:Own h sz s xs)(he:Ext h.size h h'):Own h' sz s xs:=hr.keep he.1 fun g _ hl=>he.2 g hl
theorem RdS.upd{F:Nat->Prop}{h h':Heap}{sz:Nat}{s:Sl}{xs:List Value}(hr:RdS h sz s xs)(he:Upd F h h')(hb:∀g,s.blk=some g->¬F g):RdS h' sz s xs:=hr.keep fun g hg hl=>he.keep g hl (hb g hg)
theorem Own.of_blk{h:Heap}{b:Nat}{t:TypeId}{cs:List Value}(hb:Blk h b t cs){sz n c:Nat}(hc:cs.length=c*sz)(hn:n<=c)(hm:c<=9223372036854775807):Own h sz ⟨some ⟨b,0,none⟩,n,c⟩ (cs.take (n*sz)):=by
 have hnc:n*sz<=c*sz:=Nat.mul_le_mul_right _ hn
 refine⟨by rw[List.length_take,hc];exact Nat.min_eq_left hnc,hn,hm,.inr ⟨b,0,rfl,hb.lt,fun j hj=> ?_,fun j hj=> ?_⟩⟩
 ·rw[Nat.zero_add,hb.cell,List.getElem?_take]
  rw[List.length_take] at hj
  rw[if_pos (by omega)]
 ·have hj':j<c*sz:=hj
  rw[Nat.zero_add]
  exact⟨by rw[hb.cell,List.getElem?_eq_getElem (by omega)];rfl,hb.free (by omega)⟩
theorem Own.full{h:Heap}{b:Nat}{t:TypeId}{cs:List Value}(hb:Blk h b t cs){sz n:Nat}(hc:cs.length=n*sz)(hm:n<=9223372036854775807):Own h sz ⟨some ⟨b,0,none⟩,n,n⟩ cs:=by
 have:=Own.of_blk hb hc (Nat.le_refl n) hm
 rwa[<-hc,List.take_length] at this
theorem ix{h:Heap}{sz:Nat}{s:Sl}{xs:List Value}{i:Int}{K:Addr->Prop}(hr:RdS h sz s xs)(h0:0<=i)(h1:i<s.n)(hsz:0<sz)
  (hk:∀g o,s.blk=some g->(∀j,j<sz->Qed h ⟨g,o+j,none⟩=xs[i.toNat*sz+j]?)->K ⟨g,o,none⟩):Ix s i sz K:=by
 have hi:i.toNat<s.n:=by omega
 have hle:i.toNat*sz+sz<=s.n*sz:=by rw[<-Nat.succ_mul];exact Nat.mul_le_mul_right _ hi
 obtain⟨g,o,ha,hx⟩:=hr.2 (by rw[hr.1];omega)
 refine⟨_,ha,h0,h1, ?_⟩
 rw[show((⟨g,o,none⟩:Addr).add (i.toNat*sz))=⟨g,o+i.toNat*sz,none⟩ by
  unfold Addr.add;split
  ·rename_i e;rw[e];rfl
  ·rfl]
 refine hk g _ (by simp[Sl.blk,ha]) fun j hj=> ?_
 rw[Nat.add_assoc]
 exact hx _ (by rw[hr.1];omega)
structure ElemT(P:Program)(t e:TypeId)(sz by_:Nat):Prop where
 und:P.underlying t=some (.slice e)
 info:∃i z,P.info? e=some i/\i.zero=some z/\i.size=sz/\i.bytes=by_/\z.cells.size=sz
 pos:0<sz
def elemB(P:Program)(t e sz by_:Nat):Bool:=
 (match P.underlying t with
  |some (.slice e')=>Nat.beq e' e
  |_=>false)&&
 (match P.info? e with
  |some i=>(match i.zero with
   |some z=>Nat.beq i.size sz&&Nat.beq i.bytes by_&&Nat.beq z.cells.size sz
   |none=>false)
  |none=>false)&&Nat.ble 1 sz
theorem ElemT.of{P:Program}{t e sz by_:Nat}(h:elemB P t e sz by_=true):ElemT P t e sz by_:=by
 unfold elemB at h
 simp only[Bool.and_eq_true] at h
 obtain⟨⟨h1,h2⟩,h3⟩:=h
 refine⟨?_, ?_,Nat.le_of_ble_eq_true h3⟩
 ·split at h1
  ·rename_i e' he
   rw[he,Nat.eq_of_beq_eq_true h1]
  ·cases h1
 ·split at h2
  ·rename_i i hi
   split at h2
   ·rename_i z hz
    simp only[Bool.and_eq_true] at h2
    exact⟨i,z,hi,hz,Nat.eq_of_beq_eq_true h2.1.1,Nat.eq_of_beq_eq_true h2.1.2,Nat.eq_of_beq_eq_true h2.2⟩
   ·cases h2
  ·cases h2
theorem QkW(w:World)(b:Nat):∀(vs:List Value) (o:Nat),Env w (w.setCells b o vs)
 |vs,o=>⟨World.os_setCells w b o vs,by
   induction vs generalizing o w with
   |nil=>rfl
   |cons v vs ih=>exact(ih (w.setCell ⟨b,o,none⟩ v) (o+1)).trans rfl,World.output_setCells w b o vs⟩
theorem QcH(b:Nat):∀(vs:List Value) (o:Nat) (w:World),(w.setCells b o vs).heap.size=w.heap.size
 | [],_,_=>rfl
 |v::vs,o,w=>(QcH b vs (o+1) (w.setCell ⟨b,o,none⟩ v)).trans (by simp[World.setCell])
theorem Qhu(b:Nat):∀(vs:List Value) (o:Nat) (w:World){k:Nat},k≠b->(w.setCells b o vs).heap[k]? =w.heap[k]?
 | [],_,_,_,_=>rfl
 |v::vs,o,w,k,hk=>(Qhu b vs (o+1) (w.setCell ⟨b,o,none⟩ v) hk).trans (by
   simp only[World.setCell,Array.getElem?_modify];rw[if_neg (fun e=>hk e.symm)])
def SrcH(P:Program)(sz:Nat)(tx:TypeId)(x:Value)(n:Nat)(ys:List Value)(h:Heap):Prop:=∀w:World,w.heap=h->Src P sz tx x n ys w
theorem SrcH.slice{P:Program}{sz:Nat}{tx e:TypeId}{h:Heap}{x:Sl}{ys:List Value}(hk:P.underlying tx=some (.slice e))(hr:RdS h sz x ys)(h1:∀u∈ys,u.oneCell'=true)(hsz:0<sz):
  SrcH P sz tx (.slice x.a x.n x.c) x.n ys h:=by
 intro w hw
 by_cases hp:0<ys.length
 ·obtain⟨g,o,ha,hx⟩:=hr.2 hp
  rw[ha]
  refine Src.ofSlice w hk _ _ _ _ hr.1 (fun j u hu=> ?_) h1
  have hj:j<ys.length:=(List.getElem?_eq_some_iff.1 hu).1
  rw[Addr.add_lit,QbP,hw,hx j hj,hu]
 ·have hn:ys= []:=List.eq_nil_of_length_eq_zero (by omega)
  subst hn
  have hxn:x.n=0:=by
   have:=hr.1
   simp only[List.length_nil] at this
   rcases Nat.mul_eq_zero.1 this.symm with h0|h0
   ·exact h0
   ·omega
  rw[hxn]
  cases ha:x.a with
  |none=>exact Src.ofNil w hk _
  |some a=>exact Src.ofSlice w hk _ _ _ _ (by simp) (fun j u hu=>by simp at hu) (fun _ h=>by cases h)
theorem SrcH.str{P:Program}{tx:TypeId}{h:Heap}(hk:P.underlying tx=some .string)(s:ByteArray):SrcH P 1 tx (.string s) s.size (byteCells s) h:=fun w _=>Src.ofString w hk s
theorem nextcap_le(n c:Nat)(h:c<n):Builtin.nextslicecap n c<=2*n:=by
 unfold Builtin.nextslicecap
 split
 ·omega
 ·split
  ·omega
  ·have key:∀r k,k<=2*n->Builtin.growBy n r k<=2*n\/k<n:=by
    intro r k hk
    by_cases hkn:k<n
    ·exact .inr hkn
    ·left
     cases r with
     |zero=>exact hk
     |succ r=>unfold Builtin.growBy;rw[if_pos (by omega)];exact hk
   have step:∀r k,256<=k->k<=2*n->Builtin.growBy n r k<=2*n:=by
    intro r
    induction r with
    |zero=>intro k _ hk;exact hk
    |succ r ih=>
     intro k h256 hk
     unfold Builtin.growBy
     split
     ·exact hk
     ·exact ih _ (by omega) (by omega)
   exact step 4 c (by omega) (by omega)
theorem opT_app_full{P:Program}{t tx ty e:TypeId}{sz by_:Nat}(hT:ElemT P t e sz by_){s:Sl}{h:Heap}{xs ys:List Value}{x:Value}{n:Nat}{K:Sl->Heap->Prop}
  (ho:Own h sz s xs) (hx:SrcH P sz tx x n ys h) (hlen:(s.n+n)*by_<=140737488355328) (h63:s.n+n<=4611686018427387903)
  (hk:∀s' h',Own h' sz s' (xs++ys)->s'.n=s.n+n->Upd (fun k=>s.blk=some k) h h'->(s'.blk=s.blk\/s'.from_ h.size)->(s.n+n<=s.c->s'=⟨s.a,s.n+n,s.c⟩/\h'.size=h.size)->(¬s.n+n<=s.c->Ext h.size h h')->K s' h'):
  OpT P (Builtin.append_ #[t,tx] ty #[.slice s.a s.n s.c,x]) h [.one .sl] K:=by
 intro w hw
 obtain⟨hu,⟨i,z,hi,hz,hsz,hby,hzs⟩,hpos⟩:=hT
 have hs:=hx w hw
 obtain⟨h1,h2,h3,h4⟩:=ho
 have hyl:ys.length=n*sz:=hs.newsLen
 have done:∀(s':Sl) (w':World),(Builtin.append_ #[t,tx] ty #[.slice s.a s.n s.c,x]).run P w= .ok (.slice s'.a s'.n s'.c) w'->Env w w'->K s' w'.heap->
   ∃v w',(Builtin.append_ #[t,tx] ty #[.slice s.a s.n s.c,x]).run P w= .ok v w'/\Env w w'/\∃y,v=retV [.one .sl] y/\TH.un [.one .sl] K y w'.heap:=fun s' w' hr hE hK=>
  ⟨_,w',hr,hE,(s',()),rfl,hK⟩
 by_cases hroom:s.n+n<=s.c
 ·rcases h4 with⟨ha,hc⟩|⟨g,o,ha,hg,hcells,hwr⟩
  ·
   have hn0:n=0:=by omega
   have hs0:s.n=0:=by omega
   subst hn0
   have hys:ys= []:=List.eq_nil_of_length_eq_zero (by simpa using hyl)
   have hxs:xs= []:=List.eq_nil_of_length_eq_zero (by rw[h1,hs0];simp)
   subst hys;subst hxs
   refine done s w ?_ (Env.refl w) ?_
   ·exact run_append_nothing w t tx ty e i hu hi s.a s.n s.c (by omega) x (by rw[hsz];exact hs)
   ·rw[hw]
    exact hk s h (by simpa using ⟨h1,h2,h3,.inl ⟨ha,hc⟩⟩) rfl (Upd.refl _ _) (.inl rfl) (fun _=>⟨rfl,rfl⟩) fun hn=>absurd hroom hn
  ·have hlt:s.n*sz+ys.length<=s.c*sz:=by rw[hyl,<-Nat.add_mul];exact Nat.mul_le_mul_right _ hroom
   have hr:=run_append_room_src (P:=P) w t tx ty e i hu hi g o s.n s.c x n ys (by rw[hsz];exact hs) hroom
    (fun j hj=>by rw[hsz,Nat.add_assoc,QbP,hw];exact(hwr _ (by omega)).1) (fun j hj=>by rw[hsz,Nat.add_assoc,Qeb,hw];exact(hwr _ (by omega)).2)
   rw[hsz] at hr
   rw[<-ha] at hr
   refine done ⟨s.a,s.n+n,s.c⟩ _ hr (QkW w g ys _) ?_
   have hfr:∀y:Addr,Qdc (w.setCells g (o+s.n*sz) ys).heap y=Qdc h y:=fun y=>by rw[<-Qeb,World.frozen?_setCells,Qeb,hw]
   have hsome:∀j,j<ys.length->(w.cell? ⟨g,o+s.n*sz+j,none⟩).isSome=true:=fun j hj=>by rw[Nat.add_assoc,QbP,hw];exact(hwr _ (by omega)).1
   have hcell:∀j,j<(xs++ys).length->Qed (w.setCells g (o+s.n*sz) ys).heap ⟨g,o+j,none⟩=(xs++ys)[j]? :=fun j hj=>by
    rw[<-QbP]
    by_cases hjx:j<xs.length
    ·rw[World.cell?_setCells_out g _ _ _ _ (fun _ _=> .inl (by show o+j<o+s.n*sz;omega)),QbP,hw,hcells j hjx,List.getElem?_append_left hjx]
    ·have hj':j -xs.length<ys.length:=by rw[List.length_append] at hj;omega
     have:=World.cell?_setCells_in g ys (o+s.n*sz) w hsome (j -xs.length) hj'
     rw[show o+s.n*sz+(j -xs.length)=o+j by omega] at this
     rw[this,List.getElem?_append_right (by omega),List.getElem?_eq_getElem hj']
   refine hk _ _ ⟨by rw[List.length_append,h1,hyl];simp[Nat.add_mul],hroom,h3,.inr ⟨g,o,ha,by rw[QcH,hw];exact hg,hcell,fun j hj=> ?_⟩⟩ rfl ⟨by rw[QcH,hw];exact Nat.le_refl _,fun k hk hn=> ?_⟩ (.inl rfl) (fun _=>⟨rfl,by rw[QcH,hw]⟩) fun hn=>absurd hroom hn
   ·refine⟨?_,by rw[hfr];exact(hwr j hj).2⟩
    by_cases hj2:j<(xs++ys).length
    ·rw[hcell j hj2,List.getElem?_eq_getElem hj2];rfl
    ·rw[<-QbP,World.cell?_setCells_out g _ _ _ _ (fun _ _=> .inr (by show o+s.n*sz+ys.length<=o+j;rw[List.length_append] at hj2;omega)),QbP,hw]
     exact(hwr j hj).1
   ·rw[Qhu g ys _ w (fun e=>hn (by simp[Sl.blk,ha,e])),hw]
 ·have hfit:Builtin.nextslicecap (s.n+n) s.c*i.bytes<=281474976710656:=by
   have:=nextcap_le (s.n+n) s.c (by omega)
   rw[hby]
   calc Builtin.nextslicecap (s.n+n) s.c*by_<=(2*(s.n+n))*by_:=Nat.mul_le_mul_right _ this
    _=2*((s.n+n)*by_):=by rw[Nat.mul_assoc]
    _<=281474976710656:=by omega
  have hold:(Builtin.firstCells i.size s.n (.slice s.a s.n s.c)).run P w.drew= .ok xs.toArray w.drew:=by
   rw[hsz]
   rcases h4 with⟨ha,hc⟩|⟨g,o,ha,hg,hcells,hwr⟩
   ·have hs0:s.n=0:=by omega
    have hxs:xs= []:=List.eq_nil_of_length_eq_zero (by rw[h1,hs0];simp)
    rw[ha,hxs]
    exact run_firstCells_none w.drew sz s.n s.n s.c
   ·rw[ha]
    refine run_firstCells_some w.drew sz s.n _ s.n s.c xs h1 fun j u hj=> ?_
    have hjl:j<xs.length:=(List.getElem?_eq_some_iff.1 hj).1
    rw[Addr.add_lit]
    show w.cell? ⟨g,o+j,none⟩=some u
    rw[QbP,hw,hcells j hjl,hj]
  have hr:=run_append_grow_src (P:=P) w t tx ty e i z hu hi hz s.a s.n s.c xs hold x n ys (by rw[hsz];exact hs) (by omega) (by omega) hfit
  have hge:=grownCap_ge w (s.n+n) s.c e
  have hle:=grownCap_le_maxLen w (s.n+n) s.c e (by simp only[maxLen];omega)
  refine done ⟨some ⟨w.heap.size,0,none⟩,s.n+n,grownCap w (s.n+n) s.c e⟩ _ hr ⟨rfl,rfl,rfl⟩ ?_
  generalize hG:grownCap w (s.n+n) s.c e=G at*
  have hlen2:((xs++ys).toArray++Builtin.zeroCells z.cells (G -(s.n+n))).toList.length=G*sz:=by
   simp only[Array.toList_append,List.length_append,Array.length_toList,size_zeroCells,hzs,h1,hyl,<-Nat.add_mul]
   congr 1;omega
  have hb:=Blk.new w.heap e ((xs++ys).toArray++Builtin.zeroCells z.cells (G -(s.n+n))).toList
  have hown:=Own.of_blk hb (n:=s.n+n) hlen2 hge (by simp only[maxLen] at hle;omega)
  have htake:(((xs++ys).toArray++Builtin.zeroCells z.cells (G -(s.n+n))).toList).take ((s.n+n)*sz)=xs++ys:=by
   have hl3:(xs++ys).length=(s.n+n)*sz:=by rw[List.length_append,h1,hyl,Nat.add_mul]
   rw[Array.toList_append,<-hl3]
   exact List.take_left
  rw[htake] at hown
  have hheap:(w.drew.alloc (.cells ((xs++ys).toArray++Builtin.zeroCells z.cells (G -(s.n+n))) e)).heap=w.heap.push (.cells ((xs++ys).toArray++Builtin.zeroCells z.cells (G -(s.n+n))).toList.toArray e):=rfl
  rw[hheap]
  refine hk _ _ hown rfl ⟨by simp[hw],fun k hk _=>by rw[Array.getElem?_push,if_neg (by rw[hw];omega),hw]⟩ (.inr fun g hg=> ?_) (fun hr=>absurd hr hroom) fun _=>by rw[<-hw];exact ext_push _ _ (Nat.le_refl _)
  simp only[Sl.blk,Option.map_some,Option.some.injEq] at hg
  rw[<-hg,hw];exact Nat.le_refl _
theorem QkS{P:Program}{t tx ty e:TypeId}{sz by_:Nat}(hT:ElemT P t e sz by_){s:Sl}{h:Heap}{xs ys:List Value}{x:Value}{n:Nat}{K:Sl->Heap->Prop}
  (ho:Own h sz s xs) (hx:SrcH P sz tx x n ys h) (hlen:(s.n+n)*by_<=140737488355328) (h63:s.n+n<=4611686018427387903)
  (hk:∀s' h',Own h' sz s' (xs++ys)->s'.n=s.n+n->Upd (fun k=>s.blk=some k) h h'->(s'.blk=s.blk\/s'.from_ h.size)->(s.n+n<=s.c->s'=⟨s.a,s.n+n,s.c⟩/\h'.size=h.size)->K s' h'):
  OpT P (Builtin.append_ #[t,tx] ty #[.slice s.a s.n s.c,x]) h [.one .sl] K:=
 opT_app_full hT ho hx hlen h63 fun s' h' a b c d r _=>hk s' h' a b c d r
theorem opT_app{P:Program}{t tx ty e:TypeId}{sz by_:Nat}(hT:ElemT P t e sz by_){s:Sl}{h:Heap}{xs ys:List Value}{x:Value}{n:Nat}{K:Sl->Heap->Prop}
  (ho:Own h sz s xs) (hx:SrcH P sz tx x n ys h) (hlen:(s.n+n)*by_<=140737488355328) (h63:s.n+n<=4611686018427387903)
  (hk:∀s' h',Own h' sz s' (xs++ys)->s'.n=s.n+n->Upd (fun k=>s.blk=some k) h h'->(s'.blk=s.blk\/s'.from_ h.size)->K s' h'):
  OpT P (Builtin.append_ #[t,tx] ty #[.slice s.a s.n s.c,x]) h [.one .sl] K:=
 QkS hT ho hx hlen h63 fun s' h' a b c d _=>hk s' h' a b c d
theorem app_room{P:Program}{t ty e:TypeId}{sz by_:Nat}(hT:ElemT P t e sz by_){s x:Sl}{h:Heap}{xs ys:List Value}{K:Sl->Heap->Prop}
  (ho:Own h sz s xs) (hx:RdS h sz x ys) (h1:∀u∈ys,u.oneCell'=true) (hlen:(s.n+x.n)*by_<=140737488355328) (hroom:s.n+x.n<=s.c) (h63:s.n+x.n<=4611686018427387903)
  (hk:∀h',Own h' sz ⟨s.a,s.n+x.n,s.c⟩ (xs++ys)->Upd (fun k=>s.blk=some k) h h'->h'.size=h.size->K ⟨s.a,s.n+x.n,s.c⟩ h'):App P t ty s x h K:=
 QkS hT ho (.slice hT.und hx h1 hT.pos) hlen h63 fun s' h' a _ c _ r=>by
  obtain⟨rfl,e⟩:=r hroom
  exact hk h' a c e
theorem app{P:Program}{t ty e:TypeId}{sz by_:Nat}(hT:ElemT P t e sz by_){s x:Sl}{h:Heap}{xs ys:List Value}{K:Sl->Heap->Prop}
  (ho:Own h sz s xs) (hx:RdS h sz x ys) (h1:∀u∈ys,u.oneCell'=true) (hlen:(s.n+x.n)*by_<=140737488355328) (h63:s.n+x.n<=4611686018427387903)
  (hk:∀s' h',Own h' sz s' (xs++ys)->s'.n=s.n+x.n->Upd (fun k=>s.blk=some k) h h'->(s'.blk=s.blk\/s'.from_ h.size)->K s' h'):App P t ty s x h K:=
 opT_app hT ho (.slice hT.und hx h1 hT.pos) hlen h63 hk
end
section
open Go Go.RowKit
theorem row_calls{P:Program}{f:FuncId}{args:List Value}{w:World}(hc:CallR P f args w.heap [.one .bool] fun r h'=>r=true/\Ext w.heap.size w.heap h'):
  Calls P f ⟨args⟩ w fun e w'=>e= .returned (.bool true)/\Below w.heap.size w w':=by
 refine(hc w rfl).mono fun e w' ⟨hE,x,he,hx⟩=> ?_
 have h1:x.1=true:=hx.1
 have h2:Ext w.heap.size w.heap w'.heap:=hx.2
 refine⟨?_,hE.os,hE.tape,hE.output,h2.1,h2.2⟩
 rw[he]
 show Ending.returned (.bool x.1)=_
 rw[h1]
theorem wf_u8{n:Int}(h:(Lit.int .u8 n).wf=true):0<=n/\n<=255:=by
 simp[Lit.wf,IntKind.min,IntKind.max,IntKind.bits,IntKind.signed] at h;omega
end
section
open Go
def LoIs(lo:Option Value)(l:Nat):Prop:=(lo=none/\l=0)\/∃k i,lo=some (.int k i)/\i=(l:Int)
def Qm8(hi:Option Value)(n u:Nat):Prop:=(hi=none/\u=n)\/∃k i,hi=some (.int k i)/\i=(u:Int)
theorem lo0:LoIs none 0:= .inl ⟨rfl,rfl⟩
theorem loi{k:IntKind}{i:Int}{l:Nat}(h:i=(l:Int)):LoIs (some (.int k i)) l:= .inr ⟨_,_,rfl,h⟩
theorem hi0(n:Nat):Qm8 none n n:= .inl ⟨rfl,rfl⟩
theorem hii{k:IntKind}{i:Int}{n u:Nat}(h:i=(u:Int)):Qm8 (some (.int k i)) n u:= .inr ⟨_,_,rfl,h⟩
section
variable {P:Program}
theorem QfM{x:Value}{y:Nat}{code:BoundsCode}{k:IntKind}{l:Nat}(hx:x= .int k (l:Int))(hl:l<=y)(w:World):(Instr.sliceBound x y code).run P w= .ok l w:=by
 subst hx
 have h1:(0:Int)<=l/\(l:Int)<=y:=by omega
 simp[Instr.sliceBound,asIntOf,h1]
theorem sbs_run{b:Bool}{len cap l u m:Nat}{lo hi mx:Option Value}(hlo:LoIs lo l)(hhi:Qm8 hi len u)(hmx:(mx=none/\m=cap)\/(Qm8 mx cap m/\hi≠none))(h1:l<=u)(h2:u<=m)(h3:m<=cap)(w:World):
  (Instr.sliceBounds b len cap lo hi mx).run P w= .ok (l,u,m) w:=by
 have step3:∀(M:Nat) (c:BoundsCode),(match lo with
   |some v=>Instr.sliceBound v u c
   |none=>pure 0:Sem Nat).run P w= .ok l w:=fun M c=>by
  rcases hlo with⟨rfl,rfl⟩|⟨k,i,rfl,rfl⟩
  ·rfl
  ·exact QfM rfl h1 w
 unfold Instr.sliceBounds
 rcases hmx with⟨rfl,rfl⟩|⟨hmx,hne⟩
 ·rcases hhi with⟨rfl,rfl⟩|⟨k,i,rfl,rfl⟩
  ·rcases hlo with⟨rfl,rfl⟩|⟨k,i,rfl,rfl⟩
   ·simp
   ·simp[QfM (P:=P) rfl h1]
  ·rcases hlo with⟨rfl,rfl⟩|⟨k,i,rfl,rfl⟩
   ·simp[QfM (P:=P) rfl h2]
   ·simp[QfM (P:=P) rfl h1,QfM (P:=P) rfl h2]
 ·rcases hmx with⟨rfl,rfl⟩|⟨k',i',rfl,rfl⟩
  ·rcases hhi with⟨rfl,_⟩|⟨k,i,rfl,rfl⟩
   ·exact absurd rfl hne
   ·rcases hlo with⟨rfl,rfl⟩|⟨k,i,rfl,rfl⟩
    ·simp[QfM (P:=P) rfl h2]
    ·simp[QfM (P:=P) rfl h1,QfM (P:=P) rfl h2]
  ·rcases hhi with⟨rfl,_⟩|⟨k,i,rfl,rfl⟩
   ·exact absurd rfl hne
   ·rcases hlo with⟨rfl,rfl⟩|⟨k,i,rfl,rfl⟩
    ·simp[QfM (P:=P) rfl h2,QfM (P:=P) rfl h3]
    ·simp[QfM (P:=P) rfl h1,QfM (P:=P) rfl h2,QfM (P:=P) rfl h3]
def Qjv(s:Sl)(sz l u m:Nat):Sl:=⟨if m=l then s.a else s.a.map (·.add (l*sz)),u -l,m -l⟩
theorem cutSl_blk(s:Sl)(sz l u m:Nat):(Qjv s sz l u m).blk=s.blk:=by
 unfold Qjv Sl.blk
 simp only
 split
 ·rfl
 ·cases s.a with
  |none=>rfl
  |some a=>simp only[Option.map_some,Addr.add];split<;>rfl
theorem cut_raw{t e:TypeId}{sz by_:Nat}(hT:ElemT P t e sz by_){s:Sl}{lo hi mx:Option Value}{K:Sl->Prop}(l u m:Nat)(hlo:LoIs lo l)(hhi:Qm8 hi s.n u)
  (hmx:(mx=none/\m=s.c)\/(Qm8 mx s.c m/\hi≠none)) (h1:l<=u) (h2:u<=m) (h3:m<=s.c) (hk:K (Qjv s sz l u m)):Cut P t s lo hi mx K:=by
 obtain⟨hu,⟨i,z,hi',hz,hsz,_,_⟩,_⟩:=hT
 refine⟨(Qjv s sz l u m,()),fun w=> ?_,hk⟩
 simp only[Instr.sliceAt,Sem.run_bind,run_underlying hu,Result.andThen_ok,Instr.slice,sbs_run hlo hhi hmx h1 h2 h3,info_run hi',hsz]
 rfl
theorem add_at(g o n:Nat):(⟨g,o,none⟩:Addr).add n=⟨g,o+n,none⟩:=by
 unfold Addr.add;split
 ·rename_i e;rw[e];rfl
 ·rfl
theorem cut_rd{t e:TypeId}{sz by_:Nat}(hT:ElemT P t e sz by_){s:Sl}{h:Heap}{xs:List Value}{lo hi mx:Option Value}{K:Sl->Prop}(hr:RdS h sz s xs)(l u m:Nat)(hlo:LoIs lo l)(hhi:Qm8 hi s.n u)
  (hmx:(mx=none/\m=s.c)\/(Qm8 mx s.c m/\hi≠none)) (h1:l<=u) (hu:u<=s.n) (h2:u<=m) (h3:m<=s.c)
  (hk:∀s',RdS h sz s' ((xs.drop (l*sz)).take ((u -l)*sz))->s'.n=u -l->s'.c=m -l->s'.blk=s.blk->K s'):Cut P t s lo hi mx K:=by
 refine cut_raw hT l u m hlo hhi hmx h1 h2 h3 (hk _ ⟨?_,fun hp=> ?_⟩ rfl rfl (cutSl_blk ..))
 ·have e1:(u -l)*sz+l*sz<=s.n*sz:=by rw[<-Nat.add_mul];exact Nat.mul_le_mul_right _ (by omega)
  rw[List.length_take,List.length_drop,hr.1]
  show min ((u -l)*sz) _=(u -l)*sz
  omega
 ·have hpos:=hT.pos
  rw[List.length_take,List.length_drop] at hp
  obtain⟨g,o,ha,hx⟩:=hr.2 (by omega)
  have hne:m≠l:=fun e=>by
   have:u -l=0:=by omega
   rw[this] at hp;simp at hp
  refine⟨g,o+l*sz,by simp only[Qjv];rw[if_neg hne,ha];simp[add_at],fun j hj=> ?_⟩
  rw[List.length_take,List.length_drop] at hj
  rw[Nat.add_assoc,hx _ (by omega),List.getElem?_take,if_pos (by omega),List.getElem?_drop]
theorem cut_own{t e:TypeId}{sz by_:Nat}(hT:ElemT P t e sz by_){s:Sl}{h:Heap}{xs:List Value}{lo hi mx:Option Value}{K:Sl->Prop}(hr:Own h sz s xs)(l u m:Nat)(hlo:LoIs lo l)(hhi:Qm8 hi s.n u)
  (hmx:(mx=none/\m=s.c)\/(Qm8 mx s.c m/\hi≠none)) (h1:l<=u) (hu:u<=s.n) (h2:u<=m) (h3:m<=s.c)
  (hk:∀s',Own h sz s' ((xs.drop (l*sz)).take ((u -l)*sz))->s'.n=u -l->s'.c=m -l->s'.blk=s.blk->K s'):Cut P t s lo hi mx K:=by
 obtain⟨hl,hnc,hc63,hh⟩:=hr
 have e1:(u -l)*sz+l*sz<=s.n*sz:=by rw[<-Nat.add_mul];exact Nat.mul_le_mul_right _ (by omega)
 have e2:(m -l)*sz+l*sz<=s.c*sz:=by rw[<-Nat.add_mul];exact Nat.mul_le_mul_right _ (by omega)
 refine cut_raw hT l u m hlo hhi hmx h1 h2 h3 (hk _ ⟨?_,by show u -l<=m -l;omega,by show m -l<=_;omega, ?_⟩ rfl rfl (cutSl_blk ..))
 ·rw[List.length_take,List.length_drop,hl]
  show min ((u -l)*sz) _=(u -l)*sz
  omega
 ·rcases hh with⟨ha,hc0⟩|⟨g,o,ha,hg,hx,hw⟩
  ·exact .inl ⟨by simp[Qjv,ha],by show m -l=0;omega⟩
  ·right
   by_cases hne:m=l
   ·refine⟨g,o,by simp only[Qjv];rw[if_pos hne,ha],hg,fun j hj=> ?_,fun j hj=> ?_⟩
    ·rw[List.length_take,show u -l=0 by omega] at hj;simp at hj
    ·have:(Qjv s sz l u m).c=0:=by show m -l=0;omega
     rw[this] at hj;simp at hj
   ·refine⟨g,o+l*sz,by simp only[Qjv];rw[if_neg hne,ha];simp[add_at],hg,fun j hj=> ?_,fun j hj=> ?_⟩
    ·rw[List.length_take,List.length_drop] at hj
     rw[Nat.add_assoc,hx _ (by omega),List.getElem?_take,if_pos (by omega),List.getElem?_drop]
    ·have hj':j<(m -l)*sz:=hj
     rw[Nat.add_assoc]
     exact hw _ (by omega)
theorem cutS{t:TypeId}(hT:P.underlying t=some .string){s:ByteArray}{lo hi:Option Value}{K:ByteArray->Prop}(l u:Nat)(hlo:LoIs lo l)(hhi:Qm8 hi s.size u)(h1:l<=u)(h2:u<=s.size)
  (hk:K (s.extract l u)):CutS P t s lo hi K:=by
 refine⟨(s.extract l u,()),fun w=> ?_,hk⟩
 simp only[Instr.sliceAt,Sem.run_bind,run_underlying hT,Result.andThen_ok,Instr.slice]
 rw[if_neg (by simp)]
 simp only[Sem.run_bind,sbs_run (b:=false) hlo hhi (.inl ⟨rfl,rfl⟩) h1 h2 (Nat.le_refl _),Result.andThen_ok]
 rfl
end
structure Grw(h:Heap)(s:Sl)(h':Heap)(s':Sl):Prop where
 upd:Upd (fun k=>s.blk=some k) h h'
 blk:s'.blk=s.blk\/s'.from_ h.size
theorem Grw.refl(h:Heap)(s:Sl):Grw h s h s:=⟨Upd.refl _ _,.inl rfl⟩
theorem Grw.trans{a b c:Heap}{s t u:Sl}(h1:Grw a s b t)(h2:Grw b t c u):Grw a s c u:=by
 refine⟨h1.upd.trans h2.upd (fun k _ x=>x) fun k hk x=> ?_, ?_⟩
 ·rcases h1.blk with e|e
  ·rw[<-e];exact x
  ·have:=e k x;omega
 ·rcases h2.blk with e|e
  ·rcases h1.blk with e1|e1
   ·exact .inl (e.trans e1)
   ·exact .inr fun g hg=>e1 g (by rw[<-e];exact hg)
  ·exact .inr fun g hg=>Nat.le_trans h1.upd.size (e g hg)
theorem Grw.of_ext{a b:Heap}(s:Sl)(h:Ext a.size a b):Grw a s b s:=⟨h.upd _,.inl rfl⟩
theorem Grw.ext{a b:Heap}{s t:Sl}{B:Nat}(h:Grw a s b t)(hs:s.from_ B)(hB:B<=a.size):Ext B a b:=h.upd.ext hB fun k hk x=>by have:=hs k x;omega
theorem Grw.from_{a b:Heap}{s t:Sl}{B:Nat}(h:Grw a s b t)(hs:s.from_ B)(hB:B<=a.size):t.from_ B:=by
 rcases h.blk with e|e
 ·intro g hg;exact hs g (by rw[<-e];exact hg)
 ·intro g hg;exact Nat.le_trans hB (e g hg)
def cB(l:List UInt8):List Value:=l.map fun b=> .int .u8 b.toNat
def QnA(l:List UInt8):ByteArray:=⟨l.toArray⟩
theorem QfV(a b:List UInt8):cB (a++b)=cB a++cB b:=by simp[cB]
theorem QbY(l:List UInt8):(cB l).length=l.length:=by simp[cB]
theorem cB_one{l:List UInt8}:∀u∈cB l,u.oneCell'=true:=by
 intro u hu
 obtain⟨b,_,rfl⟩:=List.mem_map.1 hu
 rfl
theorem cB_take(l:List UInt8)(n:Nat):(cB l).take n=cB (l.take n):=by simp[cB]
theorem cB_drop(l:List UInt8)(n:Nat):(cB l).drop n=cB (l.drop n):=by simp[cB]
theorem byteCells_eq(s:ByteArray):byteCells s=cB s.data.toList:=rfl
theorem Qi3(l:List UInt8):(QnA l).size=l.length:=by simp[QnA,ByteArray.size]
theorem strB_data(l:List UInt8):(QnA l).data.toList=l:=by simp[QnA]
theorem strB_of(s:ByteArray):QnA s.data.toList=s:=by cases s;simp[QnA]
theorem QlW(l:List UInt8):(QnA l).toList=l:=by
 rw[ByteArray.toList_eq];simp[QnA]
section
variable {P:Program}
structure ByteT(P:Program)(t u e:TypeId):Prop where
 slc:P.underlying t=some (.slice e)
 str:P.underlying u=some .string
 elm:P.underlying e=some (.int .u8)
def byteB(P:Program)(t u e:TypeId):Bool:=
 (match P.underlying t with
  |some (.slice e')=>Nat.beq e' e
  |_=>false)&&isStr (P.underlying u)&&
 (match P.underlying e with
  |some (.int .u8)=>true
  |_=>false)
theorem ByteT.of{t u e:TypeId}(h:byteB P t u e=true):ByteT P t u e:=by
 unfold byteB at h
 simp only[Bool.and_eq_true] at h
 obtain⟨⟨h1,h2⟩,h3⟩:=h
 refine⟨?_, ?_, ?_⟩
 ·split at h1
  ·rename_i e' he;rw[he,Nat.eq_of_beq_eq_true h1]
  ·cases h1
 ·unfold isStr at h2;split at h2
  ·assumption
  ·cases h2
 ·split at h3
  ·assumption
  ·cases h3
theorem loadCells_run{h:Heap}{g o:Nat}{xs:List Value}(hx:∀j,j<xs.length->Qed h ⟨g,o+j,none⟩=xs[j]?)(w:World)(hw:w.heap=h):
  (loadCells ⟨g,o,none⟩ xs.length).run P w= .ok xs.toArray w:=by
 have:=run_firstCells_some (P:=P) w 1 xs.length ⟨g,o,none⟩ xs.length xs.length xs (by simp) fun j u hj=>by
  have hjl:j<xs.length:=(List.getElem?_eq_some_iff.1 hj).1
  rw[Addr.add_lit,QbP,hw,hx j hjl,hj]
 simpa [Builtin.firstCells] using this
theorem Qmv:∀(l:List UInt8) (s:ByteArray),((l.map fun b=>(b.toNat:Int)).foldl (fun r n=>r.push (UInt8.ofNat n.toNat)) s)=⟨s.data++l.toArray⟩
 | [],s=>by cases s;simp
 |b::l,s=>by
  simp only[List.map_cons,List.foldl_cons,Int.toNat_natCast,UInt8.ofNat_toNat]
  rw[Qmv l]
  congr 1
  cases s
  apply Array.ext'
  simp[ByteArray.push]
theorem extract_strB(l:List UInt8)(i j:Nat):(QnA l).extract i j=QnA ((l.drop i).take (j -i)):=by
 apply ByteArray.ext
 rw[ByteArray.data_extract]
 apply Array.ext'
 simp[QnA,List.take_drop]
theorem toS{t u e:TypeId}(hT:ByteT P t u e){s:Sl}{h:Heap}{l:List UInt8}{K:ByteArray->Prop}(hr:RdS h 1 s (cB l))(hk:K (QnA l)):ToS P t u s h K:=by
 refine⟨(QnA l,()),fun w hw=>⟨w, ?_,Env.refl w,hw⟩,hk⟩
 have hlen:l.length=s.n:=by have:=hr.1;rw[QbY] at this;omega
 have e1:(convert t u (.slice s.a s.n s.c)).run P w=(Conv.bytesToString (.slice s.a s.n s.c)).run P w:=by
  cases ha:s.a<;>simp[convert,run_underlying hT.slc,run_underlying hT.str,run_underlying hT.elm]
 rw[e1]
 cases ha:s.a with
 |none=>
  have:l= []:=by
   apply List.eq_nil_of_length_eq_zero
   apply Nat.eq_zero_of_not_pos
   intro hp
   obtain⟨g,o,ha',_⟩:=hr.2 (by rw[QbY];exact hp)
   rw[ha] at ha';cases ha'
  subst this
  simp[Conv.bytesToString,retV,Sh.mk,Kd.mk,QnA]
  rfl
 |some a=>
  by_cases hp:0<l.length
  ·obtain⟨g,o,ha',hx⟩:=hr.2 (by rw[QbY];exact hp)
   rw[ha] at ha';injection ha' with ha';subst ha'
   have h2:=loadCells_run (P:=P) hx w hw
   rw[QbY,hlen] at h2
   have h3:(cB l).toArray=((l.map fun b=>(b.toNat:Int)).map (Value.int .u8)).toArray:=by simp[cB]
   rw[h3] at h2
   rw[run_bytesToString w _ _ s.c _ h2,Qmv]
   simp[retV,Sh.mk,Kd.mk,QnA]
  ·have:l= []:=List.eq_nil_of_length_eq_zero (by omega)
   subst this
   have hn:s.n=0:=by simpa using hlen.symm
   rw[hn]
   have h2:(loadCells a 0).run P w= .ok (([]:List Int).map (Value.int .u8)).toArray w:=by simp[loadCells,loadCellsFrom]
   rw[run_bytesToString w _ _ s.c _ h2]
   simp[retV,Sh.mk,Kd.mk,QnA]
   rfl
end
end
section
open Go Go.ChangeShapes Go.WideShapes
theorem QlH{α:Type}(f:α->List Value)(sz:Nat)(hf:∀x,(f x).length=sz):∀(xs:List α) (i j:Nat) (hi:i<xs.length),j<sz->(xs.flatMap f)[i*sz+j]? =(f xs[i])[j]?
 | [],i,j,hi,_=>by simp at hi
 |x::xs,0,j,_,hj=>by
  simp only[List.flatMap_cons,Nat.zero_mul,Nat.zero_add,List.getElem_cons_zero]
  rw[List.getElem?_append_left (by rw[hf];exact hj)]
 |x::xs,i+1,j,hi,hj=>by
  have ih:=QlH f sz hf xs i j (by simpa using hi) hj
  simp only[List.flatMap_cons,List.getElem_cons_succ]
  rw[List.getElem?_append_right (by rw[hf,Nat.succ_mul];omega),hf,show(i+1)*sz+j -sz=i*sz+j by rw[Nat.succ_mul];omega,ih]
theorem Qjs{α:Type}(f:α->List Value)(sz:Nat)(hf:∀x,(f x).length=sz)(xs:List α):(xs.flatMap f).length=xs.length*sz:=by
 induction xs with
 |nil=>simp
 |cons x xs ih=>simp only[List.flatMap_cons,List.length_append,hf,ih,List.length_cons,Nat.succ_mul];omega
structure Arg(h:Heap)(sz:Nat)(s:Sl)(cs:List Value):Prop where
 rd:RdS h sz s cs
 le:s.n<=s.c
 mx:s.c<=9223372036854775807
 lo:0<s.c->s.below h.size
section
variable {H:Type}{enc:TypeId×Value->H}{P:Program}{w:World}
def El(enc:TypeId×Value->H)(P:Program)(w:World)(e:TypeId)(Q:List Value->Prop):Prop:=
 ∀(n:Nat) (cs:List Value) (x:DataW H×List MemPlace),DataW.trod enc P w 0 (fun _=>true) true n e cs=some x->Q cs
theorem Qmx{e:TypeId}{k:IntKind}(ht:P.underlying e=some (.int k)):El enc P w e fun cs=>∃n,cs= [.int k n]/\(Lit.int k n).wf=true:=fun _ _ _ h=>by
 obtain⟨n,h1,_,h2⟩:=DataW.trod_int ht h
 exact⟨n,h1,h2⟩
theorem cells_of{α:Type}(f:α->List Value)(ok:α->Prop):∀{css:List (List Value)},(∀c∈css,∃a,c=f a/\ok a)->∃as:List α,css.flatten=as.flatMap f/\(∀a∈as,ok a)/\as.length=css.length
 | [],_=>⟨[],rfl,(by simp),rfl⟩
 |c::css,h=>by
  obtain⟨as,h1,h2,h3⟩:=cells_of f ok (css:=css) fun c' hc'=>h c' (List.mem_cons_of_mem _ hc')
  obtain⟨a,rfl,h4⟩:=h c (List.mem_cons_self ..)
  refine⟨a::as,by simp[h1],fun b hb=> ?_,by simp[h3]⟩
  rcases List.mem_cons.1 hb with rfl|hb
  ·exact h4
  ·exact h2 b hb
end
end
section
open Go
theorem wrU8(n:Int):IntKind.u8.wrap n=n%256:=by simp[IntKind.wrap,IntKind.bits,IntKind.signed]
theorem wrU32(n:Int):IntKind.u32.wrap n=n%4294967296:=by simp[IntKind.wrap,IntKind.bits,IntKind.signed]
theorem wrU64(n:Int):IntKind.u64.wrap n=n%18446744073709551616:=by simp[IntKind.wrap,IntKind.bits,IntKind.signed]
theorem wu8{n:Int}(h0:0<=n)(h1:n<256):IntKind.u8.wrap n=n:=by rw[wrU8];omega
theorem wu32{n:Int}(h0:0<=n)(h1:n<4294967296):IntKind.u32.wrap n=n:=by rw[wrU32];omega
theorem wu64{n:Int}(h0:0<=n)(h1:n<18446744073709551616):IntKind.u64.wrap n=n:=by rw[wrU64];omega
theorem shl_eq(k:IntKind)(m:Int)(n:Nat)(hn:n<=k.bits):QaL .shl k m n=k.wrap (m*2^n):=by
 simp only[QaL,Int.toNat_natCast,Nat.min_eq_left hn]
theorem shr_eq(k:IntKind)(m:Int)(n:Nat)(hn:n<=k.bits):QaL .shr k m n=m/2^n:=by
 simp only[QaL,Int.toNat_natCast,Nat.min_eq_left hn]
 rw[Int.fdiv_eq_ediv_of_nonneg _ (Int.le_of_lt (Int.pow_pos (by decide)))]
theorem shl8_u64(m:Int):QaL .shl .u64 m 8=(m*256)%18446744073709551616:=by
 have:=shl_eq .u64 m 8 (by decide)
 rw[show((8:Nat):Int)=8 from rfl] at this
 rw[this,wrU64];rfl
theorem shr8_i64(m:Int):QaL .shr .i64 m 8=m/256:=by
 have:=shr_eq .i64 m 8 (by decide)
 rw[show((8:Nat):Int)=8 from rfl] at this
 rw[this];rfl
theorem shl8_i64{m:Int}(h0:0<=m)(h1:m<36028797018963968):QaL .shl .i64 m 8=m*256:=by
 have:=shl_eq .i64 m 8 (by decide)
 rw[show((8:Nat):Int)=8 from rfl] at this
 rw[this,show(m*2^8:Int)=m*256 from rfl,w64 (by omega) (by omega)]
theorem quo_u64{m n:Int}(h0:0<=m)(h1:m<18446744073709551616)(hn:0<n):divV .quo .u64 m n=m/n:=by
 have hle:m/n<=m:=Int.ediv_le_self _ h0
 have h2:0<=m/n:=Int.ediv_nonneg h0 (by omega)
 simp only[divV]
 rw[Int.tdiv_eq_ediv_of_nonneg h0,wu64 h2 (by omega)]
theorem QhX{k:IntKind}{m n:Int}(h0:0<=m):divV .rem k m n=m%n:=by
 simp only[divV]
 exact Int.tmod_eq_emod_of_nonneg h0
theorem quo_i64{m n:Int}(h0:0<=m)(h1:m<=9223372036854775807)(hn:0<n):divV .quo .i64 m n=m/n:=by
 have hle:m/n<=m:=Int.ediv_le_self _ h0
 have h2:0<=m/n:=Int.ediv_nonneg h0 (by omega)
 simp only[divV]
 rw[Int.tdiv_eq_ediv_of_nonneg h0,w64 (by omega) (by omega)]
theorem Qc0(w a:Nat)(ha:a<2^w):(BitVec.ofInt w (a:Int)).toNat=a:=by
 rw[BitVec.ofInt_natCast,BitVec.toNat_ofNat];exact Nat.mod_eq_of_lt ha
theorem or_u64{a b:Nat}(ha:a<2^64)(hb:b<2^64):QdH .or .u64 a b=((a|||b:Nat):Int):=by
 have hx:a|||b<2^64:=Nat.or_lt_two_pow ha hb
 simp only[QdH]
 rw[BitVec.toNat_or,Qc0 _ a (by simpa [IntKind.bits] using ha),Qc0 _ b (by simpa [IntKind.bits] using hb),wu64 (by omega) (by omega)]
theorem or_i64{a b:Nat}(ha:a<2^63)(hb:b<2^63):QdH .or .i64 a b=((a|||b:Nat):Int):=by
 have hx:a|||b<2^63:=Nat.or_lt_two_pow ha hb
 simp only[QdH]
 rw[BitVec.toNat_or,Qc0 _ a (by simp[IntKind.bits];omega),Qc0 _ b (by simp[IntKind.bits];omega),w64 (by omega) (by omega)]
theorem xor_u8{a b:Nat}(ha:a<2^8)(hb:b<2^8):QdH .xor .u8 a b=((a^^^b:Nat):Int):=by
 have hx:a^^^b<2^8:=Nat.xor_lt_two_pow ha hb
 simp only[QdH]
 rw[BitVec.toNat_xor,Qc0 _ a (by simpa [IntKind.bits] using ha),Qc0 _ b (by simpa [IntKind.bits] using hb),wu8 (by omega) (by omega)]
theorem xor_u32{a b:Nat}(ha:a<2^32)(hb:b<2^32):QdH .xor .u32 a b=((a^^^b:Nat):Int):=by
 have hx:a^^^b<2^32:=Nat.xor_lt_two_pow ha hb
 simp only[QdH]
 rw[BitVec.toNat_xor,Qc0 _ a (by simpa [IntKind.bits] using ha),Qc0 _ b (by simpa [IntKind.bits] using hb),wu32 (by omega) (by omega)]
theorem and_u32{a b:Nat}(ha:a<2^32)(hb:b<2^32):QdH .and .u32 a b=((a&&&b:Nat):Int):=by
 have hx:a&&&b<2^32:=Nat.and_lt_two_pow _ hb
 simp only[QdH]
 rw[BitVec.toNat_and,Qc0 _ a (by simpa [IntKind.bits] using ha),Qc0 _ b (by simpa [IntKind.bits] using hb),wu32 (by omega) (by omega)]
theorem or_low{a c:Nat}(hc:c<256):(a*256)|||c=a*256+c:=by
 have:=Nat.shiftLeft_add_eq_or_of_lt (a:=a) (i:=8) (b:=c) hc
 rw[Nat.shiftLeft_eq,show(2:Nat)^8=256 from rfl] at this
 omega
theorem lit64:(18446744073709551616:Nat)=2^64:=by decide+kernel
theorem lit63:(9223372036854775808:Nat)=2^63:=by decide+kernel
theorem or_u64'{a b:Nat}(ha:a<18446744073709551616)(hb:b<18446744073709551616):QdH .or .u64 a b=((a|||b:Nat):Int):=or_u64 (by rw[<-lit64];exact ha) (by rw[<-lit64];exact hb)
theorem or_i64'{a b:Nat}(ha:a<9223372036854775808)(hb:b<9223372036854775808):QdH .or .i64 a b=((a|||b:Nat):Int):=or_i64 (by rw[<-lit63];exact ha) (by rw[<-lit63];exact hb)
theorem emod64{n:Int}(h0:0<=n)(h1:n<18446744073709551616):n%18446744073709551616=n:=Int.emod_eq_of_lt h0 h1
set_option maxRecDepth 100000 in
theorem shl_or_u64{u c:Nat}(hc:c<256)(hu:u*256+c<18446744073709551616):QdH .or .u64 (QaL .shl .u64 (u:Int) 8) (IntKind.u64.wrap (c:Int))=((u*256+c:Nat):Int):=by
 have e3:u*256<18446744073709551616:=by omega
 have e4:c<18446744073709551616:=by omega
 have e5:((u*256:Nat):Int)=(u:Int)*256:=by omega
 have e6:(0:Int)<=(u:Int)*256:=by omega
 have e7:(u:Int)*256<18446744073709551616:=by omega
 have e8:(c:Int)<18446744073709551616:=by omega
 rw[shl8_u64,wu64 (Int.natCast_nonneg c) e8,emod64 e6 e7,<-e5,or_u64' e3 e4,or_low hc]
theorem QnD{u c:Nat}(hc:c<256)(hu:u<65536):QdH .or .i64 (QaL .shl .i64 (IntKind.i64.wrap (u:Int)) 8) (IntKind.i64.wrap (c:Int))=((u*256+c:Nat):Int):=by
 have e:((u:Int)*256)=((u*256:Nat):Int):=by omega
 rw[w64 (by omega) (by omega),w64 (by omega) (by omega),shl8_i64 (by omega) (by omega),e,or_i64' (by omega) (by omega),or_low hc]
def Qb4(l:List UInt8):Nat:=l.foldl (fun u b=>u*256+b.toNat) 0
theorem QeI(l:List UInt8)(b:UInt8):Qb4 (l++ [b])=Qb4 l*256+b.toNat:=by simp[Qb4]
theorem valBE_lt(l:List UInt8):Qb4 l<256^l.length:=by
 have key:∀l:List UInt8,∀u n,u<256^n->l.foldl (fun u b=>u*256+b.toNat) u<256^(n+l.length):=by
  intro l
  induction l with
  |nil=>intro u n h;exact h
  |cons b l ih=>
   intro u n h
   have hb:=b.toNat_lt
   have:=ih (u*256+b.toNat) (n+1) (by rw[Nat.pow_succ];omega)
   simp only[List.foldl_cons,List.length_cons]
   rwa[show n+(l.length+1)=n+1+l.length by omega]
 have:=key l 0 0 (by simp)
 rwa[Nat.zero_add] at this
theorem QeM{α:Type}(l:List α)(k:Nat)(hk:k<l.length):l.take (k+1)=l.take k++ [l[k]]:=by
 rw[List.take_succ_eq_append_getElem hk]
end
section
open Go
structure ZeroT(P:Program)(e:TypeId)(zs:List Value):Prop where
 z:(P.info? e).bind (fun i=>i.zero.map (·.cells))=some zs.toArray
theorem made_eq(zs:List Value)(c:Nat)(hp:0<zs.length):madeCells zs.toArray (c*zs.length)=((List.replicate c zs).flatten).toArray:=by
 have e:(List.replicate c zs).flatten=(List.range c).flatMap fun _=>zs:=by
  rw[List.flatMap_def]
  congr 1
  apply List.ext_getElem (by simp)
  intro i h1 h2
  simp
 rw[e]
 apply Array.ext
 ·rw[size_madeCells,List.size_toArray,Qjs (fun _=>zs) zs.length (fun _=>rfl),List.length_range]
 ·intro i h1 h2
  rw[size_madeCells] at h1
  have hi:i/zs.length<c:=Nat.div_lt_of_lt_mul (by rw[Nat.mul_comm];exact h1)
  have hr:i%zs.length<zs.length:=Nat.mod_lt _ hp
  have hii:i/zs.length*zs.length+i%zs.length=i:=by rw[Nat.mul_comm];exact Nat.div_add_mod i _
  have h3:=QlH (fun _:Nat=>zs) zs.length (fun _=>rfl) (List.range c) (i/zs.length) (i%zs.length) (by simpa using hi) hr
  rw[hii] at h3
  have h4:((List.range c).flatMap fun _=>zs)[i]? =some zs[i%zs.length]:=by rw[h3,List.getElem?_eq_getElem hr]
  have h2':i<((List.range c).flatMap fun _=>zs).length:=by simpa using h2
  have h5:((List.range c).flatMap fun _=>zs).toArray[i]=zs[i%zs.length]:=by
   rw[List.getElem?_eq_getElem h2'] at h4
   injection h4
  rw[h5]
  simp[madeCells,getElem!_pos,hr]
theorem setH_same{h:Heap}{a:Addr}{v x:Value}(hc:Qed h a=some x):Qed (setH h a v) a=some v:=World.cell?_setCell_same (mkW h) a v hc
theorem QnE(h:Heap){a b:Addr}(v:Value)(hn:a≠b):Qed (setH h a v) b=Qed h b:=World.cell?_setCell_other (mkW h) a b v hn
theorem setH_frozen(h:Heap)(a b:Addr)(v:Value):Qdc (setH h a v) b=Qdc h b:=World.frozen?_setCell (mkW h) a b v
theorem setO{h:Heap}{sz:Nat}{s:Sl}{xs:List Value}{i:Int}{j:Nat}{v:Value}{K:Heap->Prop}(ho:Own h sz s xs)(k:Nat)(hi:i=(k:Int))(hk:k<s.n)(hj:j<sz)
  (hK:∀h',Own h' sz s (xs.set (k*sz+j) v)->Upd (fun g=>s.blk=some g) h h'->h'.size=h.size->K h'):Ix s i sz fun e=>St h (e.add j) v K:=by
 subst hi
 obtain⟨h1,h2,h3,h4⟩:=ho
 have hks:k*sz+sz<=s.n*sz:=by rw[<-Nat.succ_mul];exact Nat.mul_le_mul_right _ hk
 have hkj:k*sz+j<s.n*sz:=by omega
 have hnc:s.n*sz<=s.c*sz:=Nat.mul_le_mul_right _ h2
 rcases h4 with⟨_,hc⟩|⟨g,o,ha,hg,hx,hw⟩
 ·omega
 refine⟨⟨g,o,none⟩,ha,by omega,by omega, ?_⟩
 obtain⟨w1,w2⟩:=hw (k*sz+j) (by omega)
 have hadd:((⟨g,o,none⟩:Addr).add ((k:Int).toNat*sz)).add j=⟨g,o+(k*sz+j),none⟩:=by rw[add0,add0,Int.toNat_natCast,Nat.add_assoc]
 show St h (((⟨g,o,none⟩:Addr).add ((k:Int).toNat*sz)).add j) v K
 rw[hadd]
 obtain⟨x,hx1⟩:=Option.isSome_iff_exists.1 w1
 refine⟨w1,w2,hK _ ⟨by rw[List.length_set];exact h1,h2,h3,.inr ⟨g,o,ha,by rw[Qd7];exact hg,fun q hq=> ?_,fun q hq=> ?_⟩⟩ ⟨by rw[Qd7];exact Nat.le_refl _,fun q hq hn=>setH_get _ _ _ fun e=>hn (by simp[Sl.blk,ha,e])⟩ (Qd7 ..)⟩
 ·rw[List.length_set] at hq
  rw[List.getElem?_set]
  by_cases hqk:k*sz+j=q
  ·subst hqk
   rw[if_pos rfl,if_pos hq,setH_same hx1]
  ·rw[if_neg hqk,QnE _ _ (by intro e;injection e with _ e2 _;omega)]
   exact hx q hq
 ·obtain⟨y1,y2⟩:=hw q hq
  rw[setH_frozen]
  refine⟨?_,y2⟩
  by_cases hqk:k*sz+j=q
  ·subst hqk
   rw[setH_same hx1];rfl
  ·rw[QnE _ _ (by intro e;injection e with _ e2 _;omega)]
   exact y1
theorem setO0{h:Heap}{sz:Nat}{s:Sl}{xs:List Value}{i:Int}{v:Value}{K:Heap->Prop}(ho:Own h sz s xs)(k:Nat)(hi:i=(k:Int))(hk:k<s.n)(hj:0<sz)
  (hK:∀h',Own h' sz s (xs.set (k*sz) v)->Upd (fun g=>s.blk=some g) h h'->h'.size=h.size->K h'):Ix s i sz fun e=>St h e v K:=
 setO (j:=0) ho k hi hk hj hK
theorem Own.below{h:Heap}{sz:Nat}{s:Sl}{xs:List Value}(ho:Own h sz s xs):s.below h.size:=fun g hg=>by
 obtain⟨_,_,_,hh⟩:=ho
 rcases hh with⟨ha,_⟩|⟨g',o,ha,hlt,_⟩
 ·rw[Sl.blk,ha] at hg;cases hg
 ·rw[Sl.blk,ha] at hg;injection hg with hg;rw[<-hg];exact hlt
end
section
open Go
theorem zc_eq(zs:List Value)(n:Nat)(hp:0<zs.length):(Builtin.zeroCells zs.toArray n).toList=(List.replicate n zs).flatten:=by
 have:=made_eq zs n hp
 have e:Builtin.zeroCells zs.toArray n=madeCells zs.toArray (n*zs.length):=by simp[Builtin.zeroCells,madeCells]
 rw[e,this]
theorem clr_core{P:Program}{t e:TypeId}{sz by_:Nat}{zs:List Value}(hT:ElemT P t e sz by_)(hz:ZeroT P e zs)(h1:zs.all (·.oneCell')=true){h:Heap}{g o n c:Nat}{K:Heap->Prop}
  (hc:∀j,j<n*sz->(Qed h ⟨g,o+j,none⟩).isSome=true/\Qdc h ⟨g,o+j,none⟩=false)
  (hk:∀h',(∀x:Addr,(x.block=g->x.spot=none->x.off<o\/o+n*sz<=x.off)->Qed h' x=Qed h x)->(∀x,Qdc h' x=Qdc h x)->(∀j,j<n*sz->(Qed h' ⟨g,o+j,none⟩).isSome=true)->
   Upd (· =g) h h'->h'.size=h.size->K h'):OpT P (Builtin.clear_ #[t] 0 #[.slice (some ⟨g,o,none⟩) n c]) h [] K:=by
 obtain⟨hu,⟨i,z,hi,hzz,hsz,hbb,hzs⟩,hpos⟩:=hT
 have hz1:z.cells=zs.toArray:=by
  have:=hz.z
  rw[hi] at this
  simp only[Option.bind_some,hzz,Option.map_some,Option.some.injEq] at this
  exact this
 have hlz:zs.length=sz:=by rw[<-hzs,hz1];simp
 intro w hw
 by_cases hn:n=0
 ·subst hn
  refine⟨.tuple #[],w, ?_,Env.refl w,(),rfl, ?_⟩
  ·simp[Builtin.clear_,run_underlying hu]
  ·rw[hw]
   exact hk h (fun _ _=>rfl) (fun _=>rfl) (fun j hj=>by rw[Nat.zero_mul] at hj;omega) (Upd.refl _ _) rfl
 ·obtain⟨m,rfl⟩:∃m,n=m+1:=⟨n -1,by omega⟩
  have hv:∀w,(zeroValue e).run P w= .ok z w:=fun w=>by simp[zeroValue,typeInfo,hi,hzz]
  generalize hR:(List.replicate (m+1) zs).flatten=vs
  have hzc:(Builtin.zeroCells z.cells (m+1)).toList=vs:=by rw[hz1,zc_eq _ _ (by omega),hR]
  have hvl:vs.length=(m+1)*sz:=by rw[<-hR,List.length_flatten];simp[hlz]
  have hst:=run_storeCells_cells (P:=P) g o vs 0 w (fun j hj=>by rw[Nat.add_zero,QbP,hw];exact(hc j (by omega)).1) (fun j hj=>by rw[Nat.add_zero,Qeb,hw];exact(hc j (by omega)).2)
   (fun v hv'=>by
    rw[<-hR] at hv'
    obtain⟨l,hl,hvl⟩:=List.mem_flatten.1 hv'
    rw[List.eq_of_mem_replicate hl] at hvl
    exact List.all_eq_true.1 h1 v hvl)
  simp only[Nat.add_zero] at hst
  have hrun:(Builtin.clear_ #[t] 0 #[.slice (some ⟨g,o,none⟩) (m+1) c]).run P w= .ok (.tuple #[]) (w.setCells g o vs):=by
   simp[Builtin.clear_,run_underlying hu,hv,hzc,hst]
  refine⟨.tuple #[],_,hrun,QkW w g vs o,(),rfl, ?_⟩
  refine hk _ (fun x hx=> ?_) (fun x=> ?_) (fun j hj=> ?_) ⟨by rw[QcH,hw];exact Nat.le_refl _,fun k hk hn=>by rw[Qhu g vs o w hn,hw]⟩ (by rw[QcH,hw])
  ·rw[<-QbP,World.cell?_setCells_out g vs o w x (by rw[hvl];exact hx),QbP,hw]
  ·rw[<-Qeb,World.frozen?_setCells,Qeb,hw]
  ·rw[<-QbP,World.cell?_setCells_in g vs o w (fun j hj=>by rw[QbP,hw];exact(hc j (by omega)).1) j (by omega)]
   rfl
theorem cutClr{P:Program}{t e:TypeId}{sz by_:Nat}{zs:List Value}(hT:ElemT P t e sz by_)(hz:ZeroT P e zs)(h1:zs.all (·.oneCell')=true){h:Heap}{s:Sl}{xs:List Value}{lo hi:Option Value}{K:Heap->Prop}(ho:Own h sz s xs)
  (u:Nat) (hlo:LoIs lo s.n) (hhi:Qm8 hi s.n u) (hu:s.n<=u) (huc:u<=s.c)
  (hk:∀h',Own h' sz s xs->Upd (fun g=>s.blk=some g) h h'->h'.size=h.size->K h'):
  Cut P t s lo hi none fun s5=>OpT P (Builtin.clear_ #[t] 0 #[.slice s5.a s5.n s5.c]) h [] K:=by
 refine cut_raw hT s.n u s.c hlo hhi (.inl ⟨rfl,rfl⟩) hu huc (Nat.le_refl _) ?_
 by_cases hun:u=s.n
 ·have e:(Qjv s sz s.n u s.c).n=0:=by show u -s.n=0;omega
  rw[e]
  intro w hw
  refine⟨.tuple #[],w, ?_,Env.refl w,(),rfl, ?_⟩
  ·cases(Qjv s sz s.n u s.c).a<;>simp[Builtin.clear_,run_underlying hT.und]
  ·rw[hw];exact hk h ho (Upd.refl _ _) rfl
 ·obtain⟨hl,hnc,hc63,hh⟩:=ho
  rcases hh with⟨ha,hc0⟩|⟨g,o,ha,hg,hx,hw⟩
  ·omega
  have hcs:(Qjv s sz s.n u s.c).a=some ⟨g,o+s.n*sz,none⟩:=by
   show(if s.c=s.n then s.a else s.a.map (·.add (s.n*sz)))=_
   rw[if_neg (by omega),ha]
   simp only[Option.map_some]
   rw[add0]
  rw[hcs]
  have husz:s.n*sz+(u -s.n)*sz<=s.c*sz:=by rw[<-Nat.add_mul];exact Nat.mul_le_mul_right _ (by omega)
  show OpT P (Builtin.clear_ #[t] 0 #[.slice (some ⟨g,o+s.n*sz,none⟩) (u -s.n) (s.c -s.n)]) h [] K
  refine clr_core hT hz h1 (fun j hj=>by rw[Nat.add_assoc];exact hw _ (by omega)) fun h' hc' hf' hs' hu' hz'=> ?_
  refine hk h' ⟨hl,hnc,hc63,.inr ⟨g,o,ha,by omega,fun j hj=> ?_,fun j hj=>⟨?_,by rw[hf'];exact(hw j hj).2⟩⟩⟩ (hu'.mono fun k _ hk=>by rw[hk];simp[Sl.blk,ha]) hz'
  ·rw[hc' _ fun _ _=> .inl (by show o+j<o+s.n*sz;omega)]
   exact hx j hj
  ·by_cases hin:s.n*sz<=j/\j<s.n*sz+(u -s.n)*sz
   ·have:=hs' (j -s.n*sz) (by omega)
    rwa[show o+s.n*sz+(j -s.n*sz)=o+j by omega] at this
   ·rw[hc' _ fun _ _=>by show o+j<o+s.n*sz\/o+s.n*sz+(u -s.n)*sz<=o+j;omega]
    exact(hw j hj).1
end
section
open Go
structure Enc(α:Type)(sz:Nat) where
 cells:α->List Value
 len:∀x,(cells x).length=sz
 pos:0<sz
 one:∀x,∀u∈cells x,u.oneCell'=true
def Enc.fl{α:Type}{sz:Nat}(E:Enc α sz)(l:List α):List Value:=l.flatMap E.cells
section
variable {α:Type}{sz:Nat}{E:Enc α sz}
theorem Enc.fl_one(E:Enc α sz)(x:α):E.fl [x]=E.cells x:=by simp[Enc.fl]
theorem Enc.fl_len(E:Enc α sz)(l:List α):(E.fl l).length=l.length*sz:=Qjs E.cells sz E.len l
theorem Enc.fl_app(E:Enc α sz)(a b:List α):E.fl (a++b)=E.fl a++E.fl b:=List.flatMap_append ..
theorem Enc.fl_cons(E:Enc α sz)(a:α)(b:List α):E.fl (a::b)=E.cells a++E.fl b:=List.flatMap_cons ..
theorem Enc.fl_get(E:Enc α sz)(l:List α)(k j:Nat)(hk:k<l.length)(hj:j<sz):(E.fl l)[k*sz+j]? =(E.cells l[k])[j]? :=QlH E.cells sz E.len l k j hk hj
theorem Enc.fl_take(E:Enc α sz):∀(l:List α) (n:Nat),(E.fl l).take (n*sz)=E.fl (l.take n)
 | [],n=>by simp[Enc.fl]
 |x::xs,0=>by simp[Enc.fl]
 |x::xs,n+1=>by
  rw[Enc.fl_cons,List.take_succ_cons,Enc.fl_cons,show(n+1)*sz=(E.cells x).length+n*sz by rw[E.len,Nat.succ_mul];omega,List.take_length_add_append,E.fl_take xs n]
theorem Enc.fl_drop(E:Enc α sz):∀(l:List α) (n:Nat),(E.fl l).drop (n*sz)=E.fl (l.drop n)
 | [],n=>by simp[Enc.fl]
 |x::xs,0=>by simp[Enc.fl]
 |x::xs,n+1=>by
  rw[Enc.fl_cons,List.drop_succ_cons,show(n+1)*sz=(E.cells x).length+n*sz by rw[E.len,Nat.succ_mul];omega,List.drop_length_add_append,E.fl_drop xs n]
theorem Enc.fl_ones(E:Enc α sz)(l:List α):∀u∈E.fl l,u.oneCell'=true:=by
 intro u hu
 obtain⟨e,_,he⟩:=List.mem_flatMap.1 hu
 exact E.one e u he
theorem Enc.fl_set(E:Enc α sz):∀(l:List α) (k j:Nat) (v:Value) (y:α) (hk:k<l.length),j<sz->E.cells y=(E.cells l[k]).set j v->(E.fl l).set (k*sz+j) v=E.fl (l.set k y)
 |x::xs,0,j,v,y,_,hj,hy=>by
  rw[Enc.fl_cons,List.set_cons_zero,Enc.fl_cons,Nat.zero_mul,Nat.zero_add,List.set_append_left _ _ (by rw[E.len];exact hj),hy];rfl
 |x::xs,k+1,j,v,y,hk,hj,hy=>by
  rw[Enc.fl_cons,List.set_cons_succ,Enc.fl_cons,List.set_append_right _ _ (by rw[E.len,Nat.succ_mul];omega),E.len,show(k+1)*sz+j -sz=k*sz+j by rw[Nat.succ_mul];omega,
   E.fl_set xs k j v y (by simpa using hk) hj hy]
theorem rdn{h:Heap}{s:Sl}{l:List α}(hr:RdS h sz s (E.fl l)):s.n=l.length:=by
 have:=hr.1
 rw[E.fl_len] at this
 exact(Nat.eq_of_mul_eq_mul_right E.pos this).symm
theorem ownn{h:Heap}{s:Sl}{l:List α}(hr:Own h sz s (E.fl l)):s.n=l.length:=rdn hr.rd
def ElAt(s:Sl)(sz k:Nat)(e:Addr):Prop:=∃g o,s.a=some ⟨g,o,none⟩/\e=⟨g,o+k*sz,none⟩
theorem ixR{h:Heap}{s:Sl}{l:List α}{i:Int}{K:Addr->Prop}(hr:RdS h sz s (E.fl l))(k:Nat)(hi:i=(k:Int))(hk:k<l.length)(hK:∀e,ElAt s sz k e->K e):Ix s i sz K:=by
 subst hi
 have hn:=rdn hr
 have hp:=E.pos
 obtain⟨g,o,ha,_⟩:=hr.2 (by rw[E.fl_len];exact Nat.mul_pos (by omega) hp)
 refine⟨_,ha,by omega,by omega, ?_⟩
 rw[add0,Int.toNat_natCast]
 exact hK _ ⟨g,o,ha,rfl⟩
theorem ldR{kd:Kd}{h:Heap}{s:Sl}{l:List α}{k:Nat}{e:Addr}{K:kd.T->Prop}{j:Nat}(hr:RdS h sz s (E.fl l))(he:ElAt s sz k e)(hk:k<l.length)(x:kd.T)(hx:(E.cells l[k])[j]? =some (kd.mk x))(hK:K x):Ld kd h (e.add j) K:=by
 have hp:=E.pos
 have hj:j<sz:=by
  have:=(List.getElem?_eq_some_iff.1 hx).1
  rwa[E.len] at this
 obtain⟨g,o,ha,rfl⟩:=he
 obtain⟨g',o',ha',hc⟩:=hr.2 (by rw[E.fl_len];exact Nat.mul_pos (by omega) hp)
 rw[ha] at ha'
 simp only[Option.some.injEq,Addr.mk.injEq,and_true] at ha'
 obtain⟨rfl,rfl⟩:=ha'
 rw[add0,Nat.add_assoc]
 have hkl:k*sz+j<(E.fl l).length:=by
  rw[E.fl_len]
  have:(k+1)*sz<=l.length*sz:=Nat.mul_le_mul_right _ hk
  rw[Nat.succ_mul] at this
  omega
 exact ld x ((hc _ hkl).trans ((E.fl_get l k j hk hj).trans hx)) hK
theorem ldR0{kd:Kd}{h:Heap}{s:Sl}{l:List α}{k:Nat}{e:Addr}{K:kd.T->Prop}(hr:RdS h sz s (E.fl l))(he:ElAt s sz k e)(hk:k<l.length)(x:kd.T)(hx:(E.cells l[k])[0]? =some (kd.mk x))(hK:K x):Ld kd h e K:=
 ldR (j:=0) hr he hk x hx hK
theorem stR{h:Heap}{s:Sl}{l:List α}{k:Nat}{e:Addr}{K:Heap->Prop}{j:Nat}{v:Value}(ho:Own h sz s (E.fl l))(he:ElAt s sz k e)(hk:k<l.length)(hj:j<sz)(y:α)(hy:E.cells y=(E.cells l[k]).set j v)
  (hK:∀h',Own h' sz s (E.fl (l.set k y))->Upd (fun g=>s.blk=some g) h h'->h'.size=h.size->K h'):St h (e.add j) v K:=by
 have hn:=ownn ho
 obtain⟨g,o,ha,rfl⟩:=he
 have:=setO (K:=K) (i:=(k:Int)) (j:=j) (v:=v) ho k rfl (by omega) hj fun h' o' u' z'=>by
  rw[E.fl_set l k j v y hk hj hy] at o'
  exact hK h' o' u' z'
 obtain⟨a,ha',_,_,hst⟩:=this
 rw[ha] at ha'
 injection ha' with ha'
 subst ha'
 rw[add0,Int.toNat_natCast] at hst
 exact hst
variable {P:Program}{t ty e:TypeId}{by_:Nat}
theorem cutR{s:Sl}{h:Heap}{l:List α}{lo hi mx:Option Value}{K:Sl->Prop}(hT:ElemT P t e sz by_)(hr:RdS h sz s (E.fl l))(a b m:Nat)(hlo:LoIs lo a)(hhi:Qm8 hi s.n b)
  (hmx:(mx=none/\m=s.c)\/(Qm8 mx s.c m/\hi≠none)) (h1:a<=b) (hu:b<=l.length) (h2:b<=m) (h3:m<=s.c)
  (hk:∀s',RdS h sz s' (E.fl ((l.drop a).take (b -a)))->s'.n=b -a->s'.c=m -a->s'.blk=s.blk->K s'):Cut P t s lo hi mx K:=by
 refine cut_rd hT hr a b m hlo hhi hmx h1 (by rw[rdn hr];exact hu) h2 h3 fun s' r n c bl=>hk s' ?_ n c bl
 rwa[E.fl_drop,E.fl_take] at r
theorem cutRO{s:Sl}{h:Heap}{l:List α}{lo hi mx:Option Value}{K:Sl->Prop}(hT:ElemT P t e sz by_)(hr:Own h sz s (E.fl l))(a b m:Nat)(hlo:LoIs lo a)(hhi:Qm8 hi s.n b)
  (hmx:(mx=none/\m=s.c)\/(Qm8 mx s.c m/\hi≠none)) (h1:a<=b) (hu:b<=l.length) (h2:b<=m) (h3:m<=s.c)
  (hk:∀s',Own h sz s' (E.fl ((l.drop a).take (b -a)))->s'.n=b -a->s'.c=m -a->s'.blk=s.blk->K s'):Cut P t s lo hi mx K:=by
 refine cut_own hT hr a b m hlo hhi hmx h1 (by rw[ownn hr];exact hu) h2 h3 fun s' r n c bl=>hk s' ?_ n c bl
 rwa[E.fl_drop,E.fl_take] at r
theorem appR{s x:Sl}{h:Heap}{xs ys:List α}{K:Sl->Heap->Prop}(hT:ElemT P t e sz by_)(ho:Own h sz s (E.fl xs))(hx:RdS h sz x (E.fl ys))(hlen:(xs.length+ys.length)*by_<=140737488355328)(h63:xs.length+ys.length<=4611686018427387903)
  (hk:∀s' h',Own h' sz s' (E.fl (xs++ys))->Grw h s h' s'->K s' h'):App P t ty s x h K:=by
 have e1:=ownn ho
 have e2:=rdn hx
 refine app hT ho hx (E.fl_ones ys) (by rw[e1,e2];exact hlen) (by rw[e1,e2];exact h63) fun s' h' o n u b=>hk s' h' ?_ ⟨u,b⟩
 rwa[E.fl_app]
theorem app1{s:Sl}{h:Heap}{l:List α}{K:Sl->Heap->Prop}(hT:ElemT P t e sz by_)(x:α)(ho:Own h sz s (E.fl l))(hlen:(l.length+1)*by_<=140737488355328)(h63:l.length+1<=4611686018427387903)
  (hk:∀s' h',Own h' sz s' (E.fl (l++ [x]))->Grw h s h' s'->K s' h'):QaG h (.cells (E.cells x).toArray e) fun b h1=>App P t ty s ⟨some b,1,1⟩ h1 K:=by
 refine alloc fun h1 b1 e1 z1=> ?_
 have r1:RdS h1 sz ⟨some ⟨h.size,0,none⟩,1,1⟩ (E.fl [x]):=by
  rw[E.fl_one]
  exact(Own.full b1 (sz:=sz) (n:=1) (by rw[E.len,Nat.one_mul]) (by decide)).rd
 refine appR hT (ho.ext' e1) r1 hlen h63 fun s' h' o' g'=>hk s' h' o' ?_
 exact(Grw.of_ext s e1).trans g'
end
structure Stp(h:Heap)(F:Nat->Prop)(h':Heap)(F':Nat->Prop):Prop where
 upd:Upd F h h'
 grow:∀g,F' g->F g\/h.size<=g
def Sl.fp(s:Sl):Nat->Prop:=fun g=>s.blk=some g
theorem Grw.stp{a b:Heap}{s t:Sl}(h:Grw a s b t):Stp a s.fp b t.fp:=⟨h.upd,fun g hg=>by
 rcases h.blk with e|e
 ·exact .inl (by rw[Sl.fp,<-e];exact hg)
 ·exact .inr (e g hg)⟩
end
section
open Go
inductive Res where
 |blk (b:Nat) (t:TypeId) (cs:List Value)
 |own (s:Sl) (sz:Nat) (xs:List Value)
 |rd (s:Sl) (sz:Nat) (xs:List Value)
 |any (fp:Nat->Prop) (P:Heap->Prop) (st:∀h h':Heap,h.size<=h'.size->(∀g,fp g->g<h.size->h'[g]? =h[g]?)->P h->P h') (bd:∀h,P h->∀g,fp g->g<h.size)
def Res.fp:Res->Nat->Prop
 | .blk b _ _=>fun g=>g=b
 | .own s _ _=>fun g=>s.blk=some g
 | .rd s _ xs=>fun g=>0<xs.length/\s.blk=some g
 | .any fp _ _ _=>fp
def Res.ok:Res->Heap->Prop
 | .blk b t cs=>fun h=>Blk h b t cs
 | .own s sz xs=>fun h=>Own h sz s xs
 | .rd s sz xs=>fun h=>RdS h sz s xs
 | .any _ P _ _=>P
theorem Res.keep{h h':Heap}:∀(r:Res),h.size<=h'.size->(∀g,r.fp g->g<h.size->h'[g]? =h[g]?)->r.ok h->r.ok h'
 | .blk b t cs,_,hk,ho=>Blk.eq ho (hk b rfl (Blk.lt ho))
 | .own s sz xs,hs,hk,ho=>Own.keep ho hs fun g hg hl=>hk g hg hl
 | .rd s sz xs,_,hk,ho=>by
  by_cases hp:0<xs.length
  ·exact RdS.keep ho fun g hg hl=>hk g ⟨hp,hg⟩ hl
  ·exact⟨ho.1,fun h0=>absurd h0 hp⟩
 | .any fp P st bd,hs,hk,ho=>st h h' hs hk ho
theorem Res.lt{h:Heap}:∀(r:Res),r.ok h->∀g,r.fp g->g<h.size
 | .blk b t cs,ho,g,hg=>by rw[hg];exact Blk.lt ho
 | .own s sz xs,ho,g,hg=>Own.below ho g hg
 | .rd s sz xs,ho,g,hg=>by
  have hb:RdS h sz s xs:=ho
  obtain⟨g',o,ha,hx⟩:=hb.2 hg.1
  have h2:=hg.2
  rw[Sl.blk,ha] at h2
  injection h2 with h2
  rw[<-h2]
  exact Qki (a:=⟨g',o+0,none⟩) ((hx 0 hg.1).trans (List.getElem?_eq_getElem hg.1))
 | .any fp P st bd,ho,g,hg=>bd h ho g hg
def Apart(a b:Res):Prop:=∀g,a.fp g->¬b.fp g
theorem Apart.symm{a b:Res}(h:Apart a b):Apart b a:=fun g hb ha=>h g ha hb
structure At(h0 h:Heap)(L:List Res):Prop where
 ext:Ext h0.size h0 h
 ok:∀r∈L,r.ok h
 lo:∀r∈L,∀g,r.fp g->h0.size<=g
 sep:L.Pairwise Apart
section
variable {h0 h h':Heap}{L:List Res}
theorem At.start(h:Heap):At h h []:=⟨Ext.refl _ _,(fun _ h=>by cases h),(fun _ h=>by cases h),List.Pairwise.nil⟩
theorem At.le(H:At h0 h L):h0.size<=h.size:=H.ext.1
theorem At.perm{L':List Res}(H:At h0 h L)(p:L.Perm L'):At h0 h L':=
 ⟨H.ext,fun r hr=>H.ok r (p.symm.subset hr),fun r hr=>H.lo r (p.symm.subset hr),(p.pairwise_iff fun h=>Apart.symm h).1 H.sep⟩
theorem At.tail{r:Res}(H:At h0 h (r::L)):At h0 h L:=⟨H.ext,fun a ha=>H.ok a (List.mem_cons_of_mem _ ha),fun a ha=>H.lo a (List.mem_cons_of_mem _ ha),(List.pairwise_cons.1 H.sep).2⟩
theorem At.mv(i n:Nat)(H:At h0 h L):At h0 h ((L.drop i).take n++(L.take i++(L.drop i).drop n)):=by
 refine H.perm ?_
 have e:L=L.take i++((L.drop i).take n++(L.drop i).drop n):=by rw[List.take_append_drop,List.take_append_drop]
 conv=>lhs;rw[e]
 refine(List.perm_append_comm).trans ?_
 rw[List.append_assoc]
 exact List.Perm.append_left _ List.perm_append_comm
theorem At.del(i:Nat)(H:At h0 h L):At h0 h (L.eraseIdx i):=
 ⟨H.ext,fun a ha=>H.ok a (List.mem_of_mem_eraseIdx ha),fun a ha=>H.lo a (List.mem_of_mem_eraseIdx ha),H.sep.sublist (List.eraseIdx_sublist ..)⟩
theorem At.get{r:Res}(H:At h0 h L)(i:Nat)(hi:L[i]? =some r):r.ok h:=H.ok r (List.mem_of_getElem? hi)
theorem At.from_{r:Res}(H:At h0 h L)(i:Nat)(hi:L[i]? =some r):∀g,r.fp g->h0.size<=g:=H.lo r (List.mem_of_getElem? hi)
theorem At.ext'(H:At h0 h L)(he:Ext h.size h h'):At h0 h' L:=
 ⟨H.ext.trans (he.mono H.ext.1),fun r hr=>Res.keep r he.1 (fun g _ hl=>he.2 g hl) (H.ok r hr),H.lo,H.sep⟩
theorem At.new{r:Res}(H:At h0 h L)(he:Ext h.size h h')(hr:r.ok h')(hf:∀g,r.fp g->h.size<=g):At h0 h' (r::L):=by
 have H':=H.ext' he
 refine⟨H'.ext,fun a ha=> ?_,fun a ha g hg=> ?_,List.pairwise_cons.2 ⟨fun a ha g hg x=> ?_,H'.sep⟩⟩
 ·rcases List.mem_cons.1 ha with rfl|ha
  ·exact hr
  ·exact H'.ok a ha
 ·rcases List.mem_cons.1 ha with rfl|ha
  ·exact Nat.le_trans H.le (hf g hg)
  ·exact H'.lo a ha g hg
 ·have h1:=Res.lt a (H.ok a ha) g x
  have h2:=hf g hg
  omega
theorem At.turn0{r r':Res}(H:At h0 h (r::L))(hu:Upd r.fp h h')(hr:r'.ok h')(hf:∀g,r'.fp g->r.fp g\/h.size<=g):At h0 h' (r'::L):=by
 obtain⟨s1,s2⟩:=List.pairwise_cons.1 H.sep
 refine⟨H.ext.trans (hu.ext H.le fun k hk x=> ?_),fun a ha=> ?_,fun a ha g hg=> ?_,List.pairwise_cons.2 ⟨fun a ha g hg x=> ?_,s2⟩⟩
 ·have:=H.lo r (List.mem_cons_self ..) k x
  omega
 ·rcases List.mem_cons.1 ha with rfl|ha
  ·exact hr
  ·exact Res.keep a hu.size (fun g hg hl=>hu.keep g hl fun x=>s1 a ha g x hg) (H.ok a (List.mem_cons_of_mem _ ha))
 ·rcases List.mem_cons.1 ha with rfl|ha
  ·rcases hf g hg with y|y
   ·exact H.lo r (List.mem_cons_self ..) g y
   ·exact Nat.le_trans H.le y
  ·exact H.lo a (List.mem_cons_of_mem _ ha) g hg
 ·rcases hf g hg with y|y
  ·exact s1 a ha g y x
  ·have h1:=Res.lt a (H.ok a (List.mem_cons_of_mem _ ha)) g x
   omega
theorem set_perm{r r':Res}:∀(L:List Res) (i:Nat),L[i]? =some r->(L.set i r').Perm (r'::L.eraseIdx i)/\L.Perm (r::L.eraseIdx i)
 | [],_,h=>by simp at h
 |a::L,0,h=>by
  simp only[List.getElem?_cons_zero,Option.some.injEq] at h
  subst h
  exact⟨List.Perm.refl _,List.Perm.refl _⟩
 |a::L,i+1,h=>by
  obtain⟨h1,h2⟩:=set_perm (r:=r) (r':=r') L i (by simpa using h)
  exact⟨(List.Perm.cons a h1).trans (List.Perm.swap ..),(List.Perm.cons a h2).trans (List.Perm.swap ..)⟩
theorem At.turn{r:Res}(H:At h0 h L)(i:Nat)(hi:L[i]? =some r){r':Res}(hu:Upd r.fp h h')(hr:r'.ok h')(hf:∀g,r'.fp g->r.fp g\/h.size<=g):At h0 h' (L.set i r'):=by
 obtain⟨p1,p2⟩:=set_perm (r':=r') L i hi
 exact((H.perm p2).turn0 hu hr hf).perm p1.symm
theorem At.as_{r:Res}(H:At h0 h L)(i:Nat)(hi:L[i]? =some r)(r':Res)(hr:r'.ok h)(hf:∀g,r'.fp g->r.fp g):At h0 h (L.set i r'):=H.turn i hi (Upd.refl _ _) hr fun g hg=> .inl (hf g hg)
theorem At.nil(H:At h0 h L)(sz:Nat):At h0 h (.own ⟨none,0,0⟩ sz []::L):=H.new (Ext.refl _ _) (Own.nil _ _) fun g hg=>by simp[Res.fp,Sl.blk] at hg
theorem QaA{a:Addr}{A B:Prop}(hB:B):cond (some a).isNone A B:=hB
theorem Qap{kd:Kd}{b j:Nat}{t:TypeId}{cs:List Value}{K:kd.T->Prop}(H:At h0 h L)(i:Nat)(hi:L[i]? =some (.blk b t cs))(x:kd.T)(hx:cs[j]? =some (kd.mk x))(hK:K x):Ld kd h ((⟨b,0,none⟩:Addr).add j) K:=
 ldF (H.get i hi) x hx hK
theorem Qac{kd:Kd}{b:Nat}{t:TypeId}{cs:List Value}{K:kd.T->Prop}(H:At h0 h L)(i:Nat)(hi:L[i]? =some (.blk b t cs))(x:kd.T)(hx:cs[0]? =some (kd.mk x))(hK:K x):Ld kd h ⟨b,0,none⟩ K:=
 ldB (H.get i hi) x hx hK
theorem Qa3{b j:Nat}{t:TypeId}{cs:List Value}{v:Value}{K:Heap->Prop}(H:At h0 h L)(i:Nat)(hi:L[i]? =some (.blk b t cs))(hj:Nat.ble (j+1) cs.length=true)(hK:∀h',At h0 h' (L.set i (.blk b t (cs.set j v)))->K h'):St h ((⟨b,0,none⟩:Addr).add j) v K:=
 stF (H.get i hi) (Nat.le_of_ble_eq_true hj) fun h' b' u' _=>hK h' (H.turn i hi (r':= .blk b t (cs.set j v)) u' b' fun _ hg=> .inl hg)
theorem Qas{b:Nat}{t:TypeId}{cs:List Value}{v:Value}{K:Heap->Prop}(H:At h0 h L)(i:Nat)(hi:L[i]? =some (.blk b t cs))(hj:Nat.ble 1 cs.length=true)(hK:∀h',At h0 h' (L.set i (.blk b t (cs.set 0 v)))->K h'):St h ⟨b,0,none⟩ v K:=
 Qa3 (j:=0) H i hi hj hK
theorem Qaj{t:TypeId}{cs:List Value}{K:Addr->Heap->Prop}(H:At h0 h L)(hk:∀h' b,At h0 h' (.blk b t cs::L)->K ⟨b,0,none⟩ h'):QaG h (.cells cs.toArray t) K:=
 alloc fun h' b e _=>hk h' h.size (H.new e b fun g hg=>by rw[show g=h.size from hg];exact Nat.le_refl _)
variable {α:Type}{sz:Nat}{E:Enc α sz}
theorem ixAt{s:Sl}{l:List α}{i:Int}{K:Addr->Prop}(H:At h0 h L)(n:Nat)(hn:L[n]? =some (.own s sz (E.fl l)))(k:Nat)(hi:i=(k:Int))(hk:k<l.length)(hK:∀e,ElAt s sz k e->K e):Ix s i sz K:=
 ixR (Own.rd (H.get n hn)) k hi hk hK
theorem ldEl{kd:Kd}{s:Sl}{l:List α}{k j:Nat}{e:Addr}{K:kd.T->Prop}(H:At h0 h L)(n:Nat)(hn:L[n]? =some (.own s sz (E.fl l)))(he:ElAt s sz k e)(hk:k<l.length)(x:kd.T)(hx:(E.cells l[k])[j]? =some (kd.mk x))(hK:K x):Ld kd h (e.add j) K:=
 ldR (Own.rd (H.get n hn)) he hk x hx hK
theorem ldEl0{kd:Kd}{s:Sl}{l:List α}{k:Nat}{e:Addr}{K:kd.T->Prop}(H:At h0 h L)(n:Nat)(hn:L[n]? =some (.own s sz (E.fl l)))(he:ElAt s sz k e)(hk:k<l.length)(x:kd.T)(hx:(E.cells l[k])[0]? =some (kd.mk x))(hK:K x):Ld kd h e K:=
 ldR0 (Own.rd (H.get n hn)) he hk x hx hK
theorem stEl{s:Sl}{l:List α}{k j:Nat}{e:Addr}{v:Value}{K:Heap->Prop}(y:α)(H:At h0 h L)(n:Nat)(hn:L[n]? =some (.own s sz (E.fl l)))(he:ElAt s sz k e)(hk:k<l.length)(hj:Nat.ble (j+1) sz=true)(hy:E.cells y=(E.cells l[k]).set j v)
  (hK:∀h',At h0 h' (L.set n (.own s sz (E.fl (l.set k y))))->K h'):St h (e.add j) v K:=
 stR (H.get n hn) he hk (Nat.le_of_ble_eq_true hj) y hy fun h' o' u' _=>hK h' (H.turn n hn (r':= .own s sz (E.fl (l.set k y))) u' o' fun _ hg=> .inl hg)
variable {P:Program}{t ty e:TypeId}{by_:Nat}
theorem appAt{s x:Sl}{xs ys:List α}{K:Sl->Heap->Prop}(hT:ElemT P t e sz by_)(H:At h0 h L)(n:Nat)(hn:L[n]? =some (.own s sz (E.fl xs)))(hx:RdS h sz x (E.fl ys))(hlen:(xs.length+ys.length)*by_<=140737488355328)(h63:xs.length+ys.length<=4611686018427387903)
  (hk:∀s' h',At h0 h' (L.set n (.own s' sz (E.fl (xs++ys))))->K s' h'):App P t ty s x h K:=
 appR hT (H.get n hn) hx hlen h63 fun s' h' o' g'=>hk s' h' (H.turn n hn (r':= .own s' sz (E.fl (xs++ys))) g'.upd o' g'.stp.grow)
theorem app1At{s:Sl}{l:List α}{K:Sl->Heap->Prop}(hT:ElemT P t e sz by_)(H:At h0 h L)(n:Nat)(hn:L[n]? =some (.own s sz (E.fl l)))(x:α)(hlen:(l.length+1)*by_<=140737488355328)(h63:l.length+1<=4611686018427387903)
  (hk:∀s' h',At h0 h' (L.set n (.own s' sz (E.fl (l++ [x]))))->K s' h'):QaG h (.cells (E.cells x).toArray e) fun b h1=>App P t ty s ⟨some b,1,1⟩ h1 K:=
 app1 hT x (H.get n hn) hlen h63 fun s' h' o' g'=>hk s' h' (H.turn n hn (r':= .own s' sz (E.fl (l++ [x]))) g'.upd o' g'.stp.grow)
theorem app1B{s:Sl}{l:List α}{K:Sl->Heap->Prop}{b:Nat}{tb:TypeId}{cs:List Value}(hT:ElemT P t e sz by_)(H:At h0 h L)(n:Nat)(hn:L[n]? =some (.own s sz (E.fl l)))(m:Nat)(hm:L[m]? =some (.blk b tb cs))(x:α)(hx:E.cells x=cs)
  (hlen:(l.length+1)*by_<=140737488355328) (h63:l.length+1<=4611686018427387903)
  (hk:∀s' h',At h0 h' (L.set n (.own s' sz (E.fl (l++ [x]))))->K s' h'):App P t ty s ⟨some ⟨b,0,none⟩,1,1⟩ h K:=by
 refine appAt (ys:= [x]) hT H n hn ?_ hlen h63 hk
 rw[E.fl_one,hx]
 have hb:Blk h b tb cs:=H.get m hm
 exact(Own.full hb (sz:=sz) (n:=1) (by rw[<-hx,E.len,Nat.one_mul]) (by decide)).rd
theorem At.of_ext(he:Ext h0.size h0 h):At h0 h []:=⟨he,(fun _ h=>by cases h),(fun _ h=>by cases h),List.Pairwise.nil⟩
theorem At.arg{s:Sl}{xs:List Value}{sz:Nat}(H:At h0 h L)(hr:RdS h0 sz s xs):RdS h sz s xs:=hr.ext' H.ext
theorem At.own{s:Sl}{xs:List Value}{sz:Nat}(H:At h0 h L)(n:Nat)(hn:L[n]? =some (.own s sz xs)):Own h sz s xs:=H.get n hn
theorem At.rdo{s:Sl}{xs:List Value}{sz:Nat}(H:At h0 h L)(n:Nat)(hn:L[n]? =some (.own s sz xs)):RdS h sz s xs:=Own.rd (H.get n hn)
theorem At.n{s:Sl}{l:List α}(H:At h0 h L)(n:Nat)(hn:L[n]? =some (.own s sz (E.fl l))):s.n=l.length:=ownn (H.get n hn)
end
end
section
open Go
section
variable {P:Program}{t tx tn ty e:TypeId}{sz by_:Nat}
end
section
variable {P:Program}{t tn ov e:TypeId}{sz by_:Nat}{α:Type}{E:Enc α sz}
end
end
section
open Go
structure RE where
 term:Int
 data:ByteArray
structure RM where
 kind:Int
 from_:Int
 to:Int
 term:Int
 index:Int
 logTerm:Int
 commit:Int
 yes:Bool
 ents:List RE
structure RN where
 id:Int
 n:Int
 elect:Int
 beat:Int
 term:Int
 vote:Int
 role:Int
 leader:Int
 since:Int
 quiet:Int
 commit:Int
 votes:Nat
 heard:Nat
 next:Nat->Int
 matc:Nat->Int
 log:List RE
 out:List RM
 hard:Bool
 from_:Int
def QoF:Nat->Nat->Nat
 |0,_=>0
 |k+1,x=>x%2+QoF k (x/2)
def Qa9(es:List RE):Int:=(es.getLast?.map (·.term)).getD 0
def QaH(es:List RE)(i:Int):Int×Bool:=
 if i<0\/i>es.length then(0,false) else if i=0 then(0,true) else((es[i.toNat -1]?.map (·.term)).getD 0,true)
def Qgr(es:List RE)(index most:Int):List RE:=(es.drop ((if 1>index then 1 else index).toNat -1)).take most.toNat
def Qd4(es:List RE)(index term:Int):Prop:=term>Qa9 es\/(term=Qa9 es/\index>=es.length)
instance (es:List RE) (i t:Int):Decidable (Qd4 es i t):=by unfold Qd4;infer_instance
def Ql8(X:RN)(to:Int)(m:RM):RN:={X with out:=X.out++ [{m with from_:=X.id,to:=to}]}
def Qax(X:RN)(k:Nat):List Nat:=(List.range k).filter fun(t:Nat)=>decide ((t:Int)≠X.id)
def rAll(X:RN)(m:RM):RN:={X with out:=X.out++(Qax X X.n.toNat).map fun t=>{m with from_:=X.id,to:=(t:Int)}}
def Qbk(X:RN)(t:Nat):RM:=⟨5,X.id,t,X.term,X.next t -1,(QaH X.log (X.next t -1)).1,X.commit,false,Qgr X.log (X.next t -1+1) 8⟩
def rTo(X:RN)(t:Nat):RN:={X with out:=X.out++ [Qbk X t]}
def Qa4(X:RN):RN:={X with since:=0,out:=X.out++(Qax X X.n.toNat).map (Qbk X)}
def QaN(X:RN)(i:Int):RN:={X with from_:=if X.from_=0\/i<X.from_ then i else X.from_}
def Qai(X:RN)(t l:Int):RN:=if t>X.term then{X with term:=t,vote:= -1,hard:=true,role:=0,leader:=l} else{X with role:=0,leader:=l}
def Qj1(X:RN)(i:Int):Nat:=((List.range X.n.toNat).filter fun(t:Nat)=>decide ((t:Int)=X.id\/X.matc t>=i)).length
def Qba(X:RN):Nat->Option Nat
 |0=>none
 |i+1=>if((i+1:Nat):Int)<=X.commit then none else if(QaH X.log ((i+1:Nat):Int)).1≠X.term then none else if 2*(Qj1 X ((i+1:Nat):Int):Int)>X.n then some (i+1) else Qba X i
def Qaf(X:RN):RN:=match Qba X X.log.length with
 |none=>X
 |some c=>Qa4 {X with commit:=(c:Int)}
def Qc7(X:RN)(data:ByteArray):RN×Int:=
 if X.term<Qa9 X.log then(X,5) else if X.log.length>=1024 then(X,7)
 else(Qaf (Qa4 (QaN {X with log:=X.log++ [⟨X.term,data⟩]} ((X.log.length:Int)+1))),0)
def Qay(X:RN):RN:={X with since:=0,quiet:=0,role:=3,leader:=X.id,heard:=0,next:=fun t=>if(t:Int)<X.n then(X.log.length:Int)+1 else X.next t,matc:=fun t=>if(t:Int)<X.n then 0 else X.matc t}
def Qbh(X:RN):RN:=if(Qc7 (Qay X) ⟨#[]⟩).2≠0 then Qai (Qc7 (Qay X) ⟨#[]⟩).1 (Qc7 (Qay X) ⟨#[]⟩).1.term (-1) else(Qc7 (Qay X) ⟨#[]⟩).1
def QaF(X:RN)(v:Nat):Prop:=2*(QoF 7 v:Int)>X.n
instance (X:RN) (v:Nat):Decidable (QaF X v):=inferInstanceAs (Decidable (2*(QoF 7 v:Int)>X.n))
def QbB(X:RN):RN:={X with since:=0,role:=2,votes:=2^X.id.toNat,term:=X.term+1,vote:=X.id,hard:=true}
def QaU(X:RN):RN:=if QaF X (2^X.id.toNat) then Qbh (QbB X) else rAll (QbB X) ⟨3,0,0,X.term+1,X.log.length,Qa9 X.log,0,false,[]⟩
def Qg0(X:RN):RN:={X with since:=0,role:=1,leader:= -1,votes:=2^X.id.toNat}
def QfO(X:RN):RN:=if QaF X (2^X.id.toNat) then QaU (Qg0 X) else rAll (Qg0 X) ⟨1,0,0,X.term+1,X.log.length,Qa9 X.log,0,false,[]⟩
def QeP(X:RN):RN:=if X.since>=X.beat then Qa4 X else X
def Qk8(X:RN):RN:=
 if X.quiet+1>=X.elect then
  if ¬QaF X (X.heard|||2^X.id.toNat) then{Qai {X with quiet:=0,heard:=0} X.term (-1) with since:=0} else QeP {X with quiet:=0,heard:=0}
 else QeP {X with quiet:=X.quiet+1}
def Qah(X:RN)(draw:Int):RN:=
 if X.role=3 then Qk8 {X with since:=X.since+1}
 else if X.term<1099511627776/\X.since+1>=X.elect+(if 0>draw then 0 else draw)%X.elect then QfO {X with since:=X.since+1} else{X with since:=X.since+1}
def Qam(X:RN)(data:ByteArray):RN×Int×Int:=
 if X.role≠3 then(X,0,13) else if data.size>512 then(X,0,4)
 else if(Qc7 X data).2≠0 then((Qc7 X data).1,0,(Qc7 X data).2) else((Qc7 X data).1,((Qc7 X data).1.log.length:Int),0)
def oddE(t:Int)(e:RE):Prop:=e.term>t\/e.term<1\/e.data.size>512
instance (t:Int) (e:RE):Decidable (oddE t e):=by unfold oddE;infer_instance
def QaR(X:RN)(m:RM):Prop:=m.to=X.id/\m.from_≠X.id/\0<=m.from_/\m.from_<X.n/\1<=m.kind/\m.kind<=6/\0<=m.term/\m.term<=1099511627776/\m.ents.length<=8/\∀e∈m.ents,¬oddE m.term e
instance (X:RN) (m:RM):Decidable (QaR X m):=by unfold QaR;infer_instance
def Qib(X:RN)(to:Int)(yes:Bool)(index:Int):RN:=Ql8 X to ⟨6,0,0,X.term,index,0,0,yes,[]⟩
def QkQ(X:RN)(m:RM):Prop:=m.term>X.term/\Qd4 X.log m.index m.logTerm/\X.role≠3/\(X.leader= -1\/X.since>=X.elect)
instance (X:RN) (m:RM):Decidable (QkQ X m):=by unfold QkQ;infer_instance
def QiB(X:RN)(m:RM):RN:=Ql8 X m.from_ ⟨2,0,0,if QkQ X m then m.term else X.term,0,0,0,decide (QkQ X m),[]⟩
def QaS(X:RN)(m:RM):RN:=
 if m.yes=false/\m.term>X.term then Qai X m.term (-1)
 else if m.yes=true/\m.term=X.term+1/\X.role=1 then
  if QaF X (X.votes|||2^m.from_.toNat) then QaU {X with votes:=X.votes|||2^m.from_.toNat} else{X with votes:=X.votes|||2^m.from_.toNat}
 else X
def Qbm(X:RN)(m:RM):Prop:=(X.vote= -1\/X.vote=m.from_)/\X.role≠3/\Qd4 X.log m.index m.logTerm
instance (X:RN) (m:RM):Decidable (Qbm X m):=by unfold Qbm;infer_instance
def Qbg(X:RN)(m:RM):RN:=
 Ql8 (if Qbm X m then{X with hard:=X.hard||(X.vote !=m.from_),vote:=m.from_,since:=0} else X) m.from_ ⟨4,0,0,X.term,0,0,0,decide (Qbm X m),[]⟩
def Qar(X:RN)(m:RM):RN:=
 if m.yes=false\/X.role≠2 then X
 else if QaF X (X.votes|||2^m.from_.toNat) then Qbh {X with votes:=X.votes|||2^m.from_.toNat} else{X with votes:=X.votes|||2^m.from_.toNat}
def upd(f:Nat->Int)(k:Nat)(v:Int):Nat->Int:=fun t=>if t=k then v else f t
def Qfh(X:RN)(k:Nat):RN:={X with heard:=X.heard|||2^k}
def mx(a b:Int):Int:=if b>a then b else a
def Qau(X:RN)(k:Nat)(i:Int):RN:={Qfh X k with matc:=upd X.matc k (mx (X.matc k) i),next:=upd X.next k (mx (X.matc k) i+1)}
def mn(a b:Int):Int:=if b<a then b else a
def Qcx(X:RN)(k:Nat)(i:Int):RN:={Qfh X k with next:=upd X.next k (mx (mn (mn (mx i 0) X.log.length+1) (X.next k -1)) (X.matc k+1))}
def QaC(X:RN)(m:RM):RN:=
 if X.role≠3 then X
 else if m.yes=true/\0<=m.index/\m.index<=X.log.length then
  if(Qaf (Qau X m.from_.toNat m.index)).matc m.from_.toNat<X.log.length then rTo (Qaf (Qau X m.from_.toNat m.index)) m.from_.toNat else Qaf (Qau X m.from_.toNat m.index)
 else if m.yes=false then rTo (Qcx X m.from_.toNat m.index) m.from_.toNat else Qfh X m.from_.toNat
def Qab(X:RN)(m:RM):RN:=if m.term>X.term then Qai X m.term (-1) else X
def Ql9(id n elect beat term vote:Int)(es:List RE):RN:=⟨id,n,elect,beat,term,vote,0, -1,0,0,0,0,0,fun _=>0,fun _=>0,es,[],false,0⟩
theorem pow7{n:Int}(h0:0<=n)(h7:n<7):2^n.toNat<128:=Nat.pow_lt_pow_right (a:=2) (m:=n.toNat) (n:=7) (by decide) (by omega)
theorem or7{a:Nat}{n:Int}(ha:a<128)(h0:0<=n)(h7:n<7):a|||2^n.toNat<128:=Nat.or_lt_two_pow (n:=7) ha (pow7 h0 h7)
end
section
theorem QoD{p q:List RE}(h:p<+:q):p=q.take p.length:=List.prefix_iff_eq_take.1 h
theorem QbT(l:List RE)(n:Nat):l.take n<+:l:=List.take_prefix n l
theorem Qbf{p q:List RE}(h:p<+:q):p.length<=q.length:=h.length_le
theorem QeC{p q l:List RE}(hp:p<+:l)(hq:q<+:l)(h:p.length<=q.length):p<+:q:=List.prefix_of_prefix_length_le hp hq h
theorem Qhi{l:List RE}{a b:Nat}(h:a<=b):l.take a<+:l.take b:=by
 refine QeC (QbT l a) (QbT l b) ?_
 rw[List.length_take,List.length_take];omega
theorem Qgg{p q:List RE}(h:p<+:q){n:Nat}(hn:n<=p.length):p.take n=q.take n:=by
 rw[QoD h,List.take_take,Nat.min_eq_left hn]
theorem Qbv{p q:List RE}(h:p<+:q){n:Nat}(hn:n<p.length):q[n]? =p[n]? :=by
 obtain⟨r,rfl⟩:=h
 rw[List.getElem?_append_left hn]
theorem pre_same{p q:List RE}(h1:p<+:q)(h2:q.length<=p.length):p=q:=h1.eq_of_length_le h2
def Maj(k:Nat)(P:Nat->Prop):Prop:=∃q:Nat->Bool,(∀i,q i=true->i<k/\P i)/\k<2*(List.range k).countP q
theorem count_and(q r:Nat->Bool):∀k,(List.range k).countP q+(List.range k).countP r<=k+(List.range k).countP (fun i=>q i&&r i):=by
 intro k
 induction k with
 |zero=>exact Nat.le_refl _
 |succ k ih=>
  rw[List.range_succ,List.countP_append,List.countP_append,List.countP_append,List.countP_singleton,List.countP_singleton,List.countP_singleton]
  cases q k<;>cases r k<;>simp<;>omega
theorem Maj.meet{k:Nat}{P Q:Nat->Prop}(h1:Maj k P)(h2:Maj k Q):∃i,i<k/\P i/\Q i:=by
 obtain⟨q,hq,cq⟩:=h1
 obtain⟨r,hr,cr⟩:=h2
 have:=count_and q r k
 have hp:0<(List.range k).countP (fun i=>q i&&r i):=by omega
 obtain⟨i,_,hi⟩:=List.countP_pos_iff.1 hp
 rw[Bool.and_eq_true] at hi
 exact⟨i,(hq i hi.1).1,(hq i hi.1).2,(hr i hi.2).2⟩
theorem Maj.mono{k:Nat}{P Q:Nat->Prop}(h:Maj k P)(hpq:∀i,i<k->P i->Q i):Maj k Q:=by
 obtain⟨q,hq,cq⟩:=h
 exact⟨q,fun i hi=>⟨(hq i hi).1,hpq i (hq i hi).1 (hq i hi).2⟩,cq⟩
structure GH where
 V:Nat->Int->Int
 ll:Int->List RE
 ld:Int->Int
 ack:Nat->Int->Nat
 cl:Int->Int->Option (List RE)
def LM(g:GH)(l:List RE):Prop:=∀j,(hj:j<l.length)->l.take (j+1)<+:g.ll l[j].term
def Mono(l:List RE):Prop:=l.Pairwise fun a b=>a.term<=b.term
def Ter(l:List RE)(T:Int):Prop:=∀e∈l,1<=e.term/\e.term<=T
def Ow(g:GH)(t:Int)(j:Nat):Prop:=1<=j/\∃e,(g.ll t)[j -1]? =some e/\e.term=t
def Bd(g:GH)(t:Int)(j:Nat)(u:Int):Prop:=t<u/\g.ll u≠ []/\¬(g.ll t).take j<+:g.ll u
def Kp(g:GH)(v:Nat)(T:Int)(l:List RE):Prop:=∀t j,j<=g.ack v t->Ow g t j->(g.ll t).take j<+:l\/∃u,u<=T/\Bd g t j u
def Utd(c l:List RE):Prop:=Qa9 c>Qa9 l\/(Qa9 c=Qa9 l/\l.length<=c.length)
def Rec(g:GH)(t c:Int)(v:Nat):Prop:=∃lv lc,g.cl t c=some lc/\LM g lv/\Mono lv/\Utd lc lv/\∀t0 j,t0<t->j<=g.ack v t0->Ow g t0 j->(g.ll t0).take j<+:lv\/∃u,u<t/\Bd g t0 j u
def Com(k:Nat)(g:GH)(t:Int)(j:Nat):Prop:=Ow g t j/\Maj k fun v=>j<=g.ack v t
def Cm(k:Nat)(g:GH)(T:Int)(p:List RE):Prop:=p= []\/∃t j,t<=T/\Com k g t j/\p<+:(g.ll t).take j
theorem Ow.len{g:GH}{t:Int}{j:Nat}(h:Ow g t j):j<=(g.ll t).length:=by
 obtain⟨h1,e,h2,_⟩:=h
 have:=(List.getElem?_eq_some_iff.1 h2).1
 omega
theorem Ow.ne{g:GH}{t:Int}{j:Nat}(h:Ow g t j):g.ll t≠ []:=fun e=>by
 have:=h.len
 have:=h.1
 rw[e] at*
 simp at*
 omega
structure LL(k:Nat)(g:GH)(t:Int):Prop where
 lm:LM g (g.ll t)
 mono:Mono (g.ll t)
 ter:Ter (g.ll t) t
 t1:1<=t
 who:0<=g.ld t/\g.ld t<k
 base:∃b e,g.cl t (g.ld t)=some b/\e.term=t/\b++ [e]<+:g.ll t/\Ter b (t -1)/\∀x∈(g.ll t).drop b.length,x.term=t
 maj:Maj k fun v=>g.V v t=g.ld t/\Rec g t (g.ld t) v
theorem QfQ{l:List RE}(h:0<l.length):Qa9 l=l[l.length -1].term:=by
 unfold Qa9
 rw[List.getLast?_eq_getElem?,List.getElem?_eq_getElem (by omega)]
 rfl
theorem lastT_nil:Qa9 []=0:=rfl
theorem LM.last{g:GH}{l:List RE}(h:LM g l)(hl:0<l.length):l<+:g.ll (Qa9 l):=by
 have:=h (l.length -1) (by omega)
 rw[QfQ hl]
 rwa[Nat.sub_add_cancel hl,List.take_length] at this
theorem Mono.last{l:List RE}(h:Mono l){j:Nat}(hj:j<l.length):l[j].term<=Qa9 l:=by
 rw[QfQ (by omega)]
 rcases Nat.lt_or_ge j (l.length -1) with h1|h1
 ·exact List.pairwise_iff_getElem.1 h j (l.length -1) hj (by omega) h1
 ·have:j=l.length -1:=by omega
  simp only[this];exact Int.le_refl _
theorem Ow.last{g:GH}{t:Int}{j:Nat}(h:Ow g t j){l:List RE}(hp:(g.ll t).take j<+:l)(hm:Mono l):t<=Qa9 l:=by
 obtain⟨h1,e,h2,h3⟩:=h
 have hl:=Ow.len ⟨h1,e,h2,h3⟩
 have hlen:((g.ll t).take j).length=j:=by rw[List.length_take];omega
 have h4:l[j -1]? =some e:=by
  rw[Qbv hp (by omega),List.getElem?_take_of_lt (by omega),h2]
 obtain⟨h5,h6⟩:=List.getElem?_eq_some_iff.1 h4
 have:=hm.last h5
 rw[h6,h3] at this
 exact this
theorem lc{k:Nat}{g:GH}(I:∀t,g.ll t≠ []->LL k g t){t:Int}{j:Nat}(hc:Com k g t j):∀(n:Nat) (u:Int),(u -t).toNat<=n->t<u->g.ll u≠ []->(g.ll t).take j<+:g.ll u:=by
 intro n
 induction n with
 |zero=>intro u h1 h2;omega
 |succ n ih=>
  intro u hu htu hne
  have hlen:((g.ll t).take j).length=j:=by rw[List.length_take];have:=hc.1.len;omega
  have hj1:=hc.1.1
  obtain⟨b,e,hcl,het,hbe,hbt,_⟩:=(I u hne).base
  obtain⟨v,hv,⟨_,lv,lc',hcl2,hlm,hmono,hutd,hkeep⟩,hack⟩:=(I u hne).maj.meet hc.2
  obtain rfl:b=lc':=by rw[hcl] at hcl2;injection hcl2
  have hsmall:∀w,t<w->w<u->g.ll w≠ []->(g.ll t).take j<+:g.ll w:=fun w h1 h2 h3=>ih w (by omega) h1 h3
  have hpv:(g.ll t).take j<+:lv:=by
   rcases hkeep t j htu hack hc.1 with h|⟨w,hw,hb⟩
   ·exact h
   ·exact absurd (hsmall w hb.1 hw hb.2.1) hb.2.2
  have hlast:=hc.1.last hpv hmono
  have ht1:=(I t hc.1.ne).t1
  have hlv:0<lv.length:=by have:=Qbf hpv;omega
  have hbpre:b<+:g.ll u:=(List.prefix_append b [e]).trans hbe
  have hbl:0<b.length:=by
   rcases Nat.eq_zero_or_pos b.length with h0|h0
   ·have:b= []:=List.eq_nil_of_length_eq_zero h0
    subst this
    rcases hutd with h|h
    ·rw[lastT_nil] at h;omega
    ·rw[lastT_nil] at h;omega
   ·exact h0
  have hblm:LM g b:=fun i hi=>by
   have h1:=(I u hne).lm i (by have:=Qbf hbpre;omega)
   have h2:(g.ll u)[i]'(by have:=Qbf hbpre;omega)=b[i]:=by
    have:=Qbv hbpre hi
    rw[List.getElem?_eq_getElem hi,List.getElem?_eq_getElem (by have:=Qbf hbpre;omega)] at this
    injection this
   rw[h2] at h1
   rwa[Qgg hbpre (by omega)]
  have hblast:b<+:g.ll (Qa9 b):=hblm.last hbl
  have hb2:Qa9 b<u:=by
   rw[QfQ hbl]
   have:=(hbt _ (List.getElem_mem (by omega:b.length -1<b.length))).2
   omega
  refine List.IsPrefix.trans ?_ hbpre
  rcases hutd with h|⟨h1,h2⟩
  ·have h3:=hsmall (Qa9 b) (by omega) hb2 (fun h0=>by rw[h0] at hblast;have h9:=Qbf hblast;rw[List.length_nil] at h9;omega)
   rcases Nat.lt_or_ge b.length j with h4|h4
   ·have h5:b<+:g.ll t:=(QeC hblast h3 (by omega)).trans (QbT _ _)
    have h6:(g.ll t)[b.length -1]? =some b[b.length -1]:=by rw[Qbv h5 (by omega),List.getElem?_eq_getElem (by omega)]
    have h7:=((I t hc.1.ne).ter _ (List.mem_of_getElem? h6)).2
    rw[<-QfQ hbl] at h7
    omega
   ·exact QeC h3 hblast (by omega)
  ·have h3:=hlm.last hlv
   rw[<-h1] at h3
   exact hpv.trans (QeC h3 hblast h2)
theorem lc'{k:Nat}{g:GH}(I:∀t,g.ll t≠ []->LL k g t){t u:Int}{j:Nat}(hc:Com k g t j)(h:t<=u)(hne:g.ll u≠ []):(g.ll t).take j<+:g.ll u:=by
 rcases Int.lt_or_eq_of_le h with h|rfl
 ·exact lc I hc _ u (Nat.le_refl _) h hne
 ·exact QbT _ _
theorem Cm.pre{k:Nat}{g:GH}(I:∀t,g.ll t≠ []->LL k g t){T:Int}{p:List RE}(h:Cm k g T p)(hne:g.ll T≠ []):p<+:g.ll T:=by
 rcases h with rfl|⟨t,j,h1,h2,h3⟩
 ·exact List.nil_prefix
 ·exact h3.trans (lc' I h2 h1 hne)
theorem Cm.sub{k:Nat}{g:GH}{T U:Int}{p q:List RE}(h:Cm k g T p)(hq:q<+:p)(hu:T<=U):Cm k g U q:=by
 rcases h with rfl|⟨t,j,h1,h2,h3⟩
 ·exact .inl (List.prefix_nil.1 hq)
 ·exact .inr ⟨t,j,by omega,h2,hq.trans h3⟩
end
section
structure GLe(g g':GH):Prop where
 V:∀v t,g.V v t= -1\/g'.V v t=g.V v t
 ll:∀t,g.ll t<+:g'.ll t
 ld:∀t,g.ll t≠ []->g'.ld t=g.ld t
 ack:∀v t,g.ack v t<=g'.ack v t
 ackf:∀v t u,g.V v u≠ -1->t<u->g'.ack v t=g.ack v t
 cl:∀t c l,g.cl t c=some l->g'.cl t c=some l
structure GI(k:Nat)(g:GH):Prop where
 L:∀t,g.ll t≠ []->LL k g t
 A:∀v t,g.ack v t<=(g.ll t).length
 D:∀t,∀e∈g.ll t,e.data.size<=100
def LAdd(g g':GH):Prop:=g'.ll=g.ll\/∃T l e,e.term=T/\LM g l/\(g.ll T=l\/(g.ll T= []/\∀x∈l,x.term≠T))/\g'.ll=fun t=>if t=T then l++ [e] else g.ll t
structure GBy(i:Nat)(g g':GH):Prop extends GLe g g' where
 oV:∀v,v≠i->g'.V v=g.V v
 oA:∀v,v≠i->g'.ack v=g.ack v
 oC:∀t (v:Nat),v≠i->g'.cl t v=g.cl t v
 oL:∀t,(g'.ll t=g.ll t/\g'.ld t=g.ld t)\/g'.ld t=i
 oG:LAdd g g'
theorem QiC{p q:List RE}(h:p<+:q)(hp:p≠ []):q≠ []:=fun e=>by
 rw[e] at h
 exact hp (List.prefix_nil.1 h)
theorem GLe.refl(g:GH):GLe g g:=⟨fun _ _=> .inr rfl,fun _=>List.prefix_refl _,fun _ _=>rfl,fun _ _=>Nat.le_refl _,fun _ _ _ _ _=>rfl,fun _ _ _ h=>h⟩
theorem GBy.refl(i:Nat)(g:GH):GBy i g g:=⟨GLe.refl g,fun _ _=>rfl,fun _ _=>rfl,fun _ _ _=>rfl,fun _=> .inl ⟨rfl,rfl⟩,.inl rfl⟩
theorem GLe.trans{a b c:GH}(h:GLe a b)(k:GLe b c):GLe a c:=by
 have hV:∀v u,a.V v u≠ -1->b.V v u≠ -1:=fun v u hn=>by
  rcases h.V v u with e|e
  ·exact absurd e hn
  ·rw[e];exact hn
 refine⟨fun v t=> ?_,fun t=>(h.ll t).trans (k.ll t),fun t ht=> ?_,fun v t=>Nat.le_trans (h.ack v t) (k.ack v t),fun v t u hu htu=> ?_,fun t c l hl=>k.cl t c l (h.cl t c l hl)⟩
 ·by_cases e:a.V v t= -1
  ·exact .inl e
  ·refine .inr ?_
   rcases h.V v t with e1|e1
   ·exact absurd e1 e
   ·rcases k.V v t with e2|e2
    ·rw[e1] at e2;exact absurd e2 e
    ·rw[e2,e1]
 ·rw[k.ld t (QiC (h.ll t) ht),h.ld t ht]
 ·rw[k.ackf v t u (hV v u hu) htu,h.ackf v t u hu htu]
theorem LAdd.cong{a b c d:GH}(h:LAdd a b)(h1:c.ll=a.ll)(h2:d.ll=b.ll):LAdd c d:=by
 rcases h with h|⟨T,l,e,k1,k2,k3,k4⟩
 ·exact .inl (h2.trans (h.trans h1.symm))
 ·refine .inr ⟨T,l,e,k1,fun j hj=>by rw[h1];exact k2 j hj,by rw[h1];exact k3, ?_⟩
  rw[h2,k4,h1]
theorem GBy.trans{i:Nat}{a b c:GH}(h:GBy i a b)(k:GBy i b c)(hs:b.ll=a.ll\/c.ll=b.ll):GBy i a c:=by
 refine⟨h.toGLe.trans k.toGLe,fun v hv=>(k.oV v hv).trans (h.oV v hv),fun v hv=>(k.oA v hv).trans (h.oA v hv),fun t v hv=>(k.oC t v hv).trans (h.oC t v hv),fun t=> ?_,hs.elim (fun e=>k.oG.cong e.symm rfl) fun e=>h.oG.cong rfl e⟩
 rcases k.oL t with⟨e1,e2⟩|e
 ·rcases h.oL t with⟨e3,e4⟩|e3
  ·exact .inl ⟨e1.trans e3,e2.trans e4⟩
  ·exact .inr (e2.trans e3)
 ·exact .inr e
section
variable {k:Nat}{g g':GH}{t u T:Int}{j v i:Nat}{l:List RE}
theorem LM.grow(h:LM g l)(G:GLe g g'):LM g' l:=fun j hj=>(h j hj).trans (G.ll _)
theorem LM.sub{p:List RE}(h:LM g l)(hp:p<+:l):LM g p:=fun j hj=>by
 have hl:=Qbf hp
 have e:l[j]'(by omega)=p[j]:=by
  have:=Qbv hp hj
  rw[List.getElem?_eq_getElem hj,List.getElem?_eq_getElem (by omega)] at this
  injection this
 have:=h j (by omega)
 rw[e] at this
 rwa[Qgg hp (by omega)]
theorem Mono.sub{p:List RE}(h:Mono l)(hp:p<+:l):Mono p:=List.Pairwise.sublist hp.sublist h
theorem Ter.sub{p:List RE}(h:Ter l T)(hp:p<+:l):Ter p T:=fun e he=>h e (hp.subset he)
theorem Ter.up(h:Ter l T)(hu:T<=u):Ter l u:=fun e he=>by have:=h e he;omega
theorem Ow.grow(h:Ow g t j)(G:GLe g g'):Ow g' t j:=by
 obtain⟨h1,e,h2,h3⟩:=h
 exact⟨h1,e,by rw[Qbv (G.ll t) (List.getElem?_eq_some_iff.1 h2).1,h2],h3⟩
theorem Ow.back(h:Ow g' t j)(G:GLe g g')(hl:j<=(g.ll t).length):Ow g t j:=by
 obtain⟨h1,e,h2,h3⟩:=h
 exact⟨h1,e,by rw[<-Qbv (G.ll t) (by omega),h2],h3⟩
theorem Qj5(G:GLe g g')(hj:j<=(g.ll t).length):(g'.ll t).take j=(g.ll t).take j:=(Qgg (G.ll t) hj).symm
theorem Bd.grow(I:GI k g)(G:GLe g g')(ho:Ow g t j)(h:Bd g t j u):Bd g' t j u:=by
 obtain⟨h1,h2,h3⟩:=h
 refine⟨h1,QiC (G.ll u) h2,fun hp=> ?_⟩
 rw[Qj5 G ho.len] at hp
 have hlen:((g.ll t).take j).length=j:=by rw[List.length_take];have:=ho.len;omega
 by_cases hl:j<=(g.ll u).length
 ·exact h3 (QeC hp (G.ll u) (by omega))
 ·have h4:g.ll u<+:g.ll t:=(QeC (G.ll u) hp (by omega)).trans (QbT _ _)
  obtain⟨b,e,_,h5,h6,_⟩:=(I.L u h2).base
  have h7:e∈g.ll t:=h4.subset (h6.subset (by simp))
  have:=((I.L t ho.ne).ter e h7).2
  omega
theorem Kp.grow(I:GI k g)(G:GLe g g')(ha:∀t,g'.ack v t=g.ack v t)(h:Kp g v T l):Kp g' v T l:=fun t j hj ho=>by
 rw[ha] at hj
 have hl:=Nat.le_trans hj (I.A v t)
 have ho':=ho.back G hl
 rw[Qj5 G hl]
 rcases h t j hj ho' with h1|⟨u,h1,h2⟩
 ·exact .inl h1
 ·exact .inr ⟨u,h1,h2.grow I G ho'⟩
theorem Kp.up(h:Kp g v T l)(hu:T<=u):Kp g v u l:=fun t j hj ho=>by
 rcases h t j hj ho with h1|⟨w,h1,h2⟩
 ·exact .inl h1
 ·exact .inr ⟨w,by omega,h2⟩
theorem Kp.more{l':List RE}(h:Kp g v T l)(hp:l<+:l'):Kp g v T l':=fun t j hj ho=>by
 rcases h t j hj ho with h1|h1
 ·exact .inl (h1.trans hp)
 ·exact .inr h1
theorem Rec.grow{c:Int}(I:GI k g)(G:GLe g g')(hV:g.V v t≠ -1)(h:Rec g t c v):Rec g' t c v:=by
 obtain⟨lv,lc,h1,h2,h3,h4,h5⟩:=h
 refine⟨lv,lc,G.cl _ _ _ h1,h2.grow G,h3,h4,fun t0 j ht hj ho=> ?_⟩
 rw[G.ackf v t0 t hV ht] at hj
 have hl:=Nat.le_trans hj (I.A v t0)
 have ho':=ho.back G hl
 rw[Qj5 G hl]
 rcases h5 t0 j ht hj ho' with h6|⟨u,h6,h7⟩
 ·exact .inl h6
 ·exact .inr ⟨u,h6,h7.grow I G ho'⟩
theorem Com.grow(G:GLe g g')(h:Com k g t j):Com k g' t j:=⟨h.1.grow G,h.2.mono fun v _ hv=>Nat.le_trans hv (G.ack v t)⟩
theorem Cm.grow{p:List RE}(G:GLe g g')(h:Cm k g T p):Cm k g' T p:=by
 rcases h with h|⟨t,j,h1,h2,h3⟩
 ·exact .inl h
 ·exact .inr ⟨t,j,h1,h2.grow G,by rw[Qj5 G h2.1.len];exact h3⟩
theorem LL.grow(I:GI k g)(G:GLe g g')(h:LL k g t)(h1:g'.ll t=g.ll t)(h2:g'.ld t=g.ld t):LL k g' t:=by
 refine⟨by rw[h1];exact h.lm.grow G,by rw[h1];exact h.mono,by rw[h1];exact h.ter,h.t1,by rw[h2];exact h.who, ?_, ?_⟩
 ·obtain⟨b,e,h3,h4⟩:=h.base
  exact⟨b,e,by rw[h2];exact G.cl _ _ _ h3,by rw[h1];exact h4⟩
 ·rw[h2]
  refine h.maj.mono fun v _ hv=> ?_
  have hw:=h.who
  have hn:g.V v t≠ -1:=by rw[hv.1];omega
  refine⟨?_,hv.2.grow I G hn⟩
  rcases G.V v t with e|e
  ·exact absurd e hn
  ·rw[e];exact hv.1
end
structure DI(g:GH)(i:Nat)(T vt:Int)(l:List RE):Prop where
 lm:LM g l
 mono:Mono l
 ter:Ter l T
 kp:Kp g i T l
 futV:∀t,T<t->g.V i t= -1
 futC:∀t,T<t->g.cl t i=none
 futA:∀t,T<t->g.ack i t=0
 futL:∀t,T<t->g.ll t≠ []->g.ld t≠i
 vot:g.V i T= -1\/g.V i T=vt
 t0:0<=T
 cur:(g.ll T).take (g.ack i T)<+:l
structure Cand(k:Nat)(g:GH)(i:Nat)(X:RN):Prop where
 vote:X.vote=i
 cl:g.cl X.term i=some X.log
 ter:Ter X.log (X.term -1)
 no:g.ll X.term≠ []->g.ld X.term≠i
 vs:∀v,X.votes.testBit v=true->v<k/\g.V v X.term=i/\(g.ll X.term= []->Rec g X.term i v)
 t1:1<=X.term
structure Lead(k:Nat)(g:GH)(i:Nat)(X:RN):Prop where
 ll:g.ll X.term=X.log
 ne:X.log≠ []
 ld:g.ld X.term=i
 mt:∀v,v<k->v≠i->0<=X.matc v/\X.matc v<=g.ack v X.term
 me:X.log.length<=g.ack i X.term
 nx:∀v,v<k->v≠i->1<=X.next v/\X.next v<=X.log.length+1
structure NI(k:Nat)(g:GH)(i:Nat)(X:RN):Prop where
 d:DI g i X.term X.vote X.log
 v:g.V i X.term=X.vote
 id:X.id=i
 n:X.n=k
 ik:i<k
 k7:k<=7
 v0: -1<=X.vote
 vb:X.votes<128
 c0:0<=X.commit
 c1:X.commit<=X.log.length
 com:Cm k g X.term (X.log.take X.commit.toNat)
 cand:X.role=2->Cand k g i X
 lead:X.role=3->Lead k g i X
def MI(k:Nat)(g:GH)(m:RM):Prop:=
 (m.kind=3->∃lc,g.cl m.term m.from_=some lc/\m.logTerm=Qa9 lc/\m.index=lc.length)/\
 (m.kind=4->m.yes=true->0<=m.from_/\m.from_<k/\0<=m.to/\g.V m.from_.toNat m.term=m.to/\(g.ll m.term= []->Rec g m.term m.to m.from_.toNat))/\
 (m.kind=5->g.ll m.term≠ []/\g.ld m.term=m.from_/\0<=m.index/\m.index<=(g.ll m.term).length/\m.logTerm=(QaH (g.ll m.term) m.index).1/\m.ents<+:(g.ll m.term).drop m.index.toNat/\m.commit<=(g.ll m.term).length/\Cm k g m.term ((g.ll m.term).take m.commit.toNat))/\
 (m.kind=6->m.yes=true->m.index<=g.ack m.from_.toNat m.term)
section
variable {k:Nat}{g g':GH}{t u T vt:Int}{j v i:Nat}{l:List RE}{X Y:RN}{m:RM}
theorem QhU{p q:List RE}(h:p<+:q){i:Int}(h0:0<=i)(h1:i<=p.length):QaH q i=QaH p i:=by
 have:=Qbf h
 unfold QaH
 rw[if_neg (show ¬(i<0\/i>q.length) by omega),if_neg (show ¬(i<0\/i>p.length) by omega)]
 by_cases e:i=0
 ·rw[if_pos e,if_pos e]
 ·rw[if_neg e,if_neg e,Qbv h (by omega)]
theorem drop_pre{p q:List RE}(h:p<+:q)(n:Nat):p.drop n<+:q.drop n:=by
 obtain⟨r,rfl⟩:=h
 rw[List.drop_append]
 exact List.prefix_append _ _
theorem MI.grow(I:GI k g)(G:GLe g g')(h:MI k g m):MI k g' m:=by
 obtain⟨h3,h4,h5,h6⟩:=h
 refine⟨fun e=> ?_,fun e y=> ?_,fun e=> ?_,fun e y=>Int.le_trans (h6 e y) (Int.ofNat_le.2 (G.ack _ _))⟩
 ·obtain⟨lc,a,b⟩:=h3 e
  exact⟨lc,G.cl _ _ _ a,b⟩
 ·obtain⟨a,b,c,d,f⟩:=h4 e y
  have hn:g.V m.from_.toNat m.term≠ -1:=by rw[d];omega
  refine⟨a,b,c, ?_,fun he=>(f ?_).grow I G hn⟩
  ·rcases G.V m.from_.toNat m.term with x|x
   ·exact absurd x hn
   ·rw[x];exact d
  ·exact Decidable.byContradiction fun x=>QiC (G.ll m.term) x he
 ·obtain⟨a,b,c,d,f,q,n,r⟩:=h5 e
  have hl:=Qbf (G.ll m.term)
  exact⟨QiC (G.ll _) a,by rw[G.ld _ a];exact b,c,by omega,by rw[QhU (G.ll _) c d];exact f,q.trans (drop_pre (G.ll _) _),by omega,by rw[Qj5 G (by omega)];exact r.grow G⟩
theorem NI.like(h:NI k g i X)(h1:Y.term=X.term)(h2:Y.vote=X.vote)(h3:Y.log=X.log)(h4:Y.id=X.id)(h5:Y.n=X.n)(h6:Y.commit=X.commit)(h7:Y.role=X.role\/(Y.role≠2/\Y.role≠3))(h8:Y.votes=X.votes)(h9:Y.matc=X.matc)(h10:Y.next=X.next):NI k g i Y:=by
 refine⟨by rw[h1,h2,h3];exact h.d,by rw[h1,h2];exact h.v,by rw[h4];exact h.id,by rw[h5];exact h.n,h.ik,h.k7,by rw[h2];exact h.v0,by rw[h8];exact h.vb,by rw[h6];exact h.c0,by rw[h6,h3];exact h.c1,by rw[h1,h3,h6];exact h.com,fun e=> ?_,fun e=> ?_⟩
 ·rcases h7 with h7|h7
  ·have c:=h.cand (h7▸e)
   exact⟨by rw[h2];exact c.vote,by rw[h1,h3];exact c.cl,by rw[h1,h3];exact c.ter,by rw[h1];exact c.no,by rw[h1,h8];exact c.vs,by rw[h1];exact c.t1⟩
  ·exact absurd e h7.1
 ·rcases h7 with h7|h7
  ·have c:=h.lead (h7▸e)
   exact⟨by rw[h1,h3];exact c.ll,by rw[h3];exact c.ne,by rw[h1];exact c.ld,by rw[h1,h9];exact c.mt,by rw[h1,h3];exact c.me,by rw[h3,h10];exact c.nx⟩
  ·exact absurd e h7.2
theorem DI.other(I:GI k g)(G:GBy i g g')(hj:j≠i)(h:DI g j T vt l):DI g' j T vt l:=by
 refine⟨h.lm.grow G.toGLe,h.mono,h.ter,h.kp.grow I G.toGLe (fun t=>by rw[G.oA j hj]),fun t ht=>by rw[G.oV j hj];exact h.futV t ht,fun t ht=>by rw[G.oC t j hj];exact h.futC t ht,fun t ht=>by rw[G.oA j hj];exact h.futA t ht,fun t ht hne=> ?_,by rw[G.oV j hj];exact h.vot,h.t0,by rw[G.oA j hj,Qj5 G.toGLe (I.A j T)];exact h.cur⟩
 rcases G.oL t with⟨a,b⟩|a
 ·rw[b];rw[a] at hne;exact h.futL t ht hne
 ·rw[a];omega
theorem NI.other(I:GI k g)(G:GBy i g g')(hj:j≠i)(h:NI k g j X):NI k g' j X:=by
 refine⟨h.d.other I G hj,by rw[G.oV j hj];exact h.v,h.id,h.n,h.ik,h.k7,h.v0,h.vb,h.c0,h.c1,h.com.grow G.toGLe,fun e=> ?_,fun e=> ?_⟩
 ·have c:=h.cand e
  refine⟨c.vote,by rw[G.oC _ j hj];exact c.cl,c.ter,fun hne=> ?_,fun v hv=> ?_,c.t1⟩
  ·rcases G.oL X.term with⟨a,b⟩|a
   ·rw[b];rw[a] at hne;exact c.no hne
   ·rw[a];omega
  ·obtain⟨a,b,d⟩:=c.vs v hv
   have hn:g.V v X.term≠ -1:=by rw[b];omega
   refine⟨a, ?_,fun he=>(d ?_).grow I G.toGLe hn⟩
   ·rcases G.V v X.term with x|x
    ·exact absurd x hn
    ·rw[x];exact b
   ·exact Decidable.byContradiction fun x=>QiC (G.ll X.term) x he
 ·have c:=h.lead e
  have hl:g'.ll X.term=g.ll X.term:=by
   rcases G.oL X.term with⟨a,_⟩|a
   ·exact a
   ·rw[G.ld X.term (by rw[c.ll];exact c.ne),c.ld] at a;omega
  refine⟨by rw[hl];exact c.ll,c.ne,by rw[G.ld X.term (by rw[c.ll];exact c.ne)];exact c.ld,fun v h1 h2=> ?_,by rw[G.oA j hj];exact c.me,c.nx⟩
  have:=c.mt v h1 h2
  have:=G.ack v X.term
  omega
end
end
end Go.Proofs.YtniojdaddolnfaaGreat
