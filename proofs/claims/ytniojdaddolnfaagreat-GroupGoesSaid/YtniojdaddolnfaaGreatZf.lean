/-
  Several of the proof's texts in one, squeezed: a claim may have 1,500,000 bytes.
-/
import Derived.Test.YtniojdaddolnfaaGreatZe
set_option linter.unusedVariables false
set_option linter.unusedSimpArgs false
namespace Go.Proofs.YtniojdaddolnfaaGreat
section
variable {k X0 LC M bd E Zb l:Nat}{g g':GH}{i f S:Nat}{X Y F L W:RN}{m:RM}{C:CS}{r A B D D':List RM}{rr rr':Nat->Nat}{dr t:Int}{σ:Nat->Int}{own0 j y h:Nat}{dk:Nat->Nat}
def FA(k l:Nat)(t:Int)(σ:Nat->Int)(C:CS):Prop:=∀f,f<k->f≠l->Fol t l (nd C f)/\(nd C f).since<=σ f
def HE(k l:Nat)(t:Int)(C:CS):Prop:=∀f,f<k->f≠l->(nd C l).heard.testBit f=true\/1<=tn C.net l f t
theorem QiD(d:Dl k g S C m r X)(pm:PM k l t own0 j C y h dk):(m.kind=5/\m.to.toNat≠l/\m.term=t/\m.from_=(l:Int)/\Fol t l (Qae (Qaa X m))/\(Qaa X m).since=0/\∀f,tn (QaX C).net l f t=tn C.net l f t)\/(m.kind≠5/\m.to.toNat=l):=by
 have hinv:=d.h
 have c:=d.c
 have hto:=d.to
 have hfr:=d.fr
 have hmm:m∈C.net:=by rw[d.n];exact List.mem_cons_self ..
 rcases pm.net m hmm with⟨h5,hfl,ht⟩|⟨h6,htl,ht,hidx⟩|⟨h4,htl,ht⟩
 ·left
  have hne:m.to.toNat≠l:=by have:=d.ne;omega
  have hXt:X.term<=t:=by have:=pm.low _ c.ni.ik hne;rwa[d.old] at this
  obtain⟨a1,a2,yy,idx,a3,a4⟩:=app_fol d h5 (by omega) fun e hr3=>hne (hinv.one d.x (hinv.nd pm.lk) hr3 pm.role (by rw[pm.term];omega))
  refine⟨h5,hne,ht,hfl,⟨by rw[a1.term,ht],a1.role,by rw[a1.leader];omega⟩,a2,fun f=> ?_⟩
  have hnet:(QaX C).net=r++ [⟨6,X.id,m.from_,m.term,idx,0,0,yy,[]⟩]:=by rw[d.net,a3,Qfj d.cap]
  have hidn:X.id=((m.to.toNat:Nat):Int):=c.ni.id
  rw[hnet,QgC,d.n,tn_cons m r,QhS h5 hfl ht,Qgf (m:=⟨6,X.id,m.from_,m.term,idx,0,0,yy,[]⟩) rfl hfl ht,Nat.add_comm]
  show(if X.id=(f:Int) then 1 else 0)+_=(if m.to=(f:Int) then 1 else 0)+_
  rw[hidn,<-hto]
 ·exact .inr ⟨by omega,by omega⟩
 ·exact .inr ⟨by omega,by omega⟩
theorem fa_del(d:Dl k g S C m r X)(pm:PM k l t own0 j C y h dk)(hs:∀f,0<=σ f)(fa:FA k l t σ C):FA k l t σ (QaX C):=fun f hf hfl=>by
 rcases QiD d pm with⟨_,hne,_,_,a1,a2,_⟩|⟨_,hl⟩
 ·by_cases e:f=m.to.toNat
  ·subst e
   rw[d.self]
   exact⟨a1,by show(Qaa X m).since<=σ _;rw[a2];exact hs _⟩
  ·rw[d.other e];exact fa f hf hfl
 ·rw[d.other (by omega)];exact fa f hf hfl
theorem agree_heard(X:RN):(Qaf X).heard=X.heard:=by
 unfold Qaf
 split<;>rfl
theorem Qmp(hr:X.role=3):(QaC X m).heard=X.heard|||2^m.from_.toNat:=by
 unfold QaC
 rw[if_neg (fun x=>x hr)]
 split
 ·have:=agree_heard (Qau X m.from_.toNat m.index)
  split<;>exact this
 split<;>rfl
theorem he_del(d:Dl k g S C m r X)(pm:PM k l t own0 j C y h dk)(he:HE k l t C):HE k l t (QaX C):=fun f hf hfl=>by
 have hmm:m∈C.net:=by rw[d.n];exact List.mem_cons_self ..
 have hto:=d.to
 have hfr:=d.fr
 rcases QiD d pm with⟨_,hne,_,_,a1,a2,a3⟩|⟨h5,hl⟩
 ·rw[d.other (fun e=>hne e.symm),a3]
  exact he f hf hfl
 ·have hX:X=nd C l:=by rw[<-d.old,hl]
  have h3:X.role=3:=by rw[hX];exact pm.role
  have hXt:X.term=t:=by rw[hX];exact pm.term
  have hself:nd (QaX C) l=Qae (Qaa X m):=by rw[<-hl];exact d.self
  have htn:tn C.net l f t=tn [m] l f t+tn r l f t:=by rw[d.n,tn_cons]
  rw[hself,d.net,QgC]
  show(Qaa X m).heard.testBit f=true\/_
  rcases pm.net m hmm with⟨k5,_,_⟩|⟨h6,htl,ht,hidx⟩|⟨h4,htl,ht⟩
  ·exact absurd k5 h5
  ·have hY:Qaa X m=QaC X m:=by
    rw[st6 d.cb h6 (X:=X) (by omega),Qbu (by omega)]
   rw[hY,Qmp h3,Nat.testBit_or]
   by_cases e:f=m.from_.toNat
   ·left
    rw[Bool.or_eq_true]
    right
    rw[e,Nat.testBit_two_pow,decide_eq_true_iff]
   ·rcases he f hf hfl with x|x
    ·left
     rw[hX,x,Bool.true_or]
    ·right
     rw[htn,Qgf h6 htl ht,if_neg (by omega)] at x
     omega
  ·have hY:Qaa X m=X:=by
    by_cases hlt:m.term<X.term
    ·rw[Qi4 d.cb (by omega) hlt,if_neg (by omega)]
    ·rw[st4 d.cb h4 (by omega),Qbu (by omega)]
     unfold Qar
     rw[if_pos (.inr (by omega))]
   rw[hY,hX]
   rcases he f hf hfl with x|x
   ·exact .inl x
   ·right
    rw[htn,tn_junk h4] at x
    omega
structure PMS(k:Nat)(rr:Nat->Nat)(Zb E:Nat)(l:Nat)(t:Int)(own0 j h:Nat)(g:GH)(S:Nat)(C:CS):Prop where
 b:Bas k rr Zb E g S C
 o:Ord k g C
 pm:∃y dk,PM k l t own0 j C y h dk
theorem PMS.del(p:PMS k rr Zb E l t own0 j h g S C)(hk:2<=k)(hZ:Zb<1024)(hn:C.net≠ []):∃g' m r X,Dl k g S C m r X/\PMS k rr Zb E l t own0 j h g' (S+1) (QaX C):=by
 obtain⟨m,r,hmr⟩:=List.exists_cons_of_ne_nil hn
 obtain⟨X,d⟩:=p.b.c.del_ p.o hmr
 obtain⟨g1,G,b1⟩:=p.b.del d.toDl hk hZ
 have hl:X.log.length<=Zb:=by have:=p.b.lt hZ d.c.ni.ik;rwa[d.old] at this
 obtain⟨y,dk,pm⟩:=p.pm
 obtain⟨y',dk',_,pm'⟩:=pm_del d.toDl pm
 exact⟨g1,m,r,X,d.toDl,b1,ord_del d hk (by omega) G,y',dk',pm'⟩
theorem pm_settle(hk:2<=k)(hZ:Zb<1024)(hs:∀f,0<=σ f):∀(n:Nat){g:GH}{S:Nat}{C:CS},PMS k rr Zb E l t own0 j h g S C->∃g' S',PMS k rr Zb E l t own0 j h g' S' (Qbq n C)/\(FA k l t σ C->FA k l t σ (Qbq n C))/\(HE k l t C->HE k l t (Qbq n C))
 |0,g,S,C,p=>⟨g,S,p,fun x=>x,fun x=>x⟩
 |n+1,g,S,C,p=>by
  by_cases hn:C.net= []
  ·rw[QbX hn];exact⟨g,S,p,fun x=>x,fun x=>x⟩
  ·rw[Qa1 hn]
   obtain⟨g1,m,r,X,d,p1⟩:=p.del hk hZ hn
   obtain⟨y,dk,pm⟩:=p.pm
   obtain⟨g2,S2,a1,a2,a3⟩:=pm_settle hk hZ hs n p1
   exact⟨g2,S2,a1,fun x=>a2 (fa_del d pm hs x),fun x=>a3 (he_del d pm x)⟩
theorem pm_first(hk:2<=k)(hZ:Zb<1024)(hs:∀f,0<=σ f):∀(A:List RM){B:List RM}{g:GH}{S:Nat}{C:CS},PMS k rr Zb E l t own0 j h g S C->C.net=A++B->(∀f,f<k->f≠l->(Fol t l (nd C f)/\(nd C f).since<=σ f)\/∃m∈A,m.kind=5/\m.to=(f:Int))->
  ∃g' S' C',(∀n,Qbq (A.length+n) C=Qbq n C')/\PMS k rr Zb E l t own0 j h g' S' C'/\FA k l t σ C'/\(HE k l t C->HE k l t C')
 | [],B,g,S,C,p,hn,hf=>⟨g,S,C,fun n=>by show Qbq (0+n) C=_;rw[Nat.zero_add],p,fun f h1 h2=>(hf f h1 h2).resolve_right (fun⟨m,hm,_⟩=>by cases hm),fun x=>x⟩
 |m::A,B,g,S,C,p,hn,hf=>by
  have hne:C.net≠ []:=by rw[hn];simp
  obtain⟨g1,m',r',X,d,p1⟩:=p.del hk hZ hne
  obtain⟨y,dk,pm⟩:=p.pm
  have hd:=d.n
  rw[hn] at hd
  injection hd with e1 e2
  subst e1
  have e2:A++B=r':=e2
  subst e2
  obtain⟨g2,S2,C2,a1,a2,a3,a4⟩:=pm_first hk hZ hs A (B:=B++(Qaa X m).out.take (512 -(A++B).length)) p1 (by rw[d.net,List.append_assoc]) fun f h1 h2=>by
   rcases QiD d pm with⟨_,hne,_,_,b1,b2,_⟩|⟨h5,hl⟩
   ·by_cases e:f=m.to.toNat
    ·subst e
     rw[d.self]
     exact .inl ⟨b1,by show(Qaa X m).since<=σ _;rw[b2];exact hs _⟩
    ·rw[d.other e]
     refine(hf f h1 h2).imp (fun x=>x) fun⟨m',x1,x2,x3⟩=>⟨m', ?_,x2,x3⟩
     rcases List.mem_cons.1 x1 with y|y
     ·subst y
      have:=d.to
      omega
     ·exact y
   ·rw[d.other (by omega)]
    refine(hf f h1 h2).imp (fun x=>x) fun⟨m',x1,x2,x3⟩=>⟨m', ?_,x2,x3⟩
    rcases List.mem_cons.1 x1 with y|y
    ·subst y;exact absurd x2 h5
    ·exact y
  refine⟨g2,S2,C2,fun n=> ?_,a2,a3,fun x=>a4 (he_del d pm x)⟩
  rw[<-a1 n,List.length_cons,show A.length+1+n=(A.length+n)+1 by omega]
  exact Qa1 hne
end
section
variable {k X0 LC M bd E Zb l:Nat}{g g':GH}{i f S:Nat}{X Y F L W:RN}{m:RM}{C:CS}{r A B D D':List RM}{rr rr':Nat->Nat}{dr t:Int}{σ σ':Nat->Int}{own0 j y h:Nat}{dk:Nat->Nat}
theorem beat_pm(b:Bas k rr Zb E g S C)(hk:2<=k)(hn:C.net= [])(hl:l<k)(hr:(nd C l).role=3)(ht:(nd C l).term=t)(hlow:∀f,f<k->f≠l->(nd C f).term<=t)(hb:(Qah (nd C l) dr).role=3)(hs:(nd C l).since+1>=2):
  PM k l t (QcW (nd C l)) 0 (Qal C l dr) 1 0 (fun _=>0)/\HE k l t (Qal C l dr)/\(∀f,f<k->f≠l->∃m∈(Qal C l dr).net,m.kind=5/\m.to=(f:Int))/\(Qal C l dr).net.length<=k -1:=by
 have hX:=b.c.nd hl
 have c:=b.c.node l _ hX
 have hself:=Qaw (dr:=dr) b.c hX
 have h7:=b.c.k7
 cases Qa2 (dr:=dr) c with
 |quiet h1 h2 h3 h4 h5 h6=>omega
 |down h1 h2 h3 h4=>rw[h4] at hb;exact absurd hb (by decide:¬(0:Int)=3)
 |wait h1 h2 h3=>exact absurd hr h1
 |ask h1 h2 h3 h4=>exact absurd hr h1
 |beat W h1 h2 a1 a2 a3 a4 a5 a6 a7 a8=>
  have hwl:=Qbt (X:=W) (k:=k) (i:=l) (a2.trans c.ni.id) hl
  have hnet:(Qal C l dr).net=(Qax W k).map (Qbk W):=by
   rw[Qbn b.c hX,hn,a7,List.nil_append]
   refine List.take_of_length_le ?_
   rw[List.length_map]
   show _<=512 -0
   omega
  have htn:∀f,f<k->f≠l->tn (Qal C l dr).net l f t=1:=fun f hf hfl=>by
   rw[hnet]
   exact Qi0 (a2.trans c.ni.id) (a3.trans ht) hf hfl
  have hmsg:∀f,f<k->f≠l->∃m∈(Qal C l dr).net,m.kind=5/\m.to=(f:Int):=fun f hf hfl=>by
   rw[hnet]
   refine⟨Qbk W f,List.mem_map.2 ⟨f, ?_,rfl⟩,rfl,rfl⟩
   unfold Qax
   refine List.mem_filter.2 ⟨List.mem_range.2 hf,decide_eq_true ?_⟩
   rw[a2,c.ni.id]
   omega
  have hlen:(Qal C l dr).net.length=k -1:=by rw[hnet,List.length_map];omega
  refine⟨⟨hl,by rw[hself];exact h2,by rw[hself];exact a1.term.trans ht,fun x hx=> ?_,fun f hf hfl=>by rw[Qak hX hfl];exact hlow f hf hfl,fun f hf hfl=> .inr (hmsg f hf hfl),fun f hf hfl _=>by rw[htn f hf hfl];omega,Nat.le_refl _,.inl ⟨by rw[hlen];omega,fun _=>rfl⟩, ?_⟩,fun f hf hfl=> .inr (by rw[htn f hf hfl];exact Nat.le_refl _),hmsg,by rw[hlen];exact Nat.le_refl _⟩
  ·rw[hnet] at hx
   obtain⟨z,_,rfl⟩:=List.mem_map.1 hx
   exact .app rfl (a2.trans c.ni.id) (a3.trans ht)
  ·have:Qck k (fun _=>0)=0:=QbU fun _ _=>rfl
   rw[hself,QeQ a1,this]
   omega
theorem pm_wait(p:PMS k rr Zb E l t own0 j h g S C)(hk:2<=k)(hi:i<k)(hil:i≠l)(h1:rr i=rr' i+1)(h2:∀j,j<k->j≠i->rr' j=rr j)(fa:FA k l t σ C)(hw:(nd C i).since+1<4):
  ∃g' S',PMS k rr' Zb E l t own0 j h g' S' (Qal C i dr)/\FA k l t (fun f=>σ f+if f=i then 1 else 0) (Qal C i dr)/\(HE k l t C->HE k l t (Qal C i dr))/\(Qal C i dr).net=C.net:=by
 obtain⟨g',G,b'⟩:=Qc9 (dr:=dr) p.b hk hi h1 h2
 have hX:=p.b.c.nd hi
 have c:=p.b.c.node i _ hX
 have hrole:=(fa i hi hil).1.role
 have hself:=Qaw (dr:=dr) p.b.c hX
 obtain⟨y,dk,pm⟩:=p.pm
 have hwait:Qah (nd C i) dr={nd C i with since:=(nd C i).since+1}:=by
  cases Qa2 (dr:=dr) c with
  |quiet h1=>omega
  |beat W h1=>omega
  |down h1=>omega
  |wait h1 h2 h3=>exact h3
  |ask h1 h2 h3 h4=>
   have:0<=(if 0>dr then 0 else dr)%4:=Int.emod_nonneg _ (by decide)
   omega
 have hnet:(Qal C i dr).net=C.net:=by
  rw[Qbn p.b.c hX,hwait,show({nd C i with since:=(nd C i).since+1}:RN).out=(nd C i).out from rfl,c.out,List.take_nil,List.append_nil]
 have hl:=Qak (dr:=dr) hX (fun e:l=i=>hil e.symm)
 refine⟨g',S+1,⟨b',Qfi (dr:=dr) p.b.c p.o hX hk G,y,dk,pm.lk,by rw[hl];exact pm.role,by rw[hl];exact pm.term,by rw[hnet];exact pm.net,fun f hf hfl=> ?_,fun f hf hfl=> ?_,by rw[hl,hnet];exact pm.th,pm.y1,by rw[hnet];exact pm.sd,by rw[hl];exact pm.own⟩,fun f hf hfl=> ?_,fun he=>by unfold HE;rw[hl,hnet];exact he,hnet⟩
 ·by_cases e:f=i
  ·subst e;rw[hself,hwait];exact pm.low f hf hfl
  ·rw[Qak hX e];exact pm.low f hf hfl
 ·by_cases e:f=i
  ·subst e
   rw[hself,hwait]
   have:=(fa f hf hfl).1
   exact .inl ⟨this.term,this.role,this.leader⟩
  ·rw[Qak hX e,hnet];exact pm.fol f hf hfl
 ·by_cases e:f=i
  ·subst e
   rw[hself,hwait]
   have:=fa f hf hfl
   refine⟨⟨this.1.term,this.1.role,this.1.leader⟩, ?_⟩
   show(nd C f).since+1<=σ f+if f=f then 1 else 0
   rw[if_pos rfl]
   have:=this.2
   omega
  ·rw[Qak hX e]
   have:=fa f hf hfl
   refine⟨this.1, ?_⟩
   show(nd C f).since<=σ f+if f=i then 1 else 0
   rw[if_neg e,Int.add_zero]
   exact this.2
theorem pm_lead(p:PMS k rr Zb E l t own0 j h g S C)(hk:2<=k)(h1:rr l=rr' l+1)(h2:∀j,j<k->j≠l->rr' j=rr j)(hb:(Qah (nd C l) dr).role=3):
  ∃g' S',PMS k rr' Zb E l t own0 j (h+1) g' S' (Qal C l dr)/\(FA k l t σ C->FA k l t σ (Qal C l dr)):=by
 obtain⟨y,dk,pm⟩:=p.pm
 have hl:=pm.lk
 obtain⟨g',G,b'⟩:=Qc9 (dr:=dr) p.b hk hl h1 h2
 have hX:=p.b.c.nd hl
 have c:=p.b.c.node l _ hX
 have hself:=Qaw (dr:=dr) p.b.c hX
 have o':=Qfi (dr:=dr) p.b.c p.o hX hk G
 have hoth:∀f,f≠l->nd (Qal C l dr) f=nd C f:=fun f hf=>Qak hX hf
 have hfa:FA k l t σ C->FA k l t σ (Qal C l dr):=fun fa f hf hfl=>by rw[hoth f hfl];exact fa f hf hfl
 have hcap:=p.b.c.cap
 have same:SameL (nd C l) (Qah (nd C l) dr)/\((Qah (nd C l) dr).out= []\/∃W:RN,W.id=(l:Int)/\W.term=t/\(Qah (nd C l) dr).out=(Qax W k).map (Qbk W)):=by
  cases Qa2 (dr:=dr) c with
  |quiet q1 q2 q3 q4=>exact⟨q3,.inl q4⟩
  |beat W q1 q2 a1 a2 a3 a4 a5 a6 a7=>exact⟨a1,.inr ⟨W,a2.trans c.ni.id,a3.trans pm.term,a7⟩⟩
  |down q1 q2 q3 q4=>rw[q4] at hb;exact absurd hb (by decide:¬(0:Int)=3)
  |wait q1=>exact absurd pm.role q1
  |ask q1=>exact absurd pm.role q1
 obtain⟨a1,a2⟩:=same
 have hnet:=Qbn (dr:=dr) p.b.c hX
 have hPm:∀x∈(Qal C l dr).net,Pm t l x:=fun x hx=>by
  rw[hnet] at hx
  rcases List.mem_append.1 hx with e|e
  ·exact pm.net x e
  ·have e:=Qad e
   rcases a2 with e1|⟨W,w1,w2,w3⟩
   ·rw[e1] at e;cases e
   ·rw[w3] at e
    obtain⟨z,_,rfl⟩:=List.mem_map.1 e
    exact .app rfl w1 w2
 have base:∀y',y<=y'->y'<=y+1->(∀f,f<k->f≠l->(nd C l).matc f<(nd C l).log.length->y'<=tn (Qal C l dr).net l f t+dk f)->(((Qal C l dr).net.length<=(k -1)*y'+j/\∀f,dk f=0)\/514<=k+(k -1)*y'+j)->PM k l t own0 j (Qal C l dr) y' (h+1) dk:=fun y' e1 e2 e3 e4=>by
  refine⟨hl,by rw[hself];exact hb,by rw[hself];exact a1.term.trans pm.term,hPm,fun f hf hfl=>by rw[hoth f hfl];exact pm.low f hf hfl,fun f hf hfl=> ?_,fun f hf hfl hlt=> ?_,by have:=pm.y1;omega,e4, ?_⟩
  ·rw[hoth f hfl]
   refine(pm.fol f hf hfl).imp (fun x=>x) fun⟨m',x1,x2,x3⟩=>⟨m', ?_,x2,x3⟩
   rw[hnet];exact List.mem_append_left _ x1
  ·rw[hself] at hlt
   have hlt:(Qah (nd C l) dr).matc f<(Qah (nd C l) dr).log.length:=hlt
   rw[a1.matc,a1.log] at hlt
   exact e3 f hf hfl hlt
  ·rw[hself,QeQ a1]
   have:=pm.own
   omega
 refine⟨g',S+1,⟨b',o', ?_⟩,hfa⟩
 rcases a2 with e|⟨W,w1,w2,w3⟩
 ·have hn':(Qal C l dr).net=C.net:=by rw[hnet,e,List.take_nil,List.append_nil]
  exact⟨y,dk,base y (Nat.le_refl _) (Nat.le_succ _) (by rw[hn'];exact pm.th) (by rw[hn'];exact pm.sd)⟩
 ·have hwl:=Qbt (X:=W) (k:=k) (i:=l) w1 hl
  by_cases hroom:C.net.length+(k -1)<=512
  ·have hn':(Qal C l dr).net=C.net++(Qax W k).map (Qbk W):=by
    rw[hnet,w3]
    congr 1
    exact List.take_of_length_le (by rw[List.length_map];omega)
   refine⟨y+1,dk,base (y+1) (Nat.le_succ _) (Nat.le_refl _) (fun f hf hfl hlt=> ?_) ?_⟩
   ·rw[hn',QgC,Qi0 w1 w2 hf hfl]
    have:=pm.th f hf hfl hlt
    omega
   ·have e1:(k -1)*(y+1)=(k -1)*y+(k -1):=Nat.mul_succ _ _
    refine pm.sd.imp (fun x=>⟨?_,x.2⟩) fun x=>by omega
    have:=x.1
    rw[hn',List.length_append,List.length_map]
    omega
  ·
   refine⟨y,dk,base y (Nat.le_refl _) (Nat.le_succ _) (fun f hf hfl hlt=> ?_) (.inr ?_)⟩
   ·rw[hnet,QgC]
    have:=pm.th f hf hfl hlt
    omega
   ·rcases pm.sd with x|x
    ·have:=x.1
     omega
    ·exact x
end
section
variable {k X0 LC M bd E Zb l x:Nat}{g g':GH}{i f S:Nat}{X Y F L W:RN}{m:RM}{C:CS}{r A B D D':List RM}{rr rr':Nat->Nat}{dr t T0:Int}{N0:Nat->RN}
def preQ(x:Nat)(T0:Int)(N0:Nat->RN)(f:Nat):Prop:=T0+1>(N0 f).term/\Qd4 (N0 f).log (N0 x).log.length (Qa9 (N0 x).log)/\(N0 f).role≠3/\((N0 f).leader= -1\/(N0 f).since>=4)
inductive AM(k x:Nat)(T0:Int)(N0:Nat->RN)(m:RM):Prop
 |ask:m.kind=1->m.from_=(x:Int)->m.term=T0+1->m.index=(N0 x).log.length->m.logTerm=Qa9 (N0 x).log->AM k x T0 N0 m
 |tell (f:Nat):m.kind=2->m.to=(x:Int)->m.from_=(f:Int)->f<k->f≠x->(m.yes=true->preQ x T0 N0 f/\m.term=T0+1)->(m.yes=false->¬preQ x T0 N0 f/\m.term=(N0 f).term)->AM k x T0 N0 m
 |vote:m.kind=3->m.from_=(x:Int)->m.term=T0+1->m.index=(N0 x).log.length->m.logTerm=Qa9 (N0 x).log->AM k x T0 N0 m
 |told (f:Nat):m.kind=4->m.to=(x:Int)->m.from_=(f:Int)->m.term=T0+1->AM k x T0 N0 m
structure Vot(T0:Int)(A B:RN):Prop where
 log:B.log=A.log
 commit:B.commit=A.commit
 term:B.term=T0+1
 low:A.term<=T0+1
 up:A.term<T0+1->B.role=0/\B.leader= -1
 eq:A.term=T0+1->B.role=A.role/\B.leader=A.leader/\B.quiet=A.quiet/\B.heard=A.heard/\(A.role=3->B.since=A.since)
def wA4(m:RM):Nat:=if m.kind=1\/m.kind=3 then 2 else 1
def wAs:List RM->Nat
 | []=>0
 |m::l=>wA4 m+wAs l
theorem Qoj:∀a b:List RM,wAs (a++b)=wAs a+wAs b
 | [],b=>(Nat.zero_add _).symm
 |m::l,b=>by show wA4 m+wAs (l++b)=wA4 m+wAs l+wAs b;rw[Qoj l b,Nat.add_assoc]
theorem wAs_len:∀l:List RM,l.length<=wAs l
 | []=>Nat.le_refl _
 |m::l=>by
  have:=wAs_len l
  have:1<=wA4 m:=by unfold wA4;split<;>omega
  show l.length+1<=wA4 m+wAs l
  omega
structure AR(k x:Nat)(T0:Int)(N0:Nat->RN)(bw:Nat)(C:CS):Prop where
 xk:x<k
 log:(nd C x).log=(N0 x).log
 commit:(nd C x).commit=(N0 x).commit
 leader:(nd C x).leader= -1
 since:(nd C x).since=0
 role:((nd C x).role=1/\(nd C x).term=T0)\/((nd C x).role=2/\(nd C x).term=T0+1)\/((nd C x).role=0/\T0<(nd C x).term)
 few:(nd C x).role=1\/(nd C x).role=2->¬QaF (nd C x) (nd C x).votes
 net:∀m∈C.net,AM k x T0 N0 m
 ord:C.net.Pairwise fun a b=>a.kind<=b.kind/\b.kind<=a.kind+1/\(a.kind=3->b.kind=3->a.to≠b.to)
 oth:∀f,f<k->f≠x->nd C f=N0 f\/(Vot T0 (N0 f) (nd C f)/\T0+1<=(nd C x).term/\(∀m∈C.net,3<=m.kind/\(m.kind=3->m.to≠(f:Int))))
 w:wAs C.net+(if(nd C x).role=1 then 2*(k -1) else 0)<=bw
 r1:(nd C x).role=1->∀m∈C.net,m.kind<=2
 tm:∀f,f<k->f≠x->(N0 f).term<=(nd C x).term\/(∃m∈C.net,m.kind=1/\m.to=(f:Int))\/∃m∈C.net,m.kind=2/\m.from_=(f:Int)/\m.yes=false
 v1:(nd C x).role=1->(∀f,(nd C x).votes.testBit f=true->f≠x->f<k/\preQ x T0 N0 f)/\∀f,f<k->(f≠x->preQ x T0 N0 f)->(nd C x).votes.testBit f=true\/(∃m∈C.net,m.kind=1/\m.to=(f:Int))\/∃m∈C.net,m.kind=2/\m.from_=(f:Int)/\m.yes=true
 v2:(∀f,f<k->f≠x->(N0 f).term<=T0)->(nd C x).role≠0/\((nd C x).role=2->∃v,QaF (nd C x) v/\∀f,v.testBit f=true->(nd C x).votes.testBit f=true\/(f<k/\f≠x/\preQ x T0 N0 f/\((∃m∈C.net,m.kind=3/\m.to=(f:Int))\/∃m∈C.net,m.kind=4/\m.from_=(f:Int)/\m.yes=true)))
theorem QfU(c:CN k g S i X):Qae X=X:=by
 have h1:=c.out
 have h2:=c.hard
 have h3:=c.from_
 cases X
 simp only[Qae] at*
 simp only[h1,h2,h3]
theorem preB_iff(c:CN k g S i X)(hX:X=N0 i)(h1:m.term=T0+1)(h2:m.index=(N0 x).log.length)(h3:m.logTerm=Qa9 (N0 x).log):QkQ X m↔preQ x T0 N0 i:=by
 have hel:=c.bn.el
 unfold QkQ preQ
 rw[h1,h2,h3,hel,hX]
theorem Qmj{a:RM}(d:C.net=m::r)(h:a∈C.net):a=m\/a∈r:=by
 rw[d] at h
 exact List.mem_cons.1 h
theorem Qmi{v:Nat}(c:CN k g S i X)(hv:v<128)(h:∀f,f<k->v.testBit f=true):QaF X v:=by
 have e:=QnM ⟨v,hv⟩
 simp only at e
 unfold QaF
 rw[e,c.ni.n]
 have hk7:=c.ni.k7
 have:k<=bitsQ v 7:=by
  unfold bitsQ
  have h1:(List.range k).countP (fun(t:Nat)=>v.testBit t)=k:=by
   rw[List.countP_eq_length.2 fun t ht=>h t (List.mem_range.1 ht),List.length_range]
  have h2:(List.range k).countP (fun(t:Nat)=>v.testBit t)<=(List.range 7).countP (fun(t:Nat)=>v.testBit t):=List.Sublist.countP_le (by
   rw[List.range_eq_range',List.range_eq_range']
   exact List.range'_sublist_right.2 hk7)
  omega
 have:=c.ni.ik
 omega
end
section
variable {k X0 LC M bd E Zb l x:Nat}{g g':GH}{i f S:Nat}{X Y F L W:RN}{m:RM}{C:CS}{r A B D D':List RM}{rr rr':Nat->Nat}{dr t T0:Int}{N0:Nat->RN}{bw:Nat}
theorem Qoz{R:RM->RM->Prop}(h:(m::r).Pairwise R):(∀b∈r,R m b)/\r.Pairwise R:=List.pairwise_cons.1 h
theorem AR.room(a:AR k x T0 N0 bw C):C.net.length<=bw:=by
 have:=a.w
 have:=wAs_len C.net
 omega
theorem AR.low(a:AR k x T0 N0 bw C):T0<=(nd C x).term:=by rcases a.role with⟨_,h⟩|⟨_,h⟩|⟨_,h⟩<;>omega
theorem QiZ:wAs (m::r)=wA4 m+wAs r:=rfl
theorem ar_ask(d:Dl k g S C m r X)(a:AR k x T0 N0 bw C)(h1:m.kind=1)(hf:m.from_=(x:Int))(ht:m.term=T0+1)(hi:m.index=(N0 x).log.length)(hlt:m.logTerm=Qa9 (N0 x).log):AR k x T0 N0 (bw -1) (QaX C):=by
 have c:=d.c
 have hmm:m∈C.net:=by rw[d.n];exact List.mem_cons_self ..
 have hto:=d.to
 have hne:m.to.toNat≠x:=by have:=d.ne;omega
 have hX:X=N0 m.to.toNat:=by
  rcases a.oth _ c.ni.ik hne with e|⟨_,_,e⟩
  ·rw[<-d.old];exact e
  ·have:=(e m hmm).1;omega
 have hY:=st1 d.cb h1
 have hnd:∀j,nd (QaX C) j=nd C j:=fun j=>by
  by_cases e:j=m.to.toNat
  ·subst e
   rw[d.self,d.old,hY]
   show Qae X=X
   exact QfU c
  ·exact d.other e
 have hpq:=preB_iff (x:=x) (T0:=T0) (N0:=N0) (m:=m) c hX ht hi hlt
 have hout:(Qaa X m).out= [⟨2,X.id,m.from_,if QkQ X m then m.term else X.term,0,0,0,decide (QkQ X m),[]⟩]:=by
  rw[hY]
  show X.out++ [_]=_
  rw[c.out];rfl
 have hnet:(QaX C).net=r++ [⟨2,X.id,m.from_,if QkQ X m then m.term else X.term,0,0,0,decide (QkQ X m),[]⟩]:=by rw[d.net,hout,Qfj d.cap]
 have hid:=c.ni.id
 obtain⟨o1,o2⟩:=Qoz (by have:=a.ord;rwa[d.n] at this)
 have hr1:∀b∈r,1<=b.kind/\b.kind<=2:=fun b hb=>by have:=o1 b hb;omega
 have hin:∀b∈C.net,b≠m->b∈(QaX C).net:=fun b hb hbm=>by
  rw[hnet]
  rcases Qmj d.n hb with e|e
  ·exact absurd e hbm
  ·exact List.mem_append_left _ e
 have hlow:=a.low
 refine⟨a.xk,by rw[hnd];exact a.log,by rw[hnd];exact a.commit,by rw[hnd];exact a.leader,by rw[hnd];exact a.since,by rw[hnd];exact a.role,by rw[hnd];exact a.few,fun b hb=> ?_, ?_,fun f hf' hfx=> ?_, ?_,fun hr b hb=> ?_,fun f hf' hfx=> ?_,fun hr=> ?_,fun h2=> ?_⟩
 ·rw[hnet] at hb
  rcases List.mem_append.1 hb with e|e
  ·exact a.net b (by rw[d.n];exact List.mem_cons_of_mem _ e)
  ·rw[List.mem_singleton] at e
   subst e
   refine .tell m.to.toNat rfl hf hid c.ni.ik hne (fun hy=> ?_) fun hy=> ?_
   ·have hy:QkQ X m:=of_decide_eq_true hy
    exact⟨hpq.1 hy,by show(if QkQ X m then m.term else X.term)=_;rw[if_pos hy,ht]⟩
   ·have hy:¬QkQ X m:=of_decide_eq_false hy
    exact⟨fun z=>hy (hpq.2 z),by show(if QkQ X m then m.term else X.term)=_;rw[if_neg hy,hX]⟩
 ·rw[hnet]
  refine List.pairwise_append.2 ⟨o2,List.pairwise_singleton ..,fun b hb b' hb'=> ?_⟩
  rw[List.mem_singleton] at hb'
  subst hb'
  have:=hr1 b hb
  exact⟨by show b.kind<=2;omega,by show(2:Int)<=b.kind+1;omega,fun e=>by omega⟩
 ·rw[hnd]
  rcases a.oth f hf' hfx with e|⟨_,_,e⟩
  ·exact .inl e
  ·have:=(e m hmm).1;omega
 ·have:=a.w
  rw[hnd,hnet,Qoj]
  rw[d.n,QiZ] at this
  have e1:wA4 m=2:=by unfold wA4;rw[if_pos (.inl h1)]
  have e2:wAs [(⟨2,X.id,m.from_,if QkQ X m then m.term else X.term,0,0,0,decide (QkQ X m),[]⟩:RM)]=1:=rfl
  omega
 ·rw[hnet] at hb
  rcases List.mem_append.1 hb with e|e
  ·exact(hr1 b e).2
  ·rw[List.mem_singleton] at e;subst e;exact Int.le_refl _
 ·rw[hnd]
  rcases a.tm f hf' hfx with e|⟨b,e1,e2,e3⟩|⟨b,e1,e2,e3⟩
  ·exact .inl e
  ·by_cases hbm:b=m
   ·subst hbm
    have hfe:f=b.to.toNat:=by omega
    by_cases hle:(N0 f).term<=(nd C x).term
    ·exact .inl hle
    ·refine .inr (.inr ⟨_,by rw[hnet];exact List.mem_append_right _ (List.mem_singleton.2 rfl),rfl,by rw[hfe];exact hid, ?_⟩)
     refine decide_eq_false fun z=> ?_
     have:=(hpq.1 z).1
     rw[<-hfe] at this
     omega
   ·exact .inr (.inl ⟨b,hin b e1 hbm,e2,e3⟩)
  ·exact .inr (.inr ⟨b,hin b e1 (fun z=>by subst z;omega),e2,e3⟩)
 ·rw[hnd] at hr⊢
  obtain⟨q1,q2⟩:=a.v1 hr
  refine⟨q1,fun f hf' hp=> ?_⟩
  rcases q2 f hf' hp with e|⟨b,e1,e2,e3⟩|⟨b,e1,e2,e3⟩
  ·exact .inl e
  ·by_cases hbm:b=m
   ·subst hbm
    have hfe:f=b.to.toNat:=by omega
    refine .inr (.inr ⟨_,by rw[hnet];exact List.mem_append_right _ (List.mem_singleton.2 rfl),rfl,by rw[hfe];exact hid, ?_⟩)
    refine decide_eq_true (hpq.2 ?_)
    rw[<-hfe];exact hp (by omega)
   ·exact .inr (.inl ⟨b,hin b e1 hbm,e2,e3⟩)
  ·exact .inr (.inr ⟨b,hin b e1 (fun z=>by subst z;omega),e2,e3⟩)
 ·rw[hnd]
  obtain⟨q1,q2⟩:=a.v2 h2
  refine⟨q1,fun hr=> ?_⟩
  obtain⟨v,q3,q4⟩:=q2 hr
  refine⟨v,q3,fun f hf'=>(q4 f hf').imp (fun z=>z) fun⟨z1,z2,z3,z4⟩=>⟨z1,z2,z3, ?_⟩⟩
  rcases z4 with⟨b,e1,e2,e3⟩|⟨b,e1,e2,e3⟩
  ·exact .inl ⟨b,hin b e1 (fun z=>by subst z;omega),e2,e3⟩
  ·exact .inr ⟨b,hin b e1 (fun z=>by subst z;omega),e2,e3⟩
theorem ar_vote(d:Dl k g S C m r X)(a:AR k x T0 N0 bw C)(h3:m.kind=3)(hf:m.from_=(x:Int))(ht:m.term=T0+1)(hi:m.index=(N0 x).log.length)(hlt:m.logTerm=Qa9 (N0 x).log):AR k x T0 N0 (bw -1) (QaX C):=by
 have c:=d.c
 have hmm:m∈C.net:=by rw[d.n];exact List.mem_cons_self ..
 have hto:=d.to
 have hne:m.to.toNat≠x:=by have:=d.ne;omega
 have hX:X=N0 m.to.toNat:=by
  rcases a.oth _ c.ni.ik hne with e|⟨_,_,e⟩
  ·rw[<-d.old];exact e
  ·have:=(e m hmm).2 h3;omega
 obtain⟨o1,o2⟩:=Qoz (by have:=a.ord;rwa[d.n] at this)
 have hr3:∀b∈r,3<=b.kind/\b.kind<=4/\(b.kind=3->m.to≠b.to):=fun b hb=>by have:=o1 b hb;exact⟨by omega,by omega,fun e=>this.2.2 h3 e⟩
 have hnx:nd (QaX C) x=nd C x:=d.other (fun e=>hne e.symm)
 have hnr1:(nd C x).role≠1:=fun e=>by have:=a.r1 e m hmm;omega
 have hxt:T0+1<=(nd C x).term:=by rcases a.role with⟨h,_⟩|⟨_,h⟩|⟨_,h⟩<;>omega
 have htm:∀f,f<k->f≠x->(N0 f).term<=(nd C x).term:=fun f hf' hfx=>by
  have hall:∀b∈C.net,3<=b.kind:=fun b hb=>by
   rcases Qmj d.n hb with e|e
   ·rw[e];omega
   ·exact(hr3 b e).1
  rcases a.tm f hf' hfx with e|⟨b,e1,e2,_⟩|⟨b,e1,e2,_⟩
  ·exact e
  ·have:=hall b e1;omega
  ·have:=hall b e1;omega
 have hid:=c.ni.id
 by_cases hlo:m.term<X.term
 ·
  have hY:Qaa X m=X:=by rw[Qi4 d.cb (by omega) hlo,if_neg (by omega)]
  have hnd:∀j,nd (QaX C) j=nd C j:=fun j=>by
   by_cases e:j=m.to.toNat
   ·subst e;rw[d.self,d.old,hY];exact QfU c
   ·exact d.other e
  have hnet:(QaX C).net=r:=by rw[d.net,hY,c.out,List.take_nil,List.append_nil]
  refine⟨a.xk,by rw[hnd];exact a.log,by rw[hnd];exact a.commit,by rw[hnd];exact a.leader,by rw[hnd];exact a.since,by rw[hnd];exact a.role,by rw[hnd];exact a.few,fun b hb=>a.net b (by rw[d.n];rw[hnet] at hb;exact List.mem_cons_of_mem _ hb),by rw[hnet];exact o2,fun f hf' hfx=> ?_, ?_,fun hr=>by rw[hnd] at hr;exact absurd hr hnr1,fun f hf' hfx=> .inl (by rw[hnd];exact htm f hf' hfx),fun hr=>by rw[hnd] at hr;exact absurd hr hnr1,fun h2=> ?_⟩
  ·rw[hnd]
   refine(a.oth f hf' hfx).imp (fun z=>z) fun⟨z1,z2,z3⟩=>⟨z1,by rw[hnd];exact z2,fun b hb=>z3 b (by rw[d.n];rw[hnet] at hb;exact List.mem_cons_of_mem _ hb)⟩
  ·have:=a.w
   rw[hnd,hnet]
   rw[d.n,QiZ] at this
   have e1:wA4 m=2:=by unfold wA4;rw[if_pos (.inr h3)]
   omega
  ·exfalso
   have:=h2 _ c.ni.ik hne
   rw[<-hX] at this
   omega
 ·have hge:X.term<=m.term:=by omega
  have hY:=st3 d.cb h3 hge
  have hzt:=QbN hge
  obtain⟨z1,z2,z3,z4,z5,z6,z7⟩:=Qbl X m
  have e1:(if Qbm (Qab X m) m then{(Qab X m) with hard:=(Qab X m).hard||((Qab X m).vote !=m.from_),vote:=m.from_,since:=0} else Qab X m).out= []:=by split<;>exact z3.trans c.out
  have e2:(if Qbm (Qab X m) m then{(Qab X m) with hard:=(Qab X m).hard||((Qab X m).vote !=m.from_),vote:=m.from_,since:=0} else Qab X m).term=m.term:=by split<;>exact hzt
  have e3:(if Qbm (Qab X m) m then{(Qab X m) with hard:=(Qab X m).hard||((Qab X m).vote !=m.from_),vote:=m.from_,since:=0} else Qab X m).id=X.id:=by split<;>exact z4
  have hout:(Qaa X m).out= [⟨4,X.id,m.from_,m.term,0,0,0,decide (Qbm (Qab X m) m),[]⟩]:=by
   rw[hY]
   show(if Qbm (Qab X m) m then _ else Qab X m).out++ [(⟨4,(if Qbm (Qab X m) m then{(Qab X m) with hard:=(Qab X m).hard||((Qab X m).vote !=m.from_),vote:=m.from_,since:=0} else Qab X m).id,m.from_,(Qab X m).term,0,0,0,decide (Qbm (Qab X m) m),[]⟩:RM)]=_
   rw[e1,e3,hzt];rfl
  have hnet:(QaX C).net=r++ [⟨4,X.id,m.from_,m.term,0,0,0,decide (Qbm (Qab X m) m),[]⟩]:=by rw[d.net,hout,Qfj d.cap]
  have hvot:Vot T0 (N0 m.to.toNat) (nd (QaX C) m.to.toNat):=by
   rw[d.self,hY,<-hX]
   have f1:∀Z:RN,(if Qbm (Qab X m) m then{Z with hard:=Z.hard||(Z.vote !=m.from_),vote:=m.from_,since:=0} else Z).log=Z.log/\(if Qbm (Qab X m) m then{Z with hard:=Z.hard||(Z.vote !=m.from_),vote:=m.from_,since:=0} else Z).commit=Z.commit/\(if Qbm (Qab X m) m then{Z with hard:=Z.hard||(Z.vote !=m.from_),vote:=m.from_,since:=0} else Z).role=Z.role/\(if Qbm (Qab X m) m then{Z with hard:=Z.hard||(Z.vote !=m.from_),vote:=m.from_,since:=0} else Z).leader=Z.leader/\(if Qbm (Qab X m) m then{Z with hard:=Z.hard||(Z.vote !=m.from_),vote:=m.from_,since:=0} else Z).quiet=Z.quiet/\(if Qbm (Qab X m) m then{Z with hard:=Z.hard||(Z.vote !=m.from_),vote:=m.from_,since:=0} else Z).heard=Z.heard:=fun Z=>by split<;>exact⟨rfl,rfl,rfl,rfl,rfl,rfl⟩
   obtain⟨u1,u2,u3,u4,u5,u6⟩:=f1 (Qab X m)
   refine⟨u1.trans z2,u2.trans z1,by show(if Qbm (Qab X m) m then _ else Qab X m).term=_;rw[e2,ht],by omega,fun hlt=> ?_,fun heq=> ?_⟩
   ·have hup:=newer_up (X:=X) (m:=m) (by omega)
    exact⟨u3.trans (by rw[hup]),u4.trans (by rw[hup])⟩
   ·have hsame:Qab X m=X:=Qbu (by omega)
    rw[hsame] at u3 u4 u5 u6
    refine⟨by rw[hsame];exact u3,by rw[hsame];exact u4,by rw[hsame];exact u5,by rw[hsame];exact u6,fun h3r=> ?_⟩
    rw[hsame]
    show(if Qbm X m then{X with hard:=X.hard||(X.vote !=m.from_),vote:=m.from_,since:=0} else X).since=X.since
    rw[if_neg fun z=>z.2.1 h3r]
  have hin:∀b∈C.net,b≠m->b∈(QaX C).net:=fun b hb hbm=>by
   rw[hnet]
   rcases Qmj d.n hb with e|e
   ·exact absurd e hbm
   ·exact List.mem_append_left _ e
  refine⟨a.xk,by rw[hnx];exact a.log,by rw[hnx];exact a.commit,by rw[hnx];exact a.leader,by rw[hnx];exact a.since,by rw[hnx];exact a.role,by rw[hnx];exact a.few,fun b hb=> ?_, ?_,fun f hf' hfx=> ?_, ?_,fun hr=>by rw[hnx] at hr;exact absurd hr hnr1,fun f hf' hfx=> .inl (by rw[hnx];exact htm f hf' hfx),fun hr=>by rw[hnx] at hr;exact absurd hr hnr1,fun h2=> ?_⟩
  ·rw[hnet] at hb
   rcases List.mem_append.1 hb with e|e
   ·exact a.net b (by rw[d.n];exact List.mem_cons_of_mem _ e)
   ·rw[List.mem_singleton] at e
    subst e
    exact .told m.to.toNat rfl hf hid ht
  ·rw[hnet]
   refine List.pairwise_append.2 ⟨o2,List.pairwise_singleton ..,fun b hb b' hb'=> ?_⟩
   rw[List.mem_singleton] at hb'
   subst hb'
   have:=hr3 b hb
   exact⟨this.2.1,by show(4:Int)<=b.kind+1;omega,fun _ e=>absurd e (by decide:¬(4:Int)=3)⟩
  ·have hkinds:∀b∈(QaX C).net,3<=b.kind:=fun b hb=>by
    rw[hnet] at hb
    rcases List.mem_append.1 hb with e|e
    ·exact(hr3 b e).1
    ·rw[List.mem_singleton] at e;subst e;exact(by decide:(3:Int)<=4)
   by_cases e:f=m.to.toNat
   ·subst e
    refine .inr ⟨hvot,by rw[hnx];exact hxt,fun b hb=>⟨hkinds b hb,fun hb3=> ?_⟩⟩
    rw[hnet] at hb
    rcases List.mem_append.1 hb with e|e
    ·have:=(hr3 b e).2.2 hb3
     omega
    ·rw[List.mem_singleton] at e;subst e;exact absurd hb3 (by decide:¬(4:Int)=3)
   ·rw[d.other e,hnx]
    refine(a.oth f hf' hfx).imp (fun z=>z) fun⟨q1,q2,q3⟩=>⟨q1,q2,fun b hb=>⟨hkinds b hb,fun hb3=> ?_⟩⟩
    rw[hnet] at hb
    rcases List.mem_append.1 hb with e|e
    ·exact(q3 b (by rw[d.n];exact List.mem_cons_of_mem _ e)).2 hb3
    ·rw[List.mem_singleton] at e;subst e;exact absurd hb3 (by decide:¬(4:Int)=3)
  ·have:=a.w
   rw[hnx,hnet,Qoj]
   rw[d.n,QiZ] at this
   have e1:wA4 m=2:=by unfold wA4;rw[if_pos (.inr h3)]
   have e2:wAs [(⟨4,X.id,m.from_,m.term,0,0,0,decide (Qbm (Qab X m) m),[]⟩:RM)]=1:=rfl
   omega
  ·rw[hnx]
   obtain⟨q1,q2⟩:=a.v2 h2
   refine⟨q1,fun hr=> ?_⟩
   obtain⟨v,q3,q4⟩:=q2 hr
   refine⟨v,q3,fun f hf'=>(q4 f hf').imp (fun z=>z) fun⟨y1,y2,y3,y4⟩=>⟨y1,y2,y3, ?_⟩⟩
   rcases y4 with⟨b,p1,p2,p3⟩|⟨b,p1,p2,p3⟩
   ·by_cases hbm:b=m
    ·subst hbm
     have hfe:f=b.to.toNat:=by omega
     refine .inr ⟨_,by rw[hnet];exact List.mem_append_right _ (List.mem_singleton.2 rfl),rfl,by rw[hfe];exact hid, ?_⟩
     refine decide_eq_true ?_
     have hlt':=h2 f y1 y2
     have hup:=newer_up (X:=X) (m:=b) (by rw[hX,<-hfe];omega)
     unfold Qbm
     rw[hup]
     refine⟨.inl rfl,(by decide:(0:Int)≠3), ?_⟩
     show Qd4 X.log b.index b.logTerm
     rw[hi,hlt,hX,<-hfe]
     exact y3.2.1
    ·exact .inl ⟨b,hin b p1 hbm,p2,p3⟩
   ·exact .inr ⟨b,hin b p1 (fun z=>by subst z;omega),p2,p3⟩
end
section
variable {k X0 LC M bd E Zb l x:Nat}{g g':GH}{i f S:Nat}{X Y F L W:RN}{m:RM}{C:CS}{r A B D D':List RM}{rr rr':Nat->Nat}{dr t T0:Int}{N0:Nat->RN}{bw:Nat}
theorem follow_up{X:RN}{t:Int}(h:t>X.term):Qai X t (-1)={X with term:=t,vote:= -1,hard:=true,role:=0,leader:= -1}:=by
 unfold Qai
 rw[if_pos h]
theorem Qn3{v a b:Nat}:(v|||2^a).testBit b=true↔v.testBit b=true\/b=a:=by
 rw[Nat.testBit_or,Bool.or_eq_true]
 refine or_congr Iff.rfl ⟨Qh9,fun e=> ?_⟩
 rw[e,Nat.testBit_two_pow,decide_eq_true_iff]
theorem ar_tell(d:Dl k g S C m r X)(hk:2<=k)(hbw:bw<=24)(a:AR k x T0 N0 bw C){f0:Nat}(h2:m.kind=2)(hto:m.to=(x:Int))(hfr:m.from_=(f0:Int))(hfk:f0<k)(hfx:f0≠x)(hyes:m.yes=true->preQ x T0 N0 f0/\m.term=T0+1)(hno:m.yes=false->¬preQ x T0 N0 f0/\m.term=(N0 f0).term):AR k x T0 N0 (bw -1) (QaX C):=by
 have c:=d.c
 have hmm:m∈C.net:=by rw[d.n];exact List.mem_cons_self ..
 have hix:m.to.toNat=x:=by omega
 have hX:X=nd C x:=by rw[<-d.old,hix]
 have hxid:X.id=(x:Int):=by rw[c.ni.id,hix]
 have hY:=st2 d.cb h2
 obtain⟨o1,o2⟩:=Qoz (by have:=a.ord;rwa[d.n] at this)
 have hr2:∀b∈r,2<=b.kind/\b.kind<=3:=fun b hb=>by have:=o1 b hb;omega
 have hself:nd (QaX C) x=Qae (Qaa X m):=by rw[<-hix];exact d.self
 have hoth:∀f,f≠x->nd (QaX C) f=nd C f:=fun f hf=>d.other (by omega)
 have hun:∀f,f<k->f≠x->nd C f=N0 f:=fun f h1 h2'=>(a.oth f h1 h2').resolve_right fun⟨_,_,e⟩=>by have:=(e m hmm).1;omega
 have hlow:=a.low
 have hw:=a.w
 rw[d.n,QiZ] at hw
 have hwm:wA4 m=1:=by unfold wA4;rw[if_neg (by omega)]
 have hk1:∀f,¬∃b∈C.net,b.kind=1/\b.to=(f:Int):=fun f ⟨b,hb,e,_⟩=>by
  rcases Qmj d.n hb with z|z
  ·subst z;omega
  ·have:=hr2 b z;omega
 have hrin:∀b∈C.net,b≠m->b∈r:=fun b hb hbm=>(Qmj d.n hb).resolve_left hbm
 have hna:¬QaF X (2^X.id.toNat):=Qcy (X:=X) (m:=m) c.ni ⟨d.w.2.2.f.1,by rw[c.ni.n];exact d.w.2.2.f.2,by rw[c.ni.id,<-d.to];exact d.w.2.2.ne⟩
 have hclean:=QfU c
 have base:(Qaa X m).out= []->(Qaa X m).log=X.log->(Qaa X m).commit=X.commit->(Qaa X m).leader= -1->(Qaa X m).since=X.since->
   (((Qaa X m).role=1/\(Qaa X m).term=T0)\/((Qaa X m).role=2/\(Qaa X m).term=T0+1)\/((Qaa X m).role=0/\T0<(Qaa X m).term))->
   ((Qaa X m).role=1\/(Qaa X m).role=2->¬QaF X (Qaa X m).votes)->(Qaa X m).n=X.n->((Qaa X m).role=1->X.role=1)->X.term<=(Qaa X m).term->(m.yes=false->(N0 f0).term<=(Qaa X m).term)->
   ((Qaa X m).role=1->(Qaa X m).votes=(if m.yes=true then X.votes|||2^f0 else X.votes)\/m.yes=false)->((Qaa X m).role=1->(∀f,(Qaa X m).votes.testBit f=true->X.votes.testBit f=true\/(f=f0/\m.yes=true))/\∀f,X.votes.testBit f=true->(Qaa X m).votes.testBit f=true)->
   ((∀f,f<k->f≠x->(N0 f).term<=T0)->(Qaa X m).role≠0/\((Qaa X m).role=2->X.role=2/\(Qaa X m).votes=X.votes))->AR k x T0 N0 (bw -1) (QaX C):=fun b1 b2 b3 b4 b5 b6 b7 b8 b9 b10 b11 b12 b13 b14=>by
  have hnet:(QaX C).net=r:=by rw[d.net,b1,List.take_nil,List.append_nil]
  refine⟨a.xk,by rw[hself];exact b2.trans (by rw[hX];exact a.log),by rw[hself];exact b3.trans (by rw[hX];exact a.commit),by rw[hself];exact b4,by rw[hself];exact b5.trans (by rw[hX];exact a.since),by rw[hself];exact b6,fun hr=> ?_,fun b hb=>a.net b (by rw[d.n];rw[hnet] at hb;exact List.mem_cons_of_mem _ hb),by rw[hnet];exact o2,fun f h1 h2'=> .inl (by rw[hoth f h2'];exact hun f h1 h2'), ?_,fun hr b hb=> ?_,fun f h1 h2'=> ?_,fun hr=> ?_,fun hl=> ?_⟩
  ·rw[hself] at hr⊢
   have:=b7 hr
   unfold QaF at this⊢
   show ¬2*(QoF 7 (Qaa X m).votes:Int)>(Qaa X m).n
   rw[b8];exact this
  ·rw[hself,hnet]
   show wAs r+(if(Qaa X m).role=1 then 2*(k -1) else 0)<=bw -1
   rw[<-hX] at hw
   by_cases hr:(Qaa X m).role=1
   ·rw[if_pos hr]
    rw[if_pos (b9 hr)] at hw
    omega
   ·rw[if_neg hr];omega
  ·rw[hself] at hr
   rw[hnet] at hb
   exact a.r1 (by rw[<-hX];exact b9 hr) b (by rw[d.n];exact List.mem_cons_of_mem _ hb)
  ·rw[hself,hnet]
   show(N0 f).term<=(Qaa X m).term\/_
   rcases a.tm f h1 h2' with e|e|⟨b,e1,e2,e3,e4⟩
   ·rw[<-hX] at e;exact .inl (by omega)
   ·exact absurd e (hk1 f)
   ·by_cases hbm:b=m
    ·subst hbm
     have:f=f0:=by omega
     exact .inl (by rw[this];exact b11 e4)
    ·exact .inr (.inr ⟨b,hrin b e1 hbm,e2,e3,e4⟩)
  ·rw[hself] at hr⊢
   have hr:(Qaa X m).role=1:=hr
   obtain⟨q1,q2⟩:=a.v1 (by rw[<-hX];exact b9 hr)
   rw[<-hX] at q1 q2
   obtain⟨p1,p2⟩:=b13 hr
   refine⟨fun f hb hfx'=> ?_,fun f h1 hp=> ?_⟩
   ·rcases p1 f hb with e|⟨e,e2⟩
    ·exact q1 f e hfx'
    ·rw[e];exact⟨hfk,(hyes e2).1⟩
   ·rw[hnet]
    show(Qaa X m).votes.testBit f=true\/_
    rcases q2 f h1 hp with e|e|⟨b,e1,e2,e3,e4⟩
    ·exact .inl (p2 f e)
    ·exact absurd e (hk1 f)
    ·by_cases hbm:b=m
     ·subst hbm
      have hff:f=f0:=by omega
      left
      rcases b12 hr with z|z
      ·rw[z,if_pos e4];exact Qn3.2 (.inr hff)
      ·rw[e4] at z;cases z
     ·exact .inr (.inr ⟨b,hrin b e1 hbm,e2,e3,e4⟩)
  ·rw[hself,hnet]
   obtain⟨q1,q2⟩:=b14 hl
   refine⟨q1,fun hr=> ?_⟩
   obtain⟨s1,s2⟩:=q2 hr
   obtain⟨v,q3,q4⟩:=(a.v2 hl).2 (by rw[<-hX];exact s1)
   rw[<-hX] at q3 q4
   refine⟨v,by unfold QaF at q3⊢;show 2*(QoF 7 v:Int)>(Qaa X m).n;rw[b8];exact q3,fun f hf'=> ?_⟩
   show(Qaa X m).votes.testBit f=true\/_
   rw[s2]
   refine(q4 f hf').imp (fun z=>z) fun⟨y1,y2,y3,y4⟩=>⟨y1,y2,y3, ?_⟩
   rcases y4 with⟨b,p1,p2,p3⟩|⟨b,p1,p2,p3⟩
   ·exact .inl ⟨b,hrin b p1 (fun z=>by subst z;omega),p2,p3⟩
   ·exact .inr ⟨b,hrin b p1 (fun z=>by subst z;omega),p2,p3⟩
 have hrole:=a.role
 have hfew:=a.few
 have hlead:=a.leader
 rw[<-hX] at hrole hfew hlead hlow
 unfold QaS at hY
 by_cases c1:m.yes=false/\m.term>X.term
 ·rw[if_pos c1,follow_up c1.2] at hY
  obtain⟨_,n2⟩:=hno c1.1
  refine base (by rw[hY];exact c.out) (by rw[hY]) (by rw[hY]) (by rw[hY]) (by rw[hY]) (.inr (.inr ⟨by rw[hY],by rw[hY];show T0<m.term;omega⟩)) (fun hr=>by rw[hY] at hr;exact absurd hr (by show ¬((0:Int)=1\/(0:Int)=2);decide)) (by rw[hY]) (fun hr=>by rw[hY] at hr;exact absurd hr (by show ¬(0:Int)=1;decide)) (by rw[hY];show X.term<=m.term;omega) (fun _=>by rw[hY];show _<=m.term;omega) (fun hr=> .inr c1.1) (fun hr=>by rw[hY] at hr;exact absurd hr (by show ¬(0:Int)=1;decide)) (fun hl=> ?_)
  have:=hl f0 hfk hfx
  omega
 rw[if_neg c1] at hY
 by_cases c2:m.yes=true/\m.term=X.term+1/\X.role=1
 ·rw[if_pos c2] at hY
  obtain⟨y1,y2⟩:=hyes c2.1
  have hXT:X.term=T0:=by omega
  have hft:m.from_.toNat=f0:=by omega
  rw[hft] at hY
  by_cases c3:QaF X (X.votes|||2^f0)
  ·
   rw[if_pos c3] at hY
   have hYs:Qaa X m={QbB {X with votes:=X.votes|||2^f0} with out:=(Qax (QbB {X with votes:=X.votes|||2^f0}) k).map fun(z:Nat)=>⟨3,X.id,(z:Int),X.term+1,X.log.length,Qa9 X.log,0,false,[]⟩}:=by
    rw[hY]
    unfold QaU
    rw[if_neg (show ¬QaF {X with votes:=X.votes|||2^f0} (2^X.id.toNat) from hna)]
    show({QbB {X with votes:=X.votes|||2^f0} with out:=X.out++(Qax (QbB {X with votes:=X.votes|||2^f0}) X.n.toNat).map _}:RN)=_
    rw[c.out,List.nil_append,c.ni.n,Int.toNat_natCast]
    rfl
   have h7:=c.ni.k7
   have hcnt:=Qbt (X:=QbB {X with votes:=X.votes|||2^f0}) (k:=k) (i:=x) hxid a.xk
   have hroom:=a.room
   rw[d.n,List.length_cons] at hroom
   have hnet:(QaX C).net=r++(Qax (QbB {X with votes:=X.votes|||2^f0}) k).map fun(z:Nat)=>⟨3,X.id,(z:Int),X.term+1,X.log.length,Qa9 X.log,0,false,[]⟩:=by
    rw[d.net,hYs]
    congr 1
    refine List.take_of_length_le ?_
    rw[List.length_map]
    omega
   have hr1k:∀b∈r,b.kind=2:=fun b hb=>by
    have:=a.r1 (by rw[<-hX];exact c2.2.2) b (by rw[d.n];exact List.mem_cons_of_mem _ hb)
    have:=hr2 b hb
    omega
   have hself':nd (QaX C) x=Qae (QbB {X with votes:=X.votes|||2^f0}):=by rw[hself,hYs];rfl
   have hlog:X.log=(N0 x).log:=by rw[hX];exact a.log
   refine⟨a.xk,by rw[hself'];exact hlog,by rw[hself',hX];exact a.commit,by rw[hself'];exact hlead,by rw[hself'];rfl,.inr (.inl ⟨by rw[hself'];rfl,by rw[hself'];show X.term+1=_;omega⟩),fun _=>by rw[hself'];exact hna,fun b hb=> ?_, ?_,fun f h1 h2'=> .inl (by rw[hoth f h2'];exact hun f h1 h2'), ?_,fun hr=>by rw[hself'] at hr;exact absurd hr (by show ¬(2:Int)=1;decide),fun f h1 h2'=> ?_,fun hr=>by rw[hself'] at hr;exact absurd hr (by show ¬(2:Int)=1;decide),fun hl=> ?_⟩
   ·rw[hnet] at hb
    rcases List.mem_append.1 hb with e|e
    ·exact a.net b (by rw[d.n];exact List.mem_cons_of_mem _ e)
    ·obtain⟨z,_,rfl⟩:=List.mem_map.1 e
     exact .vote rfl hxid (by show X.term+1=_;omega) (by show(X.log.length:Int)=_;rw[hlog]) (by show Qa9 X.log=_;rw[hlog])
   ·rw[hnet]
    refine List.pairwise_append.2 ⟨o2, ?_,fun b hb b' hb'=> ?_⟩
    ·refine List.Pairwise.map _ (fun z z' (hzz:z≠z')=> ?_) (List.Pairwise.filter _ (List.nodup_range (n:=k)))
     exact⟨Int.le_refl _,(by decide:(3:Int)<=3+1),fun _ _=>by show(z:Int)≠z';omega⟩
    ·obtain⟨z,_,rfl⟩:=List.mem_map.1 hb'
     have:=hr1k b hb
     exact⟨by show b.kind<=3;omega,by show(3:Int)<=b.kind+1;omega,fun e=>by omega⟩
   ·rw[<-hX,if_pos c2.2.2] at hw
    have key:∀(l:List Nat) (G:Nat->RM),wAs (l.map G)<=2*l.length:=by
     intro l G
     induction l with
     |nil=>exact Nat.le_refl _
     |cons z l ih=>
      have:wA4 (G z)<=2:=by unfold wA4;split<;>omega
      show wA4 (G z)+wAs (l.map G)<=2*(l.length+1)
      omega
    rw[hnet,Qoj,hself',if_neg (show ¬(Qae (QbB {X with votes:=X.votes|||2^f0})).role=1 from(by decide:¬(2:Int)=1))]
    have:=key (Qax (QbB {X with votes:=X.votes|||2^f0}) k) fun(z:Nat)=>⟨3,X.id,(z:Int),X.term+1,X.log.length,Qa9 X.log,0,false,[]⟩
    omega
   ·rw[hself',hnet]
    show(N0 f).term<=X.term+1\/_
    rcases a.tm f h1 h2' with e|e|⟨b,e1,e2,e3,e4⟩
    ·rw[<-hX] at e;exact .inl (by omega)
    ·exact absurd e (hk1 f)
    ·by_cases hbm:b=m
     ·subst hbm;rw[c2.1] at e4;cases e4
     ·exact .inr (.inr ⟨b,List.mem_append_left _ (hrin b e1 hbm),e2,e3,e4⟩)
   ·rw[hself',hnet]
    refine⟨(by decide:(2:Int)≠0),fun _=>⟨X.votes|||2^f0,c3,fun f hf'=> ?_⟩⟩
    by_cases efx:f=x
    ·left
     show(2^X.id.toNat).testBit f=true
     rw[Nat.testBit_two_pow,decide_eq_true_iff]
     omega
    ·right
     obtain⟨q1,_⟩:=a.v1 (by rw[<-hX];exact c2.2.2)
     rw[<-hX] at q1
     have hp:f<k/\preQ x T0 N0 f:=by
      rcases Qn3.1 hf' with e|e
      ·exact q1 f e efx
      ·rw[e];exact⟨hfk,y1⟩
     refine⟨hp.1,efx,hp.2,.inl ⟨_,List.mem_append_right _ (List.mem_map.2 ⟨f, ?_,rfl⟩),rfl,rfl⟩⟩
     unfold Qax
     refine List.mem_filter.2 ⟨List.mem_range.2 hp.1,decide_eq_true ?_⟩
     show(f:Int)≠X.id
     omega
  ·rw[if_neg c3] at hY
   refine base (by rw[hY];exact c.out) (by rw[hY]) (by rw[hY]) (by rw[hY];exact hlead) (by rw[hY]) (.inl ⟨by rw[hY];exact c2.2.2,by rw[hY];exact hXT⟩) (fun _=>by rw[hY];exact c3) (by rw[hY]) (fun _=>c2.2.2) (by rw[hY];exact Int.le_refl _) (fun e=>by rw[c2.1] at e;cases e) (fun _=> .inl (by rw[hY,if_pos c2.1])) (fun _=>⟨fun f hb=>by rw[hY] at hb;exact(Qn3.1 hb).imp (fun z=>z) fun z=>⟨z,c2.1⟩,fun f hb=>by rw[hY];exact Qn3.2 (.inl hb)⟩) fun hl=>⟨by rw[hY];show X.role≠0;omega,fun hr=>by rw[hY] at hr;have hr:X.role=2:=hr;omega⟩
 ·rw[if_neg c2] at hY
  have hn1:m.yes=false\/X.role≠1:=by
   cases hy:m.yes
   ·exact .inl rfl
   ·right
    intro hr1
    obtain⟨_,y2⟩:=hyes hy
    rcases hrole with⟨_,e⟩|⟨e,_⟩|⟨e,_⟩
    ·exact c2 ⟨hy,by omega,hr1⟩
    ·omega
    ·omega
  refine base (by rw[hY];exact c.out) (by rw[hY]) (by rw[hY]) (by rw[hY];exact hlead) (by rw[hY]) (by rw[hY];exact hrole) (fun hr=>by rw[hY] at hr⊢;exact hfew hr) (by rw[hY]) (fun hr=>by rw[hY] at hr;exact hr) (by rw[hY];exact Int.le_refl _) (fun e=> ?_) (fun hr=> ?_) (fun _=>⟨fun f hb=>by rw[hY] at hb;exact .inl hb,fun f hb=>by rw[hY];exact hb⟩) fun hl=> ?_
  ·rw[hY]
   have:=(hno e).2
   have:¬m.term>X.term:=fun z=>c1 ⟨e,z⟩
   omega
  ·rw[hY] at hr
   exact .inr (hn1.resolve_right fun z=>z hr)
  ·rw[hY]
   have:=(a.v2 hl).1
   rw[<-hX] at this
   exact⟨this,fun hr=>⟨hr,rfl⟩⟩
end
section
variable {k X0 LC M bd E Zb l x:Nat}{g g':GH}{i f S:Nat}{X Y F L W:RN}{m:RM}{C:CS}{r A B D D':List RM}{rr rr':Nat->Nat}{dr t T0:Int}{N0:Nat->RN}{bw:Nat}{σ:Nat->Int}
structure Won(k x:Nat)(T0:Int)(N0:Nat->RN)(C:CS):Prop where
 pm:PM k x (T0+1) 1 30 C 1 0 (fun _=>0)
 he:HE k x (T0+1) C
 msg:∀f,f<k->f≠x->∃m∈C.net,m.kind=5/\m.to=(f:Int)
 log:(nd C x).log.length=(N0 x).log.length+1
 quiet:(nd C x).quiet=0
 since:(nd C x).since=0
 len:C.net.length<=30
 oth:∀f,f<k->f≠x->(nd C f).log=(N0 f).log
 lead:∀f,f<k->f≠x->(nd C f).role=3->(nd C f).term=(N0 f).term/\(N0 f).role=3/\(nd C f).since=(N0 f).since
theorem Vot.lead{A B:RN}(v:Vot T0 A B)(h:B.role=3):B.term=A.term/\A.role=3/\B.since=A.since:=by
 by_cases e:A.term<T0+1
 ·have:=(v.up e).1
  omega
 ·have e:A.term=T0+1:=by have:=v.low;omega
  have q:=v.eq e
  have h3:A.role=3:=by omega
  exact⟨v.term.trans e.symm,h3,q.2.2.2.2 h3⟩
theorem AR.lead(a:AR k x T0 N0 bw C){f:Nat}(h1:f<k)(h2:f≠x)(h:(nd C f).role=3):(nd C f).term=(N0 f).term/\(N0 f).role=3/\(nd C f).since=(N0 f).since:=by
 rcases a.oth f h1 h2 with e|⟨e,_,_⟩
 ·rw[e] at h⊢
  exact⟨rfl,h,rfl⟩
 ·exact e.lead h
theorem ar_told(d:Dl k g S C m r X)(hk:2<=k)(hbw:bw<=24)(hlen:X.log.length<1024)(a:AR k x T0 N0 bw C){f0:Nat}(h4:m.kind=4)(hto:m.to=(x:Int))(hfr:m.from_=(f0:Int))(hmt:m.term=T0+1):AR k x T0 N0 (bw -1) (QaX C)\/Won k x T0 N0 (QaX C):=by
 have c:=d.c
 have hmm:m∈C.net:=by rw[d.n];exact List.mem_cons_self ..
 have hix:m.to.toNat=x:=by omega
 have hX:X=nd C x:=by rw[<-d.old,hix]
 have hxid:X.id=(x:Int):=by rw[c.ni.id,hix]
 obtain⟨o1,o2⟩:=Qoz (by have:=a.ord;rwa[d.n] at this)
 have hr4:∀b∈r,b.kind=4:=fun b hb=>by
  have:=o1 b hb
  rcases a.net b (by rw[d.n];exact List.mem_cons_of_mem _ hb) with e|⟨_,e⟩|e|⟨_,e⟩<;>omega
 have hself:nd (QaX C) x=Qae (Qaa X m):=by rw[<-hix];exact d.self
 have hoth:∀f,f≠x->nd (QaX C) f=nd C f:=fun f hf=>d.other (by omega)
 have hw:=a.w
 rw[d.n,QiZ] at hw
 have hwm:wA4 m=1:=by unfold wA4;rw[if_neg (by omega)]
 have hrole:=a.role
 have hfew:=a.few
 have hlead:=a.leader
 rw[<-hX] at hrole hfew hlead
 have hnr1:X.role≠1:=fun e=>by have:=a.r1 (by rw[<-hX];exact e) m hmm;omega
 have hall:∀b∈C.net,b.kind=4:=fun b hb=>by
  rcases Qmj d.n hb with e|e
  ·rw[e];exact h4
  ·exact hr4 b e
 have htm:∀f,f<k->f≠x->(N0 f).term<=X.term:=fun f h1 h2=>by
  rcases a.tm f h1 h2 with e|⟨b,e1,e2,_⟩|⟨b,e1,e2,_⟩
  ·rw[<-hX] at e;exact e
  ·have:=hall b e1;omega
  ·have:=hall b e1;omega
 have hrin:∀b∈C.net,b≠m->b∈r:=fun b hb hbm=>(Qmj d.n hb).resolve_left hbm
 have base:(Qaa X m).out= []->(Qaa X m).log=X.log->(Qaa X m).commit=X.commit->(Qaa X m).leader=X.leader->(Qaa X m).since=X.since->(Qaa X m).role=X.role->(Qaa X m).term=X.term->(Qaa X m).n=X.n->(X.role=2->¬QaF X (Qaa X m).votes)->(∀f,X.votes.testBit f=true->(Qaa X m).votes.testBit f=true)->(X.role=2->m.yes=true->(Qaa X m).votes.testBit f0=true)->AR k x T0 N0 (bw -1) (QaX C):=fun b1 b2 b3 b4 b5 b6 b7 b8 b9 b10 b11=>by
  have hnet:(QaX C).net=r:=by rw[d.net,b1,List.take_nil,List.append_nil]
  refine⟨a.xk,by rw[hself];exact b2.trans (by rw[hX];exact a.log),by rw[hself];exact b3.trans (by rw[hX];exact a.commit),by rw[hself];exact b4.trans hlead,by rw[hself];exact b5.trans (by rw[hX];exact a.since),by rw[hself];show((Qaa X m).role=1/\(Qaa X m).term=T0)\/((Qaa X m).role=2/\(Qaa X m).term=T0+1)\/((Qaa X m).role=0/\T0<(Qaa X m).term);rw[b6,b7];exact hrole,fun hr=> ?_,fun b hb=>a.net b (by rw[d.n];rw[hnet] at hb;exact List.mem_cons_of_mem _ hb),by rw[hnet];exact o2,fun f h1 h2'=> ?_, ?_,fun hr=> ?_,fun f h1 h2'=> ?_,fun hr=> ?_,fun hl=> ?_⟩
  ·rw[hself] at hr⊢
   have hr:(Qaa X m).role=1\/(Qaa X m).role=2:=hr
   rw[b6] at hr
   have:=b9 (hr.resolve_left hnr1)
   unfold QaF at this⊢
   show ¬2*(QoF 7 (Qaa X m).votes:Int)>(Qaa X m).n
   rw[b8];exact this
  ·rw[hoth f h2',hself,hnet]
   refine(a.oth f h1 h2').imp (fun z=>z) fun⟨z1,z2,z3⟩=>⟨z1,by show T0+1<=(Qaa X m).term;rw[b7,hX];exact z2,fun b hb=>z3 b (by rw[d.n];exact List.mem_cons_of_mem _ hb)⟩
  ·rw[hself,hnet]
   show wAs r+(if(Qaa X m).role=1 then 2*(k -1) else 0)<=bw -1
   rw[b6,if_neg hnr1]
   omega
  ·rw[hself] at hr
   have hr:(Qaa X m).role=1:=hr
   omega
  ·rw[hself]
   exact .inl (by show _<=(Qaa X m).term;rw[b7];exact htm f h1 h2')
  ·rw[hself] at hr
   have hr:(Qaa X m).role=1:=hr
   omega
  ·rw[hself,hnet]
   obtain⟨q1,q2⟩:=a.v2 hl
   rw[<-hX] at q1 q2
   refine⟨by show(Qaa X m).role≠0;rw[b6];exact q1,fun hr=> ?_⟩
   have hrx:X.role=2:=b6.symm.trans hr
   obtain⟨v,q3,q4⟩:=q2 hrx
   refine⟨v,by unfold QaF at q3⊢;show 2*(QoF 7 v:Int)>(Qaa X m).n;rw[b8];exact q3,fun f hf'=> ?_⟩
   show(Qaa X m).votes.testBit f=true\/_
   rcases q4 f hf' with z|⟨y1,y2,y3,y4⟩
   ·exact .inl (b10 f z)
   ·rcases y4 with⟨b,p1,p2,p3⟩|⟨b,p1,p2,p3⟩
    ·have:=hall b p1;omega
    ·by_cases hbm:b=m
     ·subst hbm
      have:f=f0:=by omega
      rw[this]
      exact .inl (b11 hrx p3.2)
     ·exact .inr ⟨y1,y2,y3,.inr ⟨b,hrin b p1 hbm,p2,p3⟩⟩
 by_cases hlt:m.term<X.term
 ·have hY:Qaa X m=X:=by rw[Qi4 d.cb (by omega) hlt,if_neg (by omega)]
  left
  refine base (by rw[hY];exact c.out) (by rw[hY]) (by rw[hY]) (by rw[hY]) (by rw[hY]) (by rw[hY]) (by rw[hY]) (by rw[hY]) (fun h=>by rw[hY];exact hfew (.inr h)) (fun f h=>by rw[hY];exact h) fun h=> ?_
  rcases hrole with⟨e,_⟩|⟨_,e⟩|⟨e,_⟩<;>omega
 ·have hXt:X.term=T0+1:=by rcases hrole with⟨e,e2⟩|⟨_,e⟩|⟨e,e2⟩<;>omega
  have hY:=st4 d.cb h4 (X:=X) (by omega)
  rw[Qbu (by omega)] at hY
  have hft:m.from_.toNat=f0:=by omega
  unfold Qar at hY
  rw[hft] at hY
  by_cases c1:m.yes=false\/X.role≠2
  ·rw[if_pos c1] at hY
   left
   refine base (by rw[hY];exact c.out) (by rw[hY]) (by rw[hY]) (by rw[hY]) (by rw[hY]) (by rw[hY]) (by rw[hY]) (by rw[hY]) (fun h=>by rw[hY];exact hfew (.inr h)) (fun f h=>by rw[hY];exact h) fun h hy=> ?_
   rcases c1 with e|e
   ·rw[e] at hy;cases hy
   ·exact absurd h e
  ·rw[if_neg c1] at hY
   have hr2:X.role=2:=Decidable.byContradiction fun z=>c1 (.inr z)
   by_cases c2:QaF X (X.votes|||2^f0)
   ·rw[if_pos c2] at hY
    right
    obtain⟨Z,z0,z1,z2,z3,z4,z5,z6,z7,W,w1,w2,w3,w4,w5⟩:=QcI c hr2 hk hlen (X.votes|||2^f0)
    rw[z0] at hY
    rw[c.out,List.nil_append] at w5
    have hcnt:=Qbt (X:=W) (k:=k) (i:=x) (w1.trans hxid) a.xk
    have h7:=c.ni.k7
    have hroom:=a.room
    rw[d.n,List.length_cons] at hroom
    have hnet:(QaX C).net=r++(Qax W k).map (Qbk W):=by
     rw[d.net,hY,w5]
     congr 1
     refine List.take_of_length_le ?_
     rw[List.length_map]
     omega
    have hselfZ:nd (QaX C) x=Qae Z:=by rw[hself,hY]
    have hlenn:(QaX C).net.length<=30:=by rw[hnet,List.length_append,List.length_map];omega
    have htn:∀f,f<k->f≠x->1<=tn (QaX C).net x f (T0+1):=fun f h1 h2=>by
     rw[hnet,QgC,Qi0 (w1.trans hxid) (w2.trans hXt) h1 h2]
     omega
    have hmsg:∀f,f<k->f≠x->∃m∈(QaX C).net,m.kind=5/\m.to=(f:Int):=fun f h1 h2=>by
     rw[hnet]
     refine⟨Qbk W f,List.mem_append_right _ (List.mem_map.2 ⟨f, ?_,rfl⟩),rfl,rfl⟩
     unfold Qax
     refine List.mem_filter.2 ⟨List.mem_range.2 h1,decide_eq_true ?_⟩
     rw[w1,hxid]
     omega
    have hZq:Z.quiet=0/\Z.since=0:=by
     have e2:Z.since=0:=by rw[<-z0];exact QiI _
     refine⟨?_,e2⟩
     rw[<-z0]
     have hq:(Qc7 (Qay {X with votes:=X.votes|||2^f0}) ⟨#[]⟩).1.quiet=0:=by
      unfold Qc7
      split
      ·rfl
      split
      ·rfl
      ·unfold Qaf
       split<;>rfl
     unfold Qbh
     split
     ·unfold Qai;split<;>exact hq
     ·exact hq
    have hown:QcW (Qae Z)<=1:=ownU_new (c:=0) (c.ni.cand hr2).ter z3 z2 (by show Z.commit<=_;rw[z4];exact c.ni.c1)
    refine⟨⟨a.xk,by rw[hselfZ];exact z1,by rw[hselfZ];exact z2.trans hXt,fun b hb=> ?_,fun f h1 h2=> ?_,fun f h1 h2=> .inr (hmsg f h1 h2),fun f h1 h2 _=>by have:=htn f h1 h2;omega,Nat.le_refl _,.inl ⟨by omega,fun _=>rfl⟩, ?_⟩,fun f h1 h2=> .inr (htn f h1 h2),hmsg, ?_,by rw[hselfZ];exact hZq.1,by rw[hselfZ];exact hZq.2,hlenn,fun f h1 h2=> ?_,fun f h1 h2=> ?_⟩
    ·rw[hnet] at hb
     rcases List.mem_append.1 hb with e|e
     ·rcases a.net b (by rw[d.n];exact List.mem_cons_of_mem _ e) with e'|⟨_,e'⟩|e'|⟨_,q1,q2,q3,q4⟩
      ·have:=hr4 b e;omega
      ·have:=hr4 b e;omega
      ·have:=hr4 b e;omega
      ·exact .junk q1 q2 (by omega)
     ·obtain⟨z,_,rfl⟩:=List.mem_map.1 e
      exact .app rfl (w1.trans hxid) (w2.trans hXt)
    ·rw[hoth f h2]
     rcases a.oth f h1 h2 with e|⟨e,_,_⟩
     ·rw[e];have:=htm f h1 h2;omega
     ·rw[e.term];exact Int.le_refl _
    ·have:Qck k (fun _=>0)=0:=QbU fun _ _=>rfl
     rw[hselfZ,this]
     omega
    ·rw[hselfZ]
     show Z.log.length=_
     rw[z3,List.length_append,<-a.log,<-hX];rfl
    ·rw[hoth f h2]
     rcases a.oth f h1 h2 with e|⟨e,_,_⟩
     ·rw[e]
     ·exact e.log
    ·rw[hoth f h2]
     exact a.lead h1 h2
   ·rw[if_neg c2] at hY
    left
    refine base (by rw[hY];exact c.out) (by rw[hY]) (by rw[hY]) (by rw[hY]) (by rw[hY]) (by rw[hY]) (by rw[hY]) (by rw[hY]) (fun h=>by rw[hY];exact c2) (fun f h=>by rw[hY];exact Qn3.2 (.inl h)) fun _ _=>by rw[hY];exact Qn3.2 (.inr rfl)
theorem ar_run(hk:2<=k)(hZ:Zb<1024):∀(bw:Nat){g:GH}{S:Nat}{C:CS},bw<=24->Bas k rr Zb E g S C->Ord k g C->AR k x T0 N0 bw C->∃j g' S' C',j<=bw/\(∀p,Qbq (j+p) C=Qbq p C')/\Bas k rr Zb E g' S' C'/\Ord k g' C'/\((C'.net= []/\AR k x T0 N0 (bw -j) C')\/Won k x T0 N0 C')/\∀i,i<j->∃w,AR k x T0 N0 w (Qbq i C)
 |bw,g,S,C,hb,b,o,a=>by
  by_cases hn:C.net= []
  ·exact⟨0,g,S,C,Nat.zero_le _,fun p=>by rw[Nat.zero_add],b,o,.inl ⟨hn,a⟩,fun i hi=>by omega⟩
  ·obtain⟨m,r,hmr⟩:=List.exists_cons_of_ne_nil hn
   obtain⟨X,d⟩:=b.c.del_ o hmr
   obtain⟨g1,G,b1⟩:=b.del d.toDl hk hZ
   have hl:X.log.length<1024:=by have:=b.lt hZ d.c.ni.ik;rw[d.old] at this;omega
   have o1:=ord_del d hk hl G
   have hpos:1<=bw:=by
    have:=a.room
    rw[hmr,List.length_cons] at this
    omega
   obtain⟨bw',rfl⟩:∃q,bw=q+1:=⟨bw -1,by omega⟩
   have step:AR k x T0 N0 bw' (QaX C)\/Won k x T0 N0 (QaX C):=by
    rcases a.net m (by rw[hmr];exact List.mem_cons_self ..) with⟨q1,q2,q3,q4,q5⟩|⟨f0,q1,q2,q3,q4,q5,q6,q7⟩|⟨q1,q2,q3,q4,q5⟩|⟨f0,q1,q2,q3,q4⟩
    ·exact .inl (ar_ask d.toDl a q1 q2 q3 q4 q5)
    ·exact .inl (ar_tell d.toDl hk hb a q1 q2 q3 q4 q5 q6 q7)
    ·exact .inl (ar_vote d.toDl a q1 q2 q3 q4 q5)
    ·exact ar_told d.toDl hk hb hl a q1 q2 q3 q4
   rcases step with a1|w
   ·obtain⟨j,g2,S2,C2,e1,e2,e3,e4,e5,e6⟩:=ar_run hk hZ bw' (by omega) b1 o1 a1
    refine⟨j+1,g2,S2,C2,by omega,fun p=> ?_,e3,e4, ?_,fun i hi=> ?_⟩
    ·rw[<-e2 p,show j+1+p=(j+p)+1 by omega]
     exact Qa1 hn
    ·rw[show bw'+1 -(j+1)=bw' -j by omega]
     exact e5
    ·cases i with
     |zero=>exact⟨_,a⟩
     |succ i=>rw[Qa1 hn];exact e6 i (by omega)
   ·exact⟨1,g1,S+1,QaX C,by omega,fun p=>by rw[Nat.add_comm];exact Qa1 hn,b1,o1,.inr w,fun i hi=>by
     have:i=0:=by omega
     subst this
     exact⟨_,a⟩⟩
 termination_by bw=>bw
end
section
variable {k X0 LC M bd E Zb l x:Nat}{g g':GH}{i f S:Nat}{X Y F L W:RN}{m:RM}{C:CS}{r A B D D':List RM}{rr rr':Nat->Nat}{dr t T0:Int}{N0:Nat->RN}{bw own0 j h:Nat}{σ:Nat->Int}
theorem ask_start(b:Bas k rr Zb E g S C)(hk:2<=k)(hn:C.net= [])(hx:x<k)(ha:Qah (nd C x) dr=QfO {nd C x with since:=(nd C x).since+1}):AR k x (nd C x).term (nd (Qal C x dr)) (4*(k -1)) (Qal C x dr):=by
 have hX:=b.c.nd hx
 have c:=b.c.node x _ hX
 have hself:=Qaw (dr:=dr) b.c hX
 have h7:=b.c.k7
 have hid:=c.ni.id
 rw[ha,QdQ c hk] at hself
 have hcnt:∀Z:RN,Z.id=(x:Int)->(Qax Z k).length+1=k:=fun Z hZ=>Qbt hZ hx
 have hnet:(Qal C x dr).net=(Qax {nd C x with since:=0,role:=1,leader:= -1,votes:=2^(nd C x).id.toNat} k).map fun(z:Nat)=>⟨1,(nd C x).id,(z:Int),(nd C x).term+1,(nd C x).log.length,Qa9 (nd C x).log,0,false,[]⟩:=by
  rw[Qbn b.c hX,hn,List.nil_append,ha,QdQ c hk]
  refine List.take_of_length_le ?_
  show(List.map _ _).length<=512 -0
  rw[List.length_map]
  refine Nat.le_trans (Nat.le_of_eq (Nat.eq_sub_of_add_eq (hcnt _ hid))) ?_
  omega
 have hmsg:∀f,f<k->f≠x->∃m∈(Qal C x dr).net,m.kind=1/\m.to=(f:Int):=fun f h1 h2=>by
  rw[hnet]
  refine⟨_,List.mem_map.2 ⟨f, ?_,rfl⟩,rfl,rfl⟩
  unfold Qax
  refine List.mem_filter.2 ⟨List.mem_range.2 h1,decide_eq_true ?_⟩
  show(f:Int)≠(nd C x).id
  omega
 have hna:¬QaF (nd C x) (2^(nd C x).id.toNat):=by
  have e:=QoE ⟨x,by omega⟩
  simp only at e
  unfold QaF
  rw[show(nd C x).id.toNat=x by omega,e]
  have:=c.ni.n
  omega
 have key:∀(l:List Nat) (G:Nat->RM),(∀z,(G z).kind=1)->wAs (l.map G)=2*l.length:=by
  intro l G hG
  induction l with
  |nil=>rfl
  |cons z l ih=>
   have:wA4 (G z)=2:=by unfold wA4;rw[if_pos (.inl (hG z))]
   show wA4 (G z)+wAs (l.map G)=2*(l.length+1)
   omega
 refine⟨hx,rfl,rfl,by rw[hself];rfl,by rw[hself];rfl,.inl ⟨by rw[hself];rfl,by rw[hself];rfl⟩,fun _=>by rw[hself];exact hna,fun b' hb=> ?_, ?_,fun f _ _=> .inl rfl, ?_,fun _ b' hb=> ?_,fun f h1 h2=> .inr (.inl (hmsg f h1 h2)),fun _=>⟨fun f hb hfx=> ?_,fun f h1 _=> ?_⟩,fun _=>⟨by rw[hself];exact(by decide:(1:Int)≠0),fun hr=>by rw[hself] at hr;exact absurd hr (by show ¬(1:Int)=2;decide)⟩⟩
 ·rw[hnet] at hb
  obtain⟨z,_,rfl⟩:=List.mem_map.1 hb
  exact .ask rfl hid rfl (by rw[hself];rfl) (by rw[hself];rfl)
 ·rw[hnet]
  refine List.Pairwise.map _ (fun z z' (_:z≠z')=> ?_) (List.Pairwise.filter _ (List.nodup_range (n:=k)))
  exact⟨Int.le_refl _,(by decide:(1:Int)<=1+1),fun e=>absurd e (by decide:¬(1:Int)=3)⟩
 ·rw[hself,hnet,key _ _ fun _=>rfl,if_pos (show(Qae _).role=1 from rfl)]
  have e4:4*(k -1)=2*(k -1)+2*(k -1):=by omega
  rw[e4]
  exact Nat.add_le_add (Nat.mul_le_mul_left 2 (Nat.le_of_eq (Nat.eq_sub_of_add_eq (hcnt _ hid)))) (Nat.le_refl _)
 ·rw[hnet] at hb
  obtain⟨z,_,rfl⟩:=List.mem_map.1 hb
  exact(by decide:(1:Int)<=2)
 ·rw[hself] at hb
  have hb:(2^(nd C x).id.toNat).testBit f=true:=hb
  have:=Qh9 hb
  omega
 ·by_cases e:f=x
  ·left
   rw[hself]
   show(2^(nd C x).id.toNat).testBit f=true
   rw[Nat.testBit_two_pow,decide_eq_true_iff]
   omega
  ·exact .inr (.inl (hmsg f h1 e))
theorem QnL:∀(n v:Nat),QoF n v=(List.range n).countP fun(t:Nat)=>v.testBit t
 |0,_=>rfl
 |n+1,v=>by
  rw[List.range_succ_eq_map,List.countP_cons,List.countP_map]
  show v%2+QoF n (v/2)=_
  rw[QnL n (v/2)]
  have e1:(List.range n).countP ((fun(t:Nat)=>v.testBit t) ∘ Nat.succ)=(List.range n).countP fun(t:Nat)=>(v/2).testBit t:=List.countP_congr fun t _=>by
   show v.testBit (t+1)=true↔(v/2).testBit t=true
   rw[Nat.testBit_succ]
  rw[e1,Nat.add_comm]
  congr 1
  rw[Nat.testBit_zero]
  have:v%2=0\/v%2=1:=by omega
  rcases this with e|e<;>rw[e]<;>rfl
theorem most_mono{v v':Nat}(h:QaF X v)(hb:∀f,v.testBit f=true->v'.testBit f=true):QaF X v':=by
 unfold QaF at h⊢
 rw[QnL] at h⊢
 have:=List.countP_mono_left (l:=List.range 7) (p:=fun(t:Nat)=>v.testBit t) (q:=fun(t:Nat)=>v'.testBit t) fun t _ hx=>hb t hx
 omega
theorem ask_end(h:CInv k g S C)(a:AR k x T0 N0 bw C)(hn:C.net= []):
  (∀f,f<k->f≠x->(N0 f).term<=(nd C x).term)/\((∀f,f<k->f≠x->(N0 f).term<=T0)->(nd C x).role=1/\(nd C x).term=T0/\(∀f,f<k->f≠x->nd C f=N0 f)/\¬∀f,f<k->f≠x->preQ x T0 N0 f):=by
 have hno:∀{P:RM->Prop},¬∃m∈C.net,P m:=fun⟨m,hm,_⟩=>by rw[hn] at hm;cases hm
 have c:=h.node x _ (h.nd a.xk)
 refine⟨fun f h1 h2=> ?_,fun hl=> ?_⟩
 ·rcases a.tm f h1 h2 with e|e|e
  ·exact e
  ·exact absurd e hno
  ·exact absurd e hno
 ·obtain⟨q1,q2⟩:=a.v2 hl
  have hr1:(nd C x).role=1/\(nd C x).term=T0:=by
   rcases a.role with e|⟨e,_⟩|⟨e,_⟩
   ·exact e
   ·exfalso
    obtain⟨v,q3,q4⟩:=q2 e
    refine a.few (.inr e) (most_mono q3 fun f hf=> ?_)
    rcases q4 f hf with z|⟨_,_,_,z|z⟩
    ·exact z
    ·exact absurd z hno
    ·exact absurd z hno
   ·exact absurd e q1
  refine⟨hr1.1,hr1.2,fun f h1 h2=> ?_,fun hall=> ?_⟩
  ·rcases a.oth f h1 h2 with e|⟨_,e,_⟩
   ·exact e
   ·omega
  ·obtain⟨_,s2⟩:=a.v1 hr1.1
   refine a.few (.inl hr1.1) (Qmi c c.bn.v fun f hf=> ?_)
   rcases s2 f hf (hall f hf) with z|z|z
   ·exact z
   ·exact absurd z hno
   ·exact absurd z hno
theorem pm_phi(p:PMS k rr Zb E l t own0 j h g S C)(hX0:Mw (Zb+1)+4<=X0)(hZ:Zb<1024)(fa:FA k l t σ C){P:Nat}(hP:C.net.length<=P):Phi k X0 LC C<=P*X0+QcW (nd C l)*((k -1)*X0)+2*((k -1)*Zb):=by
 obtain⟨y,dk,pm⟩:=p.pm
 have hX2:2<=X0:=by unfold Mw at hX0;omega
 have hM:∀i,i<k->Mw (nd C i).log.length+4<=X0:=fun i hi=>by
  have:Mw (nd C i).log.length<=Mw (Zb+1):=by
   unfold Mw
   have:=p.b.lt hZ hi
   have:((nd C i).log.length+7)/8<=(Zb+1+7)/8:=Nat.div_le_div_right (by omega)
   omega
  omega
 have hph:∀i,i<k->ph k X0 LC C i<=(if(nd C i).role=3 then Qck k fun f=>if f=i then 0 else vI X0 (items C.net i f (nd C i).term) else 0)+(if i=l then QcW (nd C l)*((k -1)*X0)+2*((k -1)*Zb) else 0):=fun i hi=>by
  by_cases e:i=l
  ·subst e
   unfold ph
   rw[if_pos pm.role,if_pos pm.role,if_pos rfl]
   have a1:prs k i (nd C i) (nd C) (fun f=>items C.net i f (nd C i).term)<=Qck k fun f=>if f=i then 0 else vI X0 (items C.net i f (nd C i).term):=Qcn fun f hf=>by
    split
    ·exact Nat.le_refl _
    ·exact xP_vI (hM i hi)
   have Ld:=(p.b.c.node i _ (p.b.c.nd hi)).ni.lead pm.role
   have a2:exc k i (nd C i)<=(k -1)*Zb:=Qlu hi (fun f hf=>by
    by_cases e:f=i
    ·rw[if_pos e];exact Nat.zero_le _
    ·rw[if_neg e]
     have:=Ld.nx f hf e
     have:=p.b.lt hZ hi
     omega) (if_pos rfl)
   omega
  ·have:=(fa i hi e).1.role
   unfold ph
   rw[if_neg (by omega),if_neg (by omega),if_neg (by omega)]
   exact Nat.zero_le _
 have hs:Qck k (ph k X0 LC C)<=allV k X0 C C.net+(QcW (nd C l)*((k -1)*X0)+2*((k -1)*Zb)):=by
  refine Nat.le_trans (Qcn hph) ?_
  rw[Qd0]
  refine Nat.add_le_add (Nat.le_refl _) (QeN (j:=l) (fun i _ hi=>if_neg hi) ?_)
  rw[if_pos rfl]
  exact Nat.le_refl _
 have hv:=allV_le (k:=k) (C:=C) hX2 C.net
 have h1:X0*C.net.length<=P*X0:=by rw[Nat.mul_comm];exact Nat.mul_le_mul_right _ hP
 unfold Phi
 omega
theorem QhW:tBs k X0 LC (fun _=>0) C=0:=by
 refine QbU fun i _=> ?_
 unfold tB Qb8
 have:(0+min (nd C i).since.toNat 3)/4=0:=by omega
 rw[this]
 simp
theorem pm_rest(hk:2<=k)(hZ:Zb<=460)(p:PMS k rr Zb E l t own0 j h g S C)(fa:FA k l t σ C)(hown:own0<=1)(hj:j<=30)(hh:h=0){n:Nat}(hn:13000<=n):(Qbq n C).net= []:=by
 obtain⟨y,dk,pm⟩:=p.pm
 have h7:=p.b.c.k7
 have hy:=pm.own
 have hlen:C.net.length<=42:=by
  have hy2:y<=2:=by omega
  have:(k -1)*y<=6*2:=Nat.mul_le_mul (by omega) hy2
  rcases pm.sd with x|x
  ·have:=x.1;omega
  ·omega
 have hX0:Mw (Zb+1)+4<=139:=by
  unfold Mw
  have:(Zb+1+7)/8<=58:=by omega
  omega
 have hp:=pm_phi (X0:=139) (LC:=2*((k -1)*139)+2*((k -1)*Zb)) p hX0 (by omega) fa hlen
 have b0:Bas k (fun _=>0) Zb E g S C:=⟨p.b.c,p.b.own,by
  obtain⟨M,h1,h2⟩:=p.b.len
  refine⟨M,h1,Nat.le_trans (Nat.add_le_add (Nat.le_refl _) (Qcn fun i _=>Nat.add_le_add (Nat.le_refl _) (QeW (Nat.zero_le _) (Int.le_refl _)))) h2⟩⟩
 obtain⟨g2,S2,a1,a2,a3,a4,a5⟩:=QkL (X0:=139) (LC:=2*((k -1)*139)+2*((k -1)*Zb)) hk (by omega) hX0 (Nat.le_refl _) n b0 p.o
 rw[QhW,QhW] at a5
 refine a5.resolve_right fun x=> ?_
 have hkk:(k -1)*139<=6*139:=Nat.mul_le_mul_right _ (by omega)
 have hkz:(k -1)*Zb<=6*460:=Nat.mul_le_mul (by omega) hZ
 have ho:QcW (nd C l)*((k -1)*139)<=1*(6*139):=Nat.mul_le_mul (by omega) hkk
 omega
end
section
variable {k X0 LC M bd E Zb l x:Nat}{g g':GH}{i f S:Nat}{X Y F L W:RN}{m:RM}{C:CS}{r A B D D':List RM}{rr rr':Nat->Nat}{dr t T0:Int}{N0:Nat->RN}{bw own0 j h:Nat}{σ:Nat->Int}
structure EstS(k l:Nat)(t:Int)(C:CS):Prop where
 lk:l<k
 net:C.net= []
 role:(nd C l).role=3
 term:(nd C l).term=t
 fa:FA k l t (fun _=>0) C
 heard:∀f,f<k->f≠l->(nd C l).heard.testBit f=true
 commit:(nd C l).commit=(nd C l).log.length
 fin:∀f,f<k->f≠l->((nd C l).log.length:Int)<=(nd C l).matc f
theorem Qi6(hk:2<=k)(hZ:Zb<=460)(p:PMS k rr Zb E l t own0 j 0 g S C)(ho:own0<=1)(hj:j<=30)(he:HE k l t C)(hm:∀f,f<k->f≠l->∃m∈C.net,m.kind=5/\m.to=(f:Int)){n:Nat}(hn:14000<=n):∃g' S',Bas k rr Zb E g' S' (Qbq n C)/\EstS k l t (Qbq n C):=by
 have hcap:=p.b.c.cap
 obtain⟨g1,S1,C1,a1,a2,a3,a4⟩:=pm_first (σ:=fun _=>0) hk (by omega) (fun _=>Int.le_refl _) C.net (B:= []) p (List.append_nil _).symm fun f h1 h2=> .inr (hm f h1 h2)
 obtain⟨q,rfl⟩:∃q,n=C.net.length+q:=⟨n -C.net.length,by omega⟩
 rw[a1 q]
 obtain⟨g2,S2,b1,b2,b3⟩:=pm_settle (σ:=fun _=>0) hk (by omega) (fun _=>Int.le_refl _) q a2
 have hnil:=pm_rest hk hZ a2 a3 ho hj rfl (n:=q) (by omega)
 obtain⟨y,dk,pm⟩:=b1.pm
 obtain⟨e1,e2⟩:=pm_end b1.b.c hk pm hnil (.inr ⟨hj,ho,by omega⟩)
 have h7:=b1.b.c.k7
 have hnl:(Qbq q C1).net.length=0:=by rw[hnil];rfl
 refine⟨g2,S2,b1.b,pm.lk,hnil,pm.role,pm.term,b2 a3,fun f h1 h2=> ?_,e2,fun f h1 h2=> ?_⟩
 ·refine(b3 (a4 he) f h1 h2).resolve_right fun z=> ?_
  rw[hnil] at z
  have:tn [] l f t=0:=rfl
  omega
 ·refine Int.not_lt.1 fun z=> ?_
  have e3:=pm.th f h1 h2 z
  rw[hnil] at e3
  have:tn [] l f t=0:=rfl
  have e4:=pm.y1
  have e5:=pm.own
  rcases pm.sd with s|s
  ·have:=s.2 f;omega
  ·have:(k -1)*y<=6*2:=Nat.mul_le_mul (by omega) (by omega)
   omega
theorem beat_small(b:Bas k rr Zb E g S C)(hk:2<=k)(hZ:Zb<=460)(hn:C.net= [])(hl:l<k)(h1:rr l=rr' l+1)(h2:∀j,j<k->j≠l->rr' j=rr j)(hr:(nd C l).role=3)(hlow:∀f,f<k->f≠l->(nd C f).term<=(nd C l).term)(hb:(Qah (nd C l) dr).role=3)(hs:(nd C l).since+1>=2)(ho:QcW (nd C l)<=1):∃g' S',Bas k rr' Zb E g' S' (slot C l dr)/\EstS k l (nd C l).term (slot C l dr):=by
 obtain⟨g1,G,b1⟩:=Qc9 (dr:=dr) b hk hl h1 h2
 obtain⟨pm,he,hm,hlen⟩:=beat_pm (dr:=dr) b hk hn hl hr rfl hlow hb hs
 have o1:=Qfi (dr:=dr) b.c (Qme b.c hn) (b.c.nd hl) hk G
 exact Qi6 hk hZ ⟨b1,o1,1,_,pm⟩ ho (Nat.zero_le _) he hm (by omega)
theorem won_small(hk:2<=k)(hZ:Zb<=460)(b:Bas k rr Zb E g S C)(o:Ord k g C)(w:Won k x T0 N0 C){n:Nat}(hn:14000<=n):∃g' S',Bas k rr Zb E g' S' (Qbq n C)/\EstS k x (T0+1) (Qbq n C):=
 Qi6 hk hZ ⟨b,o,1,_,w.pm⟩ (Nat.le_refl _) (Nat.le_refl _) w.he w.msg hn
def LT(k:Nat)(ls:List Int)(C:CS):Prop:=∀f,f<k->(nd C f).role=3->(nd C f).term∈ls
def Al(P:CS->Prop)(C:CS):Prop:=∀n,P (Qbq n C)
theorem pm_lt(hk:2<=k)(hZ:Zb<1024){ls:List Int}:∀(n:Nat){g:GH}{S:Nat}{C:CS},PMS k rr Zb E l t own0 j h g S C->LT k ls C->LT k ls (Qbq n C)
 |0,g,S,C,p,q=>q
 |n+1,g,S,C,p,q=>by
  by_cases hn:C.net= []
  ·rw[QbX hn];exact q
  ·rw[Qa1 hn]
   obtain⟨g1,m,r,X,d,p1⟩:=p.del hk hZ hn
   obtain⟨y,dk,pm⟩:=p.pm
   obtain⟨y1,dk1,pm1⟩:=p1.pm
   refine pm_lt hk hZ n p1 fun f hf h3=> ?_
   by_cases e:f=l
   ·subst e
    rw[pm1.term,<-pm.term]
    exact q f hf pm.role
   ·rcases QiD d pm with⟨_,hne,_,_,a1,_⟩|⟨_,hl⟩
    ·by_cases e2:f=m.to.toNat
     ·subst e2
      rw[d.self] at h3
      have:=a1.role
      omega
     ·rw[d.other e2] at h3⊢
      exact q f hf h3
    ·rw[d.other (by omega)] at h3⊢
     exact q f hf h3
theorem Qop(b:Bas k rr Zb E g S C)(hk:2<=k)(hZ:Zb<=460)(hn:C.net= [])(hx:x<k)(h1:rr x=rr' x+1)(h2:∀j,j<k->j≠x->rr' j=rr j)(ha:Qah (nd C x) dr=QfO {nd C x with since:=(nd C x).since+1}):
  ∃g' S',Bas k rr' Zb E g' S' (slot C x dr)/\((EstS k x ((nd C x).term+1) (slot C x dr)/\∀ls,LT k ls C->Al (LT k (((nd C x).term+1)::ls)) (Qal C x dr))\/((slot C x dr).net= []/\(∃bw,AR k x (nd C x).term (nd (Qal C x dr)) bw (slot C x dr))/\∀ls,LT k ls C->Al (LT k ls) (Qal C x dr))):=by
 have h7:=b.c.k7
 have hX:=b.c.nd hx
 have c:=b.c.node x _ hX
 obtain⟨g1,G,b1⟩:=Qc9 (dr:=dr) b hk hx h1 h2
 have o1:=Qfi (dr:=dr) b.c (Qme b.c hn) (b.c.nd hx) hk G
 obtain⟨j,g2,S2,C2,e1,e2,e3,e4,e5,e6⟩:=ar_run hk (by omega) (4*(k -1)) (by omega) b1 o1 (ask_start b hk hn hx ha)
 obtain⟨q,hq⟩:∃q,20000=j+q:=⟨20000 -j,by omega⟩
 have e:slot C x dr=Qbq q C2:=(congrArg (fun z=>Qbq z (Qal C x dr)) hq).trans (e2 q)
 rw[e]
 have ar_lt:∀{bw:Nat} {C':CS} {ls:List Int},AR k x (nd C x).term (nd (Qal C x dr)) bw C'->LT k ls C->LT k ls C':=fun{bw C' ls} a q f hf h3=>by
  by_cases e:f=x
  ·subst e
   rcases a.role with z|z|z<;>omega
  ·obtain⟨w1,w2,_⟩:=a.lead hf e h3
   rw[Qak hX e] at w1 w2
   rw[w1]
   exact q f hf w2
 have al:∀{ls ls':List Int},LT k ls C->(∀z∈ls,z∈ls')->(∀n,LT k ls' (Qbq n C2))->Al (LT k ls') (Qal C x dr):=fun{ls ls'} q hs z n=>by
  by_cases hj:n<j
  ·obtain⟨w,a⟩:=e6 n hj
   exact fun f hf h3=>hs _ (ar_lt a q f hf h3)
  ·obtain⟨p,rfl⟩:∃p,n=j+p:=⟨n -j,by omega⟩
   rw[e2 p];exact z p
 rcases e5 with⟨f1,f2⟩|w
 ·rw[QbX f1]
  exact⟨g2,S2,e3,.inr ⟨f1,⟨_,f2⟩,fun ls q=>al q (fun z hz=>hz) fun n=>by rw[QbX f1];exact ar_lt f2 q⟩⟩
 ·obtain⟨g3,S3,w1,w2⟩:=won_small hk hZ e3 e4 w (n:=q) (by omega)
  refine⟨g3,S3,w1,.inl ⟨w2,fun ls hls=>al hls (fun z hz=>List.mem_cons_of_mem _ hz) fun n=> ?_⟩⟩
  refine pm_lt (l:=x) hk (by omega) n ⟨e3,e4,1,_,w.pm⟩ fun f hf h3=> ?_
  by_cases e:f=x
  ·subst e
   rw[w.pm.term];exact List.mem_cons_self ..
  ·obtain⟨v1,v2,_⟩:=w.lead f hf e h3
   rw[Qak hX e] at v1 v2
   rw[v1]
   exact List.mem_cons_of_mem _ (hls f hf v2)
theorem QfL(b:Bas k rr Zb E g S C)(hk:2<=k)(hn:C.net= [])(hx:x<k)(h1:rr x=rr' x+1)(h2:∀j,j<k->j≠x->rr' j=rr j)(ho:(Qah (nd C x) dr).out= []):∃g' S',Bas k rr' Zb E g' S' (slot C x dr)/\(slot C x dr).net= []/\nd (slot C x dr) x=Qae (Qah (nd C x) dr)/\∀f,f≠x->nd (slot C x dr) f=nd C f:=by
 obtain⟨g1,G,b1⟩:=Qc9 (dr:=dr) b hk hx h1 h2
 have hX:=b.c.nd hx
 have hnet:(Qal C x dr).net= []:=by rw[Qbn b.c hX,hn,ho,List.take_nil];rfl
 have e:slot C x dr=Qal C x dr:=QbX hnet
 rw[e]
 exact⟨g1,S+1,b1,hnet,Qaw b.c hX,fun f hf=>Qak hX hf⟩
end
section
variable {k X0 LC M bd E Zb l x:Nat}{g g':GH}{i f S:Nat}{X Y F L W:RN}{m:RM}{C:CS}{r A B D D':List RM}{rr rr':Nat->Nat}{dr t T0:Int}{N0:Nat->RN}
theorem agree_out(X:RN):∀o∈(Qaf X).out,o∈X.out\/(o.kind=5/\o.from_=X.id/\o.term=X.term):=by
 unfold Qaf
 split
 ·exact fun o ho=> .inl ho
 ·intro o ho
  rcases List.mem_append.1 ho with e|e
  ·exact .inl e
  ·obtain⟨z,_,rfl⟩:=List.mem_map.1 e
   exact .inr ⟨rfl,rfl,rfl⟩
theorem agree_id(X:RN):(Qaf X).id=X.id/\(Qaf X).term=X.term/\(Qaf X).role=X.role:=by
 unfold Qaf
 split<;>exact⟨rfl,rfl,rfl⟩
theorem hears_out(X:RN)(m:RM):(QaC X m).role=X.role/\∀o∈(QaC X m).out,o∈X.out\/(o.kind=5/\o.from_=X.id/\o.term=X.term):=by
 have key:∀(Z:RN) (t:Nat),Z.id=X.id->Z.term=X.term->(∀o∈Z.out,o∈X.out\/(o.kind=5/\o.from_=X.id/\o.term=X.term))->∀o∈(rTo Z t).out,o∈X.out\/(o.kind=5/\o.from_=X.id/\o.term=X.term):=fun Z t h1 h2 h3 o ho=>by
  rcases List.mem_append.1 ho with e|e
  ·exact h3 o e
  ·rw[List.mem_singleton] at e
   subst e
   exact .inr ⟨rfl,h1,h2⟩
 unfold QaC
 split
 ·exact⟨rfl,fun o ho=> .inl ho⟩
 split
 ·obtain⟨a1,a2,a3⟩:=agree_id (Qau X m.from_.toNat m.index)
  split
  ·exact⟨a3,key _ _ a1 a2 (agree_out _)⟩
  ·exact⟨a3,agree_out _⟩
 split
 ·exact⟨rfl,key _ _ rfl rfl fun o ho=> .inl ho⟩
 ·exact⟨rfl,fun o ho=> .inl ho⟩
structure SB(k l:Nat)(t:Int)(N0:Nat->RN)(C:CS):Prop where
 lk:l<k
 net:∀m∈C.net,(m.kind=5/\m.from_=(l:Int)/\m.term=t)\/(m.kind=6/\m.to=(l:Int))
 oth:∀f,f<k->f≠l->(nd C f).role=3->nd C f=N0 f
 ld:(nd C l).role=3->(nd C l).term=t
def w5s:List RM->Nat
 | []=>0
 |m::l=>(if m.kind=5 then 2 else 1)+w5s l
theorem w5s_app:∀a b:List RM,w5s (a++b)=w5s a+w5s b
 | [],b=>(Nat.zero_add _).symm
 |m::l,b=>by show(if m.kind=5 then 2 else 1)+w5s (l++b)=_+w5s l+w5s b;rw[w5s_app l b,Nat.add_assoc]
theorem w5s_le:∀l:List RM,w5s l<=2*l.length
 | []=>Nat.le_refl _
 |m::l=>by
  have:=w5s_le l
  show(if m.kind=5 then 2 else 1)+w5s l<=2*(l.length+1)
  split<;>omega
theorem sb_del(d:Dl k g S C m r X)(s:SB k l t N0 C):SB k l t N0 (QaX C)/\((nd C l).role≠3->(nd (QaX C) l).role≠3/\w5s (QaX C).net+1<=w5s C.net)/\
  (m.kind=6->t<m.term->(nd (QaX C) l).role≠3)/\(m.kind=5->t<(nd C m.to.toNat).term->∃o,(QaX C).net=r++ [o]/\o.kind=6/\t<o.term):=by
 have hinv:=d.h
 have c:=d.c
 have hto:=d.to
 have hfr:=d.fr
 have hmm:m∈C.net:=by rw[d.n];exact List.mem_cons_self ..
 have hr:∀o∈r,o∈C.net:=fun o ho=>by rw[d.n];exact List.mem_cons_of_mem _ ho
 have hw:w5s C.net=(if m.kind=5 then 2 else 1)+w5s r:=by rw[d.n];rfl
 rcases s.net m hmm with⟨h5,hfl,ht⟩|⟨h6,htl⟩
 ·have hne:m.to.toNat≠l:=by have:=d.ne;omega
  have hll:nd (QaX C) l=nd C l:=d.other (fun e=>hne e.symm)
  have key:(Qae (Qaa X m)=X\/(Qaa X m).role≠3)/\((Qaa X m).out= []\/∃o,(Qaa X m).out= [o]/\o.kind=6/\o.to=(l:Int))/\(t<X.term->∃o,(Qaa X m).out= [o]/\o.kind=6/\t<o.term):=by
   by_cases hlt:m.term<X.term
   ·have hY:=Qi4 d.cb (by omega) hlt
    rw[if_pos h5] at hY
    have ho:(Qaa X m).out= [⟨6,X.id,m.from_,X.term,0,0,0,false,[]⟩]:=by
     rw[hY]
     show X.out++ [_]=_
     rw[c.out];rfl
    refine⟨.inl ?_,.inr ⟨_,ho,rfl,hfl⟩,fun h=>⟨_,ho,rfl,h⟩⟩
    rw[hY]
    exact QfU c
   ·by_cases hd:X.term=m.term/\X.role=3
    ·have hY:=st5 d.cb h5 (by omega)
     rw[Qbu (by omega)] at hY
     have hY2:Qaa X m=X:=by rw[hY];unfold QaV;rw[if_pos hd.2]
     rw[hY2]
     exact⟨.inl (QfU c),.inl c.out,fun h=>by omega⟩
    ·obtain⟨a1,a2,yy,idx,a3,a4⟩:=app_fol d h5 (by omega) fun e e2=>hd ⟨e,e2⟩
     refine⟨.inr ?_,.inr ⟨_,a3,rfl,hfl⟩,fun h=>by omega⟩
     have:=a1.role
     show ¬(Qae (Qaa X m)).role=3
     omega
  obtain⟨k1,k2,k3⟩:=key
  have hnet:(QaX C).net=r++(Qaa X m).out:=by
   rw[d.net]
   rcases k2 with e|⟨o,e,_⟩
   ·rw[e,List.take_nil]
   ·rw[e,Qfj d.cap]
  refine⟨⟨s.lk,fun o ho=> ?_,fun f hf hfl' hr3=> ?_,by rw[hll];exact s.ld⟩,fun hnl=>⟨by rw[hll];exact hnl, ?_⟩,fun h=>by omega,fun _ hlt=> ?_⟩
  ·rw[hnet] at ho
   rcases List.mem_append.1 ho with e|e
   ·exact s.net o (hr o e)
   ·rcases k2 with q|⟨o',q,q1,q2⟩
    ·rw[q] at e;cases e
    ·rw[q,List.mem_singleton] at e
     subst e
     exact .inr ⟨q1,q2⟩
  ·by_cases e:f=m.to.toNat
   ·subst e
    rw[d.self] at hr3⊢
    rcases k1 with q|q
    ·rw[q]
     rw[q] at hr3
     have:=s.oth _ hf hfl' (by rw[d.old];exact hr3)
     rw[<-this,d.old]
    ·exact absurd hr3 q
   ·rw[d.other e] at hr3⊢
    exact s.oth f hf hfl' hr3
  ·rw[hnet,w5s_app,hw,if_pos h5]
   rcases k2 with q|⟨o',q,q1,q2⟩
   ·rw[q];show w5s r+0+1<=_;omega
   ·rw[q]
    show w5s r+((if o'.kind=5 then 2 else 1)+0)+1<=_
    rw[if_neg (by omega)];omega
  ·rw[d.old] at hlt
   obtain⟨o,q,q1,q2⟩:=k3 hlt
   exact⟨o,by rw[hnet,q],q1,q2⟩
 ·have hl:m.to.toNat=l:=by omega
  have hX:X=nd C l:=by rw[<-d.old,hl]
  have hself:nd (QaX C) l=Qae (Qaa X m):=by rw[<-hl];exact d.self
  obtain⟨z1,z2,z3,z4,z5,z6,z7⟩:=Qbl X m
  have key:((Qaa X m).role=3->X.role=3/\(Qaa X m).term=X.term/\m.term<=X.term)/\∀o∈(Qaa X m).out,o.kind=5/\o.from_=(l:Int)/\o.term=X.term/\X.role=3:=by
   by_cases hlt:m.term<X.term
   ·have hY:=Qi4 d.cb (by omega) hlt
    rw[if_neg (by omega)] at hY
    rw[hY,c.out]
    exact⟨fun h=>⟨h,rfl,by omega⟩,fun o ho=>by cases ho⟩
   ·have hY:=st6 d.cb h6 (by omega)
    obtain⟨e1,e2⟩:=hears_out (Qab X m) m
    have et:=Qh3 (Qab X m) m
    rw[hY]
    rcases QaO X m with e|⟨e,e3⟩
    ·have hnr:QaC (Qab X m) m=Qab X m:=by unfold QaC;rw[if_pos (by omega)]
     rw[hnr]
     refine⟨fun h=>by omega,fun o ho=> ?_⟩
     rw[z3,c.out] at ho;cases ho
    ·rw[e] at e1 e2 et⊢
     refine⟨fun h=>⟨by omega,et,e3⟩,fun o ho=> ?_⟩
     by_cases h3:X.role=3
     ·rcases e2 o ho with q|⟨q1,q2,q3⟩
      ·rw[c.out] at q;cases q
      ·exact⟨q1,by rw[q2,c.ni.id,hl],q3,h3⟩
     ·have hnr:QaC X m=X:=by unfold QaC;rw[if_pos h3]
      rw[hnr,c.out] at ho;cases ho
  obtain⟨k1,k2⟩:=key
  have hld:=s.ld
  rw[<-hX] at hld
  have hx3:X.role=3->X.term=t:=hld
  refine⟨⟨s.lk,fun o ho=> ?_,fun f hf hfl hr3=> ?_,fun hr3=> ?_⟩,fun hnl=> ?_,fun _ hlt h3=> ?_,fun h=>by omega⟩
  ·rw[d.net] at ho
   rcases List.mem_append.1 ho with e|e
   ·exact s.net o (hr o e)
   ·obtain⟨q1,q2,q3,q4⟩:=k2 o (Qad e)
    exact .inl ⟨q1,q2,q3.trans (hx3 q4)⟩
  ·rw[d.other (by omega)] at hr3⊢
   exact s.oth f hf hfl hr3
  ·rw[hself] at hr3⊢
   have:=k1 hr3
   exact this.2.1.trans (hx3 this.1)
  ·rw[<-hX] at hnl
   refine⟨fun h3=> ?_, ?_⟩
   ·rw[hself] at h3;exact hnl (k1 h3).1
   ·have:(Qaa X m).out= []:=by
     rcases List.eq_nil_or_concat (Qaa X m).out with e|⟨q,o,e⟩
     ·exact e
     ·exact absurd (k2 o (by rw[e];simp)).2.2.2 hnl
    rw[d.net,this,List.take_nil,List.append_nil,hw,if_neg (by omega)]
    omega
  ·rw[hself] at h3
   have:=k1 h3
   have:=hx3 this.1
   omega
theorem sb_rest(hk:2<=k)(hZ:Zb<1024):∀(n:Nat){g:GH}{S:Nat}{C:CS},Bas k rr Zb E g S C->SB k l t N0 C->(nd C l).role≠3->w5s C.net<=n->∃g' S',Bas k rr Zb E g' S' (Qbq n C)/\SB k l t N0 (Qbq n C)/\(nd (Qbq n C) l).role≠3/\(Qbq n C).net= []
 |n,g,S,C,b,s,h3,hw=>by
  by_cases hn:C.net= []
  ·rw[QbX hn];exact⟨g,S,b,s,h3,hn⟩
  ·obtain⟨m,r,hmr⟩:=List.exists_cons_of_ne_nil hn
   obtain⟨X,d⟩:=b.c.dl hmr
   obtain⟨g1,G,b1⟩:=b.del d hk hZ
   obtain⟨s1,s2,_,_⟩:=sb_del d s
   obtain⟨a1,a2⟩:=s2 h3
   cases n with
   |zero=>omega
   |succ n=>
    rw[Qa1 hn]
    exact sb_rest hk hZ n b1 s1 a1 (by omega)
def badM(t:Int)(C:CS)(m:RM):Prop:=(m.kind=6/\t<m.term)\/(m.kind=5/\t<(nd C m.to.toNat).term)
theorem sb_down(hk:2<=k)(hZ:Zb<1024):∀(n:Nat){g:GH}{S:Nat}{C:CS}{A B:List RM}{m:RM},Bas k rr Zb E g S C->SB k l t N0 C->C.net=A++m::B->badM t C m->A.length+(if m.kind=5 then 600 else 0)<=n->∃j g' S' C',j<=n+1/\(∀p,Qbq (j+p) C=Qbq p C')/\Bas k rr Zb E g' S' C'/\SB k l t N0 C'/\(nd C' l).role≠3
 |n,g,S,C,A,B,m,b,s,hn,hb,hl=>by
  have hne:C.net≠ []:=by rw[hn];simp
  obtain⟨m',r,hmr⟩:=List.exists_cons_of_ne_nil hne
  obtain⟨X,d⟩:=b.c.dl hmr
  obtain⟨g1,G,b1⟩:=b.del d hk hZ
  obtain⟨s1,s2,s3,s4⟩:=sb_del d s
  have one:∀p,Qbq (1+p) C=Qbq p (QaX C):=fun p=>by rw[Nat.add_comm];exact Qa1 hne
  have more:(∃j g' S' C',j<=n/\(∀p,Qbq (j+p) (QaX C)=Qbq p C')/\Bas k rr Zb E g' S' C'/\SB k l t N0 C'/\(nd C' l).role≠3)->∃j g' S' C',j<=n+1/\(∀p,Qbq (j+p) C=Qbq p C')/\Bas k rr Zb E g' S' C'/\SB k l t N0 C'/\(nd C' l).role≠3:=fun⟨j,g',S',C',e1,e2,e3⟩=>⟨j+1,g',S',C',by omega,fun p=>by rw[<-e2 p,show j+1+p=(j+p)+1 by omega];exact Qa1 hne,e3⟩
  have hcap:=b.c.cap
  cases A with
  |nil=>
   rw[hmr] at hn
   injection hn with e1 e2
   subst e1
   have e2:r=B:=e2
   subst e2
   rcases hb with⟨h6,ht⟩|⟨h5,ht⟩
   ·exact⟨1,g1,S+1,QaX C,by omega,one,b1,s1,s3 h6 ht⟩
   ·obtain⟨o,q1,q2,q3⟩:=s4 h5 ht
    rw[if_pos h5] at hl
    obtain⟨n',rfl⟩:∃z,n=z+1:=⟨n -1,by simp at hl;omega⟩
    have hrl:r.length+1<=512:=d.cap
    exact more (sb_down hk hZ n' (A:=r) (B:= []) b1 s1 q1 (.inl ⟨q2,q3⟩) (by rw[if_neg (by omega)];simp at hl;omega))
  |cons a A'=>
   have hn0:=hn
   rw[hmr] at hn
   injection hn with e1 e2
   subst e1
   have e2:r=A'++m::B:=e2
   have hnet:(QaX C).net=A'++m::(B++(Qaa X m').out.take (512 -r.length)):=by rw[d.net,e2,List.append_assoc];rfl
   have hb':badM t (QaX C) m:=hb.imp id fun⟨h5,ht⟩=>⟨h5,by
    by_cases e:m.to.toNat=m'.to.toNat
    ·rw[e,d.self]
     rw[e,d.old] at ht
     have:=(Qdn (X:=X) d.cb).1
     show t<(Qaa X m').term
     omega
    ·rw[d.other e];exact ht⟩
   obtain⟨n',rfl⟩:∃z,n=z+1:=⟨n -1,by simp at hl;omega⟩
   exact more (sb_down hk hZ n' b1 s1 hnet hb' (by simp at hl;omega))
 termination_by n=>n
theorem slot_stale(b:Bas k rr Zb E g S C)(hk:2<=k)(hZ:Zb<1024)(hn:C.net= [])(hl:l<k)(h1:rr l=rr' l+1)(h2:∀j,j<k->j≠l->rr' j=rr j)(hr:(nd C l).role=3)(hb:(Qah (nd C l) dr).role=3)(hs:(nd C l).since+1>=2){f0:Nat}(hf0:f0<k)(hf:f0≠l)(ht:(nd C l).term<(nd C f0).term):
  ∃g' S',Bas k rr' Zb E g' S' (slot C l dr)/\(slot C l dr).net= []/\(nd (slot C l dr) l).role≠3/\∀f,f<k->f≠l->(nd (slot C l dr) f).role=3->nd (slot C l dr) f=nd C f:=by
 have hX:=b.c.nd hl
 have c:=b.c.node l _ hX
 have hself:=Qaw (dr:=dr) b.c hX
 have h7:=b.c.k7
 obtain⟨g1,G,b1⟩:=Qc9 (dr:=dr) b hk hl h1 h2
 cases Qa2 (dr:=dr) c with
 |quiet h1 h2 h3 h4 h5 h6=>omega
 |down h1 h2 h3 h4=>rw[h4] at hb;exact absurd hb (by decide:¬(0:Int)=3)
 |wait h1 h2 h3=>exact absurd hr h1
 |ask h1 h2 h3 h4=>exact absurd hr h1
 |beat W h1 h2 a1 a2 a3 a4 a5 a6 a7 a8=>
  have hwl:=Qbt (X:=W) (k:=k) (i:=l) (a2.trans c.ni.id) hl
  have hnet:(Qal C l dr).net=(Qax W k).map (Qbk W):=by
   rw[Qbn b.c hX,hn,a7,List.nil_append]
   refine List.take_of_length_le ?_
   rw[List.length_map]
   show _<=512 -0
   omega
  have hlen:(Qal C l dr).net.length=k -1:=by rw[hnet,List.length_map];omega
  have s:SB k l (nd C l).term (nd C) (Qal C l dr):=by
   refine⟨hl,fun o ho=> ?_,fun f hf hfl _=>Qak hX hfl,fun _=>by rw[hself];exact a1.term⟩
   rw[hnet] at ho
   obtain⟨z,_,rfl⟩:=List.mem_map.1 ho
   exact .inl ⟨rfl,a2.trans c.ni.id,a3⟩
  have hmem:Qbk W f0∈(Qal C l dr).net:=by
   rw[hnet]
   refine List.mem_map.2 ⟨f0, ?_,rfl⟩
   unfold Qax
   refine List.mem_filter.2 ⟨List.mem_range.2 hf0,decide_eq_true ?_⟩
   rw[a2,c.ni.id]
   omega
  obtain⟨A,B,hAB⟩:=List.append_of_mem hmem
  have hbad:badM (nd C l).term (Qal C l dr) (Qbk W f0):= .inr ⟨rfl,by
   show _<(nd (Qal C l dr) ((f0:Int)).toNat).term
   rw[Int.toNat_natCast,Qak hX hf];exact ht⟩
  have hAl:A.length<=6:=by
   have:=congrArg List.length hAB
   rw[hlen,List.length_append] at this
   omega
  obtain⟨j,g2,S2,C2,e1,e2,e3,e4,e5⟩:=sb_down hk hZ 606 b1 s hAB hbad (by rw[if_pos (show(Qbk W f0).kind=5 from rfl)];omega)
  obtain⟨q,hq⟩:∃q,20000=j+q:=⟨20000 -j,by omega⟩
  have e:slot C l dr=Qbq q C2:=(congrArg (fun z=>Qbq z (Qal C l dr)) hq).trans (e2 q)
  have hw:=w5s_le C2.net
  have hcap:=e3.c.cap
  obtain⟨g3,S3,f1,f2,f3,f4⟩:=sb_rest hk hZ q e3 e4 e5 (by omega)
  rw[e]
  exact⟨g3,S3,f1,f4,f3,f2.oth⟩
end
section
variable {k X0 LC M bd E Zb l:Nat}{g g':GH}{i f S:Nat}{X Y F L W:RN}{m:RM}{C:CS}{r A B D D':List RM}{rr rr':Nat->Nat}{dr t:Int}{σ:Nat->Int}{own0 j y h:Nat}{dk:Nat->Nat}
def HA(k l:Nat)(C:CS):Prop:=∀f,f<k->f≠l->(nd C l).heard.testBit f=true
theorem pm_hear(d:Dl k g S C m r X)(pm:PM k l t own0 j C y h dk):(∀f,(nd C l).heard.testBit f=true->(nd (QaX C) l).heard.testBit f=true)/\(∀f:Nat,m.kind=6->m.from_=(f:Int)->(nd (QaX C) l).heard.testBit f=true)/\∀f:Nat,m.kind=5->m.to=(f:Int)->∃o∈(Qaa X m).out.take (512 -r.length),o.kind=6/\o.from_=(f:Int):=by
 have hinv:=d.h
 have c:=d.c
 have hto:=d.to
 have hfr:=d.fr
 have hmm:m∈C.net:=by rw[d.n];exact List.mem_cons_self ..
 rcases pm.net m hmm with⟨h5,hfl,ht⟩|⟨h6,htl,ht,hidx⟩|⟨h4,htl,ht⟩
 ·have hne:m.to.toNat≠l:=by have:=d.ne;omega
  have hll:nd (QaX C) l=nd C l:=d.other (fun e=>hne e.symm)
  refine⟨fun f h=>by rw[hll];exact h,fun f h=>by omega,fun f _ hf=> ?_⟩
  have hXt:X.term<=t:=by have:=pm.low _ c.ni.ik hne;rwa[d.old] at this
  obtain⟨a1,a2,yy,idx,a3,a4⟩:=app_fol d h5 (by omega) fun e hr3=>hne (hinv.one d.x (hinv.nd pm.lk) hr3 pm.role (by rw[pm.term];omega))
  rw[a3,Qfj d.cap]
  exact⟨_,List.mem_singleton.2 rfl,rfl,by show X.id=_;rw[c.ni.id];omega⟩
 ·have hl:m.to.toNat=l:=by omega
  have hX:X=nd C l:=by rw[<-d.old,hl]
  have h3:X.role=3:=by rw[hX];exact pm.role
  have hXt:X.term=t:=by rw[hX];exact pm.term
  have hself:nd (QaX C) l=Qae (Qaa X m):=by rw[<-hl];exact d.self
  have hY:Qaa X m=QaC X m:=by
   rw[st6 d.cb h6 (X:=X) (by omega),Qbu (by omega)]
  have hh:(nd (QaX C) l).heard=X.heard|||2^m.from_.toNat:=by
   rw[hself,hY]
   exact Qmp h3
  refine⟨fun f h=> ?_,fun f _ hf=> ?_,fun f h=>by omega⟩
  ·rw[hh,Nat.testBit_or,hX,h,Bool.true_or]
  ·rw[hh,Nat.testBit_or,Bool.or_eq_true]
   right
   rw[Nat.testBit_two_pow,decide_eq_true_iff]
   omega
 ·have hl:m.to.toNat=l:=by omega
  have hX:X=nd C l:=by rw[<-d.old,hl]
  have h3:X.role=3:=by rw[hX];exact pm.role
  have hXt:X.term=t:=by rw[hX];exact pm.term
  have hself:nd (QaX C) l=Qae (Qaa X m):=by rw[<-hl];exact d.self
  have hY:Qaa X m=X:=by
   by_cases hlt:m.term<X.term
   ·rw[Qi4 d.cb (by omega) hlt,if_neg (by omega)]
   ·rw[st4 d.cb h4 (by omega),Qbu (by omega)]
    unfold Qar
    rw[if_pos (.inr (by omega))]
  refine⟨fun f h=> ?_,fun f h=>by omega,fun f h=>by omega⟩
  rw[hself,hY,hX]
  exact h
theorem pm_heard(hk:2<=k)(hZ:Zb<1024)(hs:∀f,0<=σ f)(q:Prop):∀(A:List RM){B:List RM}{g:GH}{S:Nat}{C:CS},PMS k rr Zb E l t own0 j h g S C->C.net=A++B->
  (∀f,f<k->f≠l->(nd C l).heard.testBit f=true\/(∃m∈A,m.kind=6/\m.from_=(f:Int))\/(q/\((∃m∈A,m.kind=5/\m.to=(f:Int))\/∃m∈B,m.kind=6/\m.from_=(f:Int))))->
  ∃g' S' C',(∀n,Qbq (A.length+n) C=Qbq n C')/\PMS k rr Zb E l t own0 j h g' S' C'/\(FA k l t σ C->FA k l t σ C')/\∀f,f<k->f≠l->(nd C' l).heard.testBit f=true\/(q/\∃m∈C'.net,m.kind=6/\m.from_=(f:Int))
 | [],B,g,S,C,p,hn,hf=>⟨g,S,C,fun n=>by show Qbq (0+n) C=_;rw[Nat.zero_add],p,fun x=>x,fun f h1 h2=>by
   rcases hf f h1 h2 with e|⟨_,e,_⟩|⟨e,⟨_,e2,_⟩|e2⟩
   ·exact .inl e
   ·cases e
   ·cases e2
   ·exact .inr ⟨e,by rw[hn];exact e2⟩⟩
 |m::A,B,g,S,C,p,hn,hf=>by
  have hne:C.net≠ []:=by rw[hn];simp
  obtain⟨g1,m',r',X,d,p1⟩:=p.del hk hZ hne
  obtain⟨y,dk,pm⟩:=p.pm
  have hd:=d.n
  rw[hn] at hd
  injection hd with e1 e2
  subst e1
  have e2:A++B=r':=e2
  subst e2
  obtain⟨w1,w2,w3⟩:=pm_hear d pm
  obtain⟨g2,S2,C2,a1,a2,a3,a4⟩:=pm_heard hk hZ hs q A (B:=B++(Qaa X m).out.take (512 -(A++B).length)) p1 (by rw[d.net,List.append_assoc]) fun f h1 h2=>by
   rcases hf f h1 h2 with e|⟨o,x1,x2,x3⟩|⟨e,⟨o,x1,x2,x3⟩|⟨o,x1,x2⟩⟩
   ·exact .inl (w1 f e)
   ·rcases List.mem_cons.1 x1 with z|z
    ·subst z;exact .inl (w2 f x2 x3)
    ·exact .inr (.inl ⟨o,z,x2,x3⟩)
   ·rcases List.mem_cons.1 x1 with z|z
    ·subst z
     obtain⟨o',v1,v2⟩:=w3 f x2 x3
     exact .inr (.inr ⟨e,.inr ⟨o',List.mem_append_right _ v1,v2⟩⟩)
    ·exact .inr (.inr ⟨e,.inl ⟨o,z,x2,x3⟩⟩)
   ·exact .inr (.inr ⟨e,.inr ⟨o,List.mem_append_left _ x1,x2⟩⟩)
  refine⟨g2,S2,C2,fun n=> ?_,a2,fun x=>a3 (fa_del d pm hs x),a4⟩
  rw[<-a1 n,List.length_cons,show A.length+1+n=(A.length+n)+1 by omega]
  exact Qa1 hne
theorem Qke(hk:2<=k)(hZ:Zb<1024)(hs:∀f,0<=σ f):∀(n:Nat){g:GH}{S:Nat}{C:CS},PMS k rr Zb E l t own0 j h g S C->∃g' S',PMS k rr Zb E l t own0 j h g' S' (Qbq n C)/\(FA k l t σ C->FA k l t σ (Qbq n C))/\(HA k l C->HA k l (Qbq n C))/\(nd (Qbq n C) l).quiet=(nd C l).quiet
 |0,g,S,C,p=>⟨g,S,p,fun x=>x,fun x=>x,rfl⟩
 |n+1,g,S,C,p=>by
  by_cases hn:C.net= []
  ·rw[QbX hn];exact⟨g,S,p,fun x=>x,fun x=>x,rfl⟩
  ·rw[Qa1 hn]
   obtain⟨g1,m,r,X,d,p1⟩:=p.del hk hZ hn
   obtain⟨y,dk,pm⟩:=p.pm
   obtain⟨g2,S2,a1,a2,a3,a4⟩:=Qke hk hZ hs n p1
   refine⟨g2,S2,a1,fun x=>a2 (fa_del d pm hs x),fun x=>a3 fun f h1 h2=>(pm_hear d pm).1 f (x f h1 h2), ?_⟩
   rw[a4]
   have hmm:m∈C.net:=by rw[d.n];exact List.mem_cons_self ..
   rcases QiD d pm with⟨_,hne,_⟩|⟨h5,hl⟩
   ·rw[d.other (fun e=>hne e.symm)]
   ·have hX:X=nd C l:=by rw[<-d.old,hl]
    have hself:nd (QaX C) l=Qae (Qaa X m):=by rw[<-hl];exact d.self
    have h3:X.role=3:=by rw[hX];exact pm.role
    have hXt:X.term=t:=by rw[hX];exact pm.term
    have hq:(Qaa X m).quiet=X.quiet:=by
     rcases pm.net m hmm with⟨k5,_,_⟩|⟨h6,htl,ht,hidx⟩|⟨h4,htl,ht⟩
     ·exact absurd k5 h5
     ·rw[st6 d.cb h6 (X:=X) (by omega),Qbu (by omega)]
      have aq:∀Z:RN,(Qaf Z).quiet=Z.quiet:=fun Z=>by unfold Qaf;split<;>rfl
      unfold QaC
      rw[if_neg (fun x=>x h3)]
      split
      ·have:=aq (Qau X m.from_.toNat m.index)
       split<;>exact this
      split<;>rfl
     ·by_cases hlt:m.term<X.term
      ·rw[Qi4 d.cb (by omega) hlt,if_neg (by omega)]
      ·rw[st4 d.cb h4 (by omega),Qbu (by omega)]
       unfold Qar
       rw[if_pos (.inr (by omega))]
    rw[hself,hX.symm]
    exact hq
theorem slot_burst(b:Bas k rr Zb E g S C)(hk:2<=k)(hZ:Zb<1024)(hX0:Mw (Zb+1)+4<=X0)(hn:C.net= [])(hl:l<k)(h1:rr l=rr' l+1)(h2:∀j,j<k->j≠l->rr' j=rr j)(hr:(nd C l).role=3)(hlow:∀f,f<k->f≠l->(nd C f).term<=(nd C l).term)(hb:(Qah (nd C l) dr).role=3)(hs:(nd C l).since+1>=2):
  ∃g' S',PMS k rr' Zb E l (nd C l).term (QcW (nd C l)) 0 0 g' S' (slot C l dr)/\FA k l (nd C l).term (fun _=>0) (slot C l dr)/\HA k l (slot C l dr)/\((slot C l dr).net= []\/Phi k X0 (2*((k -1)*X0)+2*((k -1)*Zb)) (slot C l dr)+20000<=512*X0+QcW (nd C l)*((k -1)*X0)+2*((k -1)*Zb)+6):=by
 have h7:=b.c.k7
 have h0:∀f:Nat,(0:Int)<=(fun _=>0) f:=fun _=>Int.le_refl _
 obtain⟨g1,G,b1⟩:=Qc9 (dr:=dr) b hk hl h1 h2
 obtain⟨pm,he,hm,hlen⟩:=beat_pm (dr:=dr) b hk hn hl hr rfl hlow hb hs
 have o1:=Qfi (dr:=dr) b.c (Qme b.c hn) (b.c.nd hl) hk G
 have p0:PMS k rr' Zb E l (nd C l).term (QcW (nd C l)) 0 0 g1 (S+1) (Qal C l dr):=⟨b1,o1,1,_,pm⟩
 obtain⟨g2,S2,C1,a1,a2,a3,a4⟩:=pm_first (σ:=fun _=>0) hk hZ h0 (Qal C l dr).net (B:= []) p0 (List.append_nil _).symm fun f h1 h2=> .inr (hm f h1 h2)
 have he1:=a4 he
 obtain⟨q,hq⟩:∃q,20000=(Qal C l dr).net.length+q:=⟨20000 -(Qal C l dr).net.length,by omega⟩
 have e:slot C l dr=Qbq q C1:=(congrArg (fun z=>Qbq z (Qal C l dr)) hq).trans (a1 q)
 have hcap1:=a2.b.c.cap
 obtain⟨y,dk,pm1⟩:=a2.pm
 obtain⟨g3,S3,C2,b2,b3,b4,b5⟩:=pm_heard (σ:=fun _=>0) hk hZ h0 True C1.net (B:= []) a2 (List.append_nil _).symm fun f h1 h2=>by
  rcases he1 f h1 h2 with x|x
  ·exact .inl x
  ·right
   unfold tn at x
   obtain⟨z,hz⟩:∃z,z∈items C1.net l f (nd C l).term:=List.exists_mem_of_length_pos x
   unfold items at hz
   obtain⟨o,ho,hoz⟩:=List.mem_filterMap.1 hz
   unfold QaD at hoz
   by_cases q1:o.kind=5/\o.from_=(l:Int)/\o.to=(f:Int)
   ·exact .inr ⟨trivial,.inl ⟨o,ho,q1.1,q1.2.2⟩⟩
   ·rw[if_neg q1] at hoz
    by_cases q2:o.kind=6/\o.from_=(f:Int)/\o.to=(l:Int)/\o.term=(nd C l).term
    ·exact .inl ⟨o,ho,q2.1,q2.2.1⟩
    ·rw[if_neg q2] at hoz;cases hoz
 have hcap2:=b3.b.c.cap
 obtain⟨g4,S4,C3,c2,c3,c4,c5⟩:=pm_heard (σ:=fun _=>0) hk hZ h0 False C2.net (B:= []) b3 (List.append_nil _).symm fun f h1 h2=>(b5 f h1 h2).imp id fun x=> .inl x.2
 obtain⟨p,hp⟩:∃p,q=C1.net.length+(C2.net.length+p):=⟨q -C1.net.length -C2.net.length,by omega⟩
 have e3:Qbq q C1=Qbq p C3:=by rw[hp,b2,c2]
 obtain⟨g5,S5,d1,d2,d3,d4⟩:=Qke (σ:=fun _=>0) hk hZ h0 p c3
 refine⟨g5,S5,by rw[e,e3];exact d1,by rw[e,e3];exact d2 (c4 (b4 a3)),by rw[e,e3];exact d3 fun f h1 h2=>(c5 f h1 h2).resolve_right fun x=>x.1, ?_⟩
 have hp1:=pm_phi (X0:=X0) (LC:=2*((k -1)*X0)+2*((k -1)*Zb)) a2 hX0 hZ a3 hcap1
 have b0:Bas k (fun _=>0) Zb E g2 S2 C1:=⟨a2.b.c,a2.b.own,by
  obtain⟨M,h1,h2⟩:=a2.b.len
  refine⟨M,h1,Nat.le_trans (Nat.add_le_add (Nat.le_refl _) (Qcn fun i _=>Nat.add_le_add (Nat.le_refl _) (QeW (Nat.zero_le _) (Int.le_refl _)))) h2⟩⟩
 obtain⟨_,_,_,_,_,_,z⟩:=QkL (X0:=X0) (LC:=2*((k -1)*X0)+2*((k -1)*Zb)) hk hZ hX0 (Nat.le_refl _) q b0 a2.o
 rw[QhW,QhW] at z
 have ho:QcW (nd C1 l)*((k -1)*X0)<=QcW (nd C l)*((k -1)*X0):=Nat.mul_le_mul_right _ (by have:=pm1.own;omega)
 rw[e]
 rcases z with z|z
 ·exact .inl z
 ·right;omega
theorem slot_later(p:PMS k rr Zb E l t own0 j h g S C)(hk:2<=k)(hZ:Zb<1024)(hX0:Mw (Zb+1)+4<=X0)(hi:i<k)(h1:rr i=rr' i+1)(h2:∀j,j<k->j≠i->rr' j=rr j)(hs:∀f,0<=σ f)(fa:FA k l t σ C)(hh:h<=2)(ha:HA k l C\/(nd C l).quiet<=h)(hw:i≠l->(nd C i).since+1<4):
  ∃g' S',PMS k rr' Zb E l t own0 j (h+if i=l then 1 else 0) g' S' (slot C i dr)/\FA k l t (fun f=>σ f+if f=i then 1 else 0) (slot C i dr)/\(HA k l (slot C i dr)\/(nd (slot C i dr) l).quiet<=((h+if i=l then 1 else 0:Nat):Int))/\
   ((slot C i dr).net= []\/Phi k X0 (2*((k -1)*X0)+2*((k -1)*Zb)) (slot C i dr)+20000<=Phi k X0 (2*((k -1)*X0)+2*((k -1)*Zb)) C+(k -1)*X0):=by
 have hX:=p.b.c.nd hi
 have c:=p.b.c.node i _ hX
 have hs0:=c.bn.s.1
 obtain⟨y,dk,pm⟩:=p.pm
 have hself:=Qaw (dr:=dr) p.b.c hX
 have hlk:=pm.lk
 have ph:=phi_tick (X0:=X0) (LC:=2*((k -1)*X0)+2*((k -1)*Zb)) (dr:=dr) p.b.c p.o hX hk hX0 (p.b.lt hZ hi) 0
 have hask:Qb8 1 (nd C i).since=0:=by
  unfold Qb8
  by_cases e:i=l
  ·subst e
   have:=c.xi.since pm.role
   omega
  ·have:=hw e
   omega
 have ht1:tB k X0 (2*((k -1)*X0)+2*((k -1)*Zb)) (0+1) (nd C i)=(k -1)*X0:=by
  unfold tB
  rw[hask]
  omega
 have hs':∀f,0<=(fun f=>σ f+if f=i then(1:Int) else 0) f:=fun f=>by
  have:=hs f
  show 0<=σ f+if f=i then(1:Int) else 0
  split<;>omega
 have fin:∀{h':Nat} {g1:GH} {S1:Nat},PMS k rr' Zb E l t own0 j h' g1 S1 (Qal C i dr)->FA k l t (fun f=>σ f+if f=i then 1 else 0) (Qal C i dr)->(HA k l (Qal C i dr)\/(nd (Qal C i dr) l).quiet<=(h':Int))->∃g' S',PMS k rr' Zb E l t own0 j h' g' S' (slot C i dr)/\FA k l t (fun f=>σ f+if f=i then 1 else 0) (slot C i dr)/\(HA k l (slot C i dr)\/(nd (slot C i dr) l).quiet<=(h':Int))/\
   ((slot C i dr).net= []\/Phi k X0 (2*((k -1)*X0)+2*((k -1)*Zb)) (slot C i dr)+20000<=Phi k X0 (2*((k -1)*X0)+2*((k -1)*Zb)) C+(k -1)*X0):=fun{h' g1 S1} q1 q2 q3=>by
  obtain⟨g2,S2,a1,a2,a3,a4⟩:=Qke hk hZ hs' 20000 q1
  refine⟨g2,S2,a1,a2 q2, ?_, ?_⟩
  ·rcases q3 with z|z
   ·exact .inl (a3 z)
   ·right
    show(nd (Qbq 20000 (Qal C i dr)) l).quiet<=_
    rw[a4];exact z
  ·have b0:Bas k (fun _=>0) Zb E g1 S1 (Qal C i dr):=⟨q1.b.c,q1.b.own,by
    obtain⟨M,h1,h2⟩:=q1.b.len
    refine⟨M,h1,Nat.le_trans (Nat.add_le_add (Nat.le_refl _) (Qcn fun i _=>Nat.add_le_add (Nat.le_refl _) (QeW (Nat.zero_le _) (Int.le_refl _)))) h2⟩⟩
   obtain⟨_,_,_,_,_,_,z⟩:=QkL (X0:=X0) (LC:=2*((k -1)*X0)+2*((k -1)*Zb)) hk hZ hX0 (Nat.le_refl _) 20000 b0 q1.o
   rw[QhW,QhW] at z
   rcases z with z|z
   ·exact .inl z
   ·right
    show Phi k X0 _ (Qbq 20000 (Qal C i dr))+20000<=_
    omega
 by_cases e:i=l
 ·subst e
  rw[if_pos rfl]
  have hb:(Qah (nd C i) dr).role=3/\(HA k i (Qal C i dr)\/(nd (Qal C i dr) i).quiet<=((h+1:Nat):Int)):=by
   have hq:((Qah (nd C i) dr).quiet=(nd C i).quiet+1/\(nd C i).quiet+1<4/\(Qah (nd C i) dr).heard=(nd C i).heard\/(Qah (nd C i) dr).quiet=0/\(nd C i).quiet+1>=4/\(Qah (nd C i) dr).heard=0/\QaF (nd C i) ((nd C i).heard|||2^(nd C i).id.toNat))->(HA k i (Qal C i dr)\/(nd (Qal C i dr) i).quiet<=((h+1:Nat):Int)):=fun z=>by
    have e1:(nd (Qal C i dr) i).heard=(Qah (nd C i) dr).heard:=by rw[hself];rfl
    have e2:(nd (Qal C i dr) i).quiet=(Qah (nd C i) dr).quiet:=by rw[hself];rfl
    rcases z with⟨z1,z2,z3⟩|⟨z1,_⟩
    ·rcases ha with x|x
     ·left
      intro f h1 h2
      rw[e1,z3]
      exact x f h1 h2
     ·right
      omega
    ·right
     omega
   cases Qa2 (dr:=dr) c with
   |quiet q1 q2 q3 q4 q5 q6 q7=>exact⟨q2,hq q7⟩
   |beat W q1 q2 a1 a2 a3 a4 a5 a6 a7 a8 a9 a10=>exact⟨q2,hq a10⟩
   |down q1 q2 q3 q4=>
    exfalso
    rcases ha with x|x
    ·refine q3 (Qmi c (Nat.or_lt_two_pow (n:=7) c.bn.h ?_) fun f hf=> ?_)
     ·have h7:=p.b.c.k7
      have hid:=c.ni.id
      exact Nat.pow_lt_pow_right (by decide) (by omega)
     ·rw[Nat.testBit_or,Bool.or_eq_true]
      by_cases e:f=i
      ·right
       rw[Nat.testBit_two_pow,decide_eq_true_iff]
       have hid:=c.ni.id
       omega
      ·exact .inl (x f hf e)
    ·omega
   |wait q1=>exact absurd pm.role q1
   |ask q1=>exact absurd pm.role q1
  obtain⟨g1,S1,p1,p2⟩:=pm_lead (dr:=dr) p hk h1 h2 hb.1
  refine fin p1 ?_ hb.2
  intro f h1 h2
  have:=p2 fa f h1 h2
  refine⟨this.1, ?_⟩
  show(nd (Qal C i dr) f).since<=σ f+if f=i then 1 else 0
  rw[if_neg h2,Int.add_zero]
  exact this.2
 ·rw[if_neg e]
  obtain⟨g1,S1,p1,p2,p3,p4⟩:=pm_wait (dr:=dr) p hk hi e h1 h2 fa (hw e)
  refine fin p1 p2 ?_
  have hl:=Qak (dr:=dr) hX (fun e':l=i=>e e'.symm)
  unfold HA
  rw[hl]
  exact ha
end
section
variable {k X0 LC M bd E Zb l x:Nat}{g g':GH}{i f S:Nat}{X Y F L W:RN}{m:RM}{C:CS}{r A B D D':List RM}{rr rr':Nat->Nat}{dr t T0 U U':Int}{N0:Nat->RN}{bw own0 j h:Nat}{σ:Nat->Int}
theorem sumN_ge{F:Nat->Nat}:∀{n i:Nat},i<n->F i<=Qck n F
 |n+1,i,h=>by
  show F i<=Qck n F+F n
  by_cases e:i=n
  ·subst e;omega
  ·have:=sumN_ge (F:=F) (n:=n) (i:=i) (by omega)
   omega
def TmB(k:Nat)(U:Int)(C:CS):Prop:=(∀i,i<k->(nd C i).term<=U)/\∀m∈C.net,m.term<=U
def OT(U:Int)(l:List RM):Prop:=∀o∈l,o.term<=U
theorem QeR{a b:List RM}(h1:OT U a)(h2:OT U b):OT U (a++b):=fun m hm=>(List.mem_append.1 hm).elim (h1 m) (h2 m)
theorem QkR{o:RM}(h:o.term<=U):OT U [o]:=fun m hm=>by rw[List.mem_singleton] at hm;subst hm;exact h
theorem Qmd{l:List Nat}{G:Nat->RM}(h:∀t,(G t).term<=U):OT U (l.map G):=fun m hm=>by
 obtain⟨t,_,rfl⟩:=List.mem_map.1 hm
 exact h t
theorem ot_agree(h:OT U X.out)(ht:X.term<=U):OT U (Qaf X).out:=by
 unfold Qaf
 split
 ·exact h
 ·exact QeR h (Qmd fun _=>ht)
theorem ot_leads(h:OT U X.out)(ht:X.term<=U):OT U (Qbh X).out:=by
 have key:OT U (Qc7 (Qay X) ⟨#[]⟩).1.out:=by
  unfold Qc7
  split
  ·exact h
  split
  ·exact h
  ·exact ot_agree (QeR h (Qmd fun _=>ht)) ht
 unfold Qbh
 split
 ·unfold Qai;split<;>exact key
 ·exact key
theorem ot_step(hc:QaR X m)(h0:OT U X.out)(hX:X.term<=U)(hm:m.term<=U):OT U (Qaa X m).out:=by
 obtain⟨c1,c2,c3,c4,c5,c6,_⟩:=hc
 have hc:QaR X m:=⟨c1,c2,c3,c4,c5,c6,by assumption⟩
 by_cases k1:m.kind=1
 ·rw[st1 hc k1]
  exact QeR h0 (QkR (by show(if QkQ X m then m.term else X.term)<=U;split<;>assumption))
 by_cases k2:m.kind=2
 ·rw[st2 hc k2]
  unfold QaS
  split
  ·unfold Qai;split<;>exact h0
  split
  ·rename_i hq
   have h1:X.term+1<=U:=by omega
   split
   ·unfold QaU
    split
    ·exact ot_leads (X:=QbB {X with votes:=_}) h0 h1
    ·exact QeR h0 (Qmd fun _=>h1)
   ·exact h0
  ·exact h0
 by_cases ht:m.term<X.term
 ·rw[Qi4 hc (by omega) ht]
  split
  ·exact QeR h0 (QkR hX)
  ·exact h0
 have hz:OT U (Qab X m).out:=by rw[(Qbl X m).2.2.1];exact h0
 have hzt:(Qab X m).term<=U:=by rw[QbN (by omega)];exact hm
 by_cases k3:m.kind=3
 ·rw[st3 hc k3 (by omega)]
  unfold Qbg
  refine QeR ?_ (QkR hzt)
  split<;>exact hz
 by_cases k4:m.kind=4
 ·rw[st4 hc k4 (by omega)]
  unfold Qar
  split
  ·exact hz
  split
  ·exact ot_leads (X:={Qab X m with votes:=_}) hz hzt
  ·exact hz
 by_cases k5:m.kind=5
 ·rw[st5 hc k5 (by omega)]
  have p0:OT U (Qag (Qab X m) m).out/\(Qag (Qab X m) m).term<=U:=by rw[Qaz];exact⟨hz,hzt⟩
  unfold QaV
  split
  ·exact hz
  split
  ·exact QeR p0.1 (QkR p0.2)
  split
  ·exact QeR p0.1 (QkR p0.2)
  ·obtain⟨p1,p2,p3,p4,p5,p6⟩:=Qcw (Qag (Qab X m) m) m
   refine QeR ?_ (QkR ?_)
   ·show OT U (QbD (Qag (Qab X m) m) m).out
    rw[p6];exact p0.1
   ·show(QbD (Qag (Qab X m) m) m).term<=U
    rw[p4];exact p0.2
 rw[st6 hc (by omega) (by omega)]
 unfold QaC
 split
 ·exact hz
 split
 ·have hg:=ot_agree (X:=Qau (Qab X m) m.from_.toNat m.index) hz hzt
  have ha:=(agree_id (Qau (Qab X m) m.from_.toNat m.index)).2.1
  split
  ·exact QeR hg (QkR (by show(Qaf (Qau (Qab X m) m.from_.toNat m.index)).term<=U;rw[ha];exact hzt))
  ·exact hg
 split
 ·exact QeR (a:=(Qcx (Qab X m) m.from_.toNat m.index).out) hz (QkR hzt)
 ·exact hz
theorem tb_del(d:Dl k g S C m r X)(h:TmB k U C):TmB k U (QaX C):=by
 have hmm:m∈C.net:=by rw[d.n];exact List.mem_cons_self ..
 have hX:X.term<=U:=by rw[<-d.old];exact h.1 _ d.c.ni.ik
 have hm:=h.2 m hmm
 refine⟨fun i hi=> ?_,fun o ho=> ?_⟩
 ·by_cases e:i=m.to.toNat
  ·subst e
   rw[d.self]
   show(Qaa X m).term<=U
   rcases(Qdn (X:=X) d.cb).2 with q|q<;>omega
  ·rw[d.other e];exact h.1 i hi
 ·rw[d.net] at ho
  rcases List.mem_append.1 ho with e|e
  ·exact h.2 o (by rw[d.n];exact List.mem_cons_of_mem _ e)
  ·exact ot_step d.cb (by rw[d.c.out];intro o ho;cases ho) hX hm o (Qad e)
theorem tb_set:∀(n:Nat){g:GH}{S:Nat}{C:CS},CInv k g S C->TmB k U C->TmB k U (Qbq n C)
 |0,g,S,C,h,q=>q
 |n+1,g,S,C,h,q=>by
  by_cases hn:C.net= []
  ·rw[QbX hn];exact q
  ·rw[Qa1 hn]
   obtain⟨m,r,hmr⟩:=List.exists_cons_of_ne_nil hn
   obtain⟨X,d⟩:=h.dl hmr
   obtain⟨g1,_,h1⟩:=h.del
   exact tb_set n h1 (tb_del d q)
theorem Qoo(h:CInv k g S C)(hk:2<=k)(hi:i<k)(q:TmB k U C)(h1:U<=U')(h2:(nd C i).term+1<=U'):TmB k U' (Qal C i dr):=by
 have hX:=h.nd hi
 have c:=h.node i _ hX
 refine⟨fun j hj=> ?_,fun o ho=> ?_⟩
 ·by_cases e:j=i
  ·subst e
   rw[Qaw h hX]
   show(Qah (nd C j) dr).term<=U'
   rw[(Qb5 (dr:=dr) c hk).1];omega
  ·rw[Qak hX e]
   have:=q.1 j hj
   omega
 ·rw[Qbn h hX] at ho
  rcases List.mem_append.1 ho with e|e
  ·have:=q.2 o e;omega
  ·have e:=Qad e
   cases Qa2 (dr:=dr) c with
   |quiet q1 q2 q3 q4=>rw[q4] at e;cases e
   |beat W q1 q2 a1 a2 a3 a4 a5 a6 a7=>
    rw[a7] at e
    obtain⟨z,_,rfl⟩:=List.mem_map.1 e
    show W.term<=U'
    omega
   |down q1 q2 q3 q4=>rw[q4] at e;rw[show({nd C i with role:=0,leader:= -1,since:=0,quiet:=0,heard:=0}:RN).out=(nd C i).out from rfl,c.out] at e;cases e
   |wait q1 q2 q3=>rw[q3] at e;rw[show({nd C i with since:=(nd C i).since+1}:RN).out=(nd C i).out from rfl,c.out] at e;cases e
   |ask q1 q2 q3 q4=>
    rw[q4,QdQ c hk] at e
    obtain⟨z,_,rfl⟩:=List.mem_map.1 e
    exact h2
theorem al_net(hn:(Qal C i dr).net= []){ls:List Int}(h:LT k ls (Qal C i dr)):Al (LT k ls) (Qal C i dr):=fun n=>by rw[QbX hn];exact h
structure NoS(k i:Nat)(C C':CS):Prop where
 net:C'.net= []
 nl:∀f,f<k->(nd C' f).role≠3
 log:∀f,f<k->(nd C' f).log=(nd C f).log
 go:∀Tm,(∀f,f<k->(nd C f).term<=Tm)->(∃f,f<k/\(nd C f).term=Tm)->Tm<Qjk->(∀f,f<k->(nd C' f).term<=Tm)/\(∀f,f<k->(nd C f).term=Tm->(nd C' f).term=Tm)/\
  (((nd C i).term<Tm/\(nd C' i).term=Tm)\/((∀f,f<k->f≠i->nd C' f=nd C f)/\((nd C' i={nd C i with since:=(nd C i).since+1}/\(nd C i).since+1<8)\/((nd C' i).term=(nd C i).term/\(nd C i).term=Tm/\(nd C' i).leader= -1/\(nd C' i).since=0/\¬∀f,f<k->f≠i->preQ i Tm (nd C) f))))
theorem slot_nl(b:Bas k rr Zb E g S C)(hk:2<=k)(hZ:Zb<=460)(hn:C.net= [])(hnl:∀f,f<k->(nd C f).role≠3)(hi:i<k)(h1:rr i=rr' i+1)(h2:∀j,j<k->j≠i->rr' j=rr j):
  ∃g' S',Bas k rr' Zb E g' S' (slot C i dr)/\((∃t,EstS k i t (slot C i dr)/\∀ls,LT k ls C->Al (LT k (t::ls)) (Qal C i dr))\/(NoS k i C (slot C i dr)/\∀ls,LT k ls C->Al (LT k ls) (Qal C i dr))):=by
 have hX:=b.c.nd hi
 have c:=b.c.node i _ hX
 have hkeep:=Qb5 (dr:=dr) c hk
 have hdr:(if 0>dr then 0 else dr)%4<4:=Int.emod_lt_of_pos _ (by decide)
 have hself:=Qaw (dr:=dr) b.c hX
 cases Qa2 (dr:=dr) c with
 |quiet q1=>exact absurd q1 (hnl i hi)
 |beat W q1=>exact absurd q1 (hnl i hi)
 |down q1=>exact absurd q1 (hnl i hi)
 |wait q1 q2 q3=>
  have ho:(Qah (nd C i) dr).out= []:=by rw[q3];exact c.out
  obtain⟨g1,S1,a1,a2,a3,a4⟩:=QfL (dr:=dr) b hk hn hi h1 h2 ho
  have hself':nd (slot C i dr) i={nd C i with since:=(nd C i).since+1}:=by
   rw[a3,q3]
   have e1:=c.out
   have e2:=c.hard
   have e3:=c.from_
   revert e1 e2 e3
   generalize nd C i=Z
   intro e1 e2 e3
   cases Z
   simp only[Qae] at*
   simp only[e1,e2,e3]
  have hnet:(Qal C i dr).net= []:=by rw[Qbn b.c hX,hn,ho,List.take_nil];rfl
  refine⟨g1,S1,a1,.inr ⟨⟨a2,fun f hf=> ?_,fun f hf=> ?_,fun Tm t1 _ t3=>⟨fun f hf=> ?_,fun f hf e=> ?_,.inr ⟨fun f _ hfi=>a4 f hfi,.inl ⟨hself', ?_⟩⟩⟩⟩,fun ls hls=>al_net hnet fun f hf h3=> ?_⟩⟩
  ·by_cases e:f=i
   ·subst e;rw[hself'];exact hnl f hf
   ·rw[a4 f e];exact hnl f hf
  ·by_cases e:f=i
   ·subst e;rw[hself']
   ·rw[a4 f e]
  ·by_cases e:f=i
   ·subst e;rw[hself'];exact t1 f hf
   ·rw[a4 f e];exact t1 f hf
  ·by_cases e':f=i
   ·subst e';rw[hself'];exact e
   ·rw[a4 f e'];exact e
  ·have:=t1 i hi
   rcases q2 with z|z<;>omega
  ·by_cases e:f=i
   ·subst e
    rw[hself,q3] at h3
    exact absurd h3 (hnl f hf)
   ·rw[Qak hX e] at h3
    exact absurd h3 (hnl f hf)
 |ask q1 q2 q3 q4=>
  obtain⟨g1,S1,a1,a2⟩:=Qop (dr:=dr) b hk hZ hn hi h1 h2 q4
  refine⟨g1,S1,a1, ?_⟩
  rcases a2 with⟨e1,e2⟩|⟨e1,⟨bw,a⟩,e3⟩
  ·exact .inl ⟨_,e1,e2⟩
  ·right
   refine⟨⟨e1,fun f hf h3=> ?_,fun f hf=> ?_,fun Tm t1 t2 t3=> ?_⟩,e3⟩
   ·by_cases e:f=i
    ·subst e
     rcases a.role with z|z|z<;>omega
    ·have:=(a.lead hf e h3).2.1
     rw[Qak hX e] at this
     exact hnl f hf this
   ·by_cases e:f=i
    ·subst e
     rw[a.log,hself]
     exact hkeep.2.1
    ·rcases a.oth f hf e with z|⟨z,_⟩
     ·rw[z,Qak hX e]
     ·rw[z.log,Qak hX e]
   ·obtain⟨w1,w2⟩:=ask_end a1.c a e1
    have hlow:∀f,f<k->f≠i->(nd (Qal C i dr) f).term=(nd C f).term:=fun f hf hfi=>by rw[Qak hX hfi]
    by_cases hT:(nd C i).term=Tm
    ·obtain⟨v1,v2,v3,v4⟩:=w2 fun f hf hfi=>by rw[hlow f hf hfi,hT];exact t1 f hf
     have hoth:∀f,f<k->f≠i->nd (slot C i dr) f=nd C f:=fun f hf hfi=>by rw[v3 f hf hfi,Qak hX hfi]
     refine⟨fun f hf=> ?_,fun f hf e=> ?_,.inr ⟨hoth,.inr ⟨v2,hT,a.leader,a.since,fun hall=>v4 fun f hf hfi=> ?_⟩⟩⟩
     ·by_cases e:f=i
      ·subst e;rw[v2,hT];exact Int.le_refl _
      ·rw[hoth f hf e];exact t1 f hf
     ·by_cases e':f=i
      ·subst e';rw[v2,hT]
      ·rw[hoth f hf e'];exact e
     ·have hq:=hall f hf hfi
      unfold preQ at hq⊢
      rw[Qak hX hfi,hself,show(Qae (Qah (nd C i) dr)).log=(nd C i).log from hkeep.2.1,hT]
      exact hq
    ·have hlt:(nd C i).term<Tm:=by have:=t1 i hi;omega
     have htb:TmB k Tm (slot C i dr):=by
      obtain⟨g2,_,h2'⟩:=b.c.tick i dr
      exact tb_set 20000 h2' (Qoo b.c hk hi ⟨t1,fun m hm=>by rw[hn] at hm;cases hm⟩ (Int.le_refl _) (by omega))
     obtain⟨f0,hf0,hf1⟩:=t2
     have hfi:f0≠i:=fun e=>by subst e;omega
     have:=w1 f0 hf0 hfi
     rw[hlow f0 hf0 hfi,hf1] at this
     have:=htb.1 i hi
     refine⟨htb.1,fun f hf e=> ?_,.inl ⟨hlt,by omega⟩⟩
     by_cases e':f=i
     ·subst e';omega
     ·rcases a.oth f hf e' with z|⟨z,_⟩
      ·rw[z,hlow f hf e',e]
      ·have z1:=z.low
       have z2:=z.term
       rw[hlow f hf e'] at z1
       omega
structure WE(k l:Nat)(t:Int)(C:CS):Prop where
 lk:l<k
 net:C.net= []
 role:(nd C l).role=3
 term:(nd C l).term=t
 oth:∀f,f<k->f≠l->(nd C f).term=t/\(nd C f).role≠3
 commit:(nd C l).commit=(nd C l).log.length
theorem EstS.we(e:EstS k l t C):WE k l t C:=⟨e.lk,e.net,e.role,e.term,fun f h1 h2=>by
 have:=(e.fa f h1 h2).1
 exact⟨this.term,by rw[this.role];decide⟩,e.commit⟩
theorem own_zero(h:(nd C l).commit=(nd C l).log.length):QcW (nd C l)=0:=by
 unfold QcW
 rw[h,Int.toNat_natCast,List.drop_length];rfl
theorem al_beat(b:Bas k rr Zb E g S C)(hk:2<=k)(hZ:Zb<=460)(hn:C.net= [])(hl:l<k)(h1:rr l=rr' l+1)(h2:∀j,j<k->j≠l->rr' j=rr j)(hr:(nd C l).role=3)(hlow:∀f,f<k->f≠l->(nd C f).term<=(nd C l).term)(hb:(Qah (nd C l) dr).role=3)(hs:(nd C l).since+1>=2){ls:List Int}(hls:LT k ls C):Al (LT k ls) (Qal C l dr):=fun n=>by
 have hX:=b.c.nd hl
 have c:=b.c.node l _ hX
 obtain⟨g1,G,b1⟩:=Qc9 (dr:=dr) b hk hl h1 h2
 obtain⟨pm,_⟩:=beat_pm (dr:=dr) b hk hn hl hr rfl hlow hb hs
 have o1:=Qfi (dr:=dr) b.c (Qme b.c hn) (b.c.nd hl) hk G
 refine pm_lt hk (by omega) n ⟨b1,o1,1,_,pm⟩ fun f hf h3=> ?_
 by_cases e:f=l
 ·subst e
  rw[Qaw b.c hX]
  show(Qah (nd C f) dr).term∈ls
  rw[(Qb5 (dr:=dr) c hk).1]
  exact hls f hf hr
 ·rw[Qak hX e] at h3⊢
  exact hls f hf h3
theorem slot_we(b:Bas k rr Zb E g S C)(hk:2<=k)(hZ:Zb<=460)(w:WE k l t C)(hi:i<k)(h1:rr i=rr' i+1)(h2:∀j,j<k->j≠i->rr' j=rr j):
  ∃g' S',Bas k rr' Zb E g' S' (slot C i dr)/\((∃t',EstS k i t' (slot C i dr)/\∀ls,LT k ls C->Al (LT k (t'::ls)) (Qal C i dr))\/
   ((∀ls,LT k ls C->Al (LT k ls) (Qal C i dr))/\(EstS k l t (slot C i dr)\/((∀f,f<k->(nd (slot C i dr) f).log=(nd C f).log)/\((WE k l t (slot C i dr)/\(i=l->(nd (slot C i dr) l).since=(nd C l).since+1/\(nd C l).since+1<2)/\(i≠l->nd (slot C i dr) l=nd C l))\/((slot C i dr).net= []/\(∀f,f<k->(nd (slot C i dr) f).role≠3)/\∀f,f<k->(nd (slot C i dr) f).term=t)))))):=by
 have hX:=b.c.nd hi
 have c:=b.c.node i _ hX
 have hkeep:=Qb5 (dr:=dr) c hk
 have hself:=Qaw (dr:=dr) b.c hX
 have hn:=w.net
 have quietly:(Qah (nd C i) dr).out= []->(Qah (nd C i) dr).role=(nd C i).role->((Qah (nd C i) dr).since=(nd C i).since+1)->(i=l->(nd C l).since+1<2)->∃g' S',Bas k rr' Zb E g' S' (slot C i dr)/\((∃t',EstS k i t' (slot C i dr)/\∀ls,LT k ls C->Al (LT k (t'::ls)) (Qal C i dr))\/
   ((∀ls,LT k ls C->Al (LT k ls) (Qal C i dr))/\(EstS k l t (slot C i dr)\/((∀f,f<k->(nd (slot C i dr) f).log=(nd C f).log)/\((WE k l t (slot C i dr)/\(i=l->(nd (slot C i dr) l).since=(nd C l).since+1/\(nd C l).since+1<2)/\(i≠l->nd (slot C i dr) l=nd C l))\/((slot C i dr).net= []/\(∀f,f<k->(nd (slot C i dr) f).role≠3)/\∀f,f<k->(nd (slot C i dr) f).term=t)))))):=fun ho hrole hsince hs2=>by
  obtain⟨g1,S1,a1,a2,a3,a4⟩:=QfL (dr:=dr) b hk hn hi h1 h2 ho
  have hnet:(Qal C i dr).net= []:=by rw[Qbn b.c hX,hn,ho,List.take_nil];rfl
  refine⟨g1,S1,a1,.inr ⟨fun ls hls=>al_net hnet fun f hf h3=> ?_,.inr ⟨fun f hf=> ?_,.inl ⟨⟨w.lk,a2, ?_, ?_,fun f hf hfl=> ?_, ?_⟩,fun e=>⟨?_,hs2 e⟩,fun e=>a4 l (fun z=>e z.symm)⟩⟩⟩⟩
  ·by_cases e:f=i
   ·subst e
    rw[hself] at h3⊢
    show(Qah (nd C f) dr).term∈ls
    rw[hkeep.1]
    exact hls f hf (hrole.symm.trans h3)
   ·rw[Qak hX e] at h3⊢
    exact hls f hf h3
  ·by_cases e:f=i
   ·subst e;rw[a3];exact hkeep.2.1
   ·rw[a4 f e]
  ·by_cases e:l=i
   ·subst e;rw[a3];exact hrole.trans w.role
   ·rw[a4 l e];exact w.role
  ·by_cases e:l=i
   ·subst e;rw[a3];exact hkeep.1.trans w.term
   ·rw[a4 l e];exact w.term
  ·by_cases e:f=i
   ·subst e
    rw[a3]
    have:=w.oth f hf hfl
    exact⟨hkeep.1.trans this.1,by show ¬(Qah (nd C f) dr).role=3;rw[hrole];exact this.2⟩
   ·rw[a4 f e];exact w.oth f hf hfl
  ·by_cases e:l=i
   ·subst e
    rw[a3]
    show(Qah (nd C l) dr).commit=(Qah (nd C l) dr).log.length
    rw[hkeep.2.2.1,hkeep.2.1];exact w.commit
   ·rw[a4 l e];exact w.commit
  ·subst e
   rw[a3]
   exact hsince
 have hold:∀f,f<k->f≠i->nd (Qal C i dr) f=nd C f:=fun f _ hfi=>Qak hX hfi
 cases Qa2 (dr:=dr) c with
 |quiet q1 q2 q3 q4 q5 q6=>exact quietly q4 (by omega) q5 fun e=>by subst e;exact q6
 |beat W q1 q2 a1 a2 a3 a4 a5 a6 a7 a8 a9=>
  have hil:i=l:=Decidable.byContradiction fun e=>(w.oth i hi e).2 q1
  subst hil
  have hlow:∀f,f<k->f≠i->(nd C f).term<=(nd C i).term:=fun f h1 h2=>by rw[(w.oth f h1 h2).1,w.term];exact Int.le_refl _
  obtain⟨g1,S1,b1,b2⟩:=beat_small (dr:=dr) b hk hZ hn hi h1 h2 q1 hlow q2 a9 (by rw[own_zero w.commit];decide)
  rw[w.term] at b2
  exact⟨g1,S1,b1,.inr ⟨fun ls hls=>al_beat b hk hZ hn hi h1 h2 q1 hlow q2 a9 hls,.inl b2⟩⟩
 |down q1 q2 q3 q4=>
  have hil:i=l:=Decidable.byContradiction fun e=>(w.oth i hi e).2 q1
  subst hil
  have ho:(Qah (nd C i) dr).out= []:=by rw[q4];exact c.out
  obtain⟨g1,S1,a1,a2,a3,a4⟩:=QfL (dr:=dr) b hk hn hi h1 h2 ho
  have hnet:(Qal C i dr).net= []:=by rw[Qbn b.c hX,hn,ho,List.take_nil];rfl
  have hr0:(Qah (nd C i) dr).role=0:=by rw[q4]
  refine⟨g1,S1,a1,.inr ⟨fun ls hls=>al_net hnet fun f hf h3=> ?_,.inr ⟨fun f hf=> ?_,.inr ⟨a2,fun f hf h3=> ?_,fun f hf=> ?_⟩⟩⟩⟩
  ·by_cases e:f=i
   ·subst e
    rw[hself] at h3
    have h3:(Qah (nd C f) dr).role=3:=h3
    omega
   ·rw[Qak hX e] at h3
    exact absurd h3 (w.oth f hf e).2
  ·by_cases e:f=i
   ·subst e;rw[a3];exact hkeep.2.1
   ·rw[a4 f e]
  ·by_cases e:f=i
   ·subst e
    rw[a3] at h3
    have h3:(Qah (nd C f) dr).role=3:=h3
    omega
   ·rw[a4 f e] at h3
    exact(w.oth f hf e).2 h3
  ·by_cases e:f=i
   ·subst e;rw[a3];exact hkeep.1.trans w.term
   ·rw[a4 f e];exact(w.oth f hf e).1
 |wait q1 q2 q3=>exact quietly (by rw[q3];exact c.out) (by rw[q3]) (by rw[q3]) fun e=>by subst e;exact absurd w.role q1
 |ask q1 q2 q3 q4=>
  have hil:i≠l:=fun e=>by subst e;exact q1 w.role
  obtain⟨g1,S1,a1,a2⟩:=Qop (dr:=dr) b hk hZ hn hi h1 h2 q4
  refine⟨g1,S1,a1, ?_⟩
  rcases a2 with⟨e1,e2⟩|⟨e1,⟨bw,a⟩,e3⟩
  ·exact .inl ⟨_,e1,e2⟩
  ·right
   have hT:=(w.oth i hi hil).1
   obtain⟨w1,w2⟩:=ask_end a1.c a e1
   obtain⟨v1,v2,v3,v4⟩:=w2 fun f hf hfi=>by
    rw[hold f hf hfi,hT]
    by_cases e:f=l
    ·subst e;rw[w.term];exact Int.le_refl _
    ·rw[(w.oth f hf e).1];exact Int.le_refl _
   have hoth:∀f,f<k->f≠i->nd (slot C i dr) f=nd C f:=fun f hf hfi=>by rw[v3 f hf hfi,hold f hf hfi]
   have hll:=hoth l w.lk (fun e=>hil e.symm)
   refine⟨e3,.inr ⟨fun f hf=> ?_,.inl ⟨⟨w.lk,e1,by rw[hll];exact w.role,by rw[hll];exact w.term,fun f hf hfl=> ?_,by rw[hll];exact w.commit⟩,fun e=>absurd e hil,fun _=>hll⟩⟩⟩
   ·by_cases e:f=i
    ·subst e
     rw[a.log,hself]
     exact hkeep.2.1
    ·rw[hoth f hf e]
   ·by_cases e:f=i
    ·subst e
     exact⟨v2.trans hT,by rw[v1];decide⟩
    ·rw[hoth f hf e];exact w.oth f hf hfl
end
section
variable {k X0 LC M bd E Zb l x:Nat}{g g':GH}{i f S:Nat}{X Y F L W:RN}{m:RM}{C:CS}{r A B D D':List RM}{rr rr':Nat->Nat}{dr t T0 U U':Int}{N0:Nat->RN}{bw own0 j h:Nat}{σ σ':Nat->Int}{d:Nat->Int}{p s:Nat}
theorem FA.mono(h:FA k l t σ C)(hs:∀f,f<k->σ f<=σ' f):FA k l t σ' C:=fun f h1 h2=>⟨(h f h1 h2).1,Int.le_trans (h f h1 h2).2 (hs f h1)⟩
theorem Qou{a b:Nat}(h:a<=b)(f:Nat):rem k b f<=rem k a f:=by
 unfold rem
 have:(a+k -1 -f)/k<=(b+k -1 -f)/k:=Nat.div_le_div_right (by omega)
 omega
theorem first_rest(hk:2<=k)(h7:k<=7)(b:Bas k (rem k 0) 421 400 g S C):∃p,1<=p/\p<=4*k/\(Qe7 k d C p).net= []/\cnt k d C p+1=p:=by
 have key:∀n,(∃p,1<=p/\p<=n/\(Qe7 k d C p).net= []/\cnt k d C p+1=p)\/cnt k d C n=n:=by
  intro n
  induction n with
  |zero=>exact .inr rfl
  |succ n ih=>
   rcases ih with⟨p,h1,h2,h3⟩|e
   ·exact .inl ⟨p,h1,by omega,h3⟩
   ·by_cases hn:(Qe7 k d C (n+1)).net= []
    ·refine .inl ⟨n+1,by omega,Nat.le_refl _,hn, ?_⟩
     show cnt k d C n+(if _ then 0 else 1)+1=_
     rw[if_pos hn];omega
    ·right
     show cnt k d C n+(if _ then 0 else 1)=_
     rw[if_neg hn];omega
 rcases key (4*k) with q|q
 ·exact q
 ·have:=seq_few (d:=d) hk h7 b (s:=4*k) (by omega)
  omega
inductive Calm(k:Nat)(d:Nat->Int)(C0:CS)(p s:Nat):Prop
 |young:(Qe7 k d C0 s).net= []->cnt k d C0 s+1=p->(∀l,l<k->(nd (Qe7 k d C0 s) l).role=3->(rem k p l:Int)<=rem k s l+(nd (Qe7 k d C0 s) l).since)->Calm k d C0 p s
 |we (l:Nat) (t:Int):WE k l t (Qe7 k d C0 s)->Calm k d C0 p s
 |none:(Qe7 k d C0 s).net= []->(∀f,f<k->(nd (Qe7 k d C0 s) f).role≠3)->Calm k d C0 p s
 |burst (q l:Nat) (t:Int) (own0 h:Nat) (g:GH) (S:Nat):p<=q->q<s->q%k=l->cnt k d C0 s+q+1=p+s->q<p+2*k->PMS k (rem k s) 421 400 l t own0 0 h g S (Qe7 k d C0 s)->own0<=401->h+rem k s l=rem k (q+1) l->FA k l t (fun f=>(rem k (q+1) f:Int) -rem k s f) (Qe7 k d C0 s)->(HA k l (Qe7 k d C0 s)\/(nd (Qe7 k d C0 s) l).quiet<=h)->Phi k 129 (2*((k -1)*129)+2*((k -1)*421)) (Qe7 k d C0 s)+(s -q)*20000<=512*129+401*((k -1)*129)+2*((k -1)*421)+6+(s -q -1)*((k -1)*129)->Calm k d C0 p s
theorem burst_short{n:Nat}(hk:2<=k)(h7:k<=7){P:Nat}(h:P+n*20000<=512*129+401*((k -1)*129)+2*((k -1)*421)+6+(n -1)*((k -1)*129)):n<=3*k -1:=by
 have:k=2\/k=3\/k=4\/k=5\/k=6\/k=7:=by omega
 rcases this with rfl|rfl|rfl|rfl|rfl|rfl<;>omega
theorem ticks2{q:Nat}(hk:2<=k)(h7:k<=7)(hq:q<s)(hs:s<6*k)(hn:s -q<=3*k -1):rem k (q+1) (s%k)<=rem k s (s%k)+2:=by
 unfold rem
 have:k=2\/k=3\/k=4\/k=5\/k=6\/k=7:=by omega
 rcases this with rfl|rfl|rfl|rfl|rfl|rfl<;>omega
theorem young2(hk:2<=k)(h7:k<=7)(hp:p<=s)(hs:s<6*k)(h:rem k p (s%k)<=rem k s (s%k)+1):s<p+2*k:=by
 unfold rem at h
 have:k=2\/k=3\/k=4\/k=5\/k=6\/k=7:=by omega
 rcases this with rfl|rfl|rfl|rfl|rfl|rfl<;>omega
theorem own_mem(b:Bas k rr bd E g S C)(hl:l<k)(hr:(nd C l).role=3):QcW (nd C l)<=E+1:=by
 have:=sumN_ge (F:=fun i=>if(nd C i).role=3 then QcW (nd C i) -1 else 0) hl
 rw[if_pos hr] at this
 have:=b.own
 unfold own1 at this
 omega
theorem calm_step(hk:2<=k)(h7:k<=7)(b0:Bas k (rem k 0) 421 400 g S C)(hp:1<=p)(hps:p<=s)(hs:s<6*k)(c:Calm k d C p s):Calm k d C p (s+1):=by
 obtain⟨V,_,hV⟩:=QlZ (d:=d) hk h7 b0
 obtain⟨g1,S1,_,b,o,_⟩:=hV s (by omega) (by omega)
 have hi:s%k<k:=Nat.mod_lt _ (by omega)
 obtain⟨r1,r2⟩:=Qlx hk h7 hs
 have hX:=b.c.nd hi
 have cn:=b.c.node _ _ hX
 have hseq:Qe7 k d C (s+1)=slot (Qe7 k d C s) (s%k) (d s):=rfl
 have hcnt:cnt k d C (s+1)=cnt k d C s+(if(Qe7 k d C (s+1)).net= [] then 0 else 1):=rfl
 generalize hCs:Qe7 k d C s=Cs at*
 generalize hi':s%k=i at*
 have hkeep:=Qb5 (dr:=d s) cn hk
 have hEst:∀{x:Nat} {t:Int},EstS k x t (slot Cs i (d s))->Calm k d C p (s+1):=fun e=> .we _ _ (by rw[hseq];exact e.we)
 cases c with
 |we l t w=>
  rw[hCs] at w
  obtain⟨g2,S2,a1,a2⟩:=slot_we (dr:=d s) b hk (by decide) w hi r1 r2
  rcases a2 with⟨t',e,_⟩|⟨_,e|⟨_,⟨e,_⟩|⟨e,e2,_⟩⟩⟩
  ·exact hEst e
  ·exact hEst e
  ·exact .we l t (by rw[hseq];exact e)
  ·exact .none (by rw[hseq];exact e) (by rw[hseq];exact e2)
 |none hn hnl=>
  rw[hCs] at hn hnl
  obtain⟨g2,S2,a1,a2⟩:=slot_nl (dr:=d s) b hk (by decide) hn hnl hi r1 r2
  rcases a2 with⟨t',e,_⟩|⟨e,_⟩
  ·exact hEst e
  ·exact .none (by rw[hseq];exact e.net) (by rw[hseq];exact e.nl)
 |burst q l t own0 h g' S' q1 q2 q3 q4 q5 p0 q6 q7 fa ha ph=>
  rw[hCs] at p0 fa ha ph
  have hn:=burst_short hk h7 ph
  have ht2:=ticks2 hk h7 q2 hs hn
  rw[hi'] at ht2
  obtain⟨g2,S2,a1,a2,a3,a4⟩:=slot_later (X0:=129) (dr:=d s) p0 hk (by decide) (by decide) hi r1 r2 (fun f=>by have:=Qou (k:=k) (a:=q+1) (b:=s) (by omega) f;omega) fa (by
   by_cases e:i=l
   ·subst e;omega
   ·have h3:=Qou (k:=k) (a:=q+1) (b:=s) (by omega) l
    have hlk:l<k:=by obtain⟨_,_,pm⟩:=p0.pm;exact pm.lk
    unfold rem at q7
    have:k=2\/k=3\/k=4\/k=5\/k=6\/k=7:=by omega
    rcases this with rfl|rfl|rfl|rfl|rfl|rfl<;>omega) ha (fun e=>by
   have e2:(nd Cs i).since<=(rem k (q+1) i:Int) -rem k s i:=(fa i hi e).2
   omega)
  have hh':h+(if i=l then 1 else 0)+rem k (s+1) l=rem k (q+1) l:=by
   by_cases e:i=l
   ·subst e;rw[if_pos rfl];omega
   ·rw[if_neg e]
    have hlk:l<k:=by obtain⟨_,_,pm⟩:=p0.pm;exact pm.lk
    have:=r2 l hlk (fun z=>e z.symm)
    omega
  rw[hseq] at hcnt
  by_cases hnet:(slot Cs i (d s)).net= []
  ·obtain⟨y,dk,pm⟩:=a1.pm
   have hh3:h+(if i=l then 1 else 0)<=3:=by
    have:=Qou (k:=k) (a:=q+1) (b:=s+1) (by omega) l
    unfold rem at hh'
    have:k=2\/k=3\/k=4\/k=5\/k=6\/k=7:=by omega
    rcases this with rfl|rfl|rfl|rfl|rfl|rfl<;>omega
   obtain⟨e1,e2⟩:=pm_end a1.b.c hk pm hnet (.inl ⟨rfl,q6,hh3⟩)
   exact .we l t (by rw[hseq];exact⟨pm.lk,hnet,pm.role,pm.term,fun f h1 h2=>⟨(e1 f h1 h2).term,by rw[(e1 f h1 h2).role];decide⟩,e2⟩)
  ·rw[if_neg hnet] at hcnt
   refine .burst q l t own0 _ g2 S2 q1 (by omega) q3 (by omega) q5 (by rw[hseq];exact a1) q6 hh' ?_ (by rw[hseq];exact a3) ?_
   ·rw[hseq]
    refine a2.mono fun f hf=> ?_
    by_cases e:f=i
    ·subst e
     show _+(if f=f then(1:Int) else 0)<=_
     rw[if_pos rfl];omega
    ·have:=r2 f hf e
     show _+(if f=i then(1:Int) else 0)<=_
     rw[if_neg e];omega
   ·rw[hseq]
    have:=a4.resolve_left hnet
    have e1:(s+1 -q)*20000=(s -q)*20000+20000:=by rw[show s+1 -q=(s -q)+1 by omega,Nat.succ_mul]
    have e2:(s+1 -q -1)*((k -1)*129)=(s -q -1)*((k -1)*129)+(k -1)*129:=by rw[show s+1 -q -1=(s -q -1)+1 by omega,Nat.succ_mul]
    omega
 |young hn hc hy=>
  rw[hCs] at hn hy
  rw[hseq] at hcnt
  have quietly:(Qah (nd Cs i) (d s)).out= []->((Qah (nd Cs i) (d s)).role=3->(Qah (nd Cs i) (d s)).since=(nd Cs i).since+1)->Calm k d C p (s+1):=fun ho hsn=>by
   obtain⟨g2,S2,a1,a2,a3,a4⟩:=QfL (dr:=d s) b hk hn hi r1 r2 ho
   rw[if_pos a2] at hcnt
   refine .young (by rw[hseq];exact a2) (by omega) fun l hl h3=> ?_
   rw[hseq] at h3⊢
   by_cases e:l=i
   ·subst e
    rw[a3] at h3⊢
    have e2:=hy l hl (hkeep.2.2.2.2.2.2 h3)
    show _<=_+(Qah (nd Cs l) (d s)).since
    rw[hsn h3]
    omega
   ·rw[a4 l e] at h3⊢
    have:=hy l hl h3
    have:=r2 l hl e
    omega
  cases Qa2 (dr:=d s) cn with
  |quiet q1 q2 q3 q4 q5 q6=>exact quietly q4 fun _=>q5
  |beat W q1 q2 a1 a2 a3 a4 a5 a6 a7 a8 a9=>
   by_cases hst:∃f,f<k/\f≠i/\(nd Cs i).term<(nd Cs f).term
   ·obtain⟨f0,hf0,hfi,hft⟩:=hst
    obtain⟨g2,S2,b1,b2,b3,b4⟩:=slot_stale (dr:=d s) b hk (by decide) hn hi r1 r2 q1 q2 a9 hf0 hfi hft
    rw[if_pos b2] at hcnt
    refine .young (by rw[hseq];exact b2) (by omega) fun l hl h3=> ?_
    rw[hseq] at h3⊢
    by_cases e:l=i
    ·subst e;exact absurd h3 b3
    ·have e2:=b4 l hl e h3
     rw[e2] at h3⊢
     have:=hy l hl h3
     have:=r2 l hl e
     omega
   ·have hlow:∀f,f<k->f≠i->(nd Cs f).term<=(nd Cs i).term:=fun f h1 h2=>Int.not_lt.1 fun z=>hst ⟨f,h1,h2,z⟩
    obtain⟨g2,S2,b1,b2,b3,b4⟩:=slot_burst (X0:=129) (dr:=d s) b hk (by decide) (by decide) hn hi r1 r2 q1 hlow q2 a9
    have hown:=own_mem b hi q1
    have hsn:=cn.xi.since q1
    have hy2:=hy i hi q1
    have hyoung:s<p+2*k:=young2 hk h7 hps hs (by rw[hi'];omega)
    by_cases hnet:(slot Cs i (d s)).net= []
    ·obtain⟨y,dk,pm⟩:=b1.pm
     obtain⟨e1,e2⟩:=pm_end b1.b.c hk pm hnet (.inl ⟨rfl,hown,by decide⟩)
     exact .we i _ (by rw[hseq];exact⟨pm.lk,hnet,pm.role,pm.term,fun f h1 h2=>⟨(e1 f h1 h2).term,by rw[(e1 f h1 h2).role];decide⟩,e2⟩)
    ·rw[if_neg hnet] at hcnt
     refine .burst s i _ (QcW (nd Cs i)) 0 g2 S2 hps (by omega) hi' (by omega) hyoung (by rw[hseq];exact b1) hown (by omega) ?_ (by rw[hseq];exact .inl b3) ?_
     ·rw[hseq]
      exact b2.mono fun f hf=>by show(0:Int)<=_;omega
     ·rw[hseq]
      have:=b4.resolve_left hnet
      have e1:QcW (nd Cs i)*((k -1)*129)<=401*((k -1)*129):=Nat.mul_le_mul_right _ hown
      rw[show s+1 -s=1 by omega]
      omega
  |down q1 q2 q3 q4=>exact quietly (by rw[q4];exact cn.out) fun h3=>by rw[q4] at h3;exact absurd h3 (by decide:¬(0:Int)=3)
  |wait q1 q2 q3=>exact quietly (by rw[q3];exact cn.out) fun _=>by rw[q3]
  |ask q1 q2 q3 q4=>
   obtain⟨g2,S2,a1,a2⟩:=Qop (dr:=d s) b hk (by decide) hn hi r1 r2 q4
   rcases a2 with⟨e1,_⟩|⟨e1,⟨bw,a⟩,_⟩
   ·exact hEst e1
   ·rw[if_pos e1] at hcnt
    refine .young (by rw[hseq];exact e1) (by omega) fun l hl h3=> ?_
    rw[hseq] at h3⊢
    by_cases e:l=i
    ·subst e
     rcases a.role with z|z|z<;>omega
    ·obtain⟨w1,w2,w3⟩:=a.lead hl e h3
     rw[w3]
     rw[Qak hX e] at w2⊢
     have:=hy l hl w2
     have:=r2 l hl e
     omega
theorem six_rounds(hk:2<=k)(h7:k<=7)(b0:Bas k (rem k 0) 421 400 g S C):∃g' S',Bas k (rem k (6*k)) 421 400 g' S' (Qe7 k d C (6*k))/\(Qe7 k d C (6*k)).net= []/\((∃l t,WE k l t (Qe7 k d C (6*k)))\/∀f,f<k->(nd (Qe7 k d C (6*k)) f).role≠3):=by
 obtain⟨p,p1,p2,p3,p4⟩:=first_rest (d:=d) hk h7 b0
 obtain⟨V,_,hV⟩:=QlZ (d:=d) hk h7 b0
 have key:∀n,p+n<=6*k->Calm k d C p (p+n):=by
  intro n
  induction n with
  |zero=>
   intro _
   obtain⟨g1,S1,_,b,o,_⟩:=hV p p1 (by omega)
   refine .young p3 p4 fun l hl h3=> ?_
   have:=(b.c.node l _ (b.c.nd hl)).bn.s.1
   show(rem k p l:Int)<=rem k p l+(nd (Qe7 k d C p) l).since
   omega
  |succ n ih=>
   intro hn
   exact calm_step (s:=p+n) hk h7 b0 p1 (by omega) (by omega) (ih (by omega))
 obtain⟨g1,S1,_,b,o,_⟩:=hV (6*k) (by omega) (Nat.le_refl _)
 have c:=key (6*k -p) (by omega)
 rw[show p+(6*k -p)=6*k by omega] at c
 refine⟨g1,S1,b, ?_⟩
 cases c with
 |we l t w=>exact⟨w.net,.inl ⟨l,t,w⟩⟩
 |none hn hnl=>exact⟨hn,.inr hnl⟩
 |burst q l t own0 h g' S' q1 q2 q3 q4 q5 p0 q6 q7 fa ha ph=>
  have:=seq_few (d:=d) hk h7 b0 (s:=6*k) (Nat.le_refl _)
  omega
 |young hn hc hy=>
  refine⟨hn,.inr fun f hf h3=> ?_⟩
  have h1:=hy f hf h3
  have h2:=(b.c.node f _ (b.c.nd hf)).xi.since h3
  have h4:2<=rem k p f:=by
   unfold rem
   have:k=2\/k=3\/k=4\/k=5\/k=6\/k=7:=by omega
   rcases this with rfl|rfl|rfl|rfl|rfl|rfl<;>omega
  have h5:rem k (6*k) f=0:=by
   unfold rem
   have:k=2\/k=3\/k=4\/k=5\/k=6\/k=7:=by omega
   rcases this with rfl|rfl|rfl|rfl|rfl|rfl<;>omega
  omega
end
section
variable {k X0 LC M bd E Zb l x:Nat}{g g':GH}{i f S:Nat}{X Y F L W:RN}{m:RM}{C:CS}{r A B D D':List RM}{rr rr':Nat->Nat}{dr t T0 U U' v:Int}{N0:Nat->RN}{bw own0 j h y:Nat}{σ σ':Nat->Int}{dk:Nat->Nat}{data:ByteArray}
theorem QlA(I:GI k g)(c:CN k g S l X)(hk:2<=k)(hr:X.role=3)(hl:X.log.length<1024)(hd:data.size<=512):
  ∃Z W:RN,Qam X data=(Z,(X.log.length:Int)+1,0)/\Z.role=3/\Z.term=X.term/\Z.log=X.log++ [⟨X.term,data⟩]/\Z.commit=X.commit/\Z.next=X.next/\Z.matc=X.matc/\Z.since=0/\Z.heard=X.heard/\Z.id=X.id/\
   W.id=X.id/\W.term=X.term/\W.next=X.next/\W.log=Z.log/\W.commit=X.commit/\Z.out=(Qax W k).map (Qbk W):=by
 have hter:¬X.term<Qa9 X.log:=by
  have:=Qce c.ni.d.ter c.ni.d.t0
  omega
 have Ld:=c.ni.lead hr
 have hn:=c.ni.n
 have e:Qc7 X data=(Qaf (Qa4 (QaN {X with log:=X.log++ [⟨X.term,data⟩]} ((X.log.length:Int)+1))),0):=by
  unfold Qc7
  rw[if_neg hter,if_neg (by omega)]
 have hag:Qba (Qa4 (QaN {X with log:=X.log++ [⟨X.term,data⟩]} ((X.log.length:Int)+1))) (X.log.length+1)=none:=by
  generalize hV:Qa4 (QaN {X with log:=X.log++ [⟨X.term,data⟩]} ((X.log.length:Int)+1))=V
  have v1:V.id=(l:Int):=by rw[<-hV];exact c.ni.id
  have v2:V.n=X.n:=by rw[<-hV];rfl
  have v3:V.matc=X.matc:=by rw[<-hV];rfl
  have v4:V.commit=X.commit:=by rw[<-hV];rfl
  have hcnt:Qj1 V ((X.log.length+1:Nat):Int)<=Qj1 {X with matc:=fun t=>if t=l then 0 else X.matc t} ((X.log.length+1:Nat):Int):=by
   unfold Qj1
   rw[v2]
   refine Nat.le_of_eq (congrArg List.length (List.filter_congr fun t _=> ?_))
   rw[v1,v3]
   show decide ((t:Int)=(l:Int)\/X.matc t>=_)=decide ((t:Int)=X.id\/(if t=l then 0 else X.matc t)>=_)
   rw[c.ni.id]
   by_cases e:t=l
   ·subst e;simp
   ·rw[if_neg e]
  have h1:Qj1 {X with matc:=fun t=>if t=l then 0 else X.matc t} ((X.log.length+1:Nat):Int)<=1:=cnt_self (X:={X with matc:=fun t=>if t=l then 0 else X.matc t}) (i:=l) c.ni.id fun t ht=>by
   show(if t=l then 0 else X.matc t)<_
   split
   ·omega
   ·rename_i ne
    have ht:(t:Int)<X.n:=ht
    have h2:=(Ld.mt t (by omega) ne).2
    have h3:=c.xi
    have:=c.ni.d
    have hle:g.ack t X.term<=X.log.length:=by
     have:=I.A t X.term
     rw[Ld.ll] at this
     exact this
    omega
  unfold Qba
  split
  ·rfl
  split
  ·rfl
  ·rw[if_neg (by omega)]
   have h9:∀j,j<=X.log.length->Qba V j=Qba X j:=fun j=>by
    induction j with
    |zero=>exact fun _=>rfl
    |succ j ih=>
     intro hj
     have h1:(QaH V.log ((j+1:Nat):Int)).1=(QaH X.log ((j+1:Nat):Int)).1:=by
      rw[<-hV]
      exact congrArg Prod.fst (QhU (p:=X.log) (List.prefix_append _ _) (by omega) (by omega))
     have h2:Qj1 V ((j+1:Nat):Int)=Qj1 X ((j+1:Nat):Int):=by unfold Qj1;rw[v1,v2,v3,<-c.ni.id]
     have h3:V.term=X.term:=by rw[<-hV];rfl
     unfold Qba
     rw[v4,v2,h1,h2,h3,ih (by omega)]
   rw[h9 _ (Nat.le_refl _)]
   exact c.xi.ag hr
 have hA:Qaf (Qa4 (QaN {X with log:=X.log++ [⟨X.term,data⟩]} ((X.log.length:Int)+1)))=Qa4 (QaN {X with log:=X.log++ [⟨X.term,data⟩]} ((X.log.length:Int)+1)):=by
  unfold Qaf
  rw[show(Qa4 (QaN {X with log:=X.log++ [⟨X.term,data⟩]} ((X.log.length:Int)+1))).log.length=X.log.length+1 from by show(X.log++ [_]).length=_;rw[List.length_append];rfl,hag]
 rw[hA] at e
 refine⟨Qa4 (QaN {X with log:=X.log++ [⟨X.term,data⟩]} ((X.log.length:Int)+1)),QaN {X with log:=X.log++ [⟨X.term,data⟩]} ((X.log.length:Int)+1), ?_,hr,rfl,rfl,rfl,rfl,rfl,rfl,rfl,rfl,rfl,rfl,rfl,rfl,rfl, ?_⟩
 ·unfold Qam
  rw[if_neg (fun z=>z hr),if_neg (by omega),e]
  rw[if_neg (fun z=>z rfl)]
  refine Prod.ext rfl (Prod.ext ?_ rfl)
  show(((X.log++ [_]).length:Nat):Int)=_
  rw[List.length_append];rfl
 ·show X.out++(Qax _ X.n.toNat).map _=_
  rw[c.out,List.nil_append,hn,Int.toNat_natCast]
theorem cPro_eq(hX:C.x[l]? =some X):Qe9 C l data=Qg8 C l (Qam X data).1 C.net:=by
 unfold Qe9
 simp only[hX]
theorem pro_pm(h:CInv k g S C)(hk:2<=k)(w:WE k l t C)(hM:∀i,i<k->(nd C i).log.length<=M)(hM2:M<1000)(hd:data.size<=100):
  ∃g',Bas k (fun _=>0) (M+9) (own1 k (Qe9 C l data)) g' (S+1) (Qe9 C l data)/\Ord k g' (Qe9 C l data)/\PM k l t 1 0 (Qe9 C l data) 1 0 (fun _=>0)/\HE k l t (Qe9 C l data)/\(∀f,f<k->f≠l->∃m∈(Qe9 C l data).net,m.kind=5/\m.to=(f:Int))/\(Qe9 C l data).net.length<=k -1/\
   (nd (Qe9 C l data) l).log=(nd C l).log++ [⟨t,data⟩]/\(Qam (nd C l) data).2=(((nd C l).log.length:Int)+1,0)/\(∀ls,LT k ls C->LT k ls (Qe9 C l data))/\∀f,f≠l->nd (Qe9 C l data) f=nd C f:=by
 have hl:=w.lk
 have hX:=h.nd hl
 have c:=h.node l _ hX
 have h7:=h.k7
 have hlX:=hM l hl
 obtain⟨Z,W,z0,z1,z2,z3,z4,z5,z6,z7,z8,z9,w1,w2,w3,w4,w5,w6⟩:=QlA (data:=data) h.gi c hk w.role (by omega) (by omega)
 obtain⟨g',G,h'⟩:=h.pro l data hd
 have hY:(Qam (nd C l) data).1=Z:=by rw[z0]
 have heq:=cPro_eq (data:=data) hX
 rw[hY] at heq
 have hself:nd (Qe9 C l data) l=Qae Z:=by rw[heq];exact Qhk (by rw[h.len];exact hl)
 have hoth:∀f,f≠l->nd (Qe9 C l data) f=nd C f:=fun f hf=>by rw[heq];exact Qc2 hf
 have hwl:=Qbt (X:=W) (k:=k) (i:=l) (w1.trans c.ni.id) hl
 have hnet:(Qe9 C l data).net=(Qax W k).map (Qbk W):=by
  rw[heq]
  show(C.net++Z.out).take 512=_
  rw[w.net,List.nil_append,w6]
  refine List.take_of_length_le ?_
  rw[List.length_map]
  omega
 have hlen:(Qe9 C l data).net.length=k -1:=by rw[hnet,List.length_map];omega
 have htn:∀f,f<k->f≠l->tn (Qe9 C l data).net l f t=1:=fun f hf hfl=>by
  rw[hnet]
  exact Qi0 (w1.trans c.ni.id) (w2.trans w.term) hf hfl
 have hmsg:∀f,f<k->f≠l->∃m∈(Qe9 C l data).net,m.kind=5/\m.to=(f:Int):=fun f hf hfl=>by
  rw[hnet]
  refine⟨Qbk W f,List.mem_map.2 ⟨f, ?_,rfl⟩,rfl,rfl⟩
  unfold Qax
  refine List.mem_filter.2 ⟨List.mem_range.2 hf,decide_eq_true ?_⟩
  rw[w1,c.ni.id]
  omega
 have hnx:∀f,f<k->f≠l->1<=(nd C l).next f/\(nd C l).next f<=(nd C l).log.length+1:=fun f h1 h2=>(c.ni.lead w.role).nx f h1 h2
 have hents:∀o∈(Qe9 C l data).net,o.kind=5/\o.from_=(l:Int)/\o.term=t/\o.ents.length=min 8 (W.log.length -o.index.toNat)/\o.index.toNat<=(nd C l).log.length:=fun o ho=>by
  rw[hnet] at ho
  obtain⟨z,hz,rfl⟩:=List.mem_map.1 ho
  obtain⟨b1,b2⟩:=Qcl hz
  have:=hnx z b1 (by have:=c.ni.id;omega)
  refine⟨rfl,w1.trans c.ni.id,w2.trans w.term,QeJ (by rw[w3];exact this.1), ?_⟩
  show(W.next z -1).toNat<=_
  rw[w3];omega
 have hWl:W.log.length=(nd C l).log.length+1:=by rw[w4,z3,List.length_append];rfl
 have hter:(nd C l).log.drop (nd C l).commit.toNat= []:=by rw[w.commit,Int.toNat_natCast,List.drop_length]
 refine⟨g',⟨h',Nat.le_refl _,M+1,⟨fun j hj=> ?_,fun o ho _=> ?_⟩, ?_⟩,⟨fun j L' hL' hr m' hm' h5 hf ht=> ?_,fun j f hj hf hfj hr hle=> ?_,fun cn hcn hr hll=> ?_⟩,⟨hl,by rw[hself];exact z1,by rw[hself];exact z2.trans w.term,fun x hx=> ?_,fun f hf hfl=> ?_,fun f hf hfl=> .inr (hmsg f hf hfl),fun f hf hfl _=>by rw[htn f hf hfl];omega,Nat.le_refl _,.inl ⟨by rw[hlen];omega,fun _=>rfl⟩, ?_⟩,fun f hf hfl=> .inr (by rw[htn f hf hfl];exact Nat.le_refl _),hmsg,by rw[hlen];exact Nat.le_refl _,by rw[hself];show Z.log=_;rw[z3,w.term],by rw[z0],fun ls hls f hf h3=> ?_,hoth⟩
 ·by_cases e:j=l
  ·subst e
   rw[hself]
   show Z.log.length<=_
   rw[z3,List.length_append]
   show(nd C j).log.length+1<=_
   omega
  ·rw[hoth j e]
   have:=hM j hj
   omega
 ·obtain⟨_,_,_,e1,e2⟩:=hents o ho
  omega
 ·have:lb k (fun _=>0) (Qe9 C l data)<=k*1:=Qcj fun f _=>by
   have:Qb8 0 (nd (Qe9 C l data) f).since=0:=by unfold Qb8;omega
   show(if(nd (Qe9 C l data) f).role=1\/(nd (Qe9 C l data) f).role=2 then 1 else 0)+Qb8 0 (nd (Qe9 C l data) f).since<=1
   rw[this]
   split<;>omega
  omega
 ·have hnd:=Qcc hL'
  obtain⟨e0,e1,e2,e3,e4⟩:=hents m' hm'
  have hjl:j=l:=by omega
  subst hjl
  rw[hself] at hnd
  rw[<-hnd,e3]
  show _=min 8 (Z.log.length -_)
  rw[w4]
 ·by_cases e:j=l
  ·subst e
   rw[hself]
   show POK (Z.matc f).toNat (Z.next f).toNat (items _ j f Z.term)
   rw[z5,z6,z2]
   have hx:=c.xi.nx w.role f hf hfj
   have hm0:=c.m0.1 f
   have old:POK ((nd C j).matc f).toNat ((nd C j).next f).toNat []:=by
    unfold POK
    split
    ·exact⟨trivial,fun a ha=>(by cases ha),fun a ha=>(by cases ha)⟩
    ·exact⟨by omega,fun a ha=>(by cases ha)⟩
   have new:=old.sends (l:=items (Qe9 C j data).net j f (nd C j).term) fun x hx=>by
    rw[hnet] at hx
    exact Qdi (nx:=0) (k:=k) (Y:=nd C j) (i:=j) (f0:=f) (T:=(nd C j).term) (fun o ho=>QfK (k:=k) (i:=j) (Y:=nd C j) (W:=W) (w1.trans c.ni.id) w2 w3 o ho) x hx
   rwa[List.nil_append] at new
  ·rw[hoth j e] at hr
   exact absurd hr (w.oth j hj e).2
 ·have e:cn≠l:=fun e=>by
   subst e
   rw[hself] at hr
   have hr:Z.role=2:=hr
   omega
  refine⟨fun xs m ys e h3=> ?_,fun xs m ys e h4=> ?_⟩
  ·have:=hents m (by rw[e];simp)
   omega
  ·have:=hents m (by rw[e];simp)
   omega
 ·obtain⟨e1,e2,e3,_⟩:=hents x hx
  exact .app e1 e2 e3
 ·rw[hoth f hfl,(w.oth f hf hfl).1];exact Int.le_refl _
 ·have hz:Qck k (fun _=>0)=0:=QbU fun _ _=>rfl
  have:QcW (Qae Z)<=1:=by
   unfold QcW
   refine Nat.le_trans (List.length_filter_le _ _) ?_
   show(Z.log.drop Z.commit.toNat).length<=1
   rw[z3,z4,w.commit,Int.toNat_natCast,List.drop_left]
   exact Nat.le_refl _
  rw[hself,hz]
  omega
 ·by_cases e:f=l
  ·subst e
   rw[hself]
   show Z.term∈ls
   rw[z2]
   exact hls f hf w.role
  ·rw[hoth f e] at h3⊢
   exact hls f hf h3
theorem QnT(X:RN)(m:RM):(QaC X m).log=X.log/\∀f,X.matc f<=(QaC X m).matc f:=by
 have ag:∀Z:RN,(Qaf Z).log=Z.log/\(Qaf Z).matc=Z.matc:=fun Z=>by unfold Qaf;split<;>exact⟨rfl,rfl⟩
 unfold QaC
 split
 ·exact⟨rfl,fun f=>Int.le_refl _⟩
 split
 ·obtain⟨a1,a2⟩:=ag (Qau X m.from_.toNat m.index)
  have key:∀f,X.matc f<=(Qaf (Qau X m.from_.toNat m.index)).matc f:=fun f=>by
   rw[a2]
   show X.matc f<=if f=m.from_.toNat then mx (X.matc m.from_.toNat) m.index else X.matc f
   split
   ·rename_i e
    subst e
    unfold mx
    split<;>omega
   ·exact Int.le_refl _
  split
  ·exact⟨a1,key⟩
  ·exact⟨a1,key⟩
 split<;>exact⟨rfl,fun f=>Int.le_refl _⟩
theorem pm_log(d:Dl k g S C m r X)(pm:PM k l t own0 j C y h dk):(nd (QaX C) l).log=(nd C l).log/\∀f,(nd C l).matc f<=(nd (QaX C) l).matc f:=by
 have hmm:m∈C.net:=by rw[d.n];exact List.mem_cons_self ..
 rcases QiD d pm with⟨_,hne,_⟩|⟨h5,hl⟩
 ·rw[d.other (fun e=>hne e.symm)]
  exact⟨rfl,fun f=>Int.le_refl _⟩
 ·have hX:X=nd C l:=by rw[<-d.old,hl]
  have hself:nd (QaX C) l=Qae (Qaa X m):=by rw[<-hl];exact d.self
  have h3:X.role=3:=by rw[hX];exact pm.role
  have hXt:X.term=t:=by rw[hX];exact pm.term
  rw[hself,<-hX]
  show(Qaa X m).log=X.log/\∀f,X.matc f<=(Qaa X m).matc f
  rcases pm.net m hmm with⟨k5,_,_⟩|⟨h6,htl,ht,hidx⟩|⟨h4,htl,ht⟩
  ·exact absurd k5 h5
  ·rw[st6 d.cb h6 (X:=X) (by omega),Qbu (by omega)]
   exact QnT X m
  ·have hY:Qaa X m=X:=by
    by_cases hlt:m.term<X.term
    ·rw[Qi4 d.cb (by omega) hlt,if_neg (by omega)]
    ·rw[st4 d.cb h4 (by omega),Qbu (by omega)]
     unfold Qar
     rw[if_pos (.inr (by omega))]
   rw[hY]
   exact⟨rfl,fun f=>Int.le_refl _⟩
def CMs(k l:Nat)(v:Int)(C:CS):Prop:=∀f,f<k->f≠l->v<=(nd C f).commit\/∃m∈C.net,m.kind=5/\m.to=(f:Int)/\m.index=v/\v<=m.commit
theorem cm_del(d:Dl k g S C m r X)(pm:PM k l t own0 j C y h dk)(fol:∀f,f<k->f≠l->(nd C f).term=t)(hv0:0<=v)(hv:∀f,f<k->f≠l->v<=(nd C l).matc f)(cm:CMs k l v C):CMs k l v (QaX C):=by
 have hinv:=d.h
 have c:=d.c
 have hto:=d.to
 have hmm:m∈C.net:=by rw[d.n];exact List.mem_cons_self ..
 have old:∀f:Nat,m.to≠(f:Int)->(v<=(nd C f).commit\/∃m∈C.net,m.kind=5/\m.to=(f:Int)/\m.index=v/\v<=m.commit)->nd (QaX C) f=nd C f->v<=(nd (QaX C) f).commit\/∃m∈(QaX C).net,m.kind=5/\m.to=(f:Int)/\m.index=v/\v<=m.commit:=fun f hf z e=>by
  rw[e]
  refine z.imp id fun⟨m',q1,q2,q3,q4⟩=>⟨m', ?_,q2,q3,q4⟩
  rw[d.net]
  rw[d.n] at q1
  rcases List.mem_cons.1 q1 with z|z
  ·subst z;exact absurd q3 hf
  ·exact List.mem_append_left _ z
 intro f hf hfl
 rcases QiD d pm with⟨h5,hne,ht,hfrl,_⟩|⟨h5,hl⟩
 ·by_cases e:f=m.to.toNat
  ·subst e
   have hXt:X.term=t:=by rw[<-d.old];exact fol _ hf hfl
   have hr:X.role≠3:=fun hr3=>hne (hinv.one d.x (hinv.nd pm.lk) hr3 pm.role (by rw[pm.term];omega))
   have hY:=st5 d.cb h5 (X:=X) (by omega)
   rw[Qbu (by omega)] at hY
   rw[d.self]
   show v<=(Qaa X m).commit\/_
   have hcase:=cm _ hf hfl
   rw[d.old] at hcase
   have hrest:∀m'∈C.net,m'≠m->m'∈(QaX C).net:=fun m' q1 q2=>by
    rw[d.net]
    rw[d.n] at q1
    exact List.mem_append_left _ ((List.mem_cons.1 q1).resolve_left q2)
   have h0:(Qag X m).commit=X.commit:=by rw[Qaz]
   rw[hY]
   rcases Qbd X m hr with⟨e1,e2⟩|⟨e1,e3,e2⟩|⟨e1,e3,e2⟩
   ·have hc:(QaV X m).commit=X.commit:=by rw[e2];exact h0
    rw[hc]
    rcases hcase with z|⟨m',q1,q2,q3,q4,q5⟩
    ·exact .inl z
    ·by_cases em:m'=m
     ·subst em;left;omega
     ·exact .inr ⟨m',hrest m' q1 em,q2,q3,q4,q5⟩
   ·have hc:(QaV X m).commit=X.commit:=by rw[e2];exact h0
    rw[hc]
    rcases hcase with z|⟨m',q1,q2,q3,q4,q5⟩
    ·exact .inl z
    ·by_cases em:m'=m
     ·subst em
      exfalso
      have Ld:=(hinv.node l _ (hinv.nd pm.lk)).ni.lead pm.role
      have hll:g.ll m'.term=(nd C l).log:=by rw[ht,<-pm.term];exact Ld.ll
      have hb:=(hinv.node l _ (hinv.nd pm.lk)).bn.l
      refine e3 (put_ok hinv.gi d.w.1 h5 (by rw[hll];exact hb) ?_)
      have hack:=(Ld.mt _ hf hfl).2
      rw[pm.term] at hack
      have hm:=hv _ hf hfl
      have hcur:=c.ni.d.cur
      rw[hXt] at hcur
      rw[ht]
      refine List.IsPrefix.trans ?_ hcur
      exact List.take_prefix_take_left (by omega)
     ·exact .inr ⟨m',hrest m' q1 em,q2,q3,q4,q5⟩
   ·have hc:(QaV X m).commit=mx X.commit (mn m.commit (m.index+m.ents.length)):=by rw[e2];rfl
    rw[hc]
    rcases hcase with z|⟨m',q1,q2,q3,q4,q5⟩
    ·left;unfold mx;split<;>omega
    ·by_cases em:m'=m
     ·subst em
      left
      unfold mx mn
      repeat' split
      all_goals omega
     ·exact .inr ⟨m',hrest m' q1 em,q2,q3,q4,q5⟩
  ·exact old f (by omega) (cm f hf hfl) (d.other e)
 ·exact old f (by omega) (cm f hf hfl) (d.other (by omega))
theorem Qkd(hk:2<=k)(hZ:Zb<1024)(hs:∀f,0<=σ f)(hv0:0<=v):∀(n:Nat){g:GH}{S:Nat}{C:CS},PMS k rr Zb E l t own0 j h g S C->(nd (Qbq n C) l).log=(nd C l).log/\(FA k l t σ C->(∀f,f<k->f≠l->v<=(nd C l).matc f)->CMs k l v C->CMs k l v (Qbq n C))
 |0,g,S,C,p=>⟨rfl,fun _ _ x=>x⟩
 |n+1,g,S,C,p=>by
  by_cases hn:C.net= []
  ·rw[QbX hn];exact⟨rfl,fun _ _ x=>x⟩
  ·rw[Qa1 hn]
   obtain⟨g1,m,r,X,d,p1⟩:=p.del hk hZ hn
   obtain⟨y,dk,pm⟩:=p.pm
   obtain⟨b1,b2⟩:=Qkd hk hZ hs hv0 n p1
   obtain⟨a1,a2⟩:=pm_log d pm
   exact⟨b1.trans a1,fun fa hv cm=>b2 (fa_del d pm hs fa) (fun f h1 h2=>Int.le_trans (hv f h1 h2) (a2 f)) (cm_del d pm (fun f h1 h2=>(fa f h1 h2).1.term) hv0 hv cm)⟩
end
section
variable {k X0 LC M bd E Zb l x:Nat}{g g':GH}{i f S:Nat}{X Y F L W:RN}{m:RM}{C:CS}{r A B D D':List RM}{rr rr':Nat->Nat}{dr t T0 U U' v:Int}{N0:Nat->RN}{bw own0 j h y:Nat}{σ σ':Nat->Int}{dk:Nat->Nat}{data:ByteArray}{d:Nat->Int}
theorem slot_pro(h:CInv k g S C)(hk:2<=k)(w:WE k l t C)(hM:∀i,i<k->(nd C i).log.length<=M)(hM2:M<=451)(hd:data.size<=100):
  ∃g' S',CInv k g' S' (Qbq 20000 (Qe9 C l data))/\EstS k l t (Qbq 20000 (Qe9 C l data))/\(∀i,i<k->(nd (Qbq 20000 (Qe9 C l data)) i).log.length<=M+9)/\(nd (Qbq 20000 (Qe9 C l data)) l).log.length=(nd C l).log.length+1/\(∀ls,LT k ls C->Al (LT k ls) (Qe9 C l data))/\(Qam (nd C l) data).2=(((nd C l).log.length:Int)+1,0):=by
 obtain⟨g',b,o,pm,he,hm,hlen,e1,e2,e3,e4⟩:=pro_pm h hk w hM (by omega) hd
 have h7:=h.k7
 have p:PMS k (fun _=>0) (M+9) (own1 k (Qe9 C l data)) l t 1 0 0 g' (S+1) (Qe9 C l data):=⟨b,o,1,_,pm⟩
 obtain⟨g2,S2,a1,a2⟩:=Qi6 (n:=20000) hk (by omega) p (Nat.le_refl _) (Nat.zero_le _) he hm (by omega)
 refine⟨g2,S2,a1.c,a2,fun i hi=>a1.lt (by omega) hi, ?_,fun ls hls n=>pm_lt hk (by omega) n p (e3 ls hls),e2⟩
 rw[(Qkd (σ:=fun _=>0) (v:=0) hk (by omega) (fun _=>Int.le_refl _) (Int.le_refl _) 20000 p).1,e1,List.length_append]
 rfl
structure STD(k l:Nat)(t:Int)(i:Nat)(C:CS):Prop where
 lk:l<k
 net:C.net= []
 role:(nd C l).role=3
 term:(nd C l).term=t
 commit:(nd C l).commit=(nd C l).log.length
 fin:∀f,f<k->f≠l->((nd C l).log.length:Int)<=(nd C l).matc f
 fol:∀f,f<k->f≠l->Fol t l (nd C f)
 fs:∀f,f<k->f≠l->(nd C f).since<=(nd C l).since+(if i<=l then 1+(if f<i then 1 else 0) else(if f<l\/f<i then 1 else 0))
 ha:HA k l C\/((nd C l).quiet=0/\(nd C l).since=1)
theorem EstS.st(h:CInv k g S C)(e:EstS k l t C)(i:Nat):STD k l t i C:=by
 have hs:=(h.node l _ (h.nd e.lk)).bn.s.1
 refine⟨e.lk,e.net,e.role,e.term,e.commit,e.fin,fun f h1 h2=>(e.fa f h1 h2).1,fun f h1 h2=> ?_,.inl e.heard⟩
 have:(nd C f).since<=0:=(e.fa f h1 h2).2
 repeat' split
 all_goals omega
theorem STD.we(s:STD k l t i C):WE k l t C:=⟨s.lk,s.net,s.role,s.term,fun f h1 h2=>⟨(s.fol f h1 h2).term,by rw[(s.fol f h1 h2).role];decide⟩,s.commit⟩
theorem mk_bas(h:CInv k g S C)(hn:C.net= [])(hM:∀i,i<k->(nd C i).log.length<=M)(i:Nat):Bas k (fun f=>if f=i then 1 else 0) (M+14) (own1 k C) g S C:=by
 have h7:=h.k7
 refine⟨h,Nat.le_refl _,M,⟨hM,fun o ho=>by rw[hn] at ho;cases ho⟩, ?_⟩
 have:lb k (fun f=>if f=i then 1 else 0) C<=k*2:=Qcj fun f _=>by
  have:Qb8 (if f=i then 1 else 0) (nd C f).since<=1:=by
   unfold Qb8
   split<;>omega
  show(if(nd C f).role=1\/(nd C f).role=2 then 1 else 0)+Qb8 (if f=i then 1 else 0) (nd C f).since<=2
  split<;>omega
 omega
theorem STD.bas(h:CInv k g S C)(s:STD k l t i C)(hM:∀i,i<k->(nd C i).log.length<=M)(hi:i<k):Bas k (fun f=>if f=i then 1 else 0) M (own1 k C) g S C:=by
 refine⟨h,Nat.le_refl _,M,⟨hM,fun o ho=>by rw[s.net] at ho;cases ho⟩, ?_⟩
 have hl:=(h.node l _ (h.nd s.lk)).xi.since s.role
 have:lb k (fun f=>if f=i then 1 else 0) C=0:=QbU fun f hf=>by
  show(if(nd C f).role=1\/(nd C f).role=2 then 1 else 0)+Qb8 (if f=i then 1 else 0) (nd C f).since=0
  have hr:¬((nd C f).role=1\/(nd C f).role=2):=by
   by_cases e:f=l
   ·subst e;have:=s.role;omega
   ·have:=(s.fol f hf e).role;omega
  have hs:f=i->(nd C f).since<=2:=fun e=>by
   by_cases e':f=l
   ·subst e';omega
   ·have:=s.fs f hf e'
    subst e
    repeat' split at this
    all_goals omega
  rw[if_neg hr]
  unfold Qb8
  by_cases e:f=i
  ·rw[if_pos e]
   have:=hs e
   omega
  ·rw[if_neg e]
   omega
 omega
theorem slot_st(h:CInv k g S C)(hk:2<=k)(s:STD k l t i C)(hM:∀i,i<k->(nd C i).log.length<=M)(hM2:M<=460)(hi:i<k):
  ∃g' S',CInv k g' S' (slot C i dr)/\STD k l t (i+1) (slot C i dr)/\(∀i',i'<k->(nd (slot C i dr) i').log.length<=M)/\(nd (slot C i dr) l).log=(nd C l).log/\(∀v:Int,(∀f,f<k->v<=(nd C f).commit)->∀f,f<k->v<=(nd (slot C i dr) f).commit)/\(∀ls,LT k ls C->Al (LT k ls) (Qal C i dr))/\
   (i=l->(nd (slot C i dr) l).since=(nd C l).since+1\/∀f,f<k->((nd C l).log.length:Int)<=(nd (slot C i dr) f).commit)/\(i≠l->(nd (slot C i dr) l).since=(nd C l).since):=by
 have b:=s.bas h hM hi
 have r1:(fun f=>if f=i then 1 else 0) i=(fun _=>0) i+1:=by show(if i=i then 1 else 0)=1;rw[if_pos rfl]
 have r2:∀j,j<k->j≠i->(fun _:Nat=>0) j=(fun f=>if f=i then 1 else 0) j:=fun j _ hj=>by show 0=if j=i then 1 else 0;rw[if_neg hj]
 have hX:=h.nd hi
 have c:=h.node i _ hX
 have hn:=s.net
 have hkeep:=Qb5 (dr:=dr) c hk
 have hself:=Qaw (dr:=dr) h hX
 have hsl:=(h.node l _ (h.nd s.lk)).xi.since s.role
 have hs0:=(h.node l _ (h.nd s.lk)).bn.s.1
 have hlt:LT k [] C->True:=fun _=>trivial
 have altick:(Qah (nd C i) dr).out= []->((Qah (nd C i) dr).role=3->(nd C i).role=3)->∀ls,LT k ls C->Al (LT k ls) (Qal C i dr):=fun ho hr ls hls=>by
  have hnet:(Qal C i dr).net= []:=by rw[Qbn h hX,hn,ho,List.take_nil];rfl
  refine al_net hnet fun f hf h3=> ?_
  by_cases e:f=i
  ·subst e
   rw[hself] at h3⊢
   show(Qah (nd C f) dr).term∈ls
   rw[hkeep.1]
   exact hls f hf (hr h3)
  ·rw[Qak hX e] at h3⊢
   exact hls f hf h3
 by_cases hil:i=l
 ·subst hil
  have hquiet:(nd C i).quiet+1>=4->QaF (nd C i) ((nd C i).heard|||2^(nd C i).id.toNat):=fun hq=>by
   rcases s.ha with z|z
   ·refine Qmi c (Nat.or_lt_two_pow (n:=7) c.bn.h ?_) fun f hf=> ?_
    ·have h7:=h.k7
     have hid:=c.ni.id
     exact Nat.pow_lt_pow_right (by decide) (by omega)
    ·rw[Nat.testBit_or,Bool.or_eq_true]
     by_cases e:f=i
     ·right
      rw[Nat.testBit_two_pow,decide_eq_true_iff]
      have hid:=c.ni.id
      omega
     ·exact .inl (z f hf e)
   ·omega
  cases Qa2 (dr:=dr) c with
  |quiet q1 q2 q3 q4 q5 q6 q7=>
   obtain⟨g1,S1,a1,a2,a3,a4⟩:=QfL (dr:=dr) b hk hn hi r1 r2 q4
   refine⟨g1,S1,a1.c,⟨hi,a2,by rw[a3];exact q2,by rw[a3];exact hkeep.1.trans s.term, ?_,fun f h1 h2=> ?_,fun f h1 h2=> ?_,fun f h1 h2=> ?_, ?_⟩,fun f hf=> ?_,by rw[a3];exact hkeep.2.1,fun v hv f hf=> ?_,altick q4 (fun _=>q1),fun _=> .inl (by rw[a3];exact q5),fun e=>absurd rfl e⟩
   ·rw[a3]
    show(Qah (nd C i) dr).commit=(Qah (nd C i) dr).log.length
    rw[hkeep.2.2.1,hkeep.2.1];exact s.commit
   ·rw[a3]
    show((Qah (nd C i) dr).log.length:Int)<=(Qah (nd C i) dr).matc f
    rw[hkeep.2.2.2.2.1,hkeep.2.1];exact s.fin f h1 h2
   ·rw[a4 f h2];exact s.fol f h1 h2
   ·rw[a4 f h2,a3]
    show _<=(Qah (nd C i) dr).since+_
    rw[q5]
    have:=s.fs f h1 h2
    rw[if_pos (Nat.le_refl _)] at this
    rw[if_neg (by omega)]
    by_cases e:f<i
    ·rw[if_pos e] at this
     rw[if_pos (.inl e)];omega
    ·rw[if_neg e] at this
     rw[if_neg (by omega)];omega
   ·rw[a3]
    have e2:(nd (slot C i dr) i).heard=(Qah (nd C i) dr).heard:=by rw[a3];rfl
    unfold HA
    rw[e2]
    show _\/((Qah (nd C i) dr).quiet=0/\(Qah (nd C i) dr).since=1)
    rw[q5]
    rcases q7 with⟨z1,z2,z3⟩|⟨z1,z2⟩
    ·rcases s.ha with z|z
     ·left;rw[z3];exact z
     ·omega
    ·right;exact⟨z1,by omega⟩
   ·by_cases e:f=i
    ·subst e;rw[a3];show(Qah (nd C f) dr).log.length<=M;rw[hkeep.2.1];exact hM f hf
    ·rw[a4 f e];exact hM f hf
   ·by_cases e:f=i
    ·subst e;rw[a3];show v<=(Qah (nd C f) dr).commit;rw[hkeep.2.2.1];exact hv f hf
    ·rw[a4 f e];exact hv f hf
  |down q1 q2 q3 q4=>exact absurd (hquiet q2) q3
  |wait q1=>exact absurd s.role q1
  |ask q1=>exact absurd s.role q1
  |beat W q1 q2 a1 a2 a3 a4 a5 a6 a7 a8 a9=>
   have hlow:∀f,f<k->f≠i->(nd C f).term<=(nd C i).term:=fun f h1 h2=>by rw[(s.fol f h1 h2).term,s.term];exact Int.le_refl _
   obtain⟨g1,G,b1⟩:=Qc9 (dr:=dr) b hk hi r1 r2
   obtain⟨pm,he,hm,hlen⟩:=beat_pm (dr:=dr) b hk hn hi q1 rfl hlow q2 a9
   have o1:=Qfi (dr:=dr) b.c (Qme b.c hn) (b.c.nd hi) hk G
   have p:PMS k (fun _=>0) M (own1 k C) i (nd C i).term (QcW (nd C i)) 0 0 g1 (S+1) (Qal C i dr):=⟨b1,o1,1,_,pm⟩
   obtain⟨g2,S2,b2,b3⟩:=Qi6 (n:=20000) hk hM2 p (by rw[own_zero s.commit];decide) (Nat.zero_le _) he hm (by omega)
   have hfa:FA k i (nd C i).term (fun f=>(nd C f).since) (Qal C i dr):=fun f h1 h2=>by
    rw[Qak hX h2,s.term]
    exact⟨s.fol f h1 h2,Int.le_refl _⟩
   have hnn:∀f:Nat,f<k->0<=(nd C f).since:=fun f hf=>(h.node f _ (h.nd hf)).bn.s.1
   obtain⟨c1,c2⟩:=Qkd (σ:=fun f=>if f<k then(nd C f).since else 0) (v:=((nd C i).log.length:Int)) hk (by omega) (fun f=>by
    show 0<=if f<k then(nd C f).since else 0
    split
    ·exact hnn f (by assumption)
    ·exact Int.le_refl _) (by omega) 20000 p
   have hsl':(nd (Qal C i dr) i).log=(nd C i).log:=by rw[hself];exact hkeep.2.1
   have hcm:=c2 (hfa.mono fun f hf=>by show _<=if f<k then _ else _;rw[if_pos hf];exact Int.le_refl _) (fun f h1 h2=>by
    rw[hself]
    show _<=(Qah (nd C i) dr).matc f
    rw[hkeep.2.2.2.2.1]
    exact s.fin f h1 h2) fun f h1 h2=>by
     right
     have hnet:(Qal C i dr).net=(Qax W k).map (Qbk W):=by
      have hwl:=Qbt (X:=W) (k:=k) (i:=i) (a2.trans c.ni.id) hi
      have h7:=h.k7
      rw[Qbn h hX,hn,a7,List.nil_append]
      refine List.take_of_length_le ?_
      rw[List.length_map]
      show _<=512 -0
      omega
     refine⟨Qbk W f, ?_,rfl,rfl, ?_, ?_⟩
     ·rw[hnet]
      refine List.mem_map.2 ⟨f, ?_,rfl⟩
      unfold Qax
      refine List.mem_filter.2 ⟨List.mem_range.2 h1,decide_eq_true ?_⟩
      rw[a2,c.ni.id]
      omega
     ·show W.next f -1=_
      rw[a4]
      have f1:=s.fin f h1 h2
      have f2:=(c.ni.lead q1).nx f h1 h2
      have f3:=(c.ni.lead q1).ne
      have f4:=List.length_pos_iff.2 f3
      rcases c.xi.nx q1 f h1 h2 with z|z<;>omega
     ·show _<=W.commit
      rw[a6,s.commit];exact Int.le_refl _
   have hlog:(nd (slot C i dr) i).log=(nd C i).log:=c1.trans hsl'
   have hcommit:∀f,f<k->((nd C i).log.length:Int)<=(nd (slot C i dr) f).commit:=fun f hf=>by
    by_cases e:f=i
    ·subst e
     have:=b3.commit
     rw[show(nd (Qbq 20000 (Qal C f dr)) f).log=(nd C f).log from hlog] at this
     exact Int.le_of_eq this.symm
    ·rcases hcm f hf e with z|⟨m',z,_⟩
     ·exact z
     ·rw[b3.net] at z;cases z
   refine⟨g2,S2,b2.c, ?_,fun f hf=>b2.lt (by omega) hf,hlog,fun v hv f hf=> ?_,fun ls hls=>al_beat b hk hM2 hn hi r1 r2 q1 hlow q2 a9 hls,fun _=> .inr hcommit,fun e=>absurd rfl e⟩
   ·have:=b3.st b2.c (i+1)
    rw[s.term] at this
    exact this
   ·have h1:=hv i hi
    rw[s.commit] at h1
    exact Int.le_trans h1 (hcommit f hf)
 ·have hr0:(nd C i).role=0:=(s.fol i hi hil).role
  have hsi:(nd C i).since<=2:=by
   have:=s.fs i hi hil
   repeat' split at this
   all_goals omega
  have hdr:0<=(if 0>dr then 0 else dr)%4:=Int.emod_nonneg _ (by decide)
  have hwait:Qah (nd C i) dr={nd C i with since:=(nd C i).since+1}:=by
   cases Qa2 (dr:=dr) c with
   |quiet h1=>omega
   |beat W h1=>omega
   |down h1=>omega
   |wait h1 h2 h3=>exact h3
   |ask h1 h2 h3 h4=>omega
  have ho:(Qah (nd C i) dr).out= []:=by rw[hwait];exact c.out
  obtain⟨g1,S1,a1,a2,a3,a4⟩:=QfL (dr:=dr) b hk hn hi r1 r2 ho
  have hll:=a4 l (fun e=>hil e.symm)
  refine⟨g1,S1,a1.c,⟨s.lk,a2,by rw[hll];exact s.role,by rw[hll];exact s.term,by rw[hll];exact s.commit,fun f h1 h2=>by rw[hll];exact s.fin f h1 h2,fun f h1 h2=> ?_,fun f h1 h2=> ?_, ?_⟩,fun f hf=> ?_,by rw[hll],fun v hv f hf=> ?_,altick ho (fun h3=>by rw[hwait] at h3;exact h3),fun e=>absurd e hil,fun _=>by rw[hll]⟩
  ·by_cases e:f=i
   ·subst e
    rw[a3,hwait]
    have:=s.fol f h1 h2
    exact⟨this.term,this.role,this.leader⟩
   ·rw[a4 f e];exact s.fol f h1 h2
  ·rw[hll]
   have:=s.fs f h1 h2
   by_cases e:f=i
   ·subst e
    rw[a3,hwait]
    show(nd C f).since+1<=_
    repeat' split at this
    all_goals repeat' split
    all_goals omega
   ·rw[a4 f e]
    repeat' split at this
    all_goals repeat' split
    all_goals omega
  ·unfold HA
   rw[hll];exact s.ha
  ·by_cases e:f=i
   ·subst e;rw[a3];show(Qah (nd C f) dr).log.length<=M;rw[hkeep.2.1];exact hM f hf
   ·rw[a4 f e];exact hM f hf
  ·by_cases e:f=i
   ·subst e;rw[a3];show v<=(Qah (nd C f) dr).commit;rw[hkeep.2.2.1];exact hv f hf
   ·rw[a4 f e];exact hv f hf
end
section
variable {k X0 LC bd E Zb l x:Nat}{g g':GH}{i f S:Nat}{X Y F L W:RN}{m:RM}{C C':CS}{r A B D D':List RM}{rr rr':Nat->Nat}{dr t T0 U U' v Tm:Int}{N0:Nat->RN}{bw own0 j h y a ρ μ:Nat}{σ σ':Nat->Int}{dk:Nat->Nat}{data:ByteArray}{d:Nat->Int}{ls:List Int}
def nonA(k:Nat)(Tm:Int)(C:CS):Nat:=Qck k fun f=>if(nd C f).term=Tm then 0 else 1
theorem nonA_zero(h:nonA k Tm C=0)(hf:f<k):(nd C f).term=Tm:=by
 have:=sumN_ge (F:=fun f=>if(nd C f).term=Tm then 0 else 1) hf
 unfold nonA at h
 rw[h] at this
 by_cases e:(nd C f).term=Tm
 ·exact e
 ·rw[if_neg e] at this;omega
theorem nonA_le(h:∀f,f<k->(nd C f).term=Tm->(nd C' f).term=Tm):nonA k Tm C'<=nonA k Tm C:=Qcn fun f hf=>by
 by_cases e:(nd C f).term=Tm
 ·rw[if_pos (h f hf e)];exact Nat.zero_le _
 ·rw[if_neg e];split<;>omega
theorem nonA_lt(h:∀f,f<k->(nd C f).term=Tm->(nd C' f).term=Tm)(hi:i<k)(h1:(nd C i).term≠Tm)(h2:(nd C' i).term=Tm):nonA k Tm C'+1<=nonA k Tm C:=by
 have:=QdZ (F:=fun f=>if(nd C' f).term=Tm then 0 else 1) (G:=fun f=>if(nd C f).term=Tm then 0 else 1) (i:=i) (n:=k) (a:=1) (b:=0) hi (fun f hf _=>by
  by_cases e:(nd C f).term=Tm
  ·simp only[if_pos (h f hf e)];exact Nat.zero_le _
  ·simp only[if_neg e];split<;>omega) (by simp only[if_pos h2,if_neg h1];omega)
 exact this
def bestX(k x:Nat)(C:CS):Prop:=∀f,f<k->Qd4 (nd C f).log (nd C x).log.length (Qa9 (nd C x).log)
theorem best_some(C:CS):∀k,1<=k->∃x,x<k/\bestX k x C
 |1,_=>⟨0,by decide,fun f hf=>by
  have:f=0:=by omega
  subst this
  exact .inr ⟨rfl,Int.le_refl _⟩⟩
 |k+2,_=>by
  obtain⟨x,h1,h2⟩:=best_some C (k+1) (by omega)
  by_cases hb:Qd4 (nd C (k+1)).log (nd C x).log.length (Qa9 (nd C x).log)
  ·refine⟨x,by omega,fun f hf=> ?_⟩
   by_cases e:f=k+1
   ·subst e;exact hb
   ·exact h2 f (by omega)
  ·refine⟨k+1,by omega,fun f hf=> ?_⟩
   by_cases e:f=k+1
   ·subst e;exact .inr ⟨rfl,Int.le_refl _⟩
   ·have:=h2 f (by omega)
    unfold Qd4 at hb this⊢
    omega
inductive NLs(k:Nat)(Tm:Int)(i μ:Nat)(C:CS):Prop
 |p1 (a ρ:Nat):1<=a->ρ<=7->16+8*a<=μ+ρ->nonA k Tm C<=a->(∀f,f<k->(nd C f).term≠Tm->(ρ:Int)+(if f<i then 1 else 0)<=(nd C f).since/\(f<i->(nd C f).since<=7))->NLs k Tm i μ C
 |px (a:Nat):17+8*a<=μ->nonA k Tm C<=a->NLs k Tm i μ C
 |p2 (ρ:Nat):ρ<=7->16<=μ+ρ->(∀f,f<k->(nd C f).term=Tm)->(∀f,f<k->(nd C f).leader= -1\/((ρ:Int)+(if f<i then 1 else 0)<=(nd C f).since/\(f<i->(nd C f).since<=7)))->NLs k Tm i μ C
 |p3 (x ρ:Nat):ρ<=7->8<=μ+ρ->(∀f,f<k->(nd C f).term=Tm)->(∀f,f<k->(nd C f).leader= -1)->x<k->bestX k x C->(ρ:Int)+(if x<i then 1 else 0)<=(nd C x).since->(x<i->(nd C x).since<=7)->NLs k Tm i μ C
structure NB(k:Nat)(Tm:Int)(C:CS):Prop where
 net:C.net= []
 nl:∀f,f<k->(nd C f).role≠3
 tm:∀f,f<k->(nd C f).term<=Tm
 mx:∃f,f<k/\(nd C f).term=Tm
 lt:Tm<Qjk
theorem nb_step(b:NB k Tm C)(n:NoS k i C C'):NB k Tm C':=by
 obtain⟨g1,g2,_⟩:=n.go Tm b.tm b.mx b.lt
 obtain⟨f0,h1,h2⟩:=b.mx
 exact⟨n.net,n.nl,g1,⟨f0,h1,g2 f0 h1 h2⟩,b.lt⟩
theorem nl_step(b:NB k Tm C)(n:NoS k i C C')(hi:i<k)(hs:∀f,f<k->0<=(nd C f).since)(p:NLs k Tm i μ C):NLs k Tm (i+1) μ C':=by
 obtain⟨g1,g2,g3⟩:=n.go Tm b.tm b.mx b.lt
 have hA:=nonA_le (k:=k) g2
 cases p with
 |px a h1 h2=>exact .px a h1 (Nat.le_trans hA h2)
 |p1 a ρ ha hρ h1 h2 h3=>
  rcases g3 with⟨e1,e2⟩|⟨e1,e2⟩
  ·have:=nonA_lt g2 hi (by omega) e2
   exact .px (a -1) (by omega) (by omega)
  ·refine .p1 a ρ ha hρ h1 (Nat.le_trans hA h2) fun f hf hT=> ?_
   by_cases e:f=i
   ·subst e
    rw[if_pos (by omega)]
    rcases e2 with⟨e3,e4⟩|⟨e3,e4,_⟩
    ·rw[e3] at hT⊢
     have:=(h3 f hf hT).1
     rw[if_neg (by omega)] at this
     exact⟨by show _<=(nd C f).since+1;omega,fun _=>by show(nd C f).since+1<=7;omega⟩
    ·exact absurd (e3.trans e4) hT
   ·rw[e1 f hf e] at hT⊢
    have:=h3 f hf hT
    by_cases hlt:f<i
    ·rw[if_pos hlt] at this
     rw[if_pos (by omega)]
     exact⟨this.1,fun _=>this.2 hlt⟩
    ·rw[if_neg hlt] at this
     rw[if_neg (by omega)]
     exact⟨this.1,fun _=>by omega⟩
 |p2 ρ hρ h1 h2 h3=>
  rcases g3 with⟨e1,e2⟩|⟨e1,e2⟩
  ·have:=h2 i hi;omega
  ·refine .p2 ρ hρ h1 (fun f hf=>g2 f hf (h2 f hf)) fun f hf=> ?_
   by_cases e:f=i
   ·subst e
    rw[if_pos (by omega)]
    rcases e2 with⟨e3,e4⟩|⟨e3,e4,e5,_⟩
    ·rw[e3]
     refine(h3 f hf).imp id fun z=> ?_
     have:=z.1
     rw[if_neg (by omega)] at this
     exact⟨by show _<=(nd C f).since+1;omega,fun _=>by show(nd C f).since+1<=7;omega⟩
    ·exact .inl e5
   ·rw[e1 f hf e]
    refine(h3 f hf).imp id fun this=> ?_
    by_cases hlt:f<i
    ·rw[if_pos hlt] at this
     rw[if_pos (by omega)]
     exact⟨this.1,fun _=>this.2 hlt⟩
    ·rw[if_neg hlt] at this
     rw[if_neg (by omega)]
     exact⟨this.1,fun _=>by omega⟩
 |p3 x ρ hρ h1 h2 h3 hx hb h4 h5=>
  rcases g3 with⟨e1,e2⟩|⟨e1,e2⟩
  ·have:=h2 i hi;omega
  ·have hb':bestX k x C':=fun f hf=>by
    rw[n.log f hf,n.log x hx]
    exact hb f hf
   have hlead:∀f,f<k->(nd C' f).leader= -1:=fun f hf=>by
    by_cases e:f=i
    ·subst e
     rcases e2 with⟨e3,e4⟩|⟨e3,e4,e5,_⟩
     ·rw[e3];exact h3 f hf
     ·exact e5
    ·rw[e1 f hf e];exact h3 f hf
   by_cases e:x=i
   ·subst e
    rcases e2 with⟨e3,e4⟩|⟨e3,e4,e5,e6,e7⟩
    ·refine .p3 x ρ hρ h1 (fun f hf=>g2 f hf (h2 f hf)) hlead hx hb' ?_ fun _=> ?_
     ·rw[if_pos (by omega),e3]
      rw[if_neg (by omega)] at h4
      show _<=(nd C x).since+1
      omega
     ·rw[e3]
      show(nd C x).since+1<=7
      omega
    ·exfalso
     refine e7 fun f hf hfx=>⟨?_,hb f hf,b.nl f hf,.inl (h3 f hf)⟩
     rw[h2 f hf];omega
   ·refine .p3 x ρ hρ h1 (fun f hf=>g2 f hf (h2 f hf)) hlead hx hb' ?_ fun _=> ?_
    ·rw[e1 x hx e]
     by_cases hlt:x<i
     ·rw[if_pos hlt] at h4
      rw[if_pos (by omega)];exact h4
     ·rw[if_neg hlt] at h4
      rw[if_neg (by omega)];exact h4
    ·rw[e1 x hx e]
     exact h5 (by omega)
theorem nl_end(b:NB k Tm C)(hk:1<=k)(hs:∀f,f<k->0<=(nd C f).since)(p:NLs k Tm k (μ+1) C):NLs k Tm 0 μ C:=by
 have all:nonA k Tm C=0->16<=μ->NLs k Tm 0 μ C:=fun e h=> .p2 0 (by decide) (by omega) (fun f hf=>nonA_zero e hf) fun f hf=> .inr ⟨by rw[if_neg (by omega)];exact hs f hf,fun z=>by omega⟩
 cases p with
 |px a h1 h2=>
  by_cases e:a=0
  ·exact all (by omega) (by omega)
  ·exact .p1 a 0 (by omega) (by decide) (by omega) h2 fun f hf _=>⟨by rw[if_neg (by omega)];exact hs f hf,fun z=>by omega⟩
 |p1 a ρ ha hρ h1 h2 h3=>
  by_cases e:ρ=7
  ·refine all ?_ (by omega)
   refine QbU fun f hf=> ?_
   by_cases hT:(nd C f).term=Tm
   ·exact if_pos hT
   ·have:=h3 f hf hT
    rw[if_pos hf] at this
    have:=this.2 hf
    omega
  ·refine .p1 a (ρ+1) ha (by omega) (by omega) h2 fun f hf hT=> ?_
   have:=h3 f hf hT
   rw[if_pos hf] at this
   exact⟨by rw[if_neg (by omega)];omega,fun z=>by omega⟩
 |p2 ρ hρ h1 h2 h3=>
  by_cases e:ρ=7
  ·obtain⟨x,hx,hb⟩:=best_some C k hk
   refine .p3 x 0 (by decide) (by omega) h2 (fun f hf=> ?_) hx hb (by rw[if_neg (by omega)];exact hs x hx) fun z=>by omega
   refine(h3 f hf).resolve_right fun z=> ?_
   rw[if_pos hf] at z
   have:=z.2 hf
   omega
  ·refine .p2 (ρ+1) (by omega) (by omega) h2 fun f hf=>(h3 f hf).imp id fun z=> ?_
   rw[if_pos hf] at z
   exact⟨by rw[if_neg (by omega)];omega,fun z=>by omega⟩
 |p3 x ρ hρ h1 h2 h3 hx hb h4 h5=>
  rw[if_pos hx] at h4
  have:=h5 hx
  exact .p3 x (ρ+1) (by omega) (by omega) h2 h3 hx hb (by rw[if_neg (by omega)];omega) fun z=>by omega
theorem nl_pos(p:NLs k Tm i μ C):1<=μ:=by
 cases p<;>omega
inductive Pre(k i μ:Nat)(C:CS):Prop
 |nl (Tm:Int):NB k Tm C->NLs k Tm i μ C->Pre k i μ C
 |we (l:Nat) (t:Int) (ρ:Nat):WE k l t C->t<Qjk->(ρ:Int)+(if l<i then 1 else 0)<=(nd C l).since->19<=μ+ρ->ρ<=1->Pre k i μ C
theorem Pre.net(p:Pre k i μ C):C.net= []:=by
 cases p with
 |nl Tm b n=>exact b.net
 |we l t ρ w=>exact w.net
theorem Pre.pos(p:Pre k i μ C):1<=μ:=by
 cases p with
 |nl Tm b n=>exact nl_pos n
 |we l t ρ w _ _ h=>omega
theorem pre_end(h:CInv k g S C)(p:Pre k k (μ+1) C):Pre k 0 μ C:=by
 cases p with
 |nl Tm b n=>exact .nl Tm b (nl_end b h.k1 (fun f hf=>(h.node f _ (h.nd hf)).bn.s.1) n)
 |we l t ρ w ht h1 h2 h3=>
  have:=(h.node l _ (h.nd w.lk)).xi.since w.role
  have hlk:=w.lk
  rw[if_pos hlk] at h1
  exact .we l t (ρ+1) w ht (by rw[if_neg (by omega)];omega) (by omega) (by omega)
theorem LT.mono{ls':List Int}(h:LT k ls C)(hs:∀z∈ls,z∈ls'):LT k ls' C:=fun f hf h3=>hs _ (h f hf h3)
theorem slot_pre(h:CInv k g S C)(hk:2<=k)(p:Pre k i μ C)(hM:∀i,i<k->(nd C i).log.length<=421)(hls:LT k ls C)(hi:i<k):
  ∃g' S',CInv k g' S' (slot C i dr)/\((Pre k (i+1) μ (slot C i dr)/\(∀f,f<k->(nd (slot C i dr) f).log.length<=421)/\Al (LT k ls) (Qal C i dr))\/(∃l t t',EstS k l t (slot C i dr)/\(∀f,f<k->(nd (slot C i dr) f).log.length<=435)/\Al (LT k (t'::ls)) (Qal C i dr))):=by
 have b:=mk_bas h p.net hM i
 have r1:(fun f=>if f=i then 1 else 0) i=(fun _=>0) i+1:=by show(if i=i then 1 else 0)=1;rw[if_pos rfl]
 have r2:∀j,j<k->j≠i->(fun _:Nat=>0) j=(fun f=>if f=i then 1 else 0) j:=fun j _ hj=>by show 0=if j=i then 1 else 0;rw[if_neg hj]
 have hs:∀f,f<k->0<=(nd C f).since:=fun f hf=>(h.node f _ (h.nd hf)).bn.s.1
 cases p with
 |nl Tm nb n=>
  obtain⟨g1,S1,a1,a2⟩:=slot_nl (dr:=dr) b hk (by decide) nb.net nb.nl hi r1 r2
  refine⟨g1,S1,a1.c, ?_⟩
  rcases a2 with⟨t,e1,e2⟩|⟨e1,e2⟩
  ·exact .inr ⟨i,t,t,e1,fun f hf=>a1.lt (by decide) hf,e2 ls hls⟩
  ·exact .inl ⟨.nl Tm (nb_step nb e1) (nl_step nb e1 hi hs n),fun f hf=>by rw[e1.log f hf];exact hM f hf,e2 ls hls⟩
 |we l t ρ w ht h1 h2 h3=>
  obtain⟨g1,S1,a1,a2⟩:=slot_we (dr:=dr) b hk (by decide) w hi r1 r2
  refine⟨g1,S1,a1.c, ?_⟩
  rcases a2 with⟨t',e1,e2⟩|⟨e0,e1|⟨e1,⟨e2,e3,e4⟩|⟨e2,e3,e4⟩⟩⟩
  ·exact .inr ⟨i,t',t',e1,fun f hf=>a1.lt (by decide) hf,e2 ls hls⟩
  ·exact .inr ⟨l,t,0,e1,fun f hf=>a1.lt (by decide) hf,fun n=>(e0 ls hls n).mono fun z hz=>List.mem_cons_of_mem _ hz⟩
  ·refine .inl ⟨.we l t ρ e2 ht ?_ h2 h3,fun f hf=>by rw[e1 f hf];exact hM f hf,e0 ls hls⟩
   by_cases e:i=l
   ·have:=e3 e
    rw[if_pos (by omega),this.1]
    rw[if_neg (by omega)] at h1
    omega
   ·rw[e4 e]
    by_cases hlt:l<i
    ·rw[if_pos hlt] at h1
     rw[if_pos (by omega)];exact h1
    ·rw[if_neg hlt] at h1
     rw[if_neg (by omega)];exact h1
  ·refine .inl ⟨.nl t ⟨e2,e3,fun f hf=>Int.le_of_eq (e4 f hf),⟨l,w.lk,e4 l w.lk⟩,ht⟩ (.px 0 (by omega) ?_),fun f hf=>by rw[e1 f hf];exact hM f hf,e0 ls hls⟩
   exact Nat.le_of_eq (QbU fun f hf=>if_pos (e4 f hf))
end
section
variable {k X0 LC M bd E Zb l x:Nat}{g g':GH}{i f S:Nat}{X Y F L W:RN}{m:RM}{C C':CS}{r A B D D':List RM}{rr rr':Nat->Nat}{dr t T0 U U' v Tm:Int}{N0:Nat->RN}{bw own0 j h y a ρ μ:Nat}{σ σ':Nat->Int}{dk:Nat->Nat}{data:ByteArray}{d:Nat->Int}{ls:List Int}
def QcJ(C:CS):Nat->Int
 |0=> -1
 |j+1=>if(nd C j).role=3/\(QcJ C j<0\/(nd C j).term>(nd C (QcJ C j).toNat).term) then(j:Int) else QcJ C j
theorem Qkj(h:∀f,f<k->(nd C f).role≠3):∀j,j<=k->QcJ C j= -1
 |0,_=>rfl
 |j+1,hj=>by
  unfold QcJ
  rw[if_neg (fun z=>h j (by omega) z.1)]
  exact Qkj h j (by omega)
theorem leadC_we(w:WE k l t C):QcJ C k=l:=by
 have key:∀j,j<=k->QcJ C j=if l<j then(l:Int) else -1:=by
  intro j
  induction j with
  |zero=>intro _;rw[if_neg (by omega)];rfl
  |succ j ih=>
   intro hj
   have e:=ih (by omega)
   unfold QcJ
   rw[e]
   by_cases hjl:j=l
   ·subst hjl
    rw[if_neg (Nat.lt_irrefl j),if_pos ⟨w.role,.inl (by decide)⟩,if_pos (by omega)]
   ·rw[if_neg (fun z=>(w.oth j (by omega) hjl).2 z.1)]
    by_cases h1:l<j
    ·rw[if_pos h1,if_pos (by omega)]
    ·rw[if_neg h1,if_neg (by omega)]
 rw[key k (Nat.le_refl _),if_pos w.lk]
def Qeq(d:Nat->Int)(C:CS):Nat->CS
 |0=>C
 |i+1=>slot (Qeq d C i) i (d i)
theorem STD.end_(s:STD k l t k C):STD k l t 0 C:=⟨s.lk,s.net,s.role,s.term,s.commit,s.fin,s.fol,fun f h1 h2=>by
 have hlk:=s.lk
 have:=s.fs f h1 h2
 rw[if_neg (by omega),if_pos (.inr h1)] at this
 rw[if_pos (Nat.zero_le _),if_neg (by omega)]
 omega,s.ha⟩
theorem Ql0(h:CInv k g S C)(hk:2<=k)(s:STD k l t 0 C)(hM:∀i,i<k->(nd C i).log.length<=M)(hM2:M<=460)(hls:LT k ls C):
  ∃g' S',CInv k g' S' (Qeq d C k)/\STD k l t 0 (Qeq d C k)/\(∀i,i<k->(nd (Qeq d C k) i).log.length<=M)/\(nd (Qeq d C k) l).log=(nd C l).log/\LT k ls (Qeq d C k)/\(∀v:Int,(∀f,f<k->v<=(nd C f).commit)->∀f,f<k->v<=(nd (Qeq d C k) f).commit)/\(∀i,i<k->Al (LT k ls) (Qal (Qeq d C i) i (d i)))/\
   ((nd (Qeq d C k) l).since=(nd C l).since+1\/∀f,f<k->((nd C l).log.length:Int)<=(nd (Qeq d C k) f).commit):=by
 have key:∀i,i<=k->∃g' S',CInv k g' S' (Qeq d C i)/\STD k l t i (Qeq d C i)/\(∀f,f<k->(nd (Qeq d C i) f).log.length<=M)/\(nd (Qeq d C i) l).log=(nd C l).log/\LT k ls (Qeq d C i)/\(∀v:Int,(∀f,f<k->v<=(nd C f).commit)->∀f,f<k->v<=(nd (Qeq d C i) f).commit)/\(∀i',i'<i->Al (LT k ls) (Qal (Qeq d C i') i' (d i')))/\
   ((nd (Qeq d C i) l).since=(nd C l).since+(if l<i then 1 else 0)\/∀f,f<k->((nd C l).log.length:Int)<=(nd (Qeq d C i) f).commit):=by
  intro i
  induction i with
  |zero=>exact fun _=>⟨g,S,h,s,hM,rfl,hls,fun v hv=>hv,fun i' hi'=>by omega,.inl (by rw[if_neg (by omega)];show(nd C l).since=_;omega)⟩
  |succ i ih=>
   intro hi
   obtain⟨g1,S1,a1,a2,a3,a4,a5,a6,a7,a8⟩:=ih (by omega)
   obtain⟨g2,S2,b1,b2,b3,b4,b5,b6,b7,b8⟩:=slot_st (dr:=d i) a1 hk a2 a3 hM2 (i:=i) (by omega)
   refine⟨g2,S2,b1,b2,b3,b4.trans a4,b6 ls a5 20000,fun v hv=>b5 v (a6 v hv),fun i' hi'=> ?_, ?_⟩
   ·by_cases e:i'=i
    ·subst e;exact b6 ls a5
    ·exact a7 i' (by omega)
   ·rcases a8 with z|z
    ·by_cases e:i=l
     ·rcases b7 e with q|q
      ·left
       rw[if_pos (by omega)]
       rw[if_neg (by omega)] at z
       show(nd (slot (Qeq d C i) i (d i)) l).since=_
       rw[q,z];omega
      ·right
       rw[a4] at q
       exact q
     ·left
      show(nd (slot (Qeq d C i) i (d i)) l).since=_
      rw[b8 e,z]
      by_cases hlt:l<i
      ·rw[if_pos hlt,if_pos (by omega)]
      ·rw[if_neg hlt,if_neg (by omega)]
    ·exact .inr (b5 _ z)
 obtain⟨g1,S1,a1,a2,a3,a4,a5,a6,a7,a8⟩:=key k (Nat.le_refl _)
 have hlk:=s.lk
 rw[if_pos hlk] at a8
 exact⟨g1,S1,a1,a2.end_,a3,a4,a5,a6,a7,a8⟩
theorem round_pre(h:CInv k g S C)(hk:2<=k)(p:Pre k 0 (μ+1) C)(hM:∀i,i<k->(nd C i).log.length<=421)(hls:LT k ls C):
  ∃g' S',CInv k g' S' (Qeq d C k)/\((Pre k 0 μ (Qeq d C k)/\(∀i,i<k->(nd (Qeq d C k) i).log.length<=421)/\LT k ls (Qeq d C k)/\∀i,i<k->Al (LT k ls) (Qal (Qeq d C i) i (d i)))\/
   (∃l t t',STD k l t 0 (Qeq d C k)/\(∀i,i<k->(nd (Qeq d C k) i).log.length<=435)/\LT k (t'::ls) (Qeq d C k)/\∀i,i<k->Al (LT k (t'::ls)) (Qal (Qeq d C i) i (d i)))):=by
 have key:∀i,i<=k->∃g' S',CInv k g' S' (Qeq d C i)/\((Pre k i (μ+1) (Qeq d C i)/\(∀f,f<k->(nd (Qeq d C i) f).log.length<=421)/\LT k ls (Qeq d C i)/\∀i',i'<i->Al (LT k ls) (Qal (Qeq d C i') i' (d i')))\/
   (∃l t t',STD k l t i (Qeq d C i)/\(∀f,f<k->(nd (Qeq d C i) f).log.length<=435)/\LT k (t'::ls) (Qeq d C i)/\∀i',i'<i->Al (LT k (t'::ls)) (Qal (Qeq d C i') i' (d i')))):=by
  intro i
  induction i with
  |zero=>exact fun _=>⟨g,S,h,.inl ⟨p,hM,hls,fun i' hi'=>by omega⟩⟩
  |succ i ih=>
   intro hi
   obtain⟨g1,S1,a1,a2⟩:=ih (by omega)
   rcases a2 with⟨b1,b2,b3,b4⟩|⟨l,t,t',b1,b2,b3,b4⟩
   ·obtain⟨g2,S2,c1,c2⟩:=slot_pre (dr:=d i) a1 hk b1 b2 b3 (by omega)
    refine⟨g2,S2,c1, ?_⟩
    rcases c2 with⟨e1,e2,e3⟩|⟨l,t,t',e1,e2,e3⟩
    ·refine .inl ⟨e1,e2,e3 20000,fun i' hi'=> ?_⟩
     by_cases e:i'=i
     ·subst e;exact e3
     ·exact b4 i' (by omega)
    ·refine .inr ⟨l,t,t',e1.st c1 (i+1),e2,e3 20000,fun i' hi'=> ?_⟩
     by_cases e:i'=i
     ·subst e;exact e3
     ·exact fun n=>(b4 i' (by omega) n).mono fun z hz=>List.mem_cons_of_mem _ hz
   ·obtain⟨g2,S2,c1,c2,c3,c4,c5,c6,c7,c8⟩:=slot_st (dr:=d i) a1 hk b1 b2 (by decide) (i:=i) (by omega)
    refine⟨g2,S2,c1,.inr ⟨l,t,t',c2,c3,c6 _ b3 20000,fun i' hi'=> ?_⟩⟩
    by_cases e:i'=i
    ·subst e;exact c6 _ b3
    ·exact b4 i' (by omega)
 obtain⟨g1,S1,a1,a2⟩:=key k (Nat.le_refl _)
 refine⟨g1,S1,a1, ?_⟩
 rcases a2 with⟨b1,b2⟩|⟨l,t,t',b1,b2⟩
 ·exact .inl ⟨pre_end a1 b1,b2⟩
 ·exact .inr ⟨l,t,t',b1.end_,b2⟩
theorem pre_start(h:CInv k g S C)(hk:2<=k)(hU:TmB k U C)(hU2:U<Qjk)(hn:C.net= [])(hw:(∃l t,WE k l t C)\/∀f,f<k->(nd C f).role≠3):Pre k 0 72 C:=by
 have h7:=h.k7
 have hs:∀f,f<k->0<=(nd C f).since:=fun f hf=>(h.node f _ (h.nd hf)).bn.s.1
 rcases hw with⟨l,t,w⟩|hnl
 ·refine .we l t 0 w ?_ (by rw[if_neg (by omega)];exact hs l w.lk) (by decide) (by decide)
  rw[<-w.term]
  have:=hU.1 l w.lk
  omega
 ·obtain⟨x,hx,hm⟩:∃x,x<k/\∀f,f<k->(nd C f).term<=(nd C x).term:=by
   have key:∀n,1<=n->∃x,x<n/\∀f,f<n->(nd C f).term<=(nd C x).term:=by
    intro n
    induction n with
    |zero=>intro h;omega
    |succ n ih=>
     intro _
     by_cases e:n=0
     ·subst e
      refine⟨0,by decide,fun f hf=> ?_⟩
      have:f=0:=by omega
      subst this;exact Int.le_refl _
     ·obtain⟨x,h1,h2⟩:=ih (by omega)
      by_cases hb:(nd C n).term<=(nd C x).term
      ·refine⟨x,by omega,fun f hf=> ?_⟩
       by_cases e:f=n
       ·subst e;exact hb
       ·exact h2 f (by omega)
      ·refine⟨n,by omega,fun f hf=> ?_⟩
       by_cases e:f=n
       ·subst e;exact Int.le_refl _
       ·have:=h2 f (by omega);omega
   exact key k (by omega)
  have hT:=hU.1 x hx
  refine .nl (nd C x).term ⟨hn,hnl,hm,⟨x,hx,rfl⟩,by omega⟩ (.p1 (k) 0 (by omega) (by decide) (by omega) ?_ fun f hf _=>⟨by rw[if_neg (by omega)];exact hs f hf,fun z=>by omega⟩)
  have:nonA k (nd C x).term C<=k*1:=Qcj fun f _=>by
   show(if _ then 0 else 1)<=1
   split<;>omega
  omega
end
section
variable {k X0 LC M bd E Zb l x:Nat}{g g':GH}{i f S:Nat}{X Y F L W:RN}{m:RM}{C C':CS}{r A B D D':List RM}{rr rr':Nat->Nat}{dr t T0 U U' v Tm:Int}{data:ByteArray}{ls:List Int}
inductive SvF(g:GH)(X Y:RN)(m:RM):Prop
 |same:Y.log=X.log->Y.from_=0->SvF g X Y m
 |app (p:Nat):m.kind=5->Y.role≠3->X.role≠3\/X.term<m.term->Y.term=m.term->X.term<=m.term->Y.from_=(p:Int)+1->p<=X.log.length->m.index.toNat<=p->p<m.index.toNat+m.ents.length->m.index.toNat+m.ents.length<=(g.ll m.term).length->Y.log=(g.ll m.term).take (m.index.toNat+m.ents.length)->(∀a,a<X.log.length->a=p->X.log[a]?.map (·.term)≠(g.ll m.term)[a]?.map (·.term))->(∀e∈Y.log,e∈X.log\/e∈m.ents)->SvF g X Y m
 |lead:m.kind=4->X.role=2->Y.role=3->Y.term=X.term->Y.log=X.log++ [⟨X.term,⟨#[]⟩⟩]->Y.from_=(X.log.length:Int)+1->g.ll X.term= []->SvF g X Y m
theorem QnF(I:GI k g)(c:CN k g S i X)(hmi:MI k g m)(w:WM k m)(hc:QaR X m)(hto:m.to=(i:Int))(hk:2<=k)(hl:X.log.length<1024):SvF g X (Qaa X m) m:=by
 have c5:=hc.2.2.2.2.1
 have c6:=hc.2.2.2.2.2.1
 have hf0:=c.from_
 have hna:¬QaF X (2^X.id.toNat):=Qcy (X:=X) (m:=m) c.ni ⟨w.f.1,by rw[c.ni.n];exact w.f.2,by rw[c.ni.id,<-hto];exact w.ne⟩
 by_cases k1:m.kind=1
 ·rw[st1 hc k1];exact .same rfl hf0
 by_cases k2:m.kind=2
 ·rw[st2 hc k2]
  unfold QaS
  split
  ·unfold Qai;split<;>exact .same rfl hf0
  split
  ·split
   ·unfold QaU
    rw[if_neg (show ¬QaF {X with votes:=X.votes|||2^m.from_.toNat} (2^X.id.toNat) from hna)]
    exact .same rfl hf0
   ·exact .same rfl hf0
  ·exact .same rfl hf0
 by_cases ht:m.term<X.term
 ·rw[Qi4 hc (by omega) ht]
  split<;>exact .same rfl hf0
 have ht:X.term<=m.term:=by omega
 obtain⟨n1,n2⟩:=Qh1 X m
 by_cases k3:m.kind=3
 ·rw[st3 hc k3 ht]
  refine .same ?_ ?_
  ·show(if Qbm (Qab X m) m then _ else Qab X m).log=_
   split<;>exact n2
  ·show(if Qbm (Qab X m) m then _ else Qab X m).from_=_
   split<;>exact n1.trans hf0
 by_cases k4:m.kind=4
 ·by_cases h3:X.role=3
  ·have hr:(Qaa X m).role=3\/(Qaa X m).role≠3:=by omega
   rw[st4 hc k4 ht]
   unfold Qar
   have hnr:(Qab X m).role≠2:=by
    rcases QaO X m with e|⟨e,_⟩
    ·omega
    ·rw[e];omega
   rw[if_pos (.inr hnr)]
   exact .same n2 (n1.trans hf0)
  ·by_cases hY:(Qaa X m).role=3
   ·obtain⟨q1,q2,hr2,hy,hmo,hq⟩:=Qcd hc c w hto h3 hY
    obtain⟨Z,z0,z1,z2,z3,z4,z5,z6,z7,W,w1,w2,_,w4,w5⟩:=QcI c hr2 hk hl (X.votes|||2^m.from_.toNat)
    have hter:¬X.term<Qa9 X.log:=by
     have:=Qce (c.ni.cand hr2).ter (by have:=(c.ni.cand hr2).t1;omega)
     omega
    have hfr:(Qbh {X with votes:=X.votes|||2^m.from_.toNat}).from_=(X.log.length:Int)+1:=by
     rw[Qgo (Z:={X with votes:=X.votes|||2^m.from_.toNat}) hter hl,(Qan _).2.2.2.2.2.1]
     show(if X.from_=0\/(X.log.length:Int)+1<X.from_ then(X.log.length:Int)+1 else X.from_)=_
     rw[if_pos (.inl hf0)]
    refine .lead q1 hr2 hY ?_ ?_ ?_ ?_
    ·rw[hq,z0];exact z2
    ·rw[hq,z0];exact z3
    ·rw[hq];exact hfr
    ·exact Qhb I c.ni hmi k4 q2 (by rw[hto,c.ni.id]) ⟨w.f.1,by rw[c.ni.n];exact w.f.2⟩ hy hr2 hmo
   ·rw[st4 hc k4 ht] at hY⊢
    unfold Qar at hY⊢
    split
    ·exact .same n2 (n1.trans hf0)
    ·rename_i c1
     rw[if_neg c1] at hY
     split
     ·rename_i c2
      rw[if_pos c2] at hY
      exfalso
      have hr2:(Qab X m).role=2:=Decidable.byContradiction fun z=>c1 (.inr z)
      have heq:Qab X m=X:=by
       rcases QaO X m with e|⟨e,_⟩
       ·omega
       ·exact e
      rw[heq] at hY hr2
      obtain⟨Z,z0,z1,_⟩:=QcI c hr2 hk hl (X.votes|||2^m.from_.toNat)
      rw[z0] at hY
      exact hY z1
     ·exact .same n2 (n1.trans hf0)
 by_cases k5:m.kind=5
 ·rw[st5 hc k5 ht]
  by_cases hr3:(Qab X m).role=3
  ·unfold QaV
   rw[if_pos hr3]
   exact .same n2 (n1.trans hf0)
  have e0:(Qag (Qab X m) m).log=X.log/\(Qag (Qab X m) m).from_=0/\(Qag (Qab X m) m).term=m.term/\(Qag (Qab X m) m).role=0:=by
   rw[Qaz];exact⟨n2,n1.trans hf0,QbN ht,rfl⟩
  rcases Qbd (Qab X m) m hr3 with⟨_,e⟩|⟨_,_,e⟩|⟨_,hok,e⟩
  ·rw[e];exact .same e0.1 e0.2.1
  ·rw[e];exact .same e0.1 e0.2.1
  ·obtain⟨p1,p2,p3,p4,p5,p6⟩:=Qcw (Qag (Qab X m) m) m
   have hlog:(QbD (Qag (Qab X m) m) m).log=(Qc8 X.log m.index m.logTerm m.ents).1:=by
    rw[(Qhg (Qag (Qab X m) m) m).2.2.2.2.2.2.2.2.2,e0.1]
   rw[n2] at hok
   have A:=app_core I (Qoq (m:=m) c.si).ni hmi k5 (QbN ht).symm (by rw[n2];exact hok)
   have hT:(Qab X m).term=m.term:=QbN ht
   rw[e]
   by_cases hch:(Qc8 X.log m.index m.logTerm m.ents).2.1>0
   ·obtain⟨p,q1,q2,q3,q4,q5,q6,q7,q8⟩:=A.new (by rw[n2];exact hch)
    rw[n2] at q1 q2 q6 q7
    rw[hT] at q6 q7
    have hlast:=A.last
    rw[hT] at hlast
    obtain⟨p',s1,s2,s3,s4,s5,s6⟩:=QoB hch
    have hents:=(hmi.2.2.1 k5).2.2.2.2.2.1
    refine .app p k5 (by show(QbD (Qag (Qab X m) m) m).role≠3;rw[p5,e0.2.2.2];decide) ?_ (by show(QbD (Qag (Qab X m) m) m).term=_;rw[p4,e0.2.2.1]) ht ?_ q2 q3 q4 hlast ?_ ?_ ?_
    ·rcases QaO X m with e|⟨e,e2⟩
     ·by_cases hx:X.role=3
      ·right
       by_cases hlt:X.term<m.term
       ·exact hlt
       ·rw[Qbu (by omega)] at e
        omega
      ·exact .inl hx
     ·rw[e] at hr3;exact .inl hr3
    ·show(QbD (Qag (Qab X m) m) m).from_=_
     unfold QbD
     rw[e0.1,if_pos hch,q1]
     show(if(Qag (Qab X m) m).from_=0\/(p:Int)+1<(Qag (Qab X m) m).from_ then(p:Int)+1 else(Qag (Qab X m) m).from_)=_
     rw[if_pos (.inl e0.2.1)]
    ·show(QbD (Qag (Qab X m) m) m).log=_
     rw[hlog,q6]
    ·intro a ha hap
     subst hap
     have hk1:=QfR (X.log.drop m.index.toNat) m.ents
     have hp:a=m.index.toNat+Qbi (X.log.drop m.index.toNat) m.ents:=by
      have hch2:=q1
      unfold Qc8 at hch2
      by_cases c1:(QaH X.log m.index).2=false
      ·rw[if_pos c1] at hch2;have hch2:(0:Int)=(a:Int)+1:=hch2;omega
      by_cases c2:(QaH X.log m.index).1≠m.logTerm
      ·rw[if_neg c1,if_pos c2] at hch2;have hch2:(0:Int)=(a:Int)+1:=hch2;omega
      by_cases c3:Qfk m.logTerm m.ents=true
      ·rw[if_neg c1,if_neg c2,if_pos c3] at hch2;have hch2:(0:Int)=(a:Int)+1:=hch2;omega
      by_cases c4:Qbi (X.log.drop m.index.toNat) m.ents=m.ents.length
      ·rw[if_neg c1,if_neg c2,if_neg c3,if_pos c4] at hch2;have hch2:(0:Int)=(a:Int)+1:=hch2;omega
      by_cases c5:m.index+m.ents.length>1024
      ·rw[if_neg c1,if_neg c2,if_neg c3,if_neg c4,if_pos c5] at hch2;have hch2:(0:Int)=(a:Int)+1:=hch2;omega
      rw[if_neg c1,if_neg c2,if_neg c3,if_neg c4,if_neg c5] at hch2
      have hch2:m.index+Qbi (X.log.drop m.index.toNat) m.ents+1=(a:Int)+1:=hch2
      have:=A.i0
      omega
     obtain⟨u,w,u1,u2,u3⟩:=Qjn (X.log.drop m.index.toNat) m.ents (by rw[List.length_drop];omega) (by omega)
     rw[List.getElem?_drop,<-hp] at u1
     have:=Qh6 hents (q:=Qbi (X.log.drop m.index.toNat) m.ents) (by omega)
     rw[<-hp,u2] at this
     rw[u1,this]
     simp only[Option.map_some,ne_eq,Option.some.injEq]
     exact u3
    ·intro e he
     have he:e∈(QbD (Qag (Qab X m) m) m).log:=he
     rw[hlog] at he
     exact s6 e he
   ·refine .same ?_ ?_
    ·show(QbD (Qag (Qab X m) m) m).log=_
     rw[hlog];exact Qly hch
    ·show(QbD (Qag (Qab X m) m) m).from_=_
     unfold QbD
     rw[e0.1,if_neg hch]
     exact e0.2.1
 ·rw[st6 hc (by omega) ht]
  refine .same ((QnT _ _).1.trans n2) ?_
  unfold QaC
  split
  ·exact n1.trans hf0
  split
  ·have:=(Qan (Qau (Qab X m) m.from_.toNat m.index)).2.2.2.2.2.1
   split<;>exact this.trans (n1.trans hf0)
  split<;>exact n1.trans hf0
theorem save_form(d:Dl k g S C m r X)(hk:2<=k)(hl:X.log.length<1024):SvF g X (Qaa X m) m:=QnF d.h.gi d.c d.w.1 d.w.2.2 d.cb d.to hk hl
end
section
variable {k X0 LC M bd E Zb l x:Nat}{g g':GH}{i f S:Nat}{X Y F L W:RN}{m:RM}{C C':CS}{r A B D D':List RM}{rr rr':Nat->Nat}{dr t T0 U U' v Tm:Int}{data:ByteArray}{ls:List Int}
theorem Qof:∀(rs:List WRec) (b:List UInt8),b.length+(Qao rs).length<=1048576->wrM b rs=(b++Qao rs,true)
 | [],b,_=>by show(b,true)=(b++ [],true);rw[List.append_nil]
 |r::rs,b,h=>by
  rw[Qbs,List.length_append] at h
  unfold wrM
  rw[if_neg (by omega),Qof rs (b++Qgi r) (by rw[List.length_append];omega),Qbs,List.append_assoc]
theorem Qj9(hd:∀e∈Y.log,e.data.size<=100):(Qao (Qav Y)).length<=(if Y.hard=true then 25 else 0)+127*(Qbr Y).length:=by
 unfold Qav
 split
 ·exact Nat.zero_le _
 ·unfold Qnc
  rw[Qd8,List.length_append]
  refine Nat.add_le_add ?_ ?_
  ·show(Qao (if Y.hard=true then _ else _)).length<=_
   split
   ·rw[Qbs,List.length_append,QdL]
    show(be8 Y.term++be8 Y.vote).length+9+0<=25
    simp[QbH]
   ·exact Nat.zero_le _
  ·have h1:=Ql3 118 ((QcY Y).es.mapIdx (Qle (QcY Y).frm)) fun r hr=>by
    rw[List.mem_mapIdx] at hr
    obtain⟨q,hq,rfl⟩:=hr
    have h2:=Qnw (QcY Y).es[q].d
    have e:(Qle (QcY Y).frm q (QcY Y).es[q]).data.length=16+(txt (QcY Y).es[q].d).length:=by simp[Qle,QbH];omega
    have h3:(QcY Y).es[q].d.length<=100:=by
     obtain⟨x,hx,hx2⟩:=List.mem_map.1 (List.getElem_mem hq:(QcY Y).es[q]∈(Qbr Y).map toE)
     rw[<-hx2,Qlv]
     refine hd x ?_
     unfold Qbr at hx
     split at hx
     ·exact Qjq hx
     ·cases hx
    omega
   rw[List.length_mapIdx] at h1
   have:(QcY Y).es.length=(Qbr Y).length:=List.length_map ..
   omega
theorem saved_len(sv:SV X Y)(hl:Y.log.length<=1024):(Qbr Y).length=if Y.from_=0 then 0 else Y.log.length -(Y.from_.toNat -1):=by
 by_cases h:Y.from_=0
 ·rw[if_pos h]
  unfold Qbr
  rw[if_neg (by omega)];rfl
 ·rw[if_neg h,Qlw (by have:=sv.f0;omega) hl,List.length_drop]
def hm(X:RN):Nat:=2*X.term.toNat+if X.vote= -1 then 0 else 1
theorem hm_le(X:RN):hm X<=2*X.term.toNat+1:=by unfold hm;split<;>omega
structure Hs(X Y:RN):Prop where
 le:hm X<=hm Y
 lt:Y.hard=true->hm X<hm Y
theorem Hs.same(hh:X.hard=false)(h1:Y.term=X.term)(h2:Y.vote=X.vote)(h3:Y.hard=X.hard):Hs X Y:=⟨by unfold hm;rw[h1,h2];exact Nat.le_refl _,fun e=>by rw[h3,hh] at e;cases e⟩
theorem Hs.up(h0:0<=X.term)(h:X.term<Y.term):Hs X Y:=by
 have:=hm_le X
 have:hm X<hm Y:=by
  have:2*Y.term.toNat<=hm Y:=by unfold hm;omega
  omega
 exact⟨by omega,fun _=>this⟩
theorem Hs.like{Z:RN}(h:Hs X Y)(h1:Z.term=Y.term)(h2:Z.vote=Y.vote)(h3:Z.hard=Y.hard):Hs X Z:=by
 have e:hm Z=hm Y:=by unfold hm;rw[h1,h2]
 exact⟨by rw[e];exact h.le,fun x=>by rw[e];exact h.lt (by rw[<-h3];exact x)⟩
theorem QnQ(Z:RN):(Qbh Z).term=Z.term/\(Qbh Z).vote=Z.vote/\(Qbh Z).hard=Z.hard:=by
 have key:(Qc7 (Qay Z) ⟨#[]⟩).1.term=Z.term/\(Qc7 (Qay Z) ⟨#[]⟩).1.vote=Z.vote/\(Qc7 (Qay Z) ⟨#[]⟩).1.hard=Z.hard:=by
  unfold Qc7
  split
  ·exact⟨rfl,rfl,rfl⟩
  split
  ·exact⟨rfl,rfl,rfl⟩
  ·obtain⟨e1,_,_,e4,e5,_⟩:=Qan (Qa4 (QaN {Qay Z with log:=(Qay Z).log++ [⟨(Qay Z).term,⟨#[]⟩⟩]} (((Qay Z).log.length:Int)+1)))
   exact⟨e1,e4,e5⟩
 unfold Qbh
 split
 ·unfold Qai
  rw[if_neg (by omega)]
  exact key
 ·exact key
theorem hears_hard(Z:RN)(m:RM):(QaC Z m).term=Z.term/\(QaC Z m).vote=Z.vote/\(QaC Z m).hard=Z.hard:=by
 obtain⟨e1,_,_,e4,e5,_⟩:=Qan (Qau Z m.from_.toNat m.index)
 unfold QaC
 split
 ·exact⟨rfl,rfl,rfl⟩
 split
 ·split<;>exact⟨e1,e4,e5⟩
 split<;>exact⟨rfl,rfl,rfl⟩
theorem hs_newer(hh:X.hard=false)(h0:0<=X.term):Hs X (Qab X m):=by
 by_cases h:m.term<=X.term
 ·rw[Qbu h];exact Hs.same hh rfl rfl rfl
 ·exact Hs.up h0 (by rw[QbN (by omega)];omega)
theorem hs_step(hc:QaR X m)(hna:¬QaF X (2^X.id.toNat))(hh:X.hard=false)(h0:0<=X.term):Hs X (Qaa X m):=by
 obtain⟨_,_,c3,_,c5,c6,_⟩:=id hc
 by_cases k1:m.kind=1
 ·rw[st1 hc k1];exact Hs.same hh rfl rfl rfl
 by_cases k2:m.kind=2
 ·rw[st2 hc k2]
  unfold QaS
  split
  ·rename_i h
   refine Hs.up h0 ?_
   unfold Qai
   rw[if_pos h.2];exact h.2
  split
  ·split
   ·unfold QaU
    rw[if_neg (show ¬QaF {X with votes:=X.votes|||2^m.from_.toNat} (2^X.id.toNat) from hna)]
    exact Hs.up h0 (by show X.term<X.term+1;omega)
   ·exact Hs.same hh rfl rfl rfl
  ·exact Hs.same hh rfl rfl rfl
 by_cases ht:m.term<X.term
 ·rw[Qi4 hc (by omega) ht]
  split<;>exact Hs.same hh rfl rfl rfl
 have hz:=hs_newer (m:=m) hh h0
 by_cases k3:m.kind=3
 ·rw[st3 hc k3 (by omega)]
  unfold Qbg
  split
  ·rename_i hv
   by_cases hlt:X.term<m.term
   ·exact Hs.up h0 (by show X.term<(Qab X m).term;rw[QbN (by omega)];exact hlt)
   ·rw[Qbu (by omega)] at hv⊢
    have hv1:=hv.1
    have hl:hm (Ql8 {X with hard:=X.hard||(X.vote !=m.from_),vote:=m.from_,since:=0} m.from_ ⟨4,0,0,X.term,0,0,0,decide (Qbm X m),[]⟩)=2*X.term.toNat+1:=by
     show 2*X.term.toNat+(if m.from_= -1 then 0 else 1)=_
     rw[if_neg (by omega)]
    refine⟨by rw[hl];exact hm_le X,fun e=> ?_⟩
    rw[hl]
    have e:(X.hard||(X.vote !=m.from_))=true:=e
    rw[hh,Bool.false_or] at e
    have:X.vote= -1:=hv1.resolve_right fun z=>by rw[z] at e;simp at e
    unfold hm
    rw[if_pos this];omega
  ·exact hz.like rfl rfl rfl
 by_cases k4:m.kind=4
 ·rw[st4 hc k4 (by omega)]
  unfold Qar
  split
  ·exact hz
  split
  ·obtain⟨a,b,c⟩:=QnQ {Qab X m with votes:=(Qab X m).votes|||2^m.from_.toNat}
   exact hz.like a b c
  ·exact hz.like rfl rfl rfl
 by_cases k5:m.kind=5
 ·rw[st5 hc k5 (by omega)]
  by_cases hr:(Qab X m).role=3
  ·unfold QaV
   rw[if_pos hr];exact hz
  have h1:Hs X (Qag (Qab X m) m):=by rw[Qaz];exact hz.like rfl rfl rfl
  obtain⟨q1,q2,_,_,_,_,_,_,q9,_⟩:=Qhg (Qag (Qab X m) m) m
  rcases Qbd (Qab X m) m hr with⟨_,e⟩|⟨_,_,e⟩|⟨_,_,e⟩
  ·rw[e];exact h1.like rfl rfl rfl
  ·rw[e];exact h1.like rfl rfl rfl
  ·rw[e];exact h1.like q1 q2 q9
 ·rw[st6 hc (by omega) (by omega)]
  obtain⟨a,b,c⟩:=hears_hard (Qab X m) m
  exact hz.like a b c
theorem Qc1{α:Type}[DecidableEq α]:∀{l s:List α},l.Nodup->(∀x∈l,x∈s)->l.length<=s.length
 | [],_,_,_=>Nat.zero_le _
 |a::l,s,h,hs=>by
  obtain⟨h1,h2⟩:=List.nodup_cons.1 h
  have ha:=hs a (List.mem_cons_self ..)
  have:=Qc1 (s:=s.erase a) h2 fun x hx=>(List.mem_erase_of_ne (fun e=>by subst e;exact h1 hx)).2 (hs x (List.mem_cons_of_mem _ hx))
  rw[List.length_erase_of_mem ha] at this
  have hp:=List.length_pos_of_mem ha
  rw[List.length_cons];omega
def prs2:Nat->List RE->List (Nat×Int)
 |_,[]=> []
 |a,e::l=>(a,e.term)::prs2 (a+1) l
theorem QoC:∀(l:List RE) (a:Nat),(prs2 a l).length=l.length
 | [],_=>rfl
 |e::l,a=>by show(prs2 (a+1) l).length+1=_;rw[QoC l];rfl
theorem QhZ:∀{l:List RE}{a:Nat}{c:Nat×Int},c∈prs2 a l->∃q e,l[q]? =some e/\c=(a+q,e.term)
 |e::l,a,c,h=>by
  rcases List.mem_cons.1 h with z|z
  ·exact⟨0,e,rfl,z⟩
  ·obtain⟨q,e',h1,h2⟩:=QhZ z
   exact⟨q+1,e',by simpa using h1,by rw[h2];congr 1;omega⟩
theorem Qhh:∀(l:List RE) (a:Nat),(prs2 a l).Nodup
 | [],_=>List.nodup_nil
 |e::l,a=>List.nodup_cons.2 ⟨fun h=>by
   obtain⟨q,e',_,h2⟩:=QhZ h
   have:=congrArg Prod.fst h2
   have:a=a+1+q:=this
   omega,Qhh l _⟩
def QgZ(l:List RE)(a:Nat):Option Int:=l[a]?.map (·.term)
theorem QhT{p q:List RE}(h:p<+:q){a:Nat}(ha:a<p.length):QgZ q a=QgZ p a:=by unfold QgZ;rw[Qbv h ha]
theorem QlT{l:List RE}{a:Nat}(h:l.length<=a):QgZ l a=none:=by unfold QgZ;rw[List.getElem?_eq_none h];rfl
theorem QlS{l:List RE}{a:Nat}{u:Int}(h:QgZ l a=some u):a<l.length:=by
 refine Nat.lt_of_not_le fun z=> ?_
 rw[QlT z] at h;cases h
theorem lm_same{p q:List RE}(hp:LM g p)(hq:LM g q){a b:Nat}{u:Int}(h1:QgZ p a=some u)(h2:QgZ q a=some u)(hb:b<=a):QgZ p b=QgZ q b:=by
 have key:∀{l:List RE},LM g l->QgZ l a=some u->l.take (a+1)<+:g.ll u/\QgZ l b=QgZ (g.ll u) b:=fun{l} hl h=>by
  have ha:=QlS h
  have h3:=hl a ha
  have h4:l[a].term=u:=by
   unfold QgZ at h
   rw[List.getElem?_eq_getElem ha] at h
   injection h
  rw[h4] at h3
  refine⟨h3, ?_⟩
  have hlen:(l.take (a+1)).length=a+1:=by rw[List.length_take];omega
  rw[QhT h3 (by omega),QhT (QbT l (a+1)) (by omega)]
 rw[(key hp h1).2,(key hq h2).2]
inductive AcS(g:GH)(X:RN):Nat->List (Nat×Int)->List Int->Prop
 |c0:AcS g X 0 [] []
 |c1 (q:Nat) (V:List (Nat×Int)) (W:List Int) (tw:Int):W.length=2*q+1->tw∈W->(∀t∈W,t<=tw)->tw<=X.term->(X.term=tw->X.log<+:g.ll tw)->(∀c∈V,QgZ X.log c.1=some c.2)->AcS g X q V W
 |c2 (q:Nat) (V:List (Nat×Int)) (W:List Int) (tw:Int) (L:List RE) (p:Nat):W.length=2*q+2->tw∈W->(∀t∈W,t<=tw)->tw<=X.term->(X.term=tw->X.log<+:g.ll tw)->LM g L->p<X.log.length->QgZ L p≠QgZ X.log p->(∀c∈V,QgZ X.log c.1=some c.2\/QgZ L c.1=some c.2)->AcS g X q V W
structure Ac(g:GH)(cr:List (Nat×Int))(ls:List Int)(X:RN)(q:Nat)(V:List (Nat×Int))(W:List Int):Prop where
 s:AcS g X q V W
 nd:V.Nodup
 sub:∀c∈V,c∈cr
 wn:W.Nodup
 wl:∀t∈W,t∈ls
theorem Ac.start(cr:List (Nat×Int))(ls:List Int)(X:RN):Ac g cr ls X 0 [] []:=⟨.c0,List.nodup_nil,fun c h=>(by cases h),List.nodup_nil,fun c h=>(by cases h)⟩
variable {q:Nat}{V cr cr':List (Nat×Int)}{W:List Int}
theorem Ac.total(h:Ac g cr ls X q V W){E n:Nat}(hE:cr.length<=E)(hn:ls.length<=2*n):q*E+V.length<=n*E:=by
 have h1:=Qc1 h.nd h.sub
 have h2:=Qc1 h.wn h.wl
 have hq:(V= []/\q=0)\/q+1<=n:=by
  cases h.s with
  |c0=>exact .inl ⟨rfl,rfl⟩
  |c1 q V W tw e=>right;omega
  |c2 q V W tw L p e=>right;omega
 rcases hq with⟨e1,e2⟩|e
 ·rw[e1,e2];simp
 ·have:(q+1)*E<=n*E:=Nat.mul_le_mul_right _ e
  rw[Nat.succ_mul] at this
  omega
theorem Ac.more(h:Ac g cr ls X q V W)(hc:∀c∈cr,c∈cr'):Ac g cr' ls X q V W:=⟨h.s,h.nd,fun c x=>hc c (h.sub c x),h.wn,h.wl⟩
theorem Ac.quiet(h:Ac g cr ls X q V W)(G:GLe g g')(h1:Y.log=X.log)(h2:X.term<=Y.term):Ac g' cr ls Y q V W:=by
 refine⟨?_,h.nd,h.sub,h.wn,h.wl⟩
 cases h.s with
 |c0=>exact .c0
 |c1 q V W tw a1 a2 a3 a4 a5 a6=>exact .c1 q V W tw a1 a2 a3 (by omega) (fun e=>by rw[h1];exact(a5 (by omega)).trans (G.ll _)) (by rw[h1];exact a6)
 |c2 q V W tw L p a1 a2 a3 a4 a5 a6 a7 a8 a9=>exact .c2 q V W tw L p a1 a2 a3 (by omega) (fun e=>by rw[h1];exact(a5 (by omega)).trans (G.ll _)) (a6.grow G) (by rw[h1];exact a7) (by rw[h1];exact a8) (by rw[h1];exact a9)
theorem Ac.write(h:Ac g cr ls X q V W)(G:GLe g g'){p:Nat}(hX:LM g X.log)(hY:LM g' Y.log)(hp:p<=X.log.length)(hp2:p<Y.log.length)(hne:QgZ X.log p≠QgZ Y.log p)(ht:X.term<=Y.term)(hll:Y.log<+:g'.ll Y.term)(hls:Y.term∈ls)(hc:∀c∈cr,c∈cr')(hnew:∀c∈prs2 p (Y.log.drop p),c∈cr'){E:Nat}(hE:cr.length<=E):
  ∃q' V' W',Ac g' cr' ls Y q' V' W'/\q*E+V.length+(Y.log.length -p)<=q'*E+V'.length:=by
 have hN:(prs2 p (Y.log.drop p)).length=Y.log.length -p:=by rw[QoC,List.length_drop]
 have hNm:∀c∈prs2 p (Y.log.drop p),p<=c.1/\QgZ Y.log c.1=some c.2:=fun c hc=>by
  obtain⟨a,e,h1,h2⟩:=QhZ hc
  rw[List.getElem?_drop] at h1
  rw[h2]
  exact⟨Nat.le_add_right ..,by unfold QgZ;rw[h1];rfl⟩
 have hXg:=hX.grow G
 have fresh:∀{V:List (Nat×Int)},(∀c∈V,QgZ X.log c.1=some c.2)->∀c∈V,c∉prs2 p (Y.log.drop p):=fun{V} hv c h1 h2=>by
  obtain⟨h3,h4⟩:=hNm c h2
  exact hne (lm_same hXg hY (hv c h1) h4 h3)
 have same:∀{tw:Int},(X.term=tw->X.log<+:g.ll tw)->Y.term=tw->tw<=X.term->X.log<+:Y.log/\p=X.log.length:=fun{tw} a5 e a4=>by
  have h1:X.log<+:g'.ll Y.term:=by rw[e];exact(a5 (by omega)).trans (G.ll _)
  have h2:p=X.log.length:=Decidable.byContradiction fun z=>hne (by rw[<-QhT h1 (by omega),QhT hll hp2])
  exact⟨QeC h1 hll (by omega),h2⟩
 have keep:X.log<+:Y.log->∀{c:Nat×Int},QgZ X.log c.1=some c.2->QgZ Y.log c.1=some c.2:=fun hpre c h=>by rw[QhT hpre (QlS h)];exact h
 cases h.s with
 |c0=>
  refine⟨0,prs2 p (Y.log.drop p),[Y.term],⟨.c1 0 _ _ Y.term rfl (List.mem_singleton.2 rfl) (fun t h=>by rw[List.mem_singleton.1 h];exact Int.le_refl _) (Int.le_refl _) (fun _=>hll) fun c hc=>(hNm c hc).2,Qhh ..,hnew,List.nodup_cons.2 ⟨fun h=>(by cases h),List.nodup_nil⟩,fun t h=>by rw[List.mem_singleton.1 h];exact hls⟩, ?_⟩
  rw[hN];simp
 |c1 q V W tw a1 a2 a3 a4 a5 a6=>
  by_cases e:Y.term=tw
  ·obtain⟨h1,h2⟩:=same a5 e a4
   refine⟨q,V++prs2 p (Y.log.drop p),W,⟨.c1 q _ W tw a1 a2 a3 (by omega) (fun _=>by rw[<-e];exact hll) fun c hc=> ?_,List.nodup_append.2 ⟨h.nd,Qhh ..,fun c hc d hd e=>fresh a6 c hc (by rw[e];exact hd)⟩,fun c hx=> ?_,h.wn,h.wl⟩, ?_⟩
   ·rcases List.mem_append.1 hc with z|z
    ·exact keep h1 (a6 c z)
    ·exact(hNm c z).2
   ·rcases List.mem_append.1 hx with z|z
    ·exact hc c (h.sub c z)
    ·exact hnew c z
   ·rw[List.length_append,hN];omega
  ·refine⟨q,V++prs2 p (Y.log.drop p),Y.term::W,⟨.c2 q _ _ Y.term X.log p (by rw[List.length_cons,a1]) (List.mem_cons_self ..) (fun t h=> ?_) (Int.le_refl _) (fun _=>hll) hXg hp2 hne fun c hc=> ?_,List.nodup_append.2 ⟨h.nd,Qhh ..,fun c hc d hd e=>fresh a6 c hc (by rw[e];exact hd)⟩,fun c hx=> ?_,List.nodup_cons.2 ⟨fun z=> ?_,h.wn⟩,fun t ht=> ?_⟩, ?_⟩
   ·rcases List.mem_cons.1 h with z|z
    ·rw[z];exact Int.le_refl _
    ·have:=a3 t z;omega
   ·rcases List.mem_append.1 hc with z|z
    ·exact .inr (a6 c z)
    ·exact .inl (hNm c z).2
   ·rcases List.mem_append.1 hx with z|z
    ·exact hc c (h.sub c z)
    ·exact hnew c z
   ·have:=a3 _ z;omega
   ·rcases List.mem_cons.1 ht with z|z
    ·rw[z];exact hls
    ·exact h.wl t z
   ·rw[List.length_append,hN];omega
 |c2 q V W tw L p' a1 a2 a3 a4 a5 a6 a7 a8 a9=>
  by_cases e:Y.term=tw
  ·obtain⟨h1,h2⟩:=same a5 e a4
   have a6':=a6.grow G
   have hYp:QgZ Y.log p'=QgZ X.log p':=QhT h1 a7
   refine⟨q,V++prs2 p (Y.log.drop p),W,⟨.c2 q _ W tw L p' a1 a2 a3 (by omega) (fun _=>by rw[<-e];exact hll) a6' (by have:=Qbf h1;omega) (by rw[hYp];exact a8) fun c hc=> ?_,List.nodup_append.2 ⟨h.nd,Qhh ..,fun c hc d hd e=> ?_⟩,fun c hx=> ?_,h.wn,h.wl⟩, ?_⟩
   ·rcases List.mem_append.1 hc with z|z
    ·exact(a9 c z).imp (keep h1) id
    ·exact .inl (hNm c z).2
   ·subst e
    obtain⟨h3,h4⟩:=hNm c hd
    rcases a9 c hc with z|z
    ·have:=QlS z;omega
    ·exact a8 (by rw[<-hYp];exact lm_same a6' hY z h4 (by omega))
   ·rcases List.mem_append.1 hx with z|z
    ·exact hc c (h.sub c z)
    ·exact hnew c z
   ·rw[List.length_append,hN];omega
  ·refine⟨q+1,prs2 p (Y.log.drop p),Y.term::W,⟨.c1 (q+1) _ _ Y.term (by rw[List.length_cons,a1];omega) (List.mem_cons_self ..) (fun t h=> ?_) (Int.le_refl _) (fun _=>hll) fun c hc=>(hNm c hc).2,Qhh ..,hnew,List.nodup_cons.2 ⟨fun z=> ?_,h.wn⟩,fun t ht=> ?_⟩, ?_⟩
   ·rcases List.mem_cons.1 h with z|z
    ·rw[z];exact Int.le_refl _
    ·have:=a3 t z;omega
   ·have:=a3 _ z;omega
   ·rcases List.mem_cons.1 ht with z|z
    ·rw[z];exact hls
    ·exact h.wl t z
   ·have:=Qc1 h.nd h.sub
    rw[hN,Nat.succ_mul];omega
end
end Go.Proofs.YtniojdaddolnfaaGreat
