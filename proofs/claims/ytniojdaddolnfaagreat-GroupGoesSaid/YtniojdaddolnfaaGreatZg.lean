/-
  Several of the proof's texts in one, squeezed: a claim may have 1,500,000 bytes.
-/
import Derived.Test.YtniojdaddolnfaaGreatZf
import Derived.Test.YtniojdaddolnfaaGreatZc
import Derived.Test.YtniojdaddolnfaaGreatZd
import Derived.Test.YtniojdaddolnfaaGreatZb
import Derived.Test.YtniojdaddolnfaaGreatProg
set_option linter.unusedVariables false
set_option linter.unusedSimpArgs false
namespace Go.Proofs.YtniojdaddolnfaaGreat
section
variable {k X0 LC M bd E Zb l x:Nat}{g g':GH}{i f j S S':Nat}{X Y F L W:RN}{m:RM}{C C':CS}{r A D:List RM}{dr t T0 U U' v Tm:Int}{data:ByteArray}{ls:List Int}{B n1 n2:Nat}{G:GS}{q:GN}
theorem out5(d:Dl k g S C m r X)(h':CInv k g' S' (QaX C))(hk:2<=k)(hl:X.log.length<1024):∀o∈(Qaa X m).out.take (512 -r.length),o.kind=5->(Qaa X m).role=3/\o.term=(Qaa X m).term/\o.ents<+:(Qaa X m).log.drop o.index.toNat:=by
 intro o x h5
 have c:=d.c
 have hmem:o∈(QaX C).net:=by rw[d.net];exact List.mem_append_right _ x
 have hr3:(Qaa X m).role=3:=Decidable.byContradiction fun y=>Qjh d.cb c d.w.2.2 d.to y hl o (Qad x) h5
 have hnd:=h'.nd c.ni.ik
 rw[d.self] at hnd
 have Ld:=(h'.node _ _ hnd).ni.lead hr3
 obtain⟨b1,b2,b3,b4,_,b6,_⟩:=(h'.net o hmem).1.2.2.1 h5
 have hh:∀o∈(Qaa X m).out,o.kind=5->o.term=(Qaa X m).term:=by
  by_cases h3:X.role=3
  ·rcases Qdo d.cb c h3 hr3 with⟨q1,q2,q3⟩|⟨h6,htm,hY⟩
   ·exact fun o ho h5=>absurd h5 (q3_of q3 o ho)
   ·obtain⟨q,nx,T1,T2,hfm,_⟩:=Qhr d.h d.n d.x h3 h6 htm hY
    intro o ho h5
    rw[hfm.out] at ho
    rcases List.mem_append.1 ho with e|e
    ·rcases hfm.t1 with e1|⟨W,a1,a2,a3,_,a4⟩
     ·rw[e1] at e;cases e
     ·rw[a4] at e
      obtain⟨t,_,rfl⟩:=List.mem_map.1 e
      exact a2.trans hfm.term.symm
    ·rcases hfm.t2 with e1|⟨W,a1,a2,a3,_,a4⟩
     ·rw[e1] at e;cases e
     ·rw[a4,List.mem_singleton] at e
      subst e
      exact a2.trans hfm.term.symm
  ·obtain⟨k4,e1,hr2,_,_,hY⟩:=Qcd d.cb c d.w.2.2 d.to h3 hr3
   obtain⟨Z,z0,z1,z2,z3,z4,z5,z6,z7,W,w1,w2,_,w4,w5⟩:=QcI c hr2 hk (by omega) (X.votes|||2^m.from_.toNat)
   rw[z0] at hY
   intro o ho h5
   rw[hY,w5,c.out,List.nil_append] at ho
   obtain⟨t,_,rfl⟩:=List.mem_map.1 ho
   rw[hY]
   exact w2.trans z2.symm
 have hot:=hh o (Qad x) h5
 have hll:g'.ll o.term=(Qaa X m).log:=by rw[hot];exact Ld.ll
 rw[hll] at b6
 exact⟨hr3,hot,b6⟩
theorem tick5(h:CInv k g S C)(h':CInv k g' S' (Qal C i dr))(hk:2<=k)(hi:i<k):∀o∈(Qah (nd C i) dr).out.take (512 -C.net.length),o.kind=5->(Qah (nd C i) dr).role=3/\o.term=(Qah (nd C i) dr).term/\o.ents<+:(Qah (nd C i) dr).log.drop o.index.toNat:=by
 intro o x h5
 have hX:=h.nd hi
 have c:=h.node i _ hX
 have x':=Qad x
 have hmem:o∈(Qal C i dr).net:=by rw[Qbn h hX];exact List.mem_append_right _ x
 have hr3:(Qah (nd C i) dr).role=3:=by
  rcases Qff c hk o x' with e|⟨_,_,e⟩
  ·omega
  ·exact e
 obtain⟨k1,_,_,_,_,_,k7⟩:=Qb5 (dr:=dr) c hk
 have hnd:=h'.nd hi
 rw[Qaw h hX] at hnd
 have Ld:=(h'.node _ _ hnd).ni.lead hr3
 obtain⟨b1,b2,b3,b4,_,b6,_⟩:=(h'.net o hmem).1.2.2.1 h5
 have hot:o.term=(Qah (nd C i) dr).term:=by
  rw[k1]
  cases Qa2 (dr:=dr) c with
  |quiet h1 h2 h3 h4=>rw[h4] at x';cases x'
  |beat W h1 h2 a1 a2 a3 a4 a5 a6 a7=>
   rw[a7] at x'
   obtain⟨t,_,rfl⟩:=List.mem_map.1 x'
   exact a3
  |down h1 h2 h3 h4=>rw[h4] at hr3;exact absurd hr3 (by decide:¬(0:Int)=3)
  |wait h1 h2 h3=>exact absurd (k7 hr3) h1
  |ask h1 h2 h3 h4=>exact absurd (k7 hr3) h1
 have hll:g'.ll o.term=(Qah (nd C i) dr).log:=by rw[hot];exact Ld.ll
 rw[hll] at b6
 exact⟨hr3,hot,b6⟩
def prIn(cr:List (Nat×Int))(l:List RE)(a:Nat):Prop:=∀q e,l[q]? =some e->(a+q,e.term)∈cr
structure PC(k:Nat)(cr:List (Nat×Int))(C:CS):Prop where
 nd:∀f,f<k->prIn cr (nd C f).log 0
 net:∀m∈C.net,m.kind=5->prIn cr m.ents m.index.toNat
def Dk(g:GH)(cr:List (Nat×Int))(ls:List Int)(B:Nat)(X:RN)(b:List UInt8):Prop:=∃q V W,Ac g cr ls X q V W/\b.length<=B+25*hm X+127*(q*416+V.length)
structure DE(k:Nat)(ls:List Int)(B n1:Nat)(U:Int)(g:GH)(S:Nat)(G:GS)(C:CS):Prop where
 rel:Rel G C
 c:CInv k g S C
 tb:TmB k U C
 l5:∀m∈C.net,m.kind=5->m.term∈ls
 cr:∃(cr:List (Nat×Int)) (us:List Int),us.Nodup/\(∀t∈us,t∈ls/\g.ll t≠ [])/\cr.length<=400+us.length+n1/\PC k cr C/\∀j q,G.l[j]? =some q->Dk g cr ls B (nd C j) q.b
inductive Wr(g g':GH)(ls:List Int)(net0:List RM)(X Y:RN):Nat->Prop
 |no:Y.log=X.log->Y.from_=0->Wr g g' ls net0 X Y 0
 |app (m:RM) (p:Nat):m∈net0->m.kind=5->Y.from_=(p:Int)+1->p<=X.log.length->m.index.toNat<=p->p<Y.log.length->(∀a,m.index.toNat<=a->a<Y.log.length->Y.log[a]? =m.ents[a -m.index.toNat]?)->QgZ X.log p≠QgZ Y.log p->Y.log<+:g'.ll Y.term->Y.term=m.term->Wr g g' ls net0 X Y 0
 |lead (e:RE):Y.log=X.log++ [e]->e.term=Y.term->Y.from_=(X.log.length:Int)+1->g'.ll Y.term=Y.log->Y.term∈ls->g.ll Y.term= []->Wr g g' ls net0 X Y 0
 |pro (e:RE):Y.log=X.log++ [e]->e.term=Y.term->Y.from_=(X.log.length:Int)+1->g'.ll Y.term=Y.log->Y.term∈ls->Wr g g' ls net0 X Y 1
theorem prIn.more{cr cr':List (Nat×Int)}{l:List RE}{a:Nat}(h:prIn cr l a)(hc:∀c∈cr,c∈cr'):prIn cr' l a:=fun q e he=>hc _ (h q e he)
theorem prIn_snoc{cr:List (Nat×Int)}{l:List RE}{e:RE}(h:prIn cr l 0):prIn ((l.length,e.term)::cr) (l++ [e]) 0:=fun a x hx=>by
 rcases Nat.lt_or_ge a l.length with h1|h1
 ·rw[List.getElem?_append_left h1] at hx
  exact List.mem_cons_of_mem _ (h a x hx)
 ·have hlt:=(List.getElem?_eq_some_iff.1 hx).1
  rw[List.length_append,List.length_singleton] at hlt
  have:a=l.length:=by omega
  subst this
  rw[List.getElem?_append_right (Nat.le_refl _),Nat.sub_self] at hx
  injection hx with hx
  rw[<-hx,Nat.zero_add]
  exact List.mem_cons_self ..
theorem wr_core{cr:List (Nat×Int)}{us:List Int}(wr:Wr g g' ls C.net X Y n2)(sv:SV X Y)(GL:GLe g g')(pc:PC k cr C)(hlog0:prIn cr X.log 0)(u1:us.Nodup)(u2:∀t∈us,t∈ls/\g.ll t≠ [])(u3:cr.length<=400+us.length+n1):
  ∃(cr':List (Nat×Int)) (us':List Int),(∀c∈cr,c∈cr')/\us'.Nodup/\(∀t∈us',t∈ls/\g'.ll t≠ [])/\cr'.length<=400+us'.length+(n1+n2)/\prIn cr' Y.log 0:=by
 have hus:∀t∈us,t∈ls/\g'.ll t≠ []:=fun t h=>⟨(u2 t h).1,QiC (GL.ll t) (u2 t h).2⟩
 cases wr with
 |no a1 a2=>exact⟨cr,us,fun c h=>h,u1,hus,by omega,by rw[a1];exact hlog0⟩
 |app m p a1 a2 a3 a4 a5 a6 a7 a8 a9 a10=>
  refine⟨cr,us,fun c h=>h,u1,hus,by omega,fun a x hx=> ?_⟩
  obtain⟨_,_,n3⟩:=sv.new (by omega)
  rw[show Y.from_.toNat -1=p by omega] at n3
  have hlt:=(List.getElem?_eq_some_iff.1 hx).1
  by_cases hap:a<p
  ·refine hlog0 a x ?_
   rw[<-List.getElem?_take_of_lt hap,<-n3,List.getElem?_take_of_lt hap];exact hx
  ·rw[a7 a (by omega) hlt] at hx
   have:=pc.net m a1 a2 _ x hx
   rwa[show m.index.toNat+(a -m.index.toNat)=0+a by omega] at this
 |lead e a1 a2 a3 a4 a5 a6=>
  refine⟨(X.log.length,e.term)::cr,Y.term::us,fun c h=>List.mem_cons_of_mem _ h,List.nodup_cons.2 ⟨fun z=>(u2 _ z).2 a6,u1⟩,fun t h=> ?_,by rw[List.length_cons,List.length_cons];omega,by rw[a1];exact prIn_snoc hlog0⟩
  rcases List.mem_cons.1 h with z|z
  ·rw[z]
   exact⟨a5,by rw[a4,a1];simp⟩
  ·exact hus t z
 |pro e a1 a2 a3 a4 a5=>
  exact⟨(X.log.length,e.term)::cr,us,fun c h=>List.mem_cons_of_mem _ h,u1,hus,by rw[List.length_cons];omega,by rw[a1];exact prIn_snoc hlog0⟩
theorem pc_put{cr cr':List (Nat×Int)}(pc:PC k cr C)(hik:i<C.x.length)(v1:∀c∈cr,c∈cr')(v5:prIn cr' Y.log 0){net:List RM}(hn:∀m∈net,m∈C.net)(hcap:net.length<=512)(h5:∀o∈Y.out.take (512 -net.length),o.kind=5->o.ents<+:Y.log.drop o.index.toNat):PC k cr' (Qg8 C i Y net):=by
 have hnet:=Qdq (C:=C) (i:=i) (Y:=Y) hcap
 refine⟨fun f hf=> ?_,fun m hm h5'=> ?_⟩
 ·by_cases e:f=i
  ·subst e;rw[Qhk hik];exact v5
  ·rw[Qc2 e];exact(pc.nd f hf).more v1
 ·rw[hnet] at hm
  rcases List.mem_append.1 hm with z|z
  ·exact(pc.net m (hn m z) h5').more v1
  ·have w3:=h5 m z h5'
   intro a e he
   have h1:(Y.log.drop m.index.toNat)[a]? =some e:=by rw[Qbv w3 (List.getElem?_eq_some_iff.1 he).1];exact he
   rw[List.getElem?_drop] at h1
   have:=v5 _ e h1
   rwa[Nat.zero_add] at this
theorem snoc_ne{e:RE}(h:Y.log=X.log++ [e]):QgZ X.log X.log.length≠QgZ Y.log X.log.length:=by
 rw[QlT (Nat.le_refl _),h]
 unfold QgZ
 rw[List.getElem?_append_right (Nat.le_refl _),Nat.sub_self]
 exact fun z=>by cases z
theorem Qko{net:List RM}{e:Int}(hfit:q.b.length+(Qao (Qav Y)).length<=1048576):Qa7 ⟨G.l,net⟩ i q Y e=(⟨G.l.set i ⟨some (Qae Y),q.b++Qao (Qav Y),(q.b++Qao (Qav Y)).length⟩,(net++Y.out).take 512⟩,e):=by
 have hf:=Qof (Qav Y) q.b hfit
 unfold Qa7
 rw[if_pos (by rw[hf]),hf]
theorem set_seat{q' x:GN}(hi:i<G.l.length)(hx:(G.l.set i q')[j]? =some x):(j=i/\x=q')\/(j≠i/\G.l[j]? =some x):=by
 by_cases e:j=i
 ·subst e
  rw[List.getElem?_set_self hi] at hx
  injection hx with hx
  exact .inl ⟨rfl,hx.symm⟩
 ·rw[List.getElem?_set_ne (fun x=>e x.symm)] at hx
  exact .inr ⟨e,hx⟩
theorem DE.put(D:DE k ls B n1 U g S G C)(hX:C.x[i]? =some X)(hq:G.l[i]? =some q){net:List RM}(hn:∀m∈net,m∈C.net)(hcap:net.length<=512)(h':CInv k g' S' (Qg8 C i Y net))(GL:GLe g g')(tb':TmB k U' (Qg8 C i Y net))(sv:SV X Y)(hs:Hs X Y)(ht:X.term<=Y.term)(wr:Wr g g' ls C.net X Y n2)
  (h5:∀o∈Y.out.take (512 -net.length),o.kind=5->Y.term∈ls/\o.term=Y.term/\o.ents<+:Y.log.drop o.index.toNat) (hB:B<=505000) (hU:U'<=2000) (hls:ls.length<=15) (hn1:n1+n2<=1) {e:Int}:
  DE k ls B (n1+n2) U' g' S' (Qa7 ⟨G.l,net⟩ i q Y e).1 (Qg8 C i Y net)/\(Qa7 ⟨G.l,net⟩ i q Y e).2=e:=by
 obtain⟨cr,us,u1,u2,u3,pc,dk⟩:=D.cr
 have hik:i<C.x.length:=(List.getElem?_eq_some_iff.1 hX).1
 have hi:i<k:=by rw[<-D.c.len];exact hik
 have hndX:nd C i=X:=Qcc hX
 have cX:=D.c.node i X hX
 have hself:nd (Qg8 C i Y net) i=Qae Y:=Qhk hik
 have hYx:=h'.nd hi
 rw[hself] at hYx
 have cY:=h'.node i _ hYx
 have hYl:Y.log.length<=1024:=cY.bn.l
 have hYd:∀e∈Y.log,e.data.size<=100:=cY.ni.d.lm.d h'.gi
 have hYlm:LM g' Y.log:=cY.ni.d.lm
 have hYt:Y.term<=U':=by have:=tb'.1 i hi;rw[hself] at this;exact this
 have hYt0:0<=Y.term:=cY.bn.t.1
 have hlog0:prIn cr X.log 0:=by have:=pc.nd i hi;rwa[hndX] at this
 obtain⟨cr',us',v1,v2,v3,v4,v5⟩:=wr_core wr sv GL pc hlog0 u1 u2 u3
 have v6:(Y.from_=0/\Y.log=X.log)\/∃p:Nat,Y.from_=(p:Int)+1/\p<=X.log.length/\p<Y.log.length/\QgZ X.log p≠QgZ Y.log p/\Y.log<+:g'.ll Y.term/\Y.term∈ls:=by
  cases wr with
  |no a1 a2=>exact .inl ⟨a2,a1⟩
  |app m p a1 a2 a3 a4 a5 a6 a7 a8 a9 a10=>exact .inr ⟨p,a3,a4,a6,a8,a9,by rw[a10];exact D.l5 m a1 a2⟩
  |lead e a1 a2 a3 a4 a5 a6=>exact .inr ⟨_,a3,Nat.le_refl _,by rw[a1,List.length_append,List.length_singleton];omega,snoc_ne a1,by rw[a4];exact List.prefix_refl _,a5⟩
  |pro e a1 a2 a3 a4 a5=>exact .inr ⟨_,a3,Nat.le_refl _,by rw[a1,List.length_append,List.length_singleton];omega,snoc_ne a1,by rw[a4];exact List.prefix_refl _,a5⟩
 have hus:=Qc1 v2 fun t h=>(v3 t h).1
 have hcr:cr'.length<=416:=by omega
 obtain⟨q0,V,W,ac,hb⟩:=dk i q hq
 rw[hndX] at ac hb
 have hcr0:cr.length<=416:=by
  have:=Qc1 u1 fun t h=>(u2 t h).1
  omega
 have hbytes:=Qj9 hYd
 have hsl:=saved_len sv hYl
 have new:∃q1 V1 W1,Ac g' cr' ls Y q1 V1 W1/\q.b.length+(Qao (Qav Y)).length<=B+25*hm Y+127*(q1*416+V1.length):=by
  have hh:25*hm X+(if Y.hard=true then 25 else 0)<=25*hm Y:=by
   have:=hs.le
   split
   ·rename_i e;have:=hs.lt e;omega
   ·omega
  rcases v6 with⟨e1,e2⟩|⟨p,e1,e2,e3,e4,e5,e6⟩
  ·refine⟨q0,V,W,(ac.quiet GL e2 ht).more v1, ?_⟩
   rw[if_pos e1] at hsl
   omega
  ·obtain⟨q1,V1,W1,ac1,hle⟩:=ac.write GL cX.ni.d.lm hYlm e2 e3 e4 ht e5 e6 v1 (fun c hc=>by
    obtain⟨a,e,h1,h2⟩:=QhZ hc
    rw[List.getElem?_drop] at h1
    have:=v5 _ e h1
    rw[Nat.zero_add] at this
    rw[h2];exact this) hcr0
   refine⟨q1,V1,W1,ac1, ?_⟩
   rw[if_neg (by omega),show Y.from_.toNat -1=p by omega] at hsl
   omega
 obtain⟨q1,V1,W1,ac1,hb1⟩:=new
 have htot:=ac1.total hcr (n:=8) (by omega)
 have hhm:=hm_le Y
 have hfit:q.b.length+(Qao (Qav Y)).length<=1048576:=by omega
 have hrel0:Rel ⟨G.l,net⟩ ⟨C.x,net⟩:=⟨rfl,D.rel.x⟩
 have hrel:Rel (Qa7 ⟨G.l,net⟩ i q Y e).1 (Qg8 C i Y net):=rel_comes hrel0 (by rw[Qof _ _ hfit])
 have hgc:=Qko (G:=G) (i:=i) (net:=net) (e:=e) hfit
 have hnet:=Qdq (C:=C) (i:=i) (Y:=Y) hcap
 refine⟨⟨hrel,h',tb',fun m hm h5'=> ?_,cr',us',v2,v3,v4,pc_put pc hik v1 v5 hn hcap fun o ho h=>(h5 o ho h).2.2,fun j q' hq'=> ?_⟩,by rw[hgc]⟩
 ·rw[hnet] at hm
  rcases List.mem_append.1 hm with z|z
  ·exact D.l5 m (hn m z) h5'
  ·obtain⟨w1,w2,_⟩:=h5 m z h5'
   rw[w2];exact w1
 ·rw[hgc] at hq'
  rcases set_seat (List.getElem?_eq_some_iff.1 hq).1 hq' with⟨e,e2⟩|⟨e,e2⟩
  ·subst e
   subst e2
   rw[hself]
   refine⟨q1,V1,W1,ac1.quiet (Y:=Qae Y) (GLe.refl g') rfl (Int.le_refl _), ?_⟩
   show(q.b++Qao (Qav Y)).length<=_
   rw[List.length_append]
   exact hb1
  ·obtain⟨q2,V2,W2,ac2,hb2⟩:=dk j q' e2
   rw[Qc2 e]
   exact⟨q2,V2,W2,(ac2.quiet GL rfl (Int.le_refl _)).more v1,hb2⟩
end
section
variable {k X0 LC M bd E Zb l x:Nat}{g g':GH}{i f S S':Nat}{X Y F L W:RN}{m:RM}{C C':CS}{r A D:List RM}{dr t T0 U U' v Tm:Int}{data:ByteArray}{ls:List Int}{B n1 n2:Nat}{G:GS}{q:GN}{s:ST}
theorem Rel.seat(h:Rel G C)(hX:C.x[i]? =some X):∃q,G.l[i]? =some q/\q.node=some X:=by
 have:=congrArg (·[i]?) h.x
 simp only[List.getElem?_map,hX] at this
 cases hq:G.l[i]? with
 |none=>rw[hq] at this;cases this
 |some q=>rw[hq] at this;injection this with hn;exact⟨q,rfl,hn⟩
theorem prs2_in{cr:List (Nat×Int)}{l:List RE}(h:prIn cr l 0):l.length<=cr.length:=by
 have:=Qc1 (Qhh l 0) (s:=cr) fun c hc=>by
  obtain⟨q,e,h1,h2⟩:=QhZ hc
  rw[h2];exact h q e h1
 rwa[QoC] at this
theorem DE.len(D:DE k ls B n1 U g S G C)(hls:ls.length<=15)(hn1:n1<=1)(hi:i<k):(nd C i).log.length<=416:=by
 obtain⟨cr,us,u1,u2,u3,pc,dk⟩:=D.cr
 have h1:=prs2_in (pc.nd i hi)
 have h2:=Qc1 u1 fun t h=>(u2 t h).1
 omega
theorem tick_save(c:CN k g S i X)(hk:2<=k):(Qah X dr).from_=0/\(Qah X dr).hard=false/\(Qah X dr).vote=X.vote:=by
 have h1:=c.from_
 have h2:=c.hard
 have hb:∀Z:RN,Z.from_=0->Z.hard=false->(QeP Z).from_=0/\(QeP Z).hard=false/\(QeP Z).vote=Z.vote:=fun Z a b=>by
  unfold QeP
  split<;>exact⟨a,b,rfl⟩
 unfold Qah
 generalize (if 0>dr then 0 else dr)%X.elect=d
 split
 ·unfold Qk8
  split
  ·split
   ·unfold Qai
    rw[if_neg (by show ¬X.term>X.term;omega)]
    exact⟨h1,h2,rfl⟩
   ·exact hb _ h1 h2
  ·exact hb _ h1 h2
 ·split
  ·rw[QdQ c hk];exact⟨h1,h2,rfl⟩
  ·exact⟨h1,h2,rfl⟩
theorem gDo_tick(h1:s.kind=1)(h2:s.node=i)(hq:G.l[i]? =some q)(hX:q.node=some X):gDo G s=Qa7 G i q (Qah X s.draw) 0:=by
 have hi:s.node.toNat=i:=by omega
 unfold gDo
 rw[if_pos (.inl h1)]
 unfold Qld
 rw[if_neg (by omega),hi]
 simp only[hq,hX]
 rw[if_neg (by omega),if_pos h1]
theorem gDo_pro(h1:s.kind=5)(h2:s.node=i)(hq:G.l[i]? =some q)(hX:q.node=some X):gDo G s=Qa7 G i q (Qam X s.data).1 (Qam X s.data).2.2:=by
 have hi:s.node.toNat=i:=by omega
 unfold gDo
 rw[if_pos (.inr (by omega))]
 unfold Qld
 rw[if_neg (by omega),hi]
 simp only[hq,hX]
 rw[if_neg (by omega),if_neg (by omega),if_pos h1]
def Qnf:ST:=⟨2,0,0,0,0,0,0,⟨#[]⟩⟩
theorem gDo_del(hn:G.net=m::r)(hto:0<=m.to)(hq:G.l[m.to.toNat]? =some q)(hX:q.node=some X):gDo G Qnf=Qa7 ⟨G.l,r⟩ m.to.toNat q (Qaa X m) 0:=by
 unfold gDo
 rw[if_neg (show ¬(Qnf.kind=1\/5<=Qnf.kind/\Qnf.kind<=7) by decide),if_pos (show 2<=Qnf.kind/\Qnf.kind<=8 by decide)]
 unfold gMsg
 rw[if_neg (show ¬Qnf.i<0 by decide)]
 have e0:G.net[Qnf.i.toNat]? =some m:=by rw[hn];rfl
 have e1:G.net.eraseIdx Qnf.i.toNat=r:=by rw[hn];rfl
 simp only[e0,e1]
 rw[if_neg (show ¬Qnf.kind=4 by decide),if_neg (show ¬Qnf.kind=3 by decide)]
 unfold gCome
 rw[if_neg (by omega)]
 simp only[hq,hX]
 rw[if_pos (show Qnf.kind=2 from rfl)]
theorem DE.tick(D:DE k ls B n1 U g S G C)(hk:2<=k)(hi:i<k)(h1:s.kind=1)(h2:s.node=i)(hlt:LT k ls (Qal C i s.draw))(hB:B<=505000)(hU:U+1<=2000)(hls:ls.length<=15)(hn1:n1<=1):
  ∃g' S',DE k ls B n1 (U+1) g' S' (gDo G s).1 (Qal C i s.draw)/\(gDo G s).2=0:=by
 have hX:=D.c.nd hi
 have c:=D.c.node i _ hX
 obtain⟨q,hq,hqX⟩:=D.rel.seat hX
 obtain⟨g',GL,h'⟩:=D.c.tick i s.draw
 obtain⟨s1,s2,s3⟩:=tick_save (dr:=s.draw) c hk
 have hkeep:=Qb5 (dr:=s.draw) c hk
 have ht0:=D.tb.1 i hi
 have tb':=Qoo (U':=U+1) (dr:=s.draw) D.c hk hi D.tb (by omega) (by omega)
 have h5:=tick5 D.c h' hk hi
 have hself:=Qaw (dr:=s.draw) D.c hX
 rw[gDo_tick h1 h2 hq hqX]
 have heq:Qal C i s.draw=Qg8 C i (Qah (nd C i) s.draw) C.net:=Qh8 hX
 have hG:G=⟨G.l,C.net⟩:=by rw[<-D.rel.net]
 rw[heq] at h' tb'
 have:=DE.put (e:=0) D hX hq (fun m hm=>hm) D.c.cap h' GL tb' (sv_tick (SV.start c.from_)) (Hs.same c.hard hkeep.1 s3 (s2.trans c.hard.symm)) (Int.le_of_eq hkeep.1.symm) (.no hkeep.2.1 s1) (fun o ho h=>by
  obtain⟨a1,a2,a3⟩:=h5 o ho h
  refine⟨?_,a2,a3⟩
  have:=hlt i hi (by rw[hself];exact a1)
  rw[hself] at this
  exact this) hB hU hls (by omega)
 rw[<-heq,<-hG] at this
 exact⟨g',_,this⟩
theorem wr_step(d:Dl k g S C m r X)(hk:2<=k)(hl:X.log.length<1024)(GL:GLe g g')(hlead:(Qaa X m).role=3->(Qaa X m).term∈ls/\g'.ll (Qaa X m).term=(Qaa X m).log):Wr g g' ls C.net X (Qaa X m) 0:=by
 have hmm:m∈C.net:=by rw[d.n];exact List.mem_cons_self ..
 have sf:=save_form d hk hl
 cases sf with
 |same a1 a2=>exact .no a1 a2
 |app p a1 a2 a3 a4 a5 a6 a7 a8 a9 a10 a11 a12 a13=>
  have hlen:(Qaa X m).log.length=m.index.toNat+m.ents.length:=by rw[a11,List.length_take];omega
  have hents:=(d.w.1.2.2.1 a1).2.2.2.2.2.1
  have hget:∀a,a<(Qaa X m).log.length->(Qaa X m).log[a]? =(g.ll m.term)[a]? :=fun a ha=>by rw[a11,List.getElem?_take_of_lt (by omega)]
  refine .app m p hmm a1 a6 a7 a8 (by omega) (fun a h1 h2=> ?_) ?_ ?_ a4
  ·rw[hget a h2]
   have:=Qh6 hents (q:=a -m.index.toNat) (by omega)
   rwa[show m.index.toNat+(a -m.index.toNat)=a by omega] at this
  ·by_cases e:p<X.log.length
   ·have:=a12 p e rfl
    unfold QgZ
    rw[hget p (by omega)]
    exact this
   ·rw[QlT (by omega)]
    unfold QgZ
    rw[hget p (by omega),List.getElem?_eq_getElem (by omega)]
    exact fun z=>by cases z
  ·rw[a4,a11]
   exact(QbT _ _).trans (GL.ll _)
 |lead a1 a2 a3 a4 a5 a6 a7=>
  obtain⟨b1,b2⟩:=hlead a3
  exact .lead _ a5 a4.symm a6 b2 b1 (by rw[a4];exact a7)
theorem DE.del(D:DE k ls B n1 U g S G C)(hk:2<=k)(hn:C.net≠ [])(hlt:LT k ls (QaX C))(hB:B<=505000)(hU:U<=2000)(hls:ls.length<=15)(hn1:n1<=1):
  ∃g' S',DE k ls B n1 U g' S' (gDo G Qnf).1 (QaX C)/\(gDo G Qnf).2=0:=by
 obtain⟨m,r,hmr⟩:=List.exists_cons_of_ne_nil hn
 obtain⟨X,d⟩:=D.c.dl hmr
 have c:=d.c
 have hmm:m∈C.net:=by rw[hmr];exact List.mem_cons_self ..
 obtain⟨q,hq,hqX⟩:=D.rel.seat d.x
 obtain⟨g',GL,h'⟩:=D.c.del
 have hl:X.log.length<1024:=by have:=D.len hls hn1 c.ni.ik;rw[d.old] at this;omega
 have tb':=tb_del d D.tb
 have h5:=out5 d h' hk hl
 have hto:=d.to
 have hna:¬QaF X (2^X.id.toNat):=Qcy (X:=X) (m:=m) c.ni ⟨d.w.2.2.f.1,by rw[c.ni.n];exact d.w.2.2.f.2,by rw[c.ni.id,<-d.to];exact d.w.2.2.ne⟩
 have hlead:(Qaa X m).role=3->(Qaa X m).term∈ls/\g'.ll (Qaa X m).term=(Qaa X m).log:=fun h3=>by
  have hnd:=h'.nd c.ni.ik
  have:=hlt _ c.ni.ik (by rw[d.self];exact h3)
  rw[d.self] at this hnd
  exact⟨this,((h'.node _ _ hnd).ni.lead h3).ll⟩
 rw[gDo_del (D.rel.net.trans hmr) (by omega) hq hqX]
 have heq:=d.eq
 have wr:=wr_step d hk hl GL hlead
 have hst:=Qdn (X:=X) d.cb
 rw[heq] at h' tb'
 have:=DE.put (e:=0) (net:=r) D d.x hq (fun o ho=>by rw[hmr];exact List.mem_cons_of_mem _ ho) (by have:=d.cap;omega) h' GL tb' (QlV c.from_) (hs_step d.cb hna c.hard c.bn.t.1) hst.1 wr (fun o ho h=>by
  obtain⟨a1,a2,a3⟩:=h5 o ho h
  exact⟨(hlead a1).1,a2,a3⟩) hB hU hls (by omega)
 rw[<-heq] at this
 exact⟨g',_,this⟩
theorem DE.pro(D:DE k ls B 0 U g S G C)(hk:2<=k)(w:WE k l t C)(h1:s.kind=5)(h2:s.node=l)(hd:s.data.size<=100)(hlt:LT k ls C)(hB:B<=505000)(hU:U<=2000)(hls:ls.length<=15):
  ∃g' S',DE k ls B 1 U g' S' (gDo G s).1 (Qe9 C l s.data)/\(gDo G s).2=0:=by
 have hl:=w.lk
 have hX:=D.c.nd hl
 have c:=D.c.node l _ hX
 obtain⟨q,hq,hqX⟩:=D.rel.seat hX
 obtain⟨g',GL,h'⟩:=D.c.pro l s.data hd
 have hlen:=D.len hls (by decide) hl
 obtain⟨Z,W,z0,z1,z2,z3,z4,z5,z6,z7,z8,z9,w1,w2,w3,w4,w5,w6⟩:=QlA (data:=s.data) D.c.gi c hk w.role (by omega) (by omega)
 have hY:(Qam (nd C l) s.data).1=Z:=by rw[z0]
 have heq:Qe9 C l s.data=Qg8 C l Z C.net:=by rw[<-hY];exact cPro_eq hX
 have hself:nd (Qe9 C l s.data) l=Qae Z:=by rw[heq];exact Qhk (by rw[D.c.len];exact hl)
 have hG:G=⟨G.l,C.net⟩:=by rw[<-D.rel.net]
 rw[gDo_pro h1 h2 hq hqX,z0]
 have hnd:=h'.nd hl
 rw[hself] at hnd
 have Ld:=(h'.node l _ hnd).ni.lead z1
 have hin:Z.term∈ls:=by rw[z2];exact hlt l hl w.role
 have hll:g'.ll Z.term=Z.log:=Ld.ll
 have sv:SV (nd C l) Z:=by rw[<-hY];exact Qny (SV.start c.from_)
 have hadd:Z.from_=((nd C l).log.length:Int)+1/\Z.hard=(nd C l).hard/\Z.vote=(nd C l).vote:=by
  have hter:¬(nd C l).term<Qa9 (nd C l).log:=by
   have:=Qce c.ni.d.ter c.ni.d.t0
   omega
  rw[<-hY]
  have e:Qc7 (nd C l) s.data=(Qaf (Qa4 (QaN {nd C l with log:=(nd C l).log++ [⟨(nd C l).term,s.data⟩]} (((nd C l).log.length:Int)+1))),0):=by
   unfold Qc7
   rw[if_neg hter,if_neg (by omega)]
  have e2:(Qam (nd C l) s.data).1=Qaf (Qa4 (QaN {nd C l with log:=(nd C l).log++ [⟨(nd C l).term,s.data⟩]} (((nd C l).log.length:Int)+1))):=by
   unfold Qam
   rw[if_neg (fun z=>z w.role),if_neg (by omega),e]
   rw[if_neg (fun z=>z rfl)]
  obtain⟨_,_,_,q4,q5,q6,_⟩:=Qan (Qa4 (QaN {nd C l with log:=(nd C l).log++ [⟨(nd C l).term,s.data⟩]} (((nd C l).log.length:Int)+1)))
  rw[e2]
  refine⟨?_,q5,q4⟩
  rw[q6]
  show(if(nd C l).from_=0\/((nd C l).log.length:Int)+1<(nd C l).from_ then((nd C l).log.length:Int)+1 else(nd C l).from_)=_
  rw[if_pos (.inl c.from_)]
 have tb':TmB k U (Qg8 C l Z C.net):=by
  refine⟨fun j hj=> ?_,fun o ho=> ?_⟩
  ·by_cases e:j=l
   ·subst e
    rw[<-heq,hself]
    show Z.term<=U
    rw[z2];exact D.tb.1 j hj
   ·rw[Qc2 e];exact D.tb.1 j hj
  ·rw[Qdq D.c.cap] at ho
   rcases List.mem_append.1 ho with e|e
   ·exact D.tb.2 o e
   ·have e:=Qad e
    rw[w6] at e
    obtain⟨z,_,rfl⟩:=List.mem_map.1 e
    show W.term<=U
    rw[w2];exact D.tb.1 l hl
 rw[heq] at h'
 have:=DE.put (e:=0) D hX hq (fun m hm=>hm) D.c.cap h' GL tb' sv (Hs.same c.hard z2 hadd.2.2 hadd.2.1) (Int.le_of_eq z2.symm) (.pro _ z3 (show(nd C l).term=Z.term from z2.symm) hadd.1 hll hin) (fun o ho h=>by
  have e:=Qad ho
  have hmem:o∈(Qg8 C l Z C.net).net:=by rw[Qdq D.c.cap];exact List.mem_append_right _ ho
  rw[w6] at e
  obtain⟨z,hz,hzo⟩:=List.mem_map.1 e
  have hot:o.term=Z.term:=by rw[<-hzo];show W.term=_;rw[w2,z2]
  have:=((h'.net o hmem).1.2.2.1 h).2.2.2.2.2.1
  rw[hot,hll] at this
  exact⟨hin,hot,this⟩) hB hU hls (by decide)
 rw[<-heq,<-hG] at this
 exact⟨g',_,this⟩
def QnU:Nat->GS->GS
 |0,G=>G
 |n+1,G=>if G.net= [] then G else QnU n (gDo G Qnf).1
theorem DE.set(hk:2<=k)(hB:B<=505000)(hU:U<=2000)(hls:ls.length<=15)(hn1:n1<=1):∀(n:Nat){g:GH}{S:Nat}{G:GS}{C:CS},DE k ls B n1 U g S G C->(∀p,p<=n->LT k ls (Qbq p C))->∃g' S',DE k ls B n1 U g' S' (QnU n G) (Qbq n C)
 |0,g,S,G,C,D,_=>⟨g,S,D⟩
 |n+1,g,S,G,C,D,hal=>by
  by_cases hn:C.net= []
  ·rw[QbX hn]
   have:QnU (n+1) G=G:=by show(if G.net= [] then G else _)=_;rw[if_pos (D.rel.net.trans hn)]
   rw[this]
   exact⟨g,S,D⟩
  ·have e:QnU (n+1) G=QnU n (gDo G Qnf).1:=by show(if G.net= [] then G else _)=_;rw[if_neg (fun z=>hn (D.rel.net.symm.trans z))]
   rw[Qa1 hn,e]
   obtain⟨g1,S1,D1,_⟩:=D.del hk hn (by have:=hal 1 (by omega);rwa[Qa1 hn] at this) hB hU hls hn1
   exact DE.set hk hB hU hls hn1 n D1 fun p hp=>by have:=hal (p+1) (by omega);rwa[Qa1 hn] at this
end
section
variable {k X0 LC M bd E Zb l x:Nat}{g g':GH}{i f j S S':Nat}{X Y Z F L W:RN}{m:RM}{C C':CS}{r A D:List RM}{dr t T0 U U' v Tm:Int}{data:ByteArray}{ls:List Int}{B n1 n2:Nat}{G:GS}{q:GN}{s:ST}
def ap5(j:Nat)(l:List RM):Nat:=l.countP fun m=>decide (m.kind=5/\m.to=(j:Int))
def an6(l:List RM):Nat:=l.countP fun m=>decide (m.kind=6)
theorem ap5_app(a b:List RM):ap5 j (a++b)=ap5 j a+ap5 j b:=List.countP_append
theorem an6_app(a b:List RM):an6 (a++b)=an6 a+an6 b:=List.countP_append
theorem Qjy{l:List RM}(h:∀m∈l,m.kind=5->m.to≠(j:Int)):ap5 j l=0:=List.countP_eq_zero.2 fun m hm z=>by
 have z:=of_decide_eq_true z
 exact h m hm z.1 z.2
theorem QlL{l:List RM}(h:∀m∈l,m.kind≠6):an6 l=0:=List.countP_eq_zero.2 fun m hm z=>h m hm (of_decide_eq_true z)
theorem an6_one(m:RM):an6 [m]<=1:=List.countP_le_length
theorem Qn0:∀(n j:Nat),(List.range n).countP (fun(t:Nat)=>decide (t=j))<=1
 |0,_=>Nat.zero_le _
 |n+1,j=>by
  rw[List.range_succ,List.countP_append,List.countP_singleton]
  by_cases e:n=j
  ·subst e
   have:(List.range n).countP (fun(t:Nat)=>decide (t=n))=0:=List.countP_eq_zero.2 fun t ht z=>by
    have:=of_decide_eq_true z
    have:=List.mem_range.1 ht
    omega
   rw[this];split<;>omega
  ·rw[if_neg (by simp[e])]
   exact Qn0 n j
theorem ap5_all(n:Nat):ap5 j ((Qax X n).map (Qbk W))<=1:=by
 unfold ap5
 rw[List.countP_map]
 refine Nat.le_trans ?_ (Qn0 n j)
 unfold Qax
 refine Nat.le_trans (List.countP_mono_left (q:=fun(t:Nat)=>decide (t=j)) fun t _ h=> ?_) (List.Sublist.countP_le List.filter_sublist)
 have h:decide (_/\_)=true:=h
 have h:=(of_decide_eq_true h).2
 have h:(t:Int)=(j:Int):=h
 exact decide_eq_true (by omega)
theorem an6_all(n:Nat):an6 ((Qax X n).map (Qbk W))=0:=QlL fun m hm=>by
 obtain⟨t,_,rfl⟩:=List.mem_map.1 hm
 exact(by decide:¬(5:Int)=6)
theorem ap5_agree:ap5 j (Qaf Z).out<=ap5 j Z.out+1/\an6 (Qaf Z).out=an6 Z.out:=by
 unfold Qaf
 split
 ·exact⟨Nat.le_succ _,rfl⟩
 ·rename_i c _
  show ap5 j (Z.out++(Qax {Z with commit:=(c:Int)} Z.n.toNat).map (Qbk {Z with commit:=(c:Int)}))<=_/\an6 (Z.out++(Qax {Z with commit:=(c:Int)} Z.n.toNat).map (Qbk {Z with commit:=(c:Int)}))=_
  rw[ap5_app,an6_app,an6_all]
  have:=ap5_all (j:=j) (X:={Z with commit:=(c:Int)}) (W:={Z with commit:=(c:Int)}) Z.n.toNat
  exact⟨Nat.add_le_add_left this _,rfl⟩
theorem ap5_to{t:Nat}:ap5 j (rTo Z t).out=ap5 j Z.out+(if t=j then 1 else 0)/\an6 (rTo Z t).out=an6 Z.out:=by
 show ap5 j (Z.out++ [Qbk Z t])=_/\an6 (Z.out++ [Qbk Z t])=_
 rw[ap5_app,an6_app]
 constructor
 ·congr 1
  unfold ap5
  rw[List.countP_singleton]
  by_cases e:t=j
  ·rw[if_pos e,if_pos (decide_eq_true ⟨rfl,by show(t:Int)=j;omega⟩)]
  ·rw[if_neg e,if_neg (fun z=>e (by have:=(of_decide_eq_true z).2;have:(t:Int)=j:=this;omega))]
 ·rfl
theorem ap5_hears(h0:Z.out= []):ap5 j (QaC Z m).out<=1+(if m.from_.toNat=j then 1 else 0)/\an6 (QaC Z m).out=0:=by
 have e5:ap5 j Z.out=0:=by rw[h0];rfl
 have e6:an6 Z.out=0:=by rw[h0];rfl
 unfold QaC
 split
 ·rw[e5,e6];exact⟨Nat.zero_le _,rfl⟩
 split
 ·obtain⟨a1,a2⟩:=ap5_agree (j:=j) (Z:=Qau Z m.from_.toNat m.index)
  have a1:_<=ap5 j Z.out+1:=a1
  have a2:_=an6 Z.out:=a2
  split
  ·obtain⟨b1,b2⟩:=ap5_to (j:=j) (Z:=Qaf (Qau Z m.from_.toNat m.index)) (t:=m.from_.toNat)
   rw[b1,b2]
   omega
  ·omega
 split
 ·obtain⟨b1,b2⟩:=ap5_to (j:=j) (Z:=Qcx Z m.from_.toNat m.index) (t:=m.from_.toNat)
  rw[b1,b2]
  have a1:ap5 j (Qcx Z m.from_.toNat m.index).out=ap5 j Z.out:=rfl
  have a2:an6 (Qcx Z m.from_.toNat m.index).out=an6 Z.out:=rfl
  omega
 ·have a1:ap5 j (Qfh Z m.from_.toNat).out=ap5 j Z.out:=rfl
  have a2:an6 (Qfh Z m.from_.toNat).out=an6 Z.out:=rfl
  omega
theorem cnt_step(c:CN k g S i X)(w:WM k m)(hc:QaR X m)(hto:m.to=(i:Int))(hk:2<=k)(hl:X.log.length<1024):
  (m.kind=5->(∀j,ap5 j (Qaa X m).out=0)/\an6 (Qaa X m).out<=1)/\(m.kind≠5->(∀j,ap5 j (Qaa X m).out<=1+(if m.kind=6/\m.from_.toNat=j then 1 else 0))/\an6 (Qaa X m).out=0):=by
 obtain⟨_,_,_,_,k0,k6,_⟩:=id hc
 have hna:¬QaF X (2^X.id.toNat):=Qcy (X:=X) (m:=m) c.ni ⟨w.f.1,by rw[c.ni.n];exact w.f.2,by rw[c.ni.id,<-hto];exact w.ne⟩
 have hX5:∀j,ap5 j X.out=0:=fun j=>by rw[c.out];rfl
 have hX6:an6 X.out=0:=by rw[c.out];rfl
 have hone:∀{Z:RN} {o:RM},Z.out= []->o.kind≠5->(∀j,ap5 j (Z.out++ [o])=0)/\an6 (Z.out++ [o])<=1/\(o.kind≠6->an6 (Z.out++ [o])=0):=fun{Z o} h1 h2=>by
  rw[h1,List.nil_append]
  exact⟨fun j=>Qjy fun m hm h=>by rw[List.mem_singleton] at hm;subst hm;exact absurd h h2,an6_one _,fun h=>QlL fun m hm=>by rw[List.mem_singleton] at hm;subst hm;exact h⟩
 have hnil:∀{Z:RN},Z.out= []->(∀j,ap5 j Z.out=0)/\an6 Z.out=0:=fun{Z} h=>by rw[h];exact⟨fun _=>rfl,rfl⟩
 by_cases k5:m.kind=5
 ·refine⟨fun _=> ?_,fun h=>absurd k5 h⟩
  by_cases ht:m.term<X.term
  ·rw[Qi4 hc (by omega) ht,if_pos k5]
   obtain⟨a,b,_⟩:=hone (o:=⟨6,X.id,m.from_,X.term,0,0,0,false,[]⟩) c.out (show ¬(6:Int)=5 by decide)
   exact⟨a,b⟩
  ·rw[st5 hc k5 (by omega)]
   have hzo:(Qab X m).out= []:=(Qbl X m).2.2.1.trans c.out
   by_cases hr:(Qab X m).role=3
   ·unfold QaV
    rw[if_pos hr]
    obtain⟨a,b⟩:=hnil hzo
    exact⟨a,by omega⟩
   ·have h0:(Qag (Qab X m) m).out= []:=by rw[Qaz];exact hzo
    rcases Qbd (Qab X m) m hr with⟨_,e⟩|⟨_,_,e⟩|⟨_,_,e⟩
    ·rw[e]
     obtain⟨a,b,_⟩:=hone (o:=⟨6,(Qag (Qab X m) m).id,m.from_,(Qag (Qab X m) m).term,(Qab X m).commit,0,0,true,[]⟩) h0 (show ¬(6:Int)=5 by decide)
     exact⟨a,b⟩
    ·rw[e]
     obtain⟨a,b,_⟩:=hone (o:=⟨6,(Qag (Qab X m) m).id,m.from_,(Qag (Qab X m) m).term,_,0,0,false,[]⟩) h0 (show ¬(6:Int)=5 by decide)
     exact⟨a,b⟩
    ·rw[e]
     have h1:(QbD (Qag (Qab X m) m) m).out= []:=(Qcw (Qag (Qab X m) m) m).2.2.2.2.2.trans h0
     obtain⟨a,b,_⟩:=hone (o:=⟨6,(QbD (Qag (Qab X m) m) m).id,m.from_,(QbD (Qag (Qab X m) m) m).term,m.index+m.ents.length,0,0,true,[]⟩) h1 (show ¬(6:Int)=5 by decide)
     exact⟨a,b⟩
 refine⟨fun h=>absurd h k5,fun _=> ?_⟩
 have fin:∀{l:List RM},((∀j,ap5 j l=0)/\an6 l=0)->(∀j,ap5 j l<=1+(if m.kind=6/\m.from_.toNat=j then 1 else 0))/\an6 l=0:=fun{l} h=>⟨fun j=>by rw[h.1 j];exact Nat.zero_le _,h.2⟩
 by_cases k1:m.kind=1
 ·rw[st1 hc k1]
  obtain⟨a,b,d⟩:=hone (o:=⟨2,X.id,m.from_,if QkQ X m then m.term else X.term,0,0,0,decide (QkQ X m),[]⟩) c.out (show ¬(2:Int)=5 by decide)
  exact fin ⟨a,d (show ¬(2:Int)=6 by decide)⟩
 by_cases k2:m.kind=2
 ·rw[st2 hc k2]
  unfold QaS
  split
  ·refine fin (hnil ?_)
   unfold Qai;split<;>exact c.out
  split
  ·split
   ·unfold QaU
    rw[if_neg (show ¬QaF {X with votes:=X.votes|||2^m.from_.toNat} (2^X.id.toNat) from hna)]
    refine fin ⟨fun j=> ?_, ?_⟩
    ·show ap5 j (X.out++_)=0
     rw[ap5_app,hX5,Nat.zero_add]
     exact Qjy fun o ho h=>by
      obtain⟨t,_,rfl⟩:=List.mem_map.1 ho
      exact absurd h (by decide:¬(3:Int)=5)
    ·show an6 (X.out++_)=0
     rw[an6_app,hX6,Nat.zero_add]
     exact QlL fun o ho=>by
      obtain⟨t,_,rfl⟩:=List.mem_map.1 ho
      exact(by decide:¬(3:Int)=6)
   ·exact fin (hnil c.out)
  ·exact fin (hnil c.out)
 by_cases ht:m.term<X.term
 ·rw[Qi4 hc (by omega) ht,if_neg k5]
  exact fin (hnil c.out)
 have hzo:(Qab X m).out= []:=(Qbl X m).2.2.1.trans c.out
 by_cases k3:m.kind=3
 ·rw[st3 hc k3 (by omega)]
  unfold Qbg
  refine fin ?_
  have e1:(if Qbm (Qab X m) m then{(Qab X m) with hard:=(Qab X m).hard||((Qab X m).vote !=m.from_),vote:=m.from_,since:=0} else Qab X m).out= []:=by split<;>exact hzo
  obtain⟨a,b,d⟩:=hone (Z:=if Qbm (Qab X m) m then{(Qab X m) with hard:=(Qab X m).hard||((Qab X m).vote !=m.from_),vote:=m.from_,since:=0} else Qab X m) (o:=⟨4,(if Qbm (Qab X m) m then{(Qab X m) with hard:=(Qab X m).hard||((Qab X m).vote !=m.from_),vote:=m.from_,since:=0} else Qab X m).id,m.from_,(Qab X m).term,0,0,0,decide (Qbm (Qab X m) m),[]⟩) e1 (show ¬(4:Int)=5 by decide)
  exact⟨a,d (show ¬(4:Int)=6 by decide)⟩
 by_cases k4:m.kind=4
 ·by_cases h3:X.role=3
  ·rw[st4 hc k4 (by omega)]
   unfold Qar
   have hnr:(Qab X m).role≠2:=by
    rcases QaO X m with e|⟨e,_⟩
    ·omega
    ·rw[e];omega
   rw[if_pos (.inr hnr)]
   exact fin (hnil hzo)
  ·by_cases hY:(Qaa X m).role=3
   ·obtain⟨_,_,hr2,_,_,e⟩:=Qcd hc c w hto h3 hY
    obtain⟨Z,z0,z1,z2,z3,z4,z5,z6,z7,W,w1,w2,_,w4,w5⟩:=QcI c hr2 hk hl (X.votes|||2^m.from_.toNat)
    rw[e,z0,w5]
    refine⟨fun j=> ?_, ?_⟩
    ·rw[ap5_app,hX5]
     have:=ap5_all (j:=j) (X:=W) (W:=W) k
     omega
    ·rw[an6_app,hX6,an6_all]
   ·have h5:=Qjh hc c w hto hY hl
    refine fin ⟨fun j=>Qjy fun o ho h=>absurd h (h5 o ho), ?_⟩
    rw[st4 hc k4 (by omega)] at hY⊢
    unfold Qar at hY⊢
    split
    ·exact(hnil hzo).2
    ·rename_i c1
     rw[if_neg c1] at hY
     split
     ·rename_i c2
      rw[if_pos c2] at hY
      exfalso
      have hr2:(Qab X m).role=2:=Decidable.byContradiction fun z=>c1 (.inr z)
      have heq:Qab X m=X:=by
       rcases QaO X m with e|⟨e,_⟩
       ·omega
       ·exact e
      rw[heq] at hY hr2
      obtain⟨Z,z0,z1,_⟩:=QcI c hr2 hk hl (X.votes|||2^m.from_.toNat)
      rw[z0] at hY
      exact hY z1
     ·exact(hnil hzo).2
 ·have h6:m.kind=6:=by omega
  rw[st6 hc h6 (by omega)]
  refine⟨fun j=> ?_,(ap5_hears (j:=0) hzo).2⟩
  have:=(ap5_hears (j:=j) (m:=m) hzo).1
  by_cases e:m.from_.toNat=j
  ·rw[if_pos ⟨h6,e⟩];rwa[if_pos e] at this
  ·rw[if_neg fun z=>e z.2];rwa[if_neg e] at this
def apw(j:Nat)(l:List RM):Nat:=l.countP fun m=>decide ((m.kind=5/\m.to=(j:Int))\/(m.kind=6/\m.from_=(j:Int)))
theorem Qku(a b:List RM):apw j (a++b)=apw j a+apw j b:=List.countP_append
theorem apw_sub{a b:List RM}(h:a.Sublist b):apw j a<=apw j b:=h.countP_le
theorem apw_le(j:Nat):∀l:List RM,apw j l<=ap5 j l+l.countP fun m=>decide (m.kind=6/\m.from_=(j:Int))
 | []=>Nat.le_refl _
 |m::l=>by
  have ih:=apw_le j l
  unfold apw ap5 at*
  rw[List.countP_cons,List.countP_cons,List.countP_cons]
  by_cases h1:m.kind=5/\m.to=(j:Int)
  ·rw[if_pos (decide_eq_true (.inl h1)),if_pos (decide_eq_true h1)];omega
  ·by_cases h2:m.kind=6/\m.from_=(j:Int)
   ·rw[if_pos (decide_eq_true (.inr h2)),if_pos (c:=decide (m.kind=6/\m.from_=(j:Int))=true) (decide_eq_true h2)];omega
   ·rw[if_neg (c:=decide (m.kind=5/\m.to=(j:Int)\/m.kind=6/\m.from_=(j:Int))=true) (fun z=>(of_decide_eq_true z).elim h1 h2)];omega
theorem apw_out{l:List RM}(h:∀o∈l,WM k o/\o.from_=(i:Int)):apw j l<=if j=i then an6 l else ap5 j l:=by
 have h0:=apw_le j l
 by_cases e:j=i
 ·subst e
  rw[if_pos rfl]
  have h1:ap5 j l=0:=Qjy fun o ho _ z=>(h o ho).1.ne ((h o ho).2.trans z.symm)
  have h2:(l.countP fun m=>decide (m.kind=6/\m.from_=(j:Int)))<=an6 l:=List.countP_mono_left fun o ho z=>decide_eq_true (of_decide_eq_true z).1
  omega
 ·rw[if_neg e]
  have h2:(l.countP fun m=>decide (m.kind=6/\m.from_=(j:Int)))=0:=List.countP_eq_zero.2 fun o ho z=>by
   have:=(of_decide_eq_true z).2
   have:=(h o ho).2
   omega
  omega
end
section
variable {k X0 LC M bd E Zb l x:Nat}{g g':GH}{i f j S S':Nat}{X Y Z F L W:RN}{m:RM}{C C':CS}{r A D:List RM}{dr t T0 U U' v Tm:Int}{data:ByteArray}{ls:List Int}{B n1 n2:Nat}{G:GS}{q:GN}{s:ST}{sl:Nat->Nat}
def RcB(U:Int)(r:WRec):Prop:=∀s s',QfD s r=some s'->s'.term<=s.term\/s'.term<=U
theorem RcB.up{r:WRec}(h:RcB U r)(hU:U<=U'):RcB U' r:=fun s s' e=>(h s s' e).imp id fun z=>by omega
theorem playF_le:∀(rs:List WRec){s s':Stt},(∀r∈rs,RcB U r)->Qdl s rs=some s'->s'.term<=s.term\/s'.term<=U
 | [],s,s',_,h=>by injection h with h;subst h;exact .inl (Int.le_refl _)
 |r::rs,s,s',hr,h=>by
  unfold Qdl at h
  cases hs:QfD s r with
  |none=>rw[hs] at h;cases h
  |some s1=>
   rw[hs] at h
   have h1:=hr r (List.mem_cons_self ..) s s1 hs
   have h2:=playF_le rs (fun x hx=>hr x (List.mem_cons_of_mem _ hx)) h
   omega
theorem gSave_rb(zy:Sz Y)(hT:Y.term<=U):∀r∈Qav Y,RcB U r:=fun r hr s s' e=>by
 unfold Qav at hr
 split at hr
 ·cases hr
 ·unfold Qnc at hr
  rcases List.mem_append.1 hr with hr|hr
  ·split at hr
   ·rw[List.mem_singleton.1 hr] at e
    have h2:QfD s ⟨1,be8 Y.term++be8 Y.vote⟩=some ⟨Y.term,Y.vote,s.es⟩:=step_vote zy.t0 zy.t1 zy.v0 zy.v1
    rw[show QfD s ⟨1,be8 (QcY Y).term++be8 (QcY Y).vote⟩=_ from h2] at e
    injection e with e
    subst e
    exact .inr hT
   ·cases hr
  ·rw[List.mem_mapIdx] at hr
   obtain⟨a,ha,rfl⟩:=hr
   unfold QfD at e
   rw[if_neg (show ¬((Qle (QcY Y).frm a (QcY Y).es[a]).kind=1) from(by decide:¬((2:UInt8)=1))),if_pos (show(Qle (QcY Y).frm a (QcY Y).es[a]).kind=2 from rfl)] at e
   split at e
   ·injection e with e
    subst e
    exact .inl (Int.le_refl _)
   ·cases e
structure RQ(S:Nat)(q:GN):Prop where
 r:∃(rs ts:List WRec) (keep a:Nat) (c:UInt8),(∀r∈rs,r.ok/\RcB S r)/\(∀r∈ts,r.ok/\RcB S r)/\q.b=Qao rs++flp ((Qao ts).take keep) a c/\q.n=(Qao rs).length/\(q.node≠none->ts= [])
structure GQ(S:Nat)(sl:Nat->Nat)(G:GS):Prop where
 dk:∀(i:Nat) (q:GN),G.l[i]? =some q->RQ S q
 tm:∀(i:Nat) (q:GN) (X:RN),G.l[i]? =some q->q.node=some X->X.term<=S
 net:∀m∈G.net,m.term<=S
 by_:∀(j:Nat) (q:GN),G.l[j]? =some q->q.b.length+1041*(apw j G.net+sl j)<=1041*S
theorem RQ.up(h:RQ S q):RQ (S+1) q:=by
 obtain⟨rs,ts,keep,a,c,h1,h2,h3⟩:=h.r
 exact⟨rs,ts,keep,a,c,fun r hr=>⟨(h1 r hr).1,(h1 r hr).2.up (by omega)⟩,fun r hr=>⟨(h2 r hr).1,(h2 r hr).2.up (by omega)⟩,h3⟩
theorem GQ.up(Q:GQ S sl G):GQ (S+1) (fun _=>0) G:=⟨fun i q hq=>(Q.dk i q hq).up,fun i q X hq hX=>by have:=Q.tm i q X hq hX;omega,fun m hm=>by have:=Q.net m hm;omega,fun j q hq=>by have:=Q.by_ j q hq;omega⟩
theorem GQ.set(Q:GQ S sl G)(hq:G.l[i]? =some q){q':GN}{D:List RM}(h1:RQ (S+1) q')(h2:∀X,q'.node=some X->X.term<=(S+1:Nat))(h3:∀m∈D,m∈G.net\/m.term<=(S+1:Nat))(h4:∀j,(if j=i then q'.b.length else q.b.length*0)+1041*apw j D<=(if j=i then q.b.length else 0)+1041*(apw j G.net+sl j)+1041):GQ (S+1) (fun _=>0) ⟨G.l.set i q',D⟩:=by
 have hi:i<G.l.length:=(List.getElem?_eq_some_iff.1 hq).1
 have key:∀j x,(G.l.set i q')[j]? =some x->(j=i/\x=q')\/(j≠i/\G.l[j]? =some x):=fun j x hx=>by
  by_cases e:j=i
  ·subst e
   rw[List.getElem?_set_self hi] at hx
   injection hx with hx
   exact .inl ⟨rfl,hx.symm⟩
  ·rw[List.getElem?_set_ne (fun x=>e x.symm)] at hx
   exact .inr ⟨e,hx⟩
 refine⟨fun j x hx=> ?_,fun j x X hx hX=> ?_,fun m hm=> ?_,fun j x hx=> ?_⟩
 ·rcases key j x hx with⟨_,e⟩|⟨_,e⟩
  ·rw[e];exact h1
  ·exact(Q.dk j x e).up
 ·rcases key j x hx with⟨_,e⟩|⟨_,e⟩
  ·rw[e] at hX;exact h2 X hX
  ·have:=Q.tm j x X e hX;omega
 ·rcases h3 m hm with e|e
  ·have:=Q.net m e;omega
  ·exact e
 ·have h5:=h4 j
  show x.b.length+1041*(apw j D+0)<=_
  rcases key j x hx with⟨e,e2⟩|⟨e,e2⟩
  ·subst e
   have:=Q.by_ j q hq
   rw[if_pos rfl,if_pos rfl] at h5
   rw[e2];omega
  ·have:=Q.by_ j x e2
   rw[if_neg e,if_neg e] at h5
   omega
theorem Qjb(rs:List WRec)(n:Nat):(Qao (rs.take n)).length<=(Qao rs).length:=by
 have:=Qd8 (rs.take n) (rs.drop n)
 rw[List.take_append_drop] at this
 rw[this,List.length_append];omega
theorem apw_take(l:List RM)(n:Nat):apw j (l.take n)<=apw j l:=apw_sub (List.take_sublist _ _)
theorem comes_q(Q:GQ S sl G)(hq:G.l[i]? =some q)(hX:q.node=some X)(zy:Sz Y)(hd:∀e∈Y.log,e.data.size<=512)(hT:Y.term<=(S+1:Nat))(ho:OT ((S+1:Nat):Int) Y.out){e:Int}(cost:∀j,(if j=i then(Qao (Qav Y)).length else 0)+1041*apw j Y.out<=1041+1041*sl j):GQ (S+1) (fun _=>0) (Qa7 G i q Y e).1:=by
 obtain⟨rs,ts,keep,a,c,h1,h2,h3,h4,h5⟩:=(Q.dk i q hq).r
 have hts:=h5 (by rw[hX];exact fun z=>by cases z)
 subst hts
 have hqb:q.b=Qao rs:=by rw[h3];show Qao rs++flp (([]:List UInt8).take keep) a c=_;rw[List.take_nil,QfE,List.append_nil]
 obtain⟨j0,w1,w2,w3,w4⟩:=QiY (Qav Y) q.b
 have hrs:∀r∈rs,r.ok/\RcB ((S+1:Nat):Int) r:=fun r hr=>⟨(h1 r hr).1,(h1 r hr).2.up (by omega)⟩
 have hnew:∀r∈(Qav Y).take j0,r.ok/\RcB ((S+1:Nat):Int) r:=fun r hr=>⟨Qjp hd r (List.mem_of_mem_take hr),gSave_rb zy hT r (List.mem_of_mem_take hr)⟩
 have hlen:=Qjb (Qav Y) j0
 unfold Qa7
 split
 ·refine Q.set hq ⟨rs++(Qav Y).take j0,[],0,0,0,fun r hr=>(List.mem_append.1 hr).elim (hrs r) (hnew r),fun r hr=>(by cases hr), ?_, ?_,fun _=>rfl⟩ (fun Z hZ=> ?_) (fun m hm=> ?_) fun j=> ?_
  ·show(wrM q.b (Qav Y)).1=_
   rw[w2,hqb,Qd8,List.take_zero,QfE,List.append_nil]
  ·show(wrM q.b (Qav Y)).1.length=_
   rw[w2,hqb,Qd8]
  ·have hZ:some (Qae Y)=some Z:=hZ
   injection hZ with hZ
   subst hZ
   exact hT
  ·rcases List.mem_append.1 (List.mem_of_mem_take hm) with z|z
   ·exact .inl z
   ·exact .inr (ho m z)
  ·have h6:=apw_take (j:=j) (G.net++Y.out) 512
   rw[Qku] at h6
   have h7:=cost j
   show(if j=i then(wrM q.b (Qav Y)).1.length else _)+_<=_
   rw[w2,List.length_append]
   by_cases e:j=i
   ·rw[if_pos e] at h7⊢
    rw[if_pos e];omega
   ·rw[if_neg e] at h7⊢
    rw[if_neg e];omega
 ·refine Q.set hq ⟨rs,(Qav Y).take j0,(Qao ((Qav Y).take j0)).length,(Qao ((Qav Y).take j0)).length,0,hrs,hnew, ?_,h4,fun h=>absurd rfl h⟩ (fun Z hZ=>by cases hZ) (fun m hm=> .inl hm) fun j=> ?_
  ·show(wrM q.b (Qav Y)).1=_
   rw[w2,hqb,List.take_length,flp_out (Nat.le_refl _)]
  ·have h7:=cost j
   show(if j=i then(wrM q.b (Qav Y)).1.length else _)+_<=_
   rw[w2,List.length_append]
   by_cases e:j=i
   ·rw[if_pos e] at h7⊢
    rw[if_pos e];omega
   ·rw[if_neg e] at h7⊢
    rw[if_neg e];omega
theorem torn_q(Q:GQ S sl G)(hq:G.l[i]? =some q)(hX:q.node=some X)(zy:Sz Y)(hd:∀e∈Y.log,e.data.size<=512)(hT:Y.term<=(S+1:Nat)){keep at_:Int}{c0:UInt8}(cost:(Qao (Qav Y)).length<=1041+1041*sl i):GQ (S+1) (fun _=>0) ⟨G.l.set i ⟨none,Qc3 (wrM q.b (Qav Y)).1 q.n keep at_ c0,q.n⟩,G.net⟩:=by
 obtain⟨rs,ts,kp0,a0,c,h1,h2,h3,h4,h5⟩:=(Q.dk i q hq).r
 have hts:=h5 (by rw[hX];exact fun z=>by cases z)
 subst hts
 have hqb:q.b=Qao rs:=by rw[h3];show Qao rs++flp (([]:List UInt8).take kp0) a0 c=_;rw[List.take_nil,QfE,List.append_nil]
 obtain⟨j0,w1,w2,w3,w4⟩:=QiY (Qav Y) q.b
 obtain⟨kp,a,hcr⟩:=QfT (b:=q.b) (t:=Qao ((Qav Y).take j0)) (keep:=keep) (at_:=at_) (c:=c0)
 have hn:q.n=q.b.length:=by rw[h4,hqb]
 rw[<-w2,<-hn] at hcr
 have hlen:=Qjb (Qav Y) j0
 refine Q.set hq ⟨rs,(Qav Y).take j0,kp,a,c0,fun r hr=>⟨(h1 r hr).1,(h1 r hr).2.up (by omega)⟩,fun r hr=>⟨Qjp hd r (List.mem_of_mem_take hr),gSave_rb zy hT r (List.mem_of_mem_take hr)⟩, ?_,h4,fun h=>absurd rfl h⟩ (fun Z hZ=>by cases hZ) (fun m hm=> .inl hm) fun j=> ?_
 ·show Qc3 _ _ _ _ _=_
  rw[hcr,hqb]
 ·show(if j=i then(Qc3 (wrM q.b (Qav Y)).1 q.n keep at_ c0).length else _)+_<=_
  rw[hcr,List.length_append,Qh5,List.length_take]
  by_cases e:j=i
  ·subst e
   rw[if_pos rfl,if_pos rfl];omega
  ·rw[if_neg e,if_neg e];omega
theorem crash_q(Q:GQ S sl G)(hq:G.l[i]? =some q)(hX:q.node=some X){keep at_:Int}{c0:UInt8}:GQ (S+1) (fun _=>0) ⟨G.l.set i ⟨none,Qc3 q.b q.n keep at_ c0,q.n⟩,G.net⟩:=by
 obtain⟨rs,ts,kp0,a0,c,h1,h2,h3,h4,h5⟩:=(Q.dk i q hq).r
 have hts:=h5 (by rw[hX];exact fun z=>by cases z)
 subst hts
 have hqb:q.b=Qao rs:=by rw[h3];show Qao rs++flp (([]:List UInt8).take kp0) a0 c=_;rw[List.take_nil,QfE,List.append_nil]
 obtain⟨kp,a,hcr⟩:=QfT (b:=q.b) (t:= []) (keep:=keep) (at_:=at_) (c:=c0)
 have hn:q.n=q.b.length:=by rw[h4,hqb]
 rw[List.append_nil,<-hn,List.take_nil,QfE,List.append_nil] at hcr
 refine Q.set hq ⟨rs,[],0,0,0,fun r hr=>⟨(h1 r hr).1,(h1 r hr).2.up (by omega)⟩,fun r hr=>(by cases hr), ?_,h4,fun _=>rfl⟩ (fun Z hZ=>by cases hZ) (fun m hm=> .inl hm) fun j=> ?_
 ·show Qc3 _ _ _ _ _=_
  rw[hcr,hqb,List.take_zero,QfE,List.append_nil]
 ·show(if j=i then(Qc3 q.b q.n keep at_ c0).length else _)+_<=_
  rw[hcr]
  by_cases e:j=i
  ·rw[if_pos e,if_pos e];omega
  ·rw[if_neg e,if_neg e];omega
theorem restart_q(Q:GQ S sl G)(hq:G.l[i]? =some q):GQ (S+1) (fun _=>0) (QbW G i q).1:=by
 obtain⟨rs,ts,keep,a,c,h1,h2,h3,h4,h5⟩:=(Q.dk i q hq).r
 obtain⟨j,hj,e1,e2,e3⟩:=back_inv (keep:=keep) (a:=a) (c:=c) (fun r hr=>(h1 r hr).1) (fun r hr=>(h2 r hr).1)
 rw[<-h3] at e1 e2 e3
 have hall:∀r∈rs++ts.take j,r.ok/\RcB S r:=fun r hr=>(List.mem_append.1 hr).elim (h1 r) fun z=>h2 r (List.mem_of_mem_take z)
 have hrq:∀nd,RQ (S+1) ⟨nd,q.b.take (QdG q.b).2.1,(QdG q.b).2.1⟩:=fun nd=>⟨rs++ts.take j,[],0,0,0,fun r hr=>⟨(hall r hr).1,(hall r hr).2.up (by omega)⟩,fun r hr=>(by cases hr),by show q.b.take _=_;rw[e2,e3,List.take_zero,QfE,List.append_nil],e2,fun _=>rfl⟩
 have hcost:∀nd:Option RN,∀j',(if j'=i then(⟨nd,q.b.take (QdG q.b).2.1,(QdG q.b).2.1⟩:GN).b.length else q.b.length*0)+1041*apw j' G.net<=(if j'=i then q.b.length else 0)+1041*(apw j' G.net+sl j')+1041:=fun nd j'=>by
  show(if j'=i then(q.b.take _).length else _)+_<=_
  rw[List.length_take]
  by_cases e:j'=i
  ·rw[if_pos e,if_pos e];omega
  ·rw[if_neg e,if_neg e];omega
 unfold QbW
 split
 ·exact Q.set hq (hrq _) (fun Z hZ=>by cases hZ) (fun m hm=> .inl hm) (hcost _)
 ·rename_i st hst
  refine Q.set hq (hrq _) (fun Z hZ=> ?_) (fun m hm=> .inl hm) (hcost _)
  have hZ:some (Qnm G.l.length i st)=some Z:=hZ
  injection hZ with hZ
  subst hZ
  show st.term<=_
  rw[e1] at hst
  unfold Qg1 at hst
  cases hp:Qdl st0 (rs++ts.take j) with
  |none=>rw[hp] at hst;cases hst
  |some st1=>
   rw[hp] at hst
   simp only at hst
   split at hst
   ·injection hst with hst
    subst hst
    rcases playF_le _ (fun r hr=>(hall r hr).2) hp with z|z
    ·have z:st1.term<=0:=z
     omega
    ·omega
   ·cases hst
theorem apw_erase:∀(l:List RM) (n:Nat){m:RM},l[n]? =some m->apw j l=apw j (l.eraseIdx n)+apw j [m]
 | [],n,m,h=>by simp at h
 |x::l,0,m,h=>by
  have h:some x=some m:=by simpa using h
  injection h with h
  subst h
  show apw j ([x]++l)=apw j l+apw j [x]
  rw[Qku];omega
 |x::l,n+1,m,h=>by
  have h:l[n]? =some m:=by simpa using h
  show apw j ([x]++l)=apw j ([x]++l.eraseIdx n)+apw j [m]
  rw[Qku,Qku,apw_erase l n h];omega
end
section
variable {k X0 LC M bd E Zb l x:Nat}{g g':GH}{i f j S S':Nat}{X Y Z F L W:RN}{m:RM}{C C':CS}{r A D:List RM}{dr t T0 U U' v Tm:Int}{data:ByteArray}{ls:List Int}{B n1 n2:Nat}{G:GS}{q:GN}{s:ST}{sl:Nat->Nat}
theorem UpI.cn(u:UpI k g i S q X)(x:XI k i X):CN k g S i X:=⟨u.ni,u.bn,x,u.out,u.hard,u.from_⟩
theorem ow_none{l:List RM}(hk:¬2<=k)(h:∀o∈l,WM k o/\o.from_=(i:Int)):l= []:=by
 cases l with
 |nil=>rfl
 |cons o l=>
  have w:=(h o (List.mem_cons_self ..)).1
  have:=w.f
  have:=w.t
  have:=w.ne
  omega
theorem tick_term(X:RN):(Qah X dr).term<=X.term+1/\(X.out= []->OT (X.term+1) (Qah X dr).out):=by
 have hb:∀Z:RN,Z.term=X.term->(QeP Z).term<=X.term+1/\(Z.out= []->OT (X.term+1) (QeP Z).out):=fun Z h=>by
  unfold QeP
  split
  ·refine⟨by show Z.term<=_;omega,fun h0=> ?_⟩
   show OT _ (Z.out++_)
   rw[h0]
   exact QeR (fun o ho=>by cases ho) (Qmd fun _=>by show Z.term<=_;omega)
  ·exact⟨by omega,fun h0=>by rw[h0];intro o ho;cases ho⟩
 unfold Qah
 generalize (if 0>dr then 0 else dr)%X.elect=d
 split
 ·unfold Qk8
  split
  ·split
   ·have e1:({Qai {X with since:=X.since+1,quiet:=0,heard:=0} X.term (-1) with since:=0}:RN).term=X.term:=by unfold Qai;rw[if_neg (by show ¬X.term>X.term;omega)]
    have e2:({Qai {X with since:=X.since+1,quiet:=0,heard:=0} X.term (-1) with since:=0}:RN).out=X.out:=by unfold Qai;rw[if_neg (by show ¬X.term>X.term;omega)]
    exact⟨by show(Qai {X with since:=X.since+1,quiet:=0,heard:=0} X.term (-1)).term<=_;rw[show(Qai {X with since:=X.since+1,quiet:=0,heard:=0} X.term (-1)).term=X.term from e1];omega,fun h0=>by rw[show _=_ from e2,h0];intro o ho;cases ho⟩
   ·exact hb _ rfl
  ·exact hb _ rfl
 ·split
  ·unfold QfO
   split
   ·unfold QaU
    split
    ·have hl:=(QnQ (QbB (Qg0 {X with since:=X.since+1}))).1
     exact⟨by rw[hl];show X.term+1<=_;omega,fun h0=>ot_leads (by show OT _ X.out;rw[h0];intro o ho;cases ho) (by show X.term+1<=_;omega)⟩
    ·refine⟨by show X.term+1<=_;omega,fun h0=> ?_⟩
     show OT _ (X.out++_)
     rw[h0]
     exact QeR (fun o ho=>by cases ho) (Qmd fun _=>by show X.term+1<=_;omega)
   ·refine⟨by show X.term<=_;omega,fun h0=> ?_⟩
    show OT _ (X.out++_)
    rw[h0]
    exact QeR (fun o ho=>by cases ho) (Qmd fun _=>by show X.term+1<=_;omega)
  ·exact⟨by show X.term<=_;omega,fun h0=>by show OT _ X.out;rw[h0];intro o ho;cases ho⟩
theorem add_term(hr:True):(Qc7 X data).1.term=X.term/\(X.out= []->OT X.term (Qc7 X data).1.out):=by
 have h0:X.out= []->OT X.term X.out:=fun h=>by rw[h];intro o ho;cases ho
 unfold Qc7
 split
 ·exact⟨rfl,h0⟩
 split
 ·exact⟨rfl,h0⟩
 ·refine⟨(Qan _).1,fun h=>ot_agree (X:=Qa4 (QaN {X with log:=X.log++ [⟨X.term,data⟩]} ((X.log.length:Int)+1))) ?_ (Int.le_refl _)⟩
  exact QeR (h0 h) (Qmd fun _=>Int.le_refl _)
theorem pro_term:(Qam X data).1.term=X.term/\(X.out= []->OT X.term (Qam X data).1.out):=by
 have h0:X.out= []->OT X.term X.out:=fun h=>by rw[h];intro o ho;cases ho
 unfold Qam
 split
 ·exact⟨rfl,h0⟩
 split
 ·exact⟨rfl,h0⟩
 split<;>exact add_term trivial
theorem one_bytes(o:One X Y)(hl:Y.log.length<=1024)(hd:∀e∈Y.log,e.data.size<=100):(Qao (Qav Y)).length<=1041:=by
 have h1:=Qj9 hd
 have h2:=o.small hl
 have:(if Y.hard=true then 25 else 0)<=25:=by split<;>omega
 omega
theorem one_cost(o:One X Y)(b:BN (S+1) 14 Y)(I:GI k g')(lm:LM g' Y.log)(hw:∀m∈Y.out,WM k m/\m.from_=(i:Int))(h6:2<=k->an6 Y.out=0/\∀j,ap5 j Y.out<=1):∀j,(if j=i then(Qao (Qav Y)).length else 0)+1041*apw j Y.out<=1041+1041*(fun _=>0) j:=fun j=>by
 have h1:=one_bytes o b.l (lm.d I)
 have hc:apw j Y.out<=if j=i then 0 else 1:=by
  by_cases hk:2<=k
  ·obtain⟨a,b⟩:=h6 hk
   have:=apw_out (j:=j) hw
   have:=b j
   by_cases e:j=i
   ·rw[if_pos e] at*;omega
   ·rw[if_neg e] at*;omega
  ·rw[ow_none hk hw];exact Nat.zero_le _
 by_cases e:j=i
 ·rw[if_pos e] at hc⊢;omega
 ·rw[if_neg e] at hc⊢;omega
theorem tick_out6(c:CN k g S i X)(hk:2<=k):an6 (Qah X dr).out=0/\∀j,ap5 j (Qah X dr).out<=1:=by
 refine⟨QlL fun o ho=> ?_,fun j=> ?_⟩
 ·rcases Qff c hk o ho with e|⟨e,_⟩<;>omega
 ·cases Qa2 (dr:=dr) c with
  |quiet h1 h2 h3 h4=>rw[h4];exact Nat.zero_le _
  |beat W h1 h2 a1 a2 a3 a4 a5 a6 a7=>rw[a7];exact ap5_all _
  |down h1 h2 h3 h4=>rw[h4];show ap5 j X.out<=1;rw[c.out];exact Nat.zero_le _
  |wait h1 h2 h3=>rw[h3];show ap5 j X.out<=1;rw[c.out];exact Nat.zero_le _
  |ask h1 h2 h3 h4=>
   rw[h4,QdQ c hk]
   refine Nat.le_trans (Nat.le_of_eq (Qjy fun o ho h=> ?_)) (Nat.zero_le _)
   obtain⟨z,_,rfl⟩:=List.mem_map.1 ho
   exact absurd h (by decide:¬(1:Int)=5)
theorem pro_out6(I:GI k g)(c:CN k g S i X)(hk:2<=k)(hl:X.log.length<1024)(hd:data.size<=512):an6 (Qam X data).1.out=0/\∀j,ap5 j (Qam X data).1.out<=1:=by
 by_cases hr:X.role=3
 ·obtain⟨Z,W,z0,z1,z2,z3,z4,z5,z6,z7,z8,z9,w1,w2,w3,w4,w5,w6⟩:=QlA (data:=data) I c hk hr hl hd
  rw[z0]
  show an6 Z.out=0/\∀j,ap5 j Z.out<=1
  rw[w6]
  exact⟨an6_all _,fun j=>ap5_all _⟩
 ·have:(Qam X data).1=X:=by unfold Qam;rw[if_pos hr]
  rw[this,c.out]
  exact⟨rfl,fun _=>Nat.zero_le _⟩
theorem msg_bytes(I:GI k g)(c:CN k g S i X)(w:MI k g m/\BM m/\WM k m)(hto:m.to=(i:Int))(hl:X.log.length<1024):(Qao (Qav (Qaa X m))).length<=1041/\(m.kind≠5->(Qao (Qav (Qaa X m))).length<=152):=by
 obtain⟨w1,w2,w3⟩:=w
 have hk:2<=k:=by have:=w3.f;have:=w3.t;have:=w3.ne;omega
 have hid:X.id=m.to:=by rw[c.ni.id];exact hto.symm
 have hc:=Qcu I ⟨w1,w2,w3⟩ hid c.ni.n
 obtain⟨g',B',I',si'⟩:=Qju I c.si w1
 have bn:=QhA c.bn w2 c.ni.c1
 have hbl:(Qaa X m).log.length<=1024:=bn.l
 have h1:=Qj9 (si'.ni.d.lm.d I')
 have h2:=saved_len (QlV (m:=m) c.from_) hbl
 have hh:(if(Qaa X m).hard=true then 25 else 0)<=25:=by split<;>omega
 cases QnF I c w1 w3 hc hto hk hl with
 |same a1 a2=>rw[if_pos a2] at h2;exact⟨by omega,fun _=>by omega⟩
 |app p a1 a2 a3 a4 a5 a6 a7 a8 a9 a10 a11 a12 a13=>
  refine⟨?_,fun z=>absurd a1 z⟩
  have hlen:(Qaa X m).log.length=m.index.toNat+m.ents.length:=by rw[a11,List.length_take];omega
  have he:=w2.e
  rw[if_neg (by omega)] at h2
  omega
 |lead a1 a2 a3 a4 a5 a6 a7=>
  have hlen:(Qaa X m).log.length=X.log.length+1:=by rw[a5,List.length_append];rfl
  rw[if_neg (by omega)] at h2
  exact⟨by omega,fun _=>by omega⟩
theorem apw_one:apw j [m]=if(m.kind=5/\m.to=(j:Int))\/(m.kind=6/\m.from_=(j:Int)) then 1 else 0:=by
 unfold apw
 rw[List.countP_singleton]
 by_cases e:(m.kind=5/\m.to=(j:Int))\/(m.kind=6/\m.from_=(j:Int))
 ·rw[if_pos e,if_pos (decide_eq_true e)]
 ·rw[if_neg e,if_neg fun z=>e (of_decide_eq_true z)]
theorem msg_cost(I:GI k g)(c:CN k g S i X)(w:MI k g m/\BM m/\WM k m)(hto:m.to=(i:Int))(hl:X.log.length<1024):∀j,(if j=i then(Qao (Qav (Qaa X m))).length else 0)+1041*apw j (Qaa X m).out<=1041+1041*apw j [m]:=fun j=>by
 have hb:=msg_bytes I c w hto hl
 obtain⟨w1,w2,w3⟩:=w
 have hk:2<=k:=by have:=w3.f;have:=w3.t;have:=w3.ne;omega
 have hid:X.id=m.to:=by rw[c.ni.id];exact hto.symm
 have hc:=Qcu I ⟨w1,w2,w3⟩ hid c.ni.n
 have hw:∀o∈(Qaa X m).out,WM k o/\o.from_=(i:Int):=(Qiz c.xi w3 hto c.m0.1 c.m0.2).out
 obtain⟨n1,n2⟩:=cnt_step c w3 hc hto hk hl
 have ho:=apw_out (j:=j) hw
 rw[apw_one]
 by_cases k5:m.kind=5
 ·obtain⟨b1,b2⟩:=n1 k5
  by_cases e:j=i
  ·subst e
   rw[if_pos rfl] at ho⊢
   rw[if_pos (.inl ⟨k5,hto⟩)]
   omega
  ·rw[if_neg e] at ho⊢
   have:=b1 j
   omega
 ·obtain⟨b1,b2⟩:=n2 k5
  by_cases e:j=i
  ·subst e
   rw[if_pos rfl] at ho⊢
   have:=hb.2 k5
   omega
  ·rw[if_neg e] at ho⊢
   have h3:=b1 j
   by_cases e2:m.kind=6/\m.from_.toNat=j
   ·rw[if_pos e2] at h3
    rw[if_pos (.inr ⟨e2.1,by have:=w3.f;omega⟩)]
    omega
   ·rw[if_neg e2] at h3
    omega
theorem gDo_q(h:GInv k g S G)(x:GXI k G)(Q:GQ S (fun _=>0) G)(hS:S<1024)(hd:s.data.size<=100):GQ (S+1) (fun _=>0) (gDo G s).1:=by
 have hlog:∀{i:Nat} {q:GN} {X:RN},UpI k g i S q X->X.log.length<1024:=fun u=>Nat.lt_of_le_of_lt (u.ni.d.lm.len h.few.lb) hS
 unfold gDo
 split
 ·unfold Qld
  split
  ·exact Q.up
  split
  ·exact Q.up
  ·rename_i q hq
   split
   ·split
    ·exact restart_q Q hq
    ·exact Q.up
   ·rename_i X hX
    have u:=(h.seat _ q hq).up X hX
    have hXI:=x.node _ q X hq hX
    have c:=u.cn hXI
    have htm:=Q.tm _ q X hq hX
    split
    ·exact Q.up
    split
    ·obtain⟨g',B',I',si'⟩:=Qjt (draw:=s.draw) h.gi c.si
     have bn:BN (S+1) 14 (Qah X s.draw):=QmE u.bn
     obtain⟨t1,t2⟩:=tick_term (dr:=s.draw) X
     have hO:=t2 u.out
     exact comes_q Q hq hX bn.sz bn.ld (by omega) (fun o ho=>by have:=hO o ho;omega) (one_cost (one_tick u.from_) bn I' si'.ni.d.lm (Qj2 hXI).out fun hk=>tick_out6 c hk)
    split
    ·obtain⟨g',B',I',si'⟩:=Qfl (data:=s.data) h.gi c.si hd
     have bn:BN (S+1) 14 (Qam X s.data).1:=(QfW u.bn).up (Nat.le_succ _) (Nat.le_refl _)
     obtain⟨t1,t2⟩:=pro_term (X:=X) (data:=s.data)
     have hO:=t2 u.out
     exact comes_q Q hq hX bn.sz bn.ld (by omega) (fun o ho=>by have:=hO o ho;omega) (one_cost (QiE u.from_) bn I' si'.ni.d.lm (Qj3 hXI).out fun hk=>pro_out6 h.gi c hk (hlog u) (by omega))
    ·exact crash_q Q hq hX
 split
 ·unfold gMsg
  split
  ·exact Q.up
  split
  ·exact Q.up
  ·rename_i m hm
   have hmm:=List.mem_of_getElem? hm
   have hmi:=h.net m hmm
   have hmt:=Q.net m hmm
   have herase:GQ S (fun j=>apw j [m]) ⟨G.l,G.net.eraseIdx s.i.toNat⟩:=⟨Q.dk,Q.tm,fun y hy=>Q.net y (List.mem_of_mem_eraseIdx hy),fun j q hq=>by
    have:=Q.by_ j q hq
    have e:=apw_erase (j:=j) G.net s.i.toNat hm
    show q.b.length+1041*(apw j (G.net.eraseIdx s.i.toNat)+apw j [m])<=_
    omega⟩
   split
   ·split
    ·exact Q.up
    ·refine⟨fun i q hq=>(Q.dk i q hq).up,fun i q X hq hX=>by have:=Q.tm i q X hq hX;omega,fun y hy=> ?_,fun j q hq=> ?_⟩
     ·have hy:y∈G.net++ [m]:=hy
      rcases List.mem_append.1 hy with z|z
      ·have:=Q.net y z;omega
      ·rw[List.mem_singleton.1 z];omega
     ·have:=Q.by_ j q hq
      show q.b.length+1041*(apw j (G.net++ [m])+0)<=_
      rw[Qku]
      have:apw j [m]<=1:=List.countP_le_length
      omega
   split
   ·exact herase.up
   ·unfold gCome
    split
    ·exact herase.up
    split
    ·exact herase.up
    ·rename_i hto0 _ q hq
     split
     ·exact herase.up
     ·rename_i X hX
      have u:=(h.seat _ q hq).up X hX
      have hXI:=x.node _ q X hq hX
      have c:=u.cn hXI
      have hw:=x.net m hmm
      have htm:=Q.tm _ q X hq hX
      have hto:m.to=((m.to.toNat:Nat):Int):=by omega
      have hid:X.id=m.to:=by rw[c.ni.id];exact hto.symm
      have hc:=Qcu h.gi ⟨hmi.1,hmi.2,hw⟩ hid c.ni.n
      have bn:BN (S+1) 14 (Qaa X m):=(QhA u.bn hmi.2 u.ni.c1).up (Nat.le_succ _) (Nat.le_refl _)
      have hst:=(Qdn (X:=X) hc).2
      have cost:=msg_cost h.gi c ⟨hmi.1,hmi.2,hw⟩ hto (hlog u)
      split
      ·exact comes_q herase hq hX bn.sz bn.ld (by omega) (fun o ho=>by
        have:=ot_step (U:=S) hc (by rw[u.out];intro o ho;cases ho) htm hmt o ho
        omega) cost
      ·refine torn_q herase hq hX bn.sz bn.ld (by omega) ?_
       have:=cost m.to.toNat
       rw[if_pos rfl] at this
       show _<=1041+1041*apw m.to.toNat [m]
       omega
 ·exact Q.up
theorem gNew_q(k:Nat):GQ 0 (fun _=>0) (gNew k):=by
 have key:∀{i:Nat} {q:GN},(gNew k).l[i]? =some q->q=⟨some (Ql9 i k 4 2 0 (-1) []),[],0⟩:=fun{i q} hq=>by
  have hq:((List.range k).map fun(i:Nat)=>(⟨some (Ql9 i k 4 2 0 (-1) []),[],0⟩:GN))[i]? =some q:=hq
  have hik:i<k:=by
   have:=(List.getElem?_eq_some_iff.1 hq).1
   rwa[List.length_map,List.length_range] at this
  rw[List.getElem?_map,List.getElem?_range hik] at hq
  injection hq with hq
  exact hq.symm
 refine⟨fun i q hq=> ?_,fun i q X hq hX=> ?_,fun m hm=>(by cases hm),fun j q hq=> ?_⟩
 ·rw[key hq]
  exact⟨[],[],0,0,0,fun r hr=>(by cases hr),fun r hr=>(by cases hr),rfl,rfl,fun _=>rfl⟩
 ·rw[key hq] at hX
  injection hX with hX
  subst hX
  exact Int.le_refl _
 ·rw[key hq]
  exact Nat.le_refl _
theorem gRun_q:∀(l:List ST){g:GH}{S:Nat}{G:GS},GInv k g S G->GXI k G->GQ S (fun _=>0) G->S+l.length<1024->(∀s∈l,s.data.size<=100)->∃g',GInv k g' (S+l.length) (gRun G l)/\GXI k (gRun G l)/\GQ (S+l.length) (fun _=>0) (gRun G l)
 | [],g,S,G,h,x,Q,_,_=>⟨g,h,x,Q⟩
 |s::l,g,S,G,h,x,Q,hS,hd=>by
  rw[List.length_cons] at hS⊢
  obtain⟨g1,_,h1⟩:=Qhv h s (hd s (List.mem_cons_self ..))
  have e:S+(l.length+1)=S+1+l.length:=by omega
  rw[e]
  exact gRun_q l h1 (gx_do h x s) (gDo_q h x Q (by omega) (hd s (List.mem_cons_self ..))) (by omega) fun y hy=>hd y (List.mem_cons_of_mem _ hy)
end
section
variable {k X0 LC M bd E Zb l x:Nat}{g g':GH}{i f j S S':Nat}{X Y Z F L W:RN}{m:RM}{C C':CS}{r A D:List RM}{dr t T0 U U' v Tm:Int}{data:ByteArray}{ls:List Int}{B n1 n2:Nat}{G:GS}{q:GN}{s:ST}{sl:Nat->Nat}
structure D1(k:Nat)(ls:List Int)(B:Nat)(U:Int)(g:GH)(S:Nat)(G:GS)(C:CS)(A D:List RM):Prop where
 rel:Rel G C
 c:CInv k g S C
 tb:TmB k U C
 n:C.net=A++D
 l5:∀m∈D,m.kind=5->m.term∈ls
 cr:∃(cr:List (Nat×Int)) (us:List Int),us.Nodup/\(∀t∈us,t∈ls/\g.ll t≠ [])/\cr.length<=400+us.length+0/\PC k cr C
 by_:∀(j:Nat) (q:GN),G.l[j]? =some q->q.b.length+1041*apw j A+152*A.length<=B
theorem D1.len(D1':D1 k ls B U g S G C A D)(hls:ls.length<=15)(hi:i<k):(nd C i).log.length<=415:=by
 obtain⟨cr,us,u1,u2,u3,pc⟩:=D1'.cr
 have h1:=prs2_in (pc.nd i hi)
 have h2:=Qc1 u1 fun t h=>(u2 t h).1
 omega
theorem D1.put(Q:D1 k ls B U g S G C A D)(hX:C.x[i]? =some X)(hq:G.l[i]? =some q){net A' D':List RM}(hn:∀m∈net,m∈C.net)(hcap:net.length<=512)(h':CInv k g' S' (Qg8 C i Y net))(GL:GLe g g')(tb':TmB k U' (Qg8 C i Y net))(sv:SV X Y)(wr:Wr g g' ls C.net X Y 0)
  (h5:∀o∈Y.out.take (512 -net.length),o.kind=5->Y.term∈ls/\o.term=Y.term/\o.ents<+:Y.log.drop o.index.toNat) (hA:net=A'++D') (hD:∀m∈D',m∈D) (hcost:∀j,(if j=i then(Qao (Qav Y)).length else 0)+1041*apw j A'+152*A'.length<=1041*apw j A+152*A.length) (hB:B<=505000) {e:Int}:
  D1 k ls B U' g' S' (Qa7 ⟨G.l,net⟩ i q Y e).1 (Qg8 C i Y net) A' (D'++Y.out.take (512 -net.length))/\(Qa7 ⟨G.l,net⟩ i q Y e).2=e:=by
 obtain⟨cr,us,u1,u2,u3,pc⟩:=Q.cr
 have hik:i<C.x.length:=(List.getElem?_eq_some_iff.1 hX).1
 have hi:i<k:=by rw[<-Q.c.len];exact hik
 have hlog0:prIn cr X.log 0:=by have:=pc.nd i hi;rwa[Qcc hX] at this
 obtain⟨cr',us',v1,v2,v3,v4,v5⟩:=wr_core wr sv GL pc hlog0 u1 u2 u3
 have hb:=Q.by_ i q hq
 have hci:=hcost i
 rw[if_pos rfl] at hci
 have hfit:q.b.length+(Qao (Qav Y)).length<=1048576:=by omega
 have hrel0:Rel ⟨G.l,net⟩ ⟨C.x,net⟩:=⟨rfl,Q.rel.x⟩
 have hrel:Rel (Qa7 ⟨G.l,net⟩ i q Y e).1 (Qg8 C i Y net):=rel_comes hrel0 (by rw[Qof _ _ hfit])
 have hgc:=Qko (G:=G) (i:=i) (net:=net) (e:=e) hfit
 have hnet:=Qdq (C:=C) (i:=i) (Y:=Y) hcap
 refine⟨⟨hrel,h',tb',by rw[hnet,hA,List.append_assoc],fun m hm h5'=> ?_,⟨cr',us',v2,v3,v4,pc_put pc hik v1 v5 hn hcap fun o ho h=>(h5 o ho h).2.2⟩,fun j q' hq'=> ?_⟩,by rw[hgc]⟩
 ·rcases List.mem_append.1 hm with z|z
  ·exact Q.l5 m (hD m z) h5'
  ·obtain⟨w1,w2,_⟩:=h5 m z h5'
   rw[w2];exact w1
 ·rw[hgc] at hq'
  rcases set_seat (List.getElem?_eq_some_iff.1 hq).1 hq' with⟨e,e2⟩|⟨e,e2⟩
  ·subst e
   subst e2
   show(q.b++Qao (Qav Y)).length+_+_<=_
   rw[List.length_append]
   omega
  ·have h1:=Q.by_ j q' e2
   have h2:=hcost j
   rw[if_neg e] at h2
   omega
theorem D1.tick(Q:D1 k ls B U g S G C A [])(hk:2<=k)(hi:i<k)(h1:s.kind=1)(h2:s.node=i)(hlt:LT k ls (Qal C i s.draw))(hB:B<=505000):
  ∃g' S' D,D1 k ls B (U+1) g' S' (gDo G s).1 (Qal C i s.draw) A D/\(gDo G s).2=0:=by
 have hX:=Q.c.nd hi
 have c:=Q.c.node i _ hX
 obtain⟨q,hq,hqX⟩:=Q.rel.seat hX
 obtain⟨g',GL,h'⟩:=Q.c.tick i s.draw
 obtain⟨s1,s2,s3⟩:=tick_save (dr:=s.draw) c hk
 have hkeep:=Qb5 (dr:=s.draw) c hk
 have ht0:=Q.tb.1 i hi
 have tb':=Qoo (U':=U+1) (dr:=s.draw) Q.c hk hi Q.tb (by omega) (by omega)
 have h5:=tick5 Q.c h' hk hi
 have hself:=Qaw (dr:=s.draw) Q.c hX
 rw[gDo_tick h1 h2 hq hqX]
 have heq:Qal C i s.draw=Qg8 C i (Qah (nd C i) s.draw) C.net:=Qh8 hX
 have hG:G=⟨G.l,C.net⟩:=by rw[<-Q.rel.net]
 rw[heq] at h' tb'
 have hnone:(Qao (Qav (Qah (nd C i) s.draw))).length=0:=by
  unfold Qav
  rw[if_pos ⟨s2,s1⟩];rfl
 have:=D1.put (e:=0) (A':=A) (D':= []) Q hX hq (fun m hm=>hm) Q.c.cap h' GL tb' (sv_tick (SV.start c.from_)) (.no hkeep.2.1 s1) (fun o ho h=>by
  obtain⟨a1,a2,a3⟩:=h5 o ho h
  refine⟨?_,a2,a3⟩
  have:=hlt i hi (by rw[hself];exact a1)
  rw[hself] at this
  exact this) Q.n (fun m hm=>hm) (fun j=>by rw[hnone];split<;>omega) hB
 rw[<-heq,<-hG] at this
 exact⟨g',_,_,this⟩
theorem D1.del(Q:D1 k ls B U g S G C (m::A) D)(hk:2<=k)(hlt:LT k ls (QaX C))(hB:B<=505000)(hls:ls.length<=15):
  ∃g' S' D',D1 k ls B U g' S' (gDo G Qnf).1 (QaX C) A D'/\(gDo G Qnf).2=0:=by
 have hmr:C.net=m::(A++D):=Q.n
 obtain⟨X,d⟩:=Q.c.dl hmr
 have c:=d.c
 have hmm:m∈C.net:=by rw[hmr];exact List.mem_cons_self ..
 obtain⟨q,hq,hqX⟩:=Q.rel.seat d.x
 obtain⟨g',GL,h'⟩:=Q.c.del
 have hl:X.log.length<1024:=by have:=Q.len hls c.ni.ik;rw[d.old] at this;omega
 have tb':=tb_del d Q.tb
 have h5:=out5 d h' hk hl
 have hto:=d.to
 have hlead:(Qaa X m).role=3->(Qaa X m).term∈ls/\g'.ll (Qaa X m).term=(Qaa X m).log:=fun h3=>by
  have hnd:=h'.nd c.ni.ik
  have:=hlt _ c.ni.ik (by rw[d.self];exact h3)
  rw[d.self] at this hnd
  exact⟨this,((h'.node _ _ hnd).ni.lead h3).ll⟩
 rw[gDo_del (Q.rel.net.trans hmr) (by omega) hq hqX]
 have heq:=d.eq
 have wr:Wr g g' ls C.net X (Qaa X m) 0:=wr_step d hk hl GL hlead
 rw[heq] at h' tb'
 have hb:=msg_bytes Q.c.gi c d.w d.to hl
 have:=D1.put (e:=0) (net:=A++D) (A':=A) (D':=D) Q d.x hq (fun o ho=>by rw[hmr];exact List.mem_cons_of_mem _ ho) (by have:=d.cap;omega) h' GL tb' (QlV c.from_) wr (fun o ho h=>by
  obtain⟨a1,a2,a3⟩:=h5 o ho h
  exact⟨(hlead a1).1,a2,a3⟩) rfl (fun o ho=>ho) (fun j=>by
  have e1:apw j (m::A)=apw j [m]+apw j A:=Qku [m] A
  rw[e1,List.length_cons,apw_one]
  by_cases e:j=m.to.toNat
  ·rw[if_pos e]
   by_cases k5:m.kind=5
   ·rw[if_pos (.inl ⟨k5,by omega⟩)];omega
   ·have:=hb.2 k5;omega
  ·rw[if_neg e];omega) hB
 rw[<-heq] at this
 exact⟨g',_,_,this⟩
theorem cSet_add:∀(a b:Nat) (C:CS),Qbq (a+b) C=Qbq b (Qbq a C)
 |0,b,C=>by rw[Nat.zero_add];rfl
 |a+1,b,C=>by
  by_cases hn:C.net= []
  ·rw[QbX hn,QbX hn,QbX hn]
  ·rw[show a+1+b=(a+b)+1 by omega,Qa1 hn,Qa1 hn]
   exact cSet_add a b (QaX C)
theorem Qh4{n:Nat}(h:G.net= []):QnU n G=G:=by
 cases n with
 |zero=>rfl
 |succ n=>show(if G.net= [] then G else _)=_;rw[if_pos h]
theorem QlE{n:Nat}(h:G.net≠ []):QnU (n+1) G=QnU n (gDo G Qnf).1:=by show(if G.net= [] then G else _)=_;rw[if_neg h]
theorem gSet_add:∀(a b:Nat) (G:GS),QnU (a+b) G=QnU b (QnU a G)
 |0,b,G=>by rw[Nat.zero_add];rfl
 |a+1,b,G=>by
  by_cases hn:G.net= []
  ·rw[Qh4 hn,Qh4 hn,Qh4 hn]
  ·rw[show a+1+b=(a+b)+1 by omega,QlE hn,QlE hn]
   exact gSet_add a b _
theorem D1.end_(Q:D1 k ls B U g S G C [] D):DE k ls B 0 U g S G C:=by
 obtain⟨cr,us,u1,u2,u3,pc⟩:=Q.cr
 refine⟨Q.rel,Q.c,Q.tb,fun m hm h5=>Q.l5 m (by rw[Q.n] at hm;exact hm) h5,cr,us,u1,u2,u3,pc,fun j q hq=>⟨0,[],[],Ac.start .., ?_⟩⟩
 have:=Q.by_ j q hq
 omega
theorem D1.set(hk:2<=k)(hB:B<=505000)(hls:ls.length<=15):∀(A:List RM){D:List RM}{g:GH}{S:Nat}{G:GS}{C:CS},D1 k ls B U g S G C A D->(∀p,p<=A.length->LT k ls (Qbq p C))->∃g' S',DE k ls B 0 U g' S' (QnU A.length G) (Qbq A.length C)
 | [],D,g,S,G,C,Q,_=>⟨g,S,Q.end_⟩
 |m::A,D,g,S,G,C,Q,hal=>by
  have hn:C.net≠ []:=by rw[Q.n];simp
  rw[List.length_cons] at hal⊢
  rw[Qa1 hn,QlE (fun z=>hn (Q.rel.net.symm.trans z))]
  obtain⟨g1,S1,D',Q1,_⟩:=Q.del hk (by have:=hal 1 (by omega);rwa[Qa1 hn] at this) hB hls
  exact D1.set hk hB hls A Q1 fun p hp=>by have:=hal (p+1) (by omega);rwa[Qa1 hn] at this
def gSlot(G:GS)(s:ST):GS:=QnU 20000 (gDo G s).1
theorem D1.slot(Q:D1 k ls B U g S G C A [])(hk:2<=k)(hi:i<k)(h1:s.kind=1)(h2:s.node=i)(hlt:∀p,p<=20000->LT k ls (Qbq p (Qal C i s.draw)))(hB:B<=505000)(hU:U+1<=2000)(hls:ls.length<=15):∃g' S',DE k ls B 0 (U+1) g' S' (gSlot G s) (slot C i s.draw)/\(gDo G s).2=0:=by
 obtain⟨g1,S1,D,Q1,e1⟩:=Q.tick hk hi h1 h2 (hlt 0 (Nat.zero_le _)) hB
 have hlen:A.length<=512:=by
  have:=Q.c.cap
  rw[Q.n,List.append_nil] at this
  exact this
 obtain⟨g2,S2,D2⟩:=D1.set hk hB hls A Q1 fun p hp=>hlt p (by omega)
 obtain⟨g3,S3,D3⟩:=D2.set hk hB hU hls (by decide) (20000 -A.length) fun p hp=>by
  rw[<-cSet_add];exact hlt _ (by omega)
 rw[<-cSet_add,<-gSet_add,show A.length+(20000 -A.length)=20000 by omega] at D3
 exact⟨g3,S3,D3,e1⟩
theorem DE.slot(D:DE k ls B n1 U g S G C)(hk:2<=k)(hi:i<k)(h1:s.kind=1)(h2:s.node=i)(hlt:∀p,p<=20000->LT k ls (Qbq p (Qal C i s.draw)))(hB:B<=505000)(hU:U+1<=2000)(hls:ls.length<=15)(hn1:n1<=1):∃g' S',DE k ls B n1 (U+1) g' S' (gSlot G s) (slot C i s.draw)/\(gDo G s).2=0:=by
 obtain⟨g1,S1,Q1,e1⟩:=D.tick hk hi h1 h2 (hlt 0 (Nat.zero_le _)) hB hU hls hn1
 obtain⟨g3,S3,D3⟩:=Q1.set hk hB hU hls hn1 20000 hlt
 exact⟨g3,S3,D3,e1⟩
end
section
variable {k X0 LC M bd E Zb l x:Nat}{g g':GH}{i f j S S':Nat}{X Y Z F L W:RN}{m:RM}{C C':CS}{r A D:List RM}{rr rr':Nat->Nat}{dr t T0 U U' v Tm:Int}{data:ByteArray}{ls:List Int}{B n1 n2:Nat}{G:GS}{q:GN}{s:ST}{sl:Nat->Nat}{d:Nat->Int}
def lwn(r:Nat)(X:RN):Nat:=if X.role=1\/X.role=2 then 1+r/4 else Qb8 r X.since
def lw(k:Nat)(rr:Nat->Nat)(C:CS):Nat:=Qck k fun i=>lwn (rr i) (nd C i)
structure LBd(k:Nat)(rr:Nat->Nat)(ls:List Int)(C:CS):Prop where
 lt:LT k ls C
 n:ls.length+lw k rr C<=14
theorem askB_le{r:Nat}{s:Int}:Qb8 r s<=1+r/4:=by unfold Qb8;omega
theorem lw_one{e:Nat}(hi:i<k)(h1:∀j,j<k->j≠i->lwn (rr' j) (nd C' j)<=lwn (rr j) (nd C j))(h2:lwn (rr' i) (nd C' i)+e<=lwn (rr i) (nd C i)):lw k rr' C'+e<=lw k rr C:=by
 have:=QdZ (F:=fun j=>lwn (rr' j) (nd C' j)) (G:=fun j=>lwn (rr j) (nd C j)) (i:=i) (n:=k) (a:=e) (b:=0) hi h1 (by omega)
 unfold lw
 omega
theorem lb_del(d:Dl k g S C m r X)(hk:2<=k)(hl:X.log.length<1024)(b:LBd k rr ls C):∃ls':List Int,(∀t∈ls,t∈ls')/\LBd k rr ls' (QaX C):=by
 have c:=d.c
 have hs0:=c.bn.s.1
 have hsince:=Qj7 d.cb hs0
 have hrole:=step_role d hl
 have hoth:∀j,j<k->j≠m.to.toNat->lwn (rr j) (nd (QaX C) j)<=lwn (rr j) (nd C j):=fun j _ hj=>by rw[d.other hj];exact Nat.le_refl _
 have hself:nd (QaX C) m.to.toNat=Qae (Qaa X m):=d.self
 have hold:=d.old
 have hlt:∀{ls':List Int},(∀t∈ls,t∈ls')->((Qaa X m).role=3->(Qaa X m).term∈ls')->LT k ls' (QaX C):=fun{ls'} h1 h2 f hf h3=>by
  by_cases e:f=m.to.toNat
  ·subst e
   rw[hself] at h3⊢
   exact h2 h3
  ·rw[d.other e] at h3⊢
   exact h1 _ (b.lt f hf h3)
 have hn:=b.n
 by_cases hY:(Qaa X m).role=3
 ·by_cases h3:X.role=3
  ·have hterm:(Qaa X m).term=X.term:=by
    rcases Qdo d.cb c h3 hY with⟨q1,_,_⟩|⟨_,_,hh⟩
    ·exact q1.term
    ·rw[hh];exact Qh3 X m
   refine⟨ls,fun t h=>h,hlt (fun t h=>h) fun _=> ?_, ?_⟩
   ·rw[hterm]
    have:=b.lt _ c.ni.ik (by rw[hold];exact h3)
    rwa[hold] at this
   ·have:=lw_one (e:=0) (rr:=rr) (rr':=rr) c.ni.ik hoth (by
     rw[hself,hold]
     unfold lwn
     rw[if_neg (show ¬((Qae (Qaa X m)).role=1\/(Qae (Qaa X m)).role=2) by show ¬((Qaa X m).role=1\/(Qaa X m).role=2);omega),if_neg (by omega)]
     exact QeW (Nat.le_refl _) hsince)
    omega
  ·obtain⟨k4,e1,hr2,_,_,hyy⟩:=Qcd d.cb c d.w.2.2 d.to h3 hY
   have hter:¬X.term<Qa9 X.log:=by
    have:=Qce (c.ni.cand hr2).ter (by have:=(c.ni.cand hr2).t1;omega)
    omega
   have hs:(Qaa X m).since=0:=by
    rw[hyy,Qgo (Z:={X with votes:=X.votes|||2^m.from_.toNat}) hter hl]
    rcases Qdh (Qa4 (QaN {Qay {X with votes:=X.votes|||2^m.from_.toNat} with log:=X.log++ [⟨X.term,⟨#[]⟩⟩]} ((X.log.length:Int)+1))) with e|e
    ·exact e.trans rfl
    ·exact e
   refine⟨(Qaa X m).term::ls,fun t h=>List.mem_cons_of_mem _ h,hlt (fun t h=>List.mem_cons_of_mem _ h) fun _=>List.mem_cons_self .., ?_⟩
   have:=lw_one (e:=1) (rr:=rr) (rr':=rr) c.ni.ik hoth (by
    rw[hself,hold]
    unfold lwn
    rw[if_neg (show ¬((Qae (Qaa X m)).role=1\/(Qae (Qaa X m)).role=2) by show ¬((Qaa X m).role=1\/(Qaa X m).role=2);omega),if_pos (.inr hr2)]
    show Qb8 _ (Qaa X m).since+1<=_
    rw[hs]
    unfold Qb8
    show(rr m.to.toNat+min ((0:Int).toNat) 3)/4+1<=_
    have:min ((0:Int).toNat) 3=0:=rfl
    omega)
   rw[List.length_cons]
   omega
 ·refine⟨ls,fun t h=>h,hlt (fun t h=>h) fun h=>absurd h hY, ?_⟩
  have:=lw_one (e:=0) (rr:=rr) (rr':=rr) c.ni.ik hoth (by
   rw[hself,hold]
   unfold lwn
   show(if(Qaa X m).role=1\/(Qaa X m).role=2 then _ else Qb8 _ (Qaa X m).since)+0<=_
   by_cases h1:(Qaa X m).role=1\/(Qaa X m).role=2
   ·rw[if_pos h1,if_pos (hrole h1)];exact Nat.le_refl _
   ·rw[if_neg h1]
    split
    ·exact askB_le
    ·exact QeW (Nat.le_refl _) hsince)
  omega
theorem lb_tick(h:CInv k g S C)(hk:2<=k)(hi:i<k)(h1:rr i=rr' i+1)(h2:∀j,j<k->j≠i->rr' j=rr j)(b:LBd k rr ls C):LBd k rr' ls (Qal C i dr):=by
 have hX:=h.nd hi
 have c:=h.node i _ hX
 have hself:=Qaw (dr:=dr) h hX
 obtain⟨k1,_,_,_,_,_,k7⟩:=Qb5 (dr:=dr) c hk
 have hs0:=c.bn.s.1
 refine⟨fun f hf h3=> ?_, ?_⟩
 ·by_cases e:f=i
  ·subst e
   rw[hself] at h3⊢
   show(Qah (nd C f) dr).term∈ls
   rw[k1]
   exact b.lt f hf (k7 h3)
  ·rw[Qak hX e] at h3⊢
   exact b.lt f hf h3
 ·have hn:=b.n
  have hup:Qb8 (rr' i) ((nd C i).since+1)<=Qb8 (rr' i+1) (nd C i).since:=by unfold Qb8;exact Nat.div_le_div_right (by omega)
  have hr0:Qb8 (rr' i) 0<=Qb8 (rr' i+1) (nd C i).since:=by unfold Qb8;exact Nat.div_le_div_right (by omega)
  have:=lw_one (C:=C) (C':=Qal C i dr) (e:=0) (rr:=rr) (rr':=rr') hi (fun j hj hji=>by rw[Qak hX hji,h2 j hj hji];exact Nat.le_refl _) (by
   rw[hself,h1]
   unfold lwn
   show(if(Qah (nd C i) dr).role=1\/(Qah (nd C i) dr).role=2 then 1+rr' i/4 else Qb8 (rr' i) (Qah (nd C i) dr).since)+0<=_
   cases Qa2 (dr:=dr) c with
   |quiet q1 q2 q3 q4 q5=>rw[if_neg (by omega),if_neg (by omega),q5];exact hup
   |beat W q1 q2 a1 a2 a3 a4 a5 a6 a7 a8=>rw[if_neg (by omega),if_neg (by omega),a8];exact hr0
   |down q1 q2 q3 q4=>
    rw[q4]
    show(if(0:Int)=1\/(0:Int)=2 then _ else Qb8 (rr' i) 0)+0<=_
    rw[if_neg (by decide),if_neg (by omega)];exact hr0
   |wait q1 q2 q3=>
    rw[q3]
    show(if(nd C i).role=1\/(nd C i).role=2 then 1+rr' i/4 else Qb8 (rr' i) ((nd C i).since+1))+0<=_
    split
    ·omega
    ·exact hup
   |ask q1 q2 q3 q4=>
    rw[q4,QdQ c hk]
    show(if(1:Int)=1\/(1:Int)=2 then 1+rr' i/4 else _)+0<=_
    rw[if_pos (.inl rfl)]
    have hs3:3<=(nd C i).since:=by
     have:0<=(if 0>dr then 0 else dr)%4:=Int.emod_nonneg _ (by decide)
     omega
    split
    ·omega
    ·unfold Qb8;omega)
  omega
theorem LT.more{ls':List Int}(h:LT k ls C)(hs:∀z∈ls,z∈ls'):LT k ls' C:=fun f hf h3=>hs _ (h f hf h3)
theorem lb_set(hk:2<=k)(hZ:Zb<1024):∀(n:Nat){g:GH}{S:Nat}{C:CS}{ls:List Int},Bas k rr Zb E g S C->LBd k rr ls C->∃ls':List Int,(∀t∈ls,t∈ls')/\LBd k rr ls' (Qbq n C)/\∀p,p<=n->LT k ls' (Qbq p C)
 |0,g,S,C,ls,b,q=>⟨ls,fun t h=>h,q,fun p hp=>by
   have:p=0:=by omega
   subst this
   exact q.lt⟩
 |n+1,g,S,C,ls,b,q=>by
  by_cases hn:C.net= []
  ·exact⟨ls,fun t h=>h,by rw[QbX hn];exact q,fun p hp=>by rw[QbX hn];exact q.lt⟩
  ·obtain⟨m,r,hmr⟩:=List.exists_cons_of_ne_nil hn
   obtain⟨X,d⟩:=b.c.dl hmr
   have hl:X.log.length<1024:=by have:=b.lt hZ d.c.ni.ik;rw[d.old] at this;omega
   obtain⟨g1,G,b1⟩:=b.del d hk hZ
   obtain⟨ls1,h1,q1⟩:=lb_del d hk hl q
   obtain⟨ls2,h2,q2,q3⟩:=lb_set hk hZ n b1 q1
   refine⟨ls2,fun t h=>h2 t (h1 t h),by rw[Qa1 hn];exact q2,fun p hp=> ?_⟩
   cases p with
   |zero=>exact(q.lt.more h1).more h2
   |succ p=>rw[Qa1 hn];exact q3 p (by omega)
theorem lb_run(hk:2<=k)(h7:k<=7)(b:Bas k (rem k 0) 421 400 g S C)(q:LBd k (rem k 0) ls C):∀s,s<=6*k->∃ls':List Int,(∀t∈ls,t∈ls')/\LBd k (rem k s) ls' (Qe7 k d C s)/\∀s',s'<s->∀p,p<=20000->LT k ls' (Qbq p (Qal (Qe7 k d C s') (s'%k) (d s'))):=by
 obtain⟨V,_,hV⟩:=QlZ (d:=d) hk h7 b
 intro s
 induction s with
 |zero=>exact fun _=>⟨ls,fun t h=>h,q,fun s' hs'=>by omega⟩
 |succ s ih=>
  intro hs
  obtain⟨ls1,h1,q1,a1⟩:=ih (by omega)
  obtain⟨r1,r2⟩:=Qlx hk h7 (show s<6*k by omega)
  have hi:s%k<k:=Nat.mod_lt _ (by omega)
  have bs:∃g S,Bas k (rem k s) 421 400 g S (Qe7 k d C s):=by
   by_cases h0:s=0
   ·subst h0;exact⟨g,S,b⟩
   ·obtain⟨g1,S1,_,b1,_⟩:=hV s (by omega) (by omega)
    exact⟨g1,S1,b1⟩
  obtain⟨g1,S1,b1⟩:=bs
  have q2:=lb_tick (dr:=d s) b1.c hk hi r1 r2 q1
  obtain⟨g2,_,b2⟩:=Qc9 (dr:=d s) b1 hk hi r1 r2
  obtain⟨ls2,h2,q3,a2⟩:=lb_set hk (by decide) 20000 b2 q2
  refine⟨ls2,fun t h=>h2 t (h1 t h),q3,fun s' hs' p hp=> ?_⟩
  by_cases e:s'=s
  ·subst e;exact a2 p hp
  ·exact(a1 s' (by omega) p hp).more h2
theorem lb_start(h:CInv k g S C)(h7:k<=7):∃ls,LBd k (rem k 0) ls C:=by
 have key:∀n,n<=k->∃ls:List Int,(∀f,f<n->(nd C f).role=3->(nd C f).term∈ls)/\ls.length+Qck n (fun i=>lwn (rem k 0 i) (nd C i))<=n*2:=by
  intro n
  induction n with
  |zero=>exact fun _=>⟨[],fun f hf=>by omega,Nat.le_refl _⟩
  |succ n ih=>
   intro hn
   obtain⟨ls,h1,h2⟩:=ih (by omega)
   have c:=h.node n _ (h.nd (by omega))
   have hr:=rem_le k 0 n
   have hn1:Qck (n+1) (fun i=>lwn (rem k 0 i) (nd C i))=Qck n (fun i=>lwn (rem k 0 i) (nd C i))+lwn (rem k 0 n) (nd C n):=rfl
   have hsn:=c.bn.s.1
   by_cases h3:(nd C n).role=3
   ·have hs:=c.xi.since h3
    refine⟨(nd C n).term::ls,fun f hf hf3=> ?_, ?_⟩
    ·by_cases e:f=n
     ·subst e;exact List.mem_cons_self ..
     ·exact List.mem_cons_of_mem _ (h1 f (by omega) hf3)
    ·have:lwn (rem k 0 n) (nd C n)<=1:=by
      unfold lwn
      rw[if_neg (by omega)]
      unfold Qb8
      omega
     rw[hn1,List.length_cons]
     omega
   ·refine⟨ls,fun f hf hf3=> ?_, ?_⟩
    ·by_cases e:f=n
     ·subst e;exact absurd hf3 h3
     ·exact h1 f (by omega) hf3
    ·have:lwn (rem k 0 n) (nd C n)<=2:=by
      unfold lwn
      split
      ·omega
      ·unfold Qb8;omega
     rw[hn1]
     omega
 obtain⟨ls,h1,h2⟩:=key k (Nat.le_refl _)
 refine⟨ls,h1, ?_⟩
 unfold lw
 omega
end
section
variable {k X0 LC M bd E Zb l x:Nat}{g g':GH}{i f j S S' S0 S1:Nat}{X Y Z F L W:RN}{m:RM}{C C':CS}{r A D:List RM}{rr rr':Nat->Nat}{dr t T0 U U' v Tm:Int}{data:ByteArray}{ls:List Int}{B n1 n2:Nat}{G:GS}{q:GN}{s:ST}{sl:Nat->Nat}{d:Nat->Int}
theorem FewI.cong(h:FewI g S)(e:g'.ll=g.ll):FewI g' S:=by
 obtain⟨cr,h1,h2⟩:=h.cr
 exact⟨fun t=>by rw[e];exact h.lb t,cr,h1,by rw[e];exact h2⟩
def Qi7(i:Nat):ST:=⟨7,i,0,0,0,0,0,⟨#[]⟩⟩
theorem back_step(h:GInv k g S G)(few:FewI g S0)(hi:i<k):∃g',GLe g g'/\GInv k g' (S+1) (gDo G (Qi7 i)).1/\FewI g' S0/\(∀q',(gDo G (Qi7 i)).1.l[i]? =some q'->q'.node≠none)/\(∀j,j≠i->(gDo G (Qi7 i)).1.l[j]? =G.l[j]?):=by
 have hil:i<G.l.length:=by rw[h.len];exact hi
 have hq:=List.getElem?_eq_getElem hil
 generalize G.l[i]=q at hq
 have e0:gDo G (Qi7 i)=Qld G (Qi7 i):=by
  unfold gDo
  rw[if_pos (.inr ⟨(by decide:(5:Int)<=7),(by decide:(7:Int)<=7)⟩)]
 have e1:Qld G (Qi7 i)=(match q.node with
  |none=>QbW G i q
  |some X=>(G,8)):=by
  unfold Qld
  rw[if_neg (show ¬(Qi7 i).node<0 by show ¬(i:Int)<0;omega)]
  have e2:(Qi7 i).node.toNat=i:=rfl
  rw[e2]
  simp only[hq]
  cases q.node with
  |none=>simp only;rw[if_pos (show(Qi7 i).kind=7 from rfl)]
  |some X=>simp only;rw[if_pos (show(Qi7 i).kind=7 from rfl)]
 rw[e0,e1]
 cases hX:q.node with
 |some X=>
  obtain⟨g',a,b⟩:=Qcq h
  refine⟨g,GLe.refl g, ?_,few,fun q' hq'=> ?_,fun j _=>rfl⟩
  ·refine⟨h.k1,h.k7,h.gi,h.len,fun i q hq=> ?_,h.net,h.cap,h.few.up (.inl rfl)⟩
   have s:=h.seat i q hq
   exact⟨s.len,fun X hX=>by have u:=s.up X hX;exact⟨u.ni,u.bn.up (Nat.le_succ _) (Nat.le_refl _),u.out,u.hard,u.from_,u.dk,u.n⟩,s.down⟩
  ·have hq':G.l[i]? =some q':=hq'
   rw[hq] at hq'
   injection hq' with hq'
   rw[<-hq',hX]
   exact fun z=>by cases z
 |none=>
  obtain⟨g',a,b,c⟩:=Ql2 h hq hX
  have dn:=(h.seat i q hq).down hX
  obtain⟨st,T,vt,l,t⟩:=dn.tells
  have e3:(QbW G i q).1=⟨G.l.set i ⟨some (Qnm G.l.length i st),q.b.take (QdG q.b).2.1,(QdG q.b).2.1⟩,G.net⟩:=by
   unfold QbW
   rw[t.play]
  refine⟨g',a,b,few.cong c,fun q' hq'=> ?_,fun j hj=> ?_⟩
  ·have hq':(QbW G i q).1.l[i]? =some q':=hq'
   rw[e3] at hq'
   have hq':(G.l.set i _)[i]? =some q':=hq'
   rw[List.getElem?_set_self hil] at hq'
   injection hq' with hq'
   rw[<-hq']
   exact fun z=>by cases z
  ·show(QbW G i q).1.l[j]? =_
   rw[e3]
   exact List.getElem?_set_ne (fun z=>hj z.symm)
def gBk(G:GS):Nat->GS
 |0=>G
 |n+1=>(gDo (gBk G n) (Qi7 n)).1
theorem back_all(h:GInv k g S G)(x:GXI k G)(Q:GQ S (fun _=>0) G)(few:FewI g S0)(hS:S+7<1024):∃g',GInv k g' (S+k) (gBk G k)/\GXI k (gBk G k)/\GQ (S+k) (fun _=>0) (gBk G k)/\FewI g' S0/\∀q∈(gBk G k).l,q.node≠none:=by
 have h7:=h.k7
 have key:∀n,n<=k->∃g',GInv k g' (S+n) (gBk G n)/\GXI k (gBk G n)/\GQ (S+n) (fun _=>0) (gBk G n)/\FewI g' S0/\∀i q,i<n->(gBk G n).l[i]? =some q->q.node≠none:=by
  intro n
  induction n with
  |zero=>exact fun _=>⟨g,h,x,Q,few,fun i q hi=>by omega⟩
  |succ n ih=>
   intro hn
   obtain⟨g1,a1,a2,a3,a4,a5⟩:=ih (by omega)
   obtain⟨g2,_,b1,b2,b3,b4⟩:=back_step a1 a4 (i:=n) (by omega)
   refine⟨g2,b1,gx_do a1 a2 _,gDo_q a1 a2 a3 (show S+n<1024 by omega) (Nat.zero_le _),b2,fun i q hi hq=> ?_⟩
   by_cases e:i=n
   ·subst e;exact b3 q hq
   ·have hq:(gDo (gBk G n) (Qi7 n)).1.l[i]? =some q:=hq
    rw[b4 i e] at hq
    exact a5 i q (by omega) hq
 obtain⟨g1,a1,a2,a3,a4,a5⟩:=key k (Nat.le_refl _)
 refine⟨g1,a1,a2,a3,a4,fun q hq=> ?_⟩
 obtain⟨i,hi,hiq⟩:=List.getElem_of_mem hq
 exact a5 i q (by rw[<-a1.len];exact hi) (by rw[List.getElem?_eq_getElem hi,hiq])
theorem lmAt{l:List RE}{q:Nat}{e:RE}(h:LM g l)(he:l[q]? =some e):(g.ll e.term)[q]? =some e:=by
 have hq:=(List.getElem?_eq_some_iff.1 he).1
 have h1:=h q hq
 rw[List.getElem?_eq_getElem hq] at he
 injection he with he
 rw[he] at h1
 rw[Qbv h1 (by rw[List.length_take];omega),List.getElem?_take_of_lt (by omega),List.getElem?_eq_getElem hq,he]
theorem pc_start(h:CInv k g S C)(few:FewI g S0):∃cr:List (Nat×Int),cr.length<=S0/\PC k cr C:=by
 obtain⟨cr,h1,h2⟩:=few.cr
 refine⟨cr,h1,fun f hf q e he=> ?_,fun m hm h5 q e he=> ?_⟩
 ·rw[Nat.zero_add]
  exact h2 _ _ e (lmAt (h.node f _ (h.nd hf)).ni.d.lm he) rfl
 ·obtain⟨a1,_,_,_,_,a6,_⟩:=(h.net m hm).1.2.2.1 h5
  have hq:=(List.getElem?_eq_some_iff.1 he).1
  have h3:=Qh6 a6 hq
  rw[he] at h3
  exact h2 _ _ e (lmAt (h.gi.L _ a1).lm h3) rfl
theorem Qmb(t:Int):∀(l:List RE) (a:Nat),((prs2 a l).filter fun c=>decide (c.2=t)).length=(l.filter fun e=>decide (e.term=t)).length
 | [],_=>rfl
 |e::l,a=>by
  have ih:=Qmb t l (a+1)
  show(((a,e.term)::prs2 (a+1) l).filter fun c=>decide (c.2=t)).length=_
  rw[List.filter_cons,List.filter_cons]
  by_cases h:e.term=t
  ·rw[if_pos (decide_eq_true h),if_pos (decide_eq_true h),List.length_cons,List.length_cons,ih]
  ·rw[if_neg (fun z=>h (of_decide_eq_true z)),if_neg (fun z=>h (of_decide_eq_true z)),ih]
theorem Qnz{α:Type}{p:Nat->α->Bool}(hp:∀c i j,i<k->j<k->p i c=true->p j c=true->i=j):∀l:List α,Qck k (fun i=>l.countP (p i))<=l.length
 | []=>Nat.le_of_eq (QbU fun _ _=>rfl)
 |c::l=>by
  have ih:=Qnz hp l
  have e:Qck k (fun i=>(c::l).countP (p i))=Qck k (fun i=>l.countP (p i))+Qck k (fun i=>if p i c=true then 1 else 0):=by
   rw[<-Qd0]
   exact QbE fun i _=>List.countP_cons
  have h1:Qck k (fun i=>if p i c=true then 1 else 0)<=1:=by
   by_cases hx:∃i,i<k/\p i c=true
   ·obtain⟨i,hi,hic⟩:=hx
    exact QeN (j:=i) (fun j hj hji=>if_neg fun z=>hji (hp c j i hj hi z hic)) (by rw[if_pos hic];exact Nat.le_refl _)
   ·refine Nat.le_trans (Nat.le_of_eq (QbU fun i hi=>if_neg fun z=>hx ⟨i,hi,z⟩)) (Nat.zero_le _)
  rw[e,List.length_cons]
  omega
theorem own_start(h:CInv k g S C)(few:FewI g S0):own1 k C<=S0:=by
 obtain⟨cr,h1,h2⟩:=few.cr
 refine Nat.le_trans ?_ h1
 refine Nat.le_trans (Qcn fun i hi=> ?_) (Qnz (k:=k) (p:=fun i c=>decide ((nd C i).role=3/\c.2=(nd C i).term)) (fun c i j hi hj z1 z2=> ?_) cr)
 ·by_cases h3:(nd C i).role=3
  ·rw[if_pos h3]
   have Ld:=(h.node i _ (h.nd hi)).ni.lead h3
   have e1:QcW (nd C i)=((prs2 (nd C i).commit.toNat ((nd C i).log.drop (nd C i).commit.toNat)).filter fun c=>decide (c.2=(nd C i).term)).length:=by rw[Qmb];rfl
   rw[List.countP_eq_length_filter]
   refine Nat.le_trans (Nat.sub_le _ _) ?_
   rw[e1]
   refine Qc1 ((Qhh _ _).filter _) fun c hc=> ?_
   obtain⟨hc1,hc2⟩:=List.mem_filter.1 hc
   have hc2:=of_decide_eq_true hc2
   refine List.mem_filter.2 ⟨?_,decide_eq_true ⟨h3,hc2⟩⟩
   obtain⟨q,e,he,hce⟩:=QhZ hc1
   rw[List.getElem?_drop,<-Ld.ll] at he
   have:=h2 _ _ e he (by rw[hce] at hc2;exact hc2)
   rw[hce]
   have h5:e.term=(nd C i).term:=by rw[hce] at hc2;exact hc2
   rw[h5];exact this
  ·rw[if_neg h3];exact Nat.zero_le _
 ·have z1:=of_decide_eq_true z1
  have z2:=of_decide_eq_true z2
  exact h.one (h.nd hi) (h.nd hj) z1.1 z2.1 (z1.2.symm.trans z2.2)
theorem bas_start(h:CInv k g S C)(few:FewI g 400):Bas k (rem k 0) 421 400 g S C:=by
 have h7:=h.k7
 refine⟨h,own_start h few,400,⟨fun i hi=>(h.node i _ (h.nd hi)).ni.d.lm.len few.lb,fun m hm h5=> ?_⟩, ?_⟩
 ·obtain⟨a1,_,a3,a4,_,a6,_⟩:=(h.net m hm).1.2.2.1 h5
  have:=Qbf a6
  rw[List.length_drop] at this
  have:=few.lb m.term
  omega
 ·have:lb k (rem k 0) C<=k*3:=Qcj fun f _=>by
   have:=rem_le k 0 f
   have:Qb8 (rem k 0 f) (nd C f).since<=2:=by unfold Qb8;omega
   show(if(nd C f).role=1\/(nd C f).role=2 then 1 else 0)+Qb8 (rem k 0 f) (nd C f).since<=3
   split<;>omega
  omega
theorem FewI.mono(h:FewI g S)(hs:S<=S'):FewI g S':=by
 obtain⟨cr,h1,h2⟩:=h.cr
 exact⟨fun t=>Nat.le_trans (h.lb t) hs,cr,Nat.le_trans h1 hs,h2⟩
theorem d1_start(rel:Rel G C)(h:CInv k g S C)(Q:GQ S1 (fun _=>0) G)(few:FewI g 400)(hS1:S1<=407)(ls:List Int):D1 k ls 505000 407 g S G C C.net []:=by
 obtain⟨cr,h1,h2⟩:=pc_start h few
 refine⟨rel,h,⟨fun i hi=> ?_,fun m hm=> ?_⟩,(List.append_nil _).symm,fun m hm=>(by cases hm),⟨cr,[],List.nodup_nil,fun t ht=>(by cases ht),by rw[List.length_nil];omega,h2⟩,fun j q hq=> ?_⟩
 ·obtain⟨q,hq,hqX⟩:=rel.seat (h.nd hi)
  have:=Q.tm i q _ hq hqX
  omega
 ·have:=Q.net m (by rw[rel.net];exact hm)
  omega
 ·have h3:=Q.by_ j q hq
  rw[rel.net] at h3
  have:=h.cap
  omega
end
section
variable {k X0 LC M bd E Zb l x:Nat}{g g':GH}{i f j S S' S0 S1:Nat}{X Y Z F L W:RN}{m:RM}{C C':CS}{rr rr':Nat->Nat}{dr t T0 U U' v Tm:Int}{ls:List Int}{μ ν r:Nat}{p p0:CS×Int}
def drw(r i:Nat):Int:=(((i+r/20)%4:Nat):Int)
def xB:ByteArray:=⟨#[120]⟩
def QeO(k r:Nat)(C:CS):CS:=Qeq (drw r) C k
def rdC(k r:Nat)(p:CS×Int):CS×Int:=
 if 0<=QcJ (QeO k r p.1) k/\r%10=5 then(Qbq 20000 (Qe9 (QeO k r p.1) (QcJ (QeO k r p.1) k).toNat xB),mx p.2 ((nd (QeO k r p.1) (QcJ (QeO k r p.1) k).toNat).log.length+1))
 else(QeO k r p.1,p.2)
def stC(k:Nat)(p0:CS×Int):Nat->CS×Int
 |0=>p0
 |r+1=>rdC k r (stC k p0 r)
def okP(k:Nat)(p:CS×Int):Prop:=0<p.2/\∀i,i<k->p.2<=(nd p.1 i).commit
structure RdOK(k:Nat)(ls:List Int)(r:Nat)(p:CS×Int):Prop where
 lt:∀i,i<k->∀n,n<=20000->LT k ls (Qbq n (Qal (Qeq (drw r) p.1 i) i (drw r i)))
 pr:0<=QcJ (QeO k r p.1) k->r%10=5->p.2=0/\∃(l:Nat) (t:Int),QcJ (QeO k r p.1) k=l/\WE k l t (QeO k r p.1)/\LT k ls (QeO k r p.1)/\∀n,n<=20000->LT k ls (Qbq n (Qe9 (QeO k r p.1) l xB))
theorem RdOK.more{ls':List Int}(h:RdOK k ls r p)(hs:∀z∈ls,z∈ls'):RdOK k ls' r p:=⟨fun i hi n hn=>(h.lt i hi n hn).more hs,fun a b=>by
 obtain⟨e0,l,t,e1,e2,e3,e4⟩:=h.pr a b
 exact⟨e0,l,t,e1,e2,e3.more hs,fun n hn=>(e4 n hn).more hs⟩⟩
def Goes(k:Nat)(p0:CS×Int)(ls:List Int)(r n:Nat):Prop:=∃R ls',(∀z∈ls,z∈ls')/\ls'.length<=15/\r<=R/\R<=r+n/\okP k (stC k p0 (R+1))/\∀r',r<=r'->r'<=R->RdOK k ls' r' (stC k p0 r')/\(stC k p0 (r'+1)).1.net= []
theorem goes_now(hls:ls.length<=15)(h1:okP k (stC k p0 (r+1)))(h2:RdOK k ls r (stC k p0 r))(h3:(stC k p0 (r+1)).1.net= []){n:Nat}:Goes k p0 ls r n:=⟨r,ls,fun z h=>h,hls,Nat.le_refl _,Nat.le_add_right ..,h1,fun r' a b=>by
 have:r'=r:=by omega
 subst this
 exact⟨h2,h3⟩⟩
theorem QeU{ls1:List Int}{n:Nat}(h1:∀z∈ls,z∈ls1)(h2:RdOK k ls1 r (stC k p0 r))(h3:(stC k p0 (r+1)).1.net= [])(h:Goes k p0 ls1 (r+1) n):Goes k p0 ls r (n+1):=by
 obtain⟨R,ls',a1,a2,a3,a4,a5,a6⟩:=h
 refine⟨R,ls',fun z hz=>a1 z (h1 z hz),a2,by omega,by omega,a5,fun r' b1 b2=> ?_⟩
 by_cases e:r'=r
 ·subst e;exact⟨h2.more a1,h3⟩
 ·exact a6 r' (by omega) b2
theorem Goes.mono{n n':Nat}(h:Goes k p0 ls r n)(hn:n<=n'):Goes k p0 ls r n':=by
 obtain⟨R,ls',a1,a2,a3,a4,a5⟩:=h
 exact⟨R,ls',a1,a2,a3,by omega,a5⟩
theorem Qgj(h:¬(0<=QcJ (QeO k r p.1) k/\r%10=5)):rdC k r p=(QeO k r p.1,p.2):=if_neg h
theorem rd_pro(h:CInv k g S (QeO k r p.1))(hk:2<=k)(hr:r%10=5)(h0:p.2=0)(w:WE k l t (QeO k r p.1))(hM:∀i,i<k->(nd (QeO k r p.1) i).log.length<=435)(hls:LT k ls (QeO k r p.1)):
  (∃g' S',CInv k g' S' (rdC k r p).1)/\STD k l t 0 (rdC k r p).1/\(∀i,i<k->(nd (rdC k r p).1 i).log.length<=444)/\(rdC k r p).2=(nd (rdC k r p).1 l).log.length/\0<(rdC k r p).2/\LT k ls (rdC k r p).1/\(∀n,n<=20000->LT k ls (Qbq n (Qe9 (QeO k r p.1) l xB)))/\QcJ (QeO k r p.1) k=l:=by
 have hl:=leadC_we w
 have hlt:(QcJ (QeO k r p.1) k).toNat=l:=by rw[hl];rfl
 obtain⟨g',S',a1,a2,a3,a4,a5,a6⟩:=slot_pro (data:=xB) h hk w hM (by decide) (by decide)
 have e:rdC k r p=(Qbq 20000 (Qe9 (QeO k r p.1) l xB),mx p.2 ((nd (QeO k r p.1) l).log.length+1)):=by
  unfold rdC
  rw[if_pos ⟨by omega,hr⟩,hlt]
 have e2:mx p.2 ((nd (QeO k r p.1) l).log.length+1)=((nd (QeO k r p.1) l).log.length:Int)+1:=by
  rw[h0];unfold mx;rw[if_pos (by omega)]
 rw[e]
 refine⟨⟨g',S',a1⟩,a2.st a1 0,fun i hi=>by have:=a3 i hi;show _<=_;omega, ?_, ?_,a5 ls hls 20000,fun n _=>a5 ls hls n,hl⟩
 ·show mx _ _=((nd (Qbq 20000 (Qe9 (QeO k r p.1) l xB)) l).log.length:Int)
  rw[e2,a4];rfl
 ·show 0<mx _ _
  rw[e2];omega
theorem goes3(hk:2<=k)(hls:ls.length<=15)(h:CInv k g S (stC k p0 r).1)(s:STD k l t 0 (stC k p0 r).1)(hM:∀i,i<k->(nd (stC k p0 r).1 i).log.length<=444)(hlt:LT k ls (stC k p0 r).1)(hd:(stC k p0 r).2=(nd (stC k p0 r).1 l).log.length)(hp:0<(stC k p0 r).2)(hr:r%10=6\/(r%10=7/\1<=(nd (stC k p0 r).1 l).since)):Goes k p0 ls r 1:=by
 have one:∀{r:Nat} {g:GH} {S:Nat},CInv k g S (stC k p0 r).1->STD k l t 0 (stC k p0 r).1->(∀i,i<k->(nd (stC k p0 r).1 i).log.length<=444)->LT k ls (stC k p0 r).1->(stC k p0 r).2=(nd (stC k p0 r).1 l).log.length->0<(stC k p0 r).2->r%10≠5->
   RdOK k ls r (stC k p0 r)/\(stC k p0 (r+1)).1.net= []/\(okP k (stC k p0 (r+1))\/(∃g' S',CInv k g' S' (stC k p0 (r+1)).1)/\STD k l t 0 (stC k p0 (r+1)).1/\(∀i,i<k->(nd (stC k p0 (r+1)).1 i).log.length<=444)/\LT k ls (stC k p0 (r+1)).1/\(stC k p0 (r+1)).2=(nd (stC k p0 (r+1)).1 l).log.length/\0<(stC k p0 (r+1)).2/\(nd (stC k p0 (r+1)).1 l).since=(nd (stC k p0 r).1 l).since+1):=fun{r g S} h s hM hlt hd hp hr5=>by
  obtain⟨g',S',a1,a2,a3,a4,a5,a6,a7,a8⟩:=Ql0 (d:=drw r) h hk s hM (by decide) hlt
  have e:stC k p0 (r+1)=(QeO k r (stC k p0 r).1,(stC k p0 r).2):=Qgj fun z=>hr5 z.2
  rw[e]
  refine⟨⟨fun i hi n _=>a7 i hi n,fun _ z=>absurd z hr5⟩,a2.net, ?_⟩
  rcases a8 with z|z
  ·exact .inr ⟨⟨g',S',a1⟩,a2,a3,a5,by show(stC k p0 r).2=_;rw[hd];show _=((nd (Qeq (drw r) (stC k p0 r).1 k) l).log.length:Int);rw[a4],hp,z⟩
  ·refine .inl ⟨hp,fun i hi=> ?_⟩
   show(stC k p0 r).2<=_
   rw[hd];exact z i hi
 obtain⟨a1,a2,a3⟩:=one h s hM hlt hd hp (by omega)
 rcases a3 with z|⟨⟨g',S',b1⟩,b2,b3,b4,b5,b6,b7⟩
 ·exact goes_now hls z a1 a2
 ·have hs1:=(b1.node l _ (b1.nd b2.lk)).xi.since b2.role
  have hs0:=(h.node l _ (h.nd s.lk)).bn.s.1
  obtain⟨c1,c2,c3⟩:=one b1 b2 b3 b4 b5 b6 (by omega)
  refine QeU (fun z h=>h) a1 a2 (n:=0) ?_
  rcases c3 with z|⟨⟨g',S',d1⟩,d2,d3,d4,d5,d6,d7⟩
  ·exact goes_now hls z c1 c2
  ·have:=(d1.node l _ (d1.nd d2.lk)).xi.since d2.role
   omega
theorem goes2_now(hk:2<=k)(hls:ls.length<=15)(h:CInv k g S (stC k p0 r).1)(s:STD k l t 0 (stC k p0 r).1)(hM:∀i,i<k->(nd (stC k p0 r).1 i).log.length<=435)(hlt:LT k ls (stC k p0 r).1)(hd:(stC k p0 r).2=0)(hr5:r%10=5):Goes k p0 ls r 2:=by
 obtain⟨g',S',a1,a2,a3,a4,a5,a6,a7,a8⟩:=Ql0 (d:=drw r) h hk s hM (by decide) hlt
 obtain⟨⟨g2,S2,b1⟩,b2,b3,b4,b5,b6,b7,b8⟩:=rd_pro (p:=stC k p0 r) a1 hk hr5 hd a2.we a3 a5
 exact QeU (fun z h=>h) ⟨fun i hi n _=>a7 i hi n,fun _ _=>⟨hd,l,t,b8,a2.we,a5,b7⟩⟩ b2.net (goes3 hk hls b1 b2 b3 b6 b4 b5 (.inl (by omega)))
theorem goes2(hk:2<=k)(hls:ls.length<=15):∀(n:Nat){r:Nat}{g:GH}{S:Nat},(15 -r%10)%10<=n->CInv k g S (stC k p0 r).1->STD k l t 0 (stC k p0 r).1->(∀i,i<k->(nd (stC k p0 r).1 i).log.length<=435)->LT k ls (stC k p0 r).1->(stC k p0 r).2=0->Goes k p0 ls r (n+2):=by
 intro n
 induction n with
 |zero=>
  intro r g S hn h s hM hlt hd
  exact(goes2_now hk hls h s hM hlt hd (by omega)).mono (by omega)
 |succ n ih=>
  intro r g S hn h s hM hlt hd
  by_cases hr5:r%10=5
  ·exact(goes2_now hk hls h s hM hlt hd hr5).mono (by omega)
  ·obtain⟨g',S',a1,a2,a3,a4,a5,a6,a7,a8⟩:=Ql0 (d:=drw r) h hk s hM (by decide) hlt
   have e:stC k p0 (r+1)=(QeO k r (stC k p0 r).1,(stC k p0 r).2):=Qgj fun z=>hr5 z.2
   refine QeU (fun z h=>h) ⟨fun i hi n _=>a7 i hi n,fun _ z=>absurd z hr5⟩ (by rw[e];exact a2.net) (ih (r:=r+1) (by omega) (by rw[e];exact a1) (by rw[e];exact a2) (by rw[e];exact a3) (by rw[e];exact a5) (by rw[e];exact hd))
theorem goes1(hk:2<=k)(hls:ls.length<=14):∀(μ:Nat){r:Nat}{g:GH}{S:Nat},CInv k g S (stC k p0 r).1->Pre k 0 μ (stC k p0 r).1->(∀i,i<k->(nd (stC k p0 r).1 i).log.length<=421)->LT k ls (stC k p0 r).1->(stC k p0 r).2=0->Goes k p0 ls r (μ+12):=by
 intro μ
 induction μ with
 |zero=>
  intro r g S h p hM hlt hd
  have:=p.pos
  omega
 |succ μ ih=>
  intro r g S h p hM hlt hd
  obtain⟨g',S',a1,a2⟩:=round_pre (d:=drw r) h hk p hM hlt
  rcases a2 with⟨b1,b2,b3,b4⟩|⟨l,t,t',b1,b2,b3,b4⟩
  ·by_cases hp:0<=QcJ (QeO k r (stC k p0 r).1) k/\r%10=5
   ·cases b1 with
    |nl Tm nb n=>
     have:=Qkj (C:=QeO k r (stC k p0 r).1) nb.nl k (Nat.le_refl _)
     omega
    |we l t ρ w=>
     obtain⟨⟨g2,S2,c1⟩,c2,c3,c4,c5,c6,c7,c8⟩:=rd_pro (p:=stC k p0 r) a1 hk hp.2 hd w (fun i hi=>Nat.le_trans (b2 i hi) (by decide)) b3
     exact(QeU (fun z h=>h) ⟨fun i hi n _=>b4 i hi n,fun _ _=>⟨hd,l,t,c8,w,b3,c7⟩⟩ c2.net (goes3 hk (by omega) c1 c2 c3 c6 c4 c5 (.inl (by omega)))).mono (by omega)
   ·have e:stC k p0 (r+1)=(QeO k r (stC k p0 r).1,(stC k p0 r).2):=Qgj hp
    have hn:=b1.net
    exact(QeU (fun z h=>h) ⟨fun i hi n _=>b4 i hi n,fun z1 z2=>absurd ⟨z1,z2⟩ hp⟩ (by rw[e];exact hn) (ih (r:=r+1) (by rw[e];exact a1) (by rw[e];exact b1) (by rw[e];exact b2) (by rw[e];exact b3) (by rw[e];exact hd))).mono (by omega)
  ·have hls':(t'::ls).length<=15:=by rw[List.length_cons];omega
   by_cases hr5:r%10=5
   ·obtain⟨⟨g2,S2,c1⟩,c2,c3,c4,c5,c6,c7,c8⟩:=rd_pro (p:=stC k p0 r) a1 hk hr5 hd b1.we b2 b3
    exact(QeU (ls1:=t'::ls) (fun z h=>List.mem_cons_of_mem _ h) ⟨fun i hi n _=>b4 i hi n,fun _ _=>⟨hd,l,t,c8,b1.we,b3,c7⟩⟩ c2.net (goes3 hk hls' c1 c2 c3 c6 c4 c5 (.inl (by omega)))).mono (by omega)
   ·have e:stC k p0 (r+1)=(QeO k r (stC k p0 r).1,(stC k p0 r).2):=Qgj fun z=>hr5 z.2
    exact(QeU (ls1:=t'::ls) (fun z h=>List.mem_cons_of_mem _ h) ⟨fun i hi n _=>b4 i hi n,fun _ z=>absurd z hr5⟩ (by rw[e];exact b1.net) (goes2 hk hls' 9 (r:=r+1) (by omega) (by rw[e];exact a1) (by rw[e];exact b1) (by rw[e];exact b2) (by rw[e];exact b3) (by rw[e];exact hd))).mono (by omega)
end
section
variable {k X0 LC M bd E Zb l x:Nat}{g g':GH}{i f j S S' S0 S1:Nat}{X Y Z F L W:RN}{m:RM}{C C' C0:CS}{rr rr':Nat->Nat}{dr t T0 U U' v Tm:Int}{ls:List Int}{μ ν r:Nat}{p p0:CS×Int}
def dsq(k s:Nat):Int:=drw (s/k) (s%k)
theorem rnd_seq(hk:2<=k)(r:Nat):∀i,i<=k->Qeq (drw r) (Qe7 k (dsq k) C0 (r*k)) i=Qe7 k (dsq k) C0 (r*k+i)
 |0,_=>rfl
 |i+1,hi=>by
  have h1:(r*k+i)%k=i:=by rw[Nat.mul_comm,Nat.mul_add_mod];exact Nat.mod_eq_of_lt (by omega)
  have h2:(r*k+i)/k=r:=by rw[Nat.mul_comm,Nat.mul_add_div (by omega),Nat.div_eq_of_lt (by omega)];omega
  show slot (Qeq (drw r) (Qe7 k (dsq k) C0 (r*k)) i) i (drw r i)=slot (Qe7 k (dsq k) C0 (r*k+i)) ((r*k+i)%k) (dsq k (r*k+i))
  rw[rnd_seq hk r i (by omega),h1]
  unfold dsq
  rw[h1,h2]
theorem rndK_seq(hk:2<=k)(r:Nat):QeO k r (Qe7 k (dsq k) C0 (r*k))=Qe7 k (dsq k) C0 ((r+1)*k):=by
 rw[Nat.succ_mul]
 exact rnd_seq hk r k (Nat.le_refl _)
theorem st_seq(hk:2<=k):∀r,r<=5->stC k (C0,0) r=(Qe7 k (dsq k) C0 (r*k),0)
 |0,_=>by rw[Nat.zero_mul];rfl
 |r+1,hr=>by
  have ih:=st_seq hk r (by omega)
  show rdC k r (stC k (C0,0) r)=_
  rw[ih,Qgj (fun z=>by omega),rndK_seq hk]
theorem seq_tb(hk:2<=k)(h7:k<=7)(b:Bas k (rem k 0) 421 400 g S C0)(tb:TmB k U C0):∀s:Nat,s<=6*k->TmB k (U+s) (Qe7 k (dsq k) C0 s):=by
 obtain⟨V,_,hV⟩:=QlZ (d:=dsq k) hk h7 b
 intro s
 induction s with
 |zero=>intro _;show TmB k (U+0) C0;rw[Int.add_zero];exact tb
 |succ s ih=>
  intro hs
  have h1:=ih (by omega)
  have bs:∃g S,Bas k (rem k s) 421 400 g S (Qe7 k (dsq k) C0 s):=by
   by_cases h0:s=0
   ·subst h0;exact⟨g,S,b⟩
   ·obtain⟨g1,S1,_,b1,_⟩:=hV s (by omega) (by omega)
    exact⟨g1,S1,b1⟩
  obtain⟨g1,S1,b1⟩:=bs
  have hi:s%k<k:=Nat.mod_lt _ (by omega)
  have h2:=h1.1 _ hi
  obtain⟨g2,_,h'⟩:=b1.c.tick (s%k) (dsq k s)
  exact tb_set 20000 h' (Qoo b1.c hk hi h1 (by omega) (by omega))
theorem run_all(hk:2<=k)(h7:k<=7)(b:Bas k (rem k 0) 421 400 g S C0)(lb0:LBd k (rem k 0) ls C0)(tb:TmB k U C0)(hU:U<=100000):
  ∃R ls',ls'.length<=15/\5<=R/\R<=100/\okP k (stC k (C0,0) (R+1))/\(∀r,r<=R->RdOK k ls' r (stC k (C0,0) r))/\(∀r,5<=r->r<=R->(stC k (C0,0) (r+1)).1.net= [])/\∀r,r<=5->(stC k (C0,0) r).2=0:=by
 obtain⟨g1,S1,b1,n1,w1⟩:=six_rounds (d:=dsq k) hk h7 b
 obtain⟨ls1,_,q1,a1⟩:=lb_run (d:=dsq k) hk h7 b lb0 (6*k) (Nat.le_refl _)
 have hls1:ls1.length<=14:=by have:=q1.n;omega
 have hM:∀i,i<k->(nd (Qe7 k (dsq k) C0 (6*k)) i).log.length<=421:=fun i hi=>b1.lt (by decide) hi
 have e5:=st_seq (C0:=C0) hk 5 (Nat.le_refl _)
 have e6:QeO k 5 (stC k (C0,0) 5).1=Qe7 k (dsq k) C0 (6*k):=by rw[e5];exact rndK_seq hk 5
 have hlt:∀{ls'},(∀z∈ls1,z∈ls')->∀r,r<=5->∀i,i<k->∀n,n<=20000->LT k ls' (Qbq n (Qal (Qeq (drw r) (stC k (C0,0) r).1 i) i (drw r i))):=fun{ls'} hs r hr i hi n hn=>by
  rw[st_seq hk r hr]
  show LT k ls' (Qbq n (Qal (Qeq (drw r) (Qe7 k (dsq k) C0 (r*k)) i) i (drw r i)))
  rw[rnd_seq hk r i (by omega)]
  have h1:(r*k+i)%k=i:=by rw[Nat.mul_comm,Nat.mul_add_mod];exact Nat.mod_eq_of_lt (by omega)
  have h2:(r*k+i)/k=r:=by rw[Nat.mul_comm,Nat.mul_add_div (by omega),Nat.div_eq_of_lt (by omega)];omega
  have h3:(r+1)*k<=6*k:=Nat.mul_le_mul_right _ (by omega)
  rw[Nat.succ_mul] at h3
  have:=a1 (r*k+i) (by omega) n hn
  rw[h1] at this
  unfold dsq at this
  rw[h1,h2] at this
  exact this.more hs
 have fin:∀{ls2:List Int} {n:Nat},(∀z∈ls1,z∈ls2)->n<=94->(0<=QcJ (QeO k 5 (stC k (C0,0) 5).1) k->∃(l:Nat) (t:Int),QcJ (QeO k 5 (stC k (C0,0) 5).1) k=l/\WE k l t (QeO k 5 (stC k (C0,0) 5).1)/\LT k ls2 (QeO k 5 (stC k (C0,0) 5).1)/\∀n,n<=20000->LT k ls2 (Qbq n (Qe9 (QeO k 5 (stC k (C0,0) 5).1) l xB)))->(stC k (C0,0) 6).1.net= []->Goes k (C0,0) ls2 6 n->
   ∃R ls',ls'.length<=15/\5<=R/\R<=100/\okP k (stC k (C0,0) (R+1))/\(∀r,r<=R->RdOK k ls' r (stC k (C0,0) r))/\(∀r,5<=r->r<=R->(stC k (C0,0) (r+1)).1.net= [])/\∀r,r<=5->(stC k (C0,0) r).2=0:=fun{ls2 n} hs hn hp h6 hg=>by
  obtain⟨R,ls',c1,c2,c3,c4,c5,c6⟩:=hg
  refine⟨R,ls',c2,by omega,by omega,c5,fun r hr=> ?_,fun r h1 h2=> ?_,fun r hr=>by rw[st_seq hk r hr]⟩
  ·by_cases h5:r<=5
   ·refine⟨hlt (fun z hz=>c1 z (hs z hz)) r h5,fun z1 z2=> ?_⟩
    have:r=5:=by omega
    subst this
    obtain⟨l,t,p1,p2,p3,p4⟩:=hp z1
    exact⟨by rw[e5],l,t,p1,p2,p3.more c1,fun n hn=>(p4 n hn).more c1⟩
   ·exact(c6 r (by omega) hr).1
  ·by_cases h5:r=5
   ·subst h5;exact h6
   ·exact(c6 r (by omega) h2).2
 rcases w1 with⟨l,t,w⟩|hnl
 ·rw[<-e6] at w hM b1 q1
  obtain⟨⟨g2,S2,c1⟩,c2,c3,c4,c5,c6,c7,c8⟩:=rd_pro (r:=5) (p:=stC k (C0,0) 5) b1.c hk (by decide) (by rw[e5]) w (fun i hi=>Nat.le_trans (hM i hi) (by decide)) q1.lt
  exact fin (fun z h=>h) (by decide:1<=94) (fun _=>⟨l,t,c8,w,q1.lt,c7⟩) c2.net (goes3 (r:=6) hk (by omega) c1 c2 c3 c6 c4 c5 (.inl (by decide)))
 ·have hno:QcJ (QeO k 5 (stC k (C0,0) 5).1) k= -1:=by rw[e6];exact Qkj hnl k (Nat.le_refl _)
  have e7:stC k (C0,0) 6=(Qe7 k (dsq k) C0 (6*k),0):=by
   show rdC k 5 (stC k (C0,0) 5)=_
   rw[Qgj (fun z=>by omega),e6,e5]
  have hTm:=seq_tb hk h7 b tb (6*k) (Nat.le_refl _)
  have hp:=pre_start b1.c hk hTm (by unfold Qjk;omega) n1 (.inr hnl)
  refine fin (fun z h=>h) (by decide:72+12<=94) (fun z=>by omega) (by rw[e7];exact n1) (goes1 (r:=6) hk hls1 72 (by rw[e7];exact b1.c) (by rw[e7];exact hp) (by rw[e7];exact hM) (by rw[e7];exact q1.lt) (by rw[e7]))
end
section
open Go
variable {h0 h:Heap}{L G:List Res}{lg:Nat}{t:TypeId}{sl:Sl}{es:List RE}
theorem falls_At{tm:Int}{x:Sl}{ys:List RE}{R:Bool->Heap->Prop}(A:RdS h 2 x (eRE.fl ys))(hlen:ys.length<=1000000)(hR:∀h',Ext h.size h h'->R (Qfk tm ys) h'):QiO tm x h R:=by
 refine A_log_falls ?_
 unfold QmM
 have hxn:=rdn A
 refine QiH (s1:= .one (.int .i64)) (s2:= .one (.int .i64)) (fun(t1 i:Int) h1=>∃k:Nat,k<=ys.length/\i=k/\Qfk tm ys=Qfk t1 (ys.drop k)/\Ext h.size h h1) (fun _ (i:Int) _=>(ys.length -i).toNat) ⟨0,Nat.zero_le _,rfl,rfl,Ext.refl _ _⟩ fun _ (t1 i:Int) h1 hI=> ?_
 obtain⟨k,hk,rfl,hf,he⟩:=hI
 refine brD (fun hc=> ?_) fun hc=> ?_
 ·have hk2:k<ys.length:=by omega
  have A1:=A.ext' he
  refine ixR A1 k rfl hk2 fun e hel=>ldR0 A1 hel hk2 ys[k].term rfl (ldR (j:=1) A1 hel hk2 ys[k].data rfl ?_)
  refine alloc (cs:= [.int .i64 0,.string ⟨#[]⟩]) fun h2 b2 e2 z2=> ?_
  refine stB b2 (by simp) fun h3 b3 u3 z3=>stF b3 (by simp) fun h4 b4 u4 z4=> ?_
  have E4:Ext h.size h h4:=he.trans (((e2.mono he.1).trans (u3.ext1 he.1 (by have:=he.1;omega))).trans (u4.ext1 he.1 (by have:=he.1;omega)))
  have hdr:ys.drop k=ys[k]::ys.drop (k+1):=List.drop_eq_getElem_cons hk2
  rw[hdr,Qfk] at hf
  refine ldB b4 ys[k].term rfl (brD (fun hlt=> ?_) fun hlt=>ldB b4 ys[k].term rfl ?_)
  ·rw[if_pos hlt] at hf
   rw[<-hf]
   exact hR h4 E4
  ·rw[if_neg hlt] at hf
   rw[w64 (by omega) (by omega)]
   exact⟨⟨k+1,by omega,by omega,hf,E4⟩,by omega⟩
 ·have:k=ys.length:=by omega
  subst this
  rw[List.drop_length,Qfk] at hf
  rw[<-hf]
  exact hR h1 he
theorem knownR_nil(l:List RE):Qbi l []=0:=by cases l<;>rfl
theorem known_At{index:Int}{x:Sl}{ys:List RE}{R:Int->Heap->Prop}(H:At h0 h (.blk lg t [.slice sl.a sl.n sl.c]:: .own sl 2 (eRE.fl es)::G))(hl:es.length<=100000)(idx:Nat)(hi:index=(idx:Int))(hidx:idx<=es.length)(A:RdS h 2 x (eRE.fl ys))(hlen:ys.length<=100000)
  (hR:∀h',Ext h.size h h'->R (Qbi (es.drop idx) ys:Nat) h'):Qe2 (some ⟨lg,0,none⟩) index x h R:=by
 refine Qm1 ?_
 unfold QhE
 have hxn:=rdn A
 subst hi
 refine Qhl (s1:= .one (.int .i64)) (fun(i:Int) h1=>∃k:Nat,k<=ys.length/\i=k/\Qbi (es.drop idx) ys=k+Qbi (es.drop (idx+k)) (ys.drop k)/\Ext h.size h h1) (fun(i:Int) _=>(ys.length -i).toNat) ⟨0,Nat.zero_le _,rfl,by simp,Ext.refl _ _⟩ fun _ (i:Int) h1 hI=> ?_
 obtain⟨k,hk,rfl,hf,he⟩:=hI
 refine brD (fun hc=> ?_) fun hc=> ?_
 ·have hk2:k<ys.length:=by omega
  have A1:=A.ext' he
  refine ixR A1 k rfl hk2 fun e hel=>ldR0 A1 hel hk2 ys[k].term rfl (ldR (j:=1) A1 hel hk2 ys[k].data rfl ?_)
  refine alloc (cs:= [.int .i64 0,.string ⟨#[]⟩]) fun h2 b2 e2 z2=> ?_
  refine stB b2 (by simp) fun h3 b3 u3 z3=>stF b3 (by simp) fun h4 b4 u4 z4=> ?_
  have hle:=he.1
  have E4:Ext h.size h h4:=he.trans (((e2.mono hle).trans (u3.ext1 hle (by omega))).trans (u4.ext1 hle (by omega)))
  have hdr:ys.drop k=ys[k]::ys.drop (k+1):=List.drop_eq_getElem_cons hk2
  rw[w64 (n:=(idx:Int)+1) (by omega) (by omega),w64 (n:=(idx:Int)+1+k) (by omega) (by omega)]
  refine Qgn (H.ext' E4) 0 rfl 1 rfl hl ?_
  by_cases hb:es.length<=idx+k
  ·have e1:QaH es ((idx:Int)+1+k)=(0,false):=by unfold QaH;rw[if_pos (by omega)]
   rw[e1]
   refine brY rfl ?_
   have:es.drop (idx+k)= []:=List.drop_of_length_le (by omega)
   rw[this,hdr] at hf
   have h0:Qbi ([]:List RE) (ys[k]::ys.drop (k+1))=0:=rfl
   rw[h0,Nat.add_zero] at hf
   have:=hR h4 E4
   rwa[hf] at this
  ·have hj:idx+k<es.length:=by omega
   have e1:QaH es ((idx:Int)+1+k)=(es[idx+k].term,true):=by
    unfold QaH
    rw[if_neg (by omega),if_neg (by omega),show((idx:Int)+1+k).toNat -1=idx+k by omega,List.getElem?_eq_getElem hj]
    rfl
   rw[e1]
   have hde:es.drop (idx+k)=es[idx+k]::es.drop (idx+k+1):=List.drop_eq_getElem_cons hj
   rw[hde,hdr,Qbi] at hf
   refine brN rfl (ldB b4 ys[k].term rfl (brB (fun hne=> ?_) fun hne=> ?_))
   ·rw[if_neg (by simpa using hne),Nat.add_zero] at hf
    have:=hR h4 E4
    rwa[hf] at this
   ·rw[if_pos (by simpa using hne)] at hf
    rw[w64 (by omega) (by omega)]
    exact⟨⟨k+1,by omega,by omega,by rw[hf,<-Nat.add_assoc idx k 1];omega,E4⟩,by omega⟩
 ·have:k=ys.length:=by omega
  subst this
  rw[List.drop_length,knownR_nil,Nat.add_zero] at hf
  have:=hR h1 he
  rwa[hf,<-hxn] at this
theorem putR_err{es ys:List RE}{index term:Int}(h:(Qc8 es index term ys).2.2≠0):(Qc8 es index term ys).1=es:=by
 refine Qly fun x=>h ?_
 unfold Qc8 at x⊢
 split
 ·rename_i c;rw[if_pos c] at x;exact absurd x (show ¬(0:Int)>0 by decide)
 ·rename_i c1
  rw[if_neg c1] at x
  split
  ·rename_i c;rw[if_pos c] at x;exact absurd x (show ¬(0:Int)>0 by decide)
  ·rename_i c2
   rw[if_neg c2] at x
   split
   ·rename_i c;rw[if_pos c] at x;exact absurd x (show ¬(0:Int)>0 by decide)
   ·rename_i c3
    rw[if_neg c3] at x
    split
    ·rfl
    ·rename_i c4
     rw[if_neg c4] at x
     split
     ·rename_i c;rw[if_pos c] at x;exact absurd x (show ¬(0:Int)>0 by decide)
     ·rfl
theorem log_Put_At{index term:Int}{x:Sl}{ys:List RE}{R:Int->Int->Heap->Prop}(H:At h0 h (.blk lg t [.slice sl.a sl.n sl.c]:: .own sl 2 (eRE.fl es)::G))(A:RdS h 2 x (eRE.fl ys))(hxc:x.n<=x.c)(hl:es.length<=100000)(hlen:ys.length<=1000)(hi: -1<=index/\index<=2000)
  (hR:∀sl' h',At h0 h' (.blk lg t [.slice sl'.a sl'.n sl'.c]:: .own sl' 2 (eRE.fl (Qc8 es index term ys).1)::G)->R (Qc8 es index term ys).2.1 (Qc8 es index term ys).2.2 h'):Qgu (some ⟨lg,0,none⟩) index term x h R:=by
 refine A_log_Log_Put ?_
 unfold QjE
 have hxn:=rdn A
 have hsn:=H.n (E:=eRE) 1 rfl
 refine brF (Qgn H 0 rfl 1 rfl hl ?_)
 unfold Qc8 at hR
 refine brNot (fun h1=> ?_) fun h1=> ?_
 ·rw[if_pos h1] at hR;exact hR sl h H
 rw[if_neg (by rw[h1];decide)] at hR
 have hidx:0<=index/\index<=es.length:=by
  unfold QaH at h1
  by_cases e:index<0\/index>es.length
  ·rw[if_pos e] at h1;cases h1
  ·omega
 obtain⟨k,rfl⟩:∃k:Nat,index=k:=⟨index.toNat,by omega⟩
 rw[Int.toNat_natCast] at hR
 refine br bne_iff_ne (fun h2=> ?_) fun h2=> ?_
 ·rw[if_pos h2] at hR;exact hR sl h H
 rw[if_neg h2] at hR
 refine falls_At A (by omega) fun h3 e1=>brB (fun hf=> ?_) fun hf=> ?_
 ·rw[if_pos hf] at hR;exact hR sl h3 (H.ext' e1)
 rw[if_neg (by rw[hf];decide)] at hR
 refine known_At (H.ext' e1) hl k rfl (by omega) (A.ext' e1) (by omega) fun h4 e2=> ?_
 have E2:Ext h.size h h4:=e1.trans (e2.mono e1.1)
 have H:=H.ext' E2
 have A:=A.ext' E2
 obtain⟨kl1,kl2⟩:=QfR (es.drop k) ys
 rw[List.length_drop] at kl1
 generalize Qbi (es.drop k) ys=n at*
 refine br beq_iff_eq (fun hc=> ?_) fun hc=> ?_
 ·rw[if_pos (by omega)] at hR;exact hR sl h4 H
 rw[if_neg (by omega)] at hR
 rw[hxn,w64 (n:=(k:Int)+(ys.length:Int)) (by omega) (by omega)]
 refine brD (fun hc2=> ?_) fun hc2=>nn ?_
 ·rw[if_pos (by omega)] at hR;exact hR sl h4 H
 rw[if_neg (by omega)] at hR
 have hsc:=(H.own 1 rfl).2.1
 refine Qac H 0 rfl sl rfl ?_
 rw[w64 (n:=(k:Int)+n) (by omega) (by omega)]
 refine cutRO (E:=eRE) TRE (H.own 1 rfl) 0 (k+n) (k+n) lo0 (hii (by omega)) (.inr ⟨hii (by omega),by simp⟩) (by omega) (by omega) (Nat.le_refl _) (by omega) fun s2 o2 n2 c2 b2=> ?_
 refine cutR (E:=eRE) TRE A n ys.length x.c (loi rfl) (by rw[<-hxn];exact hi0 _) (.inl ⟨rfl,rfl⟩) (by omega) (Nat.le_refl _) (by omega) (Nat.le_refl _) fun s3 r3 n3 c3 b3=> ?_
 rw[List.drop_zero,Nat.sub_zero] at o2
 rw[List.take_of_length_le (by rw[List.length_drop];omega)] at r3
 have H:=H.as_ 1 rfl (.own s2 2 (eRE.fl (es.take (k+n)))) o2 fun g hg=>by rw[Res.fp,<-b2];exact hg
 refine appAt (E:=eRE) TRE H 1 rfl r3 (by rw[List.length_take,List.length_drop];omega) (by rw[List.length_take,List.length_drop];omega) fun s4 h5 H=>nn ?_
 refine Qas H 0 rfl rfl fun h6 H=> ?_
 rw[w64 (by omega) (by omega)]
 exact hR s4 h6 H
end
section
open Go
def mcS(m:RM)(sm:Sl):List Value:= [.int .i64 m.kind,.int .i64 m.from_,.int .i64 m.to,.int .i64 m.term,.int .i64 m.index,.int .i64 m.logTerm,.int .i64 m.commit,.bool m.yes,.slice sm.a sm.n sm.c]
section
variable {h0 h:Heap}{F:List Res}{d:Nat}{X:RN}{m:RM}{sm:Sl}
structure EntS(h0:Heap)(F:List Res)(x:Sl)(es:List RE):Prop where
 nc:x.n<=x.c
 rd:∀h' L,At h0 h' (L++F)->RdS h' 2 x (eRE.fl es)
theorem EntS.cons{x:Sl}{es:List RE}{r:Res}(E:EntS h0 F x es):EntS h0 (r::F) x es:=⟨E.nc,fun h' L H=>E.rd h' (L++ [r]) (by rw[List.append_assoc];exact H)⟩
theorem EntS.at_{x:Sl}{es:List RE}(E:EntS h0 F x es)(H:RaftAt h0 h d X F):RdS h 2 x (eRE.fl es):=E.rd h [] H.ats
theorem raft_countsS{R:Bool->Heap->Prop}(H:RaftAt h0 h d X F)(E:EntS h0 F sm m.ents)(hl:m.ents.length<=1000000)(hR:∀h',RaftAt h0 h' d X F->R (decide (QaR X m)) h'):
  Qdv (some ⟨d,0,none⟩) (m.kind,m.from_,m.to,m.term,m.index,m.logTerm,m.commit,m.yes,sm,()) h R:=by
 refine QjR ?_
 unfold Qfr
 refine RaftAt.alloc (cs:=mcS m sm) H fun h b H=> ?_
 have hsn:=rdn (E.cons.at_ H)
 have no:¬QaR X m->R false h:=fun hn=>by
  have:=hR h H.tail
  rwa[decide_eq_false hn] at this
 unfold QaR at no
 refine ldM (j:=2) H m.to rfl (nn (Qek H X.id (fun _ _=>rfl) ?_))
 refine br beq_iff_eq (fun h1=> ?_) fun h1=>no fun x=>h1 x.1
 refine ldM (j:=1) H m.from_ rfl (nn (Qek H X.id (fun _ _=>rfl) ?_))
 refine br bne_iff_ne (fun h2=> ?_) fun h2=>no fun x=>h2 x.2.1
 refine ldM (j:=1) H m.from_ rfl (brD (fun h3=> ?_) fun h3=>no fun x=>h3 x.2.2.1)
 refine ldM (j:=1) H m.from_ rfl (nn (Qat (j:=1) H X.n (fun _ _=>rfl) (brD (fun h4=> ?_) fun h4=>no fun x=>h4 x.2.2.2.1)))
 refine ldM0 H m.kind rfl (brD (fun h5=> ?_) fun h5=>no fun x=>h5 x.2.2.2.2.1)
 refine ldM0 H m.kind rfl (brD (fun h6=> ?_) fun h6=>no fun x=>h6 x.2.2.2.2.2.1)
 refine ldM (j:=3) H m.term rfl (brD (fun h7=> ?_) fun h7=>no fun x=>h7 x.2.2.2.2.2.2.1)
 refine ldM (j:=3) H m.term rfl (brD (fun h8=> ?_) fun h8=>no fun x=>h8 x.2.2.2.2.2.2.2.1)
 refine ldM (j:=8) H sm rfl (brD (fun h9=> ?_) fun h9=>no fun x=>h9 (by have:=x.2.2.2.2.2.2.2.2.1;omega))
 refine ldM (j:=8) H sm rfl ?_
 refine Qcp (cap:=some ⟨b,0,none⟩) ?_
 refine QcO (cap:=some ⟨b,0,none⟩) ?_
 refine Qhl (s1:= .one (.int .i64)) (fun(y:Int) g1=>∃j:Nat,y=j/\j<=m.ents.length/\(∀e∈m.ents.take j,¬oddE m.term e)/\RaftAt h0 g1 d X (.blk b 59 (mcS m sm)::F)) (fun(y:Int) _=>(m.ents.length -y).toNat)
  ⟨0,rfl,Nat.zero_le _,(fun e he=>by cases he),H⟩ fun _ (y:Int) g1 hI=> ?_
 obtain⟨j,rfl,hj,hall,H⟩:=hI
 refine brD (fun hc=> ?_) fun hc=> ?_
 ·have hj2:j<m.ents.length:=by omega
  have A:=E.cons.at_ H
  have bad:oddE m.term m.ents[j]->∀g,RaftAt h0 g d X (.blk b 59 (mcS m sm)::F)->R false g:=fun ho g H=>by
   have:=hR g H.tail
   rwa[decide_eq_false (fun x=>x.2.2.2.2.2.2.2.2.2 _ (List.getElem_mem hj2) ho)] at this
  refine ixR A j rfl hj2 fun e he=>ldR0 A he hj2 m.ents[j].term rfl (ldR (j:=1) A he hj2 m.ents[j].data rfl ?_)
  refine Qig ?_
  unfold Qet
  refine RaftAt.alloc (cs:= [.int .i64 m.ents[j].term,.string m.ents[j].data]) H fun g2 b2 H=> ?_
  have A2:=H.ats
  have fin:∀g,R false g->R (!decide ((j:Int)>=0)) g:=fun g hg=>by rw[decide_eq_true (by omega)];exact hg
  refine Qac A2 0 rfl m.ents[j].term rfl (Qap (j:=3) A2 1 rfl m.term rfl ?_)
  refine brD (fun k1=>brY rfl (fin _ (bad (.inl k1) _ H.tail))) fun k1=> ?_
  refine Qac A2 0 rfl m.ents[j].term rfl (brD (fun k2=>brY rfl (fin _ (bad (.inr (.inl k2)) _ H.tail))) fun k2=> ?_)
  refine Qap (j:=1) A2 0 rfl m.ents[j].data rfl (brD (fun k3=>fin _ (bad (.inr (.inr (by omega))) _ H.tail)) fun k3=> ?_)
  rw[w64 (by omega) (by omega)]
  refine⟨⟨j+1,by omega,by omega,fun e he=> ?_,H.tail⟩,by omega⟩
  rw[List.take_add_one,List.getElem?_eq_getElem hj2] at he
  rcases List.mem_append.1 he with he|he
  ·exact hall e he
  ·rw[List.mem_singleton.1 he]
   intro ho
   unfold oddE at ho
   omega
 ·have hjl:j=m.ents.length:=by omega
  rw[hjl,List.take_length] at hall
  have:=hR g1 H.tail
  rw[decide_eq_true (show QaR X m from⟨h1,h2,h3,h4,h5,h6,h7,h8,by omega,hall⟩)] at this
  exact this
theorem raft_askPreS{R:Heap->Prop}(H:RaftAt h0 h d X F)(hl:X.log.length<=100000)(ho:X.out.length<=999999)(hR:∀h',RaftAt h0 h' d (QiB X m) F->R h'):
  Qdw (some ⟨d,0,none⟩) (m.kind,m.from_,m.to,m.term,m.index,m.logTerm,m.commit,m.yes,sm,()) h R:=by
 refine QjS ?_
 unfold Qfs
 refine RaftAt.alloc (cs:=mcS m sm) H fun h b H=> ?_
 unfold QiB at hR
 refine Qg2 (s1:= .one .bool) (fun(q:Bool) h1=>(q=true↔QkQ X m)/\h1=h) (fun _ (q:Bool) h1 hJ=> ?_) ?_
 ·obtain⟨hq,rfl⟩:=hJ
  have hq2:q=decide (QkQ X m):=by rw[Bool.eq_iff_iff,hq,decide_eq_true_iff]
  subst hq2
  refine nn (Qat (j:=4) H X.term (fun _ _=>rfl) ?_)
  refine brD (fun hp=> ?_) fun hp=> ?_
  ·rw[if_pos hp] at hR
   refine ldM (j:=3) H m.term rfl (ldM (j:=1) H m.from_ rfl ?_)
   exact sendE (m:=⟨2,0,0,m.term,0,0,0,decide (QkQ X m),[]⟩) H rfl ho fun h2 H=>hR _ H.tail
  ·rw[if_neg hp] at hR
   refine ldM (j:=1) H m.from_ rfl ?_
   exact sendE (m:=⟨2,0,0,X.term,0,0,0,decide (QkQ X m),[]⟩) H rfl ho fun h2 H=>hR _ H.tail
 ·unfold QkQ
  refine ldM (j:=3) H m.term rfl (nn (Qat (j:=4) H X.term (fun _ _=>rfl) ?_))
  refine brD (fun h1=> ?_) fun h1=>⟨⟨fun x=>(by cases x),fun x=>absurd x.1 h1⟩,rfl⟩
  have H0:=H
  obtain⟨ty,lg,tl,sl,so,z,hz,H⟩:=H
  refine nn (Qap (j:=11) H 0 rfl (some ⟨lg,0,none⟩) rfl ?_)
  refine ldM (j:=4) H0 m.index rfl (ldM (j:=5) H0 m.logTerm rfl ?_)
  refine Qin H 1 rfl 2 rfl hl (brD (fun h2=> ?_) fun h2=>⟨⟨fun x=>(by cases x),fun x=>absurd x.2.1 h2⟩,rfl⟩)
  refine nn (Qat (j:=6) H0 X.role (fun _ _=>rfl) (br bne_iff_ne (fun h3=> ?_) fun h3=>⟨⟨fun x=>(by cases x),fun x=>absurd x.2.2.1 h3⟩,rfl⟩))
  refine nn (Qat (j:=7) H0 X.leader (fun _ _=>rfl) (br beq_iff_eq (fun h4=>⟨⟨fun _=>⟨h1,h2,h3,.inl h4⟩,fun _=>rfl⟩,rfl⟩) fun h4=> ?_))
  refine nn (Qat (j:=8) H0 X.since (fun _ _=>rfl) (nn (Qat (j:=2) H0 X.elect (fun _ _=>rfl) (QbF ⟨?_,rfl⟩))))
  rw[decide_eq_true_iff]
  exact⟨fun x=>⟨h1,h2,h3,.inr x⟩,fun x=>x.2.2.2.resolve_left h4⟩
theorem Qow{R:Heap->Prop}(H:RaftAt h0 h d X F)(hb:RB X)(hc0:0<=X.commit)(ht:0<=X.term/\X.term<=1099511627776)(hv:X.votes<128)(hf:0<=m.from_/\m.from_<7)(ho:X.out.length<=770000)(hR:∀h',RaftAt h0 h' d (QaS X m) F->R h'):
  Qdd (some ⟨d,0,none⟩) (m.kind,m.from_,m.to,m.term,m.index,m.logTerm,m.commit,m.yes,sm,()) h R:=by
 refine QiT ?_
 unfold QeX
 refine RaftAt.alloc (cs:=mcS m sm) H fun h b H=> ?_
 unfold QaS at hR
 refine Qg2 (s1:= .one .bool) (fun(q:Bool) h1=>(q=true↔(m.yes=false/\m.term>X.term))/\h1=h) (fun _ (q:Bool) h1 hJ=> ?_) ?_
 rotate_left
 ·refine ldM (j:=7) H m.yes rfl (brNot (fun hy=> ?_) fun hy=>⟨⟨fun x=>(by cases x),fun x=>by rw[hy] at x;cases x.1⟩,rfl⟩)
  refine ldM (j:=3) H m.term rfl (nn (Qat (j:=4) H X.term (fun _ _=>rfl) ⟨?_,rfl⟩))
  rw[decide_eq_true_iff]
  exact⟨fun x=>⟨hy,x⟩,fun x=>x.2⟩
 obtain⟨hq,rfl⟩:=hJ
 refine brB (fun hqt=> ?_) fun hqf=> ?_
 ·rw[if_pos (hq.1 hqt)] at hR
  refine ldM (j:=3) H m.term rfl ?_
  exact QcZ H fun h2 H=>hR _ H.tail
 ·rw[if_neg fun x=>by rw[hq.2 x] at hqf;cases hqf] at hR
  refine Qg2 (s1:= .one .bool) (fun(q:Bool) h2=>(q=true↔(m.yes=true/\m.term=X.term+1/\X.role=1))/\h2=h1) (fun _ (q:Bool) h2 hJ=> ?_) ?_
  rotate_left
  ·refine ldM (j:=7) H m.yes rfl (brB (fun hy=> ?_) fun hy=>⟨⟨fun x=>(by cases x),fun x=>by rw[hy] at x;cases x.1⟩,rfl⟩)
   refine ldM (j:=3) H m.term rfl (nn (Qat (j:=4) H X.term (fun _ _=>rfl) ?_))
   rw[w64 (by omega) (by omega)]
   refine br beq_iff_eq (fun h3=> ?_) fun h3=>⟨⟨fun x=>(by cases x),fun x=>absurd x.2.1 h3⟩,rfl⟩
   refine nn (Qat (j:=6) H X.role (fun _ _=>rfl) ⟨?_,rfl⟩)
   rw[beq_iff_eq]
   exact⟨fun x=>⟨hy,h3,x⟩,fun x=>x.2.2⟩
  obtain⟨hq2,rfl⟩:=hJ
  refine brB (fun hqt=> ?_) fun hqf2=> ?_
  ·rw[if_pos (hq2.1 hqt)] at hR
   refine nn (Qat (j:=12) H (X.votes:Int) (fun _ _=>rfl) (ldM (j:=1) H m.from_ rfl (QlB (by rw[wu64 (by omega) (by omega)];omega) (nn ?_))))
   rw[Qks hv hf.1 hf.2]
   refine QaT (j:=12) {X with votes:=X.votes|||2^m.from_.toNat} H rfl rfl rfl (fun _ _=>rfl) fun h3 H=>nn ?_
   refine Qat (j:=12) H ((X.votes|||2^m.from_.toNat:Nat):Int) (fun _ _=>rfl) ?_
   refine Qcv H (or7 hv hf.1 hf.2) (brD (fun hm=> ?_) fun hm=> ?_)
   ·rw[if_pos (show QaF X _ from hm)] at hR
    exact Qim H (hb.of rfl rfl rfl rfl) hc0 ht (by show X.out.length<=_;omega) fun h4 H=>hR _ H.tail
   ·rw[if_neg (show ¬QaF X _ from hm)] at hR
    exact hR _ H.tail
  ·rw[if_neg fun x=>by rw[hq2.2 x] at hqf2;cases hqf2] at hR
   exact hR _ H.tail
theorem Qoy{R:Heap->Prop}(H:RaftAt h0 h d X F)(hl:X.log.length<=100000)(ho:X.out.length<=999999)(hR:∀h',RaftAt h0 h' d (Qbg X m) F->R h'):
  Qde (some ⟨d,0,none⟩) (m.kind,m.from_,m.to,m.term,m.index,m.logTerm,m.commit,m.yes,sm,()) h R:=by
 refine QiU ?_
 unfold QeY
 refine RaftAt.alloc (cs:=mcS m sm) H fun h b H=> ?_
 unfold Qbg at hR
 refine Qg2 (s1:= .one .bool) (fun(q:Bool) h1=>(q=true↔Qbm X m)/\h1=h) (fun _ (q:Bool) h1 hJ=> ?_) ?_
 ·obtain⟨hq,rfl⟩:=hJ
  have hq2:q=decide (Qbm X m):=by rw[Bool.eq_iff_iff,hq,decide_eq_true_iff]
  subst hq2
  refine Qg3 (fun h2=>RaftAt h0 h2 d (if Qbm X m then{X with hard:=X.hard||(X.vote !=m.from_),vote:=m.from_,since:=0} else X) (.blk b 59 (mcS m sm)::F)) (fun _ h2 H=> ?_) ?_
  ·refine ldM (j:=1) H m.from_ rfl (nn (Qat (j:=4) H X.term (fun _ _=>by split<;>rfl) ?_))
   exact sendE (m:=⟨4,0,0,X.term,0,0,0,decide (Qbm X m),[]⟩) H rfl (by split<;>exact ho) fun h3 H=>hR _ H.tail
  ·refine brD (fun hp=> ?_) fun hp=> ?_
   ·rw[if_pos hp]
    refine Qg3 (fun h2=>RaftAt h0 h2 d {X with hard:=X.hard||(X.vote !=m.from_)} (.blk b 59 (mcS m sm)::F)) (fun _ h2 H=> ?_) ?_
    ·refine ldM (j:=1) H m.from_ rfl (nn ?_)
     refine QaT (j:=5) {X with hard:=X.hard||(X.vote !=m.from_),vote:=m.from_} H rfl rfl rfl (fun _ _=>rfl) fun h3 H=>nn ?_
     exact QaT (j:=8) {X with hard:=X.hard||(X.vote !=m.from_),vote:=m.from_,since:=0} H rfl rfl rfl (fun _ _=>rfl) fun h3 H=>H
    ·refine nn (Qat (j:=29) H X.hard (fun _ _=>rfl) (brB (fun hh=>nn ?_) fun hh=>nn ?_))
     ·refine QaT (j:=29) {X with hard:=X.hard||(X.vote !=m.from_)} H rfl rfl rfl (fun lg so=>by rw[hh];rfl) fun h3 H=>H
     ·refine Qat (j:=5) H X.vote (fun _ _=>rfl) (ldM (j:=1) H m.from_ rfl (nn ?_))
      exact QaT (j:=29) {X with hard:=X.hard||(X.vote !=m.from_)} H rfl rfl rfl (fun lg so=>by rw[hh];rfl) fun h3 H=>H
   ·rw[if_neg hp];exact H
 ·unfold Qbm
  have H0:=H
  have young:(X.vote= -1\/X.vote=m.from_)->X.role≠3->Nn (some (⟨d,0,none⟩:Addr)) fun p9=>Ld .ptr h (p9.add 11) fun(log:Option Addr)=>Ld (.int .i64) h ((⟨b,0,none⟩:Addr).add 4) fun(Index:Int)=>Ld (.int .i64) h ((⟨b,0,none⟩:Addr).add 5) fun(LogTerm:Int)=>QbK log Index LogTerm h fun(r:Bool) h_9=>(r=true↔((X.vote= -1\/X.vote=m.from_)/\X.role≠3/\Qd4 X.log m.index m.logTerm))/\h_9=h:=fun hv hr=>by
   obtain⟨ty,lg,tl,sl,so,z,hz,H⟩:=H
   refine nn (Qap (j:=11) H 0 rfl (some ⟨lg,0,none⟩) rfl ?_)
   refine ldM (j:=4) H0 m.index rfl (ldM (j:=5) H0 m.logTerm rfl ?_)
   refine Qin H 1 rfl 2 rfl hl ⟨?_,rfl⟩
   rw[decide_eq_true_iff]
   exact⟨fun x=>⟨hv,hr,x⟩,fun x=>x.2.2⟩
  refine nn (Qat (j:=5) H X.vote (fun _ _=>rfl) (br beq_iff_eq (fun h1=> ?_) fun h1=> ?_))
  ·refine nn (Qat (j:=6) H X.role (fun _ _=>rfl) (br bne_iff_ne (fun h2=>young (.inl h1) h2) fun h2=>⟨⟨fun x=>(by cases x),fun x=>absurd x.2.1 h2⟩,rfl⟩))
  ·refine nn (Qat (j:=5) H X.vote (fun _ _=>rfl) (ldM (j:=1) H m.from_ rfl (br beq_iff_eq (fun h3=> ?_) fun h3=>⟨⟨fun x=>(by cases x),fun x=>by rcases x.1 with x|x;exact absurd x h1;exact absurd x h3⟩,rfl⟩)))
   refine nn (Qat (j:=6) H X.role (fun _ _=>rfl) (br bne_iff_ne (fun h2=>young (.inr h3) h2) fun h2=>⟨⟨fun x=>(by cases x),fun x=>absurd x.2.1 h2⟩,rfl⟩))
theorem Qnh{R:Heap->Prop}(H:RaftAt h0 h d X F)(hb:RB X)(hc0:0<=X.commit)(hv:X.votes<128)(hf:0<=m.from_/\m.from_<7)(ho:X.out.length<=770000)(hR:∀h',RaftAt h0 h' d (Qar X m) F->R h'):
  QcU (some ⟨d,0,none⟩) (m.kind,m.from_,m.to,m.term,m.index,m.logTerm,m.commit,m.yes,sm,()) h R:=by
 refine Qif ?_
 unfold Qes
 refine RaftAt.alloc (cs:=mcS m sm) H fun h b H=> ?_
 unfold Qar at hR
 refine Qg2 (s1:= .one .bool) (fun(q:Bool) h1=>(q=true↔(m.yes=false\/X.role≠2))/\h1=h) (fun _ (q:Bool) h1 hJ=> ?_) ?_
 rotate_left
 ·refine ldM (j:=7) H m.yes rfl (brNot (fun hy=>⟨⟨fun _=> .inl hy,fun _=>rfl⟩,rfl⟩) fun hy=> ?_)
  refine nn (Qat (j:=6) H X.role (fun _ _=>rfl) ⟨?_,rfl⟩)
  rw[bne_iff_ne]
  exact⟨fun x=> .inr x,fun x=>by rcases x with x|x;rw[hy] at x;cases x;exact x⟩
 obtain⟨hq,rfl⟩:=hJ
 refine brB (fun hqt=> ?_) fun hqf=> ?_
 ·rw[if_pos (hq.1 hqt)] at hR;exact hR _ H.tail
 ·rw[if_neg fun x=>by rw[hq.2 x] at hqf;cases hqf] at hR
  refine nn (Qat (j:=12) H (X.votes:Int) (fun _ _=>rfl) (ldM (j:=1) H m.from_ rfl (QlB (by rw[wu64 (by omega) (by omega)];omega) (nn ?_))))
  rw[Qks hv hf.1 hf.2]
  refine QaT (j:=12) {X with votes:=X.votes|||2^m.from_.toNat} H rfl rfl rfl (fun _ _=>rfl) fun h3 H=>nn ?_
  refine Qat (j:=12) H ((X.votes|||2^m.from_.toNat:Nat):Int) (fun _ _=>rfl) ?_
  refine Qcv H (or7 hv hf.1 hf.2) (brD (fun hm=> ?_) fun hm=> ?_)
  ·rw[if_pos (show QaF X _ from hm)] at hR
   exact Qjc H (hb.of rfl rfl rfl rfl) hc0 (by show X.out.length<=_;omega) fun h4 H=>hR _ H.tail
  ·rw[if_neg (show ¬QaF X _ from hm)] at hR
   exact hR _ H.tail
set_option maxHeartbeats 1600000 in
theorem raft_hearsS{k:Nat}{R:Heap->Prop}(H:RaftAt h0 h d X F)(hb:RB X)(hc0:0<=X.commit)(hh:X.heard<128)(hm:∀t,0<=X.matc t/\X.matc t<=1024)(hf:m.from_=(k:Int))(hk:k<7)(ho:X.out.length<=700000)(hR:∀h',RaftAt h0 h' d (QaC X m) F->R h'):
  QdT (some ⟨d,0,none⟩) (m.kind,m.from_,m.to,m.term,m.index,m.logTerm,m.commit,m.yes,sm,()) h R:=by
 refine QkB ?_
 unfold Qf0
 refine RaftAt.alloc (cs:=mcS m sm) H fun h b H=> ?_
 unfold QaC at hR
 have hl:=hb.l
 have hkn:m.from_.toNat=k:=by omega
 rw[hkn] at hR
 refine nn (Qat (j:=6) H X.role (fun _ _=>rfl) (br bne_iff_ne (fun h1=> ?_) fun h1=>nn ?_))
 ·rw[if_pos h1] at hR;exact hR _ H.tail
 rw[if_neg h1] at hR
 refine Qat (j:=13) H (X.heard:Int) (fun _ _=>rfl) (ldM (j:=1) H m.from_ rfl (QlB (by rw[wu64 (by omega) (by omega)];omega) (nn ?_)))
 rw[Qks hh (by omega) (by omega),hkn]
 refine QaT (j:=13) (Qfh X k) H rfl rfl rfl (fun _ _=>rfl) fun h2 H=> ?_
 refine ldM (j:=1) H m.from_ rfl (nn (ixArr k hf hk ?_))
 refine Qd9 H (by show X.log.length<=_;omega) ⟨ldM (j:=1) H m.from_ rfl rfl, ?_⟩
 refine Qg2 (s1:= .one .bool) (fun(q:Bool) h3=>(q=true↔(m.yes=true/\0<=m.index/\m.index<=X.log.length))/\h3=h2) (fun _ (q:Bool) h3 hJ=> ?_) ?_
 rotate_left
 ·refine ldM (j:=7) H m.yes rfl (brB (fun hy=> ?_) fun hy=>⟨⟨fun x=>(by cases x),fun x=>by rw[hy] at x;cases x.1⟩,rfl⟩)
  refine ldM (j:=4) H m.index rfl (brD (fun h4=> ?_) fun h4=>⟨⟨fun x=>(by cases x),fun x=>absurd x.2.1 h4⟩,rfl⟩)
  refine ldM (j:=4) H m.index rfl ⟨?_,rfl⟩
  rw[decide_eq_true_iff]
  exact⟨fun x=>⟨hy,h4,x⟩,fun x=>x.2.2⟩
 obtain⟨hq,rfl⟩:=hJ
 refine brB (fun hqt=>nn ?_) fun hqf=> ?_
 ·have hc:=hq.1 hqt
  rw[if_pos hc] at hR
  have hmk:=hm k
  have hnk:=hb.nx k
  have hmx:0<=mx (X.matc k) m.index/\mx (X.matc k) m.index<=1024:=by unfold mx;split<;>omega
  refine Qat (j:=21+k) H (X.matc k) (fun lg so=>QeL (Qfh X k) lg so k hk) (ldM (j:=4) H m.index rfl (nn ?_))
  refine QaT (j:=21+k) {Qfh X k with matc:=upd X.matc k (mx (X.matc k) m.index)} H (by simp;omega) rfl rfl (fun lg so=>QmA (Qfh X k) lg so _ k hk) fun h4 H=> ?_
  refine ldM (j:=1) H m.from_ rfl (nn ?_)
  refine Qat (j:=21+k) H (mx (X.matc k) m.index) (fun lg so=>(QeL {Qfh X k with matc:=upd X.matc k (mx (X.matc k) m.index)} lg so k hk).trans (by show some (Value.int .i64 (if k=k then _ else _))=_;rw[if_pos rfl])) (nn (ixArr k hf hk ?_))
  rw[w64 (by omega) (by omega)]
  refine QaT (j:=14+k) (Qau X k m.index) H (by simp;omega) rfl rfl (fun lg so=>QiJ {Qfh X k with matc:=upd X.matc k (mx (X.matc k) m.index)} lg so _ k hk) fun h5 H=> ?_
  have hb1:=hb.hear1 hm k (i:=m.index) (by omega)
  obtain⟨e1,e2,e3,e4,e5,_,_⟩:=rAgree_same (Qau X k m.index)
  have hlen:=rAgree_len hb1
  have hlen:(Qaf (Qau X k m.index)).out.length<=X.out.length+7:=hlen
  refine Qje H hb1 hc0 (by show X.out.length<=_;omega) fun h6 H=>nn ?_
  refine Qat (j:=21+k) H ((Qaf (Qau X k m.index)).matc k) (fun lg so=>QeL _ lg so k hk) ?_
  refine Qd9 H (by rw[e4];show X.log.length<=_;omega) ⟨Qat (j:=21+k) H _ (fun lg so=>QeL _ lg so k hk) rfl, ?_⟩
  have el:((Qaf (Qau X k m.index)).log.length:Int)=X.log.length:=by rw[e4];rfl
  rw[el]
  refine brD (fun h7=> ?_) fun h7=> ?_
  ·rw[if_pos h7] at hR
   refine ldM (j:=1) H m.from_ rfl ?_
   rw[hf]
   exact Qkb H (hb1.of e1 e2 e3 e4) hk (by omega) fun h8 H=>hR _ H.tail
  ·rw[if_neg h7] at hR
   exact hR _ H.tail
 ·rw[if_neg fun x=>by rw[hq.2 x] at hqf;cases hqf] at hR
  refine ldM (j:=7) H m.yes rfl (brNot (fun hy=> ?_) fun hy=> ?_)
  ·rw[if_pos hy] at hR
   have hmk:=hm k
   have hnk:=hb.nx k
   refine ldM (j:=1) H m.from_ rfl (ldM (j:=4) H m.index rfl (ldM (j:=1) H m.from_ rfl (nn (ixArr k hf hk ?_))))
   refine Qat (j:=14+k) H (X.next k) (fun lg so=>Qn1 (Qfh X k) lg so k hk) (nn ?_)
   refine Qat (j:=21+k) H (X.matc k) (fun lg so=>QeL (Qfh X k) lg so k hk) (nn (ixArr k hf hk ?_))
   have hB:0<=mn (mx m.index 0) (X.log.length:Int)/\mn (mx m.index 0) (X.log.length:Int)<=1024:=by
    unfold mn mx
    repeat' split
    all_goals omega
   rw[w64 (n:=X.matc k+1) (by omega) (by omega),w64 (n:=X.next k -1) (by omega) (by omega)]
   have hw:=w64 (n:=mn (mx m.index 0) (X.log.length:Int)+1) (by omega) (by omega)
   unfold mn mx at hw
   refine QaT (j:=14+k) (Qcx X k m.index) H (by simp;omega) rfl rfl (fun lg so=> ?_) fun h5 H=> ?_
   ·show _=List.set _ _ (Value.int .i64 (if X.matc k+1>(if X.next k -1<IntKind.i64.wrap ((if(X.log.length:Int)<(if 0>m.index then 0 else m.index) then(X.log.length:Int) else if 0>m.index then 0 else m.index)+1) then X.next k -1 else IntKind.i64.wrap ((if(X.log.length:Int)<(if 0>m.index then 0 else m.index) then(X.log.length:Int) else if 0>m.index then 0 else m.index)+1)) then X.matc k+1 else if X.next k -1<IntKind.i64.wrap ((if(X.log.length:Int)<(if 0>m.index then 0 else m.index) then(X.log.length:Int) else if 0>m.index then 0 else m.index)+1) then X.next k -1 else IntKind.i64.wrap ((if(X.log.length:Int)<(if 0>m.index then 0 else m.index) then(X.log.length:Int) else if 0>m.index then 0 else m.index)+1)))
    rw[hw]
    exact QiJ (Qfh X k) lg so _ k hk
   refine ldM (j:=1) H m.from_ rfl ?_
   rw[hf]
   exact Qkb H (hb.hear2 hm k m.index) hk (by show X.out.length<=_;omega) fun h8 H=>hR _ H.tail
  ·rw[if_neg (by rw[hy];decide)] at hR
   exact hR _ H.tail
theorem raft_appendS{R:Heap->Prop}(H:RaftAt h0 h d X F)(hb:RB X)(E:EntS h0 F sm m.ents)(hl:m.ents.length<=8)(hi: -1<=m.index/\m.index<=2000)(hc0:0<=X.commit)(ho:X.out.length<=900000)(hR:∀h',RaftAt h0 h' d (QaV X m) F->R h'):
  Qdx (some ⟨d,0,none⟩) (m.kind,m.from_,m.to,m.term,m.index,m.logTerm,m.commit,m.yes,sm,()) h R:=by
 refine QjT ?_
 unfold Qft
 refine RaftAt.alloc (cs:=mcS m sm) H fun h b H=>nn ?_
 have E:=E.cons (r:= .blk b 59 (mcS m sm))
 have hlg:=hb.l
 unfold QaV at hR
 refine Qat (j:=6) H X.role (fun _ _=>rfl) (br beq_iff_eq (fun hr=> ?_) fun hr=>nn ?_)
 ·rw[if_pos hr] at hR;exact hR _ H.tail
 rw[if_neg hr] at hR
 refine Qat (j:=4) H X.term (fun _ _=>rfl) (ldM (j:=1) H m.from_ rfl ?_)
 refine QcZ H fun h1 H=>nn ?_
 have e0:=Qaz X m
 have ef:Qai X X.term m.from_={X with role:=0,leader:=m.from_}:=by unfold Qai;rw[if_neg (by omega)]
 rw[ef] at H
 refine QaT (j:=8) (Qag X m) H (by decide) (by rw[e0]) (by rw[e0]) (fun _ _=>by rw[e0];rfl) fun h2 H=> ?_
 have hY:(Qag X m).log=X.log/\(Qag X m).commit=X.commit/\(Qag X m).term=X.term/\(Qag X m).out=X.out:=by rw[e0];exact⟨rfl,rfl,rfl,rfl⟩
 have hbY:RB (Qag X m):=by rw[e0];exact hb.of rfl rfl rfl rfl
 refine ldM (j:=4) H m.index rfl (nn (Qat (j:=10) H X.commit (fun _ _=>by rw[e0];rfl) (brD (fun h3=> ?_) fun h3=>nn ?_)))
 ·rw[if_pos h3] at hR
  refine ldM (j:=1) H m.from_ rfl (nn (Qat (j:=10) H X.commit (fun _ _=>by rw[e0];rfl) ?_))
  exact Qfg H (by rw[hY.2.2.2];omega) fun h4 H=>hR _ H.tail
 rw[if_neg h3] at hR
 have H0:=H
 obtain⟨ty,lg,tl,sl,so,z,hz,H⟩:=H
 have H:At h0 h2 ([.blk d ty ((Qag X m).cells lg so),.blk lg tl [.slice sl.a sl.n sl.c],.own sl 2 (eRE.fl X.log),.own so 9 (eMS.fl z)]++((.blk b 59 (mcS m sm)::F)++Qfb z)):=by
  have H2:=H
  unfold Qhw at H2
  rw[hY.1] at H2
  exact H2
 refine Qap (j:=11) H 0 rfl (some ⟨lg,0,none⟩) rfl (ldM (j:=4) H0 m.index rfl (ldM (j:=5) H0 m.logTerm rfl (ldM (j:=8) H0 sm rfl ?_)))
 have key:∀(es':List RE) (sl':Sl) (h':Heap),At h0 h' (.blk lg tl [.slice sl'.a sl'.n sl'.c]:: .own sl' 2 (eRE.fl es'):: .blk d ty ((Qag X m).cells lg so):: .own so 9 (eMS.fl z)::(((.blk b 59 (mcS m sm))::F)++Qfb z))->RaftAt h0 h' d {Qag X m with log:=es'} (.blk b 59 (mcS m sm)::F):=fun es' sl' h' H=>⟨ty,lg,tl,sl',so,z,hz,H.mv 2 1⟩
 refine log_Put_At (G:= .blk d ty ((Qag X m).cells lg so):: .own so 9 (eMS.fl z)::(((.blk b 59 (mcS m sm))::F)++Qfb z)) (H.mv 1 2) (E.at_ H0) E.nc (by omega) (by omega) hi fun sl' h4 H=> ?_
 have H:=key _ _ _ H
 refine br bne_iff_ne (fun hne=> ?_) fun heq=> ?_
 ·rw[if_pos hne] at hR
  have hsame:(Qc8 X.log m.index m.logTerm m.ents).1=X.log:=putR_err hne
  rw[hsame] at H
  have H:RaftAt h0 h4 d (Qag X m) (.blk b 59 (mcS m sm)::F):=by
   have e:({Qag X m with log:=X.log}:RN)=Qag X m:=by rw[e0]
   rw[e] at H;exact H
  refine ldM (j:=1) H m.from_ rfl (ldM (j:=4) H m.index rfl ?_)
  refine Qd9 H (by rw[hY.1];omega) ?_
  refine⟨ldM (j:=1) H m.from_ rfl rfl,ldM (j:=4) H m.index rfl rfl, ?_⟩
  rw[hY.1,w64 (by omega) (by omega)]
  have e:(if 0>(if m.index -1<(X.log.length:Int) then m.index -1 else(X.log.length:Int)) then 0 else if m.index -1<(X.log.length:Int) then m.index -1 else(X.log.length:Int))=mx (mn (X.log.length:Int) (m.index -1)) 0:=by unfold mx mn;rfl
  rw[e]
  exact Qfg H (by rw[hY.2.2.2];omega) fun h5 H=>hR _ H.tail
 ·have heq:(Qc8 X.log m.index m.logTerm m.ents).2.2=0:=Decidable.not_not.1 heq
  rw[if_neg fun x=>x heq] at hR
  have hidx:=QnK heq
  have hpe:QbD (Qag X m) m=if(Qc8 X.log m.index m.logTerm m.ents).2.1>0 then QaN {Qag X m with log:=(Qc8 X.log m.index m.logTerm m.ents).1} (Qc8 X.log m.index m.logTerm m.ents).2.1 else{Qag X m with log:=(Qc8 X.log m.index m.logTerm m.ents).1}:=by unfold QbD;rw[hY.1]
  refine Qg3 (fun h5=>RaftAt h0 h5 d (QbD (Qag X m) m) (.blk b 59 (mcS m sm)::F)) (fun _ h5 H=> ?_) ?_
  ·have hsn:=rdn (E.at_ H)
   obtain⟨p1,p2,p3,p4,p5,p6,p7,p8,p9,p10⟩:=Qhg (Qag X m) m
   have hcm:(QbD (Qag X m) m).commit=X.commit:=p5.trans hY.2.1
   refine ldM (j:=4) H m.index rfl (ldM (j:=8) H sm rfl ?_)
   rw[hsn,w64 (by omega) (by omega)]
   refine QbF (nn ?_)
   refine Qat (j:=10) H X.commit (fun _ _=>by rw[<-hcm];rfl) (ldM (j:=6) H m.commit rfl (nn ?_))
   have e:(if(if m.index+(m.ents.length:Int)<m.commit then m.index+(m.ents.length:Int) else m.commit)>X.commit then if m.index+(m.ents.length:Int)<m.commit then m.index+(m.ents.length:Int) else m.commit else X.commit)=mx X.commit (mn m.commit (m.index+m.ents.length)):=by unfold mx mn;rfl
   rw[e]
   refine QaT (j:=10) {QbD (Qag X m) m with commit:=mx X.commit (mn m.commit (m.index+m.ents.length))} H (by decide) rfl rfl (fun _ _=>rfl) fun h6 H=> ?_
   refine ldM (j:=1) H m.from_ rfl ?_
   exact Qfg H (by show(QbD (Qag X m) m).out.length<=_;rw[p8,hY.2.2.2];omega) fun h7 H=>hR _ H.tail
  ·rw[hpe]
   refine brD (fun h5=> ?_) fun h5=> ?_
   ·rw[if_pos h5]
    exact Qjd H fun h6 H=>H
   ·rw[if_neg h5];exact H
theorem Qjf{R:Heap->Prop}(H:RaftAt h0 h d X F)(E:EntS h0 F sm m.ents){S o:Nat}(B:BN S o X)(hm:BM m)(hoo:o<=600000)
  (hR:∀h',RaftAt h0 h' d (Qaa X m) F->R h'):Qch (some ⟨d,0,none⟩) (m.kind,m.from_,m.to,m.term,m.index,m.logTerm,m.commit,m.yes,sm,()) h R:=by
 refine Qlm ?_
 unfold QgN
 have hb:=B.rb
 have hc0:=B.c
 have ht:=B.t
 have hv:=B.v
 have hh:=B.h
 have hmt:=B.mt
 have ho:=B.o
 have he8:=hm.e
 have hl:=hb.l
 have hn7:=hb.n7
 refine RaftAt.alloc (cs:=mcS m sm) H fun h b H=> ?_
 have E:=E.cons (r:= .blk b 59 (mcS m sm))
 unfold Qaa at hR
 have ldAll:∀{h1:Heap} {Y:RN} {K:Int->Int->Int->Int->Int->Int->Int->Bool->Sl->Prop},RaftAt h0 h1 d Y (.blk b 59 (mcS m sm)::F)->K m.kind m.from_ m.to m.term m.index m.logTerm m.commit m.yes sm->
   Ld (.int .i64) h1 (⟨b,0,none⟩:Addr) fun(a0:Int)=>Ld (.int .i64) h1 ((⟨b,0,none⟩:Addr).add 1) fun(a1:Int)=>Ld (.int .i64) h1 ((⟨b,0,none⟩:Addr).add 2) fun(a2:Int)=>Ld (.int .i64) h1 ((⟨b,0,none⟩:Addr).add 3) fun(a3:Int)=>Ld (.int .i64) h1 ((⟨b,0,none⟩:Addr).add 4) fun(a4:Int)=>Ld (.int .i64) h1 ((⟨b,0,none⟩:Addr).add 5) fun(a5:Int)=>Ld (.int .i64) h1 ((⟨b,0,none⟩:Addr).add 6) fun(a6:Int)=>Ld .bool h1 ((⟨b,0,none⟩:Addr).add 7) fun(a7:Bool)=>Ld .sl h1 ((⟨b,0,none⟩:Addr).add 8) fun(a8:Sl)=>K a0 a1 a2 a3 a4 a5 a6 a7 a8:=fun{h1 Y K} H hK=>
  ldM0 H m.kind rfl (ldM (j:=1) H m.from_ rfl (ldM (j:=2) H m.to rfl (ldM (j:=3) H m.term rfl (ldM (j:=4) H m.index rfl (ldM (j:=5) H m.logTerm rfl (ldM (j:=6) H m.commit rfl (ldM (j:=7) H m.yes rfl (ldM (j:=8) H sm rfl hK))))))))
 refine Qg2 (s1:= .one .bool) (fun(q:Bool) h1=>(q=true↔¬QaR X m)/\RaftAt h0 h1 d X (.blk b 59 (mcS m sm)::F)) (fun _ (q:Bool) h1 hJ=> ?_) ?_
 rotate_left
 ·refine brF (ldAll H (raft_countsS H E (by omega) fun h2 H=>⟨?_,H⟩))
  by_cases hc:QaR X m
  ·rw[decide_eq_true hc];exact⟨fun x=>(by cases x),fun x=>absurd hc x⟩
  ·rw[decide_eq_false hc];exact⟨fun _=>hc,fun _=>rfl⟩
 obtain⟨hq,H⟩:=hJ
 refine brB (fun hqt=> ?_) fun hqf=> ?_
 ·rw[if_pos (hq.1 hqt)] at hR;exact hR _ H.tail
 have hc:QaR X m:=Decidable.byContradiction fun x=>by rw[hq.2 x] at hqf;cases hqf
 rw[if_neg fun x=>x hc] at hR
 obtain⟨c1,c2,c3,c4,c5,c6,c7,c8,_,_⟩:=hc
 refine ldM0 H m.kind rfl (br beq_iff_eq (fun k1=> ?_) fun k1=> ?_)
 ·rw[if_pos k1] at hR
  exact ldAll H (raft_askPreS H (by omega) (by omega) fun h2 H=>hR _ H.tail)
 rw[if_neg k1] at hR
 refine br beq_iff_eq (fun k2=> ?_) fun k2=> ?_
 ·rw[if_pos k2] at hR
  exact ldAll H (Qow H hb hc0 ht hv ⟨c3,by omega⟩ (by omega) fun h2 H=>hR _ H.tail)
 rw[if_neg k2] at hR
 refine ldM (j:=3) H m.term rfl (nn (Qat (j:=4) H X.term (fun _ _=>rfl) ?_))
 refine Qg3 (fun h2=>RaftAt h0 h2 d (Qab X m) (.blk b 59 (mcS m sm)::F)) (fun _ h2 H=> ?_) ?_
 rotate_left
 ·unfold Qab
  refine brD (fun h3=> ?_) fun h3=> ?_
  ·rw[if_pos h3]
   exact ldM (j:=3) H m.term rfl (QcZ H fun h4 H=>H)
  ·rw[if_neg h3];exact H
 obtain⟨e1,e2,e3,e4,e5,e6,e7,e8,e9⟩:=rNewer_same X m
 have hb2:=hb.of e1 e2 e3 e4
 refine ldM (j:=3) H m.term rfl (nn (Qat (j:=4) H (Qab X m).term (fun _ _=>rfl) (brD (fun h3=> ?_) fun h3=> ?_)))
 ·rw[if_pos h3] at hR
  refine ldM0 H m.kind rfl (br beq_iff_eq (fun k5=> ?_) fun k5=> ?_)
  ·rw[if_pos k5] at hR
   refine ldM (j:=1) H m.from_ rfl ?_
   exact Qfg H (by rw[e6];omega) fun h4 H=>hR _ H.tail
  ·rw[if_neg k5] at hR
   exact hR _ H.tail
 rw[if_neg h3] at hR
 refine ldM0 H m.kind rfl (br beq_iff_eq (fun k3=> ?_) fun k3=> ?_)
 ·rw[if_pos k3] at hR
  exact ldAll H (Qoy H (by rw[e4];omega) (by rw[e6];omega) fun h2 H=>hR _ H.tail)
 rw[if_neg k3] at hR
 refine ldM0 H m.kind rfl (br beq_iff_eq (fun k4=> ?_) fun k4=> ?_)
 ·rw[if_pos k4] at hR
  exact ldAll H (Qnh H hb2 (by rw[e7];exact hc0) (by rw[e8];exact hv) ⟨c3,by omega⟩ (by rw[e6];omega) fun h2 H=>hR _ H.tail)
 rw[if_neg k4] at hR
 refine ldM0 H m.kind rfl (br beq_iff_eq (fun k5=> ?_) fun k5=> ?_)
 ·rw[if_pos k5] at hR
  exact ldAll H (raft_appendS H hb2 E he8 hm.i (by rw[e7];exact hc0) (by rw[e6];omega) fun h2 H=>hR _ H.tail)
 ·rw[if_neg k5] at hR
  exact ldAll H (raft_hearsS (k:=m.from_.toNat) H hb2 (by rw[e7];exact hc0) (by rw[e9];exact hh) (by rw[e5];exact hmt) (by omega) (by omega) (by rw[e6];omega) fun h2 H=>hR _ H.tail)
end
end
section
set_option maxRecDepth 1000000
open Go
theorem useG_SZ{an:List (Nat×Slots)}{f:FuncId}{fn:Func}{args:List Value}{h:Heap}{ss:List Sh}{R:TH (Heap->Prop) ss}{S:Prop}(hf:Tryz.prog.funcs[f]? =some fn)(hb:QkZ fn args.length=true)(e:VG Tryz.prog an fn args h ss R=S)(hs:S):CallR Tryz.prog f args h ss R:=VG_sound (an:=an) mixed_ hf hb (cast e.symm hs)
def QmP(n:Int)(h:Heap)(R:Option Addr->Heap->Prop):Prop:=Qie [.one .bool] (fun _ (x12:Bool) h_=>(bif x12 then R none h_ else QcB h_ fun(r:Option Addr) h_1=>QaG h_1 (.cells #[.slice none 0 0,.pointer r] 62) fun p h_2=>Qf9 [.one (.int .i64)] (fun _ (x17:Int) h_3 go=>(bif decide (x17<n) then Qia x17 n 4 2 (0, -1,⟨none,0,0⟩,()) h_3 fun(r1:Option Addr) (r2:Int) h_4=>Nn (some p) fun p1=>Ld .sl h_4 p1 fun(l:Sl)=>Qkx h_4 fun(r3:Option Addr) h_5=>(Ld .sl h_5 p1 fun(l1:Sl)=>(.slice l1.a l1.n l1.c:Value)= .slice l.a l.n l.c)/\QaG h_5 (.cells #[.pointer r3,.pointer r1] 67) fun b h_6=>(Ld .sl h_6 p1 fun(l2:Sl)=>(.slice l2.a l2.n l2.c:Value)= .slice l.a l.n l.c)/\App Tryz.prog 60 60 l ⟨some b,1,1⟩ h_6 fun s h_7=>Nn (some p) fun p2=>St h_7 p2 (.slice s.a s.n s.c) fun h_8=>go (IntKind.i64.wrap (x17+1)) h_8 else R (some p) h_3)) (0,()) h_2)) fun J=>(bif decide (n<1) then J true h else J (decide (n>7)) h)
theorem A_group_New{n:Int}{h:Heap}{R:Option Addr->Heap->Prop}(hs:QmP n h R):QdU n h R:=Qbb (an:= [(12,[(12,.one .bool)]),(122,[(17,.one (.int .i64))])]) Tryz.func10 (by kernel_rfl) (by kernel_rfl) hs
def Qel(g:Option Addr)(s:KL [.int .i64,.int .i64,.int .i64,.int .i64,.int .i64,.int .i64,.int .u8,.str])(h:Heap)(R:Int->Heap->Prop):Prop:=QaG h (.cells #[.int .i64 s.1,.int .i64 s.2.1,.int .i64 s.2.2.1,.int .i64 s.2.2.2.1,.int .i64 s.2.2.2.2.1,.int .i64 s.2.2.2.2.2.1,.int .u8 s.2.2.2.2.2.2.1,.string s.2.2.2.2.2.2.2.1] 30) fun s1 h_=>(bif g.isNone then R 1 h_ else Qie [.one .bool] (fun _ (x8:Bool) h_1=>(bif x8 then Ld (.int .i64) h_1 s1 fun(x_Kind:Int)=>Ld (.int .i64) h_1 (s1.add 1) fun(x_Node:Int)=>Ld (.int .i64) h_1 (s1.add 2) fun(x_I:Int)=>Ld (.int .i64) h_1 (s1.add 3) fun(x_Draw:Int)=>Ld (.int .i64) h_1 (s1.add 4) fun(x_Keep:Int)=>Ld (.int .i64) h_1 (s1.add 5) fun(x_At:Int)=>Ld (.int .u8) h_1 (s1.add 6) fun(x_By:Int)=>Ld .str h_1 (s1.add 7) fun(x_Data:ByteArray)=>QdC g (x_Kind,x_Node,x_I,x_Draw,x_Keep,x_At,x_By,x_Data,()) h_1 fun(r:Int) h_2=>R r h_2 else Ld (.int .i64) h_1 s1 fun(Kind:Int)=>(bif decide (Kind>=2) then Ld (.int .i64) h_1 s1 fun(Kind1:Int)=>(bif decide (Kind1<=8) then Ld (.int .i64) h_1 s1 fun(x_Kind1:Int)=>Ld (.int .i64) h_1 (s1.add 1) fun(x_Node1:Int)=>Ld (.int .i64) h_1 (s1.add 2) fun(x_I1:Int)=>Ld (.int .i64) h_1 (s1.add 3) fun(x_Draw1:Int)=>Ld (.int .i64) h_1 (s1.add 4) fun(x_Keep1:Int)=>Ld (.int .i64) h_1 (s1.add 5) fun(x_At1:Int)=>Ld (.int .u8) h_1 (s1.add 6) fun(x_By1:Int)=>Ld .str h_1 (s1.add 7) fun(x_Data1:ByteArray)=>QcE g (x_Kind1,x_Node1,x_I1,x_Draw1,x_Keep1,x_At1,x_By1,x_Data1,()) h_1 fun(r1:Int) h_3=>R r1 h_3 else R 1 h_1) else R 1 h_1))) fun J=>Ld (.int .i64) h_ s1 fun(Kind2:Int)=>(bif Kind2==1 then J true h_ else Ld (.int .i64) h_ s1 fun(Kind3:Int)=>(bif decide (Kind3>=5) then Ld (.int .i64) h_ s1 fun(Kind4:Int)=>J (decide (Kind4<=7)) h_ else J false h_)))
theorem QgY{g:Option Addr}{s:KL [.int .i64,.int .i64,.int .i64,.int .i64,.int .i64,.int .i64,.int .u8,.str]}{h:Heap}{R:Int->Heap->Prop}(hs:Qel g s h R):Qaq g s h R:=Qbb (an:= [(102,[(8,.one .bool)])]) Tryz.func11 (by kernel_rfl) (by kernel_rfl) hs
def Qfy(g:Option Addr)(i:Int)(h:Heap)(R:Option Addr->Heap->Prop):Prop:=QbS g i h fun(r:Bool) h_=>(bif !r then R none h_ else Nn g fun p=>Ld .sl h_ p fun(l:Sl)=>Ix l i 2 fun e=>Ld .ptr h_ (e.add 1) fun(node:Option Addr)=>R node h_)
theorem QjX{g:Option Addr}{i:Int}{h:Heap}{R:Option Addr->Heap->Prop}(hs:Qfy g i h R):QaE g i h R:=Qbb (an:= []) Tryz.func12 (by kernel_rfl) (by kernel_rfl) hs
def Qfz(g:Option Addr)(i:Int)(h:Heap)(R:Option Addr->Heap->Prop):Prop:=QbS g i h fun(r:Bool) h_=>(bif !r then R none h_ else Nn g fun p=>Ld .sl h_ p fun(l:Sl)=>Ix l i 2 fun e=>Ld .ptr h_ e fun(disk:Option Addr)=>R disk h_)
theorem QjY{g:Option Addr}{i:Int}{h:Heap}{R:Option Addr->Heap->Prop}(hs:Qfz g i h R):QdE g i h R:=Qbb (an:= []) Tryz.func16 (by kernel_rfl) (by kernel_rfl) hs
def Qf5(g:Option Addr)(l:Sl)(h:Heap)(R:Heap->Prop):Prop:=Qf9 [.one (.int .i64)] (fun _ (x8:Int) h_ go=>(bif decide (x8<(l.n:Int)) then Ix l x8 8 fun e=>Ld (.int .i64) h_ e fun(x_Kind:Int)=>Ld (.int .i64) h_ (e.add 1) fun(x_Node:Int)=>Ld (.int .i64) h_ (e.add 2) fun(x_I:Int)=>Ld (.int .i64) h_ (e.add 3) fun(x_Draw:Int)=>Ld (.int .i64) h_ (e.add 4) fun(x_Keep:Int)=>Ld (.int .i64) h_ (e.add 5) fun(x_At:Int)=>Ld (.int .u8) h_ (e.add 6) fun(x_By:Int)=>Ld .str h_ (e.add 7) fun(x_Data:ByteArray)=>QaG h_ (.cells #[.int .i64 0,.int .i64 0,.int .i64 0,.int .i64 0,.int .i64 0,.int .i64 0,.int .u8 0,.string (⟨#[]⟩:ByteArray)] 30) fun s h_1=>St h_1 s (.int .i64 x_Kind) fun h_2=>St h_2 (s.add 1) (.int .i64 x_Node) fun h_3=>St h_3 (s.add 2) (.int .i64 x_I) fun h_4=>St h_4 (s.add 3) (.int .i64 x_Draw) fun h_5=>St h_5 (s.add 4) (.int .i64 x_Keep) fun h_6=>St h_6 (s.add 5) (.int .i64 x_At) fun h_7=>St h_7 (s.add 6) (.int .u8 x_By) fun h_8=>St h_8 (s.add 7) (.string x_Data) fun h_9=>Ld (.int .i64) h_9 s fun(x_Kind1:Int)=>Ld (.int .i64) h_9 (s.add 1) fun(x_Node1:Int)=>Ld (.int .i64) h_9 (s.add 2) fun(x_I1:Int)=>Ld (.int .i64) h_9 (s.add 3) fun(x_Draw1:Int)=>Ld (.int .i64) h_9 (s.add 4) fun(x_Keep1:Int)=>Ld (.int .i64) h_9 (s.add 5) fun(x_At1:Int)=>Ld (.int .u8) h_9 (s.add 6) fun(x_By1:Int)=>Ld .str h_9 (s.add 7) fun(x_Data1:ByteArray)=>Qaq g (x_Kind1,x_Node1,x_I1,x_Draw1,x_Keep1,x_At1,x_By1,x_Data1,()) h_9 fun(r:Int) h_10=>go (IntKind.i64.wrap (x8+1)) h_10 else R h_)) (0,()) h
theorem QkG{g:Option Addr}{l:Sl}{h:Heap}{R:Heap->Prop}(hs:Qf5 g l h R):QdV g l h R:=Qbb (an:= [(6,[(8,.one (.int .i64))])]) Tryz.func22 (by kernel_rfl) (by kernel_rfl) hs
def Qew(g:Option Addr)(most:Int)(h:Heap)(R:Int->Heap->Prop):Prop:=Qf9 [.one (.int .i64)] (fun _ (n:Int) h_ go=>(bif !g.isNone then(bif decide (n<most) then Nn g fun p=>Ld .ptr h_ (p.add 1) fun(net:Option Addr)=>Qb1 net h_ fun(r:Int) h_1=>(bif decide (r>0) then Qaq g (2,0,0,0,0,0,0,(⟨#[]⟩:ByteArray),()) h_1 fun(r1:Int) h_2=>Let (IntKind.i64.wrap (n+1):Int) fun n1=>go n1 h_2 else R n h_1) else R n h_) else R n h_)) (0,()) h
theorem Qij{g:Option Addr}{most:Int}{h:Heap}{R:Int->Heap->Prop}(hs:Qew g most h R):QbG g most h R:=Qbb (an:= [(28,[(5,.one (.int .i64))])]) Tryz.func23 (by kernel_rfl) (by kernel_rfl) hs
def Qex(g:Option Addr)(h:Heap)(R:Int->Bool->Heap->Prop):Prop:=Let (-1:Int) fun best=>QbL g h fun(r:Int) h_=>Qf9 [.one (.int .i64),.one (.int .i64)] (fun _ (best1:Int) (x9:Int) h_1 go=>(bif decide (x9<r) then QaE g x9 h_1 fun(r1:Option Addr) h_2=>Qda r1 h_2 fun(r2:Int) h_3=>(bif r2==3 then(bif decide (best1<0) then go x9 (IntKind.i64.wrap (x9+1)) h_3 else Qcg r1 h_3 fun(r3:Int) h_4=>QaE g best1 h_4 fun(r4:Option Addr) h_5=>Qcg r4 h_5 fun(r5:Int) h_6=>(bif decide (r3>r5) then go x9 (IntKind.i64.wrap (x9+1)) h_6 else go best1 (IntKind.i64.wrap (x9+1)) h_6)) else go best1 (IntKind.i64.wrap (x9+1)) h_3) else(bif decide (best1<0) then R 0 false h_1 else R best1 true h_1))) (best,0,()) h_
theorem Qik{g:Option Addr}{h:Heap}{R:Int->Bool->Heap->Prop}(hs:Qex g h R):Qb3 g h R:=Qbb (an:= [(58,[(4,.one (.int .i64)),(9,.one (.int .i64))])]) Tryz.func24 (by kernel_rfl) (by kernel_rfl) hs
def Qey(g:Option Addr)(h:Heap)(R:Sl->Heap->Prop):Prop:=(bif g.isNone then R ⟨none,0,0⟩ h else Nn g fun p=>Ld .ptr h (p.add 1) fun(net:Option Addr)=>Qb2 net h fun(r:Sl) h_=>R r h_)
theorem Qil{g:Option Addr}{h:Heap}{R:Sl->Heap->Prop}(hs:Qey g h R):QcV g h R:=Qbb (an:= []) Tryz.func27 (by kernel_rfl) (by kernel_rfl) hs
def QdR(g:Option Addr)(h:Heap)(R:Int->Heap->Prop):Prop:=(bif g.isNone then R 0 h else Nn g fun p=>Ld .sl h p fun(l:Sl)=>R (l.n:Int) h)
theorem Qgc{g:Option Addr}{h:Heap}{R:Int->Heap->Prop}(hs:QdR g h R):QbL g h R:=Qbb (an:= []) Tryz.func28 (by kernel_rfl) (by kernel_rfl) hs
def Qef(h:Heap)(R:Option Addr->Heap->Prop):Prop:=QaG h (.cells #[.slice none 0 0] 86) fun p h_=>R (some p) h_
theorem QhN{h:Heap}{R:Option Addr->Heap->Prop}(hs:Qef h R):QcB h R:=Qbb (an:= []) Tryz.func29 (by kernel_rfl) (by kernel_rfl) hs
def Qfw(g:Option Addr)(s:KL [.int .i64,.int .i64,.int .i64,.int .i64,.int .i64,.int .i64,.int .u8,.str])(h:Heap)(R:Int->Heap->Prop):Prop:=QaG h (.cells #[.int .i64 s.1,.int .i64 s.2.1,.int .i64 s.2.2.1,.int .i64 s.2.2.2.1,.int .i64 s.2.2.2.2.1,.int .i64 s.2.2.2.2.2.1,.int .u8 s.2.2.2.2.2.2.1,.string s.2.2.2.2.2.2.2.1] 30) fun s1 h_=>Ld (.int .i64) h_ (s1.add 1) fun(Node:Int)=>QaE g Node h_ fun(r:Option Addr) h_1=>Let (!r.isNone:Bool) fun up=>Qie [] (fun _ h_2=>Ld (.int .i64) h_2 (s1.add 1) fun(Node1:Int)=>Ld (.int .i64) h_2 s1 fun(x_Kind:Int)=>Ld (.int .i64) h_2 (s1.add 1) fun(x_Node:Int)=>Ld (.int .i64) h_2 (s1.add 2) fun(x_I:Int)=>Ld (.int .i64) h_2 (s1.add 3) fun(x_Draw:Int)=>Ld (.int .i64) h_2 (s1.add 4) fun(x_Keep:Int)=>Ld (.int .i64) h_2 (s1.add 5) fun(x_At:Int)=>Ld (.int .u8) h_2 (s1.add 6) fun(x_By:Int)=>Ld .str h_2 (s1.add 7) fun(x_Data:ByteArray)=>QbA g Node1 (x_Kind,x_Node,x_I,x_Draw,x_Keep,x_At,x_By,x_Data,()) h_2 fun h_3=>R 0 h_3) fun J=>Ld (.int .i64) h_1 (s1.add 1) fun(Node2:Int)=>QbS g Node2 h_1 fun(r1:Bool) h_4=>(bif !r1 then R 6 h_4 else Qie [.one .bool] (fun _ (x17:Bool) h_5=>(bif x17 then R 8 h_5 else Ld (.int .i64) h_5 s1 fun(Kind:Int)=>(bif Kind==7 then Ld (.int .i64) h_5 (s1.add 1) fun(Node3:Int)=>QcD g Node3 h_5 fun(r2:Int) h_6=>R r2 h_6 else(bif !up then R 12 h_5 else Ld (.int .i64) h_5 s1 fun(Kind1:Int)=>(bif Kind1==1 then Ld (.int .i64) h_5 (s1.add 1) fun(Node4:Int)=>QaK g Node4 (.func (.func 46) #[] #[.pointer (some s1)]) h_5 fun(r3:Int) h_7=>R r3 h_7 else Ld (.int .i64) h_5 s1 fun(Kind2:Int)=>(bif Kind2==5 then Ld (.int .i64) h_5 (s1.add 1) fun(Node5:Int)=>QaK g Node5 (.func (.func 48) #[] #[.pointer (some s1)]) h_5 fun(r4:Int) h_8=>R r4 h_8 else J h_5)))))) fun J1=>Ld (.int .i64) h_4 s1 fun(Kind3:Int)=>(bif Kind3==7 then J1 up h_4 else J1 false h_4))
theorem QjV{g:Option Addr}{s:KL [.int .i64,.int .i64,.int .i64,.int .i64,.int .i64,.int .i64,.int .u8,.str]}{h:Heap}{R:Int->Heap->Prop}(hs:Qfw g s h R):QdC g s h R:=Qbb (an:= [(14,[]),(230,[(17,.one .bool)])]) Tryz.func32 (by kernel_rfl) (by kernel_rfl) hs
def Qei(g:Option Addr)(s:KL [.int .i64,.int .i64,.int .i64,.int .i64,.int .i64,.int .i64,.int .u8,.str])(h:Heap)(R:Int->Heap->Prop):Prop:=QaG h (.cells #[.int .i64 s.1,.int .i64 s.2.1,.int .i64 s.2.2.1,.int .i64 s.2.2.2.1,.int .i64 s.2.2.2.2.1,.int .i64 s.2.2.2.2.2.1,.int .u8 s.2.2.2.2.2.2.1,.string s.2.2.2.2.2.2.2.1] 30) fun s1 h_=>Ld (.int .i64) h_ s1 fun(Kind:Int)=>(bif Kind==4 then Nn g fun p=>Ld .ptr h_ (p.add 1) fun(net:Option Addr)=>Ld (.int .i64) h_ (s1.add 2) fun(I:Int)=>QaQ net I h_ fun(r:Int) h_1=>R r h_1 else Ld (.int .i64) h_ s1 fun(Kind1:Int)=>(bif Kind1==3 then Qie [.one (.int .i64)] (fun _ (e:Int) h_2=>R e h_2) fun J=>Nn g fun p1=>Ld .ptr h_ (p1.add 1) fun(net1:Option Addr)=>Ld (.int .i64) h_ (s1.add 2) fun(I1:Int)=>(QaJ net1 I1 h_ fun(r1:KL [.int .i64,.int .i64,.int .i64,.int .i64,.int .i64,.int .i64,.int .i64,.bool,.sl]) (r2:Int) h_3=>QaG h_3 (.cells #[.int .i64 0,.int .i64 0,.int .i64 0,.int .i64 0,.int .i64 0,.int .i64 0,.int .i64 0,.bool false,.slice none 0 0] 59) fun p2 h_4=>(Ld .ptr h_4 (p1.add 1) fun(net2:Option Addr)=>(.pointer net2:Value)= .pointer net1)/\(Ld (.int .i64) h_4 (s1.add 2) fun(I2:Int)=>(.int .i64 I2:Value)= .int .i64 I1)/\St h_4 p2 (.int .i64 r1.1) fun h_5=>St h_5 (p2.add 1) (.int .i64 r1.2.1) fun h_6=>St h_6 (p2.add 2) (.int .i64 r1.2.2.1) fun h_7=>St h_7 (p2.add 3) (.int .i64 r1.2.2.2.1) fun h_8=>St h_8 (p2.add 4) (.int .i64 r1.2.2.2.2.1) fun h_9=>St h_9 (p2.add 5) (.int .i64 r1.2.2.2.2.2.1) fun h_10=>St h_10 (p2.add 6) (.int .i64 r1.2.2.2.2.2.2.1) fun h_11=>St h_11 (p2.add 7) (.bool r1.2.2.2.2.2.2.2.1) fun h_12=>St h_12 (p2.add 8) (.slice r1.2.2.2.2.2.2.2.2.1.a r1.2.2.2.2.2.2.2.2.1.n r1.2.2.2.2.2.2.2.2.1.c) fun h_13=>J r2 h_13)/\(QaG h_ (.cells #[.int .i64 0,.int .i64 0,.int .i64 0,.int .i64 0,.int .i64 0,.int .i64 0,.int .i64 0,.bool false,.slice none 0 0] 59) fun p3 h_14=>(Ld .ptr h_14 (p1.add 1) fun(net3:Option Addr)=>(.pointer net3:Value)= .pointer net1)/\(Ld (.int .i64) h_14 (s1.add 2) fun(I3:Int)=>(.int .i64 I3:Value)= .int .i64 I1)/\QaJ net1 I1 h_14 fun(r3:KL [.int .i64,.int .i64,.int .i64,.int .i64,.int .i64,.int .i64,.int .i64,.bool,.sl]) (r4:Int) h_15=>St h_15 p3 (.int .i64 r3.1) fun h_16=>St h_16 (p3.add 1) (.int .i64 r3.2.1) fun h_17=>St h_17 (p3.add 2) (.int .i64 r3.2.2.1) fun h_18=>St h_18 (p3.add 3) (.int .i64 r3.2.2.2.1) fun h_19=>St h_19 (p3.add 4) (.int .i64 r3.2.2.2.2.1) fun h_20=>St h_20 (p3.add 5) (.int .i64 r3.2.2.2.2.2.1) fun h_21=>St h_21 (p3.add 6) (.int .i64 r3.2.2.2.2.2.2.1) fun h_22=>St h_22 (p3.add 7) (.bool r3.2.2.2.2.2.2.2.1) fun h_23=>St h_23 (p3.add 8) (.slice r3.2.2.2.2.2.2.2.2.1.a r3.2.2.2.2.2.2.2.2.1.n r3.2.2.2.2.2.2.2.2.1.c) fun h_24=>J r4 h_24) else Ld (.int .i64) h_ (s1.add 2) fun(I4:Int)=>QcF g I4 h_ fun(r5:KL [.int .i64,.int .i64,.int .i64,.int .i64,.int .i64,.int .i64,.int .i64,.bool,.sl]) (r6:Int) h_25=>QaG h_25 (.cells #[.int .i64 0,.int .i64 0,.int .i64 0,.int .i64 0,.int .i64 0,.int .i64 0,.int .i64 0,.bool false,.slice none 0 0] 59) fun m h_26=>St h_26 m (.int .i64 r5.1) fun h_27=>St h_27 (m.add 1) (.int .i64 r5.2.1) fun h_28=>St h_28 (m.add 2) (.int .i64 r5.2.2.1) fun h_29=>St h_29 (m.add 3) (.int .i64 r5.2.2.2.1) fun h_30=>St h_30 (m.add 4) (.int .i64 r5.2.2.2.2.1) fun h_31=>St h_31 (m.add 5) (.int .i64 r5.2.2.2.2.2.1) fun h_32=>St h_32 (m.add 6) (.int .i64 r5.2.2.2.2.2.2.1) fun h_33=>St h_33 (m.add 7) (.bool r5.2.2.2.2.2.2.2.1) fun h_34=>St h_34 (m.add 8) (.slice r5.2.2.2.2.2.2.2.2.1.a r5.2.2.2.2.2.2.2.2.1.n r5.2.2.2.2.2.2.2.2.1.c) fun h_35=>(bif r6 !=0 then R r6 h_35 else Ld (.int .i64) h_35 s1 fun(Kind2:Int)=>(bif Kind2==2 then Ld (.int .i64) h_35 (m.add 2) fun(To:Int)=>QaK g To (.func (.func 54) #[] #[.pointer (some m)]) h_35 fun(r7:Int) h_36=>R r7 h_36 else Nn g fun p4=>Ld .sl h_35 p4 fun(l:Sl)=>Ld (.int .i64) h_35 (m.add 2) fun(To1:Int)=>Ix l To1 2 fun e1=>Ld .ptr h_35 (e1.add 1) fun(node:Option Addr)=>Ld (.int .i64) h_35 m fun(x_Kind:Int)=>Ld (.int .i64) h_35 (m.add 1) fun(x_From:Int)=>Ld (.int .i64) h_35 (m.add 2) fun(x_To:Int)=>Ld (.int .i64) h_35 (m.add 3) fun(x_Term:Int)=>Ld (.int .i64) h_35 (m.add 4) fun(x_Index:Int)=>Ld (.int .i64) h_35 (m.add 5) fun(x_LogTerm:Int)=>Ld (.int .i64) h_35 (m.add 6) fun(x_Commit:Int)=>Ld .bool h_35 (m.add 7) fun(x_Yes:Bool)=>Ld .sl h_35 (m.add 8) fun(x_Entries:Sl)=>Qch node (x_Kind,x_From,x_To,x_Term,x_Index,x_LogTerm,x_Commit,x_Yes,x_Entries,()) h_35 fun h_37=>Ld (.int .i64) h_37 (m.add 2) fun(To2:Int)=>QaZ g To2 h_37 fun(r8:Int) h_38=>Ld (.int .i64) h_38 (m.add 2) fun(To3:Int)=>Ld (.int .i64) h_38 s1 fun(x_Kind1:Int)=>Ld (.int .i64) h_38 (s1.add 1) fun(x_Node:Int)=>Ld (.int .i64) h_38 (s1.add 2) fun(x_I:Int)=>Ld (.int .i64) h_38 (s1.add 3) fun(x_Draw:Int)=>Ld (.int .i64) h_38 (s1.add 4) fun(x_Keep:Int)=>Ld (.int .i64) h_38 (s1.add 5) fun(x_At:Int)=>Ld (.int .u8) h_38 (s1.add 6) fun(x_By:Int)=>Ld .str h_38 (s1.add 7) fun(x_Data:ByteArray)=>QbA g To3 (x_Kind1,x_Node,x_I,x_Draw,x_Keep,x_At,x_By,x_Data,()) h_38 fun h_39=>R 0 h_39))))
theorem QhQ{g:Option Addr}{s:KL [.int .i64,.int .i64,.int .i64,.int .i64,.int .i64,.int .i64,.int .u8,.str]}{h:Heap}{R:Int->Heap->Prop}(hs:Qei g s h R):QcE g s h R:=Qbb (an:= [(116,[(6,.one (.int .i64))])]) Tryz.func33 (by kernel_rfl) (by kernel_rfl) hs
def QgR(g:Option Addr)(i:Int)(h:Heap)(R:Bool->Heap->Prop):Prop:=(bif decide (i>=0) then QbL g h fun(r:Int) h_=>R (decide (i<r)) h_ else R false h)
theorem Qlo{g:Option Addr}{i:Int}{h:Heap}{R:Bool->Heap->Prop}(hs:QgR g i h R):QbS g i h R:=Qbb (an:= []) Tryz.func34 (by kernel_rfl) (by kernel_rfl) hs
def Qc4(n:Option Addr)(h:Heap)(R:Int->Heap->Prop):Prop:=(bif n.isNone then R 0 h else Nn n fun p=>Ld .sl h p fun(l:Sl)=>R (l.n:Int) h)
theorem QfH{n:Option Addr}{h:Heap}{R:Int->Heap->Prop}(hs:Qc4 n h R):Qb1 n h R:=Qbb (an:= []) Tryz.func39 (by kernel_rfl) (by kernel_rfl) hs
def Qc5(n:Option Addr)(h:Heap)(R:Sl->Heap->Prop):Prop:=(bif n.isNone then R ⟨none,0,0⟩ h else Nn n fun p=>Ld .sl h p fun(l:Sl)=>Qby l h fun(r:Sl) h_=>R r h_)
theorem QfI{n:Option Addr}{h:Heap}{R:Sl->Heap->Prop}(hs:Qc5 n h R):Qb2 n h R:=Qbb (an:= []) Tryz.func41 (by kernel_rfl) (by kernel_rfl) hs
def Qeh(g:Option Addr)(i:Int)(h:Heap)(R:Int->Heap->Prop):Prop:=Nn g fun p=>Ld .sl h p fun(l:Sl)=>Ix l i 2 fun e=>Ld .ptr h e fun(disk:Option Addr)=>Qd3 disk h fun(r:KL [.int .i64,.int .i64,.sl]) (r1:Int) h_=>QaG h_ (.cells #[.int .i64 0,.int .i64 0,.slice none 0 0] 46) fun s h_1=>St h_1 s (.int .i64 r.1) fun h_2=>St h_2 (s.add 1) (.int .i64 r.2.1) fun h_3=>St h_3 (s.add 2) (.slice r.2.2.1.a r.2.2.1.n r.2.2.1.c) fun h_4=>(bif r1 !=0 then R r1 h_4 else Nn g fun p1=>Ld .sl h_4 p1 fun(l1:Sl)=>Nn g fun p2=>Ld .sl h_4 p2 fun(l2:Sl)=>Ld (.int .i64) h_4 s fun(x_Term:Int)=>Ld (.int .i64) h_4 (s.add 1) fun(x_Vote:Int)=>Ld .sl h_4 (s.add 2) fun(x_Entries:Sl)=>Qia i (l2.n:Int) 4 2 (x_Term,x_Vote,x_Entries,()) h_4 fun(r2:Option Addr) (r3:Int) h_5=>(Ld .sl h_5 p1 fun(l3:Sl)=>(.slice l3.a l3.n l3.c:Value)= .slice l1.a l1.n l1.c)/\Ix l1 i 2 fun e1=>St h_5 (e1.add 1) (.pointer r2) fun h_6=>R r3 h_6)
theorem QhP{g:Option Addr}{i:Int}{h:Heap}{R:Int->Heap->Prop}(hs:Qeh g i h R):QcD g i h R:=Qbb (an:= []) Tryz.func44 (by kernel_rfl) (by kernel_rfl) hs
def QdK(g:Option Addr)(i:Int)(cap:Option Addr)(h:Heap)(R:Int->Heap->Prop):Prop:=Nn g fun p=>Ld .sl h p fun(l:Sl)=>Ix l i 2 fun e=>Ld .ptr h (e.add 1) fun(node:Option Addr)=>QeB node cap h fun(r:Int) h_=>QaZ g i h_ fun(r1:Int) h_1=>(bif r1 !=0 then Nn g fun p1=>Ld .sl h_1 p1 fun(l1:Sl)=>Ix l1 i 2 fun e1=>St h_1 (e1.add 1) (.pointer none) fun h_2=>R r1 h_2 else Nn g fun p2=>Ld .sl h_1 p2 fun(l2:Sl)=>Ix l2 i 2 fun e2=>Ld .ptr h_1 e2 fun(disk:Option Addr)=>QbC disk h_1 fun(r2:Int) h_3=>Qb7 node h_3 fun(r3:Sl) h_4=>Qf9 [.one (.int .i64)] (fun _ (x48:Int) h_5 go=>(bif decide (x48<(r3.n:Int)) then Ix r3 x48 9 fun e3=>Ld (.int .i64) h_5 e3 fun(x_Kind:Int)=>Ld (.int .i64) h_5 (e3.add 1) fun(x_From:Int)=>Ld (.int .i64) h_5 (e3.add 2) fun(x_To:Int)=>Ld (.int .i64) h_5 (e3.add 3) fun(x_Term:Int)=>Ld (.int .i64) h_5 (e3.add 4) fun(x_Index:Int)=>Ld (.int .i64) h_5 (e3.add 5) fun(x_LogTerm:Int)=>Ld (.int .i64) h_5 (e3.add 6) fun(x_Commit:Int)=>Ld .bool h_5 (e3.add 7) fun(x_Yes:Bool)=>Ld .sl h_5 (e3.add 8) fun(x_Entries:Sl)=>QaG h_5 (.cells #[.int .i64 0,.int .i64 0,.int .i64 0,.int .i64 0,.int .i64 0,.int .i64 0,.int .i64 0,.bool false,.slice none 0 0] 59) fun m h_6=>St h_6 m (.int .i64 x_Kind) fun h_7=>St h_7 (m.add 1) (.int .i64 x_From) fun h_8=>St h_8 (m.add 2) (.int .i64 x_To) fun h_9=>St h_9 (m.add 3) (.int .i64 x_Term) fun h_10=>St h_10 (m.add 4) (.int .i64 x_Index) fun h_11=>St h_11 (m.add 5) (.int .i64 x_LogTerm) fun h_12=>St h_12 (m.add 6) (.int .i64 x_Commit) fun h_13=>St h_13 (m.add 7) (.bool x_Yes) fun h_14=>St h_14 (m.add 8) (.slice x_Entries.a x_Entries.n x_Entries.c) fun h_15=>Nn g fun p3=>Ld .ptr h_15 (p3.add 1) fun(net:Option Addr)=>Ld (.int .i64) h_15 m fun(x_Kind1:Int)=>Ld (.int .i64) h_15 (m.add 1) fun(x_From1:Int)=>Ld (.int .i64) h_15 (m.add 2) fun(x_To1:Int)=>Ld (.int .i64) h_15 (m.add 3) fun(x_Term1:Int)=>Ld (.int .i64) h_15 (m.add 4) fun(x_Index1:Int)=>Ld (.int .i64) h_15 (m.add 5) fun(x_LogTerm1:Int)=>Ld (.int .i64) h_15 (m.add 6) fun(x_Commit1:Int)=>Ld .bool h_15 (m.add 7) fun(x_Yes1:Bool)=>Ld .sl h_15 (m.add 8) fun(x_Entries1:Sl)=>QaB net (x_Kind1,x_From1,x_To1,x_Term1,x_Index1,x_LogTerm1,x_Commit1,x_Yes1,x_Entries1,()) h_15 fun(r4:Int) h_16=>go (IntKind.i64.wrap (x48+1)) h_16 else R r h_5)) (0,()) h_4)
theorem Qg6{g:Option Addr}{i:Int}{cap:Option Addr}{h:Heap}{R:Int->Heap->Prop}(hs:QdK g i cap h R):QaK g i (.func (.func 46) #[] #[.pointer cap]) h R:=Qbb (an:= [(506,[(48,.one (.int .i64))])]) Tryz.func45 (by kernel_rfl) (by kernel_rfl) hs
def QdJ(g:Option Addr)(i:Int)(cap:Option Addr)(h:Heap)(R:Int->Heap->Prop):Prop:=Nn g fun p=>Ld .sl h p fun(l:Sl)=>Ix l i 2 fun e=>Ld .ptr h (e.add 1) fun(node:Option Addr)=>QeA node cap h fun(r:Int) h_=>QaZ g i h_ fun(r1:Int) h_1=>(bif r1 !=0 then Nn g fun p1=>Ld .sl h_1 p1 fun(l1:Sl)=>Ix l1 i 2 fun e1=>St h_1 (e1.add 1) (.pointer none) fun h_2=>R r1 h_2 else Nn g fun p2=>Ld .sl h_1 p2 fun(l2:Sl)=>Ix l2 i 2 fun e2=>Ld .ptr h_1 e2 fun(disk:Option Addr)=>QbC disk h_1 fun(r2:Int) h_3=>Qb7 node h_3 fun(r3:Sl) h_4=>Qf9 [.one (.int .i64)] (fun _ (x48:Int) h_5 go=>(bif decide (x48<(r3.n:Int)) then Ix r3 x48 9 fun e3=>Ld (.int .i64) h_5 e3 fun(x_Kind:Int)=>Ld (.int .i64) h_5 (e3.add 1) fun(x_From:Int)=>Ld (.int .i64) h_5 (e3.add 2) fun(x_To:Int)=>Ld (.int .i64) h_5 (e3.add 3) fun(x_Term:Int)=>Ld (.int .i64) h_5 (e3.add 4) fun(x_Index:Int)=>Ld (.int .i64) h_5 (e3.add 5) fun(x_LogTerm:Int)=>Ld (.int .i64) h_5 (e3.add 6) fun(x_Commit:Int)=>Ld .bool h_5 (e3.add 7) fun(x_Yes:Bool)=>Ld .sl h_5 (e3.add 8) fun(x_Entries:Sl)=>QaG h_5 (.cells #[.int .i64 0,.int .i64 0,.int .i64 0,.int .i64 0,.int .i64 0,.int .i64 0,.int .i64 0,.bool false,.slice none 0 0] 59) fun m h_6=>St h_6 m (.int .i64 x_Kind) fun h_7=>St h_7 (m.add 1) (.int .i64 x_From) fun h_8=>St h_8 (m.add 2) (.int .i64 x_To) fun h_9=>St h_9 (m.add 3) (.int .i64 x_Term) fun h_10=>St h_10 (m.add 4) (.int .i64 x_Index) fun h_11=>St h_11 (m.add 5) (.int .i64 x_LogTerm) fun h_12=>St h_12 (m.add 6) (.int .i64 x_Commit) fun h_13=>St h_13 (m.add 7) (.bool x_Yes) fun h_14=>St h_14 (m.add 8) (.slice x_Entries.a x_Entries.n x_Entries.c) fun h_15=>Nn g fun p3=>Ld .ptr h_15 (p3.add 1) fun(net:Option Addr)=>Ld (.int .i64) h_15 m fun(x_Kind1:Int)=>Ld (.int .i64) h_15 (m.add 1) fun(x_From1:Int)=>Ld (.int .i64) h_15 (m.add 2) fun(x_To1:Int)=>Ld (.int .i64) h_15 (m.add 3) fun(x_Term1:Int)=>Ld (.int .i64) h_15 (m.add 4) fun(x_Index1:Int)=>Ld (.int .i64) h_15 (m.add 5) fun(x_LogTerm1:Int)=>Ld (.int .i64) h_15 (m.add 6) fun(x_Commit1:Int)=>Ld .bool h_15 (m.add 7) fun(x_Yes1:Bool)=>Ld .sl h_15 (m.add 8) fun(x_Entries1:Sl)=>QaB net (x_Kind1,x_From1,x_To1,x_Term1,x_Index1,x_LogTerm1,x_Commit1,x_Yes1,x_Entries1,()) h_15 fun(r4:Int) h_16=>go (IntKind.i64.wrap (x48+1)) h_16 else R r h_5)) (0,()) h_4)
theorem Qg5{g:Option Addr}{i:Int}{cap:Option Addr}{h:Heap}{R:Int->Heap->Prop}(hs:QdJ g i cap h R):QaK g i (.func (.func 48) #[] #[.pointer cap]) h R:=Qbb (an:= [(506,[(48,.one (.int .i64))])]) Tryz.func45 (by kernel_rfl) (by kernel_rfl) hs
def QdI(g:Option Addr)(i:Int)(cap:Option Addr)(h:Heap)(R:Int->Heap->Prop):Prop:=Nn g fun p=>Ld .sl h p fun(l:Sl)=>Ix l i 2 fun e=>Ld .ptr h (e.add 1) fun(node:Option Addr)=>QdD node cap h fun(r:Int) h_=>QaZ g i h_ fun(r1:Int) h_1=>(bif r1 !=0 then Nn g fun p1=>Ld .sl h_1 p1 fun(l1:Sl)=>Ix l1 i 2 fun e1=>St h_1 (e1.add 1) (.pointer none) fun h_2=>R r1 h_2 else Nn g fun p2=>Ld .sl h_1 p2 fun(l2:Sl)=>Ix l2 i 2 fun e2=>Ld .ptr h_1 e2 fun(disk:Option Addr)=>QbC disk h_1 fun(r2:Int) h_3=>Qb7 node h_3 fun(r3:Sl) h_4=>Qf9 [.one (.int .i64)] (fun _ (x48:Int) h_5 go=>(bif decide (x48<(r3.n:Int)) then Ix r3 x48 9 fun e3=>Ld (.int .i64) h_5 e3 fun(x_Kind:Int)=>Ld (.int .i64) h_5 (e3.add 1) fun(x_From:Int)=>Ld (.int .i64) h_5 (e3.add 2) fun(x_To:Int)=>Ld (.int .i64) h_5 (e3.add 3) fun(x_Term:Int)=>Ld (.int .i64) h_5 (e3.add 4) fun(x_Index:Int)=>Ld (.int .i64) h_5 (e3.add 5) fun(x_LogTerm:Int)=>Ld (.int .i64) h_5 (e3.add 6) fun(x_Commit:Int)=>Ld .bool h_5 (e3.add 7) fun(x_Yes:Bool)=>Ld .sl h_5 (e3.add 8) fun(x_Entries:Sl)=>QaG h_5 (.cells #[.int .i64 0,.int .i64 0,.int .i64 0,.int .i64 0,.int .i64 0,.int .i64 0,.int .i64 0,.bool false,.slice none 0 0] 59) fun m h_6=>St h_6 m (.int .i64 x_Kind) fun h_7=>St h_7 (m.add 1) (.int .i64 x_From) fun h_8=>St h_8 (m.add 2) (.int .i64 x_To) fun h_9=>St h_9 (m.add 3) (.int .i64 x_Term) fun h_10=>St h_10 (m.add 4) (.int .i64 x_Index) fun h_11=>St h_11 (m.add 5) (.int .i64 x_LogTerm) fun h_12=>St h_12 (m.add 6) (.int .i64 x_Commit) fun h_13=>St h_13 (m.add 7) (.bool x_Yes) fun h_14=>St h_14 (m.add 8) (.slice x_Entries.a x_Entries.n x_Entries.c) fun h_15=>Nn g fun p3=>Ld .ptr h_15 (p3.add 1) fun(net:Option Addr)=>Ld (.int .i64) h_15 m fun(x_Kind1:Int)=>Ld (.int .i64) h_15 (m.add 1) fun(x_From1:Int)=>Ld (.int .i64) h_15 (m.add 2) fun(x_To1:Int)=>Ld (.int .i64) h_15 (m.add 3) fun(x_Term1:Int)=>Ld (.int .i64) h_15 (m.add 4) fun(x_Index1:Int)=>Ld (.int .i64) h_15 (m.add 5) fun(x_LogTerm1:Int)=>Ld (.int .i64) h_15 (m.add 6) fun(x_Commit1:Int)=>Ld .bool h_15 (m.add 7) fun(x_Yes1:Bool)=>Ld .sl h_15 (m.add 8) fun(x_Entries1:Sl)=>QaB net (x_Kind1,x_From1,x_To1,x_Term1,x_Index1,x_LogTerm1,x_Commit1,x_Yes1,x_Entries1,()) h_15 fun(r4:Int) h_16=>go (IntKind.i64.wrap (x48+1)) h_16 else R r h_5)) (0,()) h_4)
theorem Qg4{g:Option Addr}{i:Int}{cap:Option Addr}{h:Heap}{R:Int->Heap->Prop}(hs:QdI g i cap h R):QaK g i (.func (.func 54) #[] #[.pointer cap]) h R:=Qbb (an:= [(506,[(48,.one (.int .i64))])]) Tryz.func45 (by kernel_rfl) (by kernel_rfl) hs
def Qev(x:Option Addr)(fv:Addr)(h:Heap)(R:Int->Heap->Prop):Prop:=Ld (.int .i64) h (fv.add 3) fun(Draw:Int)=>Qeo x Draw h fun h_=>R 0 h_
theorem Qii{x:Option Addr}{fv:Addr}{h:Heap}{R:Int->Heap->Prop}(hs:Qev x fv h R):QeB x (some fv) h R:=Qbb (an:= []) Tryz.func46 (by kernel_rfl) (by kernel_rfl) hs
def Qeu(x:Option Addr)(fv:Addr)(h:Heap)(R:Int->Heap->Prop):Prop:=Ld .str h (fv.add 7) fun(Data:ByteArray)=>Qdf x Data h fun(r:Int) (r1:Int) h_=>R r1 h_
theorem Qih{x:Option Addr}{fv:Addr}{h:Heap}{R:Int->Heap->Prop}(hs:Qeu x fv h R):QeA x (some fv) h R:=Qbb (an:= []) Tryz.func48 (by kernel_rfl) (by kernel_rfl) hs
def Qfx(g:Option Addr)(i:Int)(s:KL [.int .i64,.int .i64,.int .i64,.int .i64,.int .i64,.int .i64,.int .u8,.str])(h:Heap)(R:Heap->Prop):Prop:=QaG h (.cells #[.int .i64 s.1,.int .i64 s.2.1,.int .i64 s.2.2.1,.int .i64 s.2.2.2.1,.int .i64 s.2.2.2.2.1,.int .i64 s.2.2.2.2.2.1,.int .u8 s.2.2.2.2.2.2.1,.string s.2.2.2.2.2.2.2.1] 30) fun s1 h_=>Nn g fun p=>Ld .sl h_ p fun(l:Sl)=>Ix l i 2 fun e=>St h_ (e.add 1) (.pointer none) fun h_1=>Nn g fun p1=>Ld .sl h_1 p1 fun(l1:Sl)=>Ix l1 i 2 fun e1=>Ld .ptr h_1 e1 fun(disk:Option Addr)=>Ld (.int .i64) h_1 (s1.add 4) fun(Keep:Int)=>Ld (.int .i64) h_1 (s1.add 5) fun(At_:Int)=>Ld (.int .u8) h_1 (s1.add 6) fun(By:Int)=>QdX disk Keep At_ By h_1 fun(r:Int) h_2=>R h_2
theorem QjW{g:Option Addr}{i:Int}{s:KL [.int .i64,.int .i64,.int .i64,.int .i64,.int .i64,.int .i64,.int .u8,.str]}{h:Heap}{R:Heap->Prop}(hs:Qfx g i s h R):QbA g i s h R:=Qbb (an:= []) Tryz.func50 (by kernel_rfl) (by kernel_rfl) hs
def Qcr(n:Option Addr)(i:Int)(h:Heap)(R:Int->Heap->Prop):Prop:=Qbz n i h fun(r:Int) h_=>(bif r !=0 then R r h_ else Nn n fun p=>Ld .sl h_ p fun(l:Sl)=>Ix l i 9 fun e=>Ld (.int .i64) h_ e fun(x_Kind:Int)=>Ld (.int .i64) h_ (e.add 1) fun(x_From:Int)=>Ld (.int .i64) h_ (e.add 2) fun(x_To:Int)=>Ld (.int .i64) h_ (e.add 3) fun(x_Term:Int)=>Ld (.int .i64) h_ (e.add 4) fun(x_Index:Int)=>Ld (.int .i64) h_ (e.add 5) fun(x_LogTerm:Int)=>Ld (.int .i64) h_ (e.add 6) fun(x_Commit:Int)=>Ld .bool h_ (e.add 7) fun(x_Yes:Bool)=>Ld .sl h_ (e.add 8) fun(x_Entries:Sl)=>QaB n (x_Kind,x_From,x_To,x_Term,x_Index,x_LogTerm,x_Commit,x_Yes,x_Entries,()) h_ fun(r1:Int) h_1=>R r1 h_1)
theorem QeH{n:Option Addr}{i:Int}{h:Heap}{R:Int->Heap->Prop}(hs:Qcr n i h R):QaQ n i h R:=Qbb (an:= []) Tryz.func51 (by kernel_rfl) (by kernel_rfl) hs
def QcQ(n:Option Addr)(i:Int)(h:Heap)(R:KL [.int .i64,.int .i64,.int .i64,.int .i64,.int .i64,.int .i64,.int .i64,.bool,.sl]->Int->Heap->Prop):Prop:=QaG h (.cells #[.int .i64 0,.int .i64 0,.int .i64 0,.int .i64 0,.int .i64 0,.int .i64 0,.int .i64 0,.bool false,.slice none 0 0] 59) fun p h_=>QaG h_ (.cells #[.int .i64 0,.int .i64 0,.int .i64 0,.int .i64 0,.int .i64 0,.int .i64 0,.int .i64 0,.bool false,.slice none 0 0] 59) fun x h_1=>Qbz n i h_1 fun(r:Int) h_2=>(bif r !=0 then Ld (.int .i64) h_2 x fun(x_Kind:Int)=>Ld (.int .i64) h_2 (x.add 1) fun(x_From:Int)=>Ld (.int .i64) h_2 (x.add 2) fun(x_To:Int)=>Ld (.int .i64) h_2 (x.add 3) fun(x_Term:Int)=>Ld (.int .i64) h_2 (x.add 4) fun(x_Index:Int)=>Ld (.int .i64) h_2 (x.add 5) fun(x_LogTerm:Int)=>Ld (.int .i64) h_2 (x.add 6) fun(x_Commit:Int)=>Ld .bool h_2 (x.add 7) fun(x_Yes:Bool)=>Ld .sl h_2 (x.add 8) fun(x_Entries:Sl)=>St h_2 p (.int .i64 x_Kind) fun h_3=>St h_3 (p.add 1) (.int .i64 x_From) fun h_4=>St h_4 (p.add 2) (.int .i64 x_To) fun h_5=>St h_5 (p.add 3) (.int .i64 x_Term) fun h_6=>St h_6 (p.add 4) (.int .i64 x_Index) fun h_7=>St h_7 (p.add 5) (.int .i64 x_LogTerm) fun h_8=>St h_8 (p.add 6) (.int .i64 x_Commit) fun h_9=>St h_9 (p.add 7) (.bool x_Yes) fun h_10=>St h_10 (p.add 8) (.slice x_Entries.a x_Entries.n x_Entries.c) fun h_11=>Ld (.int .i64) h_11 p fun(r_0:Int)=>Ld (.int .i64) h_11 (p.add 1) fun(r_1:Int)=>Ld (.int .i64) h_11 (p.add 2) fun(r_2:Int)=>Ld (.int .i64) h_11 (p.add 3) fun(r_3:Int)=>Ld (.int .i64) h_11 (p.add 4) fun(r_4:Int)=>Ld (.int .i64) h_11 (p.add 5) fun(r_5:Int)=>Ld (.int .i64) h_11 (p.add 6) fun(r_6:Int)=>Ld .bool h_11 (p.add 7) fun(r_7:Bool)=>Ld .sl h_11 (p.add 8) fun(r_8:Sl)=>R (r_0,r_1,r_2,r_3,r_4,r_5,r_6,r_7,r_8,()) r h_11 else Nn n fun p1=>Ld .sl h_2 p1 fun(l:Sl)=>Ix l i 9 fun e=>Ld (.int .i64) h_2 e fun(x_Kind1:Int)=>Ld (.int .i64) h_2 (e.add 1) fun(x_From1:Int)=>Ld (.int .i64) h_2 (e.add 2) fun(x_To1:Int)=>Ld (.int .i64) h_2 (e.add 3) fun(x_Term1:Int)=>Ld (.int .i64) h_2 (e.add 4) fun(x_Index1:Int)=>Ld (.int .i64) h_2 (e.add 5) fun(x_LogTerm1:Int)=>Ld (.int .i64) h_2 (e.add 6) fun(x_Commit1:Int)=>Ld .bool h_2 (e.add 7) fun(x_Yes1:Bool)=>Ld .sl h_2 (e.add 8) fun(x_Entries1:Sl)=>St h_2 x (.int .i64 x_Kind1) fun h_12=>St h_12 (x.add 1) (.int .i64 x_From1) fun h_13=>St h_13 (x.add 2) (.int .i64 x_To1) fun h_14=>St h_14 (x.add 3) (.int .i64 x_Term1) fun h_15=>St h_15 (x.add 4) (.int .i64 x_Index1) fun h_16=>St h_16 (x.add 5) (.int .i64 x_LogTerm1) fun h_17=>St h_17 (x.add 6) (.int .i64 x_Commit1) fun h_18=>St h_18 (x.add 7) (.bool x_Yes1) fun h_19=>St h_19 (x.add 8) (.slice x_Entries1.a x_Entries1.n x_Entries1.c) fun h_20=>Nn n fun p2=>Ld .sl h_20 p2 fun(l1:Sl)=>QaY l1 i (IntKind.i64.wrap (i+1)) h_20 fun(r1:Sl) h_21=>Nn n fun p3=>St h_21 p3 (.slice r1.a r1.n r1.c) fun h_22=>Ld (.int .i64) h_22 x fun(x_Kind2:Int)=>Ld (.int .i64) h_22 (x.add 1) fun(x_From2:Int)=>Ld (.int .i64) h_22 (x.add 2) fun(x_To2:Int)=>Ld (.int .i64) h_22 (x.add 3) fun(x_Term2:Int)=>Ld (.int .i64) h_22 (x.add 4) fun(x_Index2:Int)=>Ld (.int .i64) h_22 (x.add 5) fun(x_LogTerm2:Int)=>Ld (.int .i64) h_22 (x.add 6) fun(x_Commit2:Int)=>Ld .bool h_22 (x.add 7) fun(x_Yes2:Bool)=>Ld .sl h_22 (x.add 8) fun(x_Entries2:Sl)=>St h_22 p (.int .i64 x_Kind2) fun h_23=>St h_23 (p.add 1) (.int .i64 x_From2) fun h_24=>St h_24 (p.add 2) (.int .i64 x_To2) fun h_25=>St h_25 (p.add 3) (.int .i64 x_Term2) fun h_26=>St h_26 (p.add 4) (.int .i64 x_Index2) fun h_27=>St h_27 (p.add 5) (.int .i64 x_LogTerm2) fun h_28=>St h_28 (p.add 6) (.int .i64 x_Commit2) fun h_29=>St h_29 (p.add 7) (.bool x_Yes2) fun h_30=>St h_30 (p.add 8) (.slice x_Entries2.a x_Entries2.n x_Entries2.c) fun h_31=>Ld (.int .i64) h_31 p fun(r_01:Int)=>Ld (.int .i64) h_31 (p.add 1) fun(r_11:Int)=>Ld (.int .i64) h_31 (p.add 2) fun(r_21:Int)=>Ld (.int .i64) h_31 (p.add 3) fun(r_31:Int)=>Ld (.int .i64) h_31 (p.add 4) fun(r_41:Int)=>Ld (.int .i64) h_31 (p.add 5) fun(r_51:Int)=>Ld (.int .i64) h_31 (p.add 6) fun(r_61:Int)=>Ld .bool h_31 (p.add 7) fun(r_71:Bool)=>Ld .sl h_31 (p.add 8) fun(r_81:Sl)=>R (r_01,r_11,r_21,r_31,r_41,r_51,r_61,r_71,r_81,()) 0 h_31)
theorem Qfc{n:Option Addr}{i:Int}{h:Heap}{R:KL [.int .i64,.int .i64,.int .i64,.int .i64,.int .i64,.int .i64,.int .i64,.bool,.sl]->Int->Heap->Prop}(hs:QcQ n i h R):QaJ n i h R:=useG_SZ (an:= []) Tryz.func52 (by kernel_rfl) (by kernel_rfl) hs
def Qej(g:Option Addr)(at_:Int)(h:Heap)(R:KL [.int .i64,.int .i64,.int .i64,.int .i64,.int .i64,.int .i64,.int .i64,.bool,.sl]->Int->Heap->Prop):Prop:=QaG h (.cells #[.int .i64 0,.int .i64 0,.int .i64 0,.int .i64 0,.int .i64 0,.int .i64 0,.int .i64 0,.bool false,.slice none 0 0] 59) fun p h_=>Nn g fun p1=>Ld .ptr h_ (p1.add 1) fun(net:Option Addr)=>QaJ net at_ h_ fun(r:KL [.int .i64,.int .i64,.int .i64,.int .i64,.int .i64,.int .i64,.int .i64,.bool,.sl]) (r1:Int) h_1=>QaG h_1 (.cells #[.int .i64 0,.int .i64 0,.int .i64 0,.int .i64 0,.int .i64 0,.int .i64 0,.int .i64 0,.bool false,.slice none 0 0] 59) fun m h_2=>St h_2 m (.int .i64 r.1) fun h_3=>St h_3 (m.add 1) (.int .i64 r.2.1) fun h_4=>St h_4 (m.add 2) (.int .i64 r.2.2.1) fun h_5=>St h_5 (m.add 3) (.int .i64 r.2.2.2.1) fun h_6=>St h_6 (m.add 4) (.int .i64 r.2.2.2.2.1) fun h_7=>St h_7 (m.add 5) (.int .i64 r.2.2.2.2.2.1) fun h_8=>St h_8 (m.add 6) (.int .i64 r.2.2.2.2.2.2.1) fun h_9=>St h_9 (m.add 7) (.bool r.2.2.2.2.2.2.2.1) fun h_10=>St h_10 (m.add 8) (.slice r.2.2.2.2.2.2.2.2.1.a r.2.2.2.2.2.2.2.2.1.n r.2.2.2.2.2.2.2.2.1.c) fun h_11=>(bif r1==0 then Ld (.int .i64) h_11 (m.add 2) fun(To:Int)=>QaE g To h_11 fun(r2:Option Addr) h_12=>(bif r2.isNone then Ld (.int .i64) h_12 m fun(x_Kind:Int)=>Ld (.int .i64) h_12 (m.add 1) fun(x_From:Int)=>Ld (.int .i64) h_12 (m.add 2) fun(x_To:Int)=>Ld (.int .i64) h_12 (m.add 3) fun(x_Term:Int)=>Ld (.int .i64) h_12 (m.add 4) fun(x_Index:Int)=>Ld (.int .i64) h_12 (m.add 5) fun(x_LogTerm:Int)=>Ld (.int .i64) h_12 (m.add 6) fun(x_Commit:Int)=>Ld .bool h_12 (m.add 7) fun(x_Yes:Bool)=>Ld .sl h_12 (m.add 8) fun(x_Entries:Sl)=>St h_12 p (.int .i64 x_Kind) fun h_13=>St h_13 (p.add 1) (.int .i64 x_From) fun h_14=>St h_14 (p.add 2) (.int .i64 x_To) fun h_15=>St h_15 (p.add 3) (.int .i64 x_Term) fun h_16=>St h_16 (p.add 4) (.int .i64 x_Index) fun h_17=>St h_17 (p.add 5) (.int .i64 x_LogTerm) fun h_18=>St h_18 (p.add 6) (.int .i64 x_Commit) fun h_19=>St h_19 (p.add 7) (.bool x_Yes) fun h_20=>St h_20 (p.add 8) (.slice x_Entries.a x_Entries.n x_Entries.c) fun h_21=>Ld (.int .i64) h_21 p fun(r_0:Int)=>Ld (.int .i64) h_21 (p.add 1) fun(r_1:Int)=>Ld (.int .i64) h_21 (p.add 2) fun(r_2:Int)=>Ld (.int .i64) h_21 (p.add 3) fun(r_3:Int)=>Ld (.int .i64) h_21 (p.add 4) fun(r_4:Int)=>Ld (.int .i64) h_21 (p.add 5) fun(r_5:Int)=>Ld (.int .i64) h_21 (p.add 6) fun(r_6:Int)=>Ld .bool h_21 (p.add 7) fun(r_7:Bool)=>Ld .sl h_21 (p.add 8) fun(r_8:Sl)=>R (r_0,r_1,r_2,r_3,r_4,r_5,r_6,r_7,r_8,()) 12 h_21 else Ld (.int .i64) h_12 m fun(x_Kind1:Int)=>Ld (.int .i64) h_12 (m.add 1) fun(x_From1:Int)=>Ld (.int .i64) h_12 (m.add 2) fun(x_To1:Int)=>Ld (.int .i64) h_12 (m.add 3) fun(x_Term1:Int)=>Ld (.int .i64) h_12 (m.add 4) fun(x_Index1:Int)=>Ld (.int .i64) h_12 (m.add 5) fun(x_LogTerm1:Int)=>Ld (.int .i64) h_12 (m.add 6) fun(x_Commit1:Int)=>Ld .bool h_12 (m.add 7) fun(x_Yes1:Bool)=>Ld .sl h_12 (m.add 8) fun(x_Entries1:Sl)=>St h_12 p (.int .i64 x_Kind1) fun h_22=>St h_22 (p.add 1) (.int .i64 x_From1) fun h_23=>St h_23 (p.add 2) (.int .i64 x_To1) fun h_24=>St h_24 (p.add 3) (.int .i64 x_Term1) fun h_25=>St h_25 (p.add 4) (.int .i64 x_Index1) fun h_26=>St h_26 (p.add 5) (.int .i64 x_LogTerm1) fun h_27=>St h_27 (p.add 6) (.int .i64 x_Commit1) fun h_28=>St h_28 (p.add 7) (.bool x_Yes1) fun h_29=>St h_29 (p.add 8) (.slice x_Entries1.a x_Entries1.n x_Entries1.c) fun h_30=>Ld (.int .i64) h_30 p fun(r_01:Int)=>Ld (.int .i64) h_30 (p.add 1) fun(r_11:Int)=>Ld (.int .i64) h_30 (p.add 2) fun(r_21:Int)=>Ld (.int .i64) h_30 (p.add 3) fun(r_31:Int)=>Ld (.int .i64) h_30 (p.add 4) fun(r_41:Int)=>Ld (.int .i64) h_30 (p.add 5) fun(r_51:Int)=>Ld (.int .i64) h_30 (p.add 6) fun(r_61:Int)=>Ld .bool h_30 (p.add 7) fun(r_71:Bool)=>Ld .sl h_30 (p.add 8) fun(r_81:Sl)=>R (r_01,r_11,r_21,r_31,r_41,r_51,r_61,r_71,r_81,()) r1 h_30) else Ld (.int .i64) h_11 m fun(x_Kind2:Int)=>Ld (.int .i64) h_11 (m.add 1) fun(x_From2:Int)=>Ld (.int .i64) h_11 (m.add 2) fun(x_To2:Int)=>Ld (.int .i64) h_11 (m.add 3) fun(x_Term2:Int)=>Ld (.int .i64) h_11 (m.add 4) fun(x_Index2:Int)=>Ld (.int .i64) h_11 (m.add 5) fun(x_LogTerm2:Int)=>Ld (.int .i64) h_11 (m.add 6) fun(x_Commit2:Int)=>Ld .bool h_11 (m.add 7) fun(x_Yes2:Bool)=>Ld .sl h_11 (m.add 8) fun(x_Entries2:Sl)=>St h_11 p (.int .i64 x_Kind2) fun h_31=>St h_31 (p.add 1) (.int .i64 x_From2) fun h_32=>St h_32 (p.add 2) (.int .i64 x_To2) fun h_33=>St h_33 (p.add 3) (.int .i64 x_Term2) fun h_34=>St h_34 (p.add 4) (.int .i64 x_Index2) fun h_35=>St h_35 (p.add 5) (.int .i64 x_LogTerm2) fun h_36=>St h_36 (p.add 6) (.int .i64 x_Commit2) fun h_37=>St h_37 (p.add 7) (.bool x_Yes2) fun h_38=>St h_38 (p.add 8) (.slice x_Entries2.a x_Entries2.n x_Entries2.c) fun h_39=>Ld (.int .i64) h_39 p fun(r_02:Int)=>Ld (.int .i64) h_39 (p.add 1) fun(r_12:Int)=>Ld (.int .i64) h_39 (p.add 2) fun(r_22:Int)=>Ld (.int .i64) h_39 (p.add 3) fun(r_32:Int)=>Ld (.int .i64) h_39 (p.add 4) fun(r_42:Int)=>Ld (.int .i64) h_39 (p.add 5) fun(r_52:Int)=>Ld (.int .i64) h_39 (p.add 6) fun(r_62:Int)=>Ld .bool h_39 (p.add 7) fun(r_72:Bool)=>Ld .sl h_39 (p.add 8) fun(r_82:Sl)=>R (r_02,r_12,r_22,r_32,r_42,r_52,r_62,r_72,r_82,()) r1 h_39)
theorem QhR{g:Option Addr}{at_:Int}{h:Heap}{R:KL [.int .i64,.int .i64,.int .i64,.int .i64,.int .i64,.int .i64,.int .i64,.bool,.sl]->Int->Heap->Prop}(hs:Qej g at_ h R):QcF g at_ h R:=useG_SZ (an:= []) Tryz.func53 (by kernel_rfl) (by kernel_rfl) hs
def Qds(x:Option Addr)(fv:Addr)(h:Heap)(R:Int->Heap->Prop):Prop:=Ld (.int .i64) h fv fun(x_Kind:Int)=>Ld (.int .i64) h (fv.add 1) fun(x_From:Int)=>Ld (.int .i64) h (fv.add 2) fun(x_To:Int)=>Ld (.int .i64) h (fv.add 3) fun(x_Term:Int)=>Ld (.int .i64) h (fv.add 4) fun(x_Index:Int)=>Ld (.int .i64) h (fv.add 5) fun(x_LogTerm:Int)=>Ld (.int .i64) h (fv.add 6) fun(x_Commit:Int)=>Ld .bool h (fv.add 7) fun(x_Yes:Bool)=>Ld .sl h (fv.add 8) fun(x_Entries:Sl)=>Qch x (x_Kind,x_From,x_To,x_Term,x_Index,x_LogTerm,x_Commit,x_Yes,x_Entries,()) h fun h_=>R 0 h_
theorem QgB{x:Option Addr}{fv:Addr}{h:Heap}{R:Int->Heap->Prop}(hs:Qds x fv h R):QdD x (some fv) h R:=Qbb (an:= []) Tryz.func54 (by kernel_rfl) (by kernel_rfl) hs
def Qe1(g:Option Addr)(i:Int)(h:Heap)(R:Int->Heap->Prop):Prop:=Nn g fun p=>Ld .sl h p fun(l:Sl)=>Ix l i 2 fun e=>Ld .ptr h (e.add 1) fun(node:Option Addr)=>Qep node h fun(r:KL [.bool,.int .i64,.int .i64,.int .i64,.sl]) (r1:Bool) h_=>QaG h_ (.cells #[.bool false,.int .i64 0,.int .i64 0,.int .i64 0,.slice none 0 0] 123) fun s h_1=>St h_1 s (.bool r.1) fun h_2=>St h_2 (s.add 1) (.int .i64 r.2.1) fun h_3=>St h_3 (s.add 2) (.int .i64 r.2.2.1) fun h_4=>St h_4 (s.add 3) (.int .i64 r.2.2.2.1) fun h_5=>St h_5 (s.add 4) (.slice r.2.2.2.2.1.a r.2.2.2.2.1.n r.2.2.2.2.1.c) fun h_6=>(bif !r1 then R 0 h_6 else Nn g fun p1=>Ld .sl h_6 p1 fun(l1:Sl)=>Ix l1 i 2 fun e1=>Ld .ptr h_6 e1 fun(disk:Option Addr)=>Ld .bool h_6 s fun(x_Hard:Bool)=>Ld (.int .i64) h_6 (s.add 1) fun(x_Term:Int)=>Ld (.int .i64) h_6 (s.add 2) fun(x_Vote:Int)=>Ld (.int .i64) h_6 (s.add 3) fun(x_From:Int)=>Ld .sl h_6 (s.add 4) fun(x_Entries:Sl)=>QhL disk (x_Hard,x_Term,x_Vote,x_From,x_Entries,()) h_6 fun(r2:Int) h_7=>R r2 h_7)
theorem QiX{g:Option Addr}{i:Int}{h:Heap}{R:Int->Heap->Prop}(hs:Qe1 g i h R):QaZ g i h R:=Qbb (an:= []) Tryz.func56 (by kernel_rfl) (by kernel_rfl) hs
def Qbw(s:Sl)(h:Heap)(R:Sl->Heap->Prop):Prop:=(bif s.a.isNone then R ⟨none,0,0⟩ h else QaG h (.cells #[] 59) fun b h_=>App Tryz.prog 54 54 ⟨some b,0,0⟩ s h_ fun s1 h_1=>R s1 h_1)
theorem QcP{s:Sl}{h:Heap}{R:Sl->Heap->Prop}(hs:Qbw s h R):Qby s h R:=Qbb (an:= []) Tryz.func66 (by kernel_rfl) (by kernel_rfl) hs
def QcR(n:Option Addr)(x:KL [.int .i64,.int .i64,.int .i64,.int .i64,.int .i64,.int .i64,.int .i64,.bool,.sl])(h:Heap)(R:Int->Heap->Prop):Prop:=QaG h (.cells #[.int .i64 x.1,.int .i64 x.2.1,.int .i64 x.2.2.1,.int .i64 x.2.2.2.1,.int .i64 x.2.2.2.2.1,.int .i64 x.2.2.2.2.2.1,.int .i64 x.2.2.2.2.2.2.1,.bool x.2.2.2.2.2.2.2.1,.slice x.2.2.2.2.2.2.2.2.1.a x.2.2.2.2.2.2.2.2.1.n x.2.2.2.2.2.2.2.2.1.c] 59) fun x1 h_=>(bif n.isNone then R 1 h_ else Nn n fun p=>Ld .sl h_ p fun(l:Sl)=>(bif decide ((l.n:Int)>=512) then R 7 h_ else Nn n fun p1=>Ld .sl h_ p1 fun(l1:Sl)=>Ld (.int .i64) h_ x1 fun(x_Kind:Int)=>Ld (.int .i64) h_ (x1.add 1) fun(x_From:Int)=>Ld (.int .i64) h_ (x1.add 2) fun(x_To:Int)=>Ld (.int .i64) h_ (x1.add 3) fun(x_Term:Int)=>Ld (.int .i64) h_ (x1.add 4) fun(x_Index:Int)=>Ld (.int .i64) h_ (x1.add 5) fun(x_LogTerm:Int)=>Ld (.int .i64) h_ (x1.add 6) fun(x_Commit:Int)=>Ld .bool h_ (x1.add 7) fun(x_Yes:Bool)=>Ld .sl h_ (x1.add 8) fun(x_Entries:Sl)=>QaG h_ (.cells #[.int .i64 x_Kind,.int .i64 x_From,.int .i64 x_To,.int .i64 x_Term,.int .i64 x_Index,.int .i64 x_LogTerm,.int .i64 x_Commit,.bool x_Yes,.slice x_Entries.a x_Entries.n x_Entries.c] 59) fun b h_1=>(Ld .sl h_1 p1 fun(l2:Sl)=>(.slice l2.a l2.n l2.c:Value)= .slice l1.a l1.n l1.c)/\App Tryz.prog 54 54 l1 ⟨some b,1,1⟩ h_1 fun s h_2=>Nn n fun p2=>St h_2 p2 (.slice s.a s.n s.c) fun h_3=>R 0 h_3))
theorem Qfd{n:Option Addr}{x:KL [.int .i64,.int .i64,.int .i64,.int .i64,.int .i64,.int .i64,.int .i64,.bool,.sl]}{h:Heap}{R:Int->Heap->Prop}(hs:QcR n x h R):QaB n x h R:=Qbb (an:= []) Tryz.func69 (by kernel_rfl) (by kernel_rfl) hs
def Qdj(n:Option Addr)(i:Int)(h:Heap)(R:Int->Heap->Prop):Prop:=(bif n.isNone then R 1 h else(bif decide (i<0) then R 6 h else Nn n fun p=>Ld .sl h p fun(l:Sl)=>(bif decide (i>=(l.n:Int)) then R 6 h else R 0 h)))
theorem Qgb{n:Option Addr}{i:Int}{h:Heap}{R:Int->Heap->Prop}(hs:Qdj n i h R):Qbz n i h R:=Qbb (an:= []) Tryz.func74 (by kernel_rfl) (by kernel_rfl) hs
def Qbp(s:Sl)(i:Int)(j:Int)(h:Heap)(R:Sl->Heap->Prop):Prop:=Cut Tryz.prog 54 s (some (.int .i64 i)) (some (.int .i64 j)) (some (.int .i64 (s.n:Int))) fun s1=>(bif i==j then R s h else Let ((s.n:Int):Int) fun oldlen=>Cut Tryz.prog 54 s none (some (.int .i64 i)) none fun s2=>Cut Tryz.prog 54 s (some (.int .i64 j)) none none fun s3=>App Tryz.prog 54 54 s2 s3 h fun s4 h_=>Cut Tryz.prog 54 s4 (some (.int .i64 (s4.n:Int))) (some (.int .i64 oldlen)) none fun s5=>OpT Tryz.prog (Builtin.clear_ #[54] 0 #[.slice s5.a s5.n s5.c]) h_ [] fun h_1=>R s4 h_1)
theorem QcG{s:Sl}{i:Int}{j:Int}{h:Heap}{R:Sl->Heap->Prop}(hs:Qbp s i j h R):QaY s i j h R:=Qbb (an:= []) Tryz.func75 (by kernel_rfl) (by kernel_rfl) hs
end
section
open Go
theorem ZMS:ZeroT Tryz.prog 59 [.int .i64 0,.int .i64 0,.int .i64 0,.int .i64 0,.int .i64 0,.int .i64 0,.int .i64 0,.bool false,.slice none 0 0]:=⟨by kernel_rfl⟩
section
variable {h0 h:Heap}{L G:List Res}
theorem ld9B{b:Nat}{t:TypeId}{m:RM}{sm:Sl}{K:Int->Int->Int->Int->Int->Int->Int->Bool->Sl->Prop}(H:At h0 h L)(i:Nat)(hi:L[i]? =some (.blk b t (mcS m sm)))(hK:K m.kind m.from_ m.to m.term m.index m.logTerm m.commit m.yes sm):
  Ld (.int .i64) h (⟨b,0,none⟩:Addr) fun(a0:Int)=>Ld (.int .i64) h ((⟨b,0,none⟩:Addr).add 1) fun(a1:Int)=>Ld (.int .i64) h ((⟨b,0,none⟩:Addr).add 2) fun(a2:Int)=>Ld (.int .i64) h ((⟨b,0,none⟩:Addr).add 3) fun(a3:Int)=>Ld (.int .i64) h ((⟨b,0,none⟩:Addr).add 4) fun(a4:Int)=>Ld (.int .i64) h ((⟨b,0,none⟩:Addr).add 5) fun(a5:Int)=>Ld (.int .i64) h ((⟨b,0,none⟩:Addr).add 6) fun(a6:Int)=>Ld .bool h ((⟨b,0,none⟩:Addr).add 7) fun(a7:Bool)=>Ld .sl h ((⟨b,0,none⟩:Addr).add 8) fun(a8:Sl)=>K a0 a1 a2 a3 a4 a5 a6 a7 a8:=
 Qac H i hi m.kind rfl (Qap (j:=1) H i hi m.from_ rfl (Qap (j:=2) H i hi m.to rfl (Qap (j:=3) H i hi m.term rfl (Qap (j:=4) H i hi m.index rfl (Qap (j:=5) H i hi m.logTerm rfl (Qap (j:=6) H i hi m.commit rfl (Qap (j:=7) H i hi m.yes rfl (Qap (j:=8) H i hi sm rfl hK))))))))
theorem ld9E{z:List (RM×Sl)}{s:Sl}{k:Nat}{e:Addr}{K:Int->Int->Int->Int->Int->Int->Int->Bool->Sl->Prop}(H:At h0 h L)(i:Nat)(hi:L[i]? =some (.own s 9 (eMS.fl z)))(he:ElAt s 9 k e)(hk:k<z.length)
  (hK:K z[k].1.kind z[k].1.from_ z[k].1.to z[k].1.term z[k].1.index z[k].1.logTerm z[k].1.commit z[k].1.yes z[k].2):
  Ld (.int .i64) h e fun(a0:Int)=>Ld (.int .i64) h (e.add 1) fun(a1:Int)=>Ld (.int .i64) h (e.add 2) fun(a2:Int)=>Ld (.int .i64) h (e.add 3) fun(a3:Int)=>Ld (.int .i64) h (e.add 4) fun(a4:Int)=>Ld (.int .i64) h (e.add 5) fun(a5:Int)=>Ld (.int .i64) h (e.add 6) fun(a6:Int)=>Ld .bool h (e.add 7) fun(a7:Bool)=>Ld .sl h (e.add 8) fun(a8:Sl)=>K a0 a1 a2 a3 a4 a5 a6 a7 a8:=
 ldEl0 (E:=eMS) H i hi he hk z[k].1.kind rfl (ldEl (E:=eMS) (j:=1) H i hi he hk z[k].1.from_ rfl (ldEl (E:=eMS) (j:=2) H i hi he hk z[k].1.to rfl (ldEl (E:=eMS) (j:=3) H i hi he hk z[k].1.term rfl (ldEl (E:=eMS) (j:=4) H i hi he hk z[k].1.index rfl (ldEl (E:=eMS) (j:=5) H i hi he hk z[k].1.logTerm rfl (ldEl (E:=eMS) (j:=6) H i hi he hk z[k].1.commit rfl (ldEl (E:=eMS) (j:=7) H i hi he hk z[k].1.yes rfl (ldEl (E:=eMS) (j:=8) H i hi he hk z[k].2 rfl hK))))))))
theorem st9B{b:Nat}{t:TypeId}{m m':RM}{sm sm':Sl}{K:Heap->Prop}(H:At h0 h (.blk b t (mcS m' sm')::L))(hK:∀h',At h0 h' (.blk b t (mcS m sm)::L)->K h'):
  St h (⟨b,0,none⟩:Addr) (.int .i64 m.kind) fun h1=>St h1 ((⟨b,0,none⟩:Addr).add 1) (.int .i64 m.from_) fun h2=>St h2 ((⟨b,0,none⟩:Addr).add 2) (.int .i64 m.to) fun h3=>St h3 ((⟨b,0,none⟩:Addr).add 3) (.int .i64 m.term) fun h4=>St h4 ((⟨b,0,none⟩:Addr).add 4) (.int .i64 m.index) fun h5=>St h5 ((⟨b,0,none⟩:Addr).add 5) (.int .i64 m.logTerm) fun h6=>St h6 ((⟨b,0,none⟩:Addr).add 6) (.int .i64 m.commit) fun h7=>St h7 ((⟨b,0,none⟩:Addr).add 7) (.bool m.yes) fun h8=>St h8 ((⟨b,0,none⟩:Addr).add 8) (.slice sm.a sm.n sm.c) K:=by
 refine Qas H 0 rfl rfl fun h1 H=>Qa3 (j:=1) H 0 rfl rfl fun h2 H=>Qa3 (j:=2) H 0 rfl rfl fun h3 H=>Qa3 (j:=3) H 0 rfl rfl fun h4 H=>Qa3 (j:=4) H 0 rfl rfl fun h5 H=>Qa3 (j:=5) H 0 rfl rfl fun h6 H=>Qa3 (j:=6) H 0 rfl rfl fun h7 H=>Qa3 (j:=7) H 0 rfl rfl fun h8 H=>Qa3 (j:=8) H 0 rfl rfl fun h9 H=>hK h9 H
def m0:RM:=⟨0,0,0,0,0,0,0,false,[]⟩
variable {nb:Nat}{tn:TypeId}{sn:Sl}{z:List (RM×Sl)}{m:RM}{sm:Sl}
theorem net_New_ok{R:Option Addr->Heap->Prop}(H:At h0 h L)(hR:∀h' nb,At h0 h' (.blk nb 86 [.slice none 0 0]:: .own ⟨none,0,0⟩ 9 (eMS.fl [])::L)->R (some ⟨nb,0,none⟩) h'):QcB h R:=by
 refine QhN ?_
 unfold Qef
 exact Qaj (cs:= [.slice none 0 0]) (H.nil 9) fun h b H=>hR h b H
theorem net_Len_ok{R:Int->Heap->Prop}(H:At h0 h (.blk nb tn [.slice sn.a sn.n sn.c]:: .own sn 9 (eMS.fl z)::G))(hR:R (z.length:Int) h):Qb1 (some ⟨nb,0,none⟩) h R:=by
 refine QfH ?_
 unfold Qc4
 have hn:=H.n (E:=eMS) 1 rfl
 refine brF (nn (Qac H 0 rfl sn rfl ?_))
 rw[hn];exact hR
theorem net_at_ok{i:Int}{R:Int->Heap->Prop}(H:At h0 h (.blk nb tn [.slice sn.a sn.n sn.c]:: .own sn 9 (eMS.fl z)::G))(h1:(i<0\/(z.length:Int)<=i)->R 6 h)(h2:0<=i->i<z.length->R 0 h):Qbz (some ⟨nb,0,none⟩) i h R:=by
 refine Qgb ?_
 unfold Qdj
 have hn:=H.n (E:=eMS) 1 rfl
 refine brF (brD (fun h3=>h1 (.inl h3)) fun h3=>nn (Qac H 0 rfl sn rfl (brD (fun h4=>h1 (.inr (by omega))) fun h4=>h2 (by omega) (by omega))))
theorem Qmh{R:Int->Heap->Prop}(H:At h0 h (.blk nb tn [.slice sn.a sn.n sn.c]:: .own sn 9 (eMS.fl z)::G))(h1:512<=z.length->∀h',At h0 h' (.blk nb tn [.slice sn.a sn.n sn.c]:: .own sn 9 (eMS.fl z)::G)->R 7 h')
  (h2:z.length<512->∀h' sn',At h0 h' (.blk nb tn [.slice sn'.a sn'.n sn'.c]:: .own sn' 9 (eMS.fl (z++ [(m,sm)]))::G)->R 0 h'):QaB (some ⟨nb,0,none⟩) (m.kind,m.from_,m.to,m.term,m.index,m.logTerm,m.commit,m.yes,sm,()) h R:=by
 refine Qfd ?_
 unfold QcR
 have hn:=H.n (E:=eMS) 1 rfl
 refine Qaj (cs:=mcS m sm) H fun h b H=>brF (nn (Qac H 1 rfl sn rfl (brD (fun h3=>h1 (by omega) _ H.tail) fun h3=>nn (Qac H 1 rfl sn rfl ?_))))
 refine ld9B (m:=m) (sm:=sm) H 0 rfl ?_
 refine Qaj (cs:=mcS m sm) H fun h b2 H=>⟨Qac H 2 rfl sn rfl rfl, ?_⟩
 refine app1B (E:=eMS) TMS H 3 rfl 0 rfl (m,sm) rfl (by omega) (by omega) fun s3 h H=>nn ?_
 refine Qas H 2 rfl rfl fun h H=> ?_
 exact h2 (by omega) _ s3 H.tail.tail
theorem Delete_ms_ok{s:Sl}{i j:Int}{L:List Res}{l:List (RM×Sl)}{R:Sl->Heap->Prop}(H:At h0 h L)(n:Nat)(hn:L[n]? =some (.own s 9 (eMS.fl l)))(k:Nat)(hi:i=(k:Int))(hj:j=((k+1:Nat):Int))(hk:k<l.length)(hlen:l.length<=1000000)
  (hR:∀s' h',At h0 h' (L.set n (.own s' 9 (eMS.fl (l.take k++l.drop (k+1)))))->R s' h'):QaY s i j h R:=by
 refine QcG ?_
 unfold Qbp
 have ho:=H.own n hn
 have hsn:=H.n n hn
 have hsc:=ho.2.1
 refine cutR (E:=eMS) TMS ho.rd k (k+1) s.n (loi hi) (hii hj) (.inr ⟨hii rfl,by simp⟩) (by omega) (by omega) (by omega) hsc fun s1 _ _ _ _=> ?_
 refine brN (by simp;omega) (QbF ?_)
 refine cutRO (E:=eMS) TMS ho 0 k s.c lo0 (hii hi) (.inl ⟨rfl,rfl⟩) (by omega) (by omega) (by omega) (Nat.le_refl _) fun s2 o2 n2 c2 b2=> ?_
 refine cutR (E:=eMS) TMS ho.rd (k+1) s.n s.c (loi hj) (hi0 _) (.inl ⟨rfl,rfl⟩) (by omega) (by omega) hsc (Nat.le_refl _) fun s3 r3 n3 c3 b3=> ?_
 rw[List.drop_zero,Nat.sub_zero] at o2
 rw[List.take_of_length_le (by rw[List.length_drop];omega)] at r3
 refine app_room TMS o2 r3 (eMS.fl_ones _) (by omega) (by omega) (by omega) fun h2 o4 u4 z4=> ?_
 rw[<-Enc.fl_app] at o4
 refine cutClr TMS ZMS rfl o4 s.n (loi rfl) (hii rfl) (by show s2.n+s3.n<=_;omega) (by show s.n<=s2.c;omega) fun h3 o5 u5 z5=> ?_
 refine hR _ h3 (H.turn n hn (r':= .own ⟨s2.a,s2.n+s3.n,s2.c⟩ 9 (eMS.fl (l.take k++l.drop (k+1)))) (u4.trans u5 (fun g _ hg=>by rw[Res.fp,<-b2];exact hg) (fun g _ hg=>by rw[Res.fp,<-b2];exact hg)) o5 fun g hg=> .inl (by rw[Res.fp,<-b2];exact hg))
theorem QiG{i:Int}{R:KL [.int .i64,.int .i64,.int .i64,.int .i64,.int .i64,.int .i64,.int .i64,.bool,.sl]->Int->Heap->Prop}(H:At h0 h (.blk nb tn [.slice sn.a sn.n sn.c]:: .own sn 9 (eMS.fl z)::G))(hl:z.length<=1000)
  (h1:(i<0\/(z.length:Int)<=i)->∀h',At h0 h' (.blk nb tn [.slice sn.a sn.n sn.c]:: .own sn 9 (eMS.fl z)::G)->R (0,0,0,0,0,0,0,false,⟨none,0,0⟩,()) 6 h')
  (h2:∀k:Nat,i=k->(hk:k<z.length)->∀h' sn',At h0 h' (.blk nb tn [.slice sn'.a sn'.n sn'.c]:: .own sn' 9 (eMS.fl (z.eraseIdx k))::G)->R (z[k].1.kind,z[k].1.from_,z[k].1.to,z[k].1.term,z[k].1.index,z[k].1.logTerm,z[k].1.commit,z[k].1.yes,z[k].2,()) 0 h'):
  QaJ (some ⟨nb,0,none⟩) i h R:=by
 refine Qfc ?_
 unfold QcQ
 refine Qaj (cs:=mcS m0 ⟨none,0,0⟩) H fun h p H=> ?_
 refine Qaj (cs:=mcS m0 ⟨none,0,0⟩) H fun h x H=> ?_
 refine net_at_ok (H.mv 2 2) (fun hb=> ?_) fun hb1 hb2=> ?_
 ·refine brY rfl ?_
  refine ld9B (m:=m0) (sm:=⟨none,0,0⟩) H 0 rfl ?_
  refine st9B (m:=m0) (sm:=⟨none,0,0⟩) (H.mv 1 1) fun h H=> ?_
  refine ld9B (m:=m0) (sm:=⟨none,0,0⟩) H 0 rfl ?_
  exact h1 hb _ H.tail.tail
 ·refine brN rfl (nn (Qac H 2 rfl sn rfl ?_))
  obtain⟨k,rfl⟩:∃k:Nat,i=k:=⟨i.toNat,by omega⟩
  have hk:k<z.length:=by omega
  refine ixAt H 3 rfl k rfl hk fun e he=> ?_
  refine ld9E H 3 rfl he hk ?_
  refine st9B (m:=z[k].1) (sm:=z[k].2) H fun h H=>nn (Qac H 2 rfl sn rfl ?_)
  rw[w64 (by omega) (by omega)]
  refine Delete_ms_ok H 3 rfl k rfl rfl hk (by omega) fun s' h H=>nn ?_
  refine Qas H 2 rfl rfl fun h H=> ?_
  refine ld9B (m:=z[k].1) (sm:=z[k].2) H 0 rfl ?_
  refine st9B (m:=z[k].1) (sm:=z[k].2) (H.mv 1 1) fun h H=> ?_
  refine ld9B (m:=z[k].1) (sm:=z[k].2) H 0 rfl ?_
  refine h2 k rfl hk _ s' ?_
  rw[List.eraseIdx_eq_take_drop_succ]
  exact H.tail.tail
theorem net_Double_ok{i:Int}{R:Int->Heap->Prop}(H:At h0 h (.blk nb tn [.slice sn.a sn.n sn.c]:: .own sn 9 (eMS.fl z)::G))(h1:(i<0\/(z.length:Int)<=i)->R 6 h)
  (h2:∀k:Nat,i=k->(hk:k<z.length)->512<=z.length->∀h',At h0 h' (.blk nb tn [.slice sn.a sn.n sn.c]:: .own sn 9 (eMS.fl z)::G)->R 7 h')
  (h3:∀k:Nat,i=k->(hk:k<z.length)->z.length<512->∀h' sn',At h0 h' (.blk nb tn [.slice sn'.a sn'.n sn'.c]:: .own sn' 9 (eMS.fl (z++ [z[k]]))::G)->R 0 h'):QaQ (some ⟨nb,0,none⟩) i h R:=by
 refine QeH ?_
 unfold Qcr
 refine net_at_ok H (fun hb=>brY rfl (h1 hb)) fun hb1 hb2=>brN rfl (nn (Qac H 0 rfl sn rfl ?_))
 obtain⟨k,rfl⟩:∃k:Nat,i=k:=⟨i.toNat,by omega⟩
 have hk:k<z.length:=by omega
 refine ixAt H 1 rfl k rfl hk fun e he=> ?_
 refine ld9E H 1 rfl he hk ?_
 exact Qmh (m:=z[k].1) (sm:=z[k].2) H (fun hf h' H=>h2 k rfl hk hf h' H) fun hf h' sn' H=>h3 k rfl hk hf h' sn' H
theorem net_All_ok{R:Sl->Heap->Prop}(H:At h0 h (.blk nb tn [.slice sn.a sn.n sn.c]:: .own sn 9 (eMS.fl z)::G))(hl:z.length<=1000)(hR:∀s' h',At h0 h' (.own s' 9 (eMS.fl z):: .blk nb tn [.slice sn.a sn.n sn.c]:: .own sn 9 (eMS.fl z)::G)->R s' h'):Qb2 (some ⟨nb,0,none⟩) h R:=by
 refine QfI ?_
 unfold Qc5
 refine brF (nn (Qac H 0 rfl sn rfl ?_))
 refine QcP ?_
 unfold Qbw
 have A:=H.rdo 1 rfl
 have H0:=At.start h
 refine brB (fun ha=> ?_) fun ha=> ?_
 ·have hl0:z= []:=by
   apply List.eq_nil_of_length_eq_zero
   apply Nat.eq_zero_of_not_pos
   intro hp
   obtain⟨g,o,hs,_⟩:=A.2 (by rw[eMS.fl_len];omega)
   rw[hs] at ha;cases ha
  subst hl0
  exact hR _ _ (H.nil 9)
 ·refine Qaj (cs:= []) H0 fun h1 b H1=> ?_
  have H2:=H1.as_ 0 rfl (.own ⟨some ⟨b,0,none⟩,0,0⟩ 9 (eMS.fl [])) (Own.full (H1.get 0 rfl:Blk h1 b _ []) (sz:=9) (n:=0) rfl (by decide)) (fun g hg=>by have hg:some b=some g:=hg;injection hg with hg;exact hg.symm)
  refine appAt (ys:=z) TMS H2 0 rfl (H2.arg A) (by simp;omega) (by simp;omega) fun s' h' H3=> ?_
  rw[List.nil_append] at H3
  exact hR s' h' (H.join H3)
end
section
variable {h0 hB h:Heap}{F:List Res}{d:Nat}{ty:TypeId}{s sd:Sl}{b:List UInt8}{n:Nat}{es:List Ent}
theorem hard_WriteG{a:Bool}{t v f:Int}{R:Int->Heap->Prop}(H:At h0 hB (Qb9 d ty sd b n++F))(hr:RdS hB 2 s (eEN.fl es))(hl:es.length<=1000000)(hok:∀r∈Qnc ⟨a,t,v,f,es⟩,r.ok)(hsz:b.length<=1048576)
  (hR:∀h' s',At h0 h' (Qb9 d ty s' (wrM b (Qnc ⟨a,t,v,f,es⟩)).1 n++F)->R (if(wrM b (Qnc ⟨a,t,v,f,es⟩)).2=true then 0 else 7) h'):QhL (some ⟨d,0,none⟩) (a,t,v,f,s,()) hB R:=by
 refine A_hard_Write ?_
 unfold Qk4
 refine alloc fun h1 b1 e1 z1=>ldB b1 a rfl (ldF b1 t rfl (ldF b1 v rfl (ldF b1 f rfl (ldF b1 s rfl ?_))))
 refine Qmr (hr.ext' e1) hl fun out bs h2 w hcp hbs e2=> ?_
 have hbl:bs.length=(Qnc ⟨a,t,v,f,es⟩).length:=by rw[<-hbs,List.length_map]
 have hrl:=savR_len ⟨a,t,v,f,es⟩
 have hrl:(Qnc ⟨a,t,v,f,es⟩).length<=es.length+1:=hrl
 generalize Qnc ⟨a,t,v,f,es⟩=rs at*
 have hn:=rdn w.1
 have H:=((H.ext' e1).newW e2 w).mv 1 2
 refine Qhl (s1:= .one (.int .i64)) (fun(x:Int) h3=>∃(k:Nat) (s':Sl) (b':List UInt8),x=k/\k<=bs.length/\wrM b rs=wrM b' (rs.drop k)/\b'.length<=1048576/\At h0 h3 (Qb9 d ty s' b' n++(resW out bs::F))) (fun(x:Int) _=>(bs.length -x).toNat)
  ⟨0,sd,b,rfl,Nat.zero_le _,rfl,hsz,H⟩ fun _ (x:Int) h3 hI=> ?_
 obtain⟨k,s',b',rfl,hk,hwr,hb',H⟩:=hI
 rw[hwr] at hR
 refine brD (fun hc=> ?_) fun hc=> ?_
 ·have hk2:k<bs.length:=by omega
  have hk3:k<rs.length:=by omega
  have hge:rs[k]=⟨bs[k].kind,bs[k].xs⟩:=by
   have:(bs.map BR.rec_)[k]? =rs[k]? :=by rw[hbs]
   rw[List.getElem?_map,List.getElem?_eq_getElem hk2,List.getElem?_eq_getElem hk3] at this
   exact(Option.some.inj this).symm
  have hokk:WRec.ok ⟨bs[k].kind,bs[k].xs⟩:=by rw[<-hge];exact hok _ (List.getElem_mem hk3)
  have hdr:rs.drop k=⟨bs[k].kind,bs[k].xs⟩::rs.drop (k+1):=by rw[<-hge];exact List.drop_eq_getElem_cons hk3
  rw[hdr,wrM] at hR hwr
  have w3:RdS h3 2 out (eBR.fl bs)/\∀a∈bs,RdS h3 1 a.s (cB a.xs):=H.get 2 rfl
  refine ixR w3.1 k rfl hk2 fun e he=>ldR0 w3.1 he hk2 ((bs[k].kind.toNat:Nat):Int) rfl (ldR w3.1 he hk2 bs[k].s rfl ?_)
  repeat (first|with_reducible refine nn ?_|with_reducible refine QbF ?_|with_reducible refine QaA ?_|with_reducible refine brF ?_|with_reducible refine brT ?_|((with_reducible apply Qap H 0);exact rfl;exact rfl)|((with_reducible apply Qac H 0);exact rfl;exact rfl)|((with_reducible apply Qa3 H 0);exact rfl;exact rfl;intro h H)|((with_reducible apply Qas H 0);exact rfl;exact rfl;intro h H)|((with_reducible apply Qaj H);intro h b H)|((with_reducible refine⟨?_, ?_⟩);first|((with_reducible apply Qap H 0);exact rfl;exact rfl;exact rfl)|((with_reducible apply Qac H 0);exact rfl;exact rfl;exact rfl)))
  have H:=H.tail
  have w4:RdS _ 2 out (eBR.fl bs)/\∀a∈bs,RdS _ 1 a.s (cB a.xs):=H.get 2 rfl
  refine Qog H (w4.2 _ (List.getElem_mem hk2)) hb' (fun hno=>absurd hokk hno) (fun _ hf h5 H=> ?_) fun _ hf h5 s5 H=>brN rfl ?_
  ·rw[if_pos hf] at hR
   exact brY rfl (hR h5 s' (H.del 2))
  ·rw[if_neg (by omega)] at hR hwr
   rw[w64 (by omega) (by omega)]
   exact⟨⟨k+1,s5,_,by omega,by omega,hwr,by rw[List.length_append];omega,H⟩,by omega⟩
 ·have hkl:k=rs.length:=by omega
  subst hkl
  rw[List.drop_length,wrM] at hR
  exact hR h3 s' (H.del 2)
end
theorem fl_toE(l:List RE):eRE.fl l=eEN.fl (l.map toE):=by
 unfold Enc.fl
 rw[List.flatMap_map]
 rfl
end
end Go.Proofs.YtniojdaddolnfaaGreat
