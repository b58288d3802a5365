/-
  Several of the proof's texts in one, squeezed: a claim may have 1,500,000 bytes.
-/
import Derived.Test.YtniojdaddolnfaaGreatZa
import Derived.Test.YtniojdaddolnfaaGreatProg
set_option linter.unusedVariables false
set_option linter.unusedSimpArgs false
namespace Go.Proofs.YtniojdaddolnfaaGreat
section
def GH.setV(g:GH)(i:Nat)(T c:Int):GH:={g with V:=fun v t=>if v=i/\t=T then c else g.V v t}
def GH.setC(g:GH)(i:Nat)(T:Int)(l:List RE):GH:={g with cl:=fun t c=>if t=T/\c=i then some l else g.cl t c}
def GH.setL(g:GH)(i:Nat)(T:Int)(l:List RE):GH:={g with ll:=fun t=>if t=T then l else g.ll t,ld:=fun t=>if t=T then(i:Int) else g.ld t}
def GH.setA(g:GH)(i:Nat)(T:Int)(n:Nat):GH:={g with ack:=fun v t=>if v=i/\t=T then max (g.ack v t) n else g.ack v t}
section
variable {k:Nat}{g:GH}{T c:Int}{i n:Nat}{l:List RE}
theorem Qor(h:g.V i T= -1\/g.V i T=c):GBy i g (g.setV i T c):=by
 refine⟨⟨fun v t=> ?_,fun _=>List.prefix_refl _,fun _ _=>rfl,fun _ _=>Nat.le_refl _,fun _ _ _ _ _=>rfl,fun _ _ _ x=>x⟩,fun v hv=> ?_,fun _ _=>rfl,fun _ _ _=>rfl,fun _=> .inl ⟨rfl,rfl⟩,.inl rfl⟩
 ·show _\/(if v=i/\t=T then c else g.V v t)=_
  by_cases e:v=i/\t=T
  ·rw[if_pos e,e.1,e.2]
   exact h.imp id Eq.symm
  ·rw[if_neg e];exact .inr rfl
 ·funext t
  show(if v=i/\t=T then c else g.V v t)=_
  rw[if_neg fun x=>hv x.1]
theorem setC_by(h:g.cl T i=none\/g.cl T i=some l):GBy i g (g.setC i T l):=by
 refine⟨⟨fun _ _=> .inr rfl,fun _=>List.prefix_refl _,fun _ _=>rfl,fun _ _=>Nat.le_refl _,fun _ _ _ _ _=>rfl,fun t c l' hl=> ?_⟩,fun _ _=>rfl,fun _ _=>rfl,fun t v hv=> ?_,fun _=> .inl ⟨rfl,rfl⟩,.inl rfl⟩
 ·show(if t=T/\c=i then some l else g.cl t c)=_
  by_cases e:t=T/\c=i
  ·rw[if_pos e]
   rw[e.1,e.2] at hl
   rcases h with h|h
   ·rw[h] at hl;cases hl
   ·rw[<-h];exact hl
  ·rw[if_neg e];exact hl
 ·show(if t=T/\(v:Int)=i then some l else g.cl t v)=_
  rw[if_neg fun x=>hv (by omega)]
theorem setL_le(h:g.ll T<+:l)(hd:g.ll T≠ []->g.ld T=i):GLe g (g.setL i T l):=by
 refine⟨fun _ _=> .inr rfl,fun t=> ?_,fun t ht=> ?_,fun _ _=>Nat.le_refl _,fun _ _ _ _ _=>rfl,fun _ _ _ x=>x⟩
 ·show _<+:if t=T then l else g.ll t
  by_cases e:t=T
  ·rw[if_pos e,e];exact h
  ·rw[if_neg e];exact List.prefix_refl _
 ·show(if t=T then(i:Int) else g.ld t)=_
  by_cases e:t=T
  ·rw[if_pos e,e];rw[e] at ht;exact(hd ht).symm
  ·rw[if_neg e]
theorem setL_by(h:g.ll T<+:l)(hd:g.ll T≠ []->g.ld T=i)(ha:LAdd g (g.setL i T l)):GBy i g (g.setL i T l):=by
 refine⟨⟨fun _ _=> .inr rfl,fun t=> ?_,fun t ht=> ?_,fun _ _=>Nat.le_refl _,fun _ _ _ _ _=>rfl,fun _ _ _ x=>x⟩,fun _ _=>rfl,fun _ _=>rfl,fun _ _ _=>rfl,fun t=> ?_,ha⟩
 ·show _<+:if t=T then l else g.ll t
  by_cases e:t=T
  ·rw[if_pos e,e];exact h
  ·rw[if_neg e];exact List.prefix_refl _
 ·show(if t=T then(i:Int) else g.ld t)=_
  by_cases e:t=T
  ·rw[if_pos e,e];rw[e] at ht;exact(hd ht).symm
  ·rw[if_neg e]
 ·show((if t=T then l else g.ll t)=_/\(if t=T then(i:Int) else g.ld t)=_)\/(if t=T then(i:Int) else g.ld t)=i
  by_cases e:t=T
  ·rw[if_pos e];exact .inr (by rw[if_pos e])
  ·rw[if_neg e,if_neg e];exact .inl ⟨rfl,rfl⟩
theorem setA_by(h:∀u,T<u->g.V i u= -1):GBy i g (g.setA i T n):=by
 refine⟨⟨fun _ _=> .inr rfl,fun _=>List.prefix_refl _,fun _ _=>rfl,fun v t=> ?_,fun v t u hu htu=> ?_,fun _ _ _ x=>x⟩,fun _ _=>rfl,fun v hv=> ?_,fun _ _ _=>rfl,fun _=> .inl ⟨rfl,rfl⟩,.inl rfl⟩
 ·show _<=if v=i/\t=T then max (g.ack v t) n else g.ack v t
  split<;>omega
 ·show(if v=i/\t=T then max (g.ack v t) n else g.ack v t)=_
  rw[if_neg fun e=>hu (by rw[e.1];exact h u (by omega))]
 ·funext t
  show(if v=i/\t=T then max (g.ack v t) n else g.ack v t)=_
  rw[if_neg fun x=>hv x.1]
theorem setV_gi(I:GI k g)(h:g.V i T= -1\/g.V i T=c):GI k (g.setV i T c):=⟨fun t ht=>(I.L t ht).grow I (Qor h).toGLe rfl rfl,I.A,I.D⟩
theorem setC_gi(I:GI k g)(h:g.cl T i=none\/g.cl T i=some l):GI k (g.setC i T l):=⟨fun t ht=>(I.L t ht).grow I (setC_by h).toGLe rfl rfl,I.A,I.D⟩
theorem setA_gi(I:GI k g)(h:∀u,T<u->g.V i u= -1)(hn:n<=(g.ll T).length):GI k (g.setA i T n):=
 ⟨fun t ht=>(I.L t ht).grow I (setA_by h).toGLe rfl rfl,fun v t=>by
  show(if v=i/\t=T then max (g.ack v t) n else g.ack v t)<=(g.ll t).length
  have:=I.A v t
  split
  ·rename_i e;rw[e.2] at this⊢;omega
  ·exact this,I.D⟩
theorem Qdb(g:GH)(i:Nat)(T:Int)(l:List RE):(g.setL i T l).ll T=l:=if_pos rfl
theorem Qhd(g:GH)(i:Nat)(T:Int)(l:List RE):(g.setL i T l).ld T=i:=if_pos rfl
theorem Qos(I:GI k g){e:RE}(h:LM g l)(hp:g.ll T<+:l++ [e])(hd:g.ll T≠ []->g.ld T=i)(he:e.term=T):LM (g.setL i T (l++ [e])) (l++ [e]):=fun j hj=>by
 rw[List.length_append,List.length_singleton] at hj
 by_cases hl:j<l.length
 ·rw[List.getElem_append_left hl,List.take_append_of_le_length (by omega)]
  exact(h.grow (setL_le hp hd)) j hl
 ·have:j=l.length:=by omega
  subst this
  rw[List.getElem_append_right (by omega)]
  simp only[Nat.sub_self,List.getElem_cons_zero]
  rw[he,Qdb]
  exact QbT _ _
theorem Qji{e:RE}(h:Mono l)(ht:Ter l T)(he:e.term=T):Mono (l++ [e]):=by
 refine List.pairwise_append.2 ⟨h,List.pairwise_singleton ..,fun a ha b hb=> ?_⟩
 rw[List.mem_singleton.1 hb,he]
 exact(ht a ha).2
theorem Qls{e:RE}(ht:Ter l T)(he:e.term=T)(h1:1<=T):Ter (l++ [e]) T:=fun x hx=>by
 rcases List.mem_append.1 hx with hx|hx
 ·exact ht x hx
 ·rw[List.mem_singleton.1 hx,he];omega
theorem setL_d(I:GI k g){e:RE}(h:∀x∈l,x.data.size<=100)(hs:e.data.size<=100):∀t,∀x∈(g.setL i T (l++ [e])).ll t,x.data.size<=100:=fun t x hx=>by
 have hx:x∈(if t=T then l++ [e] else g.ll t):=hx
 split at hx
 ·rcases List.mem_append.1 hx with hx|hx
  ·exact h x hx
  ·rw[List.mem_singleton.1 hx];exact hs
 ·exact I.D t x hx
theorem LM.d(I:GI k g)(h:LM g l):∀x∈l,x.data.size<=100:=fun x hx=>by
 have hl:0<l.length:=List.length_pos_of_mem hx
 exact I.D _ x ((h.last hl).subset hx)
theorem setL_new(I:GI k g){e:RE}(h0:g.ll T= [])(hi:i<k)(hc:g.cl T i=some l)(hlm:LM g l)(hm:Mono l)(ht:Ter l (T -1))(h1:1<=T)(he:e.term=T)(hq:Maj k fun v=>g.V v T=i/\Rec g T i v)(hs:e.data.size<=100):GI k (g.setL i T (l++ [e])):=by
 have hp:g.ll T<+:l++ [e]:=by rw[h0];exact List.nil_prefix
 have hd:g.ll T≠ []->g.ld T=i:=fun x=>absurd h0 x
 have G:=(setL_le hp hd)
 refine⟨fun t htne=> ?_,fun v t=>Nat.le_trans (I.A v t) (Qbf (G.ll t)),setL_d I (hlm.d I) hs⟩
 by_cases e1:t=T
 ·subst e1
  refine⟨by rw[Qdb];exact Qos I hlm hp hd he,by rw[Qdb];exact Qji hm (ht.up (by omega)) he,by rw[Qdb];exact Qls (ht.up (by omega)) he h1,h1,by rw[Qhd];omega, ?_, ?_⟩
  ·rw[Qdb,Qhd]
   refine⟨l,e,hc,he,List.prefix_refl _,ht,fun x hx=> ?_⟩
   rw[List.drop_left] at hx
   rw[List.mem_singleton.1 hx];exact he
  ·rw[Qhd]
   exact hq.mono fun v _ hv=>⟨hv.1,hv.2.grow I G (by rw[hv.1];omega)⟩
 ·have e2:(g.setL i T (l++ [e])).ll t=g.ll t:=if_neg e1
  rw[e2] at htne
  exact(I.L t htne).grow I G e2 (if_neg e1)
theorem setL_add(I:GI k g){e:RE}(h0:g.ll T=l)(hne:l≠ [])(hd:g.ld T=i)(he:e.term=T)(hs:e.data.size<=100):GI k (g.setL i T (l++ [e])):=by
 have hp:g.ll T<+:l++ [e]:=by rw[h0];exact List.prefix_append _ _
 have hd':g.ll T≠ []->g.ld T=i:=fun _=>hd
 have G:=(setL_le hp hd')
 refine⟨fun t htne=> ?_,fun v t=>Nat.le_trans (I.A v t) (Qbf (G.ll t)),setL_d I (by rw[<-h0];exact I.D T) hs⟩
 by_cases e1:t=T
 ·subst e1
  have L:=I.L t (by rw[h0];exact hne)
  have hlm:=L.lm
  have hm:=L.mono
  have ht:=L.ter
  rw[h0] at hlm hm ht
  refine⟨by rw[Qdb];exact Qos I hlm hp hd' he,by rw[Qdb];exact Qji hm ht he,by rw[Qdb];exact Qls ht he L.t1,L.t1,by rw[Qhd,<-hd];exact L.who, ?_, ?_⟩
  ·rw[Qdb,Qhd]
   obtain⟨b,e0,h2,h3,h4,h5,h6⟩:=L.base
   rw[h0] at h4 h6
   refine⟨b,e0,by rw[<-hd];exact h2,h3,h4.trans (List.prefix_append _ _),h5,fun x hx=> ?_⟩
   have hb:=Qbf h4
   rw[List.length_append,List.length_singleton] at hb
   rw[List.drop_append_of_le_length (by omega)] at hx
   rcases List.mem_append.1 hx with hx|hx
   ·exact h6 x hx
   ·rw[List.mem_singleton.1 hx];exact he
  ·rw[Qhd,<-hd]
   have hw:=L.who
   exact L.maj.mono fun v _ hv=>⟨hv.1,hv.2.grow I G (by rw[hv.1];omega)⟩
 ·have e2:(g.setL i T (l++ [e])).ll t=g.ll t:=if_neg e1
  rw[e2] at htne
  exact(I.L t htne).grow I G e2 (if_neg e1)
end
def bitsQ(v n:Nat):Nat:=(List.range n).countP fun(t:Nat)=>v.testBit t
theorem QnM:∀x:Fin 128,QoF 7 x.val=bitsQ x.val 7:=by decide+kernel
theorem countP_le{q:Nat->Bool}{n:Nat}:∀m,n<=m->(∀t,t<m->q t=true->t<n)->(List.range m).countP q=(List.range n).countP q
 |0,h,_=>by rw[show n=0 by omega]
 |m+1,h,hq=>by
  by_cases e:n=m+1
  ·rw[e]
  ·rw[List.range_succ,List.countP_append,countP_le m (by omega) (fun t ht h2=>hq t (by omega) h2),List.countP_singleton,if_neg fun x=>by have:=hq m (by omega) x;omega]
   rfl
theorem maj_bits{X:RN}{v k:Nat}{Q:Nat->Prop}(hm:QaF X v)(hn:X.n=k)(hk:k<=7)(hv:v<128)(hq:∀t,v.testBit t=true->t<k/\Q t):Maj k Q:=by
 refine⟨fun t=>v.testBit t,fun t ht=>hq t ht, ?_⟩
 have e:=QnM ⟨v,hv⟩
 simp only at e
 unfold QaF at hm
 rw[e] at hm
 unfold bitsQ at hm
 rw[countP_le (n:=k) 7 hk (fun t _ ht=>(hq t ht).1),hn] at hm
 show k<2*(List.range k).countP fun t=>v.testBit t
 have hm:2*(((List.range k).countP fun t=>v.testBit t:Nat):Int)>(k:Int):=hm
 omega
theorem filter_countP(q:Nat->Bool)(l:List Nat):(l.filter q).length=l.countP q:=(List.countP_eq_length_filter).symm
theorem maj_cnt{X:RN}{k:Nat}{i:Int}(hm:2*(Qj1 X i:Int)>X.n)(hn:X.n=k):Maj k fun t=>(t:Int)=X.id\/X.matc t>=i:=by
 refine⟨fun(t:Nat)=>decide (t<k)&&decide ((t:Int)=X.id\/X.matc t>=i),fun t ht=> ?_, ?_⟩
 ·rw[Bool.and_eq_true,decide_eq_true_iff,decide_eq_true_iff] at ht;exact ht
 ·unfold Qj1 at hm
  rw[filter_countP,hn,Int.toNat_natCast] at hm
  have:(List.range k).countP (fun(t:Nat)=>decide (t<k)&&decide ((t:Int)=X.id\/X.matc t>=i))=(List.range k).countP (fun(t:Nat)=>decide ((t:Int)=X.id\/X.matc t>=i)):=by
   refine List.countP_congr fun t ht=> ?_
   rw[Bool.and_eq_true,decide_eq_true_iff]
   exact⟨fun x=>x.2,fun x=>⟨List.mem_range.1 ht,x⟩⟩
  rw[this]
  omega
end
section
def Qfk:Int->List RE->Bool
 |_,[]=>false
 |t,e::l=>if e.term<t then true else Qfk e.term l
def Qbi:List RE->List RE->Nat
 |x::xs,y::ys=>if x.term=y.term then Qbi xs ys+1 else 0
 |_,_=>0
def Qc8(es:List RE)(index term:Int)(ys:List RE):List RE×Int×Int:=
 if(QaH es index).2=false then(es,0,6)
 else if(QaH es index).1≠term then(es,0,8)
 else if Qfk term ys then(es,0,5)
 else if Qbi (es.drop index.toNat) ys=ys.length then(es,0,0)
 else if index+ys.length>1024 then(es,0,7)
 else(es.take (index.toNat+Qbi (es.drop index.toNat) ys)++ys.drop (Qbi (es.drop index.toNat) ys),index+Qbi (es.drop index.toNat) ys+1,0)
def Qag(X:RN)(m:RM):RN:={Qai X X.term m.from_ with since:=0}
def QbD(X:RN)(m:RM):RN:=
 if(Qc8 X.log m.index m.logTerm m.ents).2.1>0 then QaN {X with log:=(Qc8 X.log m.index m.logTerm m.ents).1} (Qc8 X.log m.index m.logTerm m.ents).2.1 else{X with log:=(Qc8 X.log m.index m.logTerm m.ents).1}
def QaV(X:RN)(m:RM):RN:=
 if X.role=3 then X
 else if m.index<X.commit then Qib (Qag X m) m.from_ true X.commit
 else if(Qc8 X.log m.index m.logTerm m.ents).2.2≠0 then Qib (Qag X m) m.from_ false (mx (mn (X.log.length:Int) (m.index -1)) 0)
 else Qib {QbD (Qag X m) m with commit:=mx X.commit (mn m.commit (m.index+m.ents.length))} m.from_ true (m.index+m.ents.length)
def Qaa(X:RN)(m:RM):RN:=
 if ¬QaR X m then X
 else if m.kind=1 then QiB X m else if m.kind=2 then QaS X m
 else if m.term<(Qab X m).term then(if m.kind=5 then Qib (Qab X m) m.from_ false 0 else Qab X m)
 else if m.kind=3 then Qbg (Qab X m) m else if m.kind=4 then Qar (Qab X m) m else if m.kind=5 then QaV (Qab X m) m else QaC (Qab X m) m
theorem QfR:∀(xs ys:List RE),Qbi xs ys<=xs.length/\Qbi xs ys<=ys.length
 | [],ys=>by rw[show Qbi [] ys=0 from by cases ys<;>rfl];exact⟨Nat.zero_le _,Nat.zero_le _⟩
 |x::xs,[]=>⟨Nat.zero_le _,Nat.zero_le _⟩
 |x::xs,y::ys=>by
  have ih:=QfR xs ys
  unfold Qbi
  split<;>simp only[List.length_cons]<;>omega
theorem knownR_eq:∀(xs ys:List RE) (q:Nat),q<Qbi xs ys->∃a b,xs[q]? =some a/\ys[q]? =some b/\a.term=b.term
 | [],ys,q,h=>by rw[show Qbi [] ys=0 from by cases ys<;>rfl] at h;omega
 |x::xs,[],q,h=>by have:Qbi (x::xs) []=0:=rfl;omega
 |x::xs,y::ys,q,h=>by
  unfold Qbi at h
  split at h
  ·rename_i e
   cases q with
   |zero=>exact⟨x,y,rfl,rfl,e⟩
   |succ q=>exact knownR_eq xs ys q (by omega)
  ·omega
theorem Qjn:∀(xs ys:List RE),Qbi xs ys<xs.length->Qbi xs ys<ys.length->∃a b,xs[Qbi xs ys]? =some a/\ys[Qbi xs ys]? =some b/\a.term≠b.term
 | [],ys,h,_=>by simp at h
 |x::xs,[],_,h=>by simp at h
 |x::xs,y::ys,h1,h2=>by
  unfold Qbi at h1 h2⊢
  split
  ·rename_i e
   rw[if_pos e] at h1 h2
   simp only[List.length_cons] at h1 h2
   have:=Qjn xs ys (by omega) (by omega)
   simpa using this
  ·rename_i e
   exact⟨x,y,rfl,rfl,e⟩
structure SI(k:Nat)(g:GH)(i:Nat)(X:RN):Prop where
 ni:NI k g i X
 out:∀m∈X.out,MI k g m
def Does(k:Nat)(g:GH)(i:Nat)(Y:RN):Prop:=∃g',GBy i g g'/\GI k g'/\SI k g' i Y
section
variable {k:Nat}{g:GH}{i:Nat}{X Y:RN}{m:RM}
theorem Does.same(I:GI k g)(h:SI k g i Y):Does k g i Y:=⟨g,GBy.refl i g,I,h⟩
theorem Does.bind{Z:RN}(h:∃g',GBy i g g'/\GI k g'/\SI k g' i Y/\g'.ll=g.ll)(hz:∀g',GI k g'->SI k g' i Y->Does k g' i Z):Does k g i Z:=by
 obtain⟨g1,a,b,c,hs⟩:=h
 obtain⟨g2,d,e,f⟩:=hz g1 b c
 exact⟨g2,a.trans d (.inl hs),e,f⟩
theorem SI.like(h:SI k g i X)(h1:Y.term=X.term)(h2:Y.vote=X.vote)(h3:Y.log=X.log)(h4:Y.id=X.id)(h5:Y.n=X.n)(h6:Y.commit=X.commit)(h7:Y.role=X.role\/(Y.role≠2/\Y.role≠3))(h8:Y.votes=X.votes)(h9:Y.matc=X.matc)(h10:Y.next=X.next)(h11:Y.out=X.out):SI k g i Y:=
 ⟨h.ni.like h1 h2 h3 h4 h5 h6 h7 h8 h9 h10,by rw[h11];exact h.out⟩
theorem SI.withOut(h:SI k g i X)(h1:Y.term=X.term)(h2:Y.vote=X.vote)(h3:Y.log=X.log)(h4:Y.id=X.id)(h5:Y.n=X.n)(h6:Y.commit=X.commit)(h7:Y.role=X.role)(h8:Y.votes=X.votes)(h9:Y.matc=X.matc)(h10:Y.next=X.next){ms:List RM}(h11:Y.out=X.out++ms)(hm:∀m∈ms,MI k g m):SI k g i Y:=
 ⟨h.ni.like h1 h2 h3 h4 h5 h6 (.inl h7) h8 h9 h10,by
  rw[h11]
  intro m hmm
  rcases List.mem_append.1 hmm with hmm|hmm
  ·exact h.out m hmm
  ·exact hm m hmm⟩
theorem SI.send(h:SI k g i X){to:Int}{m:RM}(hm:MI k g {m with from_:=X.id,to:=to}):SI k g i (Ql8 X to m):=
 h.withOut rfl rfl rfl rfl rfl rfl rfl rfl rfl rfl (ms:= [{m with from_:=X.id,to:=to}]) rfl fun x hx=>by rw[List.mem_singleton.1 hx];exact hm
theorem SI.all(h:SI k g i X){m:RM}(hm:∀t:Nat,MI k g {m with from_:=X.id,to:=(t:Int)}):SI k g i (rAll X m):=
 h.withOut rfl rfl rfl rfl rfl rfl rfl rfl rfl rfl (ms:=(Qax X X.n.toNat).map fun(t:Nat)=>{m with from_:=X.id,to:=(t:Int)}) rfl fun x hx=>by
  obtain⟨t,_,rfl⟩:=List.mem_map.1 hx
  exact hm t
theorem DI.up{T T' vt vt':Int}{l:List RE}(h:DI g i T vt l)(hT:T<T'):DI g i T' vt' l:=
 ⟨h.lm,h.mono,h.ter.up (by omega),h.kp.up (by omega),fun t ht=>h.futV t (by omega),fun t ht=>h.futC t (by omega),fun t ht=>h.futA t (by omega),fun t ht=>h.futL t (by omega),.inl (h.futV T' hT),by have:=h.t0;omega,by rw[h.futA T' hT,List.take_zero];exact List.nil_prefix⟩
theorem SI.follow(h:SI k g i X){t l:Int}:SI k g i (Qai X t l):=by
 unfold Qai
 split
 ·rename_i ht
  refine⟨⟨h.ni.d.up ht,h.ni.d.futV t ht,h.ni.id,h.ni.n,h.ni.ik,h.ni.k7,Int.le_refl _,h.ni.vb,h.ni.c0,h.ni.c1, ?_,(fun e=>absurd e (by decide:¬(0:Int)=2)),(fun e=>absurd e (by decide:¬(0:Int)=3))⟩,h.out⟩
  exact h.ni.com.sub (List.prefix_refl _) (Int.le_of_lt ht)
 ·exact h.like rfl rfl rfl rfl rfl rfl (.inr ⟨(by decide:¬(0:Int)=2),(by decide:¬(0:Int)=3)⟩) rfl rfl rfl rfl
theorem mi_none{m:RM}(h:m.kind=1\/m.kind=2\/(m.kind=4/\m.yes=false)\/(m.kind=6/\m.yes=false)):MI k g m:=
 ⟨fun e=>by omega,fun e y=>by rcases h with h|h|h|h<;>first|omega|(rw[h.2] at y;cases y),fun e=>by omega,fun e y=>by rcases h with h|h|h|h<;>first|omega|(rw[h.2] at y;cases y)⟩
theorem fromL_pre(es:List RE){a:Int}(h:0<=a)(n:Int):Qgr es (a+1) n<+:es.drop a.toNat:=by
 unfold Qgr
 have:(if 1>a+1 then 1 else a+1).toNat -1=a.toNat:=by split<;>omega
 rw[this]
 exact QbT _ _
theorem Lead.msg(h:NI k g i X)(hl:Lead k g i X){t:Nat}(ht:t<k)(hti:t≠i):MI k g (Qbk X t):=by
 have hn:=hl.nx t ht hti
 refine⟨fun e=>absurd e (by decide:¬(5:Int)=3),fun e=>absurd e (by decide:¬(5:Int)=4),fun _=> ?_,fun e=>absurd e (by decide:¬(5:Int)=6)⟩
 show g.ll X.term≠ []/\g.ld X.term=X.id/\0<=X.next t -1/\X.next t -1<=(g.ll X.term).length/\(QaH X.log (X.next t -1)).1=(QaH (g.ll X.term) (X.next t -1)).1/\Qgr X.log (X.next t -1+1) 8<+:(g.ll X.term).drop (X.next t -1).toNat/\X.commit<=(g.ll X.term).length/\Cm k g X.term ((g.ll X.term).take X.commit.toNat)
 rw[hl.ll]
 exact⟨hl.ne,by rw[hl.ld,h.id],by omega,by omega,rfl,fromL_pre _ (by omega) _,h.c1,h.com⟩
theorem Qcl{n:Nat}{t:Nat}(h:t∈Qax X n):t<n/\(t:Int)≠X.id:=by
 unfold Qax at h
 rw[List.mem_filter,decide_eq_true_iff] at h
 exact⟨List.mem_range.1 h.1,h.2⟩
theorem SI.toAll(h:SI k g i X)(hr:X.role=3):SI k g i (Qa4 X):=
 h.withOut rfl rfl rfl rfl rfl rfl rfl rfl rfl rfl (ms:=(Qax X X.n.toNat).map (Qbk X)) rfl fun x hx=>by
  obtain⟨t,ht,rfl⟩:=List.mem_map.1 hx
  have hm:=Qcl ht
  rw[h.ni.id] at hm
  exact(h.ni.lead hr).msg h.ni (by have:=h.ni.n;omega) (by omega)
theorem SI.to(h:SI k g i X)(hr:X.role=3){t:Nat}(ht:t<k)(hti:t≠i):SI k g i (rTo X t):=
 h.withOut rfl rfl rfl rfl rfl rfl rfl rfl rfl rfl (ms:= [Qbk X t]) rfl fun x hx=>by
  rw[List.mem_singleton.1 hx]
  exact(h.ni.lead hr).msg h.ni ht hti
theorem Qee{X:RN}:∀{j c:Nat},Qba X j=some c->1<=c/\c<=j/\X.commit<c/\(QaH X.log (c:Int)).1=X.term/\2*(Qj1 X (c:Int):Int)>X.n
 |0,c,h=>by cases h
 |j+1,c,h=>by
  have e:Qba X (j+1)=if((j+1:Nat):Int)<=X.commit then none else if(QaH X.log ((j+1:Nat):Int)).1≠X.term then none else if 2*(Qj1 X ((j+1:Nat):Int):Int)>X.n then some (j+1) else Qba X j:=rfl
  rw[e] at h
  split at h
  ·cases h
  ·rename_i h1
   split at h
   ·cases h
   ·rename_i h2
    split at h
    ·rename_i h3
     injection h with h
     subst h
     exact⟨by omega,Nat.le_refl _,by omega,Decidable.not_not.1 h2,h3⟩
    ·obtain⟨a,b,c,d,e⟩:=Qee h
     exact⟨a,by omega,c,d,e⟩
theorem SI.agree(h:SI k g i X)(hr:X.role=3):SI k g i (Qaf X):=by
 unfold Qaf
 split
 ·exact h
 ·rename_i c hc
  obtain⟨h1,h2,h3,h4,h5⟩:=Qee hc
  have L:=h.ni.lead hr
  have hcom:Com k g X.term c:=by
   refine⟨⟨h1, ?_⟩,(maj_cnt h5 h.ni.n).mono fun v hv hq=> ?_⟩
   ·rw[L.ll,List.getElem?_eq_getElem (by omega)]
    refine⟨_,rfl, ?_⟩
    rw[<-h4]
    unfold QaH
    rw[if_neg (by omega),if_neg (by omega),Int.toNat_natCast,List.getElem?_eq_getElem (by omega)]
    rfl
   ·by_cases e:v=i
    ·subst e;have:=L.me;omega
    ·rcases hq with hq|hq
     ·rw[h.ni.id] at hq;omega
     ·have:=L.mt v hv e;omega
  refine SI.toAll (X:={X with commit:=(c:Int)}) ⟨⟨h.ni.d,h.ni.v,h.ni.id,h.ni.n,h.ni.ik,h.ni.k7,h.ni.v0,h.ni.vb,by show(0:Int)<=c;omega,by show(c:Int)<=X.log.length;omega, ?_,fun e=>absurd (hr.symm.trans e) (by decide),fun _=>⟨L.ll,L.ne,L.ld,L.mt,L.me,L.nx⟩⟩,h.out⟩ hr
  refine .inr ⟨X.term,c,Int.le_refl _,hcom, ?_⟩
  rw[L.ll]
  exact List.prefix_refl _
theorem Qan(X:RN):(Qaf X).term=X.term/\(Qaf X).role=X.role/\(Qaf X).log=X.log/\(Qaf X).vote=X.vote/\(Qaf X).hard=X.hard/\(Qaf X).from_=X.from_/\(Qaf X).next=X.next/\(Qaf X).matc=X.matc:=by
 unfold Qaf
 split<;>exact⟨rfl,rfl,rfl,rfl,rfl,rfl,rfl,rfl⟩
theorem Kp.ack{T:Int}{l:List RE}{n:Nat}(h:Kp g i T l)(hn:(g.ll T).take n<+:l)(hl:n<=(g.ll T).length):Kp (g.setA i T n) i T l:=fun t j hj ho=>by
 have ho:Ow g t j:=ho
 have hj:j<=if i=i/\t=T then max (g.ack i t) n else g.ack i t:=hj
 have old:j<=g.ack i t->(g.ll t).take j<+:l\/∃u,u<=T/\Bd (g.setA i T n) t j u:=fun h1=>h t j h1 ho
 by_cases e:t=T
 ·subst e
  rw[if_pos ⟨rfl,rfl⟩] at hj
  by_cases h1:j<=g.ack i t
  ·exact old h1
  ·exact .inl ((Qhi (by omega)).trans hn)
 ·rw[if_neg fun x=>e x.2] at hj
  exact old hj
theorem Qce{l:List RE}{T:Int}(h:Ter l T)(h0:0<=T):Qa9 l<=T:=by
 rcases Nat.eq_zero_or_pos l.length with e|e
 ·rw[List.eq_nil_of_length_eq_zero e];exact h0
 ·rw[QfQ e];exact(h _ (List.getElem_mem _)).2
theorem add_core(I:GI k g){l:List RE}{e:RE}(I':GI k (g.setL i X.term (l++ [e])))(h:NI k g i X)(hll:g.ll X.term<+:l++ [e])(hd:g.ll X.term≠ []->g.ld X.term=i)(hX:X.log=l)(he:e.term=X.term)(h1:1<=X.term)(hl:g.ll X.term=l\/(g.ll X.term= []/\∀x∈l,x.term≠X.term)):
  GBy i g ((g.setL i X.term (l++ [e])).setA i X.term (l.length+1))/\GI k ((g.setL i X.term (l++ [e])).setA i X.term (l.length+1))/\DI ((g.setL i X.term (l++ [e])).setA i X.term (l.length+1)) i X.term X.vote (l++ [e]):=by
 have G1:=setL_by hll hd (.inr ⟨X.term,l,e,he,by rw[<-hX];exact h.d.lm,hl,rfl⟩)
 have hf:∀u,X.term<u->(g.setL i X.term (l++ [e])).V i u= -1:=fun u hu=>h.d.futV u hu
 have hlen:l.length+1<=((g.setL i X.term (l++ [e])).ll X.term).length:=by rw[Qdb,List.length_append,List.length_singleton];exact Nat.le_refl _
 have G2:=setA_by (n:=l.length+1) hf
 refine⟨G1.trans G2 (.inr rfl),setA_gi I' hf hlen, ?_⟩
 have d:=h.d
 rw[hX] at d
 refine⟨(Qos I d.lm hll hd he).grow G2.toGLe,Qji d.mono d.ter he,Qls d.ter he h1, ?_,d.futV,d.futC,fun t ht=> ?_,fun t ht hne=> ?_,d.vot,d.t0,by show((g.setL i X.term (l++ [e])).ll X.term).take _<+:_;rw[Qdb];exact QbT _ _⟩
 ·refine Kp.ack (((d.kp.grow I G1.toGLe fun _=>rfl)).more (List.prefix_append _ _)) ?_ hlen
  rw[Qdb]
  exact QbT _ _
 ·show(if i=i/\t=X.term then _ else g.ack i t)=0
  rw[if_neg (by omega)]
  exact d.futA t ht
 ·have hne:(if t=X.term then l++ [e] else g.ll t)≠ []:=hne
  show(if t=X.term then(i:Int) else g.ld t)≠i
  rw[if_neg (by omega)] at hne⊢
  exact d.futL t ht hne
theorem SI.grow{g':GH}(I:GI k g)(G:GBy i g g')(hn:NI k g' i Y)(h:SI k g i X)(ho:Y.out=X.out):SI k g' i Y:=⟨hn,by rw[ho];exact fun m hm=>(h.out m hm).grow I G.toGLe⟩
theorem does_add(I:GI k g)(h:SI k g i X)(hr:X.role=3){data:ByteArray}(hs:data.size<=100):Does k g i (Qc7 X data).1:=by
 unfold Qc7
 have L:=h.ni.lead hr
 split
 ·exact .same I h
 split
 ·exact .same I h
 ·have h1:=(I.L X.term (by rw[L.ll];exact L.ne)).t1
  have I1:GI k (g.setL i X.term (X.log++ [⟨X.term,data⟩])):=setL_add I L.ll L.ne L.ld rfl hs
  obtain⟨G,I2,d⟩:=add_core (e:=⟨X.term,data⟩) I I1 h.ni (by rw[L.ll];exact List.prefix_append _ _) (fun _=>L.ld) rfl rfl h1 (.inl L.ll)
  refine⟨_,G,I2, ?_⟩
  generalize hg:(g.setL i X.term (X.log++ [⟨X.term,data⟩])).setA i X.term (X.log.length+1)=g' at G I2 d⊢
  have hll:g'.ll X.term=X.log++ [⟨X.term,data⟩]:=by rw[<-hg];exact Qdb g i X.term _
  have hld:g'.ld X.term=i:=by rw[<-hg];exact Qhd g i X.term (X.log++ [⟨X.term,data⟩])
  have hack:X.log.length+1<=g'.ack i X.term:=by
   rw[<-hg]
   show _<=if i=i/\X.term=X.term then max _ (X.log.length+1) else _
   rw[if_pos ⟨rfl,rfl⟩];omega
  have hV:g'.V i X.term=X.vote:=by rw[<-hg];exact h.ni.v
  refine SI.agree (SI.toAll ?_ hr) hr
  refine SI.like (X:={X with log:=X.log++ [⟨X.term,data⟩]}) ?_ rfl rfl rfl rfl rfl rfl (.inl rfl) rfl rfl rfl rfl
  refine SI.grow I G ⟨d,hV,h.ni.id,h.ni.n,h.ni.ik,h.ni.k7,h.ni.v0,h.ni.vb,h.ni.c0, ?_, ?_,fun e=>absurd (hr.symm.trans e) (by decide),fun _=>⟨hll,by simp,hld,fun v hv hvi=> ?_,by show(X.log++ [_]).length<=_;rw[List.length_append];exact hack,fun v hv hvi=> ?_⟩⟩ h rfl
  ·show X.commit<=(X.log++ [_]).length
   have:=h.ni.c1
   rw[List.length_append];omega
  ·show Cm k g' X.term ((X.log++ [_]).take X.commit.toNat)
   rw[List.take_append_of_le_length (by have:=h.ni.c1;omega)]
   exact h.ni.com.grow G.toGLe
  ·have:=L.mt v hv hvi
   have:=G.ack v X.term
   show 0<=X.matc v/\X.matc v<=g'.ack v X.term
   omega
  ·have:=L.nx v hv hvi
   show 1<=X.next v/\X.next v<=(X.log++ [_]).length+1
   rw[List.length_append];omega
theorem Cand.none(I:GI k g)(h:NI k g i X)(c:Cand k g i X){v:Nat}(hm:QaF X v)(hv:v<128)(hq:∀t,v.testBit t=true->t<k/\g.V t X.term=i/\(g.ll X.term= []->Rec g X.term i t)):g.ll X.term= []/\Maj k fun v=>g.V v X.term=i/\Rec g X.term i v:=by
 have q1:Maj k fun v=>g.V v X.term=i:=maj_bits hm h.n h.k7 hv fun t ht=>⟨(hq t ht).1,(hq t ht).2.1⟩
 have e:g.ll X.term= []:=Decidable.byContradiction fun hne=>by
  obtain⟨w,_,h1,h2⟩:=q1.meet (I.L X.term hne).maj
  exact c.no hne (by rw[<-h2.1];exact h1)
 exact⟨e,maj_bits hm h.n h.k7 hv fun t ht=>⟨(hq t ht).1,(hq t ht).2.1,(hq t ht).2.2 e⟩⟩
theorem QnW(I:GI k g)(h:SI k g i X)(hr:X.role=2){v:Nat}(hm:QaF X v)(hv:v<128)(hq:∀t,v.testBit t=true->t<k/\g.V t X.term=i/\(g.ll X.term= []->Rec g X.term i t)):Does k g i (Qbh X):=by
 have c:=h.ni.cand hr
 obtain⟨h0,hmaj⟩:=c.none I h.ni hm hv hq
 have hter:=Qce h.ni.d.ter h.ni.d.t0
 unfold Qbh
 have ea:Qc7 (Qay X) ⟨#[]⟩=if X.log.length>=1024 then(Qay X,7) else(Qaf (Qa4 (QaN {Qay X with log:=X.log++ [⟨X.term,⟨#[]⟩⟩]} ((X.log.length:Int)+1))),0):=by
  unfold Qc7
  rw[if_neg (show ¬(Qay X).term<Qa9 (Qay X).log from by show ¬X.term<Qa9 X.log;omega)]
  rfl
 rw[ea]
 by_cases hl:X.log.length>=1024
 ·rw[if_pos hl,if_pos (show(7:Int)≠0 by decide)]
  refine .same I ?_
  show SI k g i (Qai (Qay X) X.term (-1))
  unfold Qai
  rw[if_neg (by show ¬X.term>X.term;omega)]
  refine⟨⟨h.ni.d,h.ni.v,h.ni.id,h.ni.n,h.ni.ik,h.ni.k7,h.ni.v0,h.ni.vb,h.ni.c0,h.ni.c1,h.ni.com,(fun e=>absurd e (by decide:¬(0:Int)=2)),(fun e=>absurd e (by decide:¬(0:Int)=3))⟩,h.out⟩
 ·rw[if_neg hl,if_neg (show ¬(0:Int)≠0 by decide)]
  have I1:GI k (g.setL i X.term (X.log++ [⟨X.term,⟨#[]⟩⟩])):=setL_new I h0 h.ni.ik c.cl h.ni.d.lm h.ni.d.mono c.ter c.t1 rfl hmaj (show(0:Nat)<=100 from by decide)
  obtain⟨G,I2,d⟩:=add_core (e:=⟨X.term,⟨#[]⟩⟩) I I1 h.ni (by rw[h0];exact List.nil_prefix) (fun x=>absurd h0 x) rfl rfl c.t1 (.inr ⟨h0,fun x hx=>by have:=c.ter x hx;omega⟩)
  refine⟨_,G,I2, ?_⟩
  generalize hg:(g.setL i X.term (X.log++ [⟨X.term,⟨#[]⟩⟩])).setA i X.term (X.log.length+1)=g' at G I2 d⊢
  have hll:g'.ll X.term=X.log++ [⟨X.term,⟨#[]⟩⟩]:=by rw[<-hg];exact Qdb g i X.term _
  have hld:g'.ld X.term=i:=by rw[<-hg];exact Qhd g i X.term (X.log++ [⟨X.term,⟨#[]⟩⟩])
  have hack:X.log.length+1<=g'.ack i X.term:=by
   rw[<-hg]
   show _<=if i=i/\X.term=X.term then max _ (X.log.length+1) else _
   rw[if_pos ⟨rfl,rfl⟩];omega
  have hV:g'.V i X.term=X.vote:=by rw[<-hg];exact h.ni.v
  have hn:=h.ni.n
  refine SI.agree (SI.toAll ?_ rfl) rfl
  refine SI.like (X:={Qay X with log:=X.log++ [⟨X.term,⟨#[]⟩⟩]}) ?_ rfl rfl rfl rfl rfl rfl (.inl rfl) rfl rfl rfl rfl
  refine SI.grow I G ⟨d,hV,h.ni.id,h.ni.n,h.ni.ik,h.ni.k7,h.ni.v0,h.ni.vb,h.ni.c0, ?_, ?_,(fun e=>absurd e (by decide:¬(3:Int)=2)),fun _=>⟨hll,by simp,hld,fun v hv hvi=> ?_,by show(X.log++ [_]).length<=_;rw[List.length_append];exact hack,fun v hv hvi=> ?_⟩⟩ h rfl
  ·show X.commit<=(X.log++ [_]).length
   have:=h.ni.c1
   rw[List.length_append];omega
  ·show Cm k g' X.term ((X.log++ [_]).take X.commit.toNat)
   rw[List.take_append_of_le_length (by have:=h.ni.c1;omega)]
   exact h.ni.com.grow G.toGLe
  ·show 0<=(if(v:Int)<X.n then 0 else X.matc v)/\(if(v:Int)<X.n then 0 else X.matc v)<=(g'.ack v X.term:Int)
   rw[if_pos (by omega)];omega
  ·show 1<=(if(v:Int)<X.n then(X.log.length:Int)+1 else X.next v)/\(if(v:Int)<X.n then(X.log.length:Int)+1 else X.next v)<=(X.log++ [_]).length+1
   rw[if_pos (by omega),List.length_append];omega
theorem Qh9{i t:Nat}(h:(2^i).testBit t=true):t=i:=by
 rw[Nat.testBit_two_pow,decide_eq_true_iff] at h;exact h.symm
theorem does_stand0(I:GI k g)(h:SI k g i X):∃g',GBy i g g'/\GI k g'/\SI k g' i (QbB X)/\g'.ll=g.ll:=by
 have d:=h.ni.d
 have hlt:X.term<X.term+1:=by omega
 have hv1:g.V i (X.term+1)= -1\/g.V i (X.term+1)=(i:Int):= .inl (d.futV _ hlt)
 have G1:=Qor hv1
 have I1:=setV_gi I hv1
 have hc1:(g.setV i (X.term+1) i).cl (X.term+1) i=none\/(g.setV i (X.term+1) i).cl (X.term+1) i=some X.log:= .inl (d.futC _ hlt)
 have G2:=setC_by hc1
 have I2:=setC_gi I1 hc1
 have G:=G1.trans G2 (.inl rfl)
 refine⟨_,G,I2, ?_,rfl⟩
 generalize hg:(g.setV i (X.term+1) i).setC i (X.term+1) X.log=g' at G I2⊢
 have hV:∀t,g'.V i t=if t=X.term+1 then(i:Int) else g.V i t:=fun t=>by
  rw[<-hg]
  show(if i=i/\t=X.term+1 then(i:Int) else g.V i t)=_
  by_cases e:t=X.term+1
  ·rw[if_pos ⟨rfl,e⟩,if_pos e]
  ·rw[if_neg fun x=>e x.2,if_neg e]
 have hC:∀t,g'.cl t i=if t=X.term+1 then some X.log else g.cl t i:=fun t=>by
  rw[<-hg]
  show(if t=X.term+1/\(i:Int)=i then some X.log else g.cl t i)=_
  by_cases e:t=X.term+1
  ·rw[if_pos ⟨e,rfl⟩,if_pos e]
  ·rw[if_neg fun x=>e x.1,if_neg e]
 have eA:g'.ack=g.ack:=by rw[<-hg];rfl
 have eL:g'.ll=g.ll:=by rw[<-hg];rfl
 have eD:g'.ld=g.ld:=by rw[<-hg];rfl
 have hid:=h.ni.id
 have hd:DI g' i (X.term+1) X.id X.log:=by
  refine⟨d.lm.grow G.toGLe,d.mono,d.ter.up (by omega),(d.kp.grow I G.toGLe fun t=>by rw[eA]).up (by omega),fun t ht=> ?_,fun t ht=> ?_,fun t ht=>by rw[eA];exact d.futA t (by omega),fun t ht hne=>by rw[eD];rw[eL] at hne;exact d.futL t (by omega) hne,.inr (by rw[hV,if_pos rfl,hid]),by have:=d.t0;omega,by rw[eA,d.futA _ hlt,List.take_zero];exact List.nil_prefix⟩
  ·rw[hV,if_neg (by omega)];exact d.futV t (by omega)
  ·rw[hC,if_neg (by omega)];exact d.futC t (by omega)
 have hid:=h.ni.id
 have hik:=h.ni.ik
 have hk7:=h.ni.k7
 have hp:X.id.toNat=i:=by omega
 refine SI.grow I G ⟨hd,by show g'.V i (X.term+1)=X.id;rw[hV,if_pos rfl,hid],hid,h.ni.n,hik,h.ni.k7,by show -1<=X.id;omega,pow7 (by omega) (by omega),h.ni.c0,h.ni.c1, ?_,fun _=>⟨hid,by show g'.cl (X.term+1) i=some X.log;rw[hC,if_pos rfl], ?_,fun hne=> ?_,fun t ht=> ?_,by show 1<=X.term+1;have:=d.t0;omega⟩,(fun e=>absurd e (by decide:¬(2:Int)=3))⟩ h rfl
 ·exact(h.ni.com.grow G.toGLe).sub (List.prefix_refl _) (by show X.term<=X.term+1;omega)
 ·show Ter X.log (X.term+1 -1)
  rw[show X.term+1 -1=X.term by omega];exact d.ter
 ·have hne:g'.ll (X.term+1)≠ []:=hne
  show g'.ld (X.term+1)≠i
  rw[eD];rw[eL] at hne
  exact d.futL _ hlt hne
 ·have ht:(2^X.id.toNat).testBit t=true:=ht
  rw[hp] at ht
  have:=Qh9 ht
  subst this
  refine⟨hik,by show g'.V t (X.term+1)=_;rw[hV,if_pos rfl],fun _=>⟨X.log,X.log,by show g'.cl (X.term+1) t=_;rw[hC,if_pos rfl],hd.lm,d.mono,.inr ⟨rfl,Nat.le_refl _⟩,fun t0 j ht0 hj ho=> ?_⟩⟩
  have ht0:t0<X.term+1:=ht0
  rcases(d.kp.grow I G.toGLe fun t=>by rw[eA]) t0 j hj ho with h1|⟨u,h1,h2⟩
  ·exact .inl h1
  ·exact .inr ⟨u,by show u<X.term+1;omega,h2⟩
theorem Qmy(I:GI k g)(h:SI k g i X):Does k g i (QaU X):=by
 obtain⟨g1,G1,I1,h1,hs⟩:=does_stand0 I h
 refine Does.bind ⟨g1,G1,I1,h1,hs⟩ fun g2 I2 h2=> ?_
 have hid:=h.ni.id
 have hik:=h.ni.ik
 have hk7:=h.ni.k7
 unfold QaU
 split
 ·rename_i hm
  have c:=h2.ni.cand rfl
  exact QnW I2 h2 rfl (v:=2^X.id.toNat) hm (pow7 (by omega) (by omega)) c.vs
 ·refine .same I2 (h2.all fun t=> ?_)
  have c:=h2.ni.cand rfl
  refine⟨fun _=>⟨X.log, ?_,rfl,rfl⟩,fun e=>absurd e (by decide:¬(3:Int)=4),fun e=>absurd e (by decide:¬(3:Int)=5),fun e=>absurd e (by decide:¬(3:Int)=6)⟩
  have:=c.cl
  show g2.cl (X.term+1) X.id=some X.log
  rw[hid];exact this
theorem does_asks(I:GI k g)(h:SI k g i X):Does k g i (QfO X):=by
 have hid:=h.ni.id
 have hik:=h.ni.ik
 have hk7:=h.ni.k7
 have h1:SI k g i (Qg0 X):=⟨⟨h.ni.d,h.ni.v,h.ni.id,h.ni.n,h.ni.ik,h.ni.k7,h.ni.v0,pow7 (by omega) (by omega),h.ni.c0,h.ni.c1,h.ni.com,(fun e=>absurd e (by decide:¬(1:Int)=2)),(fun e=>absurd e (by decide:¬(1:Int)=3))⟩,h.out⟩
 unfold QfO
 split
 ·exact Qmy I h1
 ·exact .same I (h1.all fun t=>mi_none (.inl rfl))
theorem si_beat(h:SI k g i X)(hr:X.role=3):SI k g i (QeP X):=by
 unfold QeP
 split
 ·exact h.toAll hr
 ·exact h
theorem si_lead(h:SI k g i X)(hr:X.role=3):SI k g i (Qk8 X):=by
 unfold Qk8
 split
 ·split
  ·refine SI.like (X:=Qai X X.term (-1)) h.follow ?_ ?_ ?_ ?_ ?_ ?_ (.inl ?_) ?_ ?_ ?_ ?_<;>(unfold Qai;rw[if_neg (by show ¬X.term>X.term;omega),if_neg (by show ¬X.term>X.term;omega)])
  ·exact si_beat (X:={X with quiet:=0,heard:=0}) (h.like rfl rfl rfl rfl rfl rfl (.inl rfl) rfl rfl rfl rfl) hr
 ·exact si_beat (X:={X with quiet:=X.quiet+1}) (h.like rfl rfl rfl rfl rfl rfl (.inl rfl) rfl rfl rfl rfl) hr
theorem Qjt(I:GI k g)(h:SI k g i X){draw:Int}:Does k g i (Qah X draw):=by
 have h1:SI k g i {X with since:=X.since+1}:=h.like rfl rfl rfl rfl rfl rfl (.inl rfl) rfl rfl rfl rfl
 unfold Qah
 generalize (if 0>draw then 0 else draw)%X.elect=dr
 split
 ·rename_i hr;exact .same I (si_lead h1 hr)
 ·split
  ·exact does_asks I h1
  ·exact .same I h1
theorem Qfl(I:GI k g)(h:SI k g i X){data:ByteArray}(hs:data.size<=100):Does k g i (Qam X data).1:=by
 unfold Qam
 split
 ·exact .same I h
 ·rename_i hr
  split
  ·exact .same I h
  ·split<;>exact does_add I h (Decidable.not_not.1 hr) hs
end
end
section
variable {k:Nat}{g:GH}{i:Nat}{X Y:RN}{m:RM}
theorem NI.norole(h:NI k g i X)(h1:Y.term=X.term)(h2:Y.vote=X.vote)(h3:Y.log=X.log)(h4:Y.id=X.id)(h5:Y.n=X.n)(h6:Y.commit=X.commit)(h7:Y.role≠2/\Y.role≠3)(h8:Y.votes<128):NI k g i Y:=
 ⟨by rw[h1,h2,h3];exact h.d,by rw[h1,h2];exact h.v,by rw[h4];exact h.id,by rw[h5];exact h.n,h.ik,h.k7,by rw[h2];exact h.v0,h8,by rw[h6];exact h.c0,by rw[h6,h3];exact h.c1,by rw[h1,h3,h6];exact h.com,fun e=>absurd e h7.1,fun e=>absurd e h7.2⟩
theorem does_askPre(I:GI k g)(h:SI k g i X):Does k g i (QiB X m):= .same I (h.send (mi_none (.inr (.inl rfl))))
theorem does_tellPre(I:GI k g)(h:SI k g i X)(hf:0<=m.from_/\m.from_<X.n):Does k g i (QaS X m):=by
 unfold QaS
 have hn:=h.ni.n
 have hk:=h.ni.k7
 split
 ·exact .same I h.follow
 ·split
  ·rename_i hr
   have h1:SI k g i {X with votes:=X.votes|||2^m.from_.toNat}:=⟨h.ni.norole rfl rfl rfl rfl rfl rfl ⟨by show X.role≠2;omega,by show X.role≠3;omega⟩ (or7 h.ni.vb hf.1 (by omega)),h.out⟩
   split
   ·exact Qmy I h1
   ·exact .same I h1
  ·exact .same I h
theorem does_told(I:GI k g)(h:SI k g i X){to index:Int}:Does k g i (Qib X to false index):= .same I (h.send (mi_none (.inr (.inr (.inr ⟨rfl,rfl⟩)))))
theorem rec_of(h:NI k g i X){c:Int}{lc:List RE}(hc:g.cl X.term c=some lc)(hu:Utd lc X.log)(h0:g.ll X.term= []):Rec g X.term c i:=
 ⟨X.log,lc,hc,h.d.lm,h.d.mono,hu,fun t0 j ht hj ho=>by
  rcases h.d.kp t0 j hj ho with h1|⟨u,h1,h2⟩
  ·exact .inl h1
  ·refine .inr ⟨u, ?_,h2⟩
   rcases Int.lt_or_eq_of_le h1 with h3|h3
   ·exact h3
   ·rw[h3] at h2;exact absurd h0 h2.2.1⟩
theorem does_askVote(I:GI k g)(h:SI k g i X)(hm:MI k g m)(hk:m.kind=3)(ht:m.term=X.term)(hf:0<=m.from_/\m.from_<X.n/\m.from_≠X.id):Does k g i (Qbg X m):=by
 unfold Qbg
 have hn:=h.ni.n
 have hid:=h.ni.id
 have hik:=h.ni.ik
 by_cases hv:Qbm X m
 ·rw[if_pos hv,decide_eq_true hv]
  obtain⟨h1,h2,h3⟩:=hv
  have hr:X.role≠2:=fun e=>by
   have c:=h.ni.cand e
   have:=c.vote
   omega
  have hV:g.V i X.term= -1\/g.V i X.term=m.from_:=by rw[h.ni.v];exact h1
  have G:=Qor hV
  have I1:=setV_gi I hV
  have hV1:(g.setV i X.term m.from_).V i X.term=m.from_:=if_pos ⟨rfl,rfl⟩
  refine⟨_,G,I1, ?_⟩
  have d:=h.ni.d
  have d1:DI (g.setV i X.term m.from_) i X.term m.from_ X.log:=⟨d.lm,d.mono,d.ter,d.kp,fun t ht=>by
   show(if i=i/\t=X.term then m.from_ else g.V i t)= -1
   rw[if_neg (by omega)];exact d.futV t ht,d.futC,d.futA,d.futL,.inr hV1,d.t0,d.cur⟩
  have n1:NI k (g.setV i X.term m.from_) i {X with hard:=X.hard||(X.vote !=m.from_),vote:=m.from_,since:=0}:=
   ⟨d1,hV1,h.ni.id,h.ni.n,h.ni.ik,h.ni.k7,by show -1<=m.from_;omega,h.ni.vb,h.ni.c0,h.ni.c1,h.ni.com.grow G.toGLe,fun e=>absurd e hr,fun e=>absurd e h2⟩
  refine SI.send (SI.grow I G n1 h rfl) ⟨fun e=>absurd e (by decide:¬(4:Int)=3),fun _ _=>⟨by show 0<=X.id;omega,by show X.id<k;omega,hf.1, ?_,fun h0=> ?_⟩,fun e=>absurd e (by decide:¬(4:Int)=5),fun e=>absurd e (by decide:¬(4:Int)=6)⟩
  ·show(g.setV i X.term m.from_).V X.id.toNat X.term=m.from_
   rw[show X.id.toNat=i by omega];exact hV1
  ·have h0:g.ll X.term= []:=h0
   show Rec (g.setV i X.term m.from_) X.term m.from_ X.id.toNat
   rw[show X.id.toNat=i by omega]
   obtain⟨lc,c1,c2,c3⟩:=hm.1 hk
   rw[ht] at c1
   refine rec_of n1 (X:={X with hard:=X.hard||(X.vote !=m.from_),vote:=m.from_,since:=0}) c1 ?_ h0
   show Utd lc X.log
   unfold Qd4 at h3
   unfold Utd
   omega
 ·rw[if_neg hv,decide_eq_false hv]
  exact .same I (h.send (mi_none (.inr (.inr (.inl ⟨rfl,rfl⟩)))))
theorem does_tellVote(I:GI k g)(h:SI k g i X)(hm:MI k g m)(hk:m.kind=4)(ht:m.term=X.term)(hto:m.to=X.id)(hf:0<=m.from_/\m.from_<X.n):Does k g i (Qar X m):=by
 unfold Qar
 have hn:=h.ni.n
 have hk7:=h.ni.k7
 have hid:=h.ni.id
 split
 ·exact .same I h
 ·rename_i hno
  have hy:m.yes=true:=by cases e:m.yes;exact absurd (.inl e) hno;rfl
  have hr:X.role=2:=Decidable.byContradiction fun e=>hno (.inr e)
  obtain⟨a,b,c,d,f⟩:=hm.2.1 hk hy
  rw[ht] at d f
  rw[hto,hid] at d f
  have cd:=h.ni.cand hr
  have hq:∀t,(X.votes|||2^m.from_.toNat).testBit t=true->t<k/\g.V t X.term=i/\(g.ll X.term= []->Rec g X.term i t):=fun t htb=>by
   rw[Nat.testBit_or,Bool.or_eq_true] at htb
   rcases htb with htb|htb
   ·exact cd.vs t htb
   ·rw[Qh9 htb]
    exact⟨by omega,d,f⟩
  have hv7:X.votes|||2^m.from_.toNat<128:=or7 h.ni.vb hf.1 (by omega)
  have h1:SI k g i {X with votes:=X.votes|||2^m.from_.toNat}:=⟨⟨h.ni.d,h.ni.v,h.ni.id,h.ni.n,h.ni.ik,h.ni.k7,h.ni.v0,hv7,h.ni.c0,h.ni.c1,h.ni.com,fun _=>⟨cd.vote,cd.cl,cd.ter,cd.no,hq,cd.t1⟩,fun e=>absurd (hr.symm.trans e) (by decide)⟩,h.out⟩
  split
  ·rename_i hmo
   exact QnW I h1 hr (v:=X.votes|||2^m.from_.toNat) hmo hv7 hq
  ·exact .same I h1
theorem Qhc{a b:List RE}(ha:LM g a)(hb:LM g b){n:Nat}{x y:RE}(h1:a[n]? =some x)(h2:b[n]? =some y)(he:x.term=y.term):a.take (n+1)=b.take (n+1):=by
 obtain⟨l1,e1⟩:=List.getElem?_eq_some_iff.1 h1
 obtain⟨l2,e2⟩:=List.getElem?_eq_some_iff.1 h2
 have p1:=ha n l1
 have p2:=hb n l2
 rw[e1,he] at p1
 rw[e2] at p2
 have n1:(a.take (n+1)).length=n+1:=by rw[List.length_take];omega
 have n2:(b.take (n+1)).length=n+1:=by rw[List.length_take];omega
 exact pre_same (QeC p1 p2 (by omega)) (by omega)
theorem Qh6{L ents:List RE}{n q:Nat}(h:ents<+:L.drop n)(hq:q<ents.length):L[n+q]? =ents[q]? :=by
 have:=Qbv h hq
 rwa[List.getElem?_drop] at this
structure AppI(k:Nat)(g:GH)(i:Nat)(X:RN)(m:RM):Prop where
 i0:0<=m.index
 last:m.index.toNat+m.ents.length<=(g.ll X.term).length
 has:(g.ll X.term).take (m.index.toNat+m.ents.length)<+:(Qc8 X.log m.index m.logTerm m.ents).1
 same:¬(Qc8 X.log m.index m.logTerm m.ents).2.1>0->(Qc8 X.log m.index m.logTerm m.ents).1=X.log
 new:(Qc8 X.log m.index m.logTerm m.ents).2.1>0->∃p:Nat,(Qc8 X.log m.index m.logTerm m.ents).2.1=(p:Int)+1/\p<=X.log.length/\m.index.toNat<=p/\p<m.index.toNat+m.ents.length/\m.index+m.ents.length<=1024/\
  (Qc8 X.log m.index m.logTerm m.ents).1=(g.ll X.term).take (m.index.toNat+m.ents.length)/\X.log.take p=(g.ll X.term).take p/\∀p',p<=p'->DI g i X.term X.vote ((g.ll X.term).take p')
theorem app_core(I:GI k g)(h:NI k g i X)(hm:MI k g m)(hk:m.kind=5)(ht:m.term=X.term)(hok:(Qc8 X.log m.index m.logTerm m.ents).2.2=0):AppI k g i X m:=by
 obtain⟨a1,a2,a3,a4,a5,a6,a7,a8⟩:=hm.2.2.1 hk
 rw[ht] at a1 a2 a4 a5 a6 a7 a8
 have L:=I.L X.term a1
 have hlast:m.index.toNat+m.ents.length<=(g.ll X.term).length:=by
  have:=Qbf a6
  rw[List.length_drop] at this
  omega
 unfold Qc8 at hok
 by_cases c1:(QaH X.log m.index).2=false
 ·rw[if_pos c1] at hok;exact absurd hok (show ¬(6:Int)=0 by decide)
 rw[if_neg c1] at hok
 by_cases c2:(QaH X.log m.index).1≠m.logTerm
 ·rw[if_pos c2] at hok;exact absurd hok (show ¬(8:Int)=0 by decide)
 rw[if_neg c2] at hok
 by_cases c3:Qfk m.logTerm m.ents=true
 ·rw[if_pos c3] at hok;exact absurd hok (show ¬(5:Int)=0 by decide)
 rw[if_neg c3] at hok
 have hput:Qc8 X.log m.index m.logTerm m.ents=if Qbi (X.log.drop m.index.toNat) m.ents=m.ents.length then(X.log,0,0) else if m.index+m.ents.length>1024 then(X.log,0,7)
   else(X.log.take (m.index.toNat+Qbi (X.log.drop m.index.toNat) m.ents)++m.ents.drop (Qbi (X.log.drop m.index.toNat) m.ents),m.index+Qbi (X.log.drop m.index.toNat) m.ents+1,0):=by
  unfold Qc8;rw[if_neg c1,if_neg c2,if_neg c3]
 have c2:(QaH X.log m.index).1=m.logTerm:=Decidable.not_not.1 c2
 have hil:m.index<=X.log.length:=by
  unfold QaH at c1
  by_cases e:m.index<0\/m.index>X.log.length
  ·rw[if_pos e] at c1;exact absurd rfl c1
  ·omega
 have ag1:X.log.take m.index.toNat=(g.ll X.term).take m.index.toNat:=by
  rcases Nat.eq_zero_or_pos m.index.toNat with e|e
  ·rw[e];rfl
  ·obtain⟨q,hq⟩:∃q,m.index.toNat=q+1:=⟨m.index.toNat -1,by omega⟩
   have t1:(QaH X.log m.index).1=(X.log[q]'(by omega)).term:=by
    unfold QaH
    rw[if_neg (by omega),if_neg (by omega),hq,Nat.add_sub_cancel,List.getElem?_eq_getElem (by omega)]
    rfl
   have t2:(QaH (g.ll X.term) m.index).1=((g.ll X.term)[q]'(by omega)).term:=by
    unfold QaH
    rw[if_neg (by omega),if_neg (by omega),hq,Nat.add_sub_cancel,List.getElem?_eq_getElem (by omega)]
    rfl
   rw[hq]
   exact Qhc h.d.lm L.lm (List.getElem?_eq_getElem (by omega)) (List.getElem?_eq_getElem (by omega)) (by rw[<-t1,<-t2,c2,a5])
 generalize hn:Qbi (X.log.drop m.index.toNat) m.ents=n at*
 have hle:=QfR (X.log.drop m.index.toNat) m.ents
 rw[hn,List.length_drop] at hle
 have ag2:X.log.take (m.index.toNat+n)=(g.ll X.term).take (m.index.toNat+n):=by
  rcases Nat.eq_zero_or_pos n with e|e
  ·rw[e,Nat.add_zero];exact ag1
  ·obtain⟨q,rfl⟩:∃q,n=q+1:=⟨n -1,by omega⟩
   obtain⟨x,y,h1,h2,h3⟩:=knownR_eq (X.log.drop m.index.toNat) m.ents q (by omega)
   rw[List.getElem?_drop] at h1
   rw[<-Qh6 a6 (by omega)] at h2
   have:=Qhc h.d.lm L.lm h1 h2 h3
   rwa[<-Nat.add_assoc]
 by_cases c4:n=m.ents.length
 ·rw[if_pos c4] at hput
  refine⟨a3,hlast, ?_,fun _=>by rw[hput],fun x=>absurd x (by rw[hput];exact(show ¬(0:Int)>0 by decide))⟩
  rw[hput,<-c4,<-ag2]
  exact QbT _ _
 rw[if_neg c4] at hput hok
 by_cases c5:m.index+m.ents.length>1024
 ·rw[if_pos c5] at hok;exact absurd hok (show ¬(7:Int)=0 by decide)
 rw[if_neg c5] at hput
 have hnew:X.log.take (m.index.toNat+n)++m.ents.drop n=(g.ll X.term).take (m.index.toNat+m.ents.length):=by
  rw[ag2]
  have e1:m.ents=((g.ll X.term).drop m.index.toNat).take m.ents.length:=QoD a6
  have e2:m.ents.drop n=((g.ll X.term).drop (m.index.toNat+n)).take (m.ents.length -n):=by
   conv=>lhs;rw[e1]
   rw[List.drop_take,List.drop_drop]
  rw[e2,<-List.take_add]
  congr 1;omega
 rw[hnew] at hput
 refine⟨a3,hlast,by rw[hput];exact List.prefix_refl _,fun x=>absurd (show(m.index+n+1:Int)>0 by omega) (by rw[hput] at x;exact x),fun _=>⟨m.index.toNat+n,by rw[hput];show m.index+(n:Int)+1=_;omega,by omega,by omega,by omega,by omega,by rw[hput],ag2,fun p' hp'=> ?_⟩⟩
 have hp:(g.ll X.term).take p'<+:g.ll X.term:=QbT _ _
 refine⟨L.lm.sub hp,L.mono.sub hp,L.ter.sub hp,fun t j hj ho=> ?_,h.d.futV,h.d.futC,h.d.futA,h.d.futL,h.d.vot,h.d.t0,Qhi (Nat.le_trans (Nat.le_of_not_lt fun hx=> ?_) hp')⟩
 rcases h.d.kp t j hj ho with h1|h1
 ·have htT:t<=X.term:=by
   rcases Int.lt_or_le X.term t with x|x
   ·have:=h.d.futA t x
    have:=ho.1
    omega
   ·exact x
  by_cases h2:(g.ll t).take j<+:g.ll X.term
  ·have hlen:((g.ll t).take j).length=j:=by rw[List.length_take];have:=ho.len;omega
   have hjl:=Qbf h1
   have hjL:=Qbf h2
   refine .inl (QeC h2 hp ?_)
   rw[hlen,List.length_take]
   have:j<=m.index.toNat+n:=Decidable.byContradiction fun hx=>by
    have hx:m.index.toNat+n<j:=by omega
    obtain⟨x,y,h3,h4,h5⟩:=Qjn (X.log.drop m.index.toNat) m.ents (by rw[hn,List.length_drop];omega) (by rw[hn];omega)
    rw[hn] at h3 h4
    rw[List.getElem?_drop] at h3
    rw[<-Qh6 a6 (by omega)] at h4
    have e1:=Qbv h1 (n:=m.index.toNat+n) (by omega)
    have e2:=Qbv h2 (n:=m.index.toNat+n) (by omega)
    rw[<-e1] at e2
    rw[h3,h4] at e2
    injection e2 with e2
    rw[e2] at h5
    exact h5 rfl
   omega
  ·refine .inr ⟨X.term,Int.le_refl _, ?_,a1,h2⟩
   rcases Int.lt_or_eq_of_le htT with x|x
   ·exact x
   ·rw[x] at h2;exact absurd (QbT _ _) h2
 ·exact .inr h1
 ·have h1:=h.d.cur
  have hA:=I.A i X.term
  have hl1:=Qbf h1
  rw[List.length_take,Nat.min_eq_left hA] at hl1
  obtain⟨x,y,h3,h4,h5⟩:=Qjn (X.log.drop m.index.toNat) m.ents (by rw[hn,List.length_drop];omega) (by rw[hn];omega)
  rw[hn] at h3 h4
  rw[List.getElem?_drop] at h3
  rw[<-Qh6 a6 (by omega)] at h4
  have e1:=Qbv h1 (n:=m.index.toNat+n) (by rw[List.length_take];omega)
  rw[List.getElem?_take_of_lt hx,h3,h4] at e1
  injection e1 with e1
  rw[e1] at h5
  exact h5 rfl
theorem Qaz(X:RN)(m:RM):Qag X m={X with role:=0,leader:=m.from_,since:=0}:=by
 unfold Qag Qai
 rw[if_neg (by omega)]
theorem si_app0(h:SI k g i X):SI k g i (Qag X m):=by
 rw[Qaz]
 exact h.like rfl rfl rfl rfl rfl rfl (.inr ⟨(by decide:¬(0:Int)=2),(by decide:¬(0:Int)=3)⟩) rfl rfl rfl rfl
theorem mi_told{to:Int}{n:Nat}(hid:X.id=i)(hn:n<=g.ack i X.term){index:Int}(hi:index<=n):MI k g {(⟨6,0,0,X.term,index,0,0,true,[]⟩:RM) with from_:=X.id,to:=to}:=
 ⟨fun e=>absurd e (by decide:¬(6:Int)=3),fun e=>absurd e (by decide:¬(6:Int)=4),fun e=>absurd e (by decide:¬(6:Int)=5),fun _ _=>by
  show index<=g.ack X.id.toNat X.term
  rw[show X.id.toNat=i by omega];omega⟩
theorem does_ack(I:GI k g)(h:SI k g i X)(hr:X.role≠2/\X.role≠3){n:Nat}{to index:Int}(hi:index<=n)(hn:n<=(g.ll X.term).length)(hp:(g.ll X.term).take n<+:X.log):Does k g i (Qib X to true index):=by
 have d:=h.ni.d
 have G:=setA_by (n:=n) d.futV
 have I1:=setA_gi I d.futV hn
 refine⟨_,G,I1,SI.send (SI.grow (X:=X) I G ?_ h rfl) (mi_told (n:=n) h.ni.id ?_ hi)⟩
 ·exact⟨⟨d.lm,d.mono,d.ter,d.kp.ack hp hn,d.futV,d.futC,fun t ht=>by
   show(if i=i/\t=X.term then _ else g.ack i t)=0
   rw[if_neg (by omega)];exact d.futA t ht,d.futL,d.vot,d.t0,by
   show(g.ll X.term).take (if i=i/\X.term=X.term then max (g.ack i X.term) n else g.ack i X.term)<+:X.log
   rw[if_pos ⟨rfl,rfl⟩]
   rcases Nat.le_total (g.ack i X.term) n with h9|h9
   ·rw[Nat.max_eq_right h9];exact hp
   ·rw[Nat.max_eq_left h9];exact d.cur⟩,h.ni.v,h.ni.id,h.ni.n,h.ni.ik,h.ni.k7,h.ni.v0,h.ni.vb,h.ni.c0,h.ni.c1,h.ni.com.grow G.toGLe,fun e=>absurd e hr.1,fun e=>absurd e hr.2⟩
 ·show n<=if i=i/\X.term=X.term then max (g.ack i X.term) n else g.ack i X.term
  rw[if_pos ⟨rfl,rfl⟩];omega
theorem Qhg(X:RN)(m:RM):(QbD X m).term=X.term/\(QbD X m).vote=X.vote/\(QbD X m).id=X.id/\(QbD X m).n=X.n/\(QbD X m).commit=X.commit/\(QbD X m).role=X.role/\(QbD X m).votes=X.votes/\(QbD X m).out=X.out/\(QbD X m).hard=X.hard/\(QbD X m).log=(Qc8 X.log m.index m.logTerm m.ents).1:=by
 unfold QbD QaN
 split<;>exact⟨rfl,rfl,rfl,rfl,rfl,rfl,rfl,rfl,rfl,rfl⟩
theorem does_append(I:GI k g)(h:SI k g i X)(hm:MI k g m)(hk:m.kind=5)(ht:m.term=X.term):Does k g i (QaV X m):=by
 unfold QaV
 have h1:=si_app0 (m:=m) h
 have e0:=Qaz X m
 obtain⟨a1,a2,a3,a4,a5,a6,a7,a8⟩:=hm.2.2.1 hk
 rw[ht] at a1 a2 a4 a5 a6 a7 a8
 split
 ·exact .same I h
 split
 ·
  have hp:X.log.take X.commit.toNat<+:g.ll X.term:=h.ni.com.pre I.L a1
  have hc0:=h.ni.c0
  have hc1:=h.ni.c1
  have hl:(X.log.take X.commit.toNat).length=X.commit.toNat:=by rw[List.length_take];omega
  have:=Qbf hp
  have hp2:(g.ll X.term).take X.commit.toNat=X.log.take X.commit.toNat:=by
   have:=QoD hp
   rw[hl] at this
   exact this.symm
  rw[e0] at h1⊢
  refine does_ack I h1 ⟨(by decide:¬(0:Int)=2),(by decide:¬(0:Int)=3)⟩ (n:=X.commit.toNat) (by omega) (by show X.commit.toNat<=(g.ll X.term).length;omega) ?_
  show(g.ll X.term).take X.commit.toNat<+:X.log
  rw[hp2];exact QbT _ _
 split
 ·exact does_told I h1
 ·rename_i hr hc hok
  have A:=app_core I h.ni hm hk ht (Decidable.not_not.1 hok)
  have hc0:=h.ni.c0
  have hc1:=h.ni.c1
  have hc:X.commit<=m.index:=by omega
  obtain⟨p1,p2,p3,p4,p5,p6,p7,p8,p9,p10⟩:=Qhg (Qag X m) m
  have p1:(QbD (Qag X m) m).term=X.term:=p1.trans (by rw[e0])
  have p2:(QbD (Qag X m) m).vote=X.vote:=p2.trans (by rw[e0])
  have p3:(QbD (Qag X m) m).id=X.id:=p3.trans (by rw[e0])
  have p4:(QbD (Qag X m) m).n=X.n:=p4.trans (by rw[e0])
  have p6:(QbD (Qag X m) m).role=0:=p6.trans (by rw[e0])
  have p7:(QbD (Qag X m) m).votes=X.votes:=p7.trans (by rw[e0])
  have p8:(QbD (Qag X m) m).out=X.out:=p8.trans (by rw[e0])
  have p10:(QbD (Qag X m) m).log=(Qc8 X.log m.index m.logTerm m.ents).1:=p10.trans (by rw[e0])
  have key:∀Z:RN,Z.term=X.term->Z.vote=X.vote->Z.id=X.id->Z.n=X.n->Z.role=0->Z.votes=X.votes->Z.out=X.out->Z.log=(Qc8 X.log m.index m.logTerm m.ents).1->Z.commit=mx X.commit (mn m.commit (m.index+m.ents.length))->SI k g i Z:=fun Z z1 z2 z3 z4 z5 z6 z7 z8 z9=>by
   have hpre:(Qc8 X.log m.index m.logTerm m.ents).1.take X.commit.toNat=X.log.take X.commit.toNat:=by
    by_cases hch:(Qc8 X.log m.index m.logTerm m.ents).2.1>0
    ·obtain⟨p,_,q2,q3,q4,_,q5,q6,_⟩:=A.new hch
     rw[q5,List.take_take,show min X.commit.toNat (m.index.toNat+m.ents.length)=min X.commit.toNat p by omega,<-List.take_take,<-q6,List.take_take,show min X.commit.toNat p=X.commit.toNat by omega]
    ·rw[A.same hch]
   have hd:DI g i X.term X.vote (Qc8 X.log m.index m.logTerm m.ents).1:=by
    by_cases hch:(Qc8 X.log m.index m.logTerm m.ents).2.1>0
    ·obtain⟨p,_,q2,q3,q4,_,q5,q6,q7⟩:=A.new hch
     rw[q5];exact q7 _ (by omega)
    ·rw[A.same hch];exact h.ni.d
   have hlen:=Qbf A.has
   rw[List.length_take,Nat.min_eq_left A.last] at hlen
   have i0:=A.i0
   have hm1:mn m.commit (m.index+m.ents.length)<=m.index+m.ents.length/\mn m.commit (m.index+m.ents.length)<=m.commit:=by unfold mn;split<;>omega
   have hmx:mx X.commit (mn m.commit (m.index+m.ents.length))=X.commit\/(mx X.commit (mn m.commit (m.index+m.ents.length))=mn m.commit (m.index+m.ents.length)/\X.commit<mn m.commit (m.index+m.ents.length)):=by unfold mx;split<;>omega
   generalize mn m.commit (m.index+m.ents.length)=c1 at*
   refine⟨⟨by rw[z1,z2,z8];exact hd,by rw[z1,z2];exact h.ni.v,by rw[z3];exact h.ni.id,by rw[z4];exact h.ni.n,h.ni.ik,h.ni.k7,by rw[z2];exact h.ni.v0,by rw[z6];exact h.ni.vb,by rw[z9];omega,by rw[z9,z8];omega, ?_,fun e=>by rw[z5] at e;exact absurd e (by decide),fun e=>by rw[z5] at e;exact absurd e (by decide)⟩,by rw[z7];exact h.out⟩
   rw[z1,z8,z9]
   rcases hmx with e|⟨e,e'⟩
   ·rw[e,hpre];exact h.ni.com
   ·rw[e]
    have e2:(Qc8 X.log m.index m.logTerm m.ents).1.take c1.toNat=(g.ll X.term).take c1.toNat:=by
     have:=Qgg A.has (n:=c1.toNat) (by rw[List.length_take];have:=A.last;omega)
     rw[List.take_take,Nat.min_eq_left (by omega)] at this
     exact this.symm
    rw[e2]
    exact a8.sub (Qhi (by omega)) (Int.le_refl _)
  have hS:SI k g i {QbD (Qag X m) m with commit:=mx X.commit (mn m.commit (m.index+m.ents.length))}:=by
   refine key _ ?_ ?_ ?_ ?_ ?_ ?_ ?_ ?_ rfl
   ·exact p1
   ·exact p2
   ·exact p3
   ·exact p4
   ·exact p6
   ·exact p7
   ·exact p8
   ·exact p10
  have hlast:=A.last
  have i0:=A.i0
  refine does_ack I hS ?_ (n:=m.index.toNat+m.ents.length) (by omega) ?_ ?_
  ·show(QbD (Qag X m) m).role≠2/\(QbD (Qag X m) m).role≠3
   rw[p6];exact⟨by decide,by decide⟩
  ·show _<=(g.ll (QbD (Qag X m) m).term).length
   rw[p1];exact hlast
  ·show(g.ll (QbD (Qag X m) m).term).take _<+:(QbD (Qag X m) m).log
   rw[p1,p10];exact A.has
theorem does_hears(I:GI k g)(h:SI k g i X)(hm:MI k g m)(hk:m.kind=6)(ht:m.term=X.term)(hf:0<=m.from_/\m.from_<X.n/\m.from_≠X.id):Does k g i (QaC X m):=by
 unfold QaC
 have hn:=h.ni.n
 have hid:=h.ni.id
 split
 ·exact .same I h
 ·rename_i hr
  have hr:X.role=3:=Decidable.not_not.1 hr
  have L:=h.ni.lead hr
  have hA:=I.A m.from_.toNat X.term
  rw[L.ll] at hA
  have hft:m.from_.toNat<k/\m.from_.toNat≠i:=by omega
  have hmt:=L.mt _ hft.1 hft.2
  have hnx:=L.nx _ hft.1 hft.2
  split
  ·rename_i hc
   have hack:=hm.2.2.2 hk hc.1
   rw[ht] at hack
   have h1:SI k g i (Qau X m.from_.toNat m.index):=by
    refine⟨⟨h.ni.d,h.ni.v,h.ni.id,h.ni.n,h.ni.ik,h.ni.k7,h.ni.v0,h.ni.vb,h.ni.c0,h.ni.c1,h.ni.com,fun e=>absurd (hr.symm.trans e) (by decide),fun _=>⟨L.ll,L.ne,L.ld,fun v hv hvi=> ?_,L.me,fun v hv hvi=> ?_⟩⟩,h.out⟩
    ·show 0<=upd X.matc m.from_.toNat (mx (X.matc m.from_.toNat) m.index) v/\upd X.matc m.from_.toNat (mx (X.matc m.from_.toNat) m.index) v<=g.ack v X.term
     unfold upd
     by_cases e:v=m.from_.toNat
     ·rw[if_pos e,e]
      unfold mx;split<;>omega
     ·rw[if_neg e];exact L.mt v hv hvi
    ·show 1<=upd X.next m.from_.toNat (mx (X.matc m.from_.toNat) m.index+1) v/\upd X.next m.from_.toNat (mx (X.matc m.from_.toNat) m.index+1) v<=(X.log.length:Int)+1
     unfold upd
     by_cases e:v=m.from_.toNat
     ·rw[if_pos e]
      unfold mx;split<;>omega
     ·rw[if_neg e];exact L.nx v hv hvi
   have h2:=h1.agree hr
   split
   ·refine .same I (h2.to ?_ hft.1 hft.2)
    rw[(Qan _).2.1];exact hr
   ·exact .same I h2
  ·split
   ·have h1:SI k g i (Qcx X m.from_.toNat m.index):=by
     refine⟨⟨h.ni.d,h.ni.v,h.ni.id,h.ni.n,h.ni.ik,h.ni.k7,h.ni.v0,h.ni.vb,h.ni.c0,h.ni.c1,h.ni.com,fun e=>absurd (hr.symm.trans e) (by decide),fun _=>⟨L.ll,L.ne,L.ld,L.mt,L.me,fun v hv hvi=> ?_⟩⟩,h.out⟩
     show 1<=upd X.next m.from_.toNat (mx (mn (mn (mx m.index 0) X.log.length+1) (X.next m.from_.toNat -1)) (X.matc m.from_.toNat+1)) v/\upd X.next m.from_.toNat (mx (mn (mn (mx m.index 0) X.log.length+1) (X.next m.from_.toNat -1)) (X.matc m.from_.toNat+1)) v<=(X.log.length:Int)+1
     unfold upd
     by_cases e:v=m.from_.toNat
     ·rw[if_pos e]
      have:mn (mx m.index 0) X.log.length<=X.log.length:=by unfold mn;split<;>omega
      generalize mn (mx m.index 0) (X.log.length:Int)=q at*
      have:mn (q+1) (X.next m.from_.toNat -1)<=q+1:=by unfold mn;split<;>omega
      generalize mn (q+1) (X.next m.from_.toNat -1)=r at*
      unfold mx;split<;>omega
     ·rw[if_neg e];exact L.nx v hv hvi
    exact .same I (h1.to hr hft.1 hft.2)
   ·exact .same I (h.like rfl rfl rfl rfl rfl rfl (.inl rfl) rfl rfl rfl rfl)
theorem QkP(X:RN)(m:RM):(Qab X m).n=X.n/\(Qab X m).id=X.id:=by
 unfold Qab Qai
 split<;>(try split)<;>exact⟨rfl,rfl⟩
theorem QnP(X:RN)(m:RM):X.term<=(Qab X m).term/\m.term<=(Qab X m).term/\((Qab X m).term=X.term\/(Qab X m).term=m.term):=by
 unfold Qab
 split
 ·rename_i h
  unfold Qai
  rw[if_pos h]
  exact⟨Int.le_of_lt h,Int.le_refl _,.inr rfl⟩
 ·exact⟨Int.le_refl _,by omega,.inl rfl⟩
theorem Qoq(h:SI k g i X):SI k g i (Qab X m):=by
 unfold Qab
 split
 ·exact h.follow
 ·exact h
theorem Qju(I:GI k g)(h:SI k g i X)(hm:MI k g m):Does k g i (Qaa X m):=by
 unfold Qaa
 split
 ·exact .same I h
 rename_i hc
 obtain⟨c1,c2,c3,c4,c5,c6,c7,c8,_,_⟩:=Decidable.not_not.1 hc
 split
 ·exact does_askPre I h
 split
 ·exact does_tellPre I h ⟨c3,c4⟩
 have h1:=Qoq (m:=m) h
 have hw:=QnP X m
 have hn:(Qab X m).n=X.n:=(QkP X m).1
 have hid:(Qab X m).id=X.id:=(QkP X m).2
 split
 ·split
  ·exact does_told I h1
  ·exact .same I h1
 have ht:m.term=(Qab X m).term:=by omega
 split
 ·rename_i k3;exact does_askVote I h1 hm k3 ht ⟨c3,by rw[hn];exact c4,by rw[hid];exact c2⟩
 split
 ·rename_i k4;exact does_tellVote I h1 hm k4 ht (by rw[hid];exact c1) ⟨c3,by rw[hn];exact c4⟩
 split
 ·rename_i k5;exact does_append I h1 hm k5 ht
 ·exact does_hears I h1 hm (by omega) ht ⟨c3,by rw[hn];exact c4,by rw[hid];exact c2⟩
end
section
structure SV(X Y:RN):Prop where
 hard:Y.hard=false->Y.term=X.term/\Y.vote=X.vote
 none:Y.from_=0->Y.log=X.log
 f0:0<=Y.from_
 new:0<Y.from_->Y.from_<=X.log.length+1/\Y.from_<=Y.log.length/\Y.log.take (Y.from_.toNat -1)=X.log.take (Y.from_.toNat -1)
section
variable {X Y Z:RN}{m:RM}
theorem SV.start(hf:X.from_=0):SV X X:=⟨fun _=>⟨rfl,rfl⟩,fun _=>rfl,by omega,fun h=>by omega⟩
theorem SV.like(h:SV X Y)(h1:Z.term=Y.term)(h2:Z.vote=Y.vote)(h3:Z.log=Y.log)(h4:Z.hard=Y.hard)(h5:Z.from_=Y.from_):SV X Z:=
 ⟨by rw[h4,h1,h2];exact h.hard,by rw[h5,h3];exact h.none,by rw[h5];exact h.f0,by rw[h5,h3];exact h.new⟩
theorem SV.set(h:SV X Y)(h3:Z.log=Y.log)(h4:Z.hard=true)(h5:Z.from_=Y.from_):SV X Z:=
 ⟨fun e=>absurd (h4.symm.trans e) (by decide),by rw[h5,h3];exact h.none,by rw[h5];exact h.f0,by rw[h5,h3];exact h.new⟩
theorem Qi1(h:SV X Y){t l:Int}:SV X (Qai Y t l):=by
 unfold Qai
 split
 ·exact h.set rfl rfl rfl
 ·exact h.like rfl rfl rfl rfl rfl
theorem sv_agree(h:SV X Y):SV X (Qaf Y):=by
 obtain⟨h1,_,h3,h4,h5,h6,_⟩:=Qan Y
 exact h.like h1 h4 h3 h5 h6
theorem sv_add(h:SV X Y){data:ByteArray}:SV X (Qc7 Y data).1:=by
 unfold Qc7
 split
 ·exact h
 split
 ·exact h
 ·refine sv_agree ?_
  have hz:SV X (QaN {Y with log:=Y.log++ [⟨Y.term,data⟩]} ((Y.log.length:Int)+1)):=by
   unfold QaN
   have f0:=h.f0
   by_cases e:Y.from_=0
   ·have hl:=h.none e
    refine⟨h.hard,fun x=> ?_, ?_,fun x=> ?_⟩
    ·have x:(if Y.from_=0\/(Y.log.length:Int)+1<Y.from_ then(Y.log.length:Int)+1 else Y.from_)=0:=x
     rw[if_pos (.inl e)] at x;omega
    ·show 0<=(if Y.from_=0\/(Y.log.length:Int)+1<Y.from_ then(Y.log.length:Int)+1 else Y.from_)
     rw[if_pos (.inl e)];omega
    ·show(if Y.from_=0\/(Y.log.length:Int)+1<Y.from_ then(Y.log.length:Int)+1 else Y.from_)<=(X.log.length:Int)+1/\(if Y.from_=0\/(Y.log.length:Int)+1<Y.from_ then(Y.log.length:Int)+1 else Y.from_)<=((Y.log++ [(⟨Y.term,data⟩:RE)]).length:Int)/\(Y.log++ [(⟨Y.term,data⟩:RE)]).take ((if Y.from_=0\/(Y.log.length:Int)+1<Y.from_ then(Y.log.length:Int)+1 else Y.from_).toNat -1)=X.log.take ((if Y.from_=0\/(Y.log.length:Int)+1<Y.from_ then(Y.log.length:Int)+1 else Y.from_).toNat -1)
     rw[if_pos (.inl e),List.length_append,List.length_singleton,show((Y.log.length:Int)+1).toNat -1=Y.log.length by omega,List.take_left,hl,List.take_length]
     exact⟨by omega,by omega,rfl⟩
   ·obtain⟨n1,n2,n3⟩:=h.new (by omega)
    have hc:¬(Y.from_=0\/(Y.log.length:Int)+1<Y.from_):=by omega
    refine⟨h.hard,fun x=> ?_, ?_,fun x=> ?_⟩
    ·have x:(if Y.from_=0\/(Y.log.length:Int)+1<Y.from_ then(Y.log.length:Int)+1 else Y.from_)=0:=x
     rw[if_neg hc] at x;exact absurd x e
    ·show 0<=(if Y.from_=0\/(Y.log.length:Int)+1<Y.from_ then(Y.log.length:Int)+1 else Y.from_)
     rw[if_neg hc];exact f0
    ·show(if Y.from_=0\/(Y.log.length:Int)+1<Y.from_ then(Y.log.length:Int)+1 else Y.from_)<=(X.log.length:Int)+1/\(if Y.from_=0\/(Y.log.length:Int)+1<Y.from_ then(Y.log.length:Int)+1 else Y.from_)<=((Y.log++ [(⟨Y.term,data⟩:RE)]).length:Int)/\(Y.log++ [(⟨Y.term,data⟩:RE)]).take ((if Y.from_=0\/(Y.log.length:Int)+1<Y.from_ then(Y.log.length:Int)+1 else Y.from_).toNat -1)=X.log.take ((if Y.from_=0\/(Y.log.length:Int)+1<Y.from_ then(Y.log.length:Int)+1 else Y.from_).toNat -1)
     rw[if_neg hc,List.length_append,List.length_singleton,List.take_append_of_le_length (by omega)]
     exact⟨n1,by omega,n3⟩
  exact hz.like rfl rfl rfl rfl rfl
theorem sv_leads(h:SV X Y):SV X (Qbh Y):=by
 have h1:SV X (Qc7 (Qay Y) ⟨#[]⟩).1:=sv_add (Y:=Qay Y) (h.like rfl rfl rfl rfl rfl)
 unfold Qbh
 split
 ·exact Qi1 h1
 ·exact h1
theorem sv_stands(h:SV X Y):SV X (QaU Y):=by
 have h1:SV X (QbB Y):=h.set rfl rfl rfl
 unfold QaU
 split
 ·exact sv_leads h1
 ·exact h1.like rfl rfl rfl rfl rfl
theorem sv_asks(h:SV X Y):SV X (QfO Y):=by
 have h1:SV X (Qg0 Y):=h.like rfl rfl rfl rfl rfl
 unfold QfO
 split
 ·exact sv_stands h1
 ·exact h1.like rfl rfl rfl rfl rfl
theorem sv_beat(h:SV X Y):SV X (QeP Y):=by
 unfold QeP
 split
 ·exact h.like rfl rfl rfl rfl rfl
 ·exact h
theorem sv_tick(h:SV X Y){draw:Int}:SV X (Qah Y draw):=by
 have h1:SV X {Y with since:=Y.since+1}:=h.like rfl rfl rfl rfl rfl
 unfold Qah
 generalize (if 0>draw then 0 else draw)%Y.elect=dr
 split
 ·unfold Qk8
  split
  ·split
   ·exact(Qi1 (Y:={Y with since:=Y.since+1,quiet:=0,heard:=0}) (h.like rfl rfl rfl rfl rfl)).like rfl rfl rfl rfl rfl
   ·exact sv_beat (h.like rfl rfl rfl rfl rfl)
  ·exact sv_beat (h.like rfl rfl rfl rfl rfl)
 ·split
  ·exact sv_asks h1
  ·exact h1
theorem Qny(h:SV X Y){data:ByteArray}:SV X (Qam Y data).1:=by
 unfold Qam
 split
 ·exact h
 split
 ·exact h
 split<;>exact sv_add h
theorem sv_newer(h:SV X Y):SV X (Qab Y m):=by
 unfold Qab
 split
 ·exact Qi1 h
 ·exact h
theorem QoB{es ys:List RE}{index term:Int}(h:(Qc8 es index term ys).2.1>0):∃p:Nat,(Qc8 es index term ys).2.1=(p:Int)+1/\p<=es.length/\p+1<=(Qc8 es index term ys).1.length/\(Qc8 es index term ys).1.take p=es.take p/\(Qc8 es index term ys).1.length<=1024/\∀e∈(Qc8 es index term ys).1,e∈es\/e∈ys:=by
 unfold Qc8 at h⊢
 by_cases c1:(QaH es index).2=false
 ·rw[if_pos c1] at h;exact absurd h (show ¬(0:Int)>0 by decide)
 by_cases c2:(QaH es index).1≠term
 ·rw[if_neg c1,if_pos c2] at h;exact absurd h (show ¬(0:Int)>0 by decide)
 by_cases c3:Qfk term ys=true
 ·rw[if_neg c1,if_neg c2,if_pos c3] at h;exact absurd h (show ¬(0:Int)>0 by decide)
 have hle:=QfR (es.drop index.toNat) ys
 generalize Qbi (es.drop index.toNat) ys=n at*
 rw[if_neg c1,if_neg c2,if_neg c3] at h⊢
 by_cases c4:n=ys.length
 ·rw[if_pos c4] at h;exact absurd h (show ¬(0:Int)>0 by decide)
 by_cases c5:index+ys.length>1024
 ·rw[if_neg c4,if_pos c5] at h;exact absurd h (show ¬(0:Int)>0 by decide)
 rw[if_neg c4,if_neg c5]
 have hi:0<=index/\index<=es.length:=by
  unfold QaH at c1
  by_cases e:index<0\/index>es.length
  ·rw[if_pos e] at c1;exact absurd rfl c1
  ·omega
 rw[List.length_drop] at hle
 refine⟨index.toNat+n,by show index+(n:Int)+1=_;omega,by omega, ?_, ?_, ?_,fun e he=> ?_⟩
 ·show _<=(es.take (index.toNat+n)++ys.drop n).length
  rw[List.length_append,List.length_take,List.length_drop];omega
 ·show(es.take (index.toNat+n)++ys.drop n).take (index.toNat+n)=_
  rw[List.take_append_of_le_length (by rw[List.length_take];omega),List.take_take,Nat.min_self]
 ·show(es.take (index.toNat+n)++ys.drop n).length<=_
  rw[List.length_append,List.length_take,List.length_drop];omega
 ·have he:e∈es.take (index.toNat+n)++ys.drop n:=he
  rcases List.mem_append.1 he with he|he
  ·exact .inl (List.mem_of_mem_take he)
  ·exact .inr (List.mem_of_mem_drop he)
theorem Qly{es ys:List RE}{index term:Int}(h:¬(Qc8 es index term ys).2.1>0):(Qc8 es index term ys).1=es:=by
 unfold Qc8 at h⊢
 by_cases c1:(QaH es index).2=false
 ·rw[if_pos c1]
 by_cases c2:(QaH es index).1≠term
 ·rw[if_neg c1,if_pos c2]
 by_cases c3:Qfk term ys=true
 ·rw[if_neg c1,if_neg c2,if_pos c3]
 have hi:0<=index/\index<=es.length:=by
  unfold QaH at c1
  by_cases e:index<0\/index>es.length
  ·rw[if_pos e] at c1;exact absurd rfl c1
  ·omega
 rw[if_neg c1,if_neg c2,if_neg c3] at h⊢
 by_cases c4:Qbi (es.drop index.toNat) ys=ys.length
 ·rw[if_pos c4]
 by_cases c5:index+ys.length>1024
 ·rw[if_neg c4,if_pos c5]
 rw[if_neg c4,if_neg c5] at h
 exact absurd (show index+(Qbi (es.drop index.toNat) ys:Int)+1>0 by omega) h
theorem sv_put(h:SV X Y)(hf:Y.from_=0):SV X (QbD Y m):=by
 have hl:=h.none hf
 unfold QbD
 by_cases c:(Qc8 Y.log m.index m.logTerm m.ents).2.1>0
 ·rw[if_pos c]
  obtain⟨p,h1,h2,h3,h4,_⟩:=QoB c
  unfold QaN
  generalize Qc8 Y.log m.index m.logTerm m.ents=r at*
  refine⟨h.hard,fun x=> ?_, ?_,fun x=> ?_⟩
  ·have x:(if Y.from_=0\/r.2.1<Y.from_ then r.2.1 else Y.from_)=0:=x
   rw[if_pos (.inl hf)] at x;omega
  ·show 0<=(if Y.from_=0\/r.2.1<Y.from_ then r.2.1 else Y.from_)
   rw[if_pos (.inl hf)];omega
  ·show(if Y.from_=0\/r.2.1<Y.from_ then r.2.1 else Y.from_)<=(X.log.length:Int)+1/\(if Y.from_=0\/r.2.1<Y.from_ then r.2.1 else Y.from_)<=(r.1.length:Int)/\r.1.take ((if Y.from_=0\/r.2.1<Y.from_ then r.2.1 else Y.from_).toNat -1)=X.log.take ((if Y.from_=0\/r.2.1<Y.from_ then r.2.1 else Y.from_).toNat -1)
   rw[if_pos (.inl hf),h1,show((p:Int)+1).toNat -1=p by omega,h4,hl]
   rw[hl] at h2
   exact⟨by omega,by omega,rfl⟩
 ·rw[if_neg c,Qly c]
  exact h.like rfl rfl rfl rfl rfl
theorem app0_from(X:RN)(m:RM):(Qag X m).from_=X.from_:=by rw[Qaz]
theorem sv_app0(h:SV X Y):SV X (Qag Y m):=by rw[Qaz];exact h.like rfl rfl rfl rfl rfl
theorem sv_append(h:SV X Y)(hf:Y.from_=0):SV X (QaV Y m):=by
 unfold QaV
 split
 ·exact h
 split
 ·exact(sv_app0 h).like rfl rfl rfl rfl rfl
 split
 ·exact(sv_app0 h).like rfl rfl rfl rfl rfl
 ·exact(sv_put (sv_app0 h) (by rw[app0_from];exact hf)).like rfl rfl rfl rfl rfl
theorem sv_hears(h:SV X Y):SV X (QaC Y m):=by
 unfold QaC
 split
 ·exact h
 split
 ·have h1:SV X (Qaf (Qau Y m.from_.toNat m.index)):=sv_agree (h.like rfl rfl rfl rfl rfl)
  split
  ·exact h1.like rfl rfl rfl rfl rfl
  ·exact h1
 split
 ·exact h.like rfl rfl rfl rfl rfl
 ·exact h.like rfl rfl rfl rfl rfl
theorem sv_askVote(h:SV X Y):SV X (Qbg Y m):=by
 unfold Qbg
 by_cases hv:Qbm Y m
 ·rw[if_pos hv]
  by_cases hd:(Y.hard||(Y.vote !=m.from_))=true
  ·exact h.set rfl hd rfl
  ·rw[Bool.not_eq_true,Bool.or_eq_false_iff] at hd
   have e:Y.vote=m.from_:=by simpa using hd.2
   refine h.like rfl e.symm rfl ?_ rfl
   show(Y.hard||(Y.vote !=m.from_))=Y.hard
   rw[hd.1,hd.2];rfl
 ·rw[if_neg hv];exact h.like rfl rfl rfl rfl rfl
theorem sv_tellVote(h:SV X Y):SV X (Qar Y m):=by
 unfold Qar
 split
 ·exact h
 split
 ·exact sv_leads (h.like rfl rfl rfl rfl rfl)
 ·exact h.like rfl rfl rfl rfl rfl
theorem sv_tellPre(h:SV X Y):SV X (QaS Y m):=by
 unfold QaS
 split
 ·exact Qi1 h
 split
 ·split
  ·exact sv_stands (h.like rfl rfl rfl rfl rfl)
  ·exact h.like rfl rfl rfl rfl rfl
 ·exact h
theorem Qh1(X:RN)(m:RM):(Qab X m).from_=X.from_/\(Qab X m).log=X.log:=by
 unfold Qab Qai
 split<;>(try split)<;>exact⟨rfl,rfl⟩
theorem QlV(hf:X.from_=0):SV X (Qaa X m):=by
 have h:=SV.start hf
 have h1:=sv_newer (m:=m) h
 have hf1:(Qab X m).from_=0:=by rw[(Qh1 X m).1];exact hf
 unfold Qaa
 split
 ·exact h
 split
 ·exact h.like rfl rfl rfl rfl rfl
 split
 ·exact sv_tellPre h
 split
 ·split
  ·exact h1.like rfl rfl rfl rfl rfl
  ·exact h1
 split
 ·exact sv_askVote h1
 split
 ·exact sv_tellVote h1
 split
 ·exact sv_append h1 hf1
 ·exact sv_hears h1
end
def Part(X Y:RN)(T vt:Int)(l:List RE):Prop:=
 (T=X.term/\vt=X.vote/\l=X.log)\/(Y.hard=true/\T=Y.term/\vt=Y.vote/\l=X.log)\/(0<Y.from_/\T=Y.term/\vt=Y.vote/\∃q,Y.from_.toNat<=q/\l=Y.log.take q)
section
variable {k:Nat}{g:GH}{i:Nat}{X Y:RN}{m:RM}
def Torn(k:Nat)(g:GH)(i:Nat)(X Y:RN):Prop:=∃g',GBy i g g'/\GI k g'/\∀T vt l,Part X Y T vt l->DI g' i T vt l
theorem QlQ(I:GI k g)(h:NI k g i X)(hf:Y.from_=0)(hT:X.term<Y.term\/(Y.term=X.term/\(X.vote= -1\/Y.vote=X.vote))):Torn k g i X Y:=by
 refine⟨g,GBy.refl i g,I,fun T vt l hp=> ?_⟩
 rcases hp with⟨rfl,rfl,rfl⟩|⟨_,rfl,rfl,rfl⟩|⟨h1,_⟩
 ·exact h.d
 ·rcases hT with hT|⟨hT,hv⟩
  ·exact h.d.up hT
  ·have d:=h.d
   refine⟨d.lm,d.mono,by rw[hT];exact d.ter,by rw[hT];exact d.kp,by rw[hT];exact d.futV,by rw[hT];exact d.futC,by rw[hT];exact d.futA,by rw[hT];exact d.futL, ?_,by rw[hT];exact d.t0,by rw[hT];exact d.cur⟩
   rw[hT,h.v]
   rcases hv with hv|hv
   ·exact .inl hv
   ·exact .inr hv.symm
 ·omega
theorem newer_tv(X:RN)(m:RM):X.term<(Qab X m).term\/((Qab X m).term=X.term/\(Qab X m).vote=X.vote):=by
 unfold Qab Qai
 split
 ·rename_i h
  first
  |exact .inl h
  |(rw[if_pos h];exact .inl h)
 ·exact .inr ⟨rfl,rfl⟩
theorem torn_leads(I:GI k g)(h:NI k g i X)(hh:X.hard=false)(hf:X.from_=0)(hr:X.role=2){v:Nat}(hm:QaF X v)(hv:v<128)(hq:∀t,v.testBit t=true->t<k/\g.V t X.term=i/\(g.ll X.term= []->Rec g X.term i t)):Torn k g i X (Qbh {X with votes:=v}):=by
 have c:=h.cand hr
 obtain⟨h0,hmaj⟩:=c.none I h hm hv hq
 have hter:=Qce h.d.ter h.d.t0
 unfold Qbh
 have ea:Qc7 (Qay {X with votes:=v}) ⟨#[]⟩=if X.log.length>=1024 then(Qay {X with votes:=v},7) else(Qaf (Qa4 (QaN {Qay {X with votes:=v} with log:=X.log++ [⟨X.term,⟨#[]⟩⟩]} ((X.log.length:Int)+1))),0):=by
  unfold Qc7
  rw[if_neg (show ¬(Qay {X with votes:=v}).term<Qa9 (Qay {X with votes:=v}).log from by show ¬X.term<Qa9 X.log;omega)]
  rfl
 rw[ea]
 by_cases hl:X.log.length>=1024
 ·rw[if_pos hl,if_pos (show(7:Int)≠0 by decide)]
  refine QlQ I h ?_ (.inr ?_)
  ·unfold Qai;split<;>exact hf
  ·unfold Qai
   rw[if_neg (by show ¬X.term>X.term;omega)]
   exact⟨rfl,.inr rfl⟩
 ·rw[if_neg hl,if_neg (show ¬(0:Int)≠0 by decide)]
  have I1:GI k (g.setL i X.term (X.log++ [⟨X.term,⟨#[]⟩⟩])):=setL_new I h0 h.ik c.cl h.d.lm h.d.mono c.ter c.t1 rfl hmaj (show(0:Nat)<=100 from by decide)
  have hp:g.ll X.term<+:X.log++ [⟨X.term,⟨#[]⟩⟩]:=by rw[h0];exact List.nil_prefix
  have hd:g.ll X.term≠ []->g.ld X.term=i:=fun x=>absurd h0 x
  have G:=setL_by hp hd (.inr ⟨X.term,X.log,_,rfl,h.d.lm,.inr ⟨h0,fun x hx=>by have:=c.ter x hx;omega⟩,rfl⟩)
  refine⟨_,G,I1,fun T vt l hpt=> ?_⟩
  have d:=h.d
  obtain⟨e1,e2,e3,e4,e5,e6,_⟩:=Qan (Qa4 (QaN {Qay {X with votes:=v} with log:=X.log++ [⟨X.term,⟨#[]⟩⟩]} ((X.log.length:Int)+1)))
  have hL:∀t,X.term<t->(g.setL i X.term (X.log++ [⟨X.term,⟨#[]⟩⟩])).ll t≠ []->(g.setL i X.term (X.log++ [⟨X.term,⟨#[]⟩⟩])).ld t≠i:=fun t ht hne=>by
   have hne:(if t=X.term then _ else g.ll t)≠ []:=hne
   show(if t=X.term then(i:Int) else g.ld t)≠i
   rw[if_neg (by omega)] at hne⊢
   exact d.futL t ht hne
  have hfull:DI (g.setL i X.term (X.log++ [⟨X.term,⟨#[]⟩⟩])) i X.term X.vote (X.log++ [⟨X.term,⟨#[]⟩⟩]):=
   ⟨Qos I d.lm hp hd rfl,Qji d.mono d.ter rfl,Qls d.ter rfl c.t1,(d.kp.grow I G.toGLe fun _=>rfl).more (List.prefix_append _ _),d.futV,d.futC,d.futA,hL,d.vot,d.t0,by rw[Qdb];exact QbT _ _⟩
  have h9:g.ack i X.term=0:=by have:=I.A i X.term;rw[h0] at this;exact Nat.le_zero.1 this
  rcases hpt with⟨rfl,rfl,rfl⟩|⟨h1,_⟩|⟨_,h2,h3,q,h4,h5⟩
  ·exact⟨d.lm.grow G.toGLe,d.mono,d.ter,d.kp.grow I G.toGLe fun _=>rfl,d.futV,d.futC,d.futA,hL,d.vot,d.t0,by show List.take (g.ack i X.term) _<+:X.log;rw[h9,List.take_zero];exact List.nil_prefix⟩
  ·rw[e5] at h1
   have h1:X.hard=true:=h1
   rw[hh] at h1;cases h1
  ·rw[e1] at h2
   rw[e4] at h3
   rw[e6] at h4
   rw[e3] at h5
   have h4:(if X.from_=0\/(X.log.length:Int)+1<X.from_ then(X.log.length:Int)+1 else X.from_).toNat<=q:=h4
   rw[if_pos (.inl hf)] at h4
   have h5:l=(X.log++ [(⟨X.term,⟨#[]⟩⟩:RE)]).take q:=h5
   rw[List.take_of_length_le (by rw[List.length_append,List.length_singleton];omega)] at h5
   have h2:T=X.term:=h2
   have h3:vt=X.vote:=h3
   rw[h2,h3,h5]
   exact hfull
theorem QoE:∀x:Fin 7,QoF 7 (2^x.val)=1:=by decide
theorem Qcy(h:NI k g i X)(hf:0<=m.from_/\m.from_<X.n/\m.from_≠X.id):¬QaF X (2^X.id.toNat):=fun hm=>by
 have h1:=h.n
 have h2:=h.id
 have h3:=h.ik
 have h4:=h.k7
 have e:=QoE ⟨i,by omega⟩
 simp only at e
 unfold QaF at hm
 rw[show X.id.toNat=i by omega,e] at hm
 omega
theorem torn_step(I:GI k g)(h:NI k g i X)(ho:X.out= [])(hh:X.hard=false)(hf:X.from_=0)(hm:MI k g m):Torn k g i X (Qaa X m):=by
 have same:∀{Y:RN},Y.from_=X.from_->Y.term=X.term->Y.vote=X.vote->Torn k g i X Y:=fun h1 h2 h3=>QlQ I h (by rw[h1];exact hf) (.inr ⟨h2,.inr h3⟩)
 unfold Qaa
 split
 ·exact same rfl rfl rfl
 rename_i hc
 obtain⟨c1,c2,c3,c4,c5,c6,c7,c8,_,_⟩:=Decidable.not_not.1 hc
 split
 ·exact same rfl rfl rfl
 split
 ·unfold QaS
  split
  ·rename_i hy
   refine QlQ I h ?_ (.inl ?_)
   ·unfold Qai;split<;>exact hf
   ·unfold Qai;rw[if_pos hy.2];exact hy.2
  split
  ·split
   ·unfold QaU
    rw[if_neg (show ¬QaF {X with votes:=X.votes|||2^m.from_.toNat} (2^X.id.toNat) from fun hm=>Qcy (X:=X) (m:=m) h ⟨c3,c4,c2⟩ hm)]
    exact QlQ I h hf (.inl (by show X.term<X.term+1;omega))
   ·exact same rfl rfl rfl
  ·exact same rfl rfl rfl
 have hw:=newer_tv X m
 have hfr:=Qh1 X m
 have hnt:=QnP X m
 have S1:NI k g i (Qab X m):=(Qoq (m:=m) ⟨h,by rw[ho];intro m hm;cases hm⟩).ni
 have tv:∀{Y:RN},Y.from_=X.from_->Y.term=(Qab X m).term->((Qab X m).vote= -1\/Y.vote=(Qab X m).vote)->Torn k g i X Y:=fun{Y} h1 h2 h3=>QlQ I h (by rw[h1];exact hf) (by
  rw[h2]
  rcases hw with x|⟨x,y⟩
  ·exact .inl x
  ·rw[y] at h3;exact .inr ⟨x,h3⟩)
 split
 ·split
  ·exact tv hfr.1 rfl (.inr rfl)
  ·exact tv hfr.1 rfl (.inr rfl)
 have ht:m.term=(Qab X m).term:=by omega
 split
 ·unfold Qbg
  by_cases hv:Qbm (Qab X m) m
  ·rw[if_pos hv]
   refine tv hfr.1 rfl ?_
   rcases hv.1 with x|x
   ·exact .inl x
   ·exact .inr x.symm
  ·rw[if_neg hv];exact tv hfr.1 rfl (.inr rfl)
 split
 ·rename_i k4
  unfold Qar
  split
  ·exact tv hfr.1 rfl (.inr rfl)
  ·rename_i hno
   have hr:(Qab X m).role=2:=Decidable.byContradiction fun e=>hno (.inr e)
   have hZ:Qab X m=X:=by
    unfold Qab Qai at hr⊢
    split
    ·rename_i h1
     rw[if_pos h1,if_pos h1] at hr
     exact absurd hr (by decide:¬(0:Int)=2)
    ·rfl
   rw[hZ] at hno hr ht⊢
   have hy:m.yes=true:=by cases e:m.yes;exact absurd (.inl e) hno;rfl
   obtain⟨a,b,c,d,f⟩:=hm.2.1 k4 hy
   have hid:=h.id
   have hn:=h.n
   have hk7:=h.k7
   rw[ht] at d f
   rw[c1,hid] at d f
   have cd:=h.cand hr
   have hq:∀t,(X.votes|||2^m.from_.toNat).testBit t=true->t<k/\g.V t X.term=i/\(g.ll X.term= []->Rec g X.term i t):=fun t htb=>by
    rw[Nat.testBit_or,Bool.or_eq_true] at htb
    rcases htb with htb|htb
    ·exact cd.vs t htb
    ·rw[Qh9 htb]
     exact⟨by omega,d,f⟩
   have hv7:X.votes|||2^m.from_.toNat<128:=or7 h.vb c3 (by omega)
   split
   ·rename_i hmo
    exact torn_leads I h hh hf hr hmo hv7 hq
   ·exact same rfl rfl rfl
 split
 ·rename_i k5
  unfold QaV
  have e0:=Qaz (Qab X m) m
  split
  ·exact tv hfr.1 rfl (.inr rfl)
  split
  ·rw[e0];exact tv hfr.1 rfl (.inr rfl)
  split
  ·rw[e0];exact tv hfr.1 rfl (.inr rfl)
  ·rename_i hr hc hok
   have A:=app_core I S1 hm k5 ht (Decidable.not_not.1 hok)
   obtain⟨p1,p2,_,_,_,_,_,_,_,p10⟩:=Qhg (Qag (Qab X m) m) m
   rw[e0] at p1 p2 p10⊢
   by_cases hch:(Qc8 (Qab X m).log m.index m.logTerm m.ents).2.1>0
   ·obtain⟨p,q1,q2,q3,q4,_,q5,q6,q7⟩:=A.new hch
    refine⟨g,GBy.refl i g,I,fun T vt l hp=> ?_⟩
    have hfrom:(QbD {Qab X m with role:=0,leader:=m.from_,since:=0} m).from_=(p:Int)+1:=by
     unfold QbD QaN
     rw[if_pos hch]
     show(if(Qab X m).from_=0\/_<(Qab X m).from_ then(Qc8 (Qab X m).log m.index m.logTerm m.ents).2.1 else _)=_
     rw[if_pos (.inl (by rw[hfr.1];exact hf)),q1]
    rcases hp with⟨rfl,rfl,rfl⟩|⟨_,h2,h3,h5⟩|⟨_,h2,h3,q,h4,h5⟩
    ·exact h.d
    ·have h2:T=(QbD {Qab X m with role:=0,leader:=m.from_,since:=0} m).term:=h2
     have h3:vt=(QbD {Qab X m with role:=0,leader:=m.from_,since:=0} m).vote:=h3
     rw[h2,h3,h5,p1,p2,<-hfr.2]
     exact S1.d
    ·have h2:T=(QbD {Qab X m with role:=0,leader:=m.from_,since:=0} m).term:=h2
     have h3:vt=(QbD {Qab X m with role:=0,leader:=m.from_,since:=0} m).vote:=h3
     have h4:(QbD {Qab X m with role:=0,leader:=m.from_,since:=0} m).from_.toNat<=q:=h4
     have h5:l=(QbD {Qab X m with role:=0,leader:=m.from_,since:=0} m).log.take q:=h5
     rw[hfrom] at h4
     rw[h2,h3,h5,p1,p2,p10]
     show DI g i (Qab X m).term (Qab X m).vote ((Qc8 (Qab X m).log m.index m.logTerm m.ents).1.take q)
     rw[q5,List.take_take]
     exact q7 _ (by omega)
   ·refine tv ?_ p1 (.inr p2)
    show(QbD {Qab X m with role:=0,leader:=m.from_,since:=0} m).from_=_
    unfold QbD
    rw[if_neg hch]
    exact hfr.1
 ·unfold QaC
  split
  ·exact tv hfr.1 rfl (.inr rfl)
  split
  ·obtain⟨e1,_,_,e4,_,e6,_⟩:=Qan (Qau (Qab X m) m.from_.toNat m.index)
   split
   ·exact tv (e6.trans hfr.1) e1 (.inr e4)
   ·exact tv (e6.trans hfr.1) e1 (.inr e4)
  split
  ·exact tv hfr.1 rfl (.inr rfl)
  ·exact tv hfr.1 rfl (.inr rfl)
end
end
section
set_option maxRecDepth 1000000
open Go
theorem mixed_:Tryz.prog.follows .mixedOrders=true:=by kernel_rfl
theorem Qbb{an:List (Nat×Slots)}{f:FuncId}{fn:Func}{args:List Value}{h:Heap}{ss:List Sh}{R:TH (Heap->Prop) ss}{S:Prop}(hf:Tryz.prog.funcs[f]? =some fn)(hb:QkZ fn args.length=true)(e:VF Tryz.prog an fn args h ss R=S)(hs:S):CallR Tryz.prog f args h ss R:=VF_sound (an:=an) mixed_ hf hb (cast e.symm hs)
def Qga(a0:Int)(a1:Sl)(h:Heap)(R:Bool->Heap->Prop):Prop:=CallR Tryz.prog 7 [.int .u8 a0,.slice a1.a a1.n a1.c] h [.one .bool] R
def QeF(h:Heap)(R:Bool->Heap->Prop):Prop:=CallR Tryz.prog 8 [] h [.one .bool] R
def Qgw(a0:Sl)(h:Heap)(R:Bool->Heap->Prop):Prop:=CallR Tryz.prog 9 [.slice a0.a a0.n a0.c] h [.one .bool] R
def QdU(a0:Int)(h:Heap)(R:Option Addr->Heap->Prop):Prop:=CallR Tryz.prog 10 [.int .i64 a0] h [.one .ptr] R
def Qaq(a0:Option Addr)(a1:KL [.int .i64,.int .i64,.int .i64,.int .i64,.int .i64,.int .i64,.int .u8,.str])(h:Heap)(R:Int->Heap->Prop):Prop:=CallR Tryz.prog 11 [.pointer a0,.agg ⟨KL.vals [.int .i64,.int .i64,.int .i64,.int .i64,.int .i64,.int .i64,.int .u8,.str] a1⟩] h [.one (.int .i64)] R
def QaE(a0:Option Addr)(a1:Int)(h:Heap)(R:Option Addr->Heap->Prop):Prop:=CallR Tryz.prog 12 [.pointer a0,.int .i64 a1] h [.one .ptr] R
def Qda(a0:Option Addr)(h:Heap)(R:Int->Heap->Prop):Prop:=CallR Tryz.prog 13 [.pointer a0] h [.one (.int .i64)] R
def Qcg(a0:Option Addr)(h:Heap)(R:Int->Heap->Prop):Prop:=CallR Tryz.prog 14 [.pointer a0] h [.one (.int .i64)] R
def QdE(a0:Option Addr)(a1:Int)(h:Heap)(R:Option Addr->Heap->Prop):Prop:=CallR Tryz.prog 16 [.pointer a0,.int .i64 a1] h [.one .ptr] R
def QdF(a0:Option Addr)(h:Heap)(R:Int->Heap->Prop):Prop:=CallR Tryz.prog 17 [.pointer a0] h [.one (.int .i64)] R
def Qe3(a0:Option Addr)(h:Heap)(R:Int->Heap->Prop):Prop:=CallR Tryz.prog 18 [.pointer a0] h [.one (.int .i64)] R
def Qd3(a0:Option Addr)(h:Heap)(R:KL [.int .i64,.int .i64,.sl]->Int->Heap->Prop):Prop:=CallR Tryz.prog 19 [.pointer a0] h [.agg [.int .i64,.int .i64,.sl],.one (.int .i64)] R
def QdV(a0:Option Addr)(a1:Sl)(h:Heap)(R:Heap->Prop):Prop:=CallR Tryz.prog 22 [.pointer a0,.slice a1.a a1.n a1.c] h [] R
def QbG(a0:Option Addr)(a1:Int)(h:Heap)(R:Int->Heap->Prop):Prop:=CallR Tryz.prog 23 [.pointer a0,.int .i64 a1] h [.one (.int .i64)] R
def Qb3(a0:Option Addr)(h:Heap)(R:Int->Bool->Heap->Prop):Prop:=CallR Tryz.prog 24 [.pointer a0] h [.one (.int .i64),.one .bool] R
def Qa6(a0:Option Addr)(h:Heap)(R:Int->Heap->Prop):Prop:=CallR Tryz.prog 25 [.pointer a0] h [.one (.int .i64)] R
def Qct(a0:Option Addr)(h:Heap)(R:Int->Heap->Prop):Prop:=CallR Tryz.prog 26 [.pointer a0] h [.one (.int .i64)] R
def QcV(a0:Option Addr)(h:Heap)(R:Sl->Heap->Prop):Prop:=CallR Tryz.prog 27 [.pointer a0] h [.one .sl] R
def QbL(a0:Option Addr)(h:Heap)(R:Int->Heap->Prop):Prop:=CallR Tryz.prog 28 [.pointer a0] h [.one (.int .i64)] R
def QcB(h:Heap)(R:Option Addr->Heap->Prop):Prop:=CallR Tryz.prog 29 [] h [.one .ptr] R
def Qia(a0:Int)(a1:Int)(a2:Int)(a3:Int)(a4:KL [.int .i64,.int .i64,.sl])(h:Heap)(R:Option Addr->Int->Heap->Prop):Prop:=CallR Tryz.prog 30 [.int .i64 a0,.int .i64 a1,.int .i64 a2,.int .i64 a3,.agg ⟨KL.vals [.int .i64,.int .i64,.sl] a4⟩] h [.one .ptr,.one (.int .i64)] R
def Qkx(h:Heap)(R:Option Addr->Heap->Prop):Prop:=CallR Tryz.prog 31 [] h [.one .ptr] R
def QdC(a0:Option Addr)(a1:KL [.int .i64,.int .i64,.int .i64,.int .i64,.int .i64,.int .i64,.int .u8,.str])(h:Heap)(R:Int->Heap->Prop):Prop:=CallR Tryz.prog 32 [.pointer a0,.agg ⟨KL.vals [.int .i64,.int .i64,.int .i64,.int .i64,.int .i64,.int .i64,.int .u8,.str] a1⟩] h [.one (.int .i64)] R
def QcE(a0:Option Addr)(a1:KL [.int .i64,.int .i64,.int .i64,.int .i64,.int .i64,.int .i64,.int .u8,.str])(h:Heap)(R:Int->Heap->Prop):Prop:=CallR Tryz.prog 33 [.pointer a0,.agg ⟨KL.vals [.int .i64,.int .i64,.int .i64,.int .i64,.int .i64,.int .i64,.int .u8,.str] a1⟩] h [.one (.int .i64)] R
def QbS(a0:Option Addr)(a1:Int)(h:Heap)(R:Bool->Heap->Prop):Prop:=CallR Tryz.prog 34 [.pointer a0,.int .i64 a1] h [.one .bool] R
def Qd2(a0:Option Addr)(a1:Int)(a2:Int)(h:Heap)(R:Sl->Heap->Prop):Prop:=CallR Tryz.prog 35 [.pointer a0,.int .i64 a1,.int .i64 a2] h [.one .sl] R
def Qgt(a0:Option Addr)(h:Heap)(R:Sl->Int->Heap->Prop):Prop:=CallR Tryz.prog 36 [.pointer a0] h [.one .sl,.one (.int .i64)] R
def QiP(a0:Sl)(h:Heap)(R:KL [.int .i64,.int .i64,.sl]->Int->Heap->Prop):Prop:=CallR Tryz.prog 37 [.slice a0.a a0.n a0.c] h [.agg [.int .i64,.int .i64,.sl],.one (.int .i64)] R
def Qb1(a0:Option Addr)(h:Heap)(R:Int->Heap->Prop):Prop:=CallR Tryz.prog 39 [.pointer a0] h [.one (.int .i64)] R
def Qa0(a0:Option Addr)(h:Heap)(R:Int->Int->Heap->Prop):Prop:=CallR Tryz.prog 40 [.pointer a0] h [.one (.int .i64),.one (.int .i64)] R
def Qb2(a0:Option Addr)(h:Heap)(R:Sl->Heap->Prop):Prop:=CallR Tryz.prog 41 [.pointer a0] h [.one .sl] R
def QhK(a0:KL [.int .i64,.int .i64,.sl])(h:Heap)(R:Bool->Heap->Prop):Prop:=CallR Tryz.prog 42 [.agg ⟨KL.vals [.int .i64,.int .i64,.sl] a0⟩] h [.one .bool] R
def QmW(a0:Sl)(h:Heap)(R:Option Addr->Heap->Prop):Prop:=CallR Tryz.prog 43 [.slice a0.a a0.n a0.c] h [.one .ptr] R
def QcD(a0:Option Addr)(a1:Int)(h:Heap)(R:Int->Heap->Prop):Prop:=CallR Tryz.prog 44 [.pointer a0,.int .i64 a1] h [.one (.int .i64)] R
def QaK(a0:Option Addr)(a1:Int)(a2:Value)(h:Heap)(R:Int->Heap->Prop):Prop:=CallR Tryz.prog 45 [.pointer a0,.int .i64 a1,a2] h [.one (.int .i64)] R
def QeB(a0:Option Addr)(a1:Option Addr)(h:Heap)(R:Int->Heap->Prop):Prop:=CallR Tryz.prog 46 [.pointer a0,.pointer a1] h [.one (.int .i64)] R
def Qeo(a0:Option Addr)(a1:Int)(h:Heap)(R:Heap->Prop):Prop:=CallR Tryz.prog 47 [.pointer a0,.int .i64 a1] h [] R
def QeA(a0:Option Addr)(a1:Option Addr)(h:Heap)(R:Int->Heap->Prop):Prop:=CallR Tryz.prog 48 [.pointer a0,.pointer a1] h [.one (.int .i64)] R
def Qdf(a0:Option Addr)(a1:ByteArray)(h:Heap)(R:Int->Int->Heap->Prop):Prop:=CallR Tryz.prog 49 [.pointer a0,.string a1] h [.one (.int .i64),.one (.int .i64)] R
def QbA(a0:Option Addr)(a1:Int)(a2:KL [.int .i64,.int .i64,.int .i64,.int .i64,.int .i64,.int .i64,.int .u8,.str])(h:Heap)(R:Heap->Prop):Prop:=CallR Tryz.prog 50 [.pointer a0,.int .i64 a1,.agg ⟨KL.vals [.int .i64,.int .i64,.int .i64,.int .i64,.int .i64,.int .i64,.int .u8,.str] a2⟩] h [] R
def QaQ(a0:Option Addr)(a1:Int)(h:Heap)(R:Int->Heap->Prop):Prop:=CallR Tryz.prog 51 [.pointer a0,.int .i64 a1] h [.one (.int .i64)] R
def QaJ(a0:Option Addr)(a1:Int)(h:Heap)(R:KL [.int .i64,.int .i64,.int .i64,.int .i64,.int .i64,.int .i64,.int .i64,.bool,.sl]->Int->Heap->Prop):Prop:=CallR Tryz.prog 52 [.pointer a0,.int .i64 a1] h [.agg [.int .i64,.int .i64,.int .i64,.int .i64,.int .i64,.int .i64,.int .i64,.bool,.sl],.one (.int .i64)] R
def QcF(a0:Option Addr)(a1:Int)(h:Heap)(R:KL [.int .i64,.int .i64,.int .i64,.int .i64,.int .i64,.int .i64,.int .i64,.bool,.sl]->Int->Heap->Prop):Prop:=CallR Tryz.prog 53 [.pointer a0,.int .i64 a1] h [.agg [.int .i64,.int .i64,.int .i64,.int .i64,.int .i64,.int .i64,.int .i64,.bool,.sl],.one (.int .i64)] R
def QdD(a0:Option Addr)(a1:Option Addr)(h:Heap)(R:Int->Heap->Prop):Prop:=CallR Tryz.prog 54 [.pointer a0,.pointer a1] h [.one (.int .i64)] R
def Qch(a0:Option Addr)(a1:KL [.int .i64,.int .i64,.int .i64,.int .i64,.int .i64,.int .i64,.int .i64,.bool,.sl])(h:Heap)(R:Heap->Prop):Prop:=CallR Tryz.prog 55 [.pointer a0,.agg ⟨KL.vals [.int .i64,.int .i64,.int .i64,.int .i64,.int .i64,.int .i64,.int .i64,.bool,.sl] a1⟩] h [] R
def QaZ(a0:Option Addr)(a1:Int)(h:Heap)(R:Int->Heap->Prop):Prop:=CallR Tryz.prog 56 [.pointer a0,.int .i64 a1] h [.one (.int .i64)] R
def QaM(a0:Sl)(h:Heap)(R:Sl->Heap->Prop):Prop:=CallR Tryz.prog 57 [.slice a0.a a0.n a0.c] h [.one .sl] R
def Qkw(a0:Sl)(h:Heap)(R:Sl->Int->Int->Heap->Prop):Prop:=CallR Tryz.prog 58 [.slice a0.a a0.n a0.c] h [.one .sl,.one (.int .i64),.one (.int .i64)] R
def QdY(a0:Option Addr)(h:Heap)(R:Sl->Heap->Prop):Prop:=CallR Tryz.prog 59 [.pointer a0] h [.one .sl] R
def Qe4(a0:Option Addr)(a1:Int)(h:Heap)(R:Int->Heap->Prop):Prop:=CallR Tryz.prog 60 [.pointer a0,.int .i64 a1] h [.one (.int .i64)] R
def QiM(a0:Sl)(h:Heap)(R:Option Addr->Heap->Prop):Prop:=CallR Tryz.prog 61 [.slice a0.a a0.n a0.c] h [.one .ptr] R
def QdB(a0:Option Addr)(a1:Option Addr)(h:Heap)(R:Heap->Prop):Prop:=CallR Tryz.prog 62 [.pointer a0,.pointer a1] h [] R
def Qdg(a0:Option Addr)(a1:Option Addr)(h:Heap)(R:Heap->Prop):Prop:=CallR Tryz.prog 63 [.pointer a0,.pointer a1] h [] R
def Qdu(a0:Option Addr)(h:Heap)(R:Bool->Heap->Prop):Prop:=CallR Tryz.prog 64 [.pointer a0] h [.one .bool] R
def QhM(a0:KL [.int .i64,.int .i64,.sl])(h:Heap)(R:Bool->Heap->Prop):Prop:=CallR Tryz.prog 65 [.agg ⟨KL.vals [.int .i64,.int .i64,.sl] a0⟩] h [.one .bool] R
def Qby(a0:Sl)(h:Heap)(R:Sl->Heap->Prop):Prop:=CallR Tryz.prog 66 [.slice a0.a a0.n a0.c] h [.one .sl] R
def QbC(a0:Option Addr)(h:Heap)(R:Int->Heap->Prop):Prop:=CallR Tryz.prog 67 [.pointer a0] h [.one (.int .i64)] R
def Qb7(a0:Option Addr)(h:Heap)(R:Sl->Heap->Prop):Prop:=CallR Tryz.prog 68 [.pointer a0] h [.one .sl] R
def QaB(a0:Option Addr)(a1:KL [.int .i64,.int .i64,.int .i64,.int .i64,.int .i64,.int .i64,.int .i64,.bool,.sl])(h:Heap)(R:Int->Heap->Prop):Prop:=CallR Tryz.prog 69 [.pointer a0,.agg ⟨KL.vals [.int .i64,.int .i64,.int .i64,.int .i64,.int .i64,.int .i64,.int .i64,.bool,.sl] a1⟩] h [.one (.int .i64)] R
def Qem(a0:Option Addr)(h:Heap)(R:Heap->Prop):Prop:=CallR Tryz.prog 70 [.pointer a0] h [] R
def Qen(a0:Option Addr)(h:Heap)(R:Heap->Prop):Prop:=CallR Tryz.prog 71 [.pointer a0] h [] R
def Qdz(a0:Option Addr)(a1:ByteArray)(h:Heap)(R:Int->Heap->Prop):Prop:=CallR Tryz.prog 72 [.pointer a0,.string a1] h [.one (.int .i64)] R
def QdX(a0:Option Addr)(a1:Int)(a2:Int)(a3:Int)(h:Heap)(R:Int->Heap->Prop):Prop:=CallR Tryz.prog 73 [.pointer a0,.int .i64 a1,.int .i64 a2,.int .u8 a3] h [.one (.int .i64)] R
def Qbz(a0:Option Addr)(a1:Int)(h:Heap)(R:Int->Heap->Prop):Prop:=CallR Tryz.prog 74 [.pointer a0,.int .i64 a1] h [.one (.int .i64)] R
def QaY(a0:Sl)(a1:Int)(a2:Int)(h:Heap)(R:Sl->Heap->Prop):Prop:=CallR Tryz.prog 75 [.slice a0.a a0.n a0.c,.int .i64 a1,.int .i64 a2] h [.one .sl] R
def Qdv(a0:Option Addr)(a1:KL [.int .i64,.int .i64,.int .i64,.int .i64,.int .i64,.int .i64,.int .i64,.bool,.sl])(h:Heap)(R:Bool->Heap->Prop):Prop:=CallR Tryz.prog 76 [.pointer a0,.agg ⟨KL.vals [.int .i64,.int .i64,.int .i64,.int .i64,.int .i64,.int .i64,.int .i64,.bool,.sl] a1⟩] h [.one .bool] R
def Qdw(a0:Option Addr)(a1:KL [.int .i64,.int .i64,.int .i64,.int .i64,.int .i64,.int .i64,.int .i64,.bool,.sl])(h:Heap)(R:Heap->Prop):Prop:=CallR Tryz.prog 77 [.pointer a0,.agg ⟨KL.vals [.int .i64,.int .i64,.int .i64,.int .i64,.int .i64,.int .i64,.int .i64,.bool,.sl] a1⟩] h [] R
def Qdd(a0:Option Addr)(a1:KL [.int .i64,.int .i64,.int .i64,.int .i64,.int .i64,.int .i64,.int .i64,.bool,.sl])(h:Heap)(R:Heap->Prop):Prop:=CallR Tryz.prog 78 [.pointer a0,.agg ⟨KL.vals [.int .i64,.int .i64,.int .i64,.int .i64,.int .i64,.int .i64,.int .i64,.bool,.sl] a1⟩] h [] R
def Qbc(a0:Option Addr)(a1:Int)(a2:Int)(h:Heap)(R:Heap->Prop):Prop:=CallR Tryz.prog 79 [.pointer a0,.int .i64 a1,.int .i64 a2] h [] R
def QbR(a0:Option Addr)(a1:Int)(a2:Bool)(a3:Int)(h:Heap)(R:Heap->Prop):Prop:=CallR Tryz.prog 80 [.pointer a0,.int .i64 a1,.bool a2,.int .i64 a3] h [] R
def Qde(a0:Option Addr)(a1:KL [.int .i64,.int .i64,.int .i64,.int .i64,.int .i64,.int .i64,.int .i64,.bool,.sl])(h:Heap)(R:Heap->Prop):Prop:=CallR Tryz.prog 81 [.pointer a0,.agg ⟨KL.vals [.int .i64,.int .i64,.int .i64,.int .i64,.int .i64,.int .i64,.int .i64,.bool,.sl] a1⟩] h [] R
def QcU(a0:Option Addr)(a1:KL [.int .i64,.int .i64,.int .i64,.int .i64,.int .i64,.int .i64,.int .i64,.bool,.sl])(h:Heap)(R:Heap->Prop):Prop:=CallR Tryz.prog 82 [.pointer a0,.agg ⟨KL.vals [.int .i64,.int .i64,.int .i64,.int .i64,.int .i64,.int .i64,.int .i64,.bool,.sl] a1⟩] h [] R
def Qdx(a0:Option Addr)(a1:KL [.int .i64,.int .i64,.int .i64,.int .i64,.int .i64,.int .i64,.int .i64,.bool,.sl])(h:Heap)(R:Heap->Prop):Prop:=CallR Tryz.prog 83 [.pointer a0,.agg ⟨KL.vals [.int .i64,.int .i64,.int .i64,.int .i64,.int .i64,.int .i64,.int .i64,.bool,.sl] a1⟩] h [] R
def QdT(a0:Option Addr)(a1:KL [.int .i64,.int .i64,.int .i64,.int .i64,.int .i64,.int .i64,.int .i64,.bool,.sl])(h:Heap)(R:Heap->Prop):Prop:=CallR Tryz.prog 84 [.pointer a0,.agg ⟨KL.vals [.int .i64,.int .i64,.int .i64,.int .i64,.int .i64,.int .i64,.int .i64,.bool,.sl] a1⟩] h [] R
def Qep(a0:Option Addr)(h:Heap)(R:KL [.bool,.int .i64,.int .i64,.int .i64,.sl]->Bool->Heap->Prop):Prop:=CallR Tryz.prog 85 [.pointer a0] h [.agg [.bool,.int .i64,.int .i64,.int .i64,.sl],.one .bool] R
def QhL(a0:Option Addr)(a1:KL [.bool,.int .i64,.int .i64,.int .i64,.sl])(h:Heap)(R:Int->Heap->Prop):Prop:=CallR Tryz.prog 86 [.pointer a0,.agg ⟨KL.vals [.bool,.int .i64,.int .i64,.int .i64,.sl] a1⟩] h [.one (.int .i64)] R
def QiR(a0:Sl)(h:Heap)(R:Sl->Int->Int->Heap->Prop):Prop:=CallR Tryz.prog 87 [.slice a0.a a0.n a0.c] h [.one .sl,.one (.int .i64),.one (.int .i64)] R
def Qdk(a0:Int)(h:Heap)(R:Int->Heap->Prop):Prop:=CallR Tryz.prog 88 [.int .i64 a0] h [.one (.int .i64)] R
def QeG(a0:Sl)(h:Heap)(R:Sl->Heap->Prop):Prop:=CallR Tryz.prog 89 [.slice a0.a a0.n a0.c] h [.one .sl] R
def QbI(a0:Option Addr)(a1:Int)(a2:Int)(h:Heap)(R:Int->Heap->Prop):Prop:=CallR Tryz.prog 90 [.pointer a0,.int .i64 a1,.int .i64 a2] h [.one (.int .i64)] R
def Qdt(a0:Option Addr)(a1:Int)(h:Heap)(R:ByteArray->Heap->Prop):Prop:=CallR Tryz.prog 91 [.pointer a0,.int .i64 a1] h [.one .str] R
def Qb0(a0:Option Addr)(h:Heap)(R:Bool->Heap->Prop):Prop:=CallR Tryz.prog 92 [.pointer a0] h [.one .bool] R
def Qbe(a0:Option Addr)(a1:Int)(h:Heap)(R:Bool->Heap->Prop):Prop:=CallR Tryz.prog 93 [.pointer a0,.int .u64 a1] h [.one .bool] R
def QbJ(a0:Option Addr)(h:Heap)(R:Heap->Prop):Prop:=CallR Tryz.prog 94 [.pointer a0] h [] R
def Qcs(a0:Option Addr)(h:Heap)(R:Heap->Prop):Prop:=CallR Tryz.prog 95 [.pointer a0] h [] R
def Qdy(a0:Option Addr)(a1:KL [.int .i64,.int .i64,.int .i64,.int .i64,.int .i64,.int .i64,.int .i64,.bool,.sl])(h:Heap)(R:Heap->Prop):Prop:=CallR Tryz.prog 96 [.pointer a0,.agg ⟨KL.vals [.int .i64,.int .i64,.int .i64,.int .i64,.int .i64,.int .i64,.int .i64,.bool,.sl] a1⟩] h [] R
def Qgv(a0:Option Addr)(a1:KL [.int .i64,.str])(h:Heap)(R:Int->Heap->Prop):Prop:=CallR Tryz.prog 97 [.pointer a0,.agg ⟨KL.vals [.int .i64,.str] a1⟩] h [.one (.int .i64)] R
def Qb6(a0:Option Addr)(a1:Int)(h:Heap)(R:Heap->Prop):Prop:=CallR Tryz.prog 98 [.pointer a0,.int .i64 a1] h [] R
def QcN(a0:Option Addr)(h:Heap)(R:Heap->Prop):Prop:=CallR Tryz.prog 99 [.pointer a0] h [] R
def Qez(a0:KL [.int .i64,.str])(a1:Option Addr)(h:Heap)(R:Bool->Heap->Prop):Prop:=CallR Tryz.prog 100 [.agg ⟨KL.vals [.int .i64,.str] a0⟩,.pointer a1] h [.one .bool] R
def Qbj(a0:Sl)(a1:Value)(h:Heap)(R:Bool->Heap->Prop):Prop:=CallR Tryz.prog 101 [.slice a0.a a0.n a0.c,a1] h [.one .bool] R
def QbK(a0:Option Addr)(a1:Int)(a2:Int)(h:Heap)(R:Bool->Heap->Prop):Prop:=CallR Tryz.prog 102 [.pointer a0,.int .i64 a1,.int .i64 a2] h [.one .bool] R
def Qa5(a0:Option Addr)(a1:Int)(a2:KL [.int .i64,.int .i64,.int .i64,.int .i64,.int .i64,.int .i64,.int .i64,.bool,.sl])(h:Heap)(R:Heap->Prop):Prop:=CallR Tryz.prog 103 [.pointer a0,.int .i64 a1,.agg ⟨KL.vals [.int .i64,.int .i64,.int .i64,.int .i64,.int .i64,.int .i64,.int .i64,.bool,.sl] a2⟩] h [] R
def QcM(a0:Option Addr)(h:Heap)(R:Heap->Prop):Prop:=CallR Tryz.prog 104 [.pointer a0] h [] R
def Qgu(a0:Option Addr)(a1:Int)(a2:Int)(a3:Sl)(h:Heap)(R:Int->Int->Heap->Prop):Prop:=CallR Tryz.prog 105 [.pointer a0,.int .i64 a1,.int .i64 a2,.slice a3.a a3.n a3.c] h [.one (.int .i64),.one (.int .i64)] R
def Qc6(a0:Option Addr)(a1:Int)(h:Heap)(R:Heap->Prop):Prop:=CallR Tryz.prog 106 [.pointer a0,.int .i64 a1] h [] R
def QfG(a0:KL [.bool,.int .i64,.int .i64,.int .i64,.sl])(h:Heap)(R:Sl->Heap->Prop):Prop:=CallR Tryz.prog 107 [.agg ⟨KL.vals [.bool,.int .i64,.int .i64,.int .i64,.sl] a0⟩] h [.one .sl] R
def QhJ(a0:Option Addr)(a1:KL [.int .u8,.sl])(h:Heap)(R:Int->Heap->Prop):Prop:=CallR Tryz.prog 108 [.pointer a0,.agg ⟨KL.vals [.int .u8,.sl] a1⟩] h [.one (.int .i64)] R
def QfB(a0:Sl)(h:Heap)(R:Sl->Int->Int->Heap->Prop):Prop:=CallR Tryz.prog 109 [.slice a0.a a0.n a0.c] h [.one .sl,.one (.int .i64),.one (.int .i64)] R
def QbZ(a0:Option Addr)(a1:Int)(h:Heap)(R:Sl->Heap->Prop):Prop:=CallR Tryz.prog 110 [.pointer a0,.int .i64 a1] h [.one .sl] R
def QaP(a0:Option Addr)(h:Heap)(R:Heap->Prop):Prop:=CallR Tryz.prog 111 [.pointer a0] h [] R
def QcC(a0:Int)(h:Heap)(R:Int->Heap->Prop):Prop:=CallR Tryz.prog 112 [.int .u64 a0] h [.one (.int .i64)] R
def Qcm(a0:Option Addr)(a1:Int)(h:Heap)(R:Int->Bool->Heap->Prop):Prop:=CallR Tryz.prog 113 [.pointer a0,.int .i64 a1] h [.one (.int .i64),.one .bool] R
def Qbx(a0:Sl)(a1:Value)(h:Heap)(R:Int->Heap->Prop):Prop:=CallR Tryz.prog 114 [.slice a0.a a0.n a0.c,a1] h [.one (.int .i64)] R
def QiO(a0:Int)(a1:Sl)(h:Heap)(R:Bool->Heap->Prop):Prop:=CallR Tryz.prog 115 [.int .i64 a0,.slice a1.a a1.n a1.c] h [.one .bool] R
def Qe2(a0:Option Addr)(a1:Int)(a2:Sl)(h:Heap)(R:Int->Heap->Prop):Prop:=CallR Tryz.prog 116 [.pointer a0,.int .i64 a1,.slice a2.a a2.n a2.c] h [.one (.int .i64)] R
def QdS(a0:Sl)(a1:Int)(h:Heap)(R:Sl->Heap->Prop):Prop:=CallR Tryz.prog 117 [.slice a0.a a0.n a0.c,.int .i64 a1] h [.one .sl] R
def Qgs(a0:Sl)(a1:ByteArray)(h:Heap)(R:Sl->Heap->Prop):Prop:=CallR Tryz.prog 118 [.slice a0.a a0.n a0.c,.string a1] h [.one .sl] R
def QiN(a0:KL [.int .u8,.sl])(h:Heap)(R:Sl->Int->Heap->Prop):Prop:=CallR Tryz.prog 119 [.agg ⟨KL.vals [.int .u8,.sl] a0⟩] h [.one .sl,.one (.int .i64)] R
def QdW(a0:Option Addr)(a1:Sl)(h:Heap)(R:Int->Heap->Prop):Prop:=CallR Tryz.prog 120 [.pointer a0,.slice a1.a a1.n a1.c] h [.one (.int .i64)] R
def QiS(a0:Sl)(a1:Sl)(h:Heap)(R:Bool->Heap->Prop):Prop:=CallR Tryz.prog 121 [.slice a0.a a0.n a0.c,.slice a1.a a1.n a1.c] h [.one .bool] R
def QdA(a0:Int)(h:Heap)(R:Int->Heap->Prop):Prop:=CallR Tryz.prog 123 [.int .u64 a0] h [.one (.int .i64)] R
def QiQ(a0:Sl)(a1:Sl)(h:Heap)(R:Sl->Int->Heap->Prop):Prop:=CallR Tryz.prog 124 [.slice a0.a a0.n a0.c,.slice a1.a a1.n a1.c] h [.one .sl,.one (.int .i64)] R
def Qgy(a0:Sl)(a1:Sl)(h:Heap)(R:Bool->Heap->Prop):Prop:=CallR Tryz.prog 125 [.slice a0.a a0.n a0.c,.slice a1.a a1.n a1.c] h [.one .bool] R
def Qgx(a0:Int)(h:Heap)(R:Sl->Heap->Prop):Prop:=CallR Tryz.prog 126 [.int .u32 a0] h [.one .sl] R
def QlN(a0:Sl)(h:Heap)(R:Int->Heap->Prop):Prop:=CallR Tryz.prog 127 [.slice a0.a a0.n a0.c] h [.one (.int .u32)] R
def QmX(h:Heap)(R:Option Addr->Heap->Prop):Prop:=CallR Tryz.prog 128 [] h [.one .ptr] R
def Qe5(a0:Option Addr)(a1:Sl)(h:Heap)(R:Int->Heap->Prop):Prop:=CallR Tryz.prog 129 [.pointer a0,.slice a1.a a1.n a1.c] h [.one (.int .u32)] R
def Qe6(a0:Option Addr)(a1:Int)(a2:Sl)(h:Heap)(R:Int->Heap->Prop):Prop:=CallR Tryz.prog 130 [.pointer a0,.int .u32 a1,.slice a2.a a2.n a2.c] h [.one (.int .u32)] R
def Qd1(a0:Option Addr)(a1:Value)(h:Heap)(R:Heap->Prop):Prop:=CallR Tryz.prog 131 [.pointer a0,a1] h [] R
def QgU(a0:Option Addr)(h:Heap)(R:Heap->Prop):Prop:=CallR Tryz.prog 132 [.pointer a0] h [] R
def Qcb(a0:Option Addr)(h:Heap)(R:Bool->Heap->Prop):Prop:=CallR Tryz.prog 133 [.pointer a0] h [.one .bool] R
def QjJ(a0:Option Addr)(a1:Value)(h:Heap)(R:Heap->Prop):Prop:=CallR Tryz.prog 134 [.pointer a0,a1] h [] R
end
section
set_option maxRecDepth 1000000
open Go
def Qiv(l:Option Addr)(index:Int)(most:Int)(h:Heap)(R:Sl->Heap->Prop):Prop:=Qa0 l h fun(r:Int) (r1:Int) h_=>Let (if 1>index then 1 else index:Int) fun index1=>Qie [.one .bool] (fun _ (x22:Bool) h_1=>(bif x22 then R ⟨none,0,0⟩ h_1 else Nn l fun p=>Ld .sl h_1 p fun(l1:Sl)=>Cut Tryz.prog 37 l1 (some (.int .i64 (IntKind.i64.wrap (index1 -1)))) (some (.int .i64 (IntKind.i64.wrap ((IntKind.i64.wrap (index1 -1))+(if(IntKind.i64.wrap ((IntKind.i64.wrap (r -index1))+1))<most then IntKind.i64.wrap ((IntKind.i64.wrap (r -index1))+1) else most))))) none fun s=>QaM s h_1 fun(r2:Sl) h_2=>R r2 h_2)) fun J=>(bif decide (index1>r) then J true h_ else J (decide (most<1)) h_)
theorem Qnt{l:Option Addr}{index:Int}{most:Int}{h:Heap}{R:Sl->Heap->Prop}(hs:Qiv l index most h R):Qd2 l index most h R:=Qbb (an:= [(60,[(22,.one .bool)])]) Tryz.func35 (by kernel_rfl) (by kernel_rfl) hs
def Qiu(l:Option Addr)(h:Heap)(R:Int->Int->Heap->Prop):Prop:=Qie [.one .bool] (fun _ (x14:Bool) h_=>(bif x14 then R 0 0 h_ else Nn l fun p=>Ld .sl h_ p fun(l1:Sl)=>Let ((l1.n:Int):Int) fun n=>Nn l fun p1=>Ld .sl h_ p1 fun(l2:Sl)=>Ix l2 (IntKind.i64.wrap (n -1)) 2 fun e=>Ld (.int .i64) h_ e fun(Term:Int)=>R n Term h_)) fun J=>(bif l.isNone then J true h else Nn l fun p2=>Ld .sl h p2 fun(l3:Sl)=>J ((l3.n:Int)==0) h)
theorem Qns{l:Option Addr}{h:Heap}{R:Int->Int->Heap->Prop}(hs:Qiu l h R):Qa0 l h R:=Qbb (an:= [(12,[(14,.one .bool)])]) Tryz.func40 (by kernel_rfl) (by kernel_rfl) hs
def S_log_New(l:Sl)(h:Heap)(R:Option Addr->Heap->Prop):Prop:=QaM l h fun(r:Sl) h_=>QaG h_ (.cells #[.slice r.a r.n r.c] 101) fun p h_1=>R (some p) h_1
theorem A_log_New{l:Sl}{h:Heap}{R:Option Addr->Heap->Prop}(hs:S_log_New l h R):QmW l h R:=Qbb (an:= []) Tryz.func43 (by kernel_rfl) (by kernel_rfl) hs
def QbO(s:Sl)(h:Heap)(R:Sl->Heap->Prop):Prop:=(bif s.a.isNone then R ⟨none,0,0⟩ h else QaG h (.cells #[] 40) fun b h_=>App Tryz.prog 37 37 ⟨some b,0,0⟩ s h_ fun s1 h_1=>R s1 h_1)
theorem Qdm{s:Sl}{h:Heap}{R:Sl->Heap->Prop}(hs:QbO s h R):QaM s h R:=Qbb (an:= []) Tryz.func57 (by kernel_rfl) (by kernel_rfl) hs
def QjF(l:Option Addr)(e:KL [.int .i64,.str])(h:Heap)(R:Int->Heap->Prop):Prop:=QaG h (.cells #[.int .i64 e.1,.string e.2.1] 40) fun e1 h_=>Qa0 l h_ fun(r:Int) (r1:Int) h_1=>(bif l.isNone then R 1 h_1 else Ld (.int .i64) h_1 e1 fun(Term:Int)=>(bif decide (Term<r1) then R 5 h_1 else(bif decide (r>=1024) then R 7 h_1 else Nn l fun p=>Ld .sl h_1 p fun(l1:Sl)=>Ld (.int .i64) h_1 e1 fun(x_Term:Int)=>Ld .str h_1 (e1.add 1) fun(x_Data:ByteArray)=>QaG h_1 (.cells #[.int .i64 x_Term,.string x_Data] 40) fun b h_2=>(Ld .sl h_2 p fun(l2:Sl)=>(.slice l2.a l2.n l2.c:Value)= .slice l1.a l1.n l1.c)/\App Tryz.prog 37 37 l1 ⟨some b,1,1⟩ h_2 fun s h_3=>Nn l fun p1=>St h_3 p1 (.slice s.a s.n s.c) fun h_4=>R 0 h_4)))
theorem A_log_Log_Add{l:Option Addr}{e:KL [.int .i64,.str]}{h:Heap}{R:Int->Heap->Prop}(hs:QjF l e h R):Qgv l e h R:=Qbb (an:= []) Tryz.func97 (by kernel_rfl) (by kernel_rfl) hs
def Qf3(l:Option Addr)(index:Int)(term:Int)(h:Heap)(R:Bool->Heap->Prop):Prop:=Qa0 l h fun(r:Int) (r1:Int) h_=>(bif !l.isNone then(bif decide (term>r1) then R true h_ else(bif term==r1 then R (decide (index>=r)) h_ else R false h_)) else R false h_)
theorem QkE{l:Option Addr}{index:Int}{term:Int}{h:Heap}{R:Bool->Heap->Prop}(hs:Qf3 l index term h R):QbK l index term h R:=Qbb (an:= []) Tryz.func102 (by kernel_rfl) (by kernel_rfl) hs
def QjE(l:Option Addr)(index:Int)(term:Int)(entries:Sl)(h:Heap)(R:Int->Int->Heap->Prop):Prop:=(bif l.isNone then R 0 1 h else Qcm l index h fun(r:Int) (r1:Bool) h_=>(bif !r1 then R 0 6 h_ else(bif r !=term then R 0 8 h_ else QiO term entries h_ fun(r2:Bool) h_1=>(bif r2 then R 0 5 h_1 else Qe2 l index entries h_1 fun(r3:Int) h_2=>(bif r3==(entries.n:Int) then R 0 0 h_2 else(bif decide ((IntKind.i64.wrap (index+(entries.n:Int)))>1024) then R 0 7 h_2 else Nn l fun p=>Ld .sl h_2 p fun(l1:Sl)=>Cut Tryz.prog 37 l1 none (some (.int .i64 (IntKind.i64.wrap (index+r3)))) (some (.int .i64 (IntKind.i64.wrap (index+r3)))) fun s=>Cut Tryz.prog 37 entries (some (.int .i64 r3)) none none fun s1=>App Tryz.prog 37 37 s s1 h_2 fun s2 h_3=>Nn l fun p1=>St h_3 p1 (.slice s2.a s2.n s2.c) fun h_4=>R (IntKind.i64.wrap ((IntKind.i64.wrap (index+r3))+1)) 0 h_4))))))
theorem A_log_Log_Put{l:Option Addr}{index:Int}{term:Int}{entries:Sl}{h:Heap}{R:Int->Int->Heap->Prop}(hs:QjE l index term entries h R):Qgu l index term entries h R:=Qbb (an:= []) Tryz.func105 (by kernel_rfl) (by kernel_rfl) hs
def Qit(l:Option Addr)(index:Int)(h:Heap)(R:Int->Bool->Heap->Prop):Prop:=Qie [] (fun _ h_=>Nn l fun p=>Ld .sl h_ p fun(l1:Sl)=>Ix l1 (IntKind.i64.wrap (index -1)) 2 fun e=>Ld (.int .i64) h_ e fun(Term:Int)=>R Term true h_) fun J=>(bif l.isNone then R 0 false h else(bif decide (index<0) then R 0 false h else Nn l fun p1=>Ld .sl h p1 fun(l2:Sl)=>(bif decide (index>(l2.n:Int)) then R 0 false h else(bif index==0 then R 0 true h else J h))))
theorem Qnr{l:Option Addr}{index:Int}{h:Heap}{R:Int->Bool->Heap->Prop}(hs:Qit l index h R):Qcm l index h R:=Qbb (an:= [(6,[])]) Tryz.func113 (by kernel_rfl) (by kernel_rfl) hs
def QmM(term:Int)(entries:Sl)(h:Heap)(R:Bool->Heap->Prop):Prop:=Qf9 [.one (.int .i64),.one (.int .i64)] (fun _ (term1:Int) (x9:Int) h_ go=>(bif decide (x9<(entries.n:Int)) then Ix entries x9 2 fun e=>Ld (.int .i64) h_ e fun(x_Term:Int)=>Ld .str h_ (e.add 1) fun(x_Data:ByteArray)=>QaG h_ (.cells #[.int .i64 0,.string (⟨#[]⟩:ByteArray)] 40) fun e1 h_1=>St h_1 e1 (.int .i64 x_Term) fun h_2=>St h_2 (e1.add 1) (.string x_Data) fun h_3=>Ld (.int .i64) h_3 e1 fun(Term:Int)=>(bif decide (Term<term1) then R true h_3 else Ld (.int .i64) h_3 e1 fun(Term1:Int)=>go Term1 (IntKind.i64.wrap (x9+1)) h_3) else R false h_)) (term,0,()) h
theorem A_log_falls{term:Int}{entries:Sl}{h:Heap}{R:Bool->Heap->Prop}(hs:QmM term entries h R):QiO term entries h R:=Qbb (an:= [(26,[(0,.one (.int .i64)),(9,.one (.int .i64))])]) Tryz.func115 (by kernel_rfl) (by kernel_rfl) hs
def QhE(l:Option Addr)(index:Int)(entries:Sl)(h:Heap)(R:Int->Heap->Prop):Prop:=Qf9 [.one (.int .i64)] (fun _ (x13:Int) h_ go=>(bif decide (x13<(entries.n:Int)) then Ix entries x13 2 fun e=>Ld (.int .i64) h_ e fun(x_Term:Int)=>Ld .str h_ (e.add 1) fun(x_Data:ByteArray)=>QaG h_ (.cells #[.int .i64 0,.string (⟨#[]⟩:ByteArray)] 40) fun e1 h_1=>St h_1 e1 (.int .i64 x_Term) fun h_2=>St h_2 (e1.add 1) (.string x_Data) fun h_3=>Qcm l (IntKind.i64.wrap ((IntKind.i64.wrap (index+1))+x13)) h_3 fun(r:Int) (r1:Bool) h_4=>(bif !r1 then R x13 h_4 else Ld (.int .i64) h_4 e1 fun(Term:Int)=>(bif r !=Term then R x13 h_4 else go (IntKind.i64.wrap (x13+1)) h_4)) else R (entries.n:Int) h_)) (0,()) h
theorem Qm1{l:Option Addr}{index:Int}{entries:Sl}{h:Heap}{R:Int->Heap->Prop}(hs:QhE l index entries h R):Qe2 l index entries h R:=Qbb (an:= [(26,[(13,.one (.int .i64))])]) Tryz.func116 (by kernel_rfl) (by kernel_rfl) hs
end
section
open Go
def LdR(P:Program)(t:TypeId)(h:Heap)(a:Addr)(K:Value->Prop):Prop:=
 match shOf P t with
 | .one k=>Ld k h a fun x=>K (k.mk x)
 | .agg ks=>LdL h a 0 ks fun vs=>K (.agg ⟨vs⟩)
 | .raw=>False
def getV(P:Program)(h:Heap)(σ:Nat->Value):List ResultVar->(List Value->Prop)->Prop
 | [],K=>K []
 | .tmp t::rs,K=>getV P h σ rs fun vs=>K (σ t::vs)
 | .cell a t::rs,K=>match σ a with
  | .pointer (some ad)=>LdR P t h ad fun v=>getV P h σ rs fun vs=>K (v::vs)
  |_=>False
theorem LdR_run{P:Program}{t:TypeId}{h:Heap}{a:Addr}{K:Value->Prop}(hl:LdR P t h a K):
  ∃v,K v/\∀w:World,w.heap=h->(loadVar t a).run P w= .ok v w:=by
 unfold LdR at hl
 have hsz:∀i,P.info? t=some i->∀w,(sizeOf t).run P w= .ok i.size w:=fun i hi w=>by
  unfold sizeOf;rw[Sem.run_bind,show(typeInfo t).run P w= .ok i w by simp[typeInfo,hi,program,Sem.run_bind,Sem.run]];rfl
 split at hl
 ·rename_i k hk
  obtain⟨x,hx,hK⟩:=hl
  refine⟨_,hK,fun w hw=> ?_⟩
  unfold shOf at hk
  split at hk
  ·cases hk
  ·rename_i d hd
   split at hk
   ·cases hk
   ·rename_i i hi
    split at hk
    ·split at hk
     ·split at hk<;>cases hk
     ·cases hk
    ·rename_i hag
     have hc:w.cell? a=some (k.mk x):=by rw[QbP,hw];exact hx
     simp only[Sem.run_bind,Result.andThen_ok,loadVar,Qi9 hd]
     rw[if_neg (by simpa using hag)]
     show(Sem.load .plain a _).run P w=_
     simp only[Sem.run,hc]
 ·rename_i ks hk
  obtain⟨vs,hv,hrun⟩:=LdL_run (P:=P) ks 0 _ hl
  refine⟨_,hv,fun w hw=> ?_⟩
  unfold shOf at hk
  split at hk
  ·cases hk
  ·rename_i d hd
   split at hk
   ·cases hk
   ·rename_i i hi
    split at hk
    ·rename_i hag
     split at hk
     ·rename_i cs hz
      split at hk
      ·rename_i hsize
       injection hk with hk
       have hlen:ks.length=i.size:=by rw[<-hk];simp[hsize.1]
       simp only[Sem.run_bind,Result.andThen_ok,loadVar,Qi9 hd]
       rw[if_pos (by simpa using hag)]
       simp only[Sem.run_bind,hsz i hi,Result.andThen_ok,loadCells,<-hlen,hrun w #[] hw]
       simp
      ·cases hk
     ·cases hk
    ·split at hk<;>cases hk
 ·exact hl.elim
theorem getV_run{P:Program}{h:Heap}{σ:Nat->Value}{tmps:Array Value}(hσ:∀t,tmps.getD t undef=σ t){w:World}(hw:w.heap=h):∀(rs:List ResultVar) (K:List Value->Prop),getV P h σ rs K->
  ∃vs,K vs/\(rs.mapM (resF tmps)).run P w= .ok vs w
 | [],K,hk=>⟨[],hk,by simp⟩
 | .tmp t::rs,K,hk=>by
  obtain⟨vs,hv,hr⟩:=getV_run hσ hw rs _ hk
  refine⟨_,hv, ?_⟩
  simp only[List.mapM_cons,Sem.run_bind,hr,resF,Sem.run_pure,Result.andThen_ok,hσ]
 | .cell a t::rs,K,hk=>by
  simp only[getV] at hk
  split at hk
  ·rename_i ad ea
   obtain⟨v,hv,hr⟩:=LdR_run hk
   obtain⟨vs,hvs,hrs⟩:=getV_run hσ hw rs _ hv
   refine⟨_,hvs, ?_⟩
   have e1:(resF tmps (.cell a t)).run P w= .ok v w:=by
    simp only[resF,hσ,ea,asAddr,Sem.run_bind,Sem.run_pure,Result.andThen_ok]
    exact hr w hw
   simp only[List.mapM_cons,Sem.run_bind,hrs,e1,Sem.run_pure,Result.andThen_ok]
  ·exact hk.elim
def VG(P:Program)(an:List (Nat×Slots))(fn:Func)(args:List Value)(h:Heap)(ss:List Sh)(R:TH (Heap->Prop) ss):Prop:=
 match fn.body with
 |none=>False
 |some c=>
   let K:Kont:=fun σ h'=>getV P h' σ fn.results.toList fun vs=>getR ss vs fun x=>TH.un ss R x h'
   V P an c 1 [] K K (argS args) h
theorem Qot{fn:Func}{tmps:Array Value}{P:Program}(w:World){vs:List Value}(hrs:(fn.results.toList.mapM (resF tmps)).run P w= .ok vs w){ss:List Sh}{x:HL ss}
  (hx:vs=HL.vals ss x):(results fn tmps).run P w= .ok (retV ss x) w:=by
 have h1:(fn.results.mapM (resF tmps)).run P w= .ok vs.toArray w:=by
  have e:fn.results=fn.results.toList.toArray:=rfl
  rw[e,List.mapM_toArray,Sem.run_map,hrs]
  rfl
 rw[QnI,Sem.run_bind,h1,hx]
 match ss,x with
 | [],_=>rfl
 | [s],x=>rfl
 |s::t::ss,x=>
  simp only[Result.andThen_ok]
  rw[dif_neg (by simp[HL.vals])]
  rfl
theorem VG_sound{P:Program}{an:List (Nat×Slots)}{f:FuncId}{fn:Func}{args:List Value}{h:Heap}{ss:List Sh}{R:TH (Heap->Prop) ss}(hm:P.follows .mixedOrders=true)(hf:P.funcs[f]? =some fn)
  (hok:QkZ fn args.length=true) (hv:VG P an fn args h ss R):CallR P f args h ss R:=by
 intro w hw
 unfold VG at hv
 split at hv
 ·exact hv.elim
 ·rename_i c hc
  simp only[QkZ,hc,Bool.and_eq_true,List.all_eq_true,decide_eq_true_eq] at hok
  refine calls_of_wp hf hc (wp_mono (V_sound (n:=fn.ntmps) (w₀:=w) hm c 1 [] _ _ (argS args) h _ w hv ⟨?_,rfl,fun t=>argS_at args _ t⟩ hw (Env.refl w) hok.1) fun e a' w' hp=> ?_)
  ·have:=hok.2
   simp;omega
  have fin:∀σ',Fr fn.ntmps a' σ'->(getV P w'.heap σ' fn.results.toList fun vs=>getR ss vs fun x=>TH.un ss R x w'.heap)->Env w w'->a'.defers= []/\∃v,(results fn a'.tmps).run P w'= .ok v w'/\(Env w w'/\∃x,Ending.returned v= .returned (retV ss x)/\TH.un ss R x w'.heap):=fun σ' hfr hr hE=>by
   obtain⟨vs,hv1,hrun⟩:=getV_run (P:=P) hfr.at_ (w:=w') rfl _ _ hr
   obtain⟨x,e1,h1⟩:=Qmt ss _ _ hv1
   exact⟨hfr.defers,_,Qot w' hrun e1,hE,x,rfl,h1⟩
  cases e with
  |normal=>obtain⟨hE,σ',hfr,hk,_⟩:=hp;exact fin σ' hfr hk hE
  |ret=>obtain⟨hE,σ',hfr,hk⟩:=hp;exact fin σ' hfr hk hE
  |exit id=>obtain⟨_,σ',_,hk,_⟩:=hp;exact hk.elim
  |_=>exact hp.elim
end
section
set_option maxRecDepth 1000000
open Go
theorem useG_SR{an:List (Nat×Slots)}{f:FuncId}{fn:Func}{args:List Value}{h:Heap}{ss:List Sh}{R:TH (Heap->Prop) ss}{S:Prop}(hf:Tryz.prog.funcs[f]? =some fn)(hb:QkZ fn args.length=true)(e:VG Tryz.prog an fn args h ss R=S)(hs:S):CallR Tryz.prog f args h ss R:=VG_sound (an:=an) mixed_ hf hb (cast e.symm hs)
def QgP(x:Option Addr)(h:Heap)(R:Int->Heap->Prop):Prop:=(bif x.isNone then R 0 h else Nn x fun p=>Ld (.int .i64) h (p.add 6) fun(role:Int)=>R role h)
theorem QgW{x:Option Addr}{h:Heap}{R:Int->Heap->Prop}(hs:QgP x h R):Qda x h R:=Qbb (an:= []) Tryz.func13 (by kernel_rfl) (by kernel_rfl) hs
def QgM(x:Option Addr)(h:Heap)(R:Int->Heap->Prop):Prop:=(bif x.isNone then R 0 h else Nn x fun p=>Ld (.int .i64) h (p.add 4) fun(term:Int)=>R term h)
theorem QgV{x:Option Addr}{h:Heap}{R:Int->Heap->Prop}(hs:QgM x h R):Qcg x h R:=Qbb (an:= []) Tryz.func14 (by kernel_rfl) (by kernel_rfl) hs
def QgQ(x:Option Addr)(h:Heap)(R:Int->Heap->Prop):Prop:=(bif x.isNone then R 0 h else Nn x fun p=>Ld .ptr h (p.add 11) fun(log:Option Addr)=>Qa0 log h fun(r:Int) (r1:Int) h_=>R r h_)
theorem QgX{x:Option Addr}{h:Heap}{R:Int->Heap->Prop}(hs:QgQ x h R):Qa6 x h R:=Qbb (an:= []) Tryz.func25 (by kernel_rfl) (by kernel_rfl) hs
def Qfu(x:Option Addr)(h:Heap)(R:Int->Heap->Prop):Prop:=(bif x.isNone then R 0 h else Nn x fun p=>Ld (.int .i64) h (p.add 10) fun(commit:Int)=>R commit h)
theorem QfC{x:Option Addr}{h:Heap}{R:Int->Heap->Prop}(hs:Qfu x h R):Qct x h R:=Qbb (an:= []) Tryz.func26 (by kernel_rfl) (by kernel_rfl) hs
def Qob(id:Int)(n:Int)(elect:Int)(beat:Int)(s:KL [.int .i64,.int .i64,.sl])(h:Heap)(R:Option Addr->Int->Heap->Prop):Prop:=QaG h (.cells #[.int .i64 s.1,.int .i64 s.2.1,.slice s.2.2.1.a s.2.2.1.n s.2.2.1.c] 46) fun s1 h_=>Qie [] (fun _ h_1=>Ld (.int .i64) h_1 s1 fun(Term:Int)=>Ld (.int .i64) h_1 (s1.add 1) fun(Vote:Int)=>Ld .sl h_1 (s1.add 2) fun(Entries:Sl)=>QmW Entries h_1 fun(r:Option Addr) h_2=>(Ld (.int .i64) h_2 s1 fun(Term1:Int)=>(.int .i64 Term1:Value)= .int .i64 Term)/\(Ld (.int .i64) h_2 (s1.add 1) fun(Vote1:Int)=>(.int .i64 Vote1:Value)= .int .i64 Vote)/\QaG h_2 (.cells #[.int .i64 id,.int .i64 n,.int .i64 elect,.int .i64 beat,.int .i64 Term,.int .i64 Vote,.int .i64 0,.int .i64 (-1),.int .i64 0,.int .i64 0,.int .i64 0,.pointer r,.int .u64 0,.int .u64 0,.int .i64 0,.int .i64 0,.int .i64 0,.int .i64 0,.int .i64 0,.int .i64 0,.int .i64 0,.int .i64 0,.int .i64 0,.int .i64 0,.int .i64 0,.int .i64 0,.int .i64 0,.int .i64 0,.slice none 0 0,.bool false,.int .i64 0] 73) fun p h_3=>R (some p) 0 h_3) fun J=>(bif decide (n<1) then R none 1 h_ else(bif decide (n>7) then R none 1 h_ else(bif decide (id<0) then R none 1 h_ else(bif decide (id>=n) then R none 1 h_ else(bif decide (elect<1) then R none 1 h_ else(bif decide (elect>1000) then R none 1 h_ else(bif decide (beat<1) then R none 1 h_ else(bif decide (beat>elect) then R none 1 h_ else Ld (.int .i64) h_ s1 fun(x_Term:Int)=>Ld (.int .i64) h_ (s1.add 1) fun(x_Vote:Int)=>Ld .sl h_ (s1.add 2) fun(x_Entries:Sl)=>QhK (x_Term,x_Vote,x_Entries,()) h_ fun(r1:Bool) h_4=>(bif !r1 then R none 2 h_4 else J h_4)))))))))
theorem A_raft_New{id:Int}{n:Int}{elect:Int}{beat:Int}{s:KL [.int .i64,.int .i64,.sl]}{h:Heap}{R:Option Addr->Int->Heap->Prop}(hs:Qob id n elect beat s h R):Qia id n elect beat s h R:=Qbb (an:= [(6,[])]) Tryz.func30 (by kernel_rfl) (by kernel_rfl) hs
def Qk3(s:KL [.int .i64,.int .i64,.sl])(h:Heap)(R:Bool->Heap->Prop):Prop:=QaG h (.cells #[.int .i64 s.1,.int .i64 s.2.1,.slice s.2.2.1.a s.2.2.1.n s.2.2.1.c] 46) fun s1 h_=>Ld .sl h_ (s1.add 2) fun(Entries:Sl)=>Qf9 [.one (.int .i64),.one (.int .i64)] (fun _ (last:Int) (x9:Int) h_1 go=>(bif decide (x9<(Entries.n:Int)) then Ix Entries x9 2 fun e=>Ld (.int .i64) h_1 e fun(x_Term:Int)=>Ld .str h_1 (e.add 1) fun(x_Data:ByteArray)=>QaG h_1 (.cells #[.int .i64 0,.string (⟨#[]⟩:ByteArray)] 40) fun e1 h_2=>St h_2 e1 (.int .i64 x_Term) fun h_3=>St h_3 (e1.add 1) (.string x_Data) fun h_4=>Ld (.int .i64) h_4 e1 fun(Term:Int)=>(bif decide (Term<last) then R false h_4 else Ld (.int .i64) h_4 e1 fun(Term1:Int)=>Ld (.int .i64) h_4 s1 fun(Term2:Int)=>(bif decide (Term1>Term2) then R false h_4 else Ld .str h_4 (e1.add 1) fun(Data:ByteArray)=>(bif decide ((Data.size:Int)>512) then R false h_4 else Ld (.int .i64) h_4 e1 fun(Term3:Int)=>go Term3 (IntKind.i64.wrap (x9+1)) h_4))) else Ld (.int .i64) h_1 s1 fun(Term4:Int)=>(bif decide (Term4>=0) then Ld (.int .i64) h_1 s1 fun(Term5:Int)=>(bif decide (Term5<=1099511627776) then Ld (.int .i64) h_1 (s1.add 1) fun(Vote:Int)=>(bif decide (Vote>=(-1)) then Ld (.int .i64) h_1 (s1.add 1) fun(Vote1:Int)=>(bif decide (Vote1<7) then Ld .sl h_1 (s1.add 2) fun(Entries1:Sl)=>R (decide ((Entries1.n:Int)<=1024)) h_1 else R false h_1) else R false h_1) else R false h_1) else R false h_1))) (1,0,()) h_
theorem A_raft_right{s:KL [.int .i64,.int .i64,.sl]}{h:Heap}{R:Bool->Heap->Prop}(hs:Qk3 s h R):QhK s h R:=Qbb (an:= [(58,[(3,.one (.int .i64)),(9,.one (.int .i64))])]) Tryz.func42 (by kernel_rfl) (by kernel_rfl) hs
def QgL(x:Option Addr)(draw:Int)(h:Heap)(R:Heap->Prop):Prop:=(bif x.isNone then R h else Nn x fun p=>Ld (.int .i64) h (p.add 8) fun(since:Int)=>Nn x fun p1=>St h (p1.add 8) (.int .i64 (IntKind.i64.wrap (since+1))) fun h_=>Nn x fun p2=>Ld (.int .i64) h_ (p2.add 6) fun(role:Int)=>(bif role==3 then Qem x h_ fun h_1=>R h_1 else Nn x fun p3=>Ld (.int .i64) h_ (p3.add 4) fun(term:Int)=>(bif decide (term<1099511627776) then Nn x fun p4=>Ld (.int .i64) h_ (p4.add 8) fun(since1:Int)=>Nn x fun p5=>Ld (.int .i64) h_ (p5.add 2) fun(elect:Int)=>Nn x fun p6=>Ld (.int .i64) h_ (p6.add 2) fun(elect1:Int)=>Nz elect1 ((bif decide (since1>=(IntKind.i64.wrap (elect+(divV .rem .i64 (if 0>draw then 0 else draw) elect1)))) then Qen x h_ fun h_2=>R h_2 else R h_)) else R h_)))
theorem Qll{x:Option Addr}{draw:Int}{h:Heap}{R:Heap->Prop}(hs:QgL x draw h R):Qeo x draw h R:=Qbb (an:= []) Tryz.func47 (by kernel_rfl) (by kernel_rfl) hs
def QeZ(x:Option Addr)(data:ByteArray)(h:Heap)(R:Int->Int->Heap->Prop):Prop:=(bif x.isNone then R 0 1 h else Nn x fun p=>Ld (.int .i64) h (p.add 6) fun(role:Int)=>(bif role !=3 then R 0 13 h else(bif decide ((data.size:Int)>512) then R 0 4 h else Qdz x data h fun(r:Int) h_=>(bif r !=0 then R 0 r h_ else Qa6 x h_ fun(r1:Int) h_1=>R r1 0 h_1))))
theorem QiV{x:Option Addr}{data:ByteArray}{h:Heap}{R:Int->Int->Heap->Prop}(hs:QeZ x data h R):Qdf x data h R:=Qbb (an:= []) Tryz.func49 (by kernel_rfl) (by kernel_rfl) hs
def QgN(x:Option Addr)(m:KL [.int .i64,.int .i64,.int .i64,.int .i64,.int .i64,.int .i64,.int .i64,.bool,.sl])(h:Heap)(R:Heap->Prop):Prop:=QaG h (.cells #[.int .i64 m.1,.int .i64 m.2.1,.int .i64 m.2.2.1,.int .i64 m.2.2.2.1,.int .i64 m.2.2.2.2.1,.int .i64 m.2.2.2.2.2.1,.int .i64 m.2.2.2.2.2.2.1,.bool m.2.2.2.2.2.2.2.1,.slice m.2.2.2.2.2.2.2.2.1.a m.2.2.2.2.2.2.2.2.1.n m.2.2.2.2.2.2.2.2.1.c] 59) fun m1 h_=>Qie [.one .bool] (fun _ (x11:Bool) h_1=>(bif x11 then R h_1 else Ld (.int .i64) h_1 m1 fun(Kind:Int)=>(bif Kind==1 then Ld (.int .i64) h_1 m1 fun(x_Kind:Int)=>Ld (.int .i64) h_1 (m1.add 1) fun(x_From:Int)=>Ld (.int .i64) h_1 (m1.add 2) fun(x_To:Int)=>Ld (.int .i64) h_1 (m1.add 3) fun(x_Term:Int)=>Ld (.int .i64) h_1 (m1.add 4) fun(x_Index:Int)=>Ld (.int .i64) h_1 (m1.add 5) fun(x_LogTerm:Int)=>Ld (.int .i64) h_1 (m1.add 6) fun(x_Commit:Int)=>Ld .bool h_1 (m1.add 7) fun(x_Yes:Bool)=>Ld .sl h_1 (m1.add 8) fun(x_Entries:Sl)=>Qdw x (x_Kind,x_From,x_To,x_Term,x_Index,x_LogTerm,x_Commit,x_Yes,x_Entries,()) h_1 fun h_2=>R h_2 else(bif Kind==2 then Ld (.int .i64) h_1 m1 fun(x_Kind1:Int)=>Ld (.int .i64) h_1 (m1.add 1) fun(x_From1:Int)=>Ld (.int .i64) h_1 (m1.add 2) fun(x_To1:Int)=>Ld (.int .i64) h_1 (m1.add 3) fun(x_Term1:Int)=>Ld (.int .i64) h_1 (m1.add 4) fun(x_Index1:Int)=>Ld (.int .i64) h_1 (m1.add 5) fun(x_LogTerm1:Int)=>Ld (.int .i64) h_1 (m1.add 6) fun(x_Commit1:Int)=>Ld .bool h_1 (m1.add 7) fun(x_Yes1:Bool)=>Ld .sl h_1 (m1.add 8) fun(x_Entries1:Sl)=>Qdd x (x_Kind1,x_From1,x_To1,x_Term1,x_Index1,x_LogTerm1,x_Commit1,x_Yes1,x_Entries1,()) h_1 fun h_3=>R h_3 else Ld (.int .i64) h_1 (m1.add 3) fun(Term:Int)=>Nn x fun p=>Ld (.int .i64) h_1 (p.add 4) fun(term:Int)=>Qie [] (fun _ h_4=>Ld (.int .i64) h_4 (m1.add 3) fun(Term1:Int)=>Nn x fun p1=>Ld (.int .i64) h_4 (p1.add 4) fun(term1:Int)=>(bif decide (Term1<term1) then Ld (.int .i64) h_4 m1 fun(Kind1:Int)=>(bif Kind1==5 then Ld (.int .i64) h_4 (m1.add 1) fun(From:Int)=>QbR x From false 0 h_4 fun h_5=>R h_5 else R h_4) else Ld (.int .i64) h_4 m1 fun(Kind2:Int)=>(bif Kind2==3 then Ld (.int .i64) h_4 m1 fun(x_Kind2:Int)=>Ld (.int .i64) h_4 (m1.add 1) fun(x_From2:Int)=>Ld (.int .i64) h_4 (m1.add 2) fun(x_To2:Int)=>Ld (.int .i64) h_4 (m1.add 3) fun(x_Term2:Int)=>Ld (.int .i64) h_4 (m1.add 4) fun(x_Index2:Int)=>Ld (.int .i64) h_4 (m1.add 5) fun(x_LogTerm2:Int)=>Ld (.int .i64) h_4 (m1.add 6) fun(x_Commit2:Int)=>Ld .bool h_4 (m1.add 7) fun(x_Yes2:Bool)=>Ld .sl h_4 (m1.add 8) fun(x_Entries2:Sl)=>Qde x (x_Kind2,x_From2,x_To2,x_Term2,x_Index2,x_LogTerm2,x_Commit2,x_Yes2,x_Entries2,()) h_4 fun h_6=>R h_6 else Ld (.int .i64) h_4 m1 fun(Kind3:Int)=>(bif Kind3==4 then Ld (.int .i64) h_4 m1 fun(x_Kind3:Int)=>Ld (.int .i64) h_4 (m1.add 1) fun(x_From3:Int)=>Ld (.int .i64) h_4 (m1.add 2) fun(x_To3:Int)=>Ld (.int .i64) h_4 (m1.add 3) fun(x_Term3:Int)=>Ld (.int .i64) h_4 (m1.add 4) fun(x_Index3:Int)=>Ld (.int .i64) h_4 (m1.add 5) fun(x_LogTerm3:Int)=>Ld (.int .i64) h_4 (m1.add 6) fun(x_Commit3:Int)=>Ld .bool h_4 (m1.add 7) fun(x_Yes3:Bool)=>Ld .sl h_4 (m1.add 8) fun(x_Entries3:Sl)=>QcU x (x_Kind3,x_From3,x_To3,x_Term3,x_Index3,x_LogTerm3,x_Commit3,x_Yes3,x_Entries3,()) h_4 fun h_7=>R h_7 else Ld (.int .i64) h_4 m1 fun(Kind4:Int)=>(bif Kind4==5 then Ld (.int .i64) h_4 m1 fun(x_Kind4:Int)=>Ld (.int .i64) h_4 (m1.add 1) fun(x_From4:Int)=>Ld (.int .i64) h_4 (m1.add 2) fun(x_To4:Int)=>Ld (.int .i64) h_4 (m1.add 3) fun(x_Term4:Int)=>Ld (.int .i64) h_4 (m1.add 4) fun(x_Index4:Int)=>Ld (.int .i64) h_4 (m1.add 5) fun(x_LogTerm4:Int)=>Ld (.int .i64) h_4 (m1.add 6) fun(x_Commit4:Int)=>Ld .bool h_4 (m1.add 7) fun(x_Yes4:Bool)=>Ld .sl h_4 (m1.add 8) fun(x_Entries4:Sl)=>Qdx x (x_Kind4,x_From4,x_To4,x_Term4,x_Index4,x_LogTerm4,x_Commit4,x_Yes4,x_Entries4,()) h_4 fun h_8=>R h_8 else Ld (.int .i64) h_4 m1 fun(x_Kind5:Int)=>Ld (.int .i64) h_4 (m1.add 1) fun(x_From5:Int)=>Ld (.int .i64) h_4 (m1.add 2) fun(x_To5:Int)=>Ld (.int .i64) h_4 (m1.add 3) fun(x_Term5:Int)=>Ld (.int .i64) h_4 (m1.add 4) fun(x_Index5:Int)=>Ld (.int .i64) h_4 (m1.add 5) fun(x_LogTerm5:Int)=>Ld (.int .i64) h_4 (m1.add 6) fun(x_Commit5:Int)=>Ld .bool h_4 (m1.add 7) fun(x_Yes5:Bool)=>Ld .sl h_4 (m1.add 8) fun(x_Entries5:Sl)=>QdT x (x_Kind5,x_From5,x_To5,x_Term5,x_Index5,x_LogTerm5,x_Commit5,x_Yes5,x_Entries5,()) h_4 fun h_9=>R h_9))))) fun J1=>(bif decide (Term>term) then Ld (.int .i64) h_1 (m1.add 3) fun(Term2:Int)=>Qbc x Term2 (-1) h_1 fun h_10=>J1 h_10 else J1 h_1))))) fun J=>(bif x.isNone then J true h_ else Ld (.int .i64) h_ m1 fun(x_Kind6:Int)=>Ld (.int .i64) h_ (m1.add 1) fun(x_From6:Int)=>Ld (.int .i64) h_ (m1.add 2) fun(x_To6:Int)=>Ld (.int .i64) h_ (m1.add 3) fun(x_Term6:Int)=>Ld (.int .i64) h_ (m1.add 4) fun(x_Index6:Int)=>Ld (.int .i64) h_ (m1.add 5) fun(x_LogTerm6:Int)=>Ld (.int .i64) h_ (m1.add 6) fun(x_Commit6:Int)=>Ld .bool h_ (m1.add 7) fun(x_Yes6:Bool)=>Ld .sl h_ (m1.add 8) fun(x_Entries6:Sl)=>Qdv x (x_Kind6,x_From6,x_To6,x_Term6,x_Index6,x_LogTerm6,x_Commit6,x_Yes6,x_Entries6,()) h_ fun(r:Bool) h_11=>J (!r) h_11)
theorem Qlm{x:Option Addr}{m:KL [.int .i64,.int .i64,.int .i64,.int .i64,.int .i64,.int .i64,.int .i64,.bool,.sl]}{h:Heap}{R:Heap->Prop}(hs:QgN x m h R):Qch x m h R:=Qbb (an:= [(12,[(11,.one .bool)]),(61,[])]) Tryz.func55 (by kernel_rfl) (by kernel_rfl) hs
def QhD(x:Option Addr)(h:Heap)(R:Sl->Heap->Prop):Prop:=(bif x.isNone then R ⟨none,0,0⟩ h else Nn x fun p=>Ld .sl h (p.add 28) fun(out:Sl)=>Nn x fun p1=>St h (p1.add 28) (.slice none 0 0) fun h_=>R out h_)
theorem Qm0{x:Option Addr}{h:Heap}{R:Sl->Heap->Prop}(hs:QhD x h R):Qb7 x h R:=Qbb (an:= []) Tryz.func68 (by kernel_rfl) (by kernel_rfl) hs
def QgJ(x:Option Addr)(h:Heap)(R:Heap->Prop):Prop:=Nn x fun p=>Ld (.int .i64) h (p.add 9) fun(quiet:Int)=>Nn x fun p1=>St h (p1.add 9) (.int .i64 (IntKind.i64.wrap (quiet+1))) fun h_=>Nn x fun p2=>Ld (.int .i64) h_ (p2.add 9) fun(quiet1:Int)=>Nn x fun p3=>Ld (.int .i64) h_ (p3.add 2) fun(elect:Int)=>Qie [] (fun _ h_1=>Nn x fun p4=>Ld (.int .i64) h_1 (p4.add 8) fun(since:Int)=>Nn x fun p5=>Ld (.int .i64) h_1 (p5.add 3) fun(beat:Int)=>(bif decide (since>=beat) then QbJ x h_1 fun h_2=>R h_2 else R h_1)) fun J=>(bif decide (quiet1>=elect) then Nn x fun p6=>Ld (.int .u64) h_ (p6.add 13) fun(heard:Int)=>Nn x fun p7=>Ld (.int .i64) h_ p7 fun(id:Int)=>Qkv (IntKind.u64.wrap id) (Let (QdH .or .u64 heard (QaL .shl .u64 1 (IntKind.u64.wrap id)):Int) fun heard1=>Nn x fun p8=>St h_ (p8.add 9) (.int .i64 0) fun h_3=>Nn x fun p9=>St h_3 (p9.add 13) (.int .u64 0) fun h_4=>Qbe x heard1 h_4 fun(r:Bool) h_5=>(bif !r then Nn x fun p10=>Ld (.int .i64) h_5 (p10.add 4) fun(term:Int)=>Qbc x term (-1) h_5 fun h_6=>Nn x fun p11=>St h_6 (p11.add 8) (.int .i64 0) fun h_7=>R h_7 else J h_5)) else J h_)
theorem Qlj{x:Option Addr}{h:Heap}{R:Heap->Prop}(hs:QgJ x h R):Qem x h R:=Qbb (an:= [(13,[])]) Tryz.func70 (by kernel_rfl) (by kernel_rfl) hs
def QgK(x:Option Addr)(h:Heap)(R:Heap->Prop):Prop:=Nn x fun p=>Ld (.int .i64) h p fun(id:Int)=>Qkv (IntKind.u64.wrap id) (Nn x fun p1=>St h (p1.add 8) (.int .i64 0) fun h_=>Nn x fun p2=>St h_ (p2.add 6) (.int .i64 1) fun h_1=>Nn x fun p3=>St h_1 (p3.add 7) (.int .i64 (-1)) fun h_2=>Nn x fun p4=>St h_2 (p4.add 12) (.int .u64 (QaL .shl .u64 1 (IntKind.u64.wrap id))) fun h_3=>Nn x fun p5=>Ld (.int .u64) h_3 (p5.add 12) fun(votes:Int)=>Qbe x votes h_3 fun(r:Bool) h_4=>(bif r then Qcs x h_4 fun h_5=>R h_5 else Nn x fun p6=>Ld .ptr h_4 (p6.add 11) fun(log:Option Addr)=>Qa0 log h_4 fun(r1:Int) (r2:Int) h_6=>Nn x fun p7=>Ld (.int .i64) h_6 (p7.add 4) fun(term:Int)=>Qdy x (1,0,0,IntKind.i64.wrap (term+1),r1,r2,0,false,⟨none,0,0⟩,()) h_6 fun h_7=>R h_7))
theorem Qlk{x:Option Addr}{h:Heap}{R:Heap->Prop}(hs:QgK x h R):Qen x h R:=Qbb (an:= []) Tryz.func71 (by kernel_rfl) (by kernel_rfl) hs
def QhC(x:Option Addr)(data:ByteArray)(h:Heap)(R:Int->Heap->Prop):Prop:=Nn x fun p=>Ld .ptr h (p.add 11) fun(log:Option Addr)=>Nn x fun p1=>Ld (.int .i64) h (p1.add 4) fun(term:Int)=>Qgv log (term,data,()) h fun(r:Int) h_=>(bif r !=0 then R r h_ else Nn x fun p2=>Ld .ptr h_ (p2.add 11) fun(log1:Option Addr)=>Qa0 log1 h_ fun(r1:Int) (r2:Int) h_1=>Qb6 x r1 h_1 fun h_2=>QbJ x h_2 fun h_3=>QcN x h_3 fun h_4=>R 0 h_4)
theorem QmZ{x:Option Addr}{data:ByteArray}{h:Heap}{R:Int->Heap->Prop}(hs:QhC x data h R):Qdz x data h R:=Qbb (an:= []) Tryz.func72 (by kernel_rfl) (by kernel_rfl) hs
def Qfr(x:Option Addr)(m:KL [.int .i64,.int .i64,.int .i64,.int .i64,.int .i64,.int .i64,.int .i64,.bool,.sl])(h:Heap)(R:Bool->Heap->Prop):Prop:=QaG h (.cells #[.int .i64 m.1,.int .i64 m.2.1,.int .i64 m.2.2.1,.int .i64 m.2.2.2.1,.int .i64 m.2.2.2.2.1,.int .i64 m.2.2.2.2.2.1,.int .i64 m.2.2.2.2.2.2.1,.bool m.2.2.2.2.2.2.2.1,.slice m.2.2.2.2.2.2.2.2.1.a m.2.2.2.2.2.2.2.2.1.n m.2.2.2.2.2.2.2.2.1.c] 59) fun m1 h_=>Ld (.int .i64) h_ (m1.add 2) fun(To:Int)=>Nn x fun p=>Ld (.int .i64) h_ p fun(id:Int)=>(bif To==id then Ld (.int .i64) h_ (m1.add 1) fun(From:Int)=>Nn x fun p1=>Ld (.int .i64) h_ p1 fun(id1:Int)=>(bif From !=id1 then Ld (.int .i64) h_ (m1.add 1) fun(From1:Int)=>(bif decide (From1>=0) then Ld (.int .i64) h_ (m1.add 1) fun(From2:Int)=>Nn x fun p2=>Ld (.int .i64) h_ (p2.add 1) fun(n:Int)=>(bif decide (From2<n) then Ld (.int .i64) h_ m1 fun(Kind:Int)=>(bif decide (Kind>=1) then Ld (.int .i64) h_ m1 fun(Kind1:Int)=>(bif decide (Kind1<=6) then Ld (.int .i64) h_ (m1.add 3) fun(Term:Int)=>(bif decide (Term>=0) then Ld (.int .i64) h_ (m1.add 3) fun(Term1:Int)=>(bif decide (Term1<=1099511627776) then Ld .sl h_ (m1.add 8) fun(Entries:Sl)=>(bif decide ((Entries.n:Int)<=8) then Ld .sl h_ (m1.add 8) fun(Entries1:Sl)=>Qbj Entries1 (.func (.func 100) #[] #[.pointer (some m1)]) h_ fun(r:Bool) h_1=>R (!r) h_1 else R false h_) else R false h_) else R false h_) else R false h_) else R false h_) else R false h_) else R false h_) else R false h_) else R false h_)
theorem QjR{x:Option Addr}{m:KL [.int .i64,.int .i64,.int .i64,.int .i64,.int .i64,.int .i64,.int .i64,.bool,.sl]}{h:Heap}{R:Bool->Heap->Prop}(hs:Qfr x m h R):Qdv x m h R:=Qbb (an:= []) Tryz.func76 (by kernel_rfl) (by kernel_rfl) hs
def Qfs(x:Option Addr)(m:KL [.int .i64,.int .i64,.int .i64,.int .i64,.int .i64,.int .i64,.int .i64,.bool,.sl])(h:Heap)(R:Heap->Prop):Prop:=QaG h (.cells #[.int .i64 m.1,.int .i64 m.2.1,.int .i64 m.2.2.1,.int .i64 m.2.2.2.1,.int .i64 m.2.2.2.2.1,.int .i64 m.2.2.2.2.2.1,.int .i64 m.2.2.2.2.2.2.1,.bool m.2.2.2.2.2.2.2.1,.slice m.2.2.2.2.2.2.2.2.1.a m.2.2.2.2.2.2.2.2.1.n m.2.2.2.2.2.2.2.2.1.c] 59) fun m1 h_=>Qie [.one .bool] (fun _ (yes:Bool) h_1=>Nn x fun p=>Ld (.int .i64) h_1 (p.add 4) fun(term:Int)=>(bif yes then Ld (.int .i64) h_1 (m1.add 3) fun(Term:Int)=>Ld (.int .i64) h_1 (m1.add 1) fun(From:Int)=>Qa5 x From (2,0,0,Term,0,0,0,yes,⟨none,0,0⟩,()) h_1 fun h_2=>R h_2 else Ld (.int .i64) h_1 (m1.add 1) fun(From1:Int)=>Qa5 x From1 (2,0,0,term,0,0,0,yes,⟨none,0,0⟩,()) h_1 fun h_3=>R h_3)) fun J=>Ld (.int .i64) h_ (m1.add 3) fun(Term1:Int)=>Nn x fun p1=>Ld (.int .i64) h_ (p1.add 4) fun(term1:Int)=>(bif decide (Term1>term1) then Nn x fun p2=>Ld .ptr h_ (p2.add 11) fun(log:Option Addr)=>Ld (.int .i64) h_ (m1.add 4) fun(Index:Int)=>Ld (.int .i64) h_ (m1.add 5) fun(LogTerm:Int)=>QbK log Index LogTerm h_ fun(r:Bool) h_4=>(bif r then Nn x fun p3=>Ld (.int .i64) h_4 (p3.add 6) fun(role:Int)=>(bif role !=3 then Nn x fun p4=>Ld (.int .i64) h_4 (p4.add 7) fun(leader:Int)=>(bif leader==(-1) then J true h_4 else Nn x fun p5=>Ld (.int .i64) h_4 (p5.add 8) fun(since:Int)=>Nn x fun p6=>Ld (.int .i64) h_4 (p6.add 2) fun(elect:Int)=>Let (decide (since>=elect):Bool) fun yes1=>J yes1 h_4) else J false h_4) else J false h_4) else J false h_)
theorem QjS{x:Option Addr}{m:KL [.int .i64,.int .i64,.int .i64,.int .i64,.int .i64,.int .i64,.int .i64,.bool,.sl]}{h:Heap}{R:Heap->Prop}(hs:Qfs x m h R):Qdw x m h R:=Qbb (an:= [(6,[(4,.one .bool)])]) Tryz.func77 (by kernel_rfl) (by kernel_rfl) hs
def QeX(x:Option Addr)(m:KL [.int .i64,.int .i64,.int .i64,.int .i64,.int .i64,.int .i64,.int .i64,.bool,.sl])(h:Heap)(R:Heap->Prop):Prop:=QaG h (.cells #[.int .i64 m.1,.int .i64 m.2.1,.int .i64 m.2.2.1,.int .i64 m.2.2.2.1,.int .i64 m.2.2.2.2.1,.int .i64 m.2.2.2.2.2.1,.int .i64 m.2.2.2.2.2.2.1,.bool m.2.2.2.2.2.2.2.1,.slice m.2.2.2.2.2.2.2.2.1.a m.2.2.2.2.2.2.2.2.1.n m.2.2.2.2.2.2.2.2.1.c] 59) fun m1 h_=>Qie [.one .bool] (fun _ (x4:Bool) h_1=>(bif x4 then Ld (.int .i64) h_1 (m1.add 3) fun(Term:Int)=>Qbc x Term (-1) h_1 fun h_2=>R h_2 else Qie [.one .bool] (fun _ (x21:Bool) h_3=>(bif x21 then Nn x fun p=>Ld (.int .u64) h_3 (p.add 12) fun(votes:Int)=>Ld (.int .i64) h_3 (m1.add 1) fun(From:Int)=>Qkv (IntKind.u64.wrap From) (Nn x fun p1=>St h_3 (p1.add 12) (.int .u64 (QdH .or .u64 votes (QaL .shl .u64 1 (IntKind.u64.wrap From)))) fun h_4=>Nn x fun p2=>Ld (.int .u64) h_4 (p2.add 12) fun(votes1:Int)=>Qbe x votes1 h_4 fun(r:Bool) h_5=>(bif r then Qcs x h_5 fun h_6=>R h_6 else R h_5)) else R h_3)) fun J1=>Ld .bool h_1 (m1.add 7) fun(Yes:Bool)=>(bif Yes then Ld (.int .i64) h_1 (m1.add 3) fun(Term1:Int)=>Nn x fun p3=>Ld (.int .i64) h_1 (p3.add 4) fun(term:Int)=>(bif Term1==(IntKind.i64.wrap (term+1)) then Nn x fun p4=>Ld (.int .i64) h_1 (p4.add 6) fun(role:Int)=>J1 (role==1) h_1 else J1 false h_1) else J1 false h_1))) fun J=>Ld .bool h_ (m1.add 7) fun(Yes1:Bool)=>(bif !Yes1 then Ld (.int .i64) h_ (m1.add 3) fun(Term2:Int)=>Nn x fun p5=>Ld (.int .i64) h_ (p5.add 4) fun(term1:Int)=>J (decide (Term2>term1)) h_ else J false h_)
theorem QiT{x:Option Addr}{m:KL [.int .i64,.int .i64,.int .i64,.int .i64,.int .i64,.int .i64,.int .i64,.bool,.sl]}{h:Heap}{R:Heap->Prop}(hs:QeX x m h R):Qdd x m h R:=Qbb (an:= [(12,[(4,.one .bool)]),(54,[(21,.one .bool)])]) Tryz.func78 (by kernel_rfl) (by kernel_rfl) hs
def Qfq(x:Option Addr)(term:Int)(leader:Int)(h:Heap)(R:Heap->Prop):Prop:=Nn x fun p=>Ld (.int .i64) h (p.add 4) fun(term1:Int)=>Qie [] (fun _ h_=>Nn x fun p1=>St h_ (p1.add 6) (.int .i64 0) fun h_1=>Nn x fun p2=>St h_1 (p2.add 7) (.int .i64 leader) fun h_2=>R h_2) fun J=>(bif decide (term>term1) then Nn x fun p3=>St h (p3.add 4) (.int .i64 term) fun h_3=>Nn x fun p4=>St h_3 (p4.add 5) (.int .i64 (-1)) fun h_4=>Nn x fun p5=>St h_4 (p5.add 29) (.bool true) fun h_5=>J h_5 else J h)
theorem QjQ{x:Option Addr}{term:Int}{leader:Int}{h:Heap}{R:Heap->Prop}(hs:Qfq x term leader h R):Qbc x term leader h R:=Qbb (an:= [(5,[])]) Tryz.func79 (by kernel_rfl) (by kernel_rfl) hs
def QgG(x:Option Addr)(to:Int)(yes:Bool)(index:Int)(h:Heap)(R:Heap->Prop):Prop:=Nn x fun p=>Ld (.int .i64) h (p.add 4) fun(term:Int)=>Qa5 x to (6,0,0,term,index,0,0,yes,⟨none,0,0⟩,()) h fun h_=>R h_
theorem Qlg{x:Option Addr}{to:Int}{yes:Bool}{index:Int}{h:Heap}{R:Heap->Prop}(hs:QgG x to yes index h R):QbR x to yes index h R:=Qbb (an:= []) Tryz.func80 (by kernel_rfl) (by kernel_rfl) hs
def QeY(x:Option Addr)(m:KL [.int .i64,.int .i64,.int .i64,.int .i64,.int .i64,.int .i64,.int .i64,.bool,.sl])(h:Heap)(R:Heap->Prop):Prop:=QaG h (.cells #[.int .i64 m.1,.int .i64 m.2.1,.int .i64 m.2.2.1,.int .i64 m.2.2.2.1,.int .i64 m.2.2.2.2.1,.int .i64 m.2.2.2.2.2.1,.int .i64 m.2.2.2.2.2.2.1,.bool m.2.2.2.2.2.2.2.1,.slice m.2.2.2.2.2.2.2.2.1.a m.2.2.2.2.2.2.2.2.1.n m.2.2.2.2.2.2.2.2.1.c] 59) fun m1 h_=>Qie [.one .bool] (fun _ (yes:Bool) h_1=>Qie [] (fun _ h_2=>Ld (.int .i64) h_2 (m1.add 1) fun(From:Int)=>Nn x fun p=>Ld (.int .i64) h_2 (p.add 4) fun(term:Int)=>Qa5 x From (4,0,0,term,0,0,0,yes,⟨none,0,0⟩,()) h_2 fun h_3=>R h_3) fun J1=>(bif yes then Qie [] (fun _ h_4=>Ld (.int .i64) h_4 (m1.add 1) fun(From1:Int)=>Nn x fun p1=>St h_4 (p1.add 5) (.int .i64 From1) fun h_5=>Nn x fun p2=>St h_5 (p2.add 8) (.int .i64 0) fun h_6=>J1 h_6) fun J2=>Nn x fun p3=>Ld .bool h_1 (p3.add 29) fun(hard:Bool)=>(bif hard then Nn x fun p4=>St h_1 (p4.add 29) (.bool true) fun h_7=>J2 h_7 else Nn x fun p5=>Ld (.int .i64) h_1 (p5.add 5) fun(vote:Int)=>Ld (.int .i64) h_1 (m1.add 1) fun(From2:Int)=>Nn x fun p6=>St h_1 (p6.add 29) (.bool (vote !=From2)) fun h_8=>J2 h_8) else J1 h_1)) fun J=>Nn x fun p7=>Ld (.int .i64) h_ (p7.add 5) fun(vote1:Int)=>(bif vote1==(-1) then Nn x fun p8=>Ld (.int .i64) h_ (p8.add 6) fun(role:Int)=>(bif role !=3 then Nn x fun p9=>Ld .ptr h_ (p9.add 11) fun(log:Option Addr)=>Ld (.int .i64) h_ (m1.add 4) fun(Index:Int)=>Ld (.int .i64) h_ (m1.add 5) fun(LogTerm:Int)=>QbK log Index LogTerm h_ fun(r:Bool) h_9=>J r h_9 else J false h_) else Nn x fun p10=>Ld (.int .i64) h_ (p10.add 5) fun(vote2:Int)=>Ld (.int .i64) h_ (m1.add 1) fun(From3:Int)=>(bif vote2==From3 then Nn x fun p11=>Ld (.int .i64) h_ (p11.add 6) fun(role1:Int)=>(bif role1 !=3 then Nn x fun p12=>Ld .ptr h_ (p12.add 11) fun(log1:Option Addr)=>Ld (.int .i64) h_ (m1.add 4) fun(Index1:Int)=>Ld (.int .i64) h_ (m1.add 5) fun(LogTerm1:Int)=>QbK log1 Index1 LogTerm1 h_ fun(r1:Bool) h_10=>J r1 h_10 else J false h_) else J false h_))
theorem QiU{x:Option Addr}{m:KL [.int .i64,.int .i64,.int .i64,.int .i64,.int .i64,.int .i64,.int .i64,.bool,.sl]}{h:Heap}{R:Heap->Prop}(hs:QeY x m h R):Qde x m h R:=Qbb (an:= [(6,[(4,.one .bool)]),(29,[]),(116,[])]) Tryz.func81 (by kernel_rfl) (by kernel_rfl) hs
def Qes(x:Option Addr)(m:KL [.int .i64,.int .i64,.int .i64,.int .i64,.int .i64,.int .i64,.int .i64,.bool,.sl])(h:Heap)(R:Heap->Prop):Prop:=QaG h (.cells #[.int .i64 m.1,.int .i64 m.2.1,.int .i64 m.2.2.1,.int .i64 m.2.2.2.1,.int .i64 m.2.2.2.2.1,.int .i64 m.2.2.2.2.2.1,.int .i64 m.2.2.2.2.2.2.1,.bool m.2.2.2.2.2.2.2.1,.slice m.2.2.2.2.2.2.2.2.1.a m.2.2.2.2.2.2.2.2.1.n m.2.2.2.2.2.2.2.2.1.c] 59) fun m1 h_=>Qie [.one .bool] (fun _ (x13:Bool) h_1=>(bif x13 then R h_1 else Nn x fun p=>Ld (.int .u64) h_1 (p.add 12) fun(votes:Int)=>Ld (.int .i64) h_1 (m1.add 1) fun(From:Int)=>Qkv (IntKind.u64.wrap From) (Nn x fun p1=>St h_1 (p1.add 12) (.int .u64 (QdH .or .u64 votes (QaL .shl .u64 1 (IntKind.u64.wrap From)))) fun h_2=>Nn x fun p2=>Ld (.int .u64) h_2 (p2.add 12) fun(votes1:Int)=>Qbe x votes1 h_2 fun(r:Bool) h_3=>(bif r then QcM x h_3 fun h_4=>R h_4 else R h_3)))) fun J=>Ld .bool h_ (m1.add 7) fun(Yes:Bool)=>(bif !Yes then J true h_ else Nn x fun p3=>Ld (.int .i64) h_ (p3.add 6) fun(role:Int)=>J (role !=2) h_)
theorem Qif{x:Option Addr}{m:KL [.int .i64,.int .i64,.int .i64,.int .i64,.int .i64,.int .i64,.int .i64,.bool,.sl]}{h:Heap}{R:Heap->Prop}(hs:Qes x m h R):QcU x m h R:=Qbb (an:= [(12,[(13,.one .bool)])]) Tryz.func82 (by kernel_rfl) (by kernel_rfl) hs
def Qft(x:Option Addr)(m:KL [.int .i64,.int .i64,.int .i64,.int .i64,.int .i64,.int .i64,.int .i64,.bool,.sl])(h:Heap)(R:Heap->Prop):Prop:=QaG h (.cells #[.int .i64 m.1,.int .i64 m.2.1,.int .i64 m.2.2.1,.int .i64 m.2.2.2.1,.int .i64 m.2.2.2.2.1,.int .i64 m.2.2.2.2.2.1,.int .i64 m.2.2.2.2.2.2.1,.bool m.2.2.2.2.2.2.2.1,.slice m.2.2.2.2.2.2.2.2.1.a m.2.2.2.2.2.2.2.2.1.n m.2.2.2.2.2.2.2.2.1.c] 59) fun m1 h_=>Nn x fun p=>Ld (.int .i64) h_ (p.add 6) fun(role:Int)=>(bif role==3 then R h_ else Nn x fun p1=>Ld (.int .i64) h_ (p1.add 4) fun(term:Int)=>Ld (.int .i64) h_ (m1.add 1) fun(From:Int)=>Qbc x term From h_ fun h_1=>Nn x fun p2=>St h_1 (p2.add 8) (.int .i64 0) fun h_2=>Ld (.int .i64) h_2 (m1.add 4) fun(Index:Int)=>Nn x fun p3=>Ld (.int .i64) h_2 (p3.add 10) fun(commit:Int)=>(bif decide (Index<commit) then Ld (.int .i64) h_2 (m1.add 1) fun(From1:Int)=>Nn x fun p4=>Ld (.int .i64) h_2 (p4.add 10) fun(commit1:Int)=>QbR x From1 true commit1 h_2 fun h_3=>R h_3 else Nn x fun p5=>Ld .ptr h_2 (p5.add 11) fun(log:Option Addr)=>Ld (.int .i64) h_2 (m1.add 4) fun(Index1:Int)=>Ld (.int .i64) h_2 (m1.add 5) fun(LogTerm:Int)=>Ld .sl h_2 (m1.add 8) fun(Entries:Sl)=>Qgu log Index1 LogTerm Entries h_2 fun(r:Int) (r1:Int) h_4=>(bif r1 !=0 then Ld (.int .i64) h_4 (m1.add 1) fun(From2:Int)=>Ld (.int .i64) h_4 (m1.add 4) fun(Index2:Int)=>Qa6 x h_4 fun(r2:Int) h_5=>(Ld (.int .i64) h_5 (m1.add 1) fun(From3:Int)=>(.int .i64 From3:Value)= .int .i64 From2)/\(Ld (.int .i64) h_5 (m1.add 4) fun(Index3:Int)=>(.int .i64 Index3:Value)= .int .i64 Index2)/\QbR x From2 false (if 0>(if(IntKind.i64.wrap (Index2 -1))<r2 then IntKind.i64.wrap (Index2 -1) else r2) then 0 else if(IntKind.i64.wrap (Index2 -1))<r2 then IntKind.i64.wrap (Index2 -1) else r2) h_5 fun h_6=>R h_6 else Qie [] (fun _ h_7=>Ld (.int .i64) h_7 (m1.add 4) fun(Index4:Int)=>Ld .sl h_7 (m1.add 8) fun(Entries1:Sl)=>Let (IntKind.i64.wrap (Index4+(Entries1.n:Int)):Int) fun last=>Nn x fun p6=>Ld (.int .i64) h_7 (p6.add 10) fun(commit2:Int)=>Ld (.int .i64) h_7 (m1.add 6) fun(Commit:Int)=>Nn x fun p7=>St h_7 (p7.add 10) (.int .i64 (if(if last<Commit then last else Commit)>commit2 then if last<Commit then last else Commit else commit2)) fun h_8=>Ld (.int .i64) h_8 (m1.add 1) fun(From4:Int)=>QbR x From4 true last h_8 fun h_9=>R h_9) fun J=>(bif decide (r>0) then Qb6 x r h_4 fun h_10=>J h_10 else J h_4))))
theorem QjT{x:Option Addr}{m:KL [.int .i64,.int .i64,.int .i64,.int .i64,.int .i64,.int .i64,.int .i64,.bool,.sl]}{h:Heap}{R:Heap->Prop}(hs:Qft x m h R):Qdx x m h R:=Qbb (an:= [(1021,[])]) Tryz.func83 (by kernel_rfl) (by kernel_rfl) hs
def Qf0(x:Option Addr)(m:KL [.int .i64,.int .i64,.int .i64,.int .i64,.int .i64,.int .i64,.int .i64,.bool,.sl])(h:Heap)(R:Heap->Prop):Prop:=QaG h (.cells #[.int .i64 m.1,.int .i64 m.2.1,.int .i64 m.2.2.1,.int .i64 m.2.2.2.1,.int .i64 m.2.2.2.2.1,.int .i64 m.2.2.2.2.2.1,.int .i64 m.2.2.2.2.2.2.1,.bool m.2.2.2.2.2.2.2.1,.slice m.2.2.2.2.2.2.2.2.1.a m.2.2.2.2.2.2.2.2.1.n m.2.2.2.2.2.2.2.2.1.c] 59) fun m1 h_=>Nn x fun p=>Ld (.int .i64) h_ (p.add 6) fun(role:Int)=>(bif role !=3 then R h_ else Nn x fun p1=>Ld (.int .u64) h_ (p1.add 13) fun(heard:Int)=>Ld (.int .i64) h_ (m1.add 1) fun(From:Int)=>Qkv (IntKind.u64.wrap From) (Nn x fun p2=>St h_ (p2.add 13) (.int .u64 (QdH .or .u64 heard (QaL .shl .u64 1 (IntKind.u64.wrap From)))) fun h_1=>Ld (.int .i64) h_1 (m1.add 1) fun(From1:Int)=>Nn x fun p3=>IxA (p3.add 21) 7 From1 1 fun e=>Qa6 x h_1 fun(r:Int) h_2=>(Ld (.int .i64) h_2 (m1.add 1) fun(From2:Int)=>(.int .i64 From2:Value)= .int .i64 From1)/\Qie [.one .bool] (fun _ (x30:Bool) h_3=>(bif x30 then Nn (some e) fun p4=>Ld (.int .i64) h_3 p4 fun(x1:Int)=>Ld (.int .i64) h_3 (m1.add 4) fun(Index:Int)=>Nn (some e) fun p5=>St h_3 p5 (.int .i64 (if Index>x1 then Index else x1)) fun h_4=>Ld (.int .i64) h_4 (m1.add 1) fun(From3:Int)=>Nn (some e) fun p6=>Ld (.int .i64) h_4 p6 fun(x2:Int)=>Nn x fun p7=>IxA (p7.add 14) 7 From3 1 fun e1=>St h_4 e1 (.int .i64 (IntKind.i64.wrap (x2+1))) fun h_5=>QcN x h_5 fun h_6=>Nn (some e) fun p8=>Ld (.int .i64) h_6 p8 fun(x3:Int)=>Qa6 x h_6 fun(r1:Int) h_7=>(Ld (.int .i64) h_7 p8 fun(x4:Int)=>(.int .i64 x4:Value)= .int .i64 x3)/\(bif decide (x3<r1) then Ld (.int .i64) h_7 (m1.add 1) fun(From4:Int)=>Qc6 x From4 h_7 fun h_8=>R h_8 else R h_7) else Ld .bool h_3 (m1.add 7) fun(Yes:Bool)=>(bif !Yes then Ld (.int .i64) h_3 (m1.add 1) fun(From5:Int)=>Ld (.int .i64) h_3 (m1.add 4) fun(Index1:Int)=>Ld (.int .i64) h_3 (m1.add 1) fun(From6:Int)=>Nn x fun p9=>IxA (p9.add 14) 7 From6 1 fun e2=>Ld (.int .i64) h_3 e2 fun(x5:Int)=>Nn (some e) fun p10=>Ld (.int .i64) h_3 p10 fun(x6:Int)=>Nn x fun p11=>IxA (p11.add 14) 7 From5 1 fun e3=>St h_3 e3 (.int .i64 (if(IntKind.i64.wrap (x6+1))>(if(IntKind.i64.wrap (x5 -1))<(IntKind.i64.wrap ((if r<(if 0>Index1 then 0 else Index1) then r else if 0>Index1 then 0 else Index1)+1)) then IntKind.i64.wrap (x5 -1) else IntKind.i64.wrap ((if r<(if 0>Index1 then 0 else Index1) then r else if 0>Index1 then 0 else Index1)+1)) then IntKind.i64.wrap (x6+1) else if(IntKind.i64.wrap (x5 -1))<(IntKind.i64.wrap ((if r<(if 0>Index1 then 0 else Index1) then r else if 0>Index1 then 0 else Index1)+1)) then IntKind.i64.wrap (x5 -1) else IntKind.i64.wrap ((if r<(if 0>Index1 then 0 else Index1) then r else if 0>Index1 then 0 else Index1)+1))) fun h_9=>Ld (.int .i64) h_9 (m1.add 1) fun(From7:Int)=>Qc6 x From7 h_9 fun h_10=>R h_10 else R h_3))) fun J=>Ld .bool h_2 (m1.add 7) fun(Yes1:Bool)=>(bif Yes1 then Ld (.int .i64) h_2 (m1.add 4) fun(Index2:Int)=>(bif decide (Index2>=0) then Ld (.int .i64) h_2 (m1.add 4) fun(Index3:Int)=>J (decide (Index3<=r)) h_2 else J false h_2) else J false h_2)))
theorem QkB{x:Option Addr}{m:KL [.int .i64,.int .i64,.int .i64,.int .i64,.int .i64,.int .i64,.int .i64,.bool,.sl]}{h:Heap}{R:Heap->Prop}(hs:Qf0 x m h R):QdT x m h R:=Qbb (an:= [(124,[(30,.one .bool)])]) Tryz.func84 (by kernel_rfl) (by kernel_rfl) hs
def QgO(x:Option Addr)(h:Heap)(R:KL [.bool,.int .i64,.int .i64,.int .i64,.sl]->Bool->Heap->Prop):Prop:=QaG h (.cells #[.bool false,.int .i64 0,.int .i64 0,.int .i64 0,.slice none 0 0] 123) fun p h_=>Qie [.one .bool] (fun _ (x20:Bool) h_1=>(bif x20 then St h_1 p (.bool false) fun h_2=>St h_2 (p.add 1) (.int .i64 0) fun h_3=>St h_3 (p.add 2) (.int .i64 0) fun h_4=>St h_4 (p.add 3) (.int .i64 0) fun h_5=>St h_5 (p.add 4) (.slice none 0 0) fun h_6=>Ld .bool h_6 p fun(r_0:Bool)=>Ld (.int .i64) h_6 (p.add 1) fun(r_1:Int)=>Ld (.int .i64) h_6 (p.add 2) fun(r_2:Int)=>Ld (.int .i64) h_6 (p.add 3) fun(r_3:Int)=>Ld .sl h_6 (p.add 4) fun(r_4:Sl)=>R (r_0,r_1,r_2,r_3,r_4,()) false h_6 else Nn x fun p1=>Ld .bool h_1 (p1.add 29) fun(hard:Bool)=>Nn x fun p2=>Ld (.int .i64) h_1 (p2.add 4) fun(term:Int)=>Nn x fun p3=>Ld (.int .i64) h_1 (p3.add 5) fun(vote:Int)=>QaG h_1 (.cells #[.bool false,.int .i64 0,.int .i64 0,.int .i64 0,.slice none 0 0] 123) fun s h_7=>(Ld .bool h_7 (p1.add 29) fun(hard1:Bool)=>(.bool hard1:Value)= .bool hard)/\(Ld (.int .i64) h_7 (p2.add 4) fun(term1:Int)=>(.int .i64 term1:Value)= .int .i64 term)/\(Ld (.int .i64) h_7 (p3.add 5) fun(vote1:Int)=>(.int .i64 vote1:Value)= .int .i64 vote)/\St h_7 s (.bool hard) fun h_8=>St h_8 (s.add 1) (.int .i64 term) fun h_9=>St h_9 (s.add 2) (.int .i64 vote) fun h_10=>St h_10 (s.add 3) (.int .i64 0) fun h_11=>St h_11 (s.add 4) (.slice none 0 0) fun h_12=>Nn x fun p4=>Ld (.int .i64) h_12 (p4.add 30) fun(from_:Int)=>Qie [] (fun _ h_13=>Nn x fun p5=>St h_13 (p5.add 29) (.bool false) fun h_14=>Nn x fun p6=>St h_14 (p6.add 30) (.int .i64 0) fun h_15=>Ld .bool h_15 s fun(x_Hard:Bool)=>Ld (.int .i64) h_15 (s.add 1) fun(x_Term:Int)=>Ld (.int .i64) h_15 (s.add 2) fun(x_Vote:Int)=>Ld (.int .i64) h_15 (s.add 3) fun(x_From:Int)=>Ld .sl h_15 (s.add 4) fun(x_Entries:Sl)=>St h_15 p (.bool x_Hard) fun h_16=>St h_16 (p.add 1) (.int .i64 x_Term) fun h_17=>St h_17 (p.add 2) (.int .i64 x_Vote) fun h_18=>St h_18 (p.add 3) (.int .i64 x_From) fun h_19=>St h_19 (p.add 4) (.slice x_Entries.a x_Entries.n x_Entries.c) fun h_20=>Ld .bool h_20 p fun(r_01:Bool)=>Ld (.int .i64) h_20 (p.add 1) fun(r_11:Int)=>Ld (.int .i64) h_20 (p.add 2) fun(r_21:Int)=>Ld (.int .i64) h_20 (p.add 3) fun(r_31:Int)=>Ld .sl h_20 (p.add 4) fun(r_41:Sl)=>R (r_01,r_11,r_21,r_31,r_41,()) true h_20) fun J1=>(bif decide (from_>0) then Nn x fun p7=>Ld (.int .i64) h_12 (p7.add 30) fun(from_1:Int)=>Nn x fun p8=>Ld .ptr h_12 (p8.add 11) fun(log:Option Addr)=>Nn x fun p9=>Ld (.int .i64) h_12 (p9.add 30) fun(from_2:Int)=>Qd2 log from_2 1024 h_12 fun(r:Sl) h_21=>(Ld (.int .i64) h_21 (p7.add 30) fun(from_3:Int)=>(.int .i64 from_3:Value)= .int .i64 from_1)/\St h_21 (s.add 3) (.int .i64 from_1) fun h_22=>St h_22 (s.add 4) (.slice r.a r.n r.c) fun h_23=>J1 h_23 else J1 h_12))) fun J=>(bif x.isNone then J true h_ else Nn x fun p10=>Ld .bool h_ (p10.add 29) fun(hard2:Bool)=>(bif !hard2 then Nn x fun p11=>Ld (.int .i64) h_ (p11.add 30) fun(from_4:Int)=>J (from_4==0) h_ else J false h_))
theorem Qln{x:Option Addr}{h:Heap}{R:KL [.bool,.int .i64,.int .i64,.int .i64,.sl]->Bool->Heap->Prop}(hs:QgO x h R):Qep x h R:=useG_SR (an:= [(12,[(20,.one .bool)]),(61,[])]) Tryz.func85 (by kernel_rfl) (by kernel_rfl) hs
def QgI(x:Option Addr)(nodes:Int)(h:Heap)(R:Bool->Heap->Prop):Prop:=Nn x fun p=>Ld (.int .i64) h (p.add 1) fun(n:Int)=>QcC nodes h fun(r:Int) h_=>(Ld (.int .i64) h_ (p.add 1) fun(n1:Int)=>(.int .i64 n1:Value)= .int .i64 n)/\R (decide ((IntKind.i64.wrap (2*r))>n)) h_
theorem Qli{x:Option Addr}{nodes:Int}{h:Heap}{R:Bool->Heap->Prop}(hs:QgI x nodes h R):Qbe x nodes h R:=Qbb (an:= []) Tryz.func93 (by kernel_rfl) (by kernel_rfl) hs
def QfY(x:Option Addr)(h:Heap)(R:Heap->Prop):Prop:=Nn x fun p=>St h (p.add 8) (.int .i64 0) fun h_=>Nn x fun p1=>Ld (.int .i64) h_ (p1.add 1) fun(n:Int)=>Qf9 [.one (.int .i64)] (fun _ (x10:Int) h_1 go=>(bif decide (x10<n) then Nn x fun p2=>Ld (.int .i64) h_1 p2 fun(id:Int)=>(bif x10 !=id then Qc6 x x10 h_1 fun h_2=>go (IntKind.i64.wrap (x10+1)) h_2 else go (IntKind.i64.wrap (x10+1)) h_1) else R h_1)) (0,()) h_
theorem Qkz{x:Option Addr}{h:Heap}{R:Heap->Prop}(hs:QfY x h R):QbJ x h R:=Qbb (an:= [(14,[(10,.one (.int .i64))])]) Tryz.func94 (by kernel_rfl) (by kernel_rfl) hs
def Qfp(x:Option Addr)(h:Heap)(R:Heap->Prop):Prop:=Nn x fun p=>Ld (.int .i64) h p fun(id:Int)=>Qkv (IntKind.u64.wrap id) (Nn x fun p1=>St h (p1.add 8) (.int .i64 0) fun h_=>Nn x fun p2=>St h_ (p2.add 6) (.int .i64 2) fun h_1=>Nn x fun p3=>St h_1 (p3.add 12) (.int .u64 (QaL .shl .u64 1 (IntKind.u64.wrap id))) fun h_2=>Nn x fun p4=>Ld (.int .i64) h_2 (p4.add 4) fun(term:Int)=>Nn x fun p5=>Ld (.int .i64) h_2 p5 fun(id1:Int)=>Nn x fun p6=>St h_2 (p6.add 4) (.int .i64 (IntKind.i64.wrap (term+1))) fun h_3=>Nn x fun p7=>St h_3 (p7.add 5) (.int .i64 id1) fun h_4=>Nn x fun p8=>St h_4 (p8.add 29) (.bool true) fun h_5=>Nn x fun p9=>Ld (.int .u64) h_5 (p9.add 12) fun(votes:Int)=>Qbe x votes h_5 fun(r:Bool) h_6=>(bif r then QcM x h_6 fun h_7=>R h_7 else Nn x fun p10=>Ld .ptr h_6 (p10.add 11) fun(log:Option Addr)=>Qa0 log h_6 fun(r1:Int) (r2:Int) h_8=>Nn x fun p11=>Ld (.int .i64) h_8 (p11.add 4) fun(term1:Int)=>Qdy x (3,0,0,term1,r1,r2,0,false,⟨none,0,0⟩,()) h_8 fun h_9=>R h_9))
theorem QjP{x:Option Addr}{h:Heap}{R:Heap->Prop}(hs:Qfp x h R):Qcs x h R:=Qbb (an:= []) Tryz.func95 (by kernel_rfl) (by kernel_rfl) hs
def QhB(x:Option Addr)(m:KL [.int .i64,.int .i64,.int .i64,.int .i64,.int .i64,.int .i64,.int .i64,.bool,.sl])(h:Heap)(R:Heap->Prop):Prop:=QaG h (.cells #[.int .i64 m.1,.int .i64 m.2.1,.int .i64 m.2.2.1,.int .i64 m.2.2.2.1,.int .i64 m.2.2.2.2.1,.int .i64 m.2.2.2.2.2.1,.int .i64 m.2.2.2.2.2.2.1,.bool m.2.2.2.2.2.2.2.1,.slice m.2.2.2.2.2.2.2.2.1.a m.2.2.2.2.2.2.2.2.1.n m.2.2.2.2.2.2.2.2.1.c] 59) fun m1 h_=>Nn x fun p=>Ld (.int .i64) h_ (p.add 1) fun(n:Int)=>Qf9 [.one (.int .i64)] (fun _ (x9:Int) h_1 go=>(bif decide (x9<n) then Nn x fun p1=>Ld (.int .i64) h_1 p1 fun(id:Int)=>(bif x9 !=id then Ld (.int .i64) h_1 m1 fun(x_Kind:Int)=>Ld (.int .i64) h_1 (m1.add 1) fun(x_From:Int)=>Ld (.int .i64) h_1 (m1.add 2) fun(x_To:Int)=>Ld (.int .i64) h_1 (m1.add 3) fun(x_Term:Int)=>Ld (.int .i64) h_1 (m1.add 4) fun(x_Index:Int)=>Ld (.int .i64) h_1 (m1.add 5) fun(x_LogTerm:Int)=>Ld (.int .i64) h_1 (m1.add 6) fun(x_Commit:Int)=>Ld .bool h_1 (m1.add 7) fun(x_Yes:Bool)=>Ld .sl h_1 (m1.add 8) fun(x_Entries:Sl)=>Qa5 x x9 (x_Kind,x_From,x_To,x_Term,x_Index,x_LogTerm,x_Commit,x_Yes,x_Entries,()) h_1 fun h_2=>go (IntKind.i64.wrap (x9+1)) h_2 else go (IntKind.i64.wrap (x9+1)) h_1) else R h_1)) (0,()) h_
theorem QmY{x:Option Addr}{m:KL [.int .i64,.int .i64,.int .i64,.int .i64,.int .i64,.int .i64,.int .i64,.bool,.sl]}{h:Heap}{R:Heap->Prop}(hs:QhB x m h R):Qdy x m h R:=Qbb (an:= [(14,[(9,.one (.int .i64))])]) Tryz.func96 (by kernel_rfl) (by kernel_rfl) hs
def Qf1(x:Option Addr)(index:Int)(h:Heap)(R:Heap->Prop):Prop:=Nn x fun p=>Ld (.int .i64) h (p.add 30) fun(from_:Int)=>(bif from_==0 then Nn x fun p1=>St h (p1.add 30) (.int .i64 index) fun h_=>R h_ else Nn x fun p2=>Ld (.int .i64) h (p2.add 30) fun(from_1:Int)=>(bif decide (index<from_1) then Nn x fun p3=>St h (p3.add 30) (.int .i64 index) fun h_1=>R h_1 else R h))
theorem QkC{x:Option Addr}{index:Int}{h:Heap}{R:Heap->Prop}(hs:Qf1 x index h R):Qb6 x index h R:=Qbb (an:= []) Tryz.func98 (by kernel_rfl) (by kernel_rfl) hs
def Qf2(x:Option Addr)(h:Heap)(R:Heap->Prop):Prop:=Nn x fun p=>Ld .ptr h (p.add 11) fun(log:Option Addr)=>Qa0 log h fun(r:Int) (r1:Int) h_=>Qf9 [.one (.int .i64)] (fun _ (index:Int) h_1 go=>Nn x fun p1=>Ld (.int .i64) h_1 (p1.add 10) fun(commit:Int)=>(bif decide (index>commit) then Nn x fun p2=>Ld .ptr h_1 (p2.add 11) fun(log1:Option Addr)=>Qcm log1 index h_1 fun(r2:Int) (r3:Bool) h_2=>Nn x fun p3=>Ld (.int .i64) h_2 (p3.add 4) fun(term:Int)=>(bif r2 !=term then R h_2 else Nn x fun p4=>Ld (.int .i64) h_2 p4 fun(id:Int)=>Qkv (IntKind.u64.wrap id) (Let (QaL .shl .u64 1 (IntKind.u64.wrap id):Int) fun have_=>Nn x fun p5=>Ld (.int .i64) h_2 (p5.add 1) fun(n:Int)=>Qf9 [.one (.int .u64),.one (.int .i64)] (fun _ (have_1:Int) (x51:Int) h_3 go1=>(bif decide (x51<n) then Nn x fun p6=>Ld (.int .i64) h_3 p6 fun(id1:Int)=>(bif x51 !=id1 then Nn x fun p7=>IxA (p7.add 21) 7 x51 1 fun e=>Ld (.int .i64) h_3 e fun(x1:Int)=>(bif decide (x1>=index) then Qkv (IntKind.u64.wrap x51) (Let (QdH .or .u64 have_1 (QaL .shl .u64 1 (IntKind.u64.wrap x51)):Int) fun have_2=>go1 have_2 (IntKind.i64.wrap (x51+1)) h_3) else go1 have_1 (IntKind.i64.wrap (x51+1)) h_3) else go1 have_1 (IntKind.i64.wrap (x51+1)) h_3) else Qbe x have_1 h_3 fun(r4:Bool) h_4=>(bif r4 then Nn x fun p8=>St h_4 (p8.add 10) (.int .i64 index) fun h_5=>QbJ x h_5 fun h_6=>R h_6 else Let (IntKind.i64.wrap (index -1):Int) fun index1=>go index1 h_4))) (have_,0,()) h_2)) else R h_1)) (r,()) h_
theorem QkD{x:Option Addr}{h:Heap}{R:Heap->Prop}(hs:Qf2 x h R):QcN x h R:=Qbb (an:= [(14,[(4,.one (.int .i64))]),(7322,[(7,.one (.int .u64)),(51,.one (.int .i64))])]) Tryz.func99 (by kernel_rfl) (by kernel_rfl) hs
def Qet(e:KL [.int .i64,.str])(fv:Addr)(h:Heap)(R:Bool->Heap->Prop):Prop:=QaG h (.cells #[.int .i64 e.1,.string e.2.1] 40) fun e1 h_=>Ld (.int .i64) h_ e1 fun(Term:Int)=>Ld (.int .i64) h_ (fv.add 3) fun(Term1:Int)=>(bif decide (Term>Term1) then R true h_ else Ld (.int .i64) h_ e1 fun(Term2:Int)=>(bif decide (Term2<1) then R true h_ else Ld .str h_ (e1.add 1) fun(Data:ByteArray)=>R (decide ((Data.size:Int)>512)) h_))
theorem Qig{e:KL [.int .i64,.str]}{fv:Addr}{h:Heap}{R:Bool->Heap->Prop}(hs:Qet e fv h R):Qez e (some fv) h R:=Qbb (an:= []) Tryz.func100 (by kernel_rfl) (by kernel_rfl) hs
def Qco(s:Sl)(cap:Option Addr)(h:Heap)(R:Bool->Heap->Prop):Prop:=Qbx s (.func (.func 100) #[] #[.pointer cap]) h fun(r:Int) h_=>R (decide (r>=0)) h_
theorem Qcp{s:Sl}{cap:Option Addr}{h:Heap}{R:Bool->Heap->Prop}(hs:Qco s cap h R):Qbj s (.func (.func 100) #[] #[.pointer cap]) h R:=Qbb (an:= []) Tryz.func101 (by kernel_rfl) (by kernel_rfl) hs
def QgH(x:Option Addr)(to:Int)(m:KL [.int .i64,.int .i64,.int .i64,.int .i64,.int .i64,.int .i64,.int .i64,.bool,.sl])(h:Heap)(R:Heap->Prop):Prop:=QaG h (.cells #[.int .i64 m.1,.int .i64 m.2.1,.int .i64 m.2.2.1,.int .i64 m.2.2.2.1,.int .i64 m.2.2.2.2.1,.int .i64 m.2.2.2.2.2.1,.int .i64 m.2.2.2.2.2.2.1,.bool m.2.2.2.2.2.2.2.1,.slice m.2.2.2.2.2.2.2.2.1.a m.2.2.2.2.2.2.2.2.1.n m.2.2.2.2.2.2.2.2.1.c] 59) fun m1 h_=>Nn x fun p=>Ld (.int .i64) h_ p fun(id:Int)=>St h_ (m1.add 1) (.int .i64 id) fun h_1=>St h_1 (m1.add 2) (.int .i64 to) fun h_2=>Nn x fun p1=>Ld .sl h_2 (p1.add 28) fun(out:Sl)=>Ld (.int .i64) h_2 m1 fun(x_Kind:Int)=>Ld (.int .i64) h_2 (m1.add 1) fun(x_From:Int)=>Ld (.int .i64) h_2 (m1.add 2) fun(x_To:Int)=>Ld (.int .i64) h_2 (m1.add 3) fun(x_Term:Int)=>Ld (.int .i64) h_2 (m1.add 4) fun(x_Index:Int)=>Ld (.int .i64) h_2 (m1.add 5) fun(x_LogTerm:Int)=>Ld (.int .i64) h_2 (m1.add 6) fun(x_Commit:Int)=>Ld .bool h_2 (m1.add 7) fun(x_Yes:Bool)=>Ld .sl h_2 (m1.add 8) fun(x_Entries:Sl)=>QaG h_2 (.cells #[.int .i64 x_Kind,.int .i64 x_From,.int .i64 x_To,.int .i64 x_Term,.int .i64 x_Index,.int .i64 x_LogTerm,.int .i64 x_Commit,.bool x_Yes,.slice x_Entries.a x_Entries.n x_Entries.c] 59) fun b h_3=>(Ld .sl h_3 (p1.add 28) fun(out1:Sl)=>(.slice out1.a out1.n out1.c:Value)= .slice out.a out.n out.c)/\App Tryz.prog 54 54 out ⟨some b,1,1⟩ h_3 fun s h_4=>Nn x fun p2=>St h_4 (p2.add 28) (.slice s.a s.n s.c) fun h_5=>R h_5
theorem Qlh{x:Option Addr}{to:Int}{m:KL [.int .i64,.int .i64,.int .i64,.int .i64,.int .i64,.int .i64,.int .i64,.bool,.sl]}{h:Heap}{R:Heap->Prop}(hs:QgH x to m h R):Qa5 x to m h R:=Qbb (an:= []) Tryz.func103 (by kernel_rfl) (by kernel_rfl) hs
def QfZ(x:Option Addr)(h:Heap)(R:Heap->Prop):Prop:=Nn x fun p=>Ld (.int .i64) h p fun(id:Int)=>Nn x fun p1=>St h (p1.add 8) (.int .i64 0) fun h_=>Nn x fun p2=>St h_ (p2.add 9) (.int .i64 0) fun h_1=>Nn x fun p3=>St h_1 (p3.add 6) (.int .i64 3) fun h_2=>Nn x fun p4=>St h_2 (p4.add 7) (.int .i64 id) fun h_3=>Nn x fun p5=>St h_3 (p5.add 13) (.int .u64 0) fun h_4=>Nn x fun p6=>Ld .ptr h_4 (p6.add 11) fun(log:Option Addr)=>Qa0 log h_4 fun(r:Int) (r1:Int) h_5=>Nn x fun p7=>Ld (.int .i64) h_5 (p7.add 1) fun(n:Int)=>Qf9 [.one (.int .i64)] (fun _ (x36:Int) h_6 go=>(bif decide (x36<n) then Nn x fun p8=>IxA (p8.add 14) 7 x36 1 fun e=>Nn x fun p9=>St h_6 e (.int .i64 (IntKind.i64.wrap (r+1))) fun h_7=>IxA (p9.add 21) 7 x36 1 fun e1=>St h_7 e1 (.int .i64 0) fun h_8=>go (IntKind.i64.wrap (x36+1)) h_8 else Qdz x (⟨#[]⟩:ByteArray) h_6 fun(r2:Int) h_9=>(bif r2 !=0 then Nn x fun p10=>Ld (.int .i64) h_9 (p10.add 4) fun(term:Int)=>Qbc x term (-1) h_9 fun h_10=>R h_10 else R h_9))) (0,()) h_5
theorem QkA{x:Option Addr}{h:Heap}{R:Heap->Prop}(hs:QfZ x h R):QcM x h R:=Qbb (an:= [(58,[(36,.one (.int .i64))])]) Tryz.func104 (by kernel_rfl) (by kernel_rfl) hs
def Qis(x:Option Addr)(to:Int)(h:Heap)(R:Heap->Prop):Prop:=Nn x fun p=>IxA (p.add 14) 7 to 1 fun e=>Ld (.int .i64) h e fun(x1:Int)=>Let (IntKind.i64.wrap (x1 -1):Int) fun ahead=>Nn x fun p1=>Ld .ptr h (p1.add 11) fun(log:Option Addr)=>Qcm log ahead h fun(r:Int) (r1:Bool) h_=>Nn x fun p2=>Ld (.int .i64) h_ (p2.add 4) fun(term:Int)=>Nn x fun p3=>Ld (.int .i64) h_ (p3.add 10) fun(commit:Int)=>Nn x fun p4=>Ld .ptr h_ (p4.add 11) fun(log1:Option Addr)=>Qd2 log1 (IntKind.i64.wrap (ahead+1)) 8 h_ fun(r2:Sl) h_1=>(Ld (.int .i64) h_1 (p2.add 4) fun(term1:Int)=>(.int .i64 term1:Value)= .int .i64 term)/\(Ld (.int .i64) h_1 (p3.add 10) fun(commit1:Int)=>(.int .i64 commit1:Value)= .int .i64 commit)/\Qa5 x to (5,0,0,term,ahead,r,commit,false,r2,()) h_1 fun h_2=>R h_2
theorem Qnq{x:Option Addr}{to:Int}{h:Heap}{R:Heap->Prop}(hs:Qis x to h R):Qc6 x to h R:=Qbb (an:= []) Tryz.func106 (by kernel_rfl) (by kernel_rfl) hs
def Qeg(x:Int)(h:Heap)(R:Int->Heap->Prop):Prop:=QdA x h fun(r:Int) h_=>R r h_
theorem QhO{x:Int}{h:Heap}{R:Int->Heap->Prop}(hs:Qeg x h R):QcC x h R:=Qbb (an:= []) Tryz.func112 (by kernel_rfl) (by kernel_rfl) hs
def QcL(s:Sl)(cap:Option Addr)(h:Heap)(R:Int->Heap->Prop):Prop:=Qf9 [.one (.int .i64)] (fun _ (x8:Int) h_ go=>(bif decide (x8<(s.n:Int)) then Ix s x8 2 fun e=>Ld (.int .i64) h_ e fun(x_Term:Int)=>Ld .str h_ (e.add 1) fun(x_Data:ByteArray)=>Qez (x_Term,x_Data,()) cap h_ fun(r:Bool) h_1=>(bif r then R x8 h_1 else go (IntKind.i64.wrap (x8+1)) h_1) else R (-1) h_)) (0,()) h
theorem QcO{s:Sl}{cap:Option Addr}{h:Heap}{R:Int->Heap->Prop}(hs:QcL s cap h R):Qbx s (.func (.func 100) #[] #[.pointer cap]) h R:=Qbb (an:= [(26,[(8,.one (.int .i64))])]) Tryz.func114 (by kernel_rfl) (by kernel_rfl) hs
def Qca(x:Int)(h:Heap)(R:Int->Heap->Prop):Prop:=Qkv 1 (Let (IntKind.u64.wrap ((QdH .and .u64 (QaL .shr .u64 x 1) 6148914691236517205)+(QdH .and .u64 x 6148914691236517205)):Int) fun x1=>Qkv 2 (Let (IntKind.u64.wrap ((QdH .and .u64 (QaL .shr .u64 x1 2) 3689348814741910323)+(QdH .and .u64 x1 3689348814741910323)):Int) fun x2=>Qkv 4 (Let (QdH .and .u64 (IntKind.u64.wrap ((QaL .shr .u64 x2 4)+x2)) 1085102592571150095:Int) fun x3=>Qkv 8 (Let (IntKind.u64.wrap (x3+(QaL .shr .u64 x3 8)):Int) fun x4=>Qkv 16 (Let (IntKind.u64.wrap (x4+(QaL .shr .u64 x4 16)):Int) fun x5=>Qkv 32 (Let (IntKind.u64.wrap (x5+(QaL .shr .u64 x5 32)):Int) fun x6=>R (QdH .and .i64 (IntKind.i64.wrap x6) 127) h))))))
theorem QgA{x:Int}{h:Heap}{R:Int->Heap->Prop}(hs:Qca x h R):QdA x h R:=Qbb (an:= []) Tryz.func123 (by kernel_rfl) (by kernel_rfl) hs
end
section
open Go
theorem brNot{b:Bool}{A B:Prop}(h1:b=false->A)(h2:b=true->B):cond (!b) A B:=by
 cases b
 ·exact h1 rfl
 ·exact h2 rfl
def eRE:Enc RE 2:=⟨fun a=> [.int .i64 a.term,.string a.data],fun _=>rfl,by decide,fun x u hu=>by
 simp only[List.mem_cons,List.not_mem_nil,or_false] at hu
 rcases hu with rfl|rfl<;>rfl⟩
theorem TRE:ElemT Tryz.prog 37 40 2 24:= .of (by kernel_rfl)
theorem bit_one{p:Int}(h0:0<=p)(hp:p<7):QaL .shl .u64 1 (IntKind.u64.wrap p)=((2^p.toNat:Nat):Int):=by
 have h2:=pow7 h0 hp
 rw[wu64 (by omega) (by omega)]
 obtain⟨k,rfl⟩:∃k:Nat,p=k:=⟨p.toNat,by omega⟩
 have:=shl_eq .u64 1 k (by show k<=64;omega)
 rw[this,Int.toNat_natCast]
 rw[Int.toNat_natCast] at h2
 rw[show(1*2^k:Int)=((2^k:Nat):Int) by simp,wu64 (Int.natCast_nonneg _) (Int.lt_of_lt_of_le (Int.ofNat_lt.2 h2) (by decide))]
theorem Qks{g:Nat}{p:Int}(hg:g<128)(h0:0<=p)(hp:p<7):QdH .or .u64 (g:Int) (QaL .shl .u64 1 (IntKind.u64.wrap p))=((g|||2^p.toNat:Nat):Int):=by
 have h2:=pow7 h0 hp
 have hor:=or7 hg h0 hp
 rw[bit_one h0 hp,or_u64' (by omega) (by omega)]
theorem popT_all:∀x:Fin 128,∀(h:Heap) (R:Int->Heap->Prop),R (QoF 7 x.val:Nat) h->Qca ((x.val:Nat):Int) h R:=by
 intro x h R hR
 have key:∀x:Fin 128,
  let x1:=IntKind.u64.wrap ((QdH .and .u64 (QaL .shr .u64 ((x.val:Nat):Int) 1) 6148914691236517205)+(QdH .and .u64 ((x.val:Nat):Int) 6148914691236517205))
  let x2:=IntKind.u64.wrap ((QdH .and .u64 (QaL .shr .u64 x1 2) 3689348814741910323)+(QdH .and .u64 x1 3689348814741910323))
  let x3:=QdH .and .u64 (IntKind.u64.wrap ((QaL .shr .u64 x2 4)+x2)) 1085102592571150095
  let x4:=IntKind.u64.wrap (x3+(QaL .shr .u64 x3 8))
  let x5:=IntKind.u64.wrap (x4+(QaL .shr .u64 x4 16))
  let x6:=IntKind.u64.wrap (x5+(QaL .shr .u64 x5 32))
  QdH .and .i64 (IntKind.i64.wrap x6) 127=((QoF 7 x.val:Nat):Int):=by decide+kernel
 have k:=key x
 unfold Qca
 refine QlB (by decide) (QbF (QlB (by decide) (QbF (QlB (by decide) (QbF (QlB (by decide) (QbF (QlB (by decide) (QbF (QlB (by decide) (QbF ?_)))))))))))
 simp only at k
 rw[k]
 exact hR
theorem popT_ok{x:Nat}(hx:x<128){h:Heap}{R:Int->Heap->Prop}(hR:R (QoF 7 x:Nat) h):QcC (x:Int) h R:=by
 refine QhO ?_
 unfold Qeg
 exact QgA (popT_all ⟨x,hx⟩ h R hR)
theorem popT_le:∀x:Fin 128,QoF 7 x.val<=7:=by decide+kernel
def bitsN(v:Nat)(n:Nat):Nat:=((List.range n).filter fun(t:Nat)=>v.testBit t).length
theorem popT_bits:∀x:Fin 128,QoF 7 x.val=bitsN x.val 7:=by decide+kernel
section
variable {h0 h:Heap}{L G:List Res}{lg:Nat}{t:TypeId}{sl:Sl}{es:List RE}
theorem lastT_get{es:List RE}(h:0<es.length):Qa9 es=es[es.length -1].term:=by
 unfold Qa9
 rw[List.getLast?_eq_getElem?,List.getElem?_eq_getElem (by omega)];rfl
theorem QeS{R:Int->Int->Heap->Prop}(H:At h0 h L)(i:Nat)(hi:L[i]? =some (.blk lg t [.slice sl.a sl.n sl.c]))(j:Nat)(hj:L[j]? =some (.own sl 2 (eRE.fl es)))(hl:es.length<=100000)(hR:R (es.length:Int) (Qa9 es) h):Qa0 (some ⟨lg,0,none⟩) h R:=by
 refine Qns ?_
 unfold Qiu
 have hn:=H.n j hj
 refine Qg2 (s1:= .one .bool) (fun(q:Bool) h1=>(q=true↔es.length=0)/\h1=h) (fun _ (q:Bool) h1 hJ=> ?_) ?_
 ·obtain⟨hq,rfl⟩:=hJ
  refine brB (fun hqt=> ?_) fun hqf=> ?_
  ·have h0:=hq.1 hqt
   have:es= []:=List.length_eq_zero_iff.1 h0
   subst this
   exact hR
  ·have hp:0<es.length:=Nat.pos_of_ne_zero fun h0=>by rw[hq.2 h0] at hqf;cases hqf
   refine nn (Qac H i hi sl rfl (QbF (nn (Qac H i hi sl rfl ?_))))
   rw[w64 (by omega) (by omega)]
   refine ixAt H j hj (es.length -1) (by omega) (by omega) fun e he=> ?_
   refine ldEl0 (E:=eRE) H j hj he (by omega) (Qa9 es) (by rw[lastT_get hp];rfl) ?_
   rw[hn];exact hR
 ·refine brF (nn (Qac H i hi sl rfl ⟨?_,rfl⟩))
  rw[beq_iff_eq];omega
theorem Qgn{index:Int}{R:Int->Bool->Heap->Prop}(H:At h0 h L)(i:Nat)(hi:L[i]? =some (.blk lg t [.slice sl.a sl.n sl.c]))(j:Nat)(hj:L[j]? =some (.own sl 2 (eRE.fl es)))(hl:es.length<=100000)(hR:R (QaH es index).1 (QaH es index).2 h):Qcm (some ⟨lg,0,none⟩) index h R:=by
 refine Qnr ?_
 unfold Qit
 have hn:=H.n j hj
 unfold QaH at hR
 refine Qg3 (fun h1=>h1=h/\0<index/\index<=es.length) (fun _ h1 hJ=> ?_) ?_
 ·obtain⟨rfl,h1,h2⟩:=hJ
  refine nn (Qac H i hi sl rfl ?_)
  rw[w64 (by omega) (by omega)]
  have hk:index.toNat -1<es.length:=by omega
  rw[if_neg (by omega),if_neg (by omega),List.getElem?_eq_getElem hk] at hR
  refine ixAt H j hj (index.toNat -1) (by omega) hk fun e he=> ?_
  exact ldEl0 (E:=eRE) H j hj he hk _ rfl hR
 ·refine brF (brD (fun h1=> ?_) fun h1=> ?_)
  ·rw[if_pos (.inl h1)] at hR;exact hR
  ·refine nn (Qac H i hi sl rfl (brD (fun h2=> ?_) fun h2=> ?_))
   ·rw[if_pos (.inr (by omega))] at hR;exact hR
   ·refine br beq_iff_eq (fun h3=> ?_) fun h3=>⟨rfl,by omega,by omega⟩
    rw[if_neg (by omega),if_pos h3] at hR;exact hR
theorem Qin{index term:Int}{R:Bool->Heap->Prop}(H:At h0 h L)(i:Nat)(hi:L[i]? =some (.blk lg t [.slice sl.a sl.n sl.c]))(j:Nat)(hj:L[j]? =some (.own sl 2 (eRE.fl es)))(hl:es.length<=100000)(hR:R (decide (Qd4 es index term)) h):QbK (some ⟨lg,0,none⟩) index term h R:=by
 refine QkE ?_
 unfold Qf3
 refine QeS H i hi j hj hl (brT (brD (fun h1=> ?_) fun h1=> ?_))
 ·rw[decide_eq_true (show Qd4 es index term from .inl h1)] at hR;exact hR
 ·refine br beq_iff_eq (fun h2=> ?_) fun h2=> ?_
  ·have e:decide (Qd4 es index term)=decide (index>=es.length):=by
    rw[decide_eq_decide];unfold Qd4
    exact⟨fun x=>by omega,fun x=> .inr ⟨h2,x⟩⟩
   rw[e] at hR;exact hR
  ·rw[decide_eq_false (show ¬Qd4 es index term from fun x=>by unfold Qd4 at x;omega)] at hR;exact hR
theorem At.join{h':Heap}{M:List Res}(H:At h0 h L)(H2:At h h' M):At h0 h' (M++L):=by
 have H':=H.ext' H2.ext
 refine⟨H'.ext,fun r hr=> ?_,fun r hr g hg=> ?_,List.pairwise_append.2 ⟨H2.sep,H.sep,fun a ha b hb g hg x=> ?_⟩⟩
 ·rcases List.mem_append.1 hr with hr|hr
  ·exact H2.ok r hr
  ·exact H'.ok r hr
 ·rcases List.mem_append.1 hr with hr|hr
  ·exact Nat.le_trans H.le (H2.lo r hr g hg)
  ·exact H.lo r hr g hg
 ·have h1:=H2.lo a ha g hg
  have h2:=Res.lt b (H.ok b hb) g x
  omega
theorem QmV{s:Sl}{R:Sl->Heap->Prop}(H:At h0 h L)(A:RdS h 2 s (eRE.fl es))(hl:es.length<=100000)(hR:∀r h',At h0 h' (.own r 2 (eRE.fl es)::L)->R r h'):QaM s h R:=by
 refine Qdm ?_
 unfold QbO
 have H0:=At.start h
 refine brB (fun ha=> ?_) fun ha=> ?_
 ·have hl0:es= []:=by
   apply List.eq_nil_of_length_eq_zero
   apply Nat.eq_zero_of_not_pos
   intro hp
   obtain⟨g,o,hs,_⟩:=A.2 (by rw[eRE.fl_len];omega)
   rw[hs] at ha;cases ha
  subst hl0
  exact hR _ _ (H.nil 2)
 ·refine Qaj (cs:= []) H0 fun h1 b H1=> ?_
  have H2:=H1.as_ 0 rfl (.own ⟨some ⟨b,0,none⟩,0,0⟩ 2 (eRE.fl [])) (Own.full (H1.get 0 rfl:Blk h1 b _ []) (sz:=2) (n:=0) rfl (by decide)) (fun g hg=>by have hg:some b=some g:=hg;injection hg with hg;exact hg.symm)
  refine appAt (ys:=es) TRE H2 0 rfl (H2.arg A) (by simp;omega) (by simp;omega) fun s' h' H3=> ?_
  rw[List.nil_append] at H3
  exact hR s' h' (H.join H3)
theorem log_New_ok{s:Sl}{R:Option Addr->Heap->Prop}(H:At h0 h L)(A:RdS h 2 s (eRE.fl es))(hl:es.length<=100000)(hR:∀lg sl h',At h0 h' (.blk lg 101 [.slice sl.a sl.n sl.c]:: .own sl 2 (eRE.fl es)::L)->R (some ⟨lg,0,none⟩) h'):QmW s h R:=by
 refine A_log_New ?_
 unfold S_log_New
 refine QmV H A hl fun r h1 H=> ?_
 exact Qaj (cs:= [.slice r.a r.n r.c]) H fun h2 b H=>hR b r h2 H
theorem Qml{index most:Int}{R:Sl->Heap->Prop}(H:At h0 h L)(i:Nat)(hi:L[i]? =some (.blk lg t [.slice sl.a sl.n sl.c]))(j:Nat)(hj:L[j]? =some (.own sl 2 (eRE.fl es)))(hl:es.length<=100000)(hi1: -1000000<=index/\index<=1000000)(hm: -1000000<=most/\most<=1000000)
  (hR:∀r h',At h0 h' (.own r 2 (eRE.fl (Qgr es index most))::L)->R r h'):Qd2 (some ⟨lg,0,none⟩) index most h R:=by
 refine Qnt ?_
 unfold Qiv
 have hn:=H.n j hj
 unfold Qgr at hR
 refine QeS H i hi j hj hl (QbF ?_)
 generalize hx:(if 1>index then 1 else index)=x at*
 have hx1:1<=x/\x<=1000000:=by split at hx<;>omega
 refine Qg2 (s1:= .one .bool) (fun(q:Bool) h1=>(q=true↔(x>es.length\/most<1))/\h1=h) (fun _ (q:Bool) h1 hJ=> ?_) ?_
 ·obtain⟨hq,rfl⟩:=hJ
  refine brB (fun hqt=> ?_) fun hqf=> ?_
  ·have e:(es.drop (x.toNat -1)).take most.toNat= []:=by
    rcases hq.1 hqt with h2|h2
    ·rw[List.drop_eq_nil_of_le (by omega),List.take_nil]
    ·rw[show most.toNat=0 by omega,List.take_zero]
   rw[e] at hR
   exact hR _ _ (H.nil 2)
  ·have hno:¬(x>es.length\/most<1):=fun h2=>by rw[hq.2 h2] at hqf;cases hqf
   refine nn (Qac H i hi sl rfl ?_)
   have hc:=(H.own j hj).2.1
   rw[w64 (n:=x -1) (by omega) (by omega),w64 (n:=(es.length:Int) -x) (by omega) (by omega),w64 (n:=(es.length:Int) -x+1) (by omega) (by omega)]
   generalize hy:(if(es.length:Int) -x+1<most then(es.length:Int) -x+1 else most)=y
   have hy1:1<=y/\y<=(es.length:Int) -x+1:=by split at hy<;>omega
   rw[w64 (by omega) (by omega)]
   refine cutR (E:=eRE) TRE (H.rdo j hj) (x.toNat -1) (x.toNat -1+y.toNat) sl.c (loi (by omega)) (hii (by omega)) (.inl ⟨rfl,rfl⟩) (by omega) (by omega) (by omega) (Nat.le_refl _) fun s2 r2 n2 c2 b2=> ?_
   have e:(es.drop (x.toNat -1)).take (x.toNat -1+y.toNat -(x.toNat -1))=(es.drop (x.toNat -1)).take most.toNat:=by
    rw[show x.toNat -1+y.toNat -(x.toNat -1)=y.toNat by omega]
    split at hy
    ·rw[List.take_of_length_le (by rw[List.length_drop];omega),List.take_of_length_le (by rw[List.length_drop];omega)]
    ·rw[hy]
   rw[e] at r2
   exact QmV H r2 (by rw[List.length_take,List.length_drop];omega) hR
 ·refine brD (fun h2=>⟨⟨fun _=> .inl h2,fun _=>rfl⟩,rfl⟩) fun h2=>⟨?_,rfl⟩
  rw[decide_eq_true_iff]
  exact⟨fun h3=> .inr h3,fun h3=>by omega⟩
theorem log_Add_ok{tm:Int}{dt:ByteArray}{R:Int->Heap->Prop}(H:At h0 h (.blk lg t [.slice sl.a sl.n sl.c]:: .own sl 2 (eRE.fl es)::G))(hl:es.length<=100000)
  (h1:tm<Qa9 es->∀h',At h0 h' (.blk lg t [.slice sl.a sl.n sl.c]:: .own sl 2 (eRE.fl es)::G)->R 5 h') (h2:¬tm<Qa9 es->es.length>=1024->∀h',At h0 h' (.blk lg t [.slice sl.a sl.n sl.c]:: .own sl 2 (eRE.fl es)::G)->R 7 h')
  (h3:¬tm<Qa9 es->¬es.length>=1024->∀h' sl',At h0 h' (.blk lg t [.slice sl'.a sl'.n sl'.c]:: .own sl' 2 (eRE.fl (es++ [⟨tm,dt⟩]))::G)->R 0 h'):Qgv (some ⟨lg,0,none⟩) (tm,dt,()) h R:=by
 refine A_log_Log_Add ?_
 unfold QjF
 refine Qaj (cs:= [.int .i64 tm,.string dt]) H fun h b H=> ?_
 refine QeS H 1 rfl 2 rfl hl (brF ?_)
 repeat (first|with_reducible refine nn ?_|with_reducible refine QbF ?_|with_reducible refine QaA ?_|with_reducible refine brF ?_|with_reducible refine brT ?_|((with_reducible apply Qap H 0);exact rfl;exact rfl)|((with_reducible apply Qac H 0);exact rfl;exact rfl)|((with_reducible apply Qa3 H 0);exact rfl;exact rfl;intro h H)|((with_reducible apply Qas H 0);exact rfl;exact rfl;intro h H)|((with_reducible refine⟨?_, ?_⟩);first|((with_reducible apply Qap H 0);exact rfl;exact rfl;exact rfl)|((with_reducible apply Qac H 0);exact rfl;exact rfl;exact rfl)))
 refine brD (fun h4=>h1 h4 _ H.tail) fun h4=> ?_
 refine brD (fun h5=>h2 h4 (by omega) _ H.tail) fun h5=> ?_
 repeat (first|with_reducible refine nn ?_|with_reducible refine QbF ?_|with_reducible refine QaA ?_|with_reducible refine brF ?_|with_reducible refine brT ?_|((with_reducible apply Qap H 0);exact rfl;exact rfl)|((with_reducible apply Qac H 0);exact rfl;exact rfl)|((with_reducible apply Qap H 1);exact rfl;exact rfl)|((with_reducible apply Qac H 1);exact rfl;exact rfl)|((with_reducible apply Qap H 2);exact rfl;exact rfl)|((with_reducible apply Qac H 2);exact rfl;exact rfl)|((with_reducible apply Qa3 H 0);exact rfl;exact rfl;intro h H)|((with_reducible apply Qas H 0);exact rfl;exact rfl;intro h H)|((with_reducible apply Qa3 H 1);exact rfl;exact rfl;intro h H)|((with_reducible apply Qas H 1);exact rfl;exact rfl;intro h H)|((with_reducible apply Qa3 H 2);exact rfl;exact rfl;intro h H)|((with_reducible apply Qas H 2);exact rfl;exact rfl;intro h H)|((with_reducible apply Qaj H);intro h b H)|((with_reducible refine⟨?_, ?_⟩);first|((with_reducible apply Qap H 0);exact rfl;exact rfl;exact rfl)|((with_reducible apply Qac H 0);exact rfl;exact rfl;exact rfl)|((with_reducible apply Qap H 1);exact rfl;exact rfl;exact rfl)|((with_reducible apply Qac H 1);exact rfl;exact rfl;exact rfl)|((with_reducible apply Qap H 2);exact rfl;exact rfl;exact rfl)|((with_reducible apply Qac H 2);exact rfl;exact rfl;exact rfl)))
 refine app1B (E:=eRE) TRE H 3 rfl 0 rfl ⟨tm,dt⟩ rfl (by omega) (by omega) fun s3 h H=> ?_
 repeat (first|with_reducible refine nn ?_|with_reducible refine QbF ?_|with_reducible refine QaA ?_|with_reducible refine brF ?_|with_reducible refine brT ?_|((with_reducible apply Qap H 0);exact rfl;exact rfl)|((with_reducible apply Qac H 0);exact rfl;exact rfl)|((with_reducible apply Qap H 1);exact rfl;exact rfl)|((with_reducible apply Qac H 1);exact rfl;exact rfl)|((with_reducible apply Qap H 2);exact rfl;exact rfl)|((with_reducible apply Qac H 2);exact rfl;exact rfl)|((with_reducible apply Qa3 H 0);exact rfl;exact rfl;intro h H)|((with_reducible apply Qas H 0);exact rfl;exact rfl;intro h H)|((with_reducible apply Qa3 H 1);exact rfl;exact rfl;intro h H)|((with_reducible apply Qas H 1);exact rfl;exact rfl;intro h H)|((with_reducible apply Qa3 H 2);exact rfl;exact rfl;intro h H)|((with_reducible apply Qas H 2);exact rfl;exact rfl;intro h H)|((with_reducible apply Qaj H);intro h b H)|((with_reducible refine⟨?_, ?_⟩);first|((with_reducible apply Qap H 0);exact rfl;exact rfl;exact rfl)|((with_reducible apply Qac H 0);exact rfl;exact rfl;exact rfl)|((with_reducible apply Qap H 1);exact rfl;exact rfl;exact rfl)|((with_reducible apply Qac H 1);exact rfl;exact rfl;exact rfl)|((with_reducible apply Qap H 2);exact rfl;exact rfl;exact rfl)|((with_reducible apply Qac H 2);exact rfl;exact rfl;exact rfl)))
 exact h3 h4 (by omega) _ s3 H.tail.tail
end
end
section
open Go
def RN.cells(X:RN)(lg:Nat)(so:Sl):List Value:=
  [.int .i64 X.id,.int .i64 X.n,.int .i64 X.elect,.int .i64 X.beat,.int .i64 X.term,.int .i64 X.vote,.int .i64 X.role,.int .i64 X.leader,.int .i64 X.since,.int .i64 X.quiet,.int .i64 X.commit,
   .pointer (some ⟨lg,0,none⟩),.int .u64 (X.votes:Int),.int .u64 (X.heard:Int),
   .int .i64 (X.next 0),.int .i64 (X.next 1),.int .i64 (X.next 2),.int .i64 (X.next 3),.int .i64 (X.next 4),.int .i64 (X.next 5),.int .i64 (X.next 6),
   .int .i64 (X.matc 0),.int .i64 (X.matc 1),.int .i64 (X.matc 2),.int .i64 (X.matc 3),.int .i64 (X.matc 4),.int .i64 (X.matc 5),.int .i64 (X.matc 6),
   .slice so.a so.n so.c,.bool X.hard,.int .i64 X.from_]
def eMS:Enc (RM×Sl) 9:=⟨fun a=> [.int .i64 a.1.kind,.int .i64 a.1.from_,.int .i64 a.1.to,.int .i64 a.1.term,.int .i64 a.1.index,.int .i64 a.1.logTerm,.int .i64 a.1.commit,.bool a.1.yes,.slice a.2.a a.2.n a.2.c],fun _=>rfl,by decide,fun x u hu=>by
 simp only[List.mem_cons,List.not_mem_nil,or_false] at hu
 rcases hu with rfl|rfl|rfl|rfl|rfl|rfl|rfl|rfl|rfl<;>rfl⟩
theorem TMS:ElemT Tryz.prog 54 59 9 88:= .of (by kernel_rfl)
def Qhw(d:Nat)(ty:TypeId)(lg:Nat)(tl:TypeId)(sl so:Sl)(X:RN)(z:List (RM×Sl)):List Res:=
 [.blk d ty (X.cells lg so),.blk lg tl [.slice sl.a sl.n sl.c],.own sl 2 (eRE.fl X.log),.own so 9 (eMS.fl z)]
def Qfb(z:List (RM×Sl)):List Res:=z.map fun q=> .own q.2 2 (eRE.fl q.1.ents)
def RaftAt(h0 h:Heap)(d:Nat)(X:RN)(F:List Res):Prop:=
 ∃ty lg tl sl so z,z.map Prod.fst=X.out/\At h0 h (Qhw d ty lg tl sl so X z++(F++Qfb z))
section
variable {h0 h:Heap}{F:List Res}{d:Nat}{X:RN}
theorem At.sub{L L':List Res}(H:At h0 h L)(p:L'.Sublist L):At h0 h L':=⟨H.ext,fun r hr=>H.ok r (p.subset hr),fun r hr=>H.lo r (p.subset hr),H.sep.sublist p⟩
theorem RaftAt.sub{F':List Res}(H:RaftAt h0 h d X F)(p:F'.Sublist F):RaftAt h0 h d X F':=by
 obtain⟨ty,lg,tl,sl,so,z,hz,H⟩:=H
 exact⟨ty,lg,tl,sl,so,z,hz,H.sub (List.Sublist.append_left (List.Sublist.append_right p _) _)⟩
theorem RaftAt.tail{r:Res}(H:RaftAt h0 h d X (r::F)):RaftAt h0 h d X F:=H.sub (List.sublist_cons_self ..)
theorem RaftAt.ats(H:RaftAt h0 h d X F):At h0 h F:=by
 obtain⟨ty,lg,tl,sl,so,z,hz,H⟩:=H
 exact H.sub ((List.sublist_append_left ..).trans (List.sublist_append_right ..))
theorem RaftAt.alloc{t:TypeId}{cs:List Value}{K:Addr->Heap->Prop}(H:RaftAt h0 h d X F)(hk:∀h' b,RaftAt h0 h' d X (.blk b t cs::F)->K ⟨b,0,none⟩ h'):QaG h (.cells cs.toArray t) K:=by
 obtain⟨ty,lg,tl,sl,so,z,hz,H⟩:=H
 exact Qaj H fun h' b H=>hk h' b ⟨ty,lg,tl,sl,so,z,hz,H.mv 1 4⟩
theorem RaftAt.nil(H:RaftAt h0 h d X F)(sz:Nat):RaftAt h0 h d X (.own ⟨none,0,0⟩ sz []::F):=by
 obtain⟨ty,lg,tl,sl,so,z,hz,H⟩:=H
 exact⟨ty,lg,tl,sl,so,z,hz,(H.nil sz).mv 1 4⟩
theorem RaftAt.nilE{xs:List RE}(H:RaftAt h0 h d X F)(he:xs= []):RaftAt h0 h d X (.own ⟨none,0,0⟩ 2 (eRE.fl xs)::F):=by
 subst he
 exact H.nil 2
theorem Qat{kd:Kd}{j:Nat}{K:kd.T->Prop}(H:RaftAt h0 h d X F)(x:kd.T)(hx:∀lg so,(X.cells lg so)[j]? =some (kd.mk x))(hK:K x):Ld kd h ((⟨d,0,none⟩:Addr).add j) K:=by
 obtain⟨ty,lg,tl,sl,so,z,hz,H⟩:=H
 exact Qap H 0 rfl x (hx lg so) hK
theorem Qek{kd:Kd}{K:kd.T->Prop}(H:RaftAt h0 h d X F)(x:kd.T)(hx:∀lg so,(X.cells lg so)[0]? =some (kd.mk x))(hK:K x):Ld kd h (⟨d,0,none⟩:Addr) K:=by
 obtain⟨ty,lg,tl,sl,so,z,hz,H⟩:=H
 exact Qac H 0 rfl x (hx lg so) hK
theorem QaT{j:Nat}{v:Value}{K:Heap->Prop}(Y:RN)(H:RaftAt h0 h d X F)(hj:Nat.ble (j+1) 31=true)(hl:Y.log=X.log)(ho:Y.out=X.out)(hy:∀lg so,Y.cells lg so=(X.cells lg so).set j v)(hK:∀h',RaftAt h0 h' d Y F->K h'):St h ((⟨d,0,none⟩:Addr).add j) v K:=by
 obtain⟨ty,lg,tl,sl,so,z,hz,H⟩:=H
 refine Qa3 H 0 rfl hj fun h' H=>hK h' ⟨ty,lg,tl,sl,so,z,hz.trans ho.symm, ?_⟩
 unfold Qhw
 rw[hy,hl]
 exact H
theorem Qn1(X:RN)(lg:Nat)(so:Sl):∀k,k<7->(X.cells lg so)[14+k]? =some (.int .i64 (X.next k))
 |0,_=>rfl|1,_=>rfl|2,_=>rfl|3,_=>rfl|4,_=>rfl|5,_=>rfl|6,_=>rfl
theorem QeL(X:RN)(lg:Nat)(so:Sl):∀k,k<7->(X.cells lg so)[21+k]? =some (.int .i64 (X.matc k))
 |0,_=>rfl|1,_=>rfl|2,_=>rfl|3,_=>rfl|4,_=>rfl|5,_=>rfl|6,_=>rfl
theorem QiJ(X:RN)(lg:Nat)(so:Sl)(v:Int):∀k,k<7->({X with next:=upd X.next k v}:RN).cells lg so=(X.cells lg so).set (14+k) (.int .i64 v)
 |0,_=>rfl|1,_=>rfl|2,_=>rfl|3,_=>rfl|4,_=>rfl|5,_=>rfl|6,_=>rfl
theorem QmA(X:RN)(lg:Nat)(so:Sl)(v:Int):∀k,k<7->({X with matc:=upd X.matc k v}:RN).cells lg so=(X.cells lg so).set (21+k) (.int .i64 v)
 |0,_=>rfl|1,_=>rfl|2,_=>rfl|3,_=>rfl|4,_=>rfl|5,_=>rfl|6,_=>rfl
theorem add_add(a:Addr)(m k:Nat):(a.add m).add k=a.add (m+k):=by
 unfold Addr.add
 by_cases hm:m=0<;>by_cases hk:k=0<;>simp[hm,hk,Nat.add_assoc]
theorem ixArr{j:Nat}{i:Int}{K:Addr->Prop}(k:Nat)(hi:i=(k:Int))(hk:k<7)(hK:K ((⟨d,0,none⟩:Addr).add (j+k))):IxA ((⟨d,0,none⟩:Addr).add j) 7 i 1 K:=by
 subst hi
 refine⟨by omega,by omega, ?_⟩
 rw[Int.toNat_natCast,Nat.mul_one,add_add]
 exact hK
structure RB(X:RN):Prop where
 n1:1<=X.n
 n7:X.n<=7
 id0:0<=X.id
 idn:X.id<X.n
 nx:∀t,0<=X.next t/\X.next t<=1025
 l:X.log.length<=1024
theorem RB.of{Y:RN}(h:RB X)(h1:Y.n=X.n)(h2:Y.id=X.id)(h3:Y.next=X.next)(h4:Y.log=X.log):RB Y:=⟨h1▸h.n1,h1▸h.n7,h2▸h.id0,by rw[h1,h2];exact h.idn,h3▸h.nx,h4▸h.l⟩
theorem Qh0(X:RN)(k:Nat):(Qax X k).length<=k:=by
 unfold Qax
 exact Nat.le_trans (List.length_filter_le ..) (by rw[List.length_range];exact Nat.le_refl _)
theorem Qmc(X:RN)(k:Nat):Qax X (k+1)=Qax X k++if(k:Int)≠X.id then [k] else []:=by
 unfold Qax
 rw[List.range_succ,List.filter_append]
 congr 1
 by_cases h:(k:Int)≠X.id
 ·rw[if_pos h,List.filter_cons_of_pos (by simpa using h)];rfl
 ·rw[if_neg h,List.filter_cons_of_neg (by simpa using h)];rfl
theorem Qcv{v:Nat}{R:Bool->Heap->Prop}(H:RaftAt h0 h d X F)(hv:v<128)(hR:R (decide (QaF X v)) h):Qbe (some ⟨d,0,none⟩) (v:Int) h R:=by
 refine Qli ?_
 unfold QgI
 refine nn (Qat (j:=1) H X.n (fun _ _=>rfl) ?_)
 refine popT_ok hv ⟨Qat (j:=1) H X.n (fun _ _=>rfl) rfl, ?_⟩
 have:=popT_le ⟨v,hv⟩
 simp only at this
 rw[w64 (by omega) (by omega)]
 exact hR
theorem QcZ{t l:Int}{R:Heap->Prop}(H:RaftAt h0 h d X F)(hR:∀h',RaftAt h0 h' d (Qai X t l) F->R h'):Qbc (some ⟨d,0,none⟩) t l h R:=by
 refine QjQ ?_
 unfold Qfq
 refine nn (Qat (j:=4) H X.term (fun _ _=>rfl) ?_)
 unfold Qai at hR
 refine Qg3 (fun h1=>RaftAt h0 h1 d (if t>X.term then{X with term:=t,vote:= -1,hard:=true} else X) F) (fun _ h1 H=> ?_) ?_
 ·by_cases ht:t>X.term
  ·rw[if_pos ht] at H hR
   exact nn (QaT (j:=6) {X with term:=t,vote:= -1,hard:=true,role:=0} H rfl rfl rfl (fun _ _=>rfl) fun h2 H=>nn (QaT (j:=7) {X with term:=t,vote:= -1,hard:=true,role:=0,leader:=l} H rfl rfl rfl (fun _ _=>rfl) fun h3 H=>hR _ H))
  ·rw[if_neg ht] at H hR
   refine nn (QaT (j:=6) {X with role:=0} H rfl rfl rfl (fun _ _=>rfl) fun h2 H=>nn (QaT (j:=7) {X with role:=0,leader:=l} H rfl rfl rfl (fun _ _=>rfl) fun h3 H=>hR _ H))
 ·refine brD (fun ht=> ?_) fun ht=> ?_
  ·rw[if_pos ht]
   exact nn (QaT (j:=4) {X with term:=t} H rfl rfl rfl (fun _ _=>rfl) fun h2 H=>nn (QaT (j:=5) {X with term:=t,vote:= -1} H rfl rfl rfl (fun _ _=>rfl) fun h3 H=>nn (QaT (j:=29) {X with term:=t,vote:= -1,hard:=true} H rfl rfl rfl (fun _ _=>rfl) fun h4 H=>H)))
  ·rw[if_neg ht];exact H
theorem Qjd{i:Int}{R:Heap->Prop}(H:RaftAt h0 h d X F)(hR:∀h',RaftAt h0 h' d (QaN X i) F->R h'):Qb6 (some ⟨d,0,none⟩) i h R:=by
 refine QkC ?_
 unfold Qf1
 unfold QaN at hR
 refine nn (Qat (j:=30) H X.from_ (fun _ _=>rfl) ?_)
 refine br beq_iff_eq (fun h1=> ?_) fun h1=>nn (Qat (j:=30) H X.from_ (fun _ _=>rfl) (brD (fun h2=> ?_) fun h2=> ?_))
 ·rw[if_pos (.inl h1)] at hR
  exact nn (QaT (j:=30) {X with from_:=i} H rfl rfl rfl (fun _ _=>rfl) fun h2 H=>hR _ H)
 ·rw[if_pos (.inr h2)] at hR
  exact nn (QaT (j:=30) {X with from_:=i} H rfl rfl rfl (fun _ _=>rfl) fun h2 H=>hR _ H)
 ·rw[if_neg (by omega)] at hR
  exact hR _ H
theorem permLast2{α:Type}(r:α)(F B:List α):((r::F)++B).Perm (F++(B++ [r])):=by
 have h1:((r::F)++B).Perm ((F++B)++ [r]):=(List.perm_append_singleton r (F++B)).symm
 rw[List.append_assoc] at h1
 exact h1
theorem Qhf{to:Int}{m:RM}{s2:Sl}{R:Heap->Prop}(H:RaftAt h0 h d X (.own s2 2 (eRE.fl m.ents)::F))(ho:X.out.length<=999999)(hR:∀h',RaftAt h0 h' d (Ql8 X to m) F->R h'):
  Qa5 (some ⟨d,0,none⟩) to (m.kind,m.from_,m.to,m.term,m.index,m.logTerm,m.commit,m.yes,s2,()) h R:=by
 refine Qlh ?_
 unfold QgH
 obtain⟨ty,lg,tl,sl,so,z,hz,H⟩:=H
 have hzl:z.length=X.out.length:=by rw[<-hz,List.length_map]
 refine Qaj (cs:= [.int .i64 m.kind,.int .i64 m.from_,.int .i64 m.to,.int .i64 m.term,.int .i64 m.index,.int .i64 m.logTerm,.int .i64 m.commit,.bool m.yes,.slice s2.a s2.n s2.c]) H fun h b1 H=> ?_
 repeat (first|with_reducible refine nn ?_|with_reducible refine QbF ?_|with_reducible refine QaA ?_|with_reducible refine brF ?_|with_reducible refine brT ?_|((with_reducible apply Qap H 0);exact rfl;exact rfl)|((with_reducible apply Qac H 0);exact rfl;exact rfl)|((with_reducible apply Qap H 1);exact rfl;exact rfl)|((with_reducible apply Qac H 1);exact rfl;exact rfl)|((with_reducible apply Qa3 H 0);exact rfl;exact rfl;intro h H)|((with_reducible apply Qas H 0);exact rfl;exact rfl;intro h H)|((with_reducible apply Qa3 H 1);exact rfl;exact rfl;intro h H)|((with_reducible apply Qas H 1);exact rfl;exact rfl;intro h H)|((with_reducible refine⟨?_, ?_⟩);first|((with_reducible apply Qap H 0);exact rfl;exact rfl;exact rfl)|((with_reducible apply Qac H 0);exact rfl;exact rfl;exact rfl)|((with_reducible apply Qap H 1);exact rfl;exact rfl;exact rfl)|((with_reducible apply Qac H 1);exact rfl;exact rfl;exact rfl)))
 refine Qaj (cs:= [.int .i64 m.kind,.int .i64 X.id,.int .i64 to,.int .i64 m.term,.int .i64 m.index,.int .i64 m.logTerm,.int .i64 m.commit,.bool m.yes,.slice s2.a s2.n s2.c]) H fun h b2 H=> ?_
 repeat (first|with_reducible refine nn ?_|with_reducible refine QbF ?_|with_reducible refine QaA ?_|with_reducible refine brF ?_|with_reducible refine brT ?_|((with_reducible apply Qap H 2);exact rfl;exact rfl)|((with_reducible apply Qac H 2);exact rfl;exact rfl)|((with_reducible apply Qa3 H 2);exact rfl;exact rfl;intro h H)|((with_reducible apply Qas H 2);exact rfl;exact rfl;intro h H)|((with_reducible refine⟨?_, ?_⟩);first|((with_reducible apply Qap H 2);exact rfl;exact rfl;exact rfl)|((with_reducible apply Qac H 2);exact rfl;exact rfl;exact rfl)))
 refine app1B (E:=eMS) TMS H 5 rfl 0 rfl ({m with from_:=X.id,to:=to},s2) rfl (by omega) (by omega) fun s3 h H=> ?_
 repeat (first|with_reducible refine nn ?_|with_reducible refine QbF ?_|with_reducible refine QaA ?_|with_reducible refine brF ?_|with_reducible refine brT ?_|((with_reducible apply Qap H 2);exact rfl;exact rfl)|((with_reducible apply Qac H 2);exact rfl;exact rfl)|((with_reducible apply Qa3 H 2);exact rfl;exact rfl;intro h H)|((with_reducible apply Qas H 2);exact rfl;exact rfl;intro h H)|((with_reducible refine⟨?_, ?_⟩);first|((with_reducible apply Qap H 2);exact rfl;exact rfl;exact rfl)|((with_reducible apply Qac H 2);exact rfl;exact rfl;exact rfl)))
 have H:At h0 h (Qhw d ty lg tl sl s3 (Ql8 X to m) (z++ [({m with from_:=X.id,to:=to},s2)])++((.own s2 2 (eRE.fl m.ents)::F)++Qfb z)):=H.tail.tail
 refine hR h ⟨ty,lg,tl,sl,s3,z++ [({m with from_:=X.id,to:=to},s2)],by rw[List.map_append,hz];rfl, ?_⟩
 have e:Qfb (z++ [({m with from_:=X.id,to:=to},s2)])=Qfb z++ [.own s2 2 (eRE.fl m.ents)]:=by unfold Qfb;rw[List.map_append];rfl
 rw[e]
 exact H.perm (List.Perm.append_left _ (permLast2 ..))
theorem Ql4{m:RM}{R:Heap->Prop}(H:RaftAt h0 h d X F)(hb:RB X)(he:m.ents= [])(ho:X.out.length<=900000)(hR:∀h',RaftAt h0 h' d (rAll X m) F->R h'):
  Qdy (some ⟨d,0,none⟩) (m.kind,m.from_,m.to,m.term,m.index,m.logTerm,m.commit,m.yes,⟨none,0,0⟩,()) h R:=by
 refine QmY ?_
 unfold QhB
 have hn:=hb.n7
 have hn1:=hb.n1
 refine RaftAt.alloc (cs:= [.int .i64 m.kind,.int .i64 m.from_,.int .i64 m.to,.int .i64 m.term,.int .i64 m.index,.int .i64 m.logTerm,.int .i64 m.commit,.bool m.yes,.slice none 0 0]) H fun h b1 H=> ?_
 refine nn (Qat (j:=1) H X.n (fun _ _=>rfl) ?_)
 refine Qhl (s1:= .one (.int .i64)) (fun(y:Int) h1=>∃j:Nat,y=j/\(j:Int)<=X.n/\RaftAt h0 h1 d {X with out:=X.out++(Qax X j).map fun t=>{m with from_:=X.id,to:=(t:Int)}} (.blk b1 59 [.int .i64 m.kind,.int .i64 m.from_,.int .i64 m.to,.int .i64 m.term,.int .i64 m.index,.int .i64 m.logTerm,.int .i64 m.commit,.bool m.yes,.slice none 0 0]::F)) (fun(y:Int) _=>(X.n -y).toNat)
  ⟨0,rfl,by show(0:Int)<=_;omega,by rw[show Qax X 0= [] from rfl,List.map_nil,List.append_nil];exact H⟩ fun _ (y:Int) h1 hI=> ?_
 obtain⟨j,rfl,hj,H⟩:=hI
 refine brD (fun hc=> ?_) fun hc=> ?_
 ·refine nn (Qek H X.id (fun _ _=>rfl) ?_)
  rw[w64 (by omega) (by omega)]
  have hol:=Qh0 X j
  have hs:=Qmc X j
  refine br bne_iff_ne (fun hne=> ?_) fun heq=> ?_
  ·rw[if_pos hne] at hs
   have A:=H.ats
   refine Qac A 0 rfl m.kind rfl (Qap (j:=1) A 0 rfl m.from_ rfl (Qap (j:=2) A 0 rfl m.to rfl (Qap (j:=3) A 0 rfl m.term rfl (Qap (j:=4) A 0 rfl m.index rfl (Qap (j:=5) A 0 rfl m.logTerm rfl (Qap (j:=6) A 0 rfl m.commit rfl (Qap (j:=7) A 0 rfl m.yes rfl (Qap (j:=8) A 0 rfl (⟨none,0,0⟩:Sl) rfl ?_))))))))
   have H2:=H.nilE he
   refine Qhf (m:=m) (s2:=⟨none,0,0⟩) H2 (by rw[List.length_append,List.length_map];omega) fun h2 H=> ?_
   refine⟨⟨j+1,by omega,by omega, ?_⟩,by omega⟩
   rw[hs,List.map_append,<-List.append_assoc]
   exact H
  ·rw[if_neg heq,List.append_nil] at hs
   exact⟨⟨j+1,by omega,by omega,by rw[hs];exact H⟩,by omega⟩
 ·have hjn:X.n.toNat=j:=by omega
  unfold rAll at hR
  rw[hjn] at hR
  exact hR _ H.tail
theorem Qkb{k:Nat}{R:Heap->Prop}(H:RaftAt h0 h d X F)(hb:RB X)(hk:k<7)(ho:X.out.length<=999999)(hR:∀h',RaftAt h0 h' d (rTo X k) F->R h'):Qc6 (some ⟨d,0,none⟩) (k:Int) h R:=by
 refine Qnq ?_
 unfold Qis
 have hnx:=hb.nx k
 have hl:=hb.l
 refine nn (ixArr k rfl hk ?_)
 refine Qat (j:=14+k) H (X.next k) (fun lg so=>Qn1 X lg so k hk) ?_
 rw[w64 (n:=X.next k -1) (by omega) (by omega)]
 refine QbF (nn ?_)
 obtain⟨ty,lg,tl,sl,so,z,hz,H⟩:=H
 refine Qap (j:=11) H 0 rfl (some ⟨lg,0,none⟩) rfl ?_
 refine Qgn H 1 rfl 2 rfl (by omega) ?_
 repeat (first|with_reducible refine nn ?_|with_reducible refine QbF ?_|with_reducible refine QaA ?_|with_reducible refine brF ?_|with_reducible refine brT ?_|((with_reducible apply Qap H 0);exact rfl;exact rfl)|((with_reducible apply Qac H 0);exact rfl;exact rfl)|((with_reducible apply Qa3 H 0);exact rfl;exact rfl;intro h H)|((with_reducible apply Qas H 0);exact rfl;exact rfl;intro h H)|((with_reducible refine⟨?_, ?_⟩);first|((with_reducible apply Qap H 0);exact rfl;exact rfl;exact rfl)|((with_reducible apply Qac H 0);exact rfl;exact rfl;exact rfl)))
 rw[w64 (by omega) (by omega)]
 refine Qml H 1 rfl 2 rfl (by omega) (by omega) (by omega) fun r h H=> ?_
 repeat (first|with_reducible refine nn ?_|with_reducible refine QbF ?_|with_reducible refine QaA ?_|with_reducible refine brF ?_|with_reducible refine brT ?_|((with_reducible apply Qap H 1);exact rfl;exact rfl)|((with_reducible apply Qac H 1);exact rfl;exact rfl)|((with_reducible apply Qa3 H 1);exact rfl;exact rfl;intro h H)|((with_reducible apply Qas H 1);exact rfl;exact rfl;intro h H)|((with_reducible refine⟨?_, ?_⟩);first|((with_reducible apply Qap H 1);exact rfl;exact rfl;exact rfl)|((with_reducible apply Qac H 1);exact rfl;exact rfl;exact rfl)))
 have H:RaftAt h0 h d X (.own r 2 (eRE.fl (Qgr X.log (X.next k -1+1) 8))::F):=⟨ty,lg,tl,sl,so,z,hz,H.mv 1 4⟩
 exact Qhf (m:=⟨5,0,0,X.term,X.next k -1,(QaH X.log (X.next k -1)).1,X.commit,false,Qgr X.log (X.next k -1+1) 8⟩) H ho hR
theorem Qgk{R:Heap->Prop}(H:RaftAt h0 h d X F)(hb:RB X)(ho:X.out.length<=900000)(hR:∀h',RaftAt h0 h' d (Qa4 X) F->R h'):QbJ (some ⟨d,0,none⟩) h R:=by
 refine Qkz ?_
 unfold QfY
 have hn:=hb.n7
 have hn1:=hb.n1
 refine nn (QaT (j:=8) {X with since:=0} H rfl rfl rfl (fun _ _=>rfl) fun h1 H=>nn (Qat (j:=1) H X.n (fun _ _=>rfl) ?_))
 refine Qhl (s1:= .one (.int .i64)) (fun(y:Int) h1=>∃j:Nat,y=j/\(j:Int)<=X.n/\RaftAt h0 h1 d {X with since:=0,out:=X.out++(Qax X j).map (Qbk X)} F) (fun(y:Int) _=>(X.n -y).toNat)
  ⟨0,rfl,by show(0:Int)<=_;omega,by rw[show Qax X 0= [] from rfl,List.map_nil,List.append_nil];exact H⟩ fun _ (y:Int) h1 hI=> ?_
 obtain⟨j,rfl,hj,H⟩:=hI
 refine brD (fun hc=> ?_) fun hc=> ?_
 ·refine nn (Qek H X.id (fun _ _=>rfl) ?_)
  rw[w64 (by omega) (by omega)]
  have hol:=Qh0 X j
  have hs:=Qmc X j
  refine br bne_iff_ne (fun hne=> ?_) fun heq=> ?_
  ·rw[if_pos hne] at hs
   refine Qkb (k:=j) H (hb.of rfl rfl rfl rfl) (by omega) (by rw[List.length_append,List.length_map];omega) fun h2 H=> ?_
   refine⟨⟨j+1,by omega,by omega, ?_⟩,by omega⟩
   rw[hs,List.map_append,<-List.append_assoc]
   exact H
  ·rw[if_neg heq,List.append_nil] at hs
   exact⟨⟨j+1,by omega,by omega,by rw[hs];exact H⟩,by omega⟩
 ·have hjn:X.n.toNat=j:=by omega
  unfold Qa4 at hR
  rw[hjn] at hR
  exact hR _ H
theorem QkO{q:Nat->Bool}{n:Nat}:∀m,n<=m->((List.range m).filter fun(t:Nat)=>decide (t<n)&&q t)=(List.range n).filter q
 |0,h=>by
  have:n=0:=by omega
  subst this;rfl
 |m+1,h=>by
  by_cases e:n=m+1
  ·subst e
   refine List.filter_congr fun t ht=> ?_
   rw[decide_eq_true (List.mem_range.1 ht),Bool.true_and]
  ·rw[List.range_succ,List.filter_append,QkO m (by omega)]
   rw[List.filter_cons_of_neg (by simp;omega)]
   simp
theorem cnt_bits{v:Nat}{i:Int}(hb:RB X)(hv:v<128)(ht:∀t:Nat,t<7->(v.testBit t=true↔((t:Int)<X.n/\((t:Int)=X.id\/X.matc t>=i)))):QoF 7 v=Qj1 X i:=by
 have:=popT_bits ⟨v,hv⟩
 simp only at this
 rw[this]
 unfold bitsN Qj1
 have hn:=hb.n7
 rw[<-QkO (n:=X.n.toNat) 7 (by omega)]
 congr 1
 refine List.filter_congr fun t h7=> ?_
 have h7:=List.mem_range.1 h7
 rw[Bool.eq_iff_iff,ht t h7,Bool.and_eq_true,decide_eq_true_iff,decide_eq_true_iff]
 constructor
 ·rintro ⟨h1,h2⟩;exact⟨by omega,h2⟩
 ·rintro ⟨h1,h2⟩;exact⟨by omega,h2⟩
theorem Qna(g k t:Nat):(g|||2^k).testBit t=true↔g.testBit t=true\/t=k:=by
 rw[Nat.testBit_or,Nat.testBit_two_pow]
 simp only[Bool.or_eq_true,decide_eq_true_eq]
 constructor
 ·rintro (h|h);exact .inl h;exact .inr h.symm
 ·rintro (h|h);exact .inl h;exact .inr h.symm
theorem Qn7(X:RN)(i:Nat):Qba X (i+1)=if((i+1:Nat):Int)<=X.commit then none else if(QaH X.log ((i+1:Nat):Int)).1≠X.term then none else if 2*(Qj1 X ((i+1:Nat):Int):Int)>X.n then some (i+1) else Qba X i:=rfl
theorem Qje{R:Heap->Prop}(H:RaftAt h0 h d X F)(hb:RB X)(hc0:0<=X.commit)(ho:X.out.length<=900000)(hR:∀h',RaftAt h0 h' d (Qaf X) F->R h'):QcN (some ⟨d,0,none⟩) h R:=by
 refine QkD ?_
 unfold Qf2
 have hn:=hb.n7
 have hn1:=hb.n1
 have hi0:=hb.id0
 have hin:=hb.idn
 have hl:=hb.l
 have H0:=H
 obtain⟨ty,lg,tl,sl,so,z,hz,H⟩:=H
 refine nn (Qap (j:=11) H 0 rfl (some ⟨lg,0,none⟩) rfl ?_)
 refine QeS H 1 rfl 2 rfl (by omega) ?_
 unfold Qaf at hR
 refine Qhl (s1:= .one (.int .i64)) (fun(y:Int) h1=>∃j:Nat,y=j/\j<=X.log.length/\h1=h/\Qba X X.log.length=Qba X j) (fun(y:Int) _=>y.toNat)
  ⟨X.log.length,rfl,Nat.le_refl _,rfl,rfl⟩ fun _ (y:Int) h1 hI=> ?_
 obtain⟨j,rfl,hj,rfl,hag⟩:=hI
 rw[hag] at hR
 refine nn (Qat (j:=10) H0 X.commit (fun _ _=>rfl) (brD (fun hc=> ?_) fun hc=> ?_))
 ·obtain⟨i,rfl⟩:∃i,j=i+1:=⟨j -1,by omega⟩
  rw[Qn7,if_neg (by omega)] at hR hag
  refine nn (Qap (j:=11) H 0 rfl (some ⟨lg,0,none⟩) rfl ?_)
  refine Qgn H 1 rfl 2 rfl (by omega) ?_
  refine nn (Qat (j:=4) H0 X.term (fun _ _=>rfl) ?_)
  refine br bne_iff_ne (fun hne=> ?_) fun heq=> ?_
  ·rw[if_pos hne] at hR
   exact hR _ H0
  ·rw[if_neg heq] at hR hag
   refine nn (Qek H0 X.id (fun _ _=>rfl) (QlB ?_ ?_))
   ·rw[wu64 (by omega) (by omega)];omega
   rw[bit_one hi0 (by omega)]
   refine QbF (nn (Qat (j:=1) H0 X.n (fun _ _=>rfl) ?_))
   refine QiH (s1:= .one (.int .u64)) (s2:= .one (.int .i64)) (fun(v y:Int) h2=>∃(w t:Nat),v=w/\y=t/\(t:Int)<=X.n/\w<128/\h2=h1/\∀u:Nat,u<7->(w.testBit u=true↔((u:Int)=X.id\/(u<t/\X.matc u>=((i+1:Nat):Int))))) (fun _ (y:Int) _=>(X.n -y).toNat)
    ⟨2^X.id.toNat,0,rfl,rfl,by show(0:Int)<=_;omega,pow7 hi0 (by omega),rfl,fun u hu=> ?_⟩ fun _ (v y:Int) h2 hI=> ?_
   ·rw[Nat.testBit_two_pow,decide_eq_true_iff]
    omega
   obtain⟨w,t,rfl,rfl,htn,hw,rfl,hbit⟩:=hI
   refine brD (fun hc2=> ?_) fun hc2=> ?_
   ·refine nn (Qek H0 X.id (fun _ _=>rfl) ?_)
    rw[w64 (n:=(t:Int)+1) (by omega) (by omega)]
    refine br bne_iff_ne (fun hne=> ?_) fun heq2=> ?_
    ·refine nn (ixArr t rfl (by omega) ?_)
     refine Qat (j:=21+t) H0 (X.matc t) (fun lg so=>QeL X lg so t (by omega)) ?_
     refine brD (fun hge=> ?_) fun hlt=> ?_
     ·refine QlB (by rw[wu64 (by omega) (by omega)];omega) ?_
      rw[Qks hw (by omega) (by omega)]
      refine QbF ⟨⟨w|||2^((t:Int)).toNat,t+1,rfl,by omega,by omega,or7 hw (by omega) (by omega),rfl,fun u hu=> ?_⟩,by omega⟩
      rw[Qna,hbit u hu,Int.toNat_natCast]
      constructor
      ·rintro ((h|h)|h)
       ·exact .inl h
       ·exact .inr ⟨by omega,h.2⟩
       ·exact .inr ⟨by omega,by rw[h];exact hge⟩
      ·rintro (h|h)
       ·exact .inl (.inl h)
       ·by_cases e:u=t
        ·exact .inr e
        ·exact .inl (.inr ⟨by omega,h.2⟩)
     ·refine⟨⟨w,t+1,rfl,by omega,by omega,hw,rfl,fun u hu=> ?_⟩,by omega⟩
      rw[hbit u hu]
      constructor
      ·rintro (h|h);exact .inl h;exact .inr ⟨by omega,h.2⟩
      ·rintro (h|h)
       ·exact .inl h
       ·by_cases e:u=t
        ·rw[e] at h;exact absurd h.2 hlt
        ·exact .inr ⟨by omega,h.2⟩
    ·have heq2:(t:Int)=X.id:=Decidable.not_not.1 heq2
     refine⟨⟨w,t+1,rfl,by omega,by omega,hw,rfl,fun u hu=> ?_⟩,by omega⟩
     rw[hbit u hu]
     constructor
     ·rintro (h|h);exact .inl h;exact .inr ⟨by omega,h.2⟩
     ·rintro (h|h)
      ·exact .inl h
      ·by_cases e:u=t
       ·rw[e];exact .inl heq2
       ·exact .inr ⟨by omega,h.2⟩
   ·have hcnt:QoF 7 w=Qj1 X ((i+1:Nat):Int):=cnt_bits hb hw fun u hu=>by
     rw[hbit u hu]
     constructor
     ·rintro (h|h)
      ·exact⟨by omega,.inl h⟩
      ·exact⟨by omega,.inr h.2⟩
     ·rintro ⟨h1,h|h⟩
      ·exact .inl h
      ·exact .inr ⟨by omega,h⟩
    have hmost:QaF X w↔2*(Qj1 X ((i+1:Nat):Int):Int)>X.n:=by unfold QaF;rw[hcnt]
    refine Qcv H0 hw (brD (fun hm=> ?_) fun hm=> ?_)
    ·rw[if_pos (hmost.1 hm)] at hR
     refine nn (QaT (j:=10) {X with commit:=((i+1:Nat):Int)} H0 rfl rfl rfl (fun _ _=>rfl) fun h3 H=> ?_)
     exact Qgk H (hb.of rfl rfl rfl rfl) ho hR
    ·rw[if_neg fun x=>hm (hmost.2 x)] at hag
     rw[w64 (by omega) (by omega)]
     exact QbF ⟨⟨i,by omega,by omega,rfl,hag⟩,by omega⟩
 ·have e:Qba X j=none:=by
   cases j with
   |zero=>rfl
   |succ i=>rw[Qn7,if_pos (by omega)]
  rw[e] at hR
  exact hR _ H0
end
end
end Go.Proofs.YtniojdaddolnfaaGreat
