/-
  Several of the proof's texts in one, squeezed: a claim may have 1,500,000 bytes.
-/
import Derived.Test.YtniojdaddolnfaaGreatZg
import Derived.Test.YtniojdaddolnfaaGreatZd
import Derived.Test.YtniojdaddolnfaaGreatZb
import Derived.Test.YtniojdaddolnfaaGreatProg
import Derived.Test.YtniojdaddolnfaaGreatZc
set_option linter.unusedVariables false
set_option linter.unusedSimpArgs false
namespace Go.Proofs.YtniojdaddolnfaaGreat
section
open Go
structure NodeH where
 d:Nat
 ty:TypeId
 lg:Nat
 tl:TypeId
 sl:Sl
 so:Sl
 X:RN
structure SeatH where
 dk:Nat
 dty:TypeId
 ds:Sl
 b:List UInt8
 n:Nat
 nd:Option NodeH
def gnOf(s:SeatH):GN:=⟨s.nd.map (·.X),s.b,s.n⟩
def QcS(s:SeatH):List Res:=Qb9 s.dk s.dty s.ds s.b s.n++match s.nd with
 |none=> []
 |some a=>Qhw a.d a.ty a.lg a.tl a.sl a.so a.X []
def stE(s:SeatH):Nat×Option Nat:=(s.dk,s.nd.map (·.d))
def pOf(a:Option Nat):Option Addr:=a.map fun d=>⟨d,0,none⟩
def eST:Enc (Nat×Option Nat) 2:=⟨fun a=> [.pointer (some ⟨a.1,0,none⟩),.pointer (pOf a.2)],fun _=>rfl,by decide,fun x u hu=>by
 simp only[List.mem_cons,List.not_mem_nil,or_false] at hu
 rcases hu with rfl|rfl<;>rfl⟩
theorem TSTE:ElemT Tryz.prog 60 67 2 16:= .of (by kernel_rfl)
def Qk9(bs:List (Sl×List RE)):Res:= .any (fun g=>∃a∈bs,0<(eRE.fl a.2).length/\a.1.blk=some g) (fun h=>∀a∈bs,RdS h 2 a.1 (eRE.fl a.2))
 (fun h h' hs hk h2 a ha=>Res.keep (.rd a.1 2 (eRE.fl a.2)) hs (fun g hg hl=>hk g ⟨a,ha,hg⟩ hl) (h2 a ha))
 (fun h h2 g hg=>by obtain⟨a,ha,hg⟩:=hg;exact Res.lt (.rd a.1 2 (eRE.fl a.2)) (h2 a ha) g hg)
theorem At.pool{h0 h:Heap}{F:List Res}{bs:List (Sl×List RE)}{s:Sl}{es:List RE}(H:At h0 h (.own s 2 (eRE.fl es)::Qk9 bs::F)):At h0 h (Qk9 (bs++ [(s,es)])::F):=
 H.join2 (fun ha hb a hm=>by
  rcases List.mem_append.1 hm with hm|hm
  ·exact hb a hm
  ·rw[List.mem_singleton.1 hm];exact Own.rd ha) fun g hg=>by
  obtain⟨a,hm,h1,h2⟩:=hg
  rcases List.mem_append.1 hm with hm|hm
  ·exact .inr ⟨a,hm,h1,h2⟩
  ·rw[List.mem_singleton.1 hm] at h2;exact .inl h2
theorem At.pools{h0 h:Heap}{F:List Res}:∀(z:List (RM×Sl)){bs:List (Sl×List RE)},At h0 h (Qk9 bs::(Qfb z++F))->(∀a∈bs,a.1.n<=a.1.c)->∃bs',At h0 h (Qk9 bs'::F)/\(∀a∈bs,a∈bs')/\(∀q∈z,(q.2,q.1.ents)∈bs')/\∀a∈bs',a.1.n<=a.1.c
 | [],bs,H,hc=>⟨bs,H,fun a h=>h,fun q hq=>(by cases hq),hc⟩
 |q::z,bs,H,hc=>by
  have H1:At h0 h (Qk9 bs:: .own q.2 2 (eRE.fl q.1.ents)::(Qfb z++F)):=H
  have H2:=H1.mv 1 1
  have hqc:=(H1.own 1 rfl).2.1
  obtain⟨bs',a1,a2,a3,a4⟩:=At.pools z (At.pool H2) (fun a ha=>by
   rcases List.mem_append.1 ha with ha|ha
   ·exact hc a ha
   ·rw[List.mem_singleton.1 ha];exact hqc)
  refine⟨bs',a1,fun a ha=>a2 a (List.mem_append_left _ ha),fun x hx=> ?_,a4⟩
  rcases List.mem_cons.1 hx with rfl|hx
  ·exact a2 _ (List.mem_append_right _ (List.mem_singleton.2 rfl))
  ·exact a3 x hx
structure GA where
 gp:Nat
 tg:TypeId
 sg:Sl
 nb:Nat
 tn:TypeId
 sn:Sl
 sts:List (Nat×Option Nat)
 z:List (RM×Sl)
 bs:List (Sl×List RE)
def QbV(a:GA):List Res:= [.blk a.gp a.tg [.slice a.sg.a a.sg.n a.sg.c,.pointer (some ⟨a.nb,0,none⟩)],.own a.sg 2 (eST.fl a.sts),.blk a.nb a.tn [.slice a.sn.a a.sn.n a.sn.c],.own a.sn 9 (eMS.fl a.z),Qk9 a.bs]
structure GAok(a:GA):Prop where
 ent:∀q∈a.z,(q.2,q.1.ents)∈a.bs
 nc:∀x∈a.bs,x.1.n<=x.1.c
def GroupH(h0 h:Heap)(gp:Nat)(G:GS)(hold:List (Sl×List RE))(F:List Res):Prop:=
 ∃(a:GA) (ss:List SeatH),a.gp=gp/\a.sts=ss.map stE/\G.l=ss.map gnOf/\G.net=a.z.map Prod.fst/\GAok a/\(∀s∈ss,∀x,s.nd=some x->x.X.out= [])/\(∀x∈hold,x∈a.bs)/\At h0 h (QbV a++(ss.flatMap QcS++F))
theorem Qhx{α β:Type}(f:α->List β):∀(l:List α) (i:Nat) (s:α),l[i]? =some s->(l.flatMap f).Perm (f s++(l.eraseIdx i).flatMap f)
 | [],i,s,h=>by cases h
 |a::l,0,s,h=>by
  have:a=s:=by simpa using h
  subst this
  exact .refl _
 |a::l,i+1,s,h=>by
  rw[List.flatMap_cons,List.eraseIdx_cons_succ,List.flatMap_cons]
  have ih:=Qhx f l i s (by simpa using h)
  refine(List.Perm.append_left _ ih).trans ?_
  rw[<-List.append_assoc,<-List.append_assoc]
  exact List.Perm.append_right _ List.perm_append_comm
theorem flatMap_put{α β:Type}(f:α->List β)(l:List α)(i:Nat)(s s':α)(h:l[i]? =some s):((l.set i s').flatMap f).Perm (f s'++(l.eraseIdx i).flatMap f):=by
 have hi:=(List.getElem?_eq_some_iff.1 h).1
 have:=Qhx f (l.set i s') i s' (List.getElem?_set_self hi)
 rwa[List.eraseIdx_set_eq] at this
section
variable {h0 h:Heap}{gp i:Nat}{G:GS}{F:List Res}{a:GA}{ss:List SeatH}{s:SeatH}
theorem At.seat(H:At h0 h (QbV a++(ss.flatMap QcS++F)))(hs:ss[i]? =some s):At h0 h (QbV a++(QcS s++((ss.eraseIdx i).flatMap QcS++F))):=by
 refine H.perm (List.Perm.append_left _ ?_)
 have:=List.Perm.append_right F (Qhx QcS ss i s hs)
 rwa[List.append_assoc] at this
theorem At.unseat{s':SeatH}(H:At h0 h (QbV a++(QcS s'++((ss.eraseIdx i).flatMap QcS++F))))(hs:ss[i]? =some s):At h0 h (QbV a++((ss.set i s').flatMap QcS++F)):=by
 refine H.perm (List.Perm.append_left _ ?_)
 have:=(List.Perm.append_right F (flatMap_put QcS ss i s s' hs)).symm
 rwa[List.append_assoc] at this
def QaI(a:GA)(dk:Nat)(dty:TypeId)(ds:Sl)(b:List UInt8)(n:Nat)(O:List Res):List Res:=QbV a++(Qb9 dk dty ds b n++O)
theorem At.node{x:NodeH}(H:At h0 h (QbV a++(ss.flatMap QcS++F)))(hs:ss[i]? =some s)(hx:s.nd=some x)(ho:x.X.out= []):RaftAt h0 h x.d x.X (QaI a s.dk s.dty s.ds s.b s.n ((ss.eraseIdx i).flatMap QcS++F)):=by
 have H:=H.seat hs
 unfold QcS at H
 rw[hx] at H
 refine⟨x.ty,x.lg,x.tl,x.sl,x.so,[],by rw[ho];rfl, ?_⟩
 rw[show Qfb []= [] from rfl,List.append_nil]
 unfold QaI
 refine H.perm ?_
 simp only[List.append_assoc]
 have h1:(QbV a++(Qb9 s.dk s.dty s.ds s.b s.n++(Qhw x.d x.ty x.lg x.tl x.sl x.so x.X []++(List.flatMap QcS (ss.eraseIdx i)++F)))).Perm (Qhw x.d x.ty x.lg x.tl x.sl x.so x.X []++((QbV a++Qb9 s.dk s.dty s.ds s.b s.n)++(List.flatMap QcS (ss.eraseIdx i)++F))):=by
  rw[<-List.append_assoc,<-List.append_assoc]
  refine(List.Perm.append_right _ List.perm_append_comm).trans ?_
  rw[List.append_assoc]
 rwa[List.append_assoc] at h1
theorem RaftAt.unnode{d:Nat}{Y:RN}{dk:Nat}{dty:TypeId}{ds:Sl}{b:List UInt8}{n:Nat}(H:RaftAt h0 h d Y (QaI a dk dty ds b n ((ss.eraseIdx i).flatMap QcS++F)))(hs:ss[i]? =some s)(ho:Y.out= []):
  ∃s',gnOf s'=⟨some Y,b,n⟩/\stE s'=(dk,some d)/\(∀x,s'.nd=some x->x.X.out= [])/\At h0 h (QbV a++((ss.set i s').flatMap QcS++F)):=by
 obtain⟨ty,lg,tl,sl,so,z,hz,H⟩:=H
 have hz0:z= []:=by rw[ho] at hz;exact List.map_eq_nil_iff.1 hz
 subst hz0
 rw[show Qfb []= [] from rfl,List.append_nil] at H
 unfold QaI at H
 refine⟨⟨dk,dty,ds,b,n,some ⟨d,ty,lg,tl,sl,so,Y⟩⟩,rfl,rfl,fun x hx=> ?_,At.unseat (s':=⟨dk,dty,ds,b,n,some ⟨d,ty,lg,tl,sl,so,Y⟩⟩) ?_ hs⟩
 ·injection hx with hx
  rw[<-hx];exact ho
 ·unfold QcS
  simp only
  refine H.perm ?_
  simp only[List.append_assoc]
  have h1:(Qhw d ty lg tl sl so Y []++((QbV a++Qb9 dk dty ds b n)++(List.flatMap QcS (ss.eraseIdx i)++F))).Perm (QbV a++(Qb9 dk dty ds b n++(Qhw d ty lg tl sl so Y []++(List.flatMap QcS (ss.eraseIdx i)++F)))):=by
   rw[<-List.append_assoc]
   refine(List.Perm.append_right _ List.perm_append_comm).trans ?_
   simp only[List.append_assoc];exact .refl _
  rwa[List.append_assoc] at h1
theorem RaftAt.gone{d:Nat}{Y:RN}{dk:Nat}{dty:TypeId}{ds:Sl}{b:List UInt8}{n:Nat}(H:RaftAt h0 h d Y (QaI a dk dty ds b n ((ss.eraseIdx i).flatMap QcS++F)))(hs:ss[i]? =some s):
  At h0 h (QbV a++((ss.set i ⟨dk,dty,ds,b,n,none⟩).flatMap QcS++F)):=by
 have H:=H.ats
 unfold QaI at H
 refine At.unseat (s':=⟨dk,dty,ds,b,n,none⟩) ?_ hs
 unfold QcS
 simp only[List.append_nil]
 exact H
theorem GAok.ents{q:Sl×List RE}(A:GAok a)(hq:q∈a.bs){O:List Res}:EntS h0 (QbV a++O) q.1 q.2:=
 ⟨A.nc _ hq,fun h' L H=>by
  have hp:At h0 h' (Qk9 a.bs:: []):=H.sub (by
   refine List.Sublist.trans ?_ (List.sublist_append_right ..)
   refine List.Sublist.trans ?_ (List.sublist_append_left ..)
   exact List.singleton_sublist.2 (by simp[QbV]))
  exact(hp.get 0 rfl:∀x∈a.bs,RdS h' 2 x.1 (eRE.fl x.2)) _ hq⟩
end
section
variable {h0 h:Heap}{O:List Res}{a:GA}{d dk:Nat}{dty:TypeId}{ds:Sl}{b:List UInt8}{n:Nat}{X:RN}
theorem RaftAt.aside{F:List Res}(H:RaftAt h0 h d X F):∃L,At h0 h (F++L)/\∀(h':Heap) (F':List Res),At h0 h' (F'++L)->RaftAt h0 h' d X F':=by
 obtain⟨ty,lg,tl,sl,so,z,hz,H⟩:=H
 have p:∀F':List Res,(Qhw d ty lg tl sl so X z++(F'++Qfb z)).Perm (F'++(Qfb z++Qhw d ty lg tl sl so X z)):=fun F'=>List.perm_append_comm.trans (by rw[List.append_assoc])
 exact⟨_,H.perm (p F),fun h' F' H'=>⟨ty,lg,tl,sl,so,z,hz,H'.perm (p F').symm⟩⟩
theorem Qi5{i:Int}{j:Nat}{st:Nat×Option Nat}{L:List Res}{K:Addr->Prop}(H:At h0 h L)(m:Nat)(hm:L[m]? =some (.own a.sg 2 (eST.fl a.sts)))(hi:i=(j:Int))(hj:a.sts[j]? =some st)
  (hK:∀e,ElAt a.sg 2 j e->K e):Ix a.sg i 2 K:=ixAt (E:=eST) H m hm j hi (List.getElem?_eq_some_iff.1 hj).1 hK
theorem QlY{j:Nat}{e:Addr}{st:Nat×Option Nat}{L:List Res}{K:Option Addr->Prop}(H:At h0 h L)(m:Nat)(hm:L[m]? =some (.own a.sg 2 (eST.fl a.sts)))(he:ElAt a.sg 2 j e)(hj:a.sts[j]? =some st)(hK:K (some ⟨st.1,0,none⟩)):Ld .ptr h e K:=by
 obtain⟨hl,rfl⟩:=List.getElem?_eq_some_iff.1 hj
 exact ldEl0 (E:=eST) H m hm he hl (some ⟨(a.sts[j]).1,0,none⟩) rfl hK
theorem Qj8{j:Nat}{e:Addr}{st:Nat×Option Nat}{L:List Res}{K:Option Addr->Prop}(H:At h0 h L)(m:Nat)(hm:L[m]? =some (.own a.sg 2 (eST.fl a.sts)))(he:ElAt a.sg 2 j e)(hj:a.sts[j]? =some st)(hK:K (pOf st.2)):Ld .ptr h (e.add 1) K:=by
 obtain⟨hl,rfl⟩:=List.getElem?_eq_some_iff.1 hj
 exact ldEl (E:=eST) (j:=1) H m hm he hl (pOf (a.sts[j]).2) rfl hK
theorem Qiq{i:Int}{j:Nat}{R:Int->Heap->Prop}(H:RaftAt h0 h d X (QaI a dk dty ds b n O))(hi:i=(j:Int))(hj:a.sts[j]? =some (dk,some d))(hl:X.log.length<=1024)(hd:∀e∈X.log,e.data.size<=512)(hf:0<=X.from_/\X.from_<=1025)(hb:b.length<=1048576)
  (hR:∀h' ds',RaftAt h0 h' d {X with hard:=false,from_:=0} (QaI a dk dty ds' (wrM b (Qav X)).1 n O)->R (if(wrM b (Qav X)).2=true then 0 else 7) h'):QaZ (some ⟨a.gp,0,none⟩) i h R:=by
 refine QiX ?_
 unfold Qe1
 have H1:=H.ats
 unfold QaI QbV at H1
 refine nn (Qac H1 0 rfl a.sg rfl (Qi5 H1 1 rfl hi hj fun e he=>Qj8 H1 1 rfl he hj ?_))
 refine raft_Save_ok H (by omega) (by omega) (fun h1 h2 h' H=> ?_) fun h1 r h' H=> ?_
 ·obtain⟨L,H,back⟩:=H.aside
  refine Qaj (cs:= [.bool false,.int .i64 0,.int .i64 0,.int .i64 0,.slice none 0 0]) H fun h p H=> ?_
  refine Qas H 0 rfl rfl fun h H=>Qa3 (j:=1) H 0 rfl rfl fun h H=>Qa3 (j:=2) H 0 rfl rfl fun h H=>Qa3 (j:=3) H 0 rfl rfl fun h H=>Qa3 (j:=4) H 0 rfl rfl fun h H=> ?_
  refine brY rfl ?_
  have e:Qav X= []:=by unfold Qav;rw[if_pos ⟨h1,h2⟩]
  rw[e] at hR
  have e2:({X with hard:=false,from_:=0}:RN)=X:=by
   obtain⟨⟩:=X
   have h1:_=false:=h1
   have h2:_=(0:Int):=h2
   simp only at h1 h2
   rw[h1,h2]
  rw[e2] at hR
  exact hR h ds (back h _ H.tail)
 ·have e:Qav X=Qnc (QcY X):=by unfold Qav;rw[if_neg h1]
  rw[e] at hR
  obtain⟨L,H,back⟩:=H.aside
  refine Qaj (cs:= [.bool false,.int .i64 0,.int .i64 0,.int .i64 0,.slice none 0 0]) H fun h p H=> ?_
  refine Qas H 0 rfl rfl fun h H=>Qa3 (j:=1) H 0 rfl rfl fun h H=>Qa3 (j:=2) H 0 rfl rfl fun h H=>Qa3 (j:=3) H 0 rfl rfl fun h H=>Qa3 (j:=4) H 0 rfl rfl fun h H=> ?_
  refine brN rfl ?_
  have H:At h0 h (.blk p 123 [.bool X.hard,.int .i64 X.term,.int .i64 X.vote,.int .i64 X.from_,.slice r.a r.n r.c]:: .own r 2 (eRE.fl (Qbr X)):: .blk a.gp a.tg [.slice a.sg.a a.sg.n a.sg.c,.pointer (some ⟨a.nb,0,none⟩)]:: .own a.sg 2 (eST.fl a.sts):: .blk a.nb a.tn [.slice a.sn.a a.sn.n a.sn.c]:: .own a.sn 9 (eMS.fl a.z)::Qk9 a.bs:: .blk dk dty [.slice ds.a ds.n ds.c,.int .i64 (n:Int)]:: .own ds 1 (cB b)::(O++L)):=H
  refine nn (Qac H 2 rfl a.sg rfl (Qi5 H 3 rfl hi hj fun e he=>QlY H 3 rfl he hj ?_))
  refine Qac H 0 rfl X.hard rfl (Qap (j:=1) H 0 rfl X.term rfl (Qap (j:=2) H 0 rfl X.vote rfl (Qap (j:=3) H 0 rfl X.from_ rfl (Qap (j:=4) H 0 rfl r rfl ?_))))
  have hsl:((Qbr X).map toE).length<=1024:=by
   rw[List.length_map]
   unfold Qbr Qgr
   split
   ·rw[List.length_take,List.length_drop];omega
   ·exact Nat.zero_le _
  have hok:∀x∈Qnc (QcY X),x.ok:=by
   have:=Qjp hd
   rw[‹Qav X=_›] at this
   exact this
  refine hard_WriteG (d:=dk) (ty:=dty) (sd:=ds) (b:=b) (n:=n) (es:=(Qbr X).map toE) (H.mv 7 2) (by rw[<-fl_toE];exact H.rdo 1 rfl) (by omega) hok hb fun h' s' H=> ?_
  exact hR h' s' (back h' _ (((H.del 2).del 2).mv 2 5))
end
end
section
open Go
variable {h0 h:Heap}{O:List Res}{a:GA}{d dk:Nat}{dty:TypeId}{ds:Sl}{b:List UInt8}{n:Nat}{X Y:RN}
theorem take_full{α:Type}{l:List α}{n:Nat}(x:α)(h:n<=l.length):(l++ [x]).take n=l.take n:=by rw[List.take_append_of_le_length h]
theorem take512{z zz:List (RM×Sl)}{k:Nat}(hk:k<zz.length)(hz:z.length<=512):
  (512<=((z++zz.take k).take 512).length->(z++zz.take (k+1)).take 512=(z++zz.take k).take 512)/\(((z++zz.take k).take 512).length<512->(z++zz.take (k+1)).take 512=(z++zz.take k).take 512++ [zz[k]]):=by
 have e:z++zz.take (k+1)=(z++zz.take k)++ [zz[k]]:=by rw[List.append_assoc,List.take_add_one,List.getElem?_eq_getElem hk];rfl
 rw[e]
 refine⟨fun h=> ?_,fun h=> ?_⟩
 ·rw[List.length_take] at h
  exact take_full _ (by omega)
 ·rw[List.length_take] at h
  have h2:(z++zz.take k).length<512:=by omega
  rw[List.take_of_length_le (l:=z++zz.take k) (by omega),List.take_of_length_le (by rw[List.length_append,List.length_singleton];omega)]
theorem pools_perm{x g0 g1 n0 n1 p d0 d1:Res}{A B L:List Res}:((x::([g0,g1,n0,n1,p]++([d0,d1]++A)++B))++L).Perm (p::(B++(x::g0::g1::n0::n1::d0::d1::(A++L)))):=by
 have h1:((x::([g0,g1,n0,n1,p]++([d0,d1]++A)++B))++L).Perm (p::([x,g0,g1,n0,n1,d0,d1]++(A++(B++L)))):=by
  simp only[List.cons_append,List.nil_append,List.append_assoc]
  exact List.perm_middle (l₁:= [x,g0,g1,n0,n1]) (l₂:=d0::d1::(A++(B++L)))
 refine h1.trans (List.Perm.cons _ ?_)
 have h2:([x,g0,g1,n0,n1,d0,d1]++(A++(B++L))).Perm (B++([x,g0,g1,n0,n1,d0,d1]++(A++L))):=by
  rw[<-List.append_assoc,<-List.append_assoc,<-List.append_assoc,<-List.append_assoc]
  refine List.Perm.append_right _ ?_
  refine List.perm_append_comm.trans ?_
  rw[List.append_assoc]
 exact h2
theorem Qkq{i e:Int}{j:Nat}{R:Int->Heap->Prop}(H:RaftAt h0 h d Y (QaI a dk dty ds b n O))(hi:i=(j:Int))(hj:a.sts[j]? =some (dk,some d))(A:GAok a)(hl:Y.log.length<=1024)(hd:∀e∈Y.log,e.data.size<=512)(hf:0<=Y.from_/\Y.from_<=1025)(hb:b.length<=1048576)(hz:a.z.length<=512)(ho:Y.out.length<=100000)
  (hbad:(wrM b (Qav Y)).2=false->∀h' ds',RaftAt h0 h' d {Y with hard:=false,from_:=0} (QaI {a with sts:=a.sts.set j (dk,none)} dk dty ds' (wrM b (Qav Y)).1 n O)->R 7 h')
  (hR:(wrM b (Qav Y)).2=true->∀h' ds' (a':GA),a'.gp=a.gp->a'.sts=a.sts->a'.z.map Prod.fst=(a.z.map Prod.fst++Y.out).take 512->GAok a'->RaftAt h0 h' d (Qae Y) (QaI a' dk dty ds' (wrM b (Qav Y)).1 (wrM b (Qav Y)).1.length O)->R e h'):
  QaZ (some ⟨a.gp,0,none⟩) i h fun(r1:Int) h_1=>
 (bif r1 !=0 then
  Nn (some (⟨a.gp,0,none⟩:Addr)) fun p1=>
  Ld .sl h_1 p1 fun(l1:Sl)=>
  Ix l1 i 2 fun e1=>
  St h_1 (e1.add 1) (.pointer none) fun h_2=>
  R r1 h_2
 else
  Nn (some (⟨a.gp,0,none⟩:Addr)) fun p2=>
  Ld .sl h_1 p2 fun(l2:Sl)=>
  Ix l2 i 2 fun e2=>
  Ld .ptr h_1 e2 fun(disk:Option Addr)=>
  QbC disk h_1 fun(r2:Int) h_3=>
  Qb7 (some (⟨d,0,none⟩:Addr)) h_3 fun(r3:Sl) h_4=>
  Qf9 [.one (.int .i64)] (fun _ (x48:Int) h_5 go=>
   (bif decide (x48<(r3.n:Int)) then
    Ix r3 x48 9 fun e3=>
    Ld (.int .i64) h_5 e3 fun(x_Kind:Int)=>
    Ld (.int .i64) h_5 (e3.add 1) fun(x_From:Int)=>
    Ld (.int .i64) h_5 (e3.add 2) fun(x_To:Int)=>
    Ld (.int .i64) h_5 (e3.add 3) fun(x_Term:Int)=>
    Ld (.int .i64) h_5 (e3.add 4) fun(x_Index:Int)=>
    Ld (.int .i64) h_5 (e3.add 5) fun(x_LogTerm:Int)=>
    Ld (.int .i64) h_5 (e3.add 6) fun(x_Commit:Int)=>
    Ld .bool h_5 (e3.add 7) fun(x_Yes:Bool)=>
    Ld .sl h_5 (e3.add 8) fun(x_Entries:Sl)=>
    QaG h_5 (.cells #[.int .i64 0,.int .i64 0,.int .i64 0,.int .i64 0,.int .i64 0,.int .i64 0,.int .i64 0,.bool false,.slice none 0 0] 59) fun m h_6=>
    St h_6 m (.int .i64 x_Kind) fun h_7=>
    St h_7 (m.add 1) (.int .i64 x_From) fun h_8=>
    St h_8 (m.add 2) (.int .i64 x_To) fun h_9=>
    St h_9 (m.add 3) (.int .i64 x_Term) fun h_10=>
    St h_10 (m.add 4) (.int .i64 x_Index) fun h_11=>
    St h_11 (m.add 5) (.int .i64 x_LogTerm) fun h_12=>
    St h_12 (m.add 6) (.int .i64 x_Commit) fun h_13=>
    St h_13 (m.add 7) (.bool x_Yes) fun h_14=>
    St h_14 (m.add 8) (.slice x_Entries.a x_Entries.n x_Entries.c) fun h_15=>
    Nn (some (⟨a.gp,0,none⟩:Addr)) fun p3=>
    Ld .ptr h_15 (p3.add 1) fun(net:Option Addr)=>
    Ld (.int .i64) h_15 m fun(x_Kind1:Int)=>
    Ld (.int .i64) h_15 (m.add 1) fun(x_From1:Int)=>
    Ld (.int .i64) h_15 (m.add 2) fun(x_To1:Int)=>
    Ld (.int .i64) h_15 (m.add 3) fun(x_Term1:Int)=>
    Ld (.int .i64) h_15 (m.add 4) fun(x_Index1:Int)=>
    Ld (.int .i64) h_15 (m.add 5) fun(x_LogTerm1:Int)=>
    Ld (.int .i64) h_15 (m.add 6) fun(x_Commit1:Int)=>
    Ld .bool h_15 (m.add 7) fun(x_Yes1:Bool)=>
    Ld .sl h_15 (m.add 8) fun(x_Entries1:Sl)=>
    QaB net (x_Kind1,x_From1,x_To1,x_Term1,x_Index1,x_LogTerm1,x_Commit1,x_Yes1,x_Entries1,()) h_15 fun(r4:Int) h_16=>
    go (IntKind.i64.wrap (x48+1)) h_16
   else
    R e h_5
   )
   ) (0,()) h_4
 ):=by
 refine Qiq H hi hj hl hd hf hb fun h1 ds1 H=> ?_
 generalize hwr:wrM b (Qav Y)=wr at*
 obtain⟨b',w⟩:=wr
 cases w with
 |false=>
  refine brY rfl ?_
  obtain⟨L,H,back⟩:=H.aside
  unfold QaI QbV at H
  refine nn (Qac H 0 rfl a.sg rfl (Qi5 H 1 rfl hi hj fun e he=> ?_))
  obtain⟨hl2,hje⟩:=List.getElem?_eq_some_iff.1 hj
  refine stEl (E:=eST) (j:=1) (dk,none) H 1 rfl he hl2 rfl (by rw[hje];rfl) fun h' H=> ?_
  exact hbad rfl h' ds1 (back h' _ H)
 |true=>
  refine brN rfl ?_
  obtain⟨L,H,back⟩:=H.aside
  unfold QaI QbV at H
  refine nn (Qac H 0 rfl a.sg rfl (Qi5 H 1 rfl hi hj fun e he=>QlY H 1 rfl he hj ?_))
  refine QkX (d:=dk) (ty:=dty) (s:=ds1) (b:=b') (n:=n) (H.mv 5 2) fun h' H=> ?_
  have H:RaftAt h0 h' d {Y with hard:=false,from_:=0} (QaI a dk dty ds1 b' b'.length O):=back h' _ (H.mv 2 5)
  refine raft_Out_ok H fun so zz h2 hzz H=> ?_
  have H:RaftAt h0 h2 d (Qae Y) (.own so 9 (eMS.fl zz)::(QaI a dk dty ds1 b' b'.length O++Qfb zz)):=H
  have hzz:zz.map Prod.fst=Y.out:=hzz
  obtain⟨L,H,back⟩:=H.aside
  unfold QaI QbV Qb9 at H
  obtain⟨bs',H,q2,q3,q4⟩:=At.pools zz (H.perm pools_perm) A.nc
  have hlen:zz.length=Y.out.length:=by rw[<-hzz,List.length_map]
  have hson:=H.n (E:=eMS) 1 rfl
  refine Qhl (s1:= .one (.int .i64)) (fun(y:Int) h3=>∃(k:Nat) (sn':Sl),y=k/\k<=zz.length/\At h0 h3 (.own so 9 (eMS.fl zz)::(QaI {a with sn:=sn',z:=(a.z++zz.take k).take 512,bs:=bs'} dk dty ds1 b' b'.length O++L))) (fun(y:Int) _=>(zz.length -y).toNat)
   ⟨0,a.sn,rfl,Nat.zero_le _, ?_⟩ fun _ (y:Int) h3 hI=> ?_
  ·rw[List.take_zero,List.append_nil,List.take_of_length_le hz]
   exact H.mv 1 5
  ·obtain⟨k,sn',rfl,hk,H⟩:=hI
   unfold QaI QbV Qb9 at H
   refine brD (fun hc=> ?_) fun hc=> ?_
   ·have hk2:k<zz.length:=by omega
    have ht:=take512 hk2 hz
    refine ixAt H 0 rfl k rfl hk2 fun e3 he3=> ?_
    refine ld9E H 0 rfl he3 hk2 ?_
    refine Qaj (cs:=mcS m0 ⟨none,0,0⟩) H fun h4 m H=> ?_
    refine st9B (m:=zz[k].1) (sm:=zz[k].2) H fun h5 H=>nn ?_
    refine Qap (j:=1) H 2 rfl (some ⟨a.nb,0,none⟩) rfl ?_
    refine ld9B (m:=zz[k].1) (sm:=zz[k].2) H 0 rfl ?_
    rw[w64 (by omega) (by omega)]
    refine Qmh (m:=zz[k].1) (sm:=zz[k].2) (H.mv 4 2) (fun hfull h6 H=> ?_) fun hroom h6 sn2 H=> ?_
    ·refine⟨⟨k+1,sn',by omega,by omega, ?_⟩,by omega⟩
     rw[ht.1 hfull]
     exact(H.del 2).mv 2 3
    ·refine⟨⟨k+1,sn2,by omega,by omega, ?_⟩,by omega⟩
     rw[ht.2 hroom]
     exact(H.del 2).mv 2 3
   ·have hkl:k=zz.length:=by omega
    rw[hkl,List.take_length] at H
    have H:RaftAt h0 h3 d (Qae Y) (.own so 9 (eMS.fl zz)::QaI {a with sn:=sn',z:=(a.z++zz).take 512,bs:=bs'} dk dty ds1 b' b'.length O):=back h3 _ H
    refine hR rfl h3 ds1 {a with sn:=sn',z:=(a.z++zz).take 512,bs:=bs'} rfl rfl ?_ ⟨fun q hq=> ?_,q4⟩ H.tail
    ·show((a.z++zz).take 512).map Prod.fst=_
     rw[List.map_take,List.map_append,hzz]
    ·rcases List.mem_append.1 (List.mem_of_mem_take hq) with hq|hq
     ·exact q2 _ (A.ent q hq)
     ·exact q3 q hq
end
section
open Go
def stS(s:ST):List Value:= [.int .i64 s.kind,.int .i64 s.node,.int .i64 s.i,.int .i64 s.draw,.int .i64 s.keep,.int .i64 s.at_,.int .u8 (s.by_.toNat:Int),.string s.data]
section
variable {h0 h:Heap}{F O:List Res}{gp i k S:Nat}{g:GH}{G:GS}{q:GN}{X:RN}{hold:List (Sl×List RE)}{s:ST}
theorem Qkk{kd:Kd}{F:List Res}{d b j:Nat}{t:TypeId}{cs:List Value}{K:kd.T->Prop}(H:RaftAt h0 h d X F)(hm:Res.blk b t cs∈F)(x:kd.T)(hx:cs[j]? =some (kd.mk x))(hK:K x):Ld kd h ((⟨b,0,none⟩:Addr).add j) K:=ldF (H.ats.ok _ hm) x hx hK
theorem map_set_same{α β:Type}{f:α->β}{l:List α}{i:Nat}{x y:α}(h:l[i]? =some x)(he:f y=f x):(l.set i y).map f=l.map f:=by
 rw[List.map_set,he]
 refine List.ext_getElem? fun j=> ?_
 by_cases e:i=j
 ·subst e
  have hl:=(List.getElem?_eq_some_iff.1 h).1
  rw[List.getElem?_set_self (by rw[List.length_map];exact hl),List.getElem?_map,h];rfl
 ·rw[List.getElem?_set_ne e]
theorem all_set{α:Type}{P:α->Prop}{l:List α}{i:Nat}{y:α}(h:∀x∈l,P x)(hy:P y):∀x∈l.set i y,P x:=fun x hx=>by
 rcases List.mem_or_eq_of_mem_set hx with hx|hx
 ·exact h x hx
 ·rw[hx];exact hy
theorem GroupH.run(H:GroupH h0 h gp G hold F)(hq:G.l[i]? =some q)(hX:q.node=some X):
  ∃(a:GA) (d dk:Nat) (dty:TypeId) (ds:Sl) (O:List Res),a.gp=gp/\GAok a/\G.net=a.z.map Prod.fst/\(∀x∈hold,x∈a.bs)/\a.sts[i]? =some (dk,some d)/\X.out= []/\RaftAt h0 h d X (QaI a dk dty ds q.b q.n O)/\(∀r∈F,r∈O)/\
   (∀h' a' ds' Y b' n',a'.gp=gp->a'.sts=a.sts->GAok a'->Y.out= []->RaftAt h0 h' d Y (QaI a' dk dty ds' b' n' O)->GroupH h0 h' gp ⟨G.l.set i ⟨some Y,b',n'⟩,a'.z.map Prod.fst⟩ [] F)/\
   (∀h' a' ds' Y b' n',a'.gp=gp->a'.sts=a.sts.set i (dk,none)->GAok a'->RaftAt h0 h' d Y (QaI a' dk dty ds' b' n' O)->GroupH h0 h' gp ⟨G.l.set i ⟨none,b',n'⟩,a'.z.map Prod.fst⟩ [] F):=by
 obtain⟨a,ss,h1,h2,h3,h4,A,h5,h6,H⟩:=H
 rw[h3,List.getElem?_map] at hq
 obtain⟨s,hs,rfl⟩:=Option.map_eq_some_iff.1 hq
 have hX:s.nd.map (·.X)=some X:=hX
 obtain⟨x,hx,rfl⟩:=Option.map_eq_some_iff.1 hX
 have ho:=h5 s (List.mem_of_getElem? hs) x hx
 refine⟨a,x.d,s.dk,s.dty,s.ds,(ss.eraseIdx i).flatMap QcS++F,h1,A,h4,h6, ?_,ho,H.node hs hx ho,fun r hr=>List.mem_append_right _ hr,fun h' a' ds' Y b' n' e1 e2 A' hY H'=> ?_,fun h' a' ds' Y b' n' e1 e2 A' H'=> ?_⟩
 ·rw[h2,List.getElem?_map,hs]
  show some (stE s)=_
  unfold stE;rw[hx];rfl
 ·obtain⟨s',g1,g2,g3,H'⟩:=H'.unnode hs hY
  refine⟨a',ss.set i s',e1, ?_, ?_,rfl,A',all_set h5 g3,(fun x hx=>by cases hx),H'⟩
  ·rw[e2,h2,map_set_same hs]
   rw[g2];unfold stE;rw[hx];rfl
  ·show G.l.set i _=_
   rw[h3,List.map_set,g1]
 ·have H':=H'.gone hs
  refine⟨a',ss.set i ⟨s.dk,s.dty,ds',b',n',none⟩,e1, ?_, ?_,rfl,A',all_set h5 (fun x hx=>by cases hx),(fun x hx=>by cases hx),H'⟩
  ·rw[e2,h2,List.map_set];rfl
  ·show G.l.set i _=_
   rw[h3,List.map_set];rfl
theorem GroupH.stop(H:GroupH h0 h gp G hold F)(hq:G.l[i]? =some q)(hX:q.node=none):
  ∃(a:GA) (dk:Nat) (dty:TypeId) (ds:Sl) (O:List Res),a.gp=gp/\a.sg.n=G.l.length/\a.sts[i]? =some (dk,none)/\At h0 h (QaI a dk dty ds q.b q.n O)/\
   (∀h' a' ds' Y b' n' d,a'.gp=gp->a'.z=a.z->a'.bs=a.bs->a'.sts=a.sts.set i (dk,some d)->Y.out= []->RaftAt h0 h' d Y (QaI a' dk dty ds' b' n' O)->GroupH h0 h' gp ⟨G.l.set i ⟨some Y,b',n'⟩,G.net⟩ [] F):=by
 obtain⟨a,ss,h1,h2,h3,h4,A,h5,h6,H⟩:=H
 rw[h3,List.getElem?_map] at hq
 obtain⟨s,hs,rfl⟩:=Option.map_eq_some_iff.1 hq
 have hX:s.nd.map (·.X)=none:=hX
 have hx:s.nd=none:=Option.map_eq_none_iff.1 hX
 have hn:a.sg.n=G.l.length:=by
  have:=(H.n (E:=eST) 1 rfl)
  rw[this,h2,h3,List.length_map,List.length_map]
 refine⟨a,s.dk,s.dty,s.ds,(ss.eraseIdx i).flatMap QcS++F,h1,hn, ?_, ?_,fun h' a' ds' Y b' n' d e1 e2 e3 e4 hY H'=> ?_⟩
 ·rw[h2,List.getElem?_map,hs]
  show some (stE s)=_
  unfold stE;rw[hx];rfl
 ·have H:=H.seat hs
  unfold QcS at H
  rw[hx] at H
  simp only[List.append_nil] at H
  exact H
 ·obtain⟨s',g1,g2,g3,H'⟩:=H'.unnode hs hY
  refine⟨a',ss.set i s',e1, ?_, ?_,by rw[e2];exact h4,⟨by rw[e2,e3];exact A.ent,by rw[e3];exact A.nc⟩,all_set h5 g3,(fun x hx=>by cases hx),H'⟩
  ·rw[e4,h2,List.map_set,g2]
  ·show G.l.set i _=_
   rw[h3,List.map_set,g1]
theorem GInv.zl(I:GInv k g S G){a:GA}(h:G.net=a.z.map Prod.fst):a.z.length<=512:=by
 have:=I.cap
 rwa[h,List.length_map] at this
theorem Qkr{a:GA}{d dk:Nat}{dty:TypeId}{ds:Sl}{Y:RN}{e:Int}{i':Int}{R:Int->Heap->Prop}{h1:Heap}{Z:Prop}(I:GInv k g S G)(hq:G.l[i]? =some q)(hX:q.node=some X)(hgp:a.gp=gp)(A:GAok a)(hn:G.net=a.z.map Prod.fst)(hj:a.sts[i]? =some (dk,some d))(b:BN (S+1) 14 Y)
  (back1:∀h' a' ds' Y b' n',a'.gp=gp->a'.sts=a.sts->GAok a'->Y.out= []->RaftAt h0 h' d Y (QaI a' dk dty ds' b' n' O)->GroupH h0 h' gp ⟨G.l.set i ⟨some Y,b',n'⟩,a'.z.map Prod.fst⟩ [] F)
  (back0:∀h' a' ds' Y b' n',a'.gp=gp->a'.sts=a.sts.set i (dk,none)->GAok a'->RaftAt h0 h' d Y (QaI a' dk dty ds' b' n' O)->GroupH h0 h' gp ⟨G.l.set i ⟨none,b',n'⟩,a'.z.map Prod.fst⟩ [] F)
  (hR:∀h',GroupH h0 h' gp (Qa7 G i q Y e).1 [] F->R (Qa7 G i q Y e).2 h') (H:RaftAt h0 h1 d Y (QaI a dk dty ds q.b q.n O)) (hi:i'=(i:Int))
  (fin:((wrM q.b (Qav Y)).2=false->∀h' ds',RaftAt h0 h' d {Y with hard:=false,from_:=0} (QaI {a with sts:=a.sts.set i (dk,none)} dk dty ds' (wrM q.b (Qav Y)).1 q.n O)->R 7 h')->
   ((wrM q.b (Qav Y)).2=true->∀h' ds' (a':GA),a'.gp=a.gp->a'.sts=a.sts->a'.z.map Prod.fst=(a.z.map Prod.fst++Y.out).take 512->GAok a'->RaftAt h0 h' d (Qae Y) (QaI a' dk dty ds' (wrM q.b (Qav Y)).1 (wrM q.b (Qav Y)).1.length O)->R e h')->Z):Z:=by
 refine fin (fun hw h' ds' H=> ?_) fun hw h' ds' a' e1 e2 e3 A' H=> ?_
 ·have:=hR h'
  unfold Qa7 at this
  rw[if_neg (by rw[hw];decide)] at this
  refine this ?_
  have:=back0 h' {a with sts:=a.sts.set i (dk,none)} ds' _ _ _ hgp rfl ⟨A.ent,A.nc⟩ H
  rw[hn];exact this
 ·have:=hR h'
  unfold Qa7 at this
  rw[if_pos hw] at this
  refine this ?_
  have:=back1 h' a' ds' _ _ _ (e1.trans hgp) e2 A' rfl H
  rw[hn,<-e3];exact this
theorem comes_tick_ok{p:Nat}{t:TypeId}{R:Int->Heap->Prop}(H:GroupH h0 h gp G [] F)(I:GInv k g S G)(hS:S<=1000000000)(hq:G.l[i]? =some q)(hX:q.node=some X)(hp:Res.blk p t (stS s)∈F)
  (hR:∀h',GroupH h0 h' gp (Qa7 G i q (Qah X s.draw) 0).1 [] F->R (Qa7 G i q (Qah X s.draw) 0).2 h'):QaK (some ⟨gp,0,none⟩) (i:Int) (.func (.func 46) #[] #[.pointer (some ⟨p,0,none⟩)]) h R:=by
 obtain⟨a,d,dk,dty,ds,O,hgp,A,hn,_,hj,ho,H2,hF,back1,back0⟩:=H.run hq hX
 subst hgp
 clear H
 have H:=H2
 have u:=(I.seat i q hq).up X hX
 have B:=u.bn
 refine Qg6 (cap:=some ⟨p,0,none⟩) ?_
 unfold QdK
 have H1:=H.ats
 unfold QaI QbV at H1
 refine nn (Qac H1 0 rfl a.sg rfl (Qi5 H1 1 rfl rfl hj fun e he=>Qj8 H1 1 rfl he hj ?_))
 refine Qii ?_
 unfold Qev
 refine Qkk (j:=3) H (t:=t) (cs:=stS s) (List.mem_append_right _ (List.mem_append_right _ (hF _ hp))) s.draw rfl ?_
 refine raft_Tick_ok H B.rb B.c B.t (by have:=B.s;omega) (by have:=B.q;omega) (by rw[B.el];decide) B.h (by rw[ho];exact Nat.zero_le _) fun h2 H=> ?_
 have B2:=QmE B (draw:=s.draw)
 refine Qkr (e:=0) (Y:=Qah X s.draw) I hq hX rfl A hn hj B2 back1 back0 hR H rfl fun f1 f2=> ?_
 exact Qkq H rfl hj A B2.l B2.ld B2.f (I.seat i q hq).len (I.zl hn) (by have:=B2.o;omega) f1 f2
theorem Qlf{p:Nat}{t:TypeId}{R:Int->Heap->Prop}(H:GroupH h0 h gp G [] F)(I:GInv k g S G)(hq:G.l[i]? =some q)(hX:q.node=some X)(hp:Res.blk p t (stS s)∈F)
  (hR:∀h',GroupH h0 h' gp (Qa7 G i q (Qam X s.data).1 (Qam X s.data).2.2).1 [] F->R (Qa7 G i q (Qam X s.data).1 (Qam X s.data).2.2).2 h'):QaK (some ⟨gp,0,none⟩) (i:Int) (.func (.func 48) #[] #[.pointer (some ⟨p,0,none⟩)]) h R:=by
 obtain⟨a,d,dk,dty,ds,O,hgp,A,hn,_,hj,ho,H2,hF,back1,back0⟩:=H.run hq hX
 subst hgp
 clear H
 have H:=H2
 have u:=(I.seat i q hq).up X hX
 have B:=u.bn
 refine Qg5 (cap:=some ⟨p,0,none⟩) ?_
 unfold QdJ
 have H1:=H.ats
 unfold QaI QbV at H1
 refine nn (Qac H1 0 rfl a.sg rfl (Qi5 H1 1 rfl rfl hj fun e he=>Qj8 H1 1 rfl he hj ?_))
 refine Qih ?_
 unfold Qeu
 refine Qkk (j:=7) H (t:=t) (cs:=stS s) (List.mem_append_right _ (List.mem_append_right _ (hF _ hp))) s.data rfl ?_
 have B2:=(QfW B (data:=s.data)).up (Nat.le_succ S) (Nat.le_refl _)
 have hl2:(Qc7 X s.data).1.log.length<=100000:=by
  have hl:=B.l
  unfold Qc7
  split
  ·show X.log.length<=100000;omega
  split
  ·show X.log.length<=100000;omega
  ·rw[(Qan _).2.2.1]
   show(X.log++ [_]).length<=_
   rw[List.length_append,List.length_singleton];omega
 refine Ql6 H B.rb B.c (by rw[ho];exact Nat.zero_le _) hl2 fun h2 H=> ?_
 refine Qkr (e:=(Qam X s.data).2.2) (Y:=(Qam X s.data).1) I hq hX rfl A hn hj B2 back1 back0 hR H rfl fun f1 f2=> ?_
 exact Qkq H rfl hj A B2.l B2.ld B2.f (I.seat i q hq).len (I.zl hn) (by have:=B2.o;omega) f1 f2
theorem comes_step_ok{p:Nat}{t:TypeId}{m:RM}{sm:Sl}{R:Int->Heap->Prop}(H:GroupH h0 h gp G [(sm,m.ents)] F)(I:GInv k g S G)(hq:G.l[i]? =some q)(hX:q.node=some X)(hp:Res.blk p t (mcS m sm)∈F)(hm:BM m)
  (hR:∀h',GroupH h0 h' gp (Qa7 G i q (Qaa X m) 0).1 [] F->R (Qa7 G i q (Qaa X m) 0).2 h'):QaK (some ⟨gp,0,none⟩) (i:Int) (.func (.func 54) #[] #[.pointer (some ⟨p,0,none⟩)]) h R:=by
 obtain⟨a,d,dk,dty,ds,O,hgp,A,hn,hh,hj,ho,H2,hF,back1,back0⟩:=H.run hq hX
 subst hgp
 clear H
 have H:=H2
 have u:=(I.seat i q hq).up X hX
 have B:=u.bn
 refine Qg4 (cap:=some ⟨p,0,none⟩) ?_
 unfold QdI
 have H1:=H.ats
 unfold QaI QbV at H1
 refine nn (Qac H1 0 rfl a.sg rfl (Qi5 H1 1 rfl rfl hj fun e he=>Qj8 H1 1 rfl he hj ?_))
 refine QgB ?_
 unfold Qds
 obtain⟨n,hn9⟩:=List.getElem?_of_mem (List.mem_append_right (QbV a) (List.mem_append_right (Qb9 dk dty ds q.b q.n) (hF _ hp)))
 refine ld9B (m:=m) (sm:=sm) H.ats n hn9 ?_
 have B2:=(QhA B hm u.ni.c1).up (Nat.le_succ S) (Nat.le_refl _)
 refine Qjf (o:=0) H (A.ents (hh _ (List.mem_singleton.2 rfl))) B hm (Nat.zero_le _) fun h2 H=> ?_
 refine Qkr (e:=0) (Y:=Qaa X m) I hq hX rfl A hn hj B2 back1 back0 hR H rfl fun f1 f2=> ?_
 exact Qkq H rfl hj A B2.l B2.ld B2.f (I.seat i q hq).len (I.zl hn) (by have:=B2.o;omega) f1 f2
theorem fall_core{a:GA}{d dk:Nat}{dty:TypeId}{ds:Sl}{b:List UInt8}{n:Nat}{i':Int}{R:Heap->Prop}(H:RaftAt h0 h d X (QaI a dk dty ds b n O))(hi:i'=(i:Int))(hj:a.sts[i]? =some (dk,some d))(hnb:n<=b.length)(hb:b.length<=1048576)
  (hR:∀h' ds',RaftAt h0 h' d X (QaI {a with sts:=a.sts.set i (dk,none)} dk dty ds' (Qc3 b n s.keep s.at_ s.by_) n O)->R h'):QbA (some ⟨a.gp,0,none⟩) i' (s.kind,s.node,s.i,s.draw,s.keep,s.at_,(s.by_.toNat:Int),s.data,()) h R:=by
 refine QjW ?_
 unfold Qfx
 obtain⟨L,H,back⟩:=H.aside
 unfold QaI QbV at H
 refine Qaj (cs:=stS s) H fun h1 p H=>nn (Qac H 1 rfl a.sg rfl (Qi5 H 2 rfl hi hj fun e he=> ?_))
 obtain⟨hl2,hje⟩:=List.getElem?_eq_some_iff.1 hj
 refine stEl (E:=eST) (j:=1) (dk,none) H 2 rfl he hl2 rfl (by rw[hje];rfl) fun h2 H=>nn (Qac H 1 rfl a.sg rfl ?_)
 have hj2:(a.sts.set i (dk,none))[i]? =some (dk,none):=List.getElem?_set_self hl2
 refine Qi5 (a:={a with sts:=a.sts.set i (dk,none)}) H 2 rfl hi hj2 fun e he=>QlY (a:={a with sts:=a.sts.set i (dk,none)}) H 2 rfl he hj2 ?_
 refine Qap (j:=4) H 0 rfl s.keep rfl (Qap (j:=5) H 0 rfl s.at_ rfl (Qap (j:=6) H 0 rfl (s.by_.toNat:Int) rfl ?_))
 refine disk_Crash_ok (d:=dk) (ty:=dty) (s:=ds) (b:=b) (n:=n) (c:=s.by_) (H.mv 6 2) rfl hnb hb fun h3 ds' H=> ?_
 exact hR h3 ds' (back h3 _ ((H.del 2).mv 2 5))
theorem Qlb{i':Int}{R:Int->Heap->Prop}(H:GroupH h0 h gp G [] F)(I:GInv k g S G)(hi:i'=(i:Int))(hq:G.l[i]? =some q)(hX:q.node=none)(hR:∀h',GroupH h0 h' gp (QbW G i q).1 [] F->R (QbW G i q).2 h'):QcD (some ⟨gp,0,none⟩) i' h R:=by
 obtain⟨a,dk,dty,ds,O,hgp,hsg,hj,H2,back⟩:=H.stop hq hX
 subst hgp
 clear H
 have H:=H2
 have s:=I.seat i q hq
 obtain⟨st,T,vt,l,t⟩:=(s.down hX).tells
 have hik:=(s.down hX).ik
 have hk7:=I.k7
 refine QhP ?_
 unfold Qeh
 unfold QaI QbV at H
 refine nn (Qac H 0 rfl a.sg rfl (Qi5 H 1 rfl hi hj fun e he=>QlY H 1 rfl he hj ?_))
 refine Qla (d:=dk) (ty:=dty) (sd:=ds) (b:=q.b) (n:=q.n) (H.mv 5 2) s.len t.e1 fun tg vg sg eg code h1 hcode hat=> ?_
 obtain⟨ds',H⟩:=hat
 have hst:st=⟨tg,vg,eg⟩/\code=0:=by
  rcases hcode with⟨x,_⟩|⟨x,y⟩
  ·rw[t.play] at x;cases x
  ·rw[t.play] at x;injection x with x;exact⟨x,y⟩
 obtain⟨hst,rfl⟩:=hst
 rw[t.st_] at hst
 injection hst with hT hv he2
 subst hT hv he2
 refine Qaj (cs:= [.int .i64 0,.int .i64 0,.slice none 0 0]) H fun h2 p H=> ?_
 refine Qas H 0 rfl rfl fun h2 H=>Qa3 (j:=1) H 0 rfl rfl fun h2 H=>Qa3 (j:=2) H 0 rfl rfl fun h2 H=> ?_
 refine brN rfl (nn ?_)
 have H:At h0 h2 (.blk p 46 [.int .i64 T,.int .i64 vt,.slice sg.a sg.n sg.c]:: .own sg 2 (eEN.fl (l.map toE)):: .blk dk dty [.slice ds'.a ds'.n ds'.c,.int .i64 (((QdG q.b).2.1:Nat):Int)]:: .own ds' 1 (cB (q.b.take (QdG q.b).2.1)):: .blk a.gp a.tg [.slice a.sg.a a.sg.n a.sg.c,.pointer (some ⟨a.nb,0,none⟩)]:: .own a.sg 2 (eST.fl a.sts):: .blk a.nb a.tn [.slice a.sn.a a.sn.n a.sn.c]:: .own a.sn 9 (eMS.fl a.z)::Qk9 a.bs::O):=H
 refine Qac H 4 rfl a.sg rfl (nn (Qac H 4 rfl a.sg rfl ?_))
 refine Qac H 0 rfl T rfl (Qap (j:=1) H 0 rfl vt rfl (Qap (j:=2) H 0 rfl sg rfl ?_))
 have hlen:=I.len
 rw[hi]
 have hr:RdS h2 2 sg (eRE.fl l):=by rw[fl_toE];exact H.rdo 1 rfl
 have hok:=t.r.okS
 refine Ql7 (At.start h2) hr (by have:=t.r.n;omega) (fun hbad=>absurd hbad (by omega)) (fun hno=>absurd hok hno) fun _ _ h3 d H3=> ?_
 rw[hsg] at H3
 obtain⟨ty,lg,tl,sl,so,z,hz,H3⟩:=H3
 have hz0:z= []:=List.map_eq_nil_iff.1 hz
 subst hz0
 have H:At h0 h3 (Qhw d ty lg tl sl so (Ql9 i G.l.length 4 2 T vt l) []++(.blk p 46 [.int .i64 T,.int .i64 vt,.slice sg.a sg.n sg.c]:: .own sg 2 (eEN.fl (l.map toE)):: .blk dk dty [.slice ds'.a ds'.n ds'.c,.int .i64 (((QdG q.b).2.1:Nat):Int)]:: .own ds' 1 (cB (q.b.take (QdG q.b).2.1)):: .blk a.gp a.tg [.slice a.sg.a a.sg.n a.sg.c,.pointer (some ⟨a.nb,0,none⟩)]:: .own a.sg 2 (eST.fl a.sts):: .blk a.nb a.tn [.slice a.sn.a a.sn.n a.sn.c]:: .own a.sn 9 (eMS.fl a.z)::Qk9 a.bs::O)):=H.join H3
 unfold Qhw at H
 refine⟨Qac H 8 rfl a.sg rfl rfl,Qi5 H 9 rfl rfl hj fun e he=> ?_⟩
 obtain⟨hl2,hje⟩:=List.getElem?_eq_some_iff.1 hj
 refine stEl (E:=eST) (j:=1) (dk,some d) H 9 rfl he hl2 rfl (by rw[hje];rfl) fun h4 H=> ?_
 have hres:QbW G i q=(⟨G.l.set i ⟨some (Ql9 i G.l.length 4 2 T vt l),q.b.take (QdG q.b).2.1,(QdG q.b).2.1⟩,G.net⟩,0):=by
  unfold QbW
  rw[t.play]
  simp only
  rw[t.st_,QmF]
 have:=hR h4
 rw[hres] at this
 refine this (back h4 {a with sts:=a.sts.set i (dk,some d)} ds' _ _ _ d rfl rfl rfl rfl rfl ⟨ty,lg,tl,sl,so,[],rfl, ?_⟩)
 rw[show Qfb []= [] from rfl,List.append_nil]
 exact(((H.del 4).del 4).mv 6 5).mv 5 4
end
end
section
open Go
theorem Qmk{α β:Type}(f:α->β):∀(l:List α) (i:Nat),(l.eraseIdx i).map f=(l.map f).eraseIdx i
 | [],_=>rfl
 |_::_,0=>rfl
 |a::l,i+1=>by rw[List.eraseIdx_cons_succ,List.map_cons,List.map_cons,List.eraseIdx_cons_succ,Qmk f l i]
section
variable {h0 h:Heap}{F L:List Res}{gp k S:Nat}{g:GH}{G:GS}{q:GN}{X:RN}{a:GA}{s:ST}
theorem Len_core{R:Int->Heap->Prop}(H:At h0 h (QbV a++L))(hR:R (a.sts.length:Int) h):QbL (some ⟨a.gp,0,none⟩) h R:=by
 refine Qgc ?_
 unfold QdR
 have hn:=H.n (E:=eST) 1 rfl
 refine brF (nn (Qac H 0 rfl a.sg rfl ?_))
 rw[hn];exact hR
theorem is_core{i:Int}{R:Bool->Heap->Prop}(H:At h0 h (QbV a++L))(hR:R (decide (0<=i/\i<a.sts.length)) h):QbS (some ⟨a.gp,0,none⟩) i h R:=by
 refine Qlo ?_
 unfold QgR
 refine brD (fun h1=>Len_core H ?_) fun h1=> ?_
 ·have e:decide (0<=i/\i<(a.sts.length:Int))=decide (i<(a.sts.length:Int)):=by rw[decide_eq_decide];exact⟨fun x=>x.2,fun x=>⟨h1,x⟩⟩
  rw[e] at hR;exact hR
 ·rw[decide_eq_false (fun x=>h1 x.1)] at hR;exact hR
theorem Node_core{i:Int}{R:Option Addr->Heap->Prop}(H:At h0 h (QbV a++L))(h1:(i<0\/(a.sts.length:Int)<=i)->R none h)(h2:∀(j:Nat) st,i=j->a.sts[j]? =some st->R (pOf st.2) h):QaE (some ⟨a.gp,0,none⟩) i h R:=by
 refine QjX ?_
 unfold Qfy
 refine is_core H (brNot (fun h3=>h1 ?_) fun h3=> ?_)
 ·rw[decide_eq_false_iff_not] at h3;omega
 ·rw[decide_eq_true_iff] at h3
  obtain⟨j,rfl⟩:∃j:Nat,i=j:=⟨i.toNat,by omega⟩
  have hj:a.sts[j]? =some (a.sts[j]'(by omega)):=List.getElem?_eq_getElem (by omega)
  refine nn (Qac H 0 rfl a.sg rfl (Qi5 H 1 rfl rfl hj fun e he=>Qj8 H 1 rfl he hj ?_))
  exact h2 j _ rfl hj
theorem Disk_core{i:Int}{R:Option Addr->Heap->Prop}(H:At h0 h (QbV a++L))(h1:(i<0\/(a.sts.length:Int)<=i)->R none h)(h2:∀(j:Nat) st,i=j->a.sts[j]? =some st->R (some ⟨st.1,0,none⟩) h):QdE (some ⟨a.gp,0,none⟩) i h R:=by
 refine QjY ?_
 unfold Qfz
 refine is_core H (brNot (fun h3=>h1 ?_) fun h3=> ?_)
 ·rw[decide_eq_false_iff_not] at h3;omega
 ·rw[decide_eq_true_iff] at h3
  obtain⟨j,rfl⟩:∃j:Nat,i=j:=⟨i.toNat,by omega⟩
  have hj:a.sts[j]? =some (a.sts[j]'(by omega)):=List.getElem?_eq_getElem (by omega)
  refine nn (Qac H 0 rfl a.sg rfl (Qi5 H 1 rfl rfl hj fun e he=>QlY H 1 rfl he hj ?_))
  exact h2 j _ rfl hj
def Qg7(G:GS)(i:Int):Option RN:=if i<0 then none else(G.l[i.toNat]?).bind (·.node)
theorem Qge(G:GS)(j:Nat):Qg7 G (j:Int)=(G.l[j]?).bind (·.node):=by
 unfold Qg7;rw[if_neg (by omega),Int.toNat_natCast]
theorem GroupH.node{hold:List (Sl×List RE)}{i:Int}{R:Option Addr->Heap->Prop}(H:GroupH h0 h gp G hold F)(hR:∀x:Option Addr,x.isNone=(Qg7 G i).isNone->R x h):QaE (some ⟨gp,0,none⟩) i h R:=by
 obtain⟨a,ss,rfl,h2,h3,h4,A,h5,h6,H⟩:=H
 refine Node_core H (fun hb=>hR none ?_) fun j st hij hst=>hR _ ?_
 ·unfold Qg7
  split
  ·rfl
  ·rw[List.getElem?_eq_none (by rw[h3,List.length_map];rw[h2,List.length_map] at hb;omega)];rfl
 ·rw[hij,Qge,h3]
  rw[h2,List.getElem?_map] at hst
  rw[List.getElem?_map]
  obtain⟨x,hx,rfl⟩:=Option.map_eq_some_iff.1 hst
  rw[hx]
  show(pOf (x.nd.map (·.d))).isNone=(x.nd.map (·.X)).isNone
  unfold pOf
  cases x.nd<;>rfl
theorem GroupH.is{hold:List (Sl×List RE)}{i:Int}{R:Bool->Heap->Prop}(H:GroupH h0 h gp G hold F)(hR:R (decide (0<=i/\i<G.l.length)) h):QbS (some ⟨gp,0,none⟩) i h R:=by
 obtain⟨a,ss,rfl,h2,h3,h4,A,h5,h6,H⟩:=H
 refine is_core H ?_
 rw[h3,List.length_map] at hR
 rw[h2,List.length_map];exact hR
theorem GroupH.mono{hold hold':List (Sl×List RE)}{F':List Res}(H:GroupH h0 h gp G hold F)(hh:∀x∈hold',x∈hold)(hF:F'.Sublist F):GroupH h0 h gp G hold' F':=by
 obtain⟨a,ss,h1,h2,h3,h4,A,h5,h6,H⟩:=H
 exact⟨a,ss,h1,h2,h3,h4,A,h5,fun x hx=>h6 x (hh x hx),H.sub (List.Sublist.append_left (List.Sublist.append_left hF _) _)⟩
theorem GroupH.tail{hold:List (Sl×List RE)}{r:Res}(H:GroupH h0 h gp G hold (r::F)):GroupH h0 h gp G hold F:=H.mono (fun x h=>h) (List.sublist_cons_self ..)
theorem GroupH.free{hold:List (Sl×List RE)}(H:GroupH h0 h gp G hold F):GroupH h0 h gp G [] F:=H.mono (fun x h=>by cases h) (List.Sublist.refl _)
theorem GroupH.un{hold:List (Sl×List RE)}(H:GroupH h0 h gp G hold F):∃L,At h0 h (F++L)/\∀(h':Heap) (F':List Res),At h0 h' (F'++L)->GroupH h0 h' gp G hold F':=by
 obtain⟨a,ss,h1,h2,h3,h4,A,h5,h6,H⟩:=H
 have p:∀F':List Res,(QbV a++(ss.flatMap QcS++F')).Perm (F'++(QbV a++ss.flatMap QcS)):=fun F'=>by
  rw[<-List.append_assoc];exact List.perm_append_comm
 exact⟨_,H.perm (p F),fun h' F' H'=>⟨a,ss,h1,h2,h3,h4,A,h5,h6,H'.perm (p F').symm⟩⟩
theorem GroupH.alloc{hold:List (Sl×List RE)}{t:TypeId}{cs:List Value}{K:Addr->Heap->Prop}(H:GroupH h0 h gp G hold F)(hk:∀h' b,GroupH h0 h' gp G hold (.blk b t cs::F)->K ⟨b,0,none⟩ h'):QaG h (.cells cs.toArray t) K:=by
 obtain⟨L,H,back⟩:=H.un
 exact Qaj H fun h' b H=>hk h' b (back h' _ H)
theorem GroupH.ldF{hold:List (Sl×List RE)}{kd:Kd}{b j:Nat}{t:TypeId}{cs:List Value}{K:kd.T->Prop}(H:GroupH h0 h gp G hold (.blk b t cs::F))(x:kd.T)(hx:cs[j]? =some (kd.mk x))(hK:K x):Ld kd h ((⟨b,0,none⟩:Addr).add j) K:=by
 obtain⟨L,H,back⟩:=H.un
 exact Qap H 0 rfl x hx hK
theorem GroupH.ldF0{hold:List (Sl×List RE)}{kd:Kd}{b:Nat}{t:TypeId}{cs:List Value}{K:kd.T->Prop}(H:GroupH h0 h gp G hold (.blk b t cs::F))(x:kd.T)(hx:cs[0]? =some (kd.mk x))(hK:K x):Ld kd h (⟨b,0,none⟩:Addr) K:=by
 obtain⟨L,H,back⟩:=H.un
 exact Qac H 0 rfl x hx hK
theorem GroupH.st9{hold:List (Sl×List RE)}{b:Nat}{t:TypeId}{m m':RM}{sm sm':Sl}{K:Heap->Prop}(H:GroupH h0 h gp G hold (.blk b t (mcS m' sm')::F))(hK:∀h',GroupH h0 h' gp G hold (.blk b t (mcS m sm)::F)->K h'):
  St h (⟨b,0,none⟩:Addr) (.int .i64 m.kind) fun h1=>St h1 ((⟨b,0,none⟩:Addr).add 1) (.int .i64 m.from_) fun h2=>St h2 ((⟨b,0,none⟩:Addr).add 2) (.int .i64 m.to) fun h3=>St h3 ((⟨b,0,none⟩:Addr).add 3) (.int .i64 m.term) fun h4=>St h4 ((⟨b,0,none⟩:Addr).add 4) (.int .i64 m.index) fun h5=>St h5 ((⟨b,0,none⟩:Addr).add 5) (.int .i64 m.logTerm) fun h6=>St h6 ((⟨b,0,none⟩:Addr).add 6) (.int .i64 m.commit) fun h7=>St h7 ((⟨b,0,none⟩:Addr).add 7) (.bool m.yes) fun h8=>St h8 ((⟨b,0,none⟩:Addr).add 8) (.slice sm.a sm.n sm.c) K:=by
 obtain⟨L,H,back⟩:=H.un
 exact st9B H fun h' H'=>hK h' (back h' _ H')
theorem GroupH.ld9{hold:List (Sl×List RE)}{b:Nat}{t:TypeId}{m:RM}{sm:Sl}{K:Int->Int->Int->Int->Int->Int->Int->Bool->Sl->Prop}(H:GroupH h0 h gp G hold (.blk b t (mcS m sm)::F))(hK:K m.kind m.from_ m.to m.term m.index m.logTerm m.commit m.yes sm):
  Ld (.int .i64) h (⟨b,0,none⟩:Addr) fun(a0:Int)=>Ld (.int .i64) h ((⟨b,0,none⟩:Addr).add 1) fun(a1:Int)=>Ld (.int .i64) h ((⟨b,0,none⟩:Addr).add 2) fun(a2:Int)=>Ld (.int .i64) h ((⟨b,0,none⟩:Addr).add 3) fun(a3:Int)=>Ld (.int .i64) h ((⟨b,0,none⟩:Addr).add 4) fun(a4:Int)=>Ld (.int .i64) h ((⟨b,0,none⟩:Addr).add 5) fun(a5:Int)=>Ld (.int .i64) h ((⟨b,0,none⟩:Addr).add 6) fun(a6:Int)=>Ld .bool h ((⟨b,0,none⟩:Addr).add 7) fun(a7:Bool)=>Ld .sl h ((⟨b,0,none⟩:Addr).add 8) fun(a8:Sl)=>K a0 a1 a2 a3 a4 a5 a6 a7 a8:=by
 obtain⟨L,H,back⟩:=H.un
 exact ld9B H 0 rfl hK
theorem GroupH.ld8{hold:List (Sl×List RE)}{b:Nat}{t:TypeId}{K:Int->Int->Int->Int->Int->Int->Int->ByteArray->Prop}(H:GroupH h0 h gp G hold (.blk b t (stS s)::F))(hK:K s.kind s.node s.i s.draw s.keep s.at_ (s.by_.toNat:Int) s.data):
  Ld (.int .i64) h (⟨b,0,none⟩:Addr) fun(a0:Int)=>Ld (.int .i64) h ((⟨b,0,none⟩:Addr).add 1) fun(a1:Int)=>Ld (.int .i64) h ((⟨b,0,none⟩:Addr).add 2) fun(a2:Int)=>Ld (.int .i64) h ((⟨b,0,none⟩:Addr).add 3) fun(a3:Int)=>Ld (.int .i64) h ((⟨b,0,none⟩:Addr).add 4) fun(a4:Int)=>Ld (.int .i64) h ((⟨b,0,none⟩:Addr).add 5) fun(a5:Int)=>Ld (.int .u8) h ((⟨b,0,none⟩:Addr).add 6) fun(a6:Int)=>Ld .str h ((⟨b,0,none⟩:Addr).add 7) fun(a7:ByteArray)=>K a0 a1 a2 a3 a4 a5 a6 a7:=
 H.ldF0 s.kind rfl (H.ldF (j:=1) s.node rfl (H.ldF (j:=2) s.i rfl (H.ldF (j:=3) s.draw rfl (H.ldF (j:=4) s.keep rfl (H.ldF (j:=5) s.at_ rfl (H.ldF (j:=6) (s.by_.toNat:Int) rfl (H.ldF (j:=7) s.data rfl hK)))))))
theorem GroupH.take{hold:List (Sl×List RE)}{i:Int}{R:KL [.int .i64,.int .i64,.int .i64,.int .i64,.int .i64,.int .i64,.int .i64,.bool,.sl]->Int->Heap->Prop}(H:GroupH h0 h gp G hold F)(hc:G.net.length<=512)
  (h1:(i<0\/(G.net.length:Int)<=i)->∀h',GroupH h0 h' gp G hold F->R (0,0,0,0,0,0,0,false,⟨none,0,0⟩,()) 6 h')
  (h2:∀(j:Nat) m,i=j->G.net[j]? =some m->∀sm h',GroupH h0 h' gp ⟨G.l,G.net.eraseIdx j⟩ [(sm,m.ents)] F->R (m.kind,m.from_,m.to,m.term,m.index,m.logTerm,m.commit,m.yes,sm,()) 0 h'):
  Nn (some (⟨gp,0,none⟩:Addr)) fun p1=>Ld .ptr h (p1.add 1) fun(net:Option Addr)=>QaJ net i h R:=by
 obtain⟨a,ss,rfl,e2,e3,e4,A,e5,e6,H⟩:=H
 have hl:a.z.length=G.net.length:=by rw[e4,List.length_map]
 refine nn (Qap (j:=1) H 0 rfl (some ⟨a.nb,0,none⟩) rfl ?_)
 unfold QbV at H
 refine QiG (z:=a.z) (H.mv 2 2) (by omega) (fun hb h' H=> ?_) fun j hj hjl h' sn' H=> ?_
 ·exact h1 (by omega) h' ⟨a,ss,rfl,e2,e3,e4,A,e5,e6,H.mv 2 2⟩
 ·have hm:G.net[j]? =some a.z[j].1:=by rw[e4,List.getElem?_map,List.getElem?_eq_getElem hjl];rfl
  have hmem:=A.ent _ (List.getElem_mem hjl)
  refine h2 j _ hj hm a.z[j].2 h' ⟨{a with sn:=sn',z:=a.z.eraseIdx j},ss,rfl,e2,e3, ?_,⟨fun q hq=>A.ent q (List.mem_of_mem_eraseIdx hq),A.nc⟩,e5,fun x hx=> ?_,H.mv 2 2⟩
  ·show G.net.eraseIdx j=_
   rw[e4,Qmk]
  ·rw[List.mem_singleton.1 hx];exact hmem
theorem GroupH.double{i:Int}{R:Int->Heap->Prop}(H:GroupH h0 h gp G [] F)(h1:(i<0\/(G.net.length:Int)<=i)->R 6 h)
  (h2:∀(j:Nat) m,i=j->G.net[j]? =some m->∀h',GroupH h0 h' gp (if G.net.length>=512 then G else⟨G.l,G.net++ [m]⟩) [] F->R (if G.net.length>=512 then 7 else 0) h'):
  Nn (some (⟨gp,0,none⟩:Addr)) fun p1=>Ld .ptr h (p1.add 1) fun(net:Option Addr)=>QaQ net i h R:=by
 obtain⟨a,ss,rfl,e2,e3,e4,A,e5,e6,H⟩:=H
 have hl:a.z.length=G.net.length:=by rw[e4,List.length_map]
 refine nn (Qap (j:=1) H 0 rfl (some ⟨a.nb,0,none⟩) rfl ?_)
 unfold QbV at H
 have hm:∀j,(hjl:j<a.z.length)->G.net[j]? =some a.z[j].1:=fun j hjl=>by rw[e4,List.getElem?_map,List.getElem?_eq_getElem hjl];rfl
 refine net_Double_ok (z:=a.z) (H.mv 2 2) (fun hb=>h1 (by omega)) (fun j hj hjl hfull h' H=> ?_) fun j hj hjl hroom h' sn' H=> ?_
 ·have:=h2 j _ hj (hm j hjl) h'
  rw[if_pos (by omega),if_pos (by omega)] at this
  exact this ⟨a,ss,rfl,e2,e3,e4,A,e5,e6,H.mv 2 2⟩
 ·have:=h2 j _ hj (hm j hjl) h'
  rw[if_neg (by omega),if_neg (by omega)] at this
  refine this ⟨{a with sn:=sn',z:=a.z++ [a.z[j]]},ss,rfl,e2,e3, ?_,⟨fun q hq=> ?_,A.nc⟩,e5,e6,H.mv 2 2⟩
  ·show G.net++ [_]=_
   rw[e4,List.map_append];rfl
  ·rcases List.mem_append.1 hq with hq|hq
   ·exact A.ent q hq
   ·rw[List.mem_singleton.1 hq];exact A.ent _ (List.getElem_mem hjl)
theorem deliver_ok{i:Int}{R:KL [.int .i64,.int .i64,.int .i64,.int .i64,.int .i64,.int .i64,.int .i64,.bool,.sl]->Int->Heap->Prop}(H:GroupH h0 h gp G [] F)(hc:G.net.length<=512)
  (h1:(i<0\/(G.net.length:Int)<=i)->∀h',GroupH h0 h' gp G [] F->R (0,0,0,0,0,0,0,false,⟨none,0,0⟩,()) 6 h')
  (h2:∀(j:Nat) m,i=j->G.net[j]? =some m->∀sm h',GroupH h0 h' gp ⟨G.l,G.net.eraseIdx j⟩ [(sm,m.ents)] F->R (m.kind,m.from_,m.to,m.term,m.index,m.logTerm,m.commit,m.yes,sm,()) (if(Qg7 G m.to).isNone then 12 else 0) h'):QcF (some ⟨gp,0,none⟩) i h R:=by
 refine QhR ?_
 unfold Qej
 refine H.alloc (cs:=mcS m0 ⟨none,0,0⟩) fun h p H=> ?_
 refine H.take hc (fun hb h H=> ?_) fun j m hj hm sm h H=> ?_
 ·refine H.alloc (cs:=mcS m0 ⟨none,0,0⟩) fun h b H=> ?_
  refine H.st9 (m:=m0) (sm:=⟨none,0,0⟩) fun h H=>brN rfl ?_
  refine H.ld9 (m:=m0) (sm:=⟨none,0,0⟩) ?_
  refine H.tail.st9 (m:=m0) (sm:=⟨none,0,0⟩) fun h H=> ?_
  refine H.ld9 (m:=m0) (sm:=⟨none,0,0⟩) ?_
  exact h1 hb h H.tail
 ·refine H.alloc (cs:=mcS m0 ⟨none,0,0⟩) fun h b H=> ?_
  refine H.st9 (m:=m) (sm:=sm) fun h H=>brY rfl ?_
  refine H.ldF (j:=2) m.to rfl ?_
  refine H.node fun x hx=> ?_
  have hx:x.isNone=(Qg7 G m.to).isNone:=hx
  refine brB (fun h3=> ?_) fun h3=> ?_
  ·refine H.ld9 (m:=m) (sm:=sm) ?_
   refine H.tail.st9 (m:=m) (sm:=sm) fun h H=> ?_
   refine H.ld9 (m:=m) (sm:=sm) ?_
   have:=h2 j m hj hm sm h H.tail
   rw[<-hx,if_pos h3] at this
   exact this
  ·refine H.ld9 (m:=m) (sm:=sm) ?_
   refine H.tail.st9 (m:=m) (sm:=sm) fun h H=> ?_
   refine H.ld9 (m:=m) (sm:=sm) ?_
   have:=h2 j m hj hm sm h H.tail
   rw[<-hx,if_neg (by rw[h3];decide)] at this
   exact this
end
end
section
open Go
variable {h0 h:Heap}{F L:List Res}{gp k S:Nat}{g:GH}{G:GS}{q:GN}{X:RN}{s:ST}
theorem GroupH.fall{i:Nat}{i':Int}{R:Heap->Prop}(H:GroupH h0 h gp G [] F)(I:GInv k g S G)(hi:i'=(i:Int))(hq:G.l[i]? =some q)(hX:q.node=some X)(hR:∀h',GroupH h0 h' gp ⟨G.l.set i ⟨none,Qc3 q.b q.n s.keep s.at_ s.by_,q.n⟩,G.net⟩ [] F->R h'):
  QbA (some ⟨gp,0,none⟩) i' (s.kind,s.node,s.i,s.draw,s.keep,s.at_,(s.by_.toNat:Int),s.data,()) h R:=by
 obtain⟨a,d,dk,dty,ds,O,hgp,A,hn,_,hj,ho,H2,hF,back1,back0⟩:=H.run hq hX
 subst hgp
 have u:=(I.seat i q hq).up X hX
 refine fall_core (s:=s) H2 hi hj (by rw[u.n];exact Nat.le_refl _) (I.seat i q hq).len fun h' ds' H'=>hR h' ?_
 have:=back0 h' {a with sts:=a.sts.set i (dk,none)} ds' X _ _ rfl rfl ⟨A.ent,A.nc⟩ H'
 rw[hn];exact this
theorem group_node_ok{R:Int->Heap->Prop}(H:GroupH h0 h gp G [] F)(I:GInv k g S G)(hS:S<=1000000000)(hR:∀h',GroupH h0 h' gp (Qld G s).1 [] F->R (Qld G s).2 h'):
  QdC (some ⟨gp,0,none⟩) (s.kind,s.node,s.i,s.draw,s.keep,s.at_,(s.by_.toNat:Int),s.data,()) h R:=by
 refine QjV ?_
 unfold Qfw
 refine H.alloc (cs:=stS s) fun h p H=>H.ldF (j:=1) s.node rfl ?_
 refine H.node fun x hx=>QbF ?_
 unfold Qld at hR
 by_cases h1:s.node<0
 ·rw[if_pos h1] at hR
  refine Qg3 (fun _=>False) (fun _ _ hJ=>hJ.elim) ?_
  refine H.ldF (j:=1) s.node rfl (H.is ?_)
  rw[decide_eq_false (by omega)]
  exact brY rfl (hR h H.tail)
 rw[if_neg h1] at hR
 obtain⟨i,hi⟩:∃i:Nat,s.node=i:=⟨s.node.toNat,by omega⟩
 rw[show s.node.toNat=i by omega] at hR
 rw[hi,Qge] at hx
 cases hq:G.l[i]? with
 |none=>
  rw[hq] at hR
  have:=List.getElem?_eq_none_iff.1 hq
  refine Qg3 (fun _=>False) (fun _ _ hJ=>hJ.elim) ?_
  refine H.ldF (j:=1) s.node rfl (H.is ?_)
  rw[decide_eq_false (by omega)]
  exact brY rfl (hR h H.tail)
 |some q=>
  rw[hq] at hR hx
  have hil:=(List.getElem?_eq_some_iff.1 hq).1
  cases hX:q.node with
  |none=>
   rw[Option.bind_some,hX] at hx
   simp only[hX] at hR
   have hx:x.isNone=true:=hx
   refine Qg3 (fun _=>False) (fun _ _ hJ=>hJ.elim) ?_
   refine H.ldF (j:=1) s.node rfl (H.is ?_)
   rw[decide_eq_true (show 0<=s.node/\s.node<(G.l.length:Int) by omega)]
   refine brN rfl ?_
   rw[hx]
   refine Qg2 (s1:= .one .bool) (fun(b:Bool) h1=>b=false/\GroupH h0 h1 gp G [] (.blk p 30 (stS s)::F)) (fun _ (b:Bool) h1 hJ=> ?_) ?_
   ·obtain⟨rfl,H⟩:=hJ
    refine brN rfl (H.ldF0 s.kind rfl (br beq_iff_eq (fun h7=> ?_) fun h7=> ?_))
    ·rw[if_pos h7] at hR
     refine H.ldF (j:=1) s.node rfl ?_
     exact Qlb H I hi hq hX fun h' H=>hR h' H.tail
    ·rw[if_neg h7] at hR
     exact brY rfl (hR _ H.tail)
   ·exact H.ldF0 s.kind rfl (br beq_iff_eq (fun h7=>⟨rfl,H⟩) fun h7=>⟨rfl,H⟩)
  |some X=>
   rw[Option.bind_some,hX] at hx
   simp only[hX] at hR
   have hx:x.isNone=false:=hx
   refine Qg3 (fun h1=>(s.kind≠7/\s.kind≠1/\s.kind≠5)/\GroupH h0 h1 gp G [] (.blk p 30 (stS s)::F)) (fun _ h1 hJ=> ?_) ?_
   ·obtain⟨hk,H⟩:=hJ
    rw[if_neg hk.1,if_neg hk.2.1,if_neg hk.2.2] at hR
    refine H.ldF (j:=1) s.node rfl (H.ld8 ?_)
    exact GroupH.fall (s:=s) H I hi hq hX fun h' H=>hR h' H.tail
   ·refine H.ldF (j:=1) s.node rfl (H.is ?_)
    rw[decide_eq_true (show 0<=s.node/\s.node<(G.l.length:Int) by omega)]
    refine brN rfl ?_
    rw[hx]
    refine Qg2 (s1:= .one .bool) (fun(b:Bool) h1=>(b=true↔s.kind=7)/\GroupH h0 h1 gp G [] (.blk p 30 (stS s)::F)) (fun _ (b:Bool) h1 hJ=> ?_) ?_
    ·obtain⟨hb,H⟩:=hJ
     refine brB (fun h2=> ?_) fun h2=> ?_
     ·rw[if_pos (hb.1 h2)] at hR
      exact hR _ H.tail
     ·have h7:s.kind≠7:=fun e=>by rw[hb.2 e] at h2;cases h2
      rw[if_neg h7] at hR
      refine H.ldF0 s.kind rfl (br beq_iff_eq (fun e=>absurd e h7) fun _=>brN rfl ?_)
      refine H.ldF0 s.kind rfl (br beq_iff_eq (fun h3=> ?_) fun h3=> ?_)
      ·rw[if_pos h3] at hR
       refine H.ldF (j:=1) s.node rfl ?_
       rw[hi]
       exact comes_tick_ok (s:=s) H I hS hq hX (List.mem_cons_self ..) fun h' H=>hR h' H.tail
      ·rw[if_neg h3] at hR
       refine H.ldF0 s.kind rfl (br beq_iff_eq (fun h4=> ?_) fun h4=>⟨⟨h7,h3,h4⟩,H⟩)
       rw[if_pos h4] at hR
       refine H.ldF (j:=1) s.node rfl ?_
       rw[hi]
       exact Qlf (s:=s) H I hq hX (List.mem_cons_self ..) fun h' H=>hR h' H.tail
    ·exact H.ldF0 s.kind rfl (br beq_iff_eq (fun h7=>⟨⟨fun _=>h7,fun _=>rfl⟩,H⟩) fun h7=>⟨⟨fun x=>(by cases x),fun x=>absurd x h7⟩,H⟩)
theorem torn_core{i:Nat}{m:RM}{sm:Sl}{R:Heap->Prop}{p:Nat}{t:TypeId}(H:GroupH h0 h gp G [(sm,m.ents)] (.blk p t (mcS m sm)::F))(I:GInv k g S G)(hi:m.to=(i:Int))(hq:G.l[i]? =some q)(hX:q.node=some X)(hm:BM m)
    (hR:∀h',GroupH h0 h' gp ⟨G.l.set i ⟨none,Qc3 (wrM q.b (Qav (Qaa X m))).1 q.n s.keep s.at_ s.by_,q.n⟩,G.net⟩ [] (.blk p t (mcS m sm)::F)->R h') {p2:Nat} {t2:TypeId} (hp2:Res.blk p2 t2 (stS s)∈F):
    Nn (some (⟨gp,0,none⟩:Addr)) fun p4=>
          Ld .sl h p4 fun(l:Sl)=>
          Ld (.int .i64) h ((⟨p,0,none⟩:Addr).add 2) fun(To1:Int)=>
          Ix l To1 2 fun e1=>
          Ld .ptr h (e1.add 1) fun(node:Option Addr)=>
          Ld (.int .i64) h (⟨p,0,none⟩:Addr) fun(x_Kind:Int)=>
          Ld (.int .i64) h ((⟨p,0,none⟩:Addr).add 1) fun(x_From:Int)=>
          Ld (.int .i64) h ((⟨p,0,none⟩:Addr).add 2) fun(x_To:Int)=>
          Ld (.int .i64) h ((⟨p,0,none⟩:Addr).add 3) fun(x_Term:Int)=>
          Ld (.int .i64) h ((⟨p,0,none⟩:Addr).add 4) fun(x_Index:Int)=>
          Ld (.int .i64) h ((⟨p,0,none⟩:Addr).add 5) fun(x_LogTerm:Int)=>
          Ld (.int .i64) h ((⟨p,0,none⟩:Addr).add 6) fun(x_Commit:Int)=>
          Ld .bool h ((⟨p,0,none⟩:Addr).add 7) fun(x_Yes:Bool)=>
          Ld .sl h ((⟨p,0,none⟩:Addr).add 8) fun(x_Entries:Sl)=>
          Qch node (x_Kind,x_From,x_To,x_Term,x_Index,x_LogTerm,x_Commit,x_Yes,x_Entries,()) h fun h_37=>
          Ld (.int .i64) h_37 ((⟨p,0,none⟩:Addr).add 2) fun(To2:Int)=>
          QaZ (some (⟨gp,0,none⟩:Addr)) To2 h_37 fun(r8:Int) h_38=>
          Ld (.int .i64) h_38 ((⟨p,0,none⟩:Addr).add 2) fun(To3:Int)=>
          Ld (.int .i64) h_38 (⟨p2,0,none⟩:Addr) fun(x_Kind1:Int)=>
          Ld (.int .i64) h_38 ((⟨p2,0,none⟩:Addr).add 1) fun(x_Node:Int)=>
          Ld (.int .i64) h_38 ((⟨p2,0,none⟩:Addr).add 2) fun(x_I:Int)=>
          Ld (.int .i64) h_38 ((⟨p2,0,none⟩:Addr).add 3) fun(x_Draw:Int)=>
          Ld (.int .i64) h_38 ((⟨p2,0,none⟩:Addr).add 4) fun(x_Keep:Int)=>
          Ld (.int .i64) h_38 ((⟨p2,0,none⟩:Addr).add 5) fun(x_At:Int)=>
          Ld (.int .u8) h_38 ((⟨p2,0,none⟩:Addr).add 6) fun(x_By:Int)=>
          Ld .str h_38 ((⟨p2,0,none⟩:Addr).add 7) fun(x_Data:ByteArray)=>
          QbA (some (⟨gp,0,none⟩:Addr)) To3 (x_Kind1,x_Node,x_I,x_Draw,x_Keep,x_At,x_By,x_Data,()) h_38 fun h_39=>
          R h_39:=by
  obtain⟨a,d,dk,dty,ds,O,hgp,A,hn,hh,hj,ho,H2,hF,back1,back0⟩:=H.run hq hX
  subst hgp
  clear H
  have H:=H2
  have u:=(I.seat i q hq).up X hX
  have B:=u.bn
  have s0:=I.seat i q hq
  have hpm:=hF _ (List.mem_cons_self ..)
  have hps:=hF _ (List.mem_cons_of_mem _ hp2)
  have mem:∀{ds':Sl} {b':List UInt8} {n':Nat} {r:Res},r∈O->r∈QaI a dk dty ds' b' n' O:=fun h=>List.mem_append_right _ (List.mem_append_right _ h)
  have H1:=H.ats
  unfold QaI QbV at H1
  refine nn (Qac H1 0 rfl a.sg rfl (Qkk (j:=2) H (mem hpm) m.to rfl (Qi5 H1 1 rfl hi hj fun e he=>Qj8 H1 1 rfl he hj ?_)))
  obtain⟨n,hn9⟩:=List.getElem?_of_mem (mem (ds':=ds) (b':=q.b) (n':=q.n) hpm)
  refine ld9B (m:=m) (sm:=sm) H.ats n hn9 ?_
  have B2:=QhA B hm u.ni.c1
  refine Qjf (o:=0) H (A.ents (hh _ (List.mem_singleton.2 rfl))) B hm (Nat.zero_le _) fun h2 H=> ?_
  refine Qkk (j:=2) H (mem hpm) m.to rfl ?_
  refine Qiq H hi hj B2.l B2.ld B2.f s0.len fun h3 ds' H=> ?_
  refine Qkk (j:=2) H (mem hpm) m.to rfl ?_
  have ld0:∀{kd:Kd} {K:kd.T->Prop} (x:kd.T),(stS s)[0]? =some (kd.mk x)->K x->Ld kd h3 (⟨p2,0,none⟩:Addr) K:=fun x hx hK=>Qkk (j:=0) H (mem hps) x hx hK
  refine ld0 (kd:= .int .i64) s.kind rfl (Qkk (j:=1) H (mem hps) s.node rfl (Qkk (j:=2) H (mem hps) s.i rfl (Qkk (j:=3) H (mem hps) s.draw rfl (Qkk (j:=4) H (mem hps) s.keep rfl (Qkk (j:=5) H (mem hps) s.at_ rfl (Qkk (j:=6) H (mem hps) (s.by_.toNat:Int) rfl (Qkk (j:=7) H (mem hps) s.data rfl ?_)))))))
  obtain⟨j0,w1,w2,w3,w4⟩:=QiY (Qav (Qaa X m)) q.b
  refine fall_core (s:=s) H hi hj ?_ (w4 s0.len) fun h4 ds2 H=>hR h4 ?_
  · rw[w2,List.length_append,u.n];omega
  · have:=back0 h4 {a with sts:=a.sts.set i (dk,none)} ds2 _ _ _ rfl rfl ⟨A.ent,A.nc⟩ H
    rw[hn];exact this
theorem Qlc{R:Int->Heap->Prop}(H:GroupH h0 h gp G [] F)(I:GInv k g S G)(hk:s.kind=2\/s.kind=3\/s.kind=4\/s.kind=8)(hR:∀h',GroupH h0 h' gp (gMsg G s).1 [] F->R (gMsg G s).2 h'):
  QcE (some ⟨gp,0,none⟩) (s.kind,s.node,s.i,s.draw,s.keep,s.at_,(s.by_.toNat:Int),s.data,()) h R:=by
 refine QhQ ?_
 unfold Qei
 refine H.alloc (cs:=stS s) fun h p H=>H.ldF0 s.kind rfl ?_
 unfold gMsg at hR
 have hc:=I.cap
 have bad:(s.i<0\/(G.net.length:Int)<=s.i)->∀h',GroupH h0 h' gp G [] F->R 6 h':=fun hb h' H=>by
  by_cases h1:s.i<0
  ·rw[if_pos h1] at hR;exact hR h' H
  ·rw[if_neg h1,List.getElem?_eq_none (by omega)] at hR;exact hR h' H
 have good:∀(j:Nat) m,s.i=j->G.net[j]? =some m->∀h',GroupH h0 h' gp (if s.kind=4 then(if G.net.length>=512 then(G,7) else(⟨G.l,G.net++ [m]⟩,0)) else if s.kind=3 then(⟨G.l,G.net.eraseIdx j⟩,0) else gCome ⟨G.l,G.net.eraseIdx j⟩ m s:GS×Int).1 [] F->
   R (if s.kind=4 then(if G.net.length>=512 then(G,7) else(⟨G.l,G.net++ [m]⟩,0)) else if s.kind=3 then(⟨G.l,G.net.eraseIdx j⟩,0) else gCome ⟨G.l,G.net.eraseIdx j⟩ m s:GS×Int).2 h':=fun j m hj hm h' H=>by
  rw[if_neg (by omega),show s.i.toNat=j by omega,hm] at hR
  exact hR h' H
 clear hR
 refine br beq_iff_eq (fun h4=>nn ?_) fun h4=> ?_
 ·have hd:Nn (some (⟨gp,0,none⟩:Addr)) fun p1=>Ld .ptr h (p1.add 1) fun(net:Option Addr)=>QaQ net s.i h fun r h_1=>R r h_1:=by
   refine H.double (fun hb=>bad hb _ H.tail) fun j m hj hm h' H=> ?_
   have:=good j m hj hm h'
   rw[if_pos h4] at this
   by_cases hf:G.net.length>=512
   ·rw[if_pos hf] at this H⊢
    exact this H.tail
   ·rw[if_neg hf] at this H⊢
    exact this H.tail
  obtain⟨_,e,hd⟩:=hd
  injection e with e
  subst e
  obtain⟨x,hx,hd⟩:=hd
  exact⟨x,hx,H.ldF (j:=2) s.i rfl hd⟩
 refine H.ldF0 s.kind rfl (br beq_iff_eq (fun h3=> ?_) fun h3=> ?_)
 ·refine Qg2 (s1:= .one (.int .i64)) (fun(e:Int) h1=>R e h1) (fun _ (e:Int) h1 hJ=>hJ) ?_
  obtain⟨a,ss,rfl,e2,e3,e4,A,e5,e6,HA⟩:=H
  have hl:a.z.length=G.net.length:=by rw[e4,List.length_map]
  have hmem:∀{A B:List Res},Res.blk p 30 (stS s)∈A++(B++(.blk p 30 (stS s)::F)):=List.mem_append_right _ (List.mem_append_right _ (List.mem_cons_self ..))
  have ldp:∀{h1:Heap} {L:List Res} {K:Int->Prop},At h0 h1 L->Res.blk p 30 (stS s)∈L->K s.i->Ld (.int .i64) h1 ((⟨p,0,none⟩:Addr).add 2) K:=fun H hm hK=>Go.Proofs.YtniojdaddolnfaaGreat.ldF (H.ok _ hm) s.i rfl hK
  have finb:(s.i<0\/(G.net.length:Int)<=s.i)->∀h',At h0 h' (QbV a++(ss.flatMap QcS++(.blk p 30 (stS s)::F)))->R 6 h':=fun hb h' H=>bad hb h' (GroupH.tail ⟨a,ss,rfl,e2,e3,e4,A,e5,e6,H⟩)
  have fing:∀(j:Nat),s.i=j->(hjl:j<a.z.length)->∀sn' h',At h0 h' (QbV {a with sn:=sn',z:=a.z.eraseIdx j}++(ss.flatMap QcS++(.blk p 30 (stS s)::F)))->R 0 h':=fun j hj hjl sn' h' H=>by
   have hm:G.net[j]? =some a.z[j].1:=by rw[e4,List.getElem?_map,List.getElem?_eq_getElem hjl];rfl
   have:=good j _ hj hm h'
   rw[if_neg h4,if_pos h3] at this
   refine this (GroupH.tail ⟨{a with sn:=sn',z:=a.z.eraseIdx j},ss,rfl,e2,e3, ?_,⟨fun q hq=>A.ent q (List.mem_of_mem_eraseIdx hq),A.nc⟩,e5,e6,H⟩)
   show G.net.eraseIdx j=_
   rw[e4,Qmk]
  refine nn (Qap (j:=1) HA 0 rfl (some ⟨a.nb,0,none⟩) rfl (ldp HA hmem ⟨?_, ?_⟩))
  ·unfold QbV at HA
   refine QiG (z:=a.z) (HA.mv 2 2) (by omega) (fun hb h1 H=> ?_) fun j hj hjl h1 sn' H=> ?_
   ·refine Qaj (cs:=mcS m0 ⟨none,0,0⟩) H fun h2 b H=>⟨Qap (j:=1) H 3 rfl (some ⟨a.nb,0,none⟩) rfl rfl,ldp H (hmem (A:= [_,_,_,_,_,_])) rfl, ?_⟩
    refine st9B (m:=m0) (sm:=⟨none,0,0⟩) H fun h3 H=>finb (by omega) _ (H.tail.mv 2 2)
   ·refine Qaj (cs:=mcS m0 ⟨none,0,0⟩) H fun h2 b H=>⟨Qap (j:=1) H 3 rfl (some ⟨a.nb,0,none⟩) rfl rfl,ldp H (hmem (A:= [_,_,_,_,_,_])) rfl, ?_⟩
    refine st9B (m:=a.z[j].1) (sm:=a.z[j].2) H fun h3 H=>fing j hj hjl sn' _ (H.tail.mv 2 2)
  ·unfold QbV at HA
   refine Qaj (cs:=mcS m0 ⟨none,0,0⟩) HA fun h2 b H=>⟨Qap (j:=1) H 1 rfl (some ⟨a.nb,0,none⟩) rfl rfl,ldp H (hmem (A:= [_,_,_,_,_,_])) rfl, ?_⟩
   refine QiG (z:=a.z) (H.mv 3 2) (by omega) (fun hb h1 H=> ?_) fun j hj hjl h1 sn' H=> ?_
   ·refine st9B (m:=m0) (sm:=⟨none,0,0⟩) (H.mv 2 1) fun h3 H=>finb (by omega) _ (H.tail.mv 2 2)
   ·refine st9B (m:=a.z[j].1) (sm:=a.z[j].2) (H.mv 2 1) fun h3 H=>fing j hj hjl sn' _ (H.tail.mv 2 2)
 ·refine H.ldF (j:=2) s.i rfl ?_
  refine deliver_ok H hc (fun hb h H=> ?_) fun j m hj hm sm h H=> ?_
  ·refine H.alloc (cs:=mcS m0 ⟨none,0,0⟩) fun h b H=> ?_
   refine H.st9 (m:=m0) (sm:=⟨none,0,0⟩) fun h H=> ?_
   exact brY rfl (bad hb h H.tail.tail)
  ·have gd:=good j m hj hm
   rw[if_neg h4,if_neg h3] at gd
   unfold gCome at gd
   have hmi:=I.net m (List.mem_of_getElem? hm)
   have herase:GInv k g S ⟨G.l,G.net.eraseIdx j⟩:=⟨I.k1,I.k7,I.gi,I.len,I.seat,fun x hx=>I.net x (List.mem_of_mem_eraseIdx hx),Nat.le_trans (List.length_eraseIdx_le ..) I.cap,I.few⟩
   refine H.alloc (cs:=mcS m0 ⟨none,0,0⟩) fun h b H=> ?_
   refine H.st9 (m:=m) (sm:=sm) fun h H=> ?_
   have down:Qg7 G m.to=none->R 12 h:=fun hu=>by
    unfold Qg7 at hu
    by_cases h1:m.to<0
    ·rw[if_pos h1] at gd;exact gd h H.tail.tail.free
    ·rw[if_neg h1] at gd hu
     simp only at gd
     cases hq:G.l[m.to.toNat]? with
     |none=>rw[hq] at gd;exact gd h H.tail.tail.free
     |some q=>
      rw[hq] at gd hu
      have hu:q.node=none:=hu
      simp only[hu] at gd
      exact gd h H.tail.tail.free
   cases hu:Qg7 G m.to with
   |none=>
    rw[if_pos (by rfl)]
    exact brY rfl (down hu)
   |some X=>
    rw[if_neg (show ¬(some X).isNone=true from fun x=>by cases x)]
    refine brN rfl ?_
    unfold Qg7 at hu
    have h1:¬m.to<0:=fun x=>by rw[if_pos x] at hu;cases hu
    rw[if_neg h1] at hu gd
    simp only at gd
    cases hq:G.l[m.to.toNat]? with
    |none=>rw[hq] at hu;cases hu
    |some q=>
     rw[hq] at gd hu
     have hX:q.node=some X:=hu
     simp only[hX] at gd
     have hH:GroupH h0 h gp ⟨G.l,G.net.eraseIdx j⟩ [(sm,m.ents)] (.blk b 59 (mcS m sm):: .blk p 30 (stS s)::F):=H
     obtain⟨L,HU,back⟩:=hH.un
     refine Qac HU 1 rfl s.kind rfl (br beq_iff_eq (fun h2=> ?_) fun h2=> ?_)
     ·rw[if_pos h2] at gd
      refine H.ldF (j:=2) m.to rfl ?_
      rw[show m.to=((m.to.toNat:Nat):Int) by omega]
      exact comes_step_ok H herase hq hX (List.mem_cons_self ..) hmi.2 fun h' H=>gd h' H.tail.tail
     ·rw[if_neg h2] at gd
      exact torn_core (s:=s) hH herase (show m.to=((m.to.toNat:Nat):Int) by omega) hq hX hmi.2 (fun h' H=>gd h' H.tail.tail) (List.mem_cons_self ..)
end
section
open Go
def eSTP:Enc ST 8:=⟨stS,fun _=>rfl,by decide,fun x u hu=>by
 simp only[stS,List.mem_cons,List.not_mem_nil,or_false] at hu
 rcases hu with rfl|rfl|rfl|rfl|rfl|rfl|rfl|rfl<;>rfl⟩
section
variable {h0 h:Heap}{F L:List Res}{gp k S:Nat}{g:GH}{G:GS}{q:GN}{X:RN}{s:ST}
theorem QdO{R:Int->Heap->Prop}(H:GroupH h0 h gp G [] F)(I:GInv k g S G)(hS:S<=1000000000)(hR:∀h',GroupH h0 h' gp (gDo G s).1 [] F->R (gDo G s).2 h'):
  Qaq (some ⟨gp,0,none⟩) (s.kind,s.node,s.i,s.draw,s.keep,s.at_,(s.by_.toNat:Int),s.data,()) h R:=by
 refine QgY ?_
 unfold Qel
 refine H.alloc (cs:=stS s) fun h p H=>brF ?_
 unfold gDo at hR
 refine Qg2 (s1:= .one .bool) (fun(b:Bool) h1=>(b=true↔(s.kind=1\/(5<=s.kind/\s.kind<=7)))/\GroupH h0 h1 gp G [] (.blk p 30 (stS s)::F)) (fun _ (b:Bool) h1 hJ=> ?_) ?_
 ·obtain⟨hb,H⟩:=hJ
  refine brB (fun h2=> ?_) fun h2=> ?_
  ·rw[if_pos (hb.1 h2)] at hR
   refine H.ld8 ?_
   exact group_node_ok (s:=s) H I hS fun h' H=>hR h' H.tail
  ·have hno:¬(s.kind=1\/(5<=s.kind/\s.kind<=7)):=fun x=>by rw[hb.2 x] at h2;cases h2
   rw[if_neg hno] at hR
   refine H.ldF0 s.kind rfl (brD (fun h3=> ?_) fun h3=> ?_)
   ·refine H.ldF0 s.kind rfl (brD (fun h4=> ?_) fun h4=> ?_)
    ·rw[if_pos ⟨h3,h4⟩] at hR
     refine H.ld8 ?_
     exact Qlc (s:=s) H I (by omega) fun h' H=>hR h' H.tail
    ·rw[if_neg fun x=>h4 x.2] at hR
     exact hR _ H.tail
   ·rw[if_neg fun x=>h3 x.1] at hR
    exact hR _ H.tail
 ·refine H.ldF0 s.kind rfl (br beq_iff_eq (fun h2=>⟨⟨fun _=> .inl h2,fun _=>rfl⟩,H⟩) fun h2=> ?_)
  refine H.ldF0 s.kind rfl (brD (fun h3=> ?_) fun h3=>⟨⟨fun x=>(by cases x),fun x=>by omega⟩,H⟩)
  refine H.ldF0 s.kind rfl ⟨?_,H⟩
  rw[decide_eq_true_iff]
  exact⟨fun x=> .inr ⟨h3,x⟩,fun x=>by omega⟩
theorem GroupH.arg{hold:List (Sl×List RE)}{sl:Sl}{sz:Nat}{xs:List Value}(H:GroupH h0 h gp G hold F)(hr:RdS h0 sz sl xs):RdS h sz sl xs:=by
 obtain⟨a,ss,h1,h2,h3,h4,A,h5,h6,H⟩:=H
 exact H.arg hr
theorem ld8E{xs:List ST}{sl:Sl}{j:Nat}{e:Addr}{K:Int->Int->Int->Int->Int->Int->Int->ByteArray->Prop}(A:RdS h 8 sl (eSTP.fl xs))(he:ElAt sl 8 j e)(hk:j<xs.length)
  (hK:K xs[j].kind xs[j].node xs[j].i xs[j].draw xs[j].keep xs[j].at_ (xs[j].by_.toNat:Int) xs[j].data):
  Ld (.int .i64) h e fun(a0:Int)=>Ld (.int .i64) h (e.add 1) fun(a1:Int)=>Ld (.int .i64) h (e.add 2) fun(a2:Int)=>Ld (.int .i64) h (e.add 3) fun(a3:Int)=>Ld (.int .i64) h (e.add 4) fun(a4:Int)=>Ld (.int .i64) h (e.add 5) fun(a5:Int)=>Ld (.int .u8) h (e.add 6) fun(a6:Int)=>Ld .str h (e.add 7) fun(a7:ByteArray)=>K a0 a1 a2 a3 a4 a5 a6 a7:=
 ldR0 (E:=eSTP) A he hk xs[j].kind rfl (ldR (E:=eSTP) (j:=1) A he hk xs[j].node rfl (ldR (E:=eSTP) (j:=2) A he hk xs[j].i rfl (ldR (E:=eSTP) (j:=3) A he hk xs[j].draw rfl (ldR (E:=eSTP) (j:=4) A he hk xs[j].keep rfl (ldR (E:=eSTP) (j:=5) A he hk xs[j].at_ rfl (ldR (E:=eSTP) (j:=6) A he hk (xs[j].by_.toNat:Int) rfl (ldR (E:=eSTP) (j:=7) A he hk xs[j].data rfl hK)))))))
def s0:ST:=⟨0,0,0,0,0,0,0,⟨#[]⟩⟩
theorem st8B{L:List Res}{b:Nat}{t:TypeId}{s':ST}{K:Heap->Prop}(H:At h0 h (.blk b t (stS s')::L))(hK:∀h',At h0 h' (.blk b t (stS s)::L)->K h'):
  St h (⟨b,0,none⟩:Addr) (.int .i64 s.kind) fun h1=>St h1 ((⟨b,0,none⟩:Addr).add 1) (.int .i64 s.node) fun h2=>St h2 ((⟨b,0,none⟩:Addr).add 2) (.int .i64 s.i) fun h3=>St h3 ((⟨b,0,none⟩:Addr).add 3) (.int .i64 s.draw) fun h4=>St h4 ((⟨b,0,none⟩:Addr).add 4) (.int .i64 s.keep) fun h5=>St h5 ((⟨b,0,none⟩:Addr).add 5) (.int .i64 s.at_) fun h6=>St h6 ((⟨b,0,none⟩:Addr).add 6) (.int .u8 (s.by_.toNat:Int)) fun h7=>St h7 ((⟨b,0,none⟩:Addr).add 7) (.string s.data) K:=by
 refine Qas H 0 rfl rfl fun h1 H=>Qa3 (j:=1) H 0 rfl rfl fun h2 H=>Qa3 (j:=2) H 0 rfl rfl fun h3 H=>Qa3 (j:=3) H 0 rfl rfl fun h4 H=>Qa3 (j:=4) H 0 rfl rfl fun h5 H=>Qa3 (j:=5) H 0 rfl rfl fun h6 H=>Qa3 (j:=6) H 0 rfl rfl fun h7 H=>Qa3 (j:=7) H 0 rfl rfl fun h8 H=>hK h8 H
theorem GroupH.st8{hold:List (Sl×List RE)}{b:Nat}{t:TypeId}{s':ST}{K:Heap->Prop}(H:GroupH h0 h gp G hold (.blk b t (stS s')::F))(hK:∀h',GroupH h0 h' gp G hold (.blk b t (stS s)::F)->K h'):
  St h (⟨b,0,none⟩:Addr) (.int .i64 s.kind) fun h1=>St h1 ((⟨b,0,none⟩:Addr).add 1) (.int .i64 s.node) fun h2=>St h2 ((⟨b,0,none⟩:Addr).add 2) (.int .i64 s.i) fun h3=>St h3 ((⟨b,0,none⟩:Addr).add 3) (.int .i64 s.draw) fun h4=>St h4 ((⟨b,0,none⟩:Addr).add 4) (.int .i64 s.keep) fun h5=>St h5 ((⟨b,0,none⟩:Addr).add 5) (.int .i64 s.at_) fun h6=>St h6 ((⟨b,0,none⟩:Addr).add 6) (.int .u8 (s.by_.toNat:Int)) fun h7=>St h7 ((⟨b,0,none⟩:Addr).add 7) (.string s.data) K:=by
 obtain⟨L,H,back⟩:=H.un
 exact st8B H fun h' H'=>hK h' (back h' _ H')
theorem gRun_snoc(G:GS)(l:List ST)(s:ST):gRun G (l++ [s])=(gDo (gRun G l) s).1:=by
 unfold gRun;rw[List.foldl_append];rfl
theorem group_Run_ok{sl:Sl}{xs:List ST}{R:Heap->Prop}(H:GroupH h0 h gp G [] F)(A:RdS h0 8 sl (eSTP.fl xs))(I:GInv k g S G)(hS:S+xs.length<=100000)(hd:∀s∈xs,s.data.size<=100)(hR:∀h',GroupH h0 h' gp (gRun G xs) [] F->R h'):QdV (some ⟨gp,0,none⟩) sl h R:=by
 refine QkG ?_
 unfold Qf5
 have hn:=rdn A
 refine Qhl (s1:= .one (.int .i64)) (fun(y:Int) h1=>∃j:Nat,y=j/\j<=xs.length/\GroupH h0 h1 gp (gRun G (xs.take j)) [] F) (fun(y:Int) _=>(xs.length -y).toNat)
  ⟨0,rfl,Nat.zero_le _,H⟩ fun _ (y:Int) h1 hI=> ?_
 obtain⟨j,rfl,hj,H⟩:=hI
 refine brD (fun hc=> ?_) fun hc=> ?_
 ·have hj2:j<xs.length:=by omega
  have A1:=H.arg A
  refine ixR A1 j rfl hj2 fun e he=>ld8E A1 he hj2 ?_
  refine H.alloc (cs:=stS s0) fun h2 b H=> ?_
  refine H.st8 (s:=xs[j]) fun h3 H=>H.ld8 (s:=xs[j]) ?_
  obtain⟨g',_,I'⟩:=gRun_inv (xs.take j) I fun s hs=>hd s (List.mem_of_mem_take hs)
  refine QdO (s:=xs[j]) H.tail I' (by rw[List.length_take];omega) fun h4 H=> ?_
  rw[w64 (by omega) (by omega)]
  refine⟨⟨j+1,by omega,by omega, ?_⟩,by omega⟩
  rw[List.take_add_one,List.getElem?_eq_getElem hj2]
  show GroupH h0 h4 gp (gRun G (xs.take j++ [xs[j]])) [] F
  rw[gRun_snoc]
  exact H
 ·have hjl:j=xs.length:=by omega
  rw[hjl,List.take_length] at H
  exact hR h1 H
theorem rds_nil'{h:Heap}:RdS h 2 ⟨none,0,0⟩ (eRE.fl []):=⟨rfl,fun h=>absurd h (by decide)⟩
theorem okS_nil':okS 0 (-1) []:=⟨trivial,by decide,by decide,by decide,by decide,by decide⟩
theorem new_perm{x g0 g1 n0 n1 p:Res}{D A B F:List Res}:(x::(D++(A++([g0,g1,n0,n1,p]++(B++F))))).Perm (x::([g0,g1,n0,n1,p]++((B++(D++A))++F))):=by
 refine List.Perm.cons _ ?_
 have h1:(D++(A++([g0,g1,n0,n1,p]++(B++F)))).Perm ((([g0,g1,n0,n1,p]++B)++(D++A))++F):=by
  rw[<-List.append_assoc,<-List.append_assoc,<-List.append_assoc]
  refine List.Perm.append_right _ ?_
  rw[List.append_assoc (D++A)]
  exact List.perm_append_comm
 rw[List.append_assoc,List.append_assoc] at h1
 rw[List.append_assoc]
 exact h1
theorem Qhs{n:Int}{R:Option Addr->Heap->Prop}(H:At h0 h F)(h1:(n<1\/n>7)->R none h)(h2:∀k:Nat,n=k->1<=k->k<=7->∀h' gp,GroupH h0 h' gp (gNew k) [] F->R (some ⟨gp,0,none⟩) h'):QdU n h R:=by
 refine A_group_New ?_
 unfold QmP
 refine Qg2 (s1:= .one .bool) (fun(b:Bool) h3=>(b=true↔(n<1\/n>7))/\h3=h) (fun _ (b:Bool) h3 hJ=> ?_) ?_
 rotate_left
 ·refine brD (fun h3=>⟨⟨fun _=> .inl h3,fun _=>rfl⟩,rfl⟩) fun h3=>⟨?_,rfl⟩
  rw[decide_eq_true_iff]
  exact⟨fun x=> .inr x,fun x=>by omega⟩
 obtain⟨hb,rfl⟩:=hJ
 refine brB (fun h4=>h1 (hb.1 h4)) fun h4=> ?_
 have hn:¬(n<1\/n>7):=fun x=>by rw[hb.2 x] at h4;cases h4
 obtain⟨k,rfl⟩:∃k:Nat,n=k:=⟨n.toNat,by omega⟩
 refine net_New_ok H fun h5 nb H=> ?_
 have H:=H.new (r:=Qk9 []) (Ext.refl _ _) (fun a ha=>by cases ha) (fun g hg=>by obtain⟨a,ha,_⟩:=hg;cases ha)
 refine Qaj (cs:= [.slice none 0 0,.pointer (some ⟨nb,0,none⟩)]) (H.nil 2) fun h6 gp H=> ?_
 have H:=(H.mv 3 2).mv 2 2
 refine Qhl (s1:= .one (.int .i64)) (fun(y:Int) h7=>∃(j:Nat) (ss:List SeatH) (sg:Sl),y=j/\j<=k/\ss.map gnOf=(List.range j).map (fun(i:Nat)=>(⟨some (Ql9 i k 4 2 0 (-1) []),[],0⟩:GN))/\(∀s∈ss,∀x,s.nd=some x->x.X.out= [])/\
   At h0 h7 (QbV ⟨gp,62,sg,nb,86,⟨none,0,0⟩,ss.map stE,[],[]⟩++(ss.flatMap QcS++F))) (fun(y:Int) _=>(k -y).toNat)
  ⟨0,[],⟨none,0,0⟩,rfl,Nat.zero_le _,rfl,(fun s hs=>by cases hs),H⟩ fun _ (y:Int) h7 hI=> ?_
 obtain⟨j,ss,sg,rfl,hj,hss,hout,H⟩:=hI
 have hlen:ss.length=j:=by
  have:=congrArg List.length hss
  rwa[List.length_map,List.length_map,List.length_range] at this
 refine brD (fun hc=> ?_) fun hc=> ?_
 ·unfold QbV at H
  refine Ql7 (es:= []) H rds_nil' (Nat.zero_le _) (fun hbad=>absurd hbad (by omega)) (fun hno=>absurd okS_nil' hno) fun _ _ h8 d H=>nn ?_
  obtain⟨ty,lg,tl,sl,so,z,hz,H⟩:=H
  have hz0:z= []:=List.map_eq_nil_iff.1 hz
  subst hz0
  rw[show Qfb []= [] from rfl,List.append_nil] at H
  unfold Qhw at H
  refine Qac H 4 rfl sg rfl ?_
  refine disk_New_ok H fun h9 dk dty H=> ?_
  refine⟨Qac H 6 rfl sg rfl rfl, ?_⟩
  refine Qaj (cs:= [.pointer (some ⟨dk,0,none⟩),.pointer (some ⟨d,0,none⟩)]) H fun h10 b H=>⟨Qac H 7 rfl sg rfl rfl, ?_⟩
  refine app1B (E:=eST) TSTE H 8 rfl 0 rfl (dk,some d) rfl (by rw[List.length_map];omega) (by rw[List.length_map];omega) fun sg' h11 H=>nn ?_
  refine Qas H 7 rfl rfl fun h12 H=> ?_
  rw[w64 (by omega) (by omega)]
  refine⟨⟨j+1,ss++ [⟨dk,dty,⟨none,0,0⟩,[],0,some ⟨d,ty,lg,tl,sl,so,Ql9 j k 4 2 0 (-1) []⟩⟩],sg',by omega,by omega, ?_, ?_, ?_⟩,by omega⟩
  ·rw[List.map_append,hss,List.range_succ,List.map_append];rfl
  ·intro s hs x hx
   rcases List.mem_append.1 hs with hs|hs
   ·exact hout s hs x hx
   ·rw[List.mem_singleton.1 hs] at hx
    injection hx with hx
    rw[<-hx];rfl
  ·have e1:(ss++ [(⟨dk,dty,⟨none,0,0⟩,[],0,some ⟨d,ty,lg,tl,sl,so,Ql9 j k 4 2 0 (-1) []⟩⟩:SeatH)]).flatMap QcS=ss.flatMap QcS++(Qb9 dk dty ⟨none,0,0⟩ [] 0++Qhw d ty lg tl sl so (Ql9 j k 4 2 0 (-1) []) []):=by
    rw[List.flatMap_append]
    simp only[List.flatMap_cons,List.flatMap_nil,List.append_nil]
    rfl
   rw[e1,List.map_append]
   have H:At h0 h12 (.blk b 67 [.pointer (some ⟨dk,0,none⟩),.pointer (some ⟨d,0,none⟩)]::(Qb9 dk dty ⟨none,0,0⟩ [] 0++(Qhw d ty lg tl sl so (Ql9 j k 4 2 0 (-1) []) []++([.blk gp 62 [.slice sg'.a sg'.n sg'.c,.pointer (some ⟨nb,0,none⟩)],.own sg' 2 (eST.fl (ss.map stE++ [(dk,some d)])),.blk nb 86 [.slice none 0 0],.own ⟨none,0,0⟩ 9 (eMS.fl []),Qk9 []]++(ss.flatMap QcS++F))))):=H
   exact(H.perm new_perm).tail
 ·have hjk:j=k:=by omega
  subst hjk
  refine h2 j rfl (by omega) (by omega) h7 gp ⟨⟨gp,62,sg,nb,86,⟨none,0,0⟩,ss.map stE,[],[]⟩,ss,rfl,rfl,hss.symm,rfl,⟨(fun q hq=>by cases hq),(fun x hx=>by cases hx)⟩,hout,(fun x hx=>by cases hx),H⟩
structure NodeV(h:Heap)(r:Option Addr)(x:Option RN):Prop where
 role:∀K:Int->Heap->Prop,K ((x.map (·.role)).getD 0) h->Qda r h K
 term:∀K:Int->Heap->Prop,K ((x.map (·.term)).getD 0) h->Qcg r h K
 last:∀K:Int->Heap->Prop,K ((x.map fun X=>(X.log.length:Int)).getD 0) h->Qa6 r h K
 commit:∀K:Int->Heap->Prop,K ((x.map (·.commit)).getD 0) h->Qct r h K
 nil:r.isNone=x.isNone
theorem NodeV.none_:NodeV h none none:=⟨fun K hK=>QgW hK,fun K hK=>QgV hK,fun K hK=>QgX hK,fun K hK=>QfC hK,rfl⟩
theorem NodeV.of{d:Nat}{M:List Res}(H:RaftAt h0 h d X M)(hl:X.log.length<=1024):NodeV h (some ⟨d,0,none⟩) (some X):=
 ⟨fun K hK=>raft_Role_ok H hK,fun K hK=>raft_Term_ok H hK,fun K hK=>Qd9 H (by omega) hK,fun K hK=>Qni H hK,rfl⟩
theorem GroupH.nodeV{hold:List (Sl×List RE)}{i:Int}{R:Option Addr->Heap->Prop}(H:GroupH h0 h gp G hold F)(I:GInv k g S G)(hR:∀r,NodeV h r (Qg7 G i)->R r h):QaE (some ⟨gp,0,none⟩) i h R:=by
 have H0:=H
 obtain⟨a,ss,rfl,h2,h3,h4,A,h5,h6,H⟩:=H
 refine Node_core H (fun hb=>hR none ?_) fun j st hij hst=>hR _ ?_
 ·have e:Qg7 G i=none:=by
   unfold Qg7
   split
   ·rfl
   ·rw[List.getElem?_eq_none (by rw[h3,List.length_map];rw[h2,List.length_map] at hb;omega)];rfl
  rw[e];exact .none_
 ·rw[hij,Qge]
  have hss:=hst
  rw[h2,List.getElem?_map] at hss
  obtain⟨x,hx,rfl⟩:=Option.map_eq_some_iff.1 hss
  have hq:G.l[j]? =some (gnOf x):=by rw[h3,List.getElem?_map,hx];rfl
  rw[hq,Option.bind_some]
  show NodeV h (pOf (x.nd.map (·.d))) (x.nd.map (·.X))
  cases hn:x.nd with
  |none=>exact .none_
  |some y=>
   have ho:=h5 x (List.mem_of_getElem? hx) y hn
   have u:=(I.seat j _ hq).up y.X (by show x.nd.map (·.X)=_;rw[hn];rfl)
   exact NodeV.of (H.node hx hn ho) u.bn.l
def QcA(G:GS):Nat->Int
 |0=> -1
 |j+1=>if((Qg7 G (j:Int)).map (·.role)).getD 0=3/\(QcA G j<0\/((Qg7 G (j:Int)).map (·.term)).getD 0>((Qg7 G (QcA G j)).map (·.term)).getD 0) then(j:Int) else QcA G j
theorem leadF_lt(G:GS):∀j, -1<=QcA G j/\QcA G j<j
 |0=>⟨Int.le_refl _,(by decide:(-1:Int)<0)⟩
 |j+1=>by
  have:=leadF_lt G j
  unfold QcA
  split<;>omega
theorem Qht{R:Int->Bool->Heap->Prop}(H:GroupH h0 h gp G [] F)(I:GInv k g S G)(hR:R (if QcA G k<0 then 0 else QcA G k) (decide (¬QcA G k<0)) h):Qb3 (some ⟨gp,0,none⟩) h R:=by
 refine Qik ?_
 unfold Qex
 have hk7:=I.k7
 have hlen:=I.len
 refine QbF ?_
 have hLen:∀{K:Int->Heap->Prop},K (k:Int) h->QbL (some ⟨gp,0,none⟩) h K:=fun{K} hK=>by
  obtain⟨a,ss,rfl,h2,h3,h4,A,h5,h6,H⟩:=H
  refine Len_core H ?_
  rw[h2,List.length_map]
  rw[h3,List.length_map] at hlen
  rw[hlen];exact hK
 refine hLen ?_
 refine QiH (s1:= .one (.int .i64)) (s2:= .one (.int .i64)) (fun(b y:Int) h1=>∃j:Nat,y=j/\j<=k/\b=QcA G j/\h1=h) (fun _ (y:Int) _=>(k -y).toNat)
  ⟨0,rfl,Nat.zero_le _,rfl,rfl⟩ fun _ (b y:Int) h1 hI=> ?_
 obtain⟨j,rfl,hj,rfl,rfl⟩:=hI
 have hlt:=leadF_lt G j
 have step:QcA G (j+1)=if((Qg7 G (j:Int)).map (·.role)).getD 0=3/\(QcA G j<0\/((Qg7 G (j:Int)).map (·.term)).getD 0>((Qg7 G (QcA G j)).map (·.term)).getD 0) then(j:Int) else QcA G j:=rfl
 refine brD (fun hc=> ?_) fun hc=> ?_
 ·refine H.nodeV I fun r V=>V.role _ ?_
  rw[w64 (n:=(j:Int)+1) (by omega) (by omega)]
  refine br beq_iff_eq (fun h2=> ?_) fun h2=> ?_
  ·refine brD (fun h3=> ?_) fun h3=> ?_
   ·rw[if_pos ⟨h2,.inl h3⟩] at step
    exact⟨⟨j+1,by omega,by omega,step.symm,rfl⟩,by omega⟩
   ·refine V.term _ (H.nodeV I fun r2 V2=>V2.term _ (brD (fun h4=> ?_) fun h4=> ?_))
    ·rw[if_pos ⟨h2,.inr h4⟩] at step
     exact⟨⟨j+1,by omega,by omega,step.symm,rfl⟩,by omega⟩
    ·rw[if_neg fun x=>x.2.elim h3 h4] at step
     exact⟨⟨j+1,by omega,by omega,step.symm,rfl⟩,by omega⟩
  ·rw[if_neg fun x=>h2 x.1] at step
   exact⟨⟨j+1,by omega,by omega,step.symm,rfl⟩,by omega⟩
 ·have hjk:j=k:=by omega
  subst hjk
  refine brD (fun h2=> ?_) fun h2=> ?_
  ·rw[if_pos h2,decide_eq_false (fun x=>x h2)] at hR;exact hR
  ·rw[if_neg h2,decide_eq_true h2] at hR;exact hR
end
end
section
variable {k X0 LC M bd E Zb l x:Nat}{g g':GH}{i f j S S' S0 S1:Nat}{X Y Z F L W:RN}{m:RM}{C C' C0:CS}{G G' G0:GS}{dr t T0 U U' v Tm:Int}{ls:List Int}{μ ν r n1 B:Nat}{p p0:CS×Int}{q:GN}{A D:List RM}
def Qnd(i r:Nat):ST:=⟨1,i,0,drw r i,0,0,0,⟨#[]⟩⟩
def Qne(l:Int):ST:=⟨5,l,0,0,0,0,0,xB⟩
def Qe8(r:Nat)(G:GS):Nat->GS
 |0=>G
 |i+1=>gSlot (Qe8 r G i) (Qnd i r)
def lastG(G:GS)(l:Int):Int:=((Qg7 G l).map fun X=>(X.log.length:Int)).getD 0
def rdG(k r:Nat)(p:GS×Int):GS×Int:=
 if ¬QcA (Qe8 r p.1 k) k<0/\r%10=5 then
  (QnU 20000 (gDo (Qe8 r p.1 k) (Qne (QcA (Qe8 r p.1 k) k))).1,if(gDo (Qe8 r p.1 k) (Qne (QcA (Qe8 r p.1 k) k))).2=0 then mx p.2 (lastG (gDo (Qe8 r p.1 k) (Qne (QcA (Qe8 r p.1 k) k))).1 (QcA (Qe8 r p.1 k) k)) else p.2)
 else(Qe8 r p.1 k,p.2)
def stG(k:Nat)(p0:GS×Int):Nat->GS×Int
 |0=>p0
 |r+1=>rdG k r (stG k p0 r)
def commG(G:GS)(i:Nat):Int:=((Qg7 G (i:Int)).map (·.commit)).getD 0
def okG(k:Nat)(p:GS×Int):Prop:=0<p.2/\∀i,i<k->p.2<=commG p.1 i
theorem Rel.up(h:Rel G C)(hX:C.x[i]? =some X):Qg7 G (i:Int)=some X:=by
 obtain⟨q,hq,hqX⟩:=h.seat hX
 rw[Qge,hq]
 exact hqX
theorem Rel.lead(h:Rel G C)(hl:C.x.length=k):∀j,j<=k->QcA G j=QcJ C j/\ -1<=QcJ C j/\QcJ C j<j
 |0,_=>⟨rfl,Int.le_refl _,(by decide:(-1:Int)<0)⟩
 |j+1,hj=>by
  obtain⟨e,e1,e2⟩:=Rel.lead h hl j (by omega)
  have hu:∀i,i<k->Qg7 G (i:Int)=some (nd C i):=fun i hi=>by
   have hX:C.x[i]? =some (C.x[i]'(by omega)):=List.getElem?_eq_getElem (by omega)
   have:=h.up hX
   rw[Qcc hX];exact this
  have hstep:QcA G (j+1)=QcJ C (j+1):=by
   unfold QcA QcJ
   rw[e,hu j (by omega)]
   show(if(nd C j).role=3/\(QcJ C j<0\/(nd C j).term>_) then _ else _)=_
   by_cases hneg:QcJ C j<0
   ·by_cases h3:(nd C j).role=3
    ·rw[if_pos ⟨h3,.inl hneg⟩,if_pos ⟨h3,.inl hneg⟩]
    ·rw[if_neg fun z=>h3 z.1,if_neg fun z=>h3 z.1]
   ·have h4:QcJ C j=((QcJ C j).toNat:Int):=by omega
    have h5:Qg7 G (QcJ C j)=some (nd C (QcJ C j).toNat):=by
     rw[h4]
     exact hu _ (by omega)
    rw[h5]
    rfl
  refine⟨hstep, ?_⟩
  unfold QcJ
  split<;>omega
theorem DE.lead(D:DE k ls B n1 U g S G C):QcA G k=QcJ C k:=(D.rel.lead D.c.len k (Nat.le_refl _)).1
theorem DE.round(D:DE k ls B n1 U g S G C)(hk:2<=k)(hlt:∀i,i<k->∀n,n<=20000->LT k ls (Qbq n (Qal (Qeq (drw r) C i) i (drw r i))))(hB:B<=505000)(hU:U+k<=2000)(hls:ls.length<=15)(hn1:n1<=1):∀i,i<=k->∃g' S',DE k ls B n1 (U+i) g' S' (Qe8 r G i) (Qeq (drw r) C i)
 |0,_=>⟨g,S,by rw[show U+((0:Nat):Int)=U by omega];exact D⟩
 |i+1,hi=>by
  obtain⟨g1,S1,D1⟩:=DE.round D hk hlt hB hU hls hn1 i (by omega)
  obtain⟨g2,S2,D2,_⟩:=D1.slot (s:=Qnd i r) hk (by omega) rfl rfl (hlt i (by omega)) hB (by omega) hls hn1
  exact⟨g2,S2,by rw[show U+((i+1:Nat):Int)=U+i+1 by omega];exact D2⟩
theorem D1.round(Q:D1 k ls B U g S G C A [])(hk:2<=k)(hlt:∀i,i<k->∀n,n<=20000->LT k ls (Qbq n (Qal (Qeq (drw r) C i) i (drw r i))))(hB:B<=505000)(hU:U+k<=2000)(hls:ls.length<=15):∀i,1<=i->i<=k->∃g' S',DE k ls B 0 (U+i) g' S' (Qe8 r G i) (Qeq (drw r) C i)
 |0,h1,_=>by omega
 |i+1,_,hi=>by
  by_cases h0:i=0
  ·subst h0
   obtain⟨g2,S2,D2,_⟩:=Q.slot (s:=Qnd 0 r) hk (by omega) rfl rfl (hlt 0 (by omega)) hB (by omega) hls
   exact⟨g2,S2,D2⟩
  ·obtain⟨g1,S1,D1'⟩:=D1.round Q hk hlt hB hU hls i (by omega) (by omega)
   obtain⟨g2,S2,D2,_⟩:=D1'.slot (s:=Qnd i r) hk (by omega) rfl rfl (hlt i (by omega)) hB (by omega) hls (by decide)
   exact⟨g2,S2,by rw[show U+((i+1:Nat):Int)=U+i+1 by omega];exact D2⟩
theorem DE.prop(D:DE k ls 505000 n1 U g S (Qe8 r G k) (QeO k r p.1))(hk:2<=k)(ok:RdOK k ls r p)(hU:U<=2000)(hls:ls.length<=15)(hn1:n1<=1)(h0:p.2=0->n1=0):∃g' S' n1',n1'<=1/\DE k ls 505000 n1' U g' S' (rdG k r (G,p.2)).1 (rdC k r p).1/\(rdG k r (G,p.2)).2=(rdC k r p).2/\((rdC k r p).2=0->n1'=0):=by
 have hl:=D.lead
 by_cases hp:0<=QcJ (QeO k r p.1) k/\r%10=5
 ·obtain⟨hd,l,t,e1,w,lt1,lt2⟩:=ok.pr hp.1 hp.2
  have hn0:=h0 hd
  subst hn0
  have hlF:QcA (Qe8 r G k) k=(l:Int):=hl.trans e1
  obtain⟨g1,S1,D1,e2⟩:=D.pro (s:=Qne l) hk w rfl rfl (show xB.size<=100 by decide) lt1 (by decide) hU hls
  obtain⟨g2,S2,D2⟩:=D1.set hk (by decide) hU hls (Nat.le_refl _) 20000 lt2
  have hG:rdG k r (G,p.2)=(QnU 20000 (gDo (Qe8 r G k) (Qne l)).1,mx p.2 (lastG (gDo (Qe8 r G k) (Qne l)).1 l)):=by
   unfold rdG
   show(if ¬QcA (Qe8 r G k) k<0/\r%10=5 then _ else _)=_
   rw[if_pos ⟨by rw[hlF];omega,hp.2⟩,hlF,if_pos e2]
  have hC:rdC k r p=(Qbq 20000 (Qe9 (QeO k r p.1) l xB),mx p.2 ((nd (QeO k r p.1) l).log.length+1)):=by
   unfold rdC
   rw[if_pos hp,e1];rfl
  have hlast:lastG (gDo (Qe8 r G k) (Qne l)).1 (l:Int)=((nd (QeO k r p.1) l).log.length:Int)+1:=by
   have hX:=D1.c.nd w.lk
   have hu:=D1.rel.up hX
   have hlen:=D.len hls (by decide) w.lk
   obtain⟨Z,W,z0,z1,z2,z3,_⟩:=QlA (data:=xB) D.c.gi (D.c.node l _ (D.c.nd w.lk)) hk w.role (by omega) (by decide)
   unfold lastG
   rw[hu]
   show((nd (Qe9 (QeO k r p.1) l xB) l).log.length:Int)=_
   have hself:nd (Qe9 (QeO k r p.1) l xB) l=Qae Z:=by
    rw[cPro_eq (data:=xB) (D.c.nd w.lk),z0]
    exact Qhk (by rw[D.c.len];exact w.lk)
   rw[hself]
   show(Z.log.length:Int)=_
   rw[z3,List.length_append];rfl
  rw[hG,hC]
  refine⟨g2,S2,1,Nat.le_refl _,D2, ?_,fun z=> ?_⟩
  ·show mx _ _=mx _ _
   rw[hlast]
  ·exfalso
   have z:mx p.2 (((nd (QeO k r p.1) l).log.length:Int)+1)=0:=z
   rw[hd] at z
   unfold mx at z
   rw[if_pos (by omega)] at z
   omega
 ·have hG:rdG k r (G,p.2)=(Qe8 r G k,p.2):=by
   unfold rdG
   refine if_neg fun z=>hp ⟨?_,z.2⟩
   have:=z.1
   rw[show QcA (Qe8 r (G,p.2).1 k) k=_ from hl] at this
   omega
  rw[hG,Qgj hp]
  exact⟨g,S,n1,hn1,D,rfl,h0⟩
theorem lock{R:Nat}(hk:2<=k)(h7:k<=7)(hR:R<=100)(Q:D1 k ls 505000 407 g S G0 C0 C0.net [])(hls:ls.length<=15)(ok:∀r,r<=R->RdOK k ls r (stC k (C0,0) r)):∀r,r<=R->∃g' S' n1,n1<=1/\DE k ls 505000 n1 (407+7*(r+1:Nat)) g' S' (stG k (G0,0) (r+1)).1 (stC k (C0,0) (r+1)).1/\(stG k (G0,0) (r+1)).2=(stC k (C0,0) (r+1)).2/\((stC k (C0,0) (r+1)).2=0->n1=0):=by
 have up:∀{U U':Int} {g:GH} {S n1:Nat} {G:GS} {C:CS},DE k ls 505000 n1 U g S G C->U<=U'->DE k ls 505000 n1 U' g S G C:=fun{U U' g S n1 G C} D h=>⟨D.rel,D.c,⟨fun i hi=>Int.le_trans (D.tb.1 i hi) h,fun m hm=>Int.le_trans (D.tb.2 m hm) h⟩,D.l5,D.cr⟩
 intro r
 induction r with
 |zero=>
  intro _
  have o:=ok 0 (Nat.zero_le _)
  obtain⟨g1,S1,D1⟩:=Q.round (r:=0) hk o.lt (by decide) (by omega) hls k (by omega) (Nat.le_refl _)
  exact DE.prop (p:=(C0,0)) (G:=G0) (up D1 (by omega)) hk o (by decide) hls (Nat.zero_le _) fun _=>rfl
 |succ r ih=>
  intro hr
  obtain⟨g1,S1,n1,a1,D1,a2,a3⟩:=ih (by omega)
  have o:=ok (r+1) hr
  obtain⟨g2,S2,D2⟩:=D1.round hk o.lt (by decide) (by omega) hls a1 k (Nat.le_refl _)
  have:=DE.prop (p:=stC k (C0,0) (r+1)) (G:=(stG k (G0,0) (r+1)).1) (up D2 (U':=407+7*((r+1+1:Nat):Int)) (by omega)) hk o (by omega) hls a1 a3
  have e:((stG k (G0,0) (r+1)).1,(stC k (C0,0) (r+1)).2)=stG k (G0,0) (r+1):=by rw[<-a2]
  rw[e] at this
  exact this
theorem goes_plain(hk:2<=k)(rel:Rel G0 C0)(h:CInv k g S C0)(Q:GQ S1 (fun _=>0) G0)(few:FewI g 400)(hS1:S1<=407):∃R,R<300/\okG k (stG k (G0,0) (R+1))/\∀r,r<=R->okG k (stG k (G0,0) (r+1))->(stG k (G0,0) (r+1)).1.net= []:=by
 have h7:=h.k7
 have b:=bas_start h few
 obtain⟨ls0,lb0⟩:=lb_start h h7
 have Q0:=d1_start rel h Q few hS1 ls0
 obtain⟨R,ls,c1,c2,c3,c4,c5,c6,c7⟩:=run_all hk h7 b lb0 Q0.tb (by decide)
 have lk:=lock hk h7 c3 (d1_start rel h Q few hS1 ls) c1 c5
 have both:∀r,r<=R->(okG k (stG k (G0,0) (r+1))↔okP k (stC k (C0,0) (r+1)))/\(stG k (G0,0) (r+1)).1.net=(stC k (C0,0) (r+1)).1.net:=fun r hr=>by
  obtain⟨g1,S1,n1,a1,D1,a2,a3⟩:=lk r hr
  have hc:∀i,i<k->commG (stG k (G0,0) (r+1)).1 i=(nd (stC k (C0,0) (r+1)).1 i).commit:=fun i hi=>by
   unfold commG
   rw[D1.rel.up (D1.c.nd hi)];rfl
  refine⟨⟨fun z=>⟨by rw[<-a2];exact z.1,fun i hi=>by rw[<-a2,<-hc i hi];exact z.2 i hi⟩,fun z=>⟨by rw[a2];exact z.1,fun i hi=>by rw[a2,hc i hi];exact z.2 i hi⟩⟩,D1.rel.net⟩
 refine⟨R,by omega,(both R (Nat.le_refl _)).1.2 c4,fun r hr hok=> ?_⟩
 rw[(both r hr).2]
 by_cases h5:5<=r
 ·exact c6 r h5 hr
 ·exfalso
  have h1:=((both r hr).1.1 hok).1
  have h2:=c7 (r+1) (by omega)
  omega
end
section
variable {k X0 LC M bd E Zb l x:Nat}{g g':GH}{i f j S S' S0 S1:Nat}{X Y Z F L W:RN}{m:RM}{C C' C0:CS}{G G' G0:GS}{dr t T0 U U' v Tm:Int}{ls:List Int}{μ ν r n1 B:Nat}{p p0:CS×Int}{q:GN}{A D:List RM}{data:ByteArray}
theorem Qn6(c:CN 1 g S 0 X)(h:Nat):QaF X (h|||2^X.id.toNat):=by
 have hid:=c.ni.id
 have hn:=c.ni.n
 have h1:QaF X (2^X.id.toNat):=by
  unfold QaF
  rw[hid,hn]
  exact(by decide:2*(QoF 7 (2^((0:Nat):Int).toNat):Int)>((1:Nat):Int))
 refine most_mono h1 fun f hf=> ?_
 rw[Nat.testBit_or,hf,Bool.or_true]
theorem alone_most0(c:CN 1 g S 0 X):QaF X (2^X.id.toNat):=by
 have:=Qn6 c 0
 rwa[Nat.zero_or] at this
theorem Qn5(c:CN 1 g S 0 X)(hl:X.log.length<1024)(ht:X.term<Qjk)(hd:dr=0):(Qah X dr).role=3\/(X.role≠3/\X.since+1<4/\(Qah X dr).since=X.since+1/\(Qah X dr).role≠3):=by
 subst hd
 cases Qa2 (dr:=0) c with
 |quiet h1 h2=>exact .inl h2
 |beat W h1 h2=>exact .inl h2
 |down h1 h2 h3=>exact absurd (Qn6 c X.heard) h3
 |wait h1 h2 h3=>
  right
  rcases h2 with z|z
  ·have e0:(if(0:Int)>0 then(0:Int) else 0)%4=0:=by decide
   rw[e0] at z
   rw[h3]
   exact⟨h1,by omega,rfl,h1⟩
  ·omega
 |ask h1 h2 h3 h4=>
  left
  rw[h4]
  have hm0:=alone_most0 c
  have hm:QaF {X with since:=X.since+1} (2^X.id.toNat):=hm0
  have hm2:QaF (Qg0 {X with since:=X.since+1}) (2^X.id.toNat):=hm0
  have e1:QfO {X with since:=X.since+1}=Qbh (QbB (Qg0 {X with since:=X.since+1})):=by
   unfold QfO
   rw[if_pos (show QaF {X with since:=X.since+1} (2^({X with since:=X.since+1}:RN).id.toNat) from hm)]
   unfold QaU
   rw[if_pos (show QaF (Qg0 {X with since:=X.since+1}) (2^(Qg0 {X with since:=X.since+1}).id.toNat) from hm2)]
  have hter:¬(QbB (Qg0 {X with since:=X.since+1})).term<Qa9 (QbB (Qg0 {X with since:=X.since+1})).log:=by
   have:=Qce c.ni.d.ter c.ni.d.t0
   show ¬X.term+1<Qa9 X.log
   omega
  rw[e1,Qgo hter hl]
  exact(Qan _).2.1.trans rfl
theorem alone_pro(c:CN 1 g S 0 X)(hr:X.role=3)(hl:X.log.length<1024)(hd:data.size<=512):(Qam X data).2.2=0/\(Qam X data).1.log.length=X.log.length+1/\(Qam X data).1.commit=(X.log.length:Int)+1:=by
 have hter:¬X.term<Qa9 X.log:=by
  have:=Qce c.ni.d.ter c.ni.d.t0
  omega
 have e:Qc7 X data=(Qaf (Qa4 (QaN {X with log:=X.log++ [⟨X.term,data⟩]} ((X.log.length:Int)+1))),0):=by
  unfold Qc7
  rw[if_neg hter,if_neg (by omega)]
 generalize hZ:Qa4 (QaN {X with log:=X.log++ [⟨X.term,data⟩]} ((X.log.length:Int)+1))=Z at e
 have z1:Z.log=X.log++ [⟨X.term,data⟩]:=by rw[<-hZ];rfl
 have z2:Z.commit=X.commit:=by rw[<-hZ];rfl
 have z3:Z.term=X.term:=by rw[<-hZ];rfl
 have z4:Z.n=1:=by rw[<-hZ];exact c.ni.n
 have z5:Z.id=0:=by rw[<-hZ];exact c.ni.id
 have hlen:Z.log.length=X.log.length+1:=by rw[z1,List.length_append];rfl
 have hag:Qba Z (X.log.length+1)=some (X.log.length+1):=by
  unfold Qba
  have hc1:=c.ni.c1
  rw[if_neg (by rw[z2];omega)]
  have ht:(QaH Z.log ((X.log.length+1:Nat):Int)).1=Z.term:=by
   unfold QaH
   rw[if_neg (by rw[hlen];omega),if_neg (by omega),z1,show((X.log.length+1:Nat):Int).toNat -1=X.log.length by omega,List.getElem?_append_right (Nat.le_refl _),Nat.sub_self,z3]
   rfl
  rw[if_neg (fun z=>z ht)]
  have hcnt:Qj1 Z ((X.log.length+1:Nat):Int)=1:=by
   unfold Qj1
   rw[z4]
   show((List.range 1).filter _).length=1
   rw[show List.range 1= [0] from rfl,List.filter_cons,if_pos (decide_eq_true (.inl (by rw[z5];rfl)))]
   rfl
  rw[if_pos (by rw[hcnt,z4];decide)]
 have hA:Qaf Z=Qa4 {Z with commit:=((X.log.length+1:Nat):Int)}:=by
  unfold Qaf
  rw[hlen,hag]
 have hp:Qam X data=(Qaf Z,((Qaf Z).log.length:Int),0):=by
  unfold Qam
  rw[if_neg (fun z=>z hr),if_neg (by omega),e]
  rw[if_neg (fun z=>z rfl)]
 rw[hp,hA]
 exact⟨rfl,hlen,rfl⟩
theorem net_nil(x:GXI 1 G):G.net= []:=by
 cases hn:G.net with
 |nil=>rfl
 |cons m l=>
  have w:=x.net m (by rw[hn];exact List.mem_cons_self ..)
  have:=w.f
  have:=w.t
  have:=w.ne
  omega
structure AL(g:GH)(S:Nat)(G:GS):Prop where
 h:GInv 1 g S G
 x:GXI 1 G
 Q:GQ S (fun _=>0) G
theorem AL.step(a:AL g S G)(hS:S<600){s:ST}(hd:s.data.size<=100):∃g',AL g' (S+1) (gDo G s).1:=by
 obtain⟨g',_,h'⟩:=Qhv a.h s hd
 exact⟨g',h',gx_do a.h a.x s,gDo_q a.h a.x a.Q (by omega) hd⟩
theorem AL.fit(a:AL g S G)(hS:S<600)(hq:G.l[0]? =some q){I':GI 1 g'}(o:One X Y)(b:BN (S+1) 14 Y)(lm:LM g' Y.log){e:Int}:Qg7 (Qa7 G 0 q Y e).1 0=some (Qae Y)/\(Qa7 G 0 q Y e).2=e:=by
 have h1:=one_bytes o b.l (lm.d I')
 have h2:=a.Q.by_ 0 q hq
 have hfit:q.b.length+(Qao (Qav Y)).length<=1048576:=by omega
 have hgc:=Qko (G:=G) (i:=0) (net:=G.net) (e:=e) hfit
 have hG:(⟨G.l,G.net⟩:GS)=G:=rfl
 rw[hG] at hgc
 rw[hgc]
 refine⟨?_,rfl⟩
 show Qg7 ⟨G.l.set 0 _,_⟩ ((0:Nat):Int)=_
 rw[Qge]
 show((G.l.set 0 _)[0]?).bind _=_
 rw[List.getElem?_set_self (List.getElem?_eq_some_iff.1 hq).1]
 rfl
theorem AL.seat(a:AL g S G)(hu:Qg7 G 0=some X):∃q,G.l[0]? =some q/\q.node=some X/\CN 1 g S 0 X/\X.log.length<=S/\X.term<=S:=by
 have hu:Qg7 G ((0:Nat):Int)=some X:=hu
 rw[Qge] at hu
 cases hq:G.l[0]? with
 |none=>rw[hq] at hu;cases hu
 |some q=>
  rw[hq] at hu
  have hX:q.node=some X:=hu
  have u:=(a.h.seat 0 q hq).up X hX
  exact⟨q,rfl,hX,u.cn (a.x.node 0 q X hq hX),u.ni.d.lm.len a.h.few.lb,a.Q.tm 0 q X hq hX⟩
theorem AL.tick(a:AL g S G)(hS:S<600)(hu:Qg7 G 0=some X){r:Nat}:Qg7 (Qe8 r G 1) 0=some (Qae (Qah X (drw r 0)))/\∃g',AL g' (S+1) (Qe8 r G 1):=by
 obtain⟨q,hq,hX,c,hl,ht⟩:=a.seat hu
 obtain⟨g1,a1⟩:=a.step hS (s:=Qnd 0 r) (Nat.zero_le _)
 have e:Qe8 r G 1=(gDo G (Qnd 0 r)).1:=Qh4 (net_nil a1.x)
 have e2:gDo G (Qnd 0 r)=Qa7 G 0 q (Qah X (drw r 0)) 0:=gDo_tick (s:=Qnd 0 r) (i:=0) rfl rfl hq hX
 rw[e]
 refine⟨?_,g1,a1⟩
 rw[e2]
 obtain⟨g',B',I',si'⟩:=Qjt (draw:=drw r 0) a.h.gi c.si
 exact(a.fit hS hq (I':=I') (one_tick c.from_) (QmE c.bn) si'.ni.d.lm).1
theorem QmH(a:AL g S G0)(hS:S<=500)(hu:Qg7 G0 0=some X):∀r,r<=5->∃g' Z,AL g' (S+r) (stG 1 (G0,0) r).1/\(stG 1 (G0,0) r).2=0/\Qg7 (stG 1 (G0,0) r).1 0=some Z/\(Z.role=3\/(Z.role≠3/\(r:Int)<=Z.since/\r<=3))
 |0,_=>by
  obtain⟨q,hq,hX,c,hl,ht⟩:=a.seat hu
  refine⟨g,X,a,rfl,hu, ?_⟩
  by_cases h3:X.role=3
  ·exact .inl h3
  ·exact .inr ⟨h3,by have:=c.bn.s.1;omega,by omega⟩
 |r+1,hr=>by
  obtain⟨g1,Z,a1,d1,u1,w1⟩:=QmH a hS hu r (by omega)
  obtain⟨q,hq,hX,c,hl,ht⟩:=a1.seat u1
  obtain⟨t1,g2,a2⟩:=a1.tick (by omega) u1 (r:=r)
  have hdr:drw r 0=0:=by
   unfold drw
   have:r/20=0:=Nat.div_eq_of_lt (by omega)
   rw[this];rfl
  have e:stG 1 (G0,0) (r+1)=(Qe8 r (stG 1 (G0,0) r).1 1,(stG 1 (G0,0) r).2):=if_neg fun z=>by have:=z.2;omega
  rw[e]
  refine⟨g2,_,a2,d1,t1, ?_⟩
  rcases Qn5 (dr:=drw r 0) c (by omega) (by unfold Qjk;omega) hdr with z|⟨z1,z2,z3,z4⟩
  ·exact .inl z
  ·right
   rcases w1 with z|⟨_,z5,z6⟩
   ·exact absurd z z1
   ·refine⟨z4, ?_,by omega⟩
    show((r+1:Nat):Int)<=(Qah Z (drw r 0)).since
    rw[z3];omega
theorem ok_one{GA:GS}{dn:Int}(h0:0<dn)(h:commG GA 0=dn):okG 1 (GA,dn):=⟨h0,fun i hi=>by
 have:i=0:=by omega
 subst this
 exact Int.le_of_eq h.symm⟩
theorem alone_plain(a:AL g S G0)(hS:S<=500)(hu:Qg7 G0 0=some X):∃R,R<300/\okG 1 (stG 1 (G0,0) (R+1))/\∀r,r<=R->okG 1 (stG 1 (G0,0) (r+1))->(stG 1 (G0,0) (r+1)).1.net= []:=by
 obtain⟨g1,Z,a1,d1,u1,w1⟩:=QmH a hS hu 5 (Nat.le_refl _)
 have hZ:Z.role=3:=w1.resolve_right fun z=>by have:=z.2.2;omega
 obtain⟨q,hq,hX,c,hl,ht⟩:=a1.seat u1
 obtain⟨t1,g2,a2⟩:=a1.tick (by omega) u1 (r:=5)
 have hdr:drw 5 0=0:=rfl
 have h3:(Qah Z (drw 5 0)).role=3:=by
  rcases Qn5 (dr:=drw 5 0) c (by omega) (by unfold Qjk;omega) hdr with z|⟨z1,_⟩
  ·exact z
  ·exact absurd hZ z1
 obtain⟨q2,hq2,hX2,c2,hl2,ht2⟩:=a2.seat t1
 have hlead:QcA (Qe8 5 (stG 1 (G0,0) 5).1 1) 1=0:=by
  unfold QcA
  rw[show((0:Nat):Int)=0 from rfl,t1]
  exact if_pos ⟨h3,.inl (by decide:(-1:Int)<0)⟩
 obtain⟨p1,p2,p3⟩:=alone_pro (data:=xB) c2 h3 (by omega) (by decide)
 obtain⟨g3,a3⟩:=a2.step (by omega) (s:=Qne 0) (show xB.size<=100 by decide)
 have e2:gDo (Qe8 5 (stG 1 (G0,0) 5).1 1) (Qne 0)=Qa7 (Qe8 5 (stG 1 (G0,0) 5).1 1) 0 q2 (Qam (Qae (Qah Z (drw 5 0))) xB).1 (Qam (Qae (Qah Z (drw 5 0))) xB).2.2:=gDo_pro (s:=Qne 0) (i:=0) rfl rfl hq2 hX2
 obtain⟨g',B',I',si'⟩:=Qfl (data:=xB) a2.h.gi c2.si (by decide)
 obtain⟨f1,f2⟩:=a2.fit (by omega) hq2 (I':=I') (e:=(Qam (Qae (Qah Z (drw 5 0))) xB).2.2) (QiE c2.from_) ((QfW c2.bn).up (Nat.le_succ _) (Nat.le_refl _)) si'.ni.d.lm
 rw[<-e2] at f1 f2
 have e6:stG 1 (G0,0) (5+1)=((gDo (Qe8 5 (stG 1 (G0,0) 5).1 1) (Qne 0)).1,mx (stG 1 (G0,0) 5).2 (lastG (gDo (Qe8 5 (stG 1 (G0,0) 5).1 1) (Qne 0)).1 0)):=by
  show rdG 1 5 (stG 1 (G0,0) 5)=_
  unfold rdG
  rw[if_pos ⟨by rw[hlead];decide,rfl⟩,hlead,if_pos (f2.trans p1),Qh4 (net_nil a3.x)]
 have hlast:lastG (gDo (Qe8 5 (stG 1 (G0,0) 5).1 1) (Qne 0)).1 0=((Qah Z (drw 5 0)).log.length:Int)+1:=by
  unfold lastG
  rw[f1]
  show((Qam (Qae (Qah Z (drw 5 0))) xB).1.log.length:Int)=_
  rw[p2];rfl
 have hcomm:commG (gDo (Qe8 5 (stG 1 (G0,0) 5).1 1) (Qne 0)).1 0=((Qah Z (drw 5 0)).log.length:Int)+1:=by
  unfold commG
  rw[show((0:Nat):Int)=0 from rfl,f1]
  exact p3
 have hmx:mx (stG 1 (G0,0) 5).2 (lastG (gDo (Qe8 5 (stG 1 (G0,0) 5).1 1) (Qne 0)).1 0)=((Qah Z (drw 5 0)).log.length:Int)+1:=by
  rw[hlast,d1]
  unfold mx
  rw[if_pos (by omega)]
 have hnet:=net_nil a3.x
 rw[hmx] at e6
 generalize (gDo (Qe8 5 (stG 1 (G0,0) 5).1 1) (Qne 0)).1=GA at e6 hcomm hnet
 refine⟨5,by decide, ?_,fun r hr hok=> ?_⟩
 ·rw[e6]
  exact ok_one (by omega) hcomm
 ·by_cases h5:r=5
  ·subst h5
   rw[e6]
   exact hnet
  ·obtain⟨g4,Z4,a4,_⟩:=QmH a hS hu (r+1) (by omega)
   exact net_nil a4.x
end
section
theorem all_plain{k:Nat}(h1k:1<=k)(h7:k<=7){xs:List ST}(hf:xs.length<=400)(hd:∀s∈xs,s.data.size<=100):
  ∃R,R<300/\okG k (stG k (gBk (gRun (gNew k) xs) k,0) (R+1))/\∀r,r<=R->okG k (stG k (gBk (gRun (gNew k) xs) k,0) (r+1))->(stG k (gBk (gRun (gNew k) xs) k,0) (r+1)).1.net= []:=by
 obtain⟨g1,a1,a2,a3⟩:=gRun_q xs (QlF h1k h7) (gx_new h1k) (gNew_q k) (by omega) hd
 rw[Nat.zero_add] at a1 a3
 obtain⟨g2,b1,b2,b3,b4,b5⟩:=back_all a1 a2 a3 (a1.few.mono hf) (by omega)
 by_cases hk:2<=k
 ·obtain⟨C,rel,c⟩:=b1.cinv b2 b5
  exact goes_plain hk rel c b3 b4 (by omega)
 ·have e:k=1:=by omega
  subst e
  have hl:0<(gBk (gRun (gNew 1) xs) 1).l.length:=by rw[b1.len];omega
  have hq:=List.getElem?_eq_getElem hl
  have hu:∃X,Qg7 (gBk (gRun (gNew 1) xs) 1) 0=some X:=by
   cases hX:(gBk (gRun (gNew 1) xs) 1).l[0].node with
   |none=>exact absurd hX (b5 _ (List.getElem_mem hl))
   |some X=>
    refine⟨X, ?_⟩
    show Qg7 _ ((0:Nat):Int)=_
    rw[Qge,hq]
    exact hX
  obtain⟨X,hu⟩:=hu
  exact alone_plain ⟨b1,b2,b3⟩ (by omega) hu
end
section
set_option maxRecDepth 1000000
open Go
def Qf4(n:Int)(l:Sl)(h:Heap)(R:Bool->Heap->Prop):Prop:=QeF h fun(r:Bool) h_=>(bif !r then R false h_ else Qgw l h_ fun(r1:Bool) h_1=>(bif !r1 then R true h_1 else Nz 7 (Let (IntKind.i64.wrap (1+(IntKind.i64.wrap (divV .rem .u8 n 7))):Int) fun k=>QdU k h_1 fun(r2:Option Addr) h_2=>QdV r2 l h_2 fun h_3=>Qf9 [.one (.int .i64)] (fun _ (x30:Int) h_4 go=>(bif decide (x30<k) then Qaq r2 (7,x30,0,0,0,0,0,(⟨#[]⟩:ByteArray),()) h_4 fun(r3:Int) h_5=>go (IntKind.i64.wrap (x30+1)) h_5 else Qf9 [.one (.int .i64),.one (.int .i64)] (fun _ (done:Int) (x38:Int) h_6 go1=>(bif decide (x38<300) then Qf9 [.one (.int .i64)] (fun _ (x42:Int) h_7 go2=>(bif decide (x42<k) then Nz 20 (Nz 4 (Qaq r2 (1,x42,0,divV .rem .i64 (IntKind.i64.wrap (x42+(divV .quo .i64 x38 20))) 4,0,0,0,(⟨#[]⟩:ByteArray),()) h_7 fun(r4:Int) h_8=>QbG r2 20000 h_8 fun(r5:Int) h_9=>go2 (IntKind.i64.wrap (x42+1)) h_9)) else Qb3 r2 h_7 fun(r6:Int) (r7:Bool) h_10=>Qie [.one .bool] (fun _ (x67:Bool) h_11=>Qie [.one (.int .i64)] (fun _ (done1:Int) h_12=>Let (decide (done1>0):Bool) fun all=>Qf9 [.one .bool,.one (.int .i64)] (fun _ (all1:Bool) (x84:Int) h_13 go3=>(bif decide (x84<k) then(bif all1 then QaE r2 x84 h_13 fun(r8:Option Addr) h_14=>Qct r8 h_14 fun(r9:Int) h_15=>Let (decide (r9>=done1):Bool) fun all2=>go3 all2 (IntKind.i64.wrap (x84+1)) h_15 else go3 false (IntKind.i64.wrap (x84+1)) h_13) else(bif all1 then QcV r2 h_13 fun(r10:Sl) h_16=>R ((r10.n:Int)==0) h_16 else go1 done1 (IntKind.i64.wrap (x38+1)) h_13))) (all,0,()) h_12) fun J1=>(bif x67 then Qaq r2 (5,r6,0,0,0,0,0,(⟨#[120]⟩:ByteArray),()) h_11 fun(r11:Int) h_17=>(bif r11==0 then QaE r2 r6 h_17 fun(r12:Option Addr) h_18=>Qa6 r12 h_18 fun(r13:Int) h_19=>Let (if r13>done then r13 else done:Int) fun done2=>QbG r2 20000 h_19 fun(r14:Int) h_20=>J1 done2 h_20 else QbG r2 20000 h_17 fun(r15:Int) h_21=>J1 done h_21) else J1 done h_11)) fun J=>(bif r7 then Nz 10 (J ((divV .rem .i64 x38 10)==5) h_10) else J false h_10))) (0,()) h_6 else R false h_6)) (0,0,()) h_4)) (0,()) h_3)))
theorem QkF{n:Int}{l:Sl}{h:Heap}{R:Bool->Heap->Prop}(hs:Qf4 n l h R):Qga n l h R:=Qbb (an:= [(1018,[(30,.one (.int .i64))]),(4090,[(8,.one (.int .i64)),(38,.one (.int .i64))]),(2094282,[(42,.one (.int .i64))]),(4188570,[(67,.one .bool)]),(4188571,[(8,.one (.int .i64))]),(16754298,[(13,.one .bool),(84,.one (.int .i64))])]) Tryz.func7 (by kernel_rfl) (by kernel_rfl) hs
def QjG(h:Heap)(R:Bool->Heap->Prop):Prop:=QdU 1 h fun(r:Option Addr) h_=>Qf9 [.one (.int .i64)] (fun _ (x11:Int) h_1 go=>(bif decide (x11<4) then Qaq r (1,0,0,0,0,0,0,(⟨#[]⟩:ByteArray),()) h_1 fun(r1:Int) h_2=>go (IntKind.i64.wrap (x11+1)) h_2 else Qb3 r h_1 fun(r2:Int) (r3:Bool) h_3=>Qaq r (5,0,0,0,0,0,0,(⟨#[120]⟩:ByteArray),()) h_3 fun(r4:Int) h_4=>Qaq r (6,0,0,0,3, -1,0,(⟨#[]⟩:ByteArray),()) h_4 fun(r5:Int) h_5=>Qaq r (1,0,0,0,0,0,0,(⟨#[]⟩:ByteArray),()) h_5 fun(r6:Int) h_6=>Qaq r (7,0,0,0,0,0,0,(⟨#[]⟩:ByteArray),()) h_6 fun(r7:Int) h_7=>Qaq r (7,0,0,0,0,0,0,(⟨#[]⟩:ByteArray),()) h_7 fun(r8:Int) h_8=>(bif r3 then(bif r2==0 then(bif r4==0 then(bif r5==0 then(bif r6==12 then(bif r7==0 then(bif r8==8 then QaE r 0 h_8 fun(r9:Option Addr) h_9=>Qa6 r9 h_9 fun(r10:Int) h_10=>(bif r10==2 then Qaq r (99,0,0,0,0,0,0,(⟨#[]⟩:ByteArray),()) h_10 fun(r11:Int) h_11=>(bif r11==1 then Qaq r (3,0,0,0,0,0,0,(⟨#[]⟩:ByteArray),()) h_11 fun(r12:Int) h_12=>(bif r12==6 then QdU 0 h_12 fun(r13:Option Addr) h_13=>(bif r13.isNone then Qaq none (0,0,0,0,0,0,0,(⟨#[]⟩:ByteArray),()) h_13 fun(r14:Int) h_14=>(bif r14==1 then QbL none h_14 fun(r15:Int) h_15=>(bif r15==0 then QdE r 0 h_15 fun(r16:Option Addr) h_16=>Qe3 r16 h_16 fun(r17:Int) h_17=>R (decide (r17>0)) h_17 else R false h_15) else R false h_14) else R false h_13) else R false h_12) else R false h_11) else R false h_10) else R false h_8) else R false h_8) else R false h_8) else R false h_8) else R false h_8) else R false h_8) else R false h_8))) (0,()) h_
theorem A_law10_fixed{h:Heap}{R:Bool->Heap->Prop}(hs:QjG h R):QeF h R:=Qbb (an:= [(58,[(11,.one (.int .i64))])]) Tryz.func8 (by kernel_rfl) (by kernel_rfl) hs
def QmN(l:Sl)(h:Heap)(R:Bool->Heap->Prop):Prop:=Qf9 [.one (.int .i64)] (fun _ (x7:Int) h_ go=>(bif decide (x7<(l.n:Int)) then Ix l x7 8 fun e=>Ld (.int .i64) h_ e fun(x_Kind:Int)=>Ld (.int .i64) h_ (e.add 1) fun(x_Node:Int)=>Ld (.int .i64) h_ (e.add 2) fun(x_I:Int)=>Ld (.int .i64) h_ (e.add 3) fun(x_Draw:Int)=>Ld (.int .i64) h_ (e.add 4) fun(x_Keep:Int)=>Ld (.int .i64) h_ (e.add 5) fun(x_At:Int)=>Ld (.int .u8) h_ (e.add 6) fun(x_By:Int)=>Ld .str h_ (e.add 7) fun(x_Data:ByteArray)=>QaG h_ (.cells #[.int .i64 0,.int .i64 0,.int .i64 0,.int .i64 0,.int .i64 0,.int .i64 0,.int .u8 0,.string (⟨#[]⟩:ByteArray)] 30) fun s h_1=>St h_1 s (.int .i64 x_Kind) fun h_2=>St h_2 (s.add 1) (.int .i64 x_Node) fun h_3=>St h_3 (s.add 2) (.int .i64 x_I) fun h_4=>St h_4 (s.add 3) (.int .i64 x_Draw) fun h_5=>St h_5 (s.add 4) (.int .i64 x_Keep) fun h_6=>St h_6 (s.add 5) (.int .i64 x_At) fun h_7=>St h_7 (s.add 6) (.int .u8 x_By) fun h_8=>St h_8 (s.add 7) (.string x_Data) fun h_9=>Ld .str h_9 (s.add 7) fun(Data:ByteArray)=>(bif decide ((Data.size:Int)>100) then R false h_9 else go (IntKind.i64.wrap (x7+1)) h_9) else R (decide ((l.n:Int)<=400)) h_)) (0,()) h
theorem A_law10_few{l:Sl}{h:Heap}{R:Bool->Heap->Prop}(hs:QmN l h R):Qgw l h R:=Qbb (an:= [(26,[(7,.one (.int .i64))])]) Tryz.func9 (by kernel_rfl) (by kernel_rfl) hs
end
section
open Go
def fewP(xs:List ST):Prop:=(∀s∈xs,s.data.size<=100)/\xs.length<=400
instance (xs:List ST):Decidable (fewP xs):=by unfold fewP;infer_instance
theorem law10_few_ok{h:Heap}{sl:Sl}{xs:List ST}{R:Bool->Heap->Prop}(A:RdS h 8 sl (eSTP.fl xs))(hl:xs.length<=1000000000000000)(hR:∀h',Ext h.size h h'->R (decide (fewP xs)) h'):Qgw sl h R:=by
 refine A_law10_few ?_
 unfold QmN
 have hn:=rdn A
 have H:=At.start h
 refine Qhl (s1:= .one (.int .i64)) (fun(y:Int) h1=>∃j:Nat,y=j/\j<=xs.length/\(∀s∈xs.take j,s.data.size<=100)/\At h h1 []) (fun(y:Int) _=>(xs.length -y).toNat)
  ⟨0,rfl,Nat.zero_le _,(fun s hs=>by cases hs),H⟩ fun _ (y:Int) h1 hI=> ?_
 obtain⟨j,rfl,hj,hall,H⟩:=hI
 refine brD (fun hc=> ?_) fun hc=> ?_
 ·have hj2:j<xs.length:=by omega
  have A1:=H.arg A
  refine ixR A1 j rfl hj2 fun e he=>ld8E A1 he hj2 ?_
  refine Qaj (cs:=stS s0) H fun h2 b H=> ?_
  refine st8B (s:=xs[j]) H fun h3 H=>Qap (j:=7) H 0 rfl xs[j].data rfl (brD (fun hb=> ?_) fun hb=> ?_)
  ·have:=hR h3 H.ext
   rwa[decide_eq_false (fun x=>by have:=x.1 _ (List.getElem_mem hj2);omega)] at this
  ·rw[w64 (by omega) (by omega)]
   refine⟨⟨j+1,by omega,by omega,fun s hs=> ?_,H.tail⟩,by omega⟩
   rw[List.take_add_one,List.getElem?_eq_getElem hj2] at hs
   rcases List.mem_append.1 hs with hs|hs
   ·exact hall s hs
   ·rw[List.mem_singleton.1 hs];omega
 ·have hjl:j=xs.length:=by omega
  rw[hjl,List.take_length] at hall
  have:=hR h1 H.ext
  have e:decide ((sl.n:Int)<=400)=decide (fewP xs):=by
   rw[decide_eq_decide]
   exact⟨fun x=>⟨hall,by omega⟩,fun x=>by have:=x.2;omega⟩
  rw[e];exact this
def sT:ST:=⟨1,0,0,0,0,0,0,⟨#[]⟩⟩
def sP:ST:=⟨5,0,0,0,0,0,0,⟨#[120]⟩⟩
def sC:ST:=⟨6,0,0,0,3, -1,0,⟨#[]⟩⟩
def sR:ST:=⟨7,0,0,0,0,0,0,⟨#[]⟩⟩
def jwN(i:Int):RN:={Ql9 0 1 4 2 0 (-1) [] with since:=i}
def yA:RN:=Qah (jwN 3) 0
def yB:RN:=(Qam (Qae yA) ⟨#[120]⟩).1
theorem yA_out:yA.out= []:=by kernel_rfl
theorem yA_log:yA.log= [⟨1,⟨#[]⟩⟩]:=by kernel_rfl
theorem yB_code:(Qam (Qae yA) ⟨#[120]⟩).2.2=0:=by kernel_rfl
theorem yB_out:yB.out= []:=by kernel_rfl
theorem yB_log:yB.log= [⟨1,⟨#[]⟩⟩,⟨1,⟨#[120]⟩⟩]:=by kernel_rfl
theorem Qoe:∀(rs:List WRec) (b:List UInt8),b.length+(Qao rs).length<=1048576->wrM b rs=(b++Qao rs,true)
 | [],b,_=>by show(b,true)=(b++ [],true);rw[List.append_nil]
 |r::rs,b,h=>by
  rw[Qbs,List.length_append] at h
  unfold wrM
  rw[if_neg (by omega),Qoe rs (b++Qgi r) (by rw[List.length_append];omega),Qbs,List.append_assoc]
set_option maxRecDepth 100000 in
theorem QnV{Y:RN}(hd:∀e∈Y.log,e.data.size<=512):(Qao (Qav Y)).length<=(Y.log.length+1)*627:=by
 unfold Qav
 split
 ·exact Nat.zero_le _
 ·have h1:=savR_size (s:=QcY Y) fun e he=>by
   obtain⟨x,hx,rfl⟩:=List.mem_map.1 he
   rw[Qlv]
   have hx2:x∈Y.log:=by
    unfold Qbr at hx
    split at hx
    ·exact Qjq hx
    ·cases hx
   have:=hd x hx2
   omega
  have h2:(QcY Y).es.length<=Y.log.length:=by
   show((Qbr Y).map toE).length<=_
   rw[List.length_map]
   unfold Qbr Qgr
   split
   ·rw[List.length_take,List.length_drop];omega
   ·exact Nat.zero_le _
  have h3:((QcY Y).es.length+1)*627<=(Y.log.length+1)*627:=Nat.mul_le_mul_right _ (by omega)
  omega
def bA:List UInt8:=Qao (Qav yA)
def bB:List UInt8:=bA++Qao (Qav yB)
theorem yA_d:∀e∈yA.log,e.data.size<=512:=by
 rw[yA_log];intro e he;rw[List.mem_singleton.1 he];decide
theorem yB_d:∀e∈yB.log,e.data.size<=512:=by
 rw[yB_log];intro e he
 rcases List.mem_cons.1 he with rfl|he
 ·decide
 ·rw[List.mem_singleton.1 he];decide
theorem bA_len:bA.length<=1254:=by
 have:=QnV yA_d
 rw[yA_log] at this
 exact this
theorem bB_len:bB.length<=3135:=by
 have:=QnV yB_d
 rw[yB_log] at this
 have h1:=bA_len
 unfold bB
 rw[List.length_append]
 have h2:(Qao (Qav yB)).length<=1881:=this
 omega
theorem Qd6(i:Int)(h:i=0\/i=1\/i=2):gDo ⟨[⟨some (jwN i),[],0⟩],[]⟩ sT=(⟨[⟨some (jwN (i+1)),[],0⟩],[]⟩,0):=by
 rcases h with rfl|rfl|rfl<;>kernel_rfl
theorem comes_eq{G:GS}{i:Nat}{q:GN}{Y:RN}{e:Int}{b':List UInt8}(hw:wrM q.b (Qav Y)=(b',true))(ho:Y.out= [])(hn:G.net= []):Qa7 G i q Y e=(⟨G.l.set i ⟨some (Qae Y),b',b'.length⟩,[]⟩,e):=by
 unfold Qa7
 rw[hw]
 rw[if_pos rfl,ho,hn]
 rfl
theorem tick_eq(X:RN)(b:List UInt8)(n:Nat):gDo ⟨[⟨some X,b,n⟩],[]⟩ sT=Qa7 ⟨[⟨some X,b,n⟩],[]⟩ 0 ⟨some X,b,n⟩ (Qah X 0) 0:=rfl
theorem propose_eq(X:RN)(b:List UInt8)(n:Nat):gDo ⟨[⟨some X,b,n⟩],[]⟩ sP=Qa7 ⟨[⟨some X,b,n⟩],[]⟩ 0 ⟨some X,b,n⟩ (Qam X ⟨#[120]⟩).1 (Qam X ⟨#[120]⟩).2.2:=rfl
theorem jwA:wrM [] (Qav yA)=(bA,true):=by
 have h:(Qao (Qav yA)).length<=1254:=bA_len
 rw[Qoe (Qav yA) [] (by rw[List.length_nil];omega),List.nil_append]
 rfl
theorem wB:wrM bA (Qav yB)=(bB,true):=by
 have h:=bB_len
 unfold bB at h
 rw[List.length_append] at h
 rw[Qoe (Qav yB) bA (by omega)]
 rfl
theorem lead_step:gDo ⟨[⟨some (jwN 3),[],0⟩],[]⟩ sT=(⟨[⟨some (Qae yA),bA,bA.length⟩],[]⟩,0):=by
 rw[tick_eq]
 exact comes_eq (q:=⟨some (jwN 3),[],0⟩) (Y:=yA) jwA yA_out rfl
theorem prop_step:gDo ⟨[⟨some (Qae yA),bA,bA.length⟩],[]⟩ sP=(⟨[⟨some (Qae yB),bB,bB.length⟩],[]⟩,0):=by
 rw[propose_eq,yB_code]
 exact comes_eq (q:=⟨some (Qae yA),bA,bA.length⟩) (Y:=yB) wB yB_out rfl
theorem QnZ:gDo ⟨[⟨some (Qae yB),bB,bB.length⟩],[]⟩ sC=(⟨[⟨none,bB,bB.length⟩],[]⟩,0):=by
 show(GS.mk [⟨none,Qc3 bB bB.length 3 (-1) 0,bB.length⟩] [],(0:Int))=_
 obtain⟨kp,a,hcr⟩:=QfT (b:=bB) (t:= []) (keep:=3) (at_:= -1) (c:=0)
 rw[List.append_nil,List.take_nil,QfE,List.append_nil] at hcr
 rw[hcr]
theorem down_eq(b:List UInt8)(n:Nat):gDo ⟨[⟨none,b,n⟩],[]⟩ sT=(⟨[⟨none,b,n⟩],[]⟩,12):=rfl
theorem down_step:gDo ⟨[⟨none,bB,bB.length⟩],[]⟩ sT=(⟨[⟨none,bB,bB.length⟩],[]⟩,12):=down_eq _ _
def gA:GS:=⟨[⟨some (Qae yA),bA,bA.length⟩],[]⟩
def gB:GS:=⟨[⟨some (Qae yB),bB,bB.length⟩],[]⟩
def gC:GS:=⟨[⟨none,bB,bB.length⟩],[]⟩
theorem QgE{k S:Nat}{G G':GS}{c:Int}{s:ST}(hs:s.data.size<=100)(h:∃g,GInv k g S G)(e:gDo G s=(G',c)):∃g,GInv k g (S+1) G':=by
 obtain⟨g,I⟩:=h
 obtain⟨g',_,I'⟩:=Qhv I s hs
 rw[e] at I'
 exact⟨g',I'⟩
theorem inv0:∃g,GInv 1 g 0 ⟨[⟨some (jwN 0),[],0⟩],[]⟩:=⟨_,QlF (Nat.le_refl _) (by decide)⟩
theorem inv3:∃g,GInv 1 g 3 ⟨[⟨some (jwN 3),[],0⟩],[]⟩:=QgE (by decide) (QgE (by decide) (QgE (by decide) inv0 (Qd6 0 (by omega))) (Qd6 1 (by omega))) (Qd6 2 (by omega))
theorem invA:∃g,GInv 1 g 4 gA:=QgE (by decide) inv3 lead_step
theorem invB:∃g,GInv 1 g 5 gB:=QgE (by decide) invA prop_step
theorem invC:∃g,GInv 1 g 6 gC:=QgE (by decide) invB QnZ
theorem backB:∃rs:List WRec,bB=Qao rs/\(∀r∈rs,r.ok)/\Qg1 rs=some (Qj6 (Qae yB))/\0<bB.length:=by
 obtain⟨g,I⟩:=invB
 have u:=(I.seat 0 _ rfl).up _ rfl
 obtain⟨rs,h1,h2,h3⟩:=u.dk
 have h2:bB=Qao rs:=h2
 refine⟨rs,h2,h1, ?_, ?_⟩
 ·unfold Qg1
  rw[h3]
  simp only
  have z:=u.bn.sz
  have hr:Ql1 (Qj6 (Qae yB))=true:=(rts_of z u.ni.d ⟨z.t0,z.t1⟩ ⟨z.v0,z.v1⟩ z.n z.d).right
  rw[if_pos hr]
 ·rw[h2]
  cases rs with
  |nil=>
   have h3:some st0=some (Qj6 (Qae yB)):=h3
   injection h3 with h3
   have:=congrArg (fun s:Stt=>s.es.length) h3
   have e:(Qj6 (Qae yB)).es.length=yB.log.length:=List.length_map ..
   have this:st0.es.length=(Qj6 (Qae yB)).es.length:=this
   rw[e,yB_log] at this
   exact absurd this (by decide)
  |cons r rs=>
   rw[Qbs,List.length_append,QdL];omega
def gD:GS:=⟨[⟨some (Qnm 1 0 (Qj6 (Qae yB))),bB,bB.length⟩],[]⟩
theorem restart_eq(b:List UInt8)(n:Nat):gDo ⟨[⟨none,b,n⟩],[]⟩ sR=QbW ⟨[⟨none,b,n⟩],[]⟩ 0 ⟨none,b,n⟩:=rfl
theorem back_eq{b:List UInt8}{n:Nat}{rs:List WRec}{st:Stt}{e:Int}(hw:QdG b=(rs,b.length,e))(hp:Qg1 rs=some st):gDo ⟨[⟨none,b,n⟩],[]⟩ sR=(⟨[⟨some (Qnm 1 0 st),b,b.length⟩],[]⟩,0):=by
 rw[restart_eq]
 unfold QbW
 simp only
 rw[hw]
 simp only
 rw[hp]
 simp only
 rw[List.take_length]
 rfl
theorem QnR:gDo gC sR=(gD,0):=by
 obtain⟨rs,h1,h2,h3,h4⟩:=backB
 have hw:=walR_recs h2
 rw[<-h1] at hw
 exact back_eq hw h3
theorem Qom(X:RN)(b:List UInt8)(n:Nat):gDo ⟨[⟨some X,b,n⟩],[]⟩ sR=(⟨[⟨some X,b,n⟩],[]⟩,8)/\gDo ⟨[⟨some X,b,n⟩],[]⟩ ⟨99,0,0,0,0,0,0,⟨#[]⟩⟩=(⟨[⟨some X,b,n⟩],[]⟩,1)/\gDo ⟨[⟨some X,b,n⟩],[]⟩ ⟨3,0,0,0,0,0,0,⟨#[]⟩⟩=(⟨[⟨some X,b,n⟩],[]⟩,6):=⟨rfl,rfl,rfl⟩
theorem again_step:gDo gD sR=(gD,8):=(Qom _ _ _).1
theorem odd_step:gDo gD ⟨99,0,0,0,0,0,0,⟨#[]⟩⟩=(gD,1):=(Qom _ _ _).2.1
theorem drop_step:gDo gD ⟨3,0,0,0,0,0,0,⟨#[]⟩⟩=(gD,6):=(Qom _ _ _).2.2
theorem last_D:((Qg7 gD 0).map fun X=>(X.log.length:Int)).getD 0=2:=by
 show((Qnm 1 0 (Qj6 (Qae yB))).log.length:Int)=2
 show(((yB.log.map toE).map toR).length:Int)=2
 rw[List.length_map,List.length_map,yB_log];rfl
theorem lead_A:QcA gA 1=0:=by kernel_rfl
theorem invD:∃g,GInv 1 g 8 gD:=QgE (by decide) (QgE (by decide) invC down_step) QnR
theorem group_Do_nil{h:Heap}{R:Int->Heap->Prop}{s:ST}(hR:∀h',Ext h.size h h'->R 1 h'):Qaq none (s.kind,s.node,s.i,s.draw,s.keep,s.at_,(s.by_.toNat:Int),s.data,()) h R:=by
 refine QgY ?_
 unfold Qel
 exact Qaj (cs:=stS s) (At.start h) fun h' b H=>brT (hR h' H.ext)
theorem Qnl{hB:Heap}{R:Bool->Heap->Prop}(hR:∀h',Ext hB.size hB h'->R true h'):QeF hB R:=by
 refine A_law10_fixed ?_
 unfold QjG
 refine Qhs (At.start hB) (fun hb=>absurd hb (by decide)) fun k hk _ _ h1 gp H=> ?_
 obtain rfl:k=1:=by omega
 have do_:∀{h:Heap} {G:GS} {S:Nat} {s:ST} {G':GS} {c:Int} {K:Int->Heap->Prop},GroupH hB h gp G [] []->(∃g,GInv 1 g S G)->S<=1000000000->gDo G s=(G',c)->(∀h',GroupH hB h' gp G' [] []->K c h')->Qaq (some ⟨gp,0,none⟩) (s.kind,s.node,s.i,s.draw,s.keep,s.at_,(s.by_.toNat:Int),s.data,()) h K:=fun{h G S s G' c K} H hI hS e hK=>by
  obtain⟨g,I⟩:=hI
  refine QdO (s:=s) H I hS fun h' H=> ?_
  rw[e] at H⊢
  exact hK h' H
 refine Qhl (s1:= .one (.int .i64)) (fun(y:Int) h2=>(0<=y/\y<=3/\GroupH hB h2 gp ⟨[⟨some (jwN y),[],0⟩],[]⟩ [] []/\∃(S:Nat) (g:GH),S<=10/\GInv 1 g S ⟨[⟨some (jwN y),[],0⟩],[]⟩)\/(y=4/\GroupH hB h2 gp gA [] [])) (fun(y:Int) _=>(4 -y).toNat)
  (.inl ⟨Int.le_refl _,by decide,H,0,inv0.elim fun g I=>⟨g,by decide,I⟩⟩) fun _ (y:Int) h2 hI=> ?_
 rcases hI with⟨y0,y3,H,S,g,hS,I⟩|⟨rfl,H⟩
 ·refine brD (fun _=> ?_) fun hc=>absurd (show y<4 by omega) hc
  rw[w64 (by omega) (by omega)]
  by_cases e3:y=3
  ·subst e3
   refine do_ (s:=sT) H inv3 (by decide) lead_step fun h3 H=> ?_
   exact⟨.inr ⟨by decide,H⟩,by decide⟩
  ·have hy:y=0\/y=1\/y=2:=by omega
   refine do_ (s:=sT) H ⟨g,I⟩ (by omega) (Qd6 y hy) fun h3 H=> ?_
   obtain⟨g',I'⟩:=QgE (by decide) ⟨g,I⟩ (Qd6 y hy)
   refine⟨.inl ⟨by omega,by omega,H, ?_⟩,by omega⟩
   rcases hy with rfl|rfl|rfl
   ·obtain⟨g,I⟩:=QgE (by decide) inv0 (Qd6 0 (by omega));exact⟨1,g,by decide,I⟩
   ·obtain⟨g,I⟩:=QgE (by decide) (QgE (by decide) inv0 (Qd6 0 (by omega))) (Qd6 1 (by omega));exact⟨2,g,by decide,I⟩
   ·obtain⟨g,I⟩:=inv3;exact⟨3,g,by decide,I⟩
 ·refine brN (by decide) ?_
  obtain⟨gx,IA⟩:=invA
  refine Qht H IA ?_
  rw[lead_A]
  refine do_ (s:=sP) H invA (by decide) prop_step fun h3 H=> ?_
  refine do_ (s:=sC) H invB (by decide) QnZ fun h4 H=> ?_
  refine do_ (s:=sT) H invC (by decide) down_step fun h5 H=> ?_
  refine do_ (s:=sR) H invC (by decide) QnR fun h6 H=> ?_
  refine do_ (s:=sR) H invD (by decide) again_step fun h7 H=> ?_
  refine brY rfl (brY rfl (brY rfl (brY rfl (brY rfl (brY rfl (brY rfl ?_))))))
  obtain⟨gd,ID⟩:=invD
  refine H.nodeV ID fun r V=>V.last _ ?_
  rw[last_D]
  refine brY rfl ?_
  refine do_ (s:=⟨99,0,0,0,0,0,0,⟨#[]⟩⟩) H invD (by decide) odd_step fun h8 H=>brY rfl ?_
  refine do_ (s:=⟨3,0,0,0,0,0,0,⟨#[]⟩⟩) H invD (by decide) drop_step fun h9 H=>brY rfl ?_
  refine Qhs (At.start h9) (fun _=> ?_) fun k hk h1 _=>absurd hk (by omega)
  refine brY rfl (group_Do_nil (s:=s0) fun h10 e10=>brY rfl ?_)
  refine Qgc ?_
  unfold QdR
  refine brT (brY rfl ?_)
  have H:GroupH hB h10 gp gD [] []:=by
   obtain⟨L,H,back⟩:=H.un
   exact back h10 [] (H.ext' e10)
  obtain⟨a,d,dk,dty,ds,O,hgp,A,hn,_,hj,ho,HR,hF,back1,back0⟩:=H.run (i:=0) rfl rfl
  subst hgp
  have HA:=HR.ats
  have HL:=HA
  unfold QaI at HA
  refine Disk_core HA (fun hb=> ?_) fun j st hij hst=> ?_
  ·have:=(List.getElem?_eq_some_iff.1 hj).1
   omega
  ·obtain rfl:j=0:=by omega
   rw[hj] at hst
   injection hst with hst
   subst hst
   unfold QbV at HA
   refine disk_Len_ok (d:=dk) (ty:=dty) (s:=ds) (b:=bB) (n:=bB.length) (HA.mv 5 2) ?_
   obtain⟨rs,_,_,_,h4⟩:=backB
   rw[decide_eq_true (by omega)]
   exact hR h10 HL.ext
end
section
open Go
section
open Go.ChangeShapes Go.WideShapes
variable {H:Type}{enc:TypeId×Value->H}{w:World}{b0:Nat}{v:Value}{d:DataW H}{ps:List MemPlace}
set_option maxRecDepth 100000 in
theorem els_step:ElS enc Tryz.prog w 30 fun cs=>∃a:ST,cs=stS a/\True:=by
 refine els_st Tryz.underlying30 fun cs hl hf=> ?_
 have hl3:cs.length=8:=hl.trans (by kernel_rfl)
 match cs,hl3 with
 | [c0,c1,c2,c3,c4,c5,c6,c7],_=>
  obtain⟨_,_,h0,_⟩:=hf 0 _ rfl
  obtain⟨_,_,h1,_⟩:=hf 1 _ rfl
  obtain⟨_,_,h2,_⟩:=hf 2 _ rfl
  obtain⟨_,_,h3,_⟩:=hf 3 _ rfl
  obtain⟨_,_,h4,_⟩:=hf 4 _ rfl
  obtain⟨_,_,h5,_⟩:=hf 5 _ rfl
  obtain⟨_,_,h6,_⟩:=hf 6 _ rfl
  obtain⟨_,x7,h7,f7⟩:=hf 7 _ rfl
  obtain⟨n0,e0,_⟩:=Qmx Tryz.underlying3 _ _ _ h0
  obtain⟨n1,e1,_⟩:=Qmx Tryz.underlying3 _ _ _ h1
  obtain⟨n2,e2,_⟩:=Qmx Tryz.underlying3 _ _ _ h2
  obtain⟨n3,e3,_⟩:=Qmx Tryz.underlying3 _ _ _ h3
  obtain⟨n4,e4,_⟩:=Qmx Tryz.underlying3 _ _ _ h4
  obtain⟨n5,e5,_⟩:=Qmx Tryz.underlying3 _ _ _ h5
  obtain⟨n6,e6,w6⟩:=Qmx Tryz.underlying5 _ _ _ h6
  obtain⟨s7,e7,_⟩:=els_str Tryz.underlying9 _ _ _ h7 f7
  obtain⟨b6,hb6⟩:∃b:UInt8,n6=(b.toNat:Int):=by
   have:=wf_u8 w6
   exact⟨UInt8.ofNat n6.toNat,by rw[UInt8.toNat_ofNat'];omega⟩
  subst hb6
  have e0': [c0]= [Value.int .i64 n0]:=e0
  have e1': [c1]= [Value.int .i64 n1]:=e1
  have e2': [c2]= [Value.int .i64 n2]:=e2
  have e3': [c3]= [Value.int .i64 n3]:=e3
  have e4': [c4]= [Value.int .i64 n4]:=e4
  have e5': [c5]= [Value.int .i64 n5]:=e5
  have e6': [c6]= [Value.int .u8 (b6.toNat:Int)]:=e6
  have e7': [c7]= [Value.string s7]:=e7
  simp only[List.cons.injEq,and_true] at e0' e1' e2' e3' e4' e5' e6' e7'
  subst e0' e1' e2' e3' e4' e5' e6' e7'
  exact⟨⟨n0,n1,n2,n3,n4,n5,b6,s7⟩,rfl,trivial⟩
set_option maxRecDepth 100000 in
theorem args_steps(hval:Value.okWide Tryz.prog w .any b0 22 v)(hd:DataW.Trod enc Tryz.prog w 0 (fun _=>true) true 22 v d ps)(hf:Fits Tryz.prog 22 d):
  ∃(s:Sl) (xs:List ST),v=s.v/\(RdS w.heap 8 s (eSTP.fl xs)/\xs.length<=140737488351232):=by
 obtain⟨s,css,h1,_,h3,h4,_,hcc⟩:=args_sl (sz:=8) Tryz.underlying22 (by kernel_rfl) (by decide) (of_decide_eq_true (by kernel_rfl)) els_step hval hd hf
 obtain⟨xs,h6,_,_⟩:=cells_of eSTP.cells _ fun c hc=>(h3 c hc).2
 rw[h6] at h4
 have hn:=rdn h4.rd
 have hc:=h4.le
 exact⟨s,xs,h1,h4.rd,by omega⟩
end
section
variable {hB h:Heap}{F:List Res}{gp k S:Nat}{g:GH}{G:GS}{q:GN}{X:RN}{s:ST}{n:Int}{l:Sl}{xs:List ST}
theorem law_open{m:Int}{R:Bool->Heap->Prop}{body:Int->Option Addr->Heap->Prop}(hm:1<=m/\m<=7)(w0:0<=n/\n<=255)(A:RdS hB 8 l (eSTP.fl xs))(hl:xs.length<=140737488351232)(hR:∀h',Ext hB.size hB h'->R true h')
  (hb:fewP xs->∀k:Nat,1<=k->k<=7->∀h' gp,GroupH hB h' gp (gNew k) [] []->body k (some ⟨gp,0,none⟩) h'):
  QeF hB fun(r:Bool) h_=>(bif !r then R false h_ else Qgw l h_ fun(r1:Bool) h_1=>(bif !r1 then R true h_1 else Nz m (Let (IntKind.i64.wrap (1+(IntKind.i64.wrap (divV .rem .u8 n m))):Int) fun k=>QdU k h_1 fun(r2:Option Addr) h_2=>body k r2 h_2))):=by
 refine Qnl fun h1 e1=>brN rfl ?_
 refine law10_few_ok (A.ext' e1) (by omega) fun h2 e2=> ?_
 have E2:Ext hB.size hB h2:=e1.trans (e2.mono e1.1)
 refine brNot (fun _=>hR h2 E2) fun hf=>nz (by omega) (QbF ?_)
 have hf:=of_decide_eq_true hf
 have hr0:=Int.emod_nonneg n (show m≠0 by omega)
 have hr1:=Int.emod_lt_of_pos n (show 0<m by omega)
 rw[QhX w0.1,w64 (n:=n%m) (by omega) (by omega),w64 (n:=1+n%m) (by omega) (by omega)]
 refine Qhs (At.of_ext E2) (fun hbad=>absurd hbad (by omega)) fun k hk h1k h7k h3 gp H=> ?_
 rw[hk]
 exact hb hf k h1k h7k h3 gp H
theorem QeT{m:Nat}{R:Int->Heap->Prop}(H:GroupH hB h gp G [] F)(I:GInv k g S G)(hS:S+m<=1000000000)(hR:∀h' r g' S',S'<=S+m->GInv k g' S' (QnU m G)->GroupH hB h' gp (QnU m G) [] F->R r h'):QbG (some ⟨gp,0,none⟩) (m:Int) h R:=by
 refine Qij ?_
 unfold Qew
 refine Qhl (s1:= .one (.int .i64)) (fun(y:Int) h1=>∃(j:Nat) (G1:GS) (g1:GH) (S1:Nat),y=j/\j<=m/\S1<=S+j/\GInv k g1 S1 G1/\QnU m G=QnU (m -j) G1/\GroupH hB h1 gp G1 [] F) (fun(y:Int) _=>(m -y).toNat)
  ⟨0,G,g,S,rfl,Nat.zero_le _,Nat.le_refl _,I,rfl,H⟩ fun _ (y:Int) h1 hI=> ?_
 clear H
 obtain⟨j,G1,g1,S1,rfl,hj,hS1,I1,e1,H⟩:=hI
 refine brY rfl (brD (fun hc=> ?_) fun hc=> ?_)
 ·have H0:=H
  obtain⟨a,ss,rfl,e2,e3,e4,A,e5,e6,HA⟩:=H
  have hl:a.z.length=G1.net.length:=by rw[e4,List.length_map]
  refine nn (Qap (j:=1) HA 0 rfl (some ⟨a.nb,0,none⟩) rfl ?_)
  unfold QbV at HA
  refine net_Len_ok (z:=a.z) (HA.mv 2 2) (brD (fun hpos=> ?_) fun hz=> ?_)
  ·have hne:G1.net≠ []:=fun z=>by rw[z] at hl;have:a.z.length=0:=hl;omega
   refine QdO (s:=Qnf) H0 I1 (by omega) fun h2 H=> ?_
   obtain⟨g2,_,I2⟩:=Qhv I1 Qnf (Nat.zero_le _)
   refine QbF ?_
   rw[w64 (n:=(j:Int)+1) (by omega) (by omega)]
   refine⟨⟨j+1,_,g2,S1+1,by omega,by omega,by omega,I2, ?_,H⟩,by omega⟩
   rw[e1,show m -j=(m -(j+1))+1 by omega,QlE hne]
  ·have hnil:G1.net= []:=List.eq_nil_of_length_eq_zero (by omega)
   rw[Qh4 hnil] at e1
   exact hR _ _ g1 S1 (by omega) (by rw[e1];exact I1) (by rw[e1];exact H0)
 ·have hjm:m -j=0:=by omega
  rw[hjm] at e1
  exact hR _ _ g1 S1 (by omega) (by rw[e1];exact I1) (by rw[e1];exact H)
theorem Qms{R:Sl->Heap->Prop}(H:GroupH hB h gp G [] F)(hc:G.net.length<=512)(hR:∀s' h',s'.n=G.net.length->Ext hB.size hB h'->R s' h'):QcV (some ⟨gp,0,none⟩) h R:=by
 refine Qil ?_
 unfold Qey
 obtain⟨a,ss,rfl,e2,e3,e4,A,e5,e6,HA⟩:=H
 have hl:a.z.length=G.net.length:=by rw[e4,List.length_map]
 refine brN rfl (nn (Qap (j:=1) HA 0 rfl (some ⟨a.nb,0,none⟩) rfl ?_))
 unfold QbV at HA
 refine net_All_ok (z:=a.z) (HA.mv 2 2) (by omega) fun s' h' H=>hR s' h' ?_ H.ext
 have:=H.n (E:=eMS) 0 rfl
 omega
set_option maxRecDepth 100000 in
theorem Qjl(w0:0<=n/\n<=255)(w1:RdS hB 8 l (eSTP.fl xs)/\xs.length<=140737488351232):Qga n l hB fun r h'=>r=true/\Ext hB.size hB h':=by
 refine QkF ?_
 unfold Qf4
 obtain⟨A,hxl⟩:=w1
 refine law_open (m:=7) (R:=fun r h'=>r=true/\Ext hB.size hB h') (by decide) w0 A hxl (fun h' e=>⟨rfl,e⟩) fun hfew k h1k h7k h1 gp H=> ?_
 have hx4:=hfew.2
 have hd:∀s∈xs,s.data.size<=100:=fun s hs=>by have:=hfew.1 s hs;omega
 refine group_Run_ok H A (QlF h1k h7k) (by omega) hd fun h2 H=> ?_
 obtain⟨g,_,I⟩:=gRun_inv xs (QlF h1k h7k) hd
 obtain⟨Rd,hRd,hok,hnet⟩:=all_plain h1k h7k (xs:=xs) (by omega) hd
 generalize gRun (gNew k) xs=G0 at H I hok hnet
 refine Qhl (s1:= .one (.int .i64)) (fun(y:Int) h3=>∃(i:Nat) (g:GH),y=i/\i<=k/\GInv k g (0+xs.length+i) (gBk G0 i)/\GroupH hB h3 gp (gBk G0 i) [] []) (fun(y:Int) _=>(k -y).toNat)
  ⟨0,g,rfl,Nat.zero_le _,I,H⟩ fun _ (y:Int) h3 hI=> ?_
 clear H I
 obtain⟨i,g,rfl,hi,I,H⟩:=hI
 refine brD (fun hc=> ?_) fun hc=> ?_
 ·refine QdO (s:=Qi7 i) H I (by omega) fun h4 H=> ?_
  obtain⟨g',_,I'⟩:=Qhv I (Qi7 i) (Nat.zero_le _)
  rw[w64 (n:=(i:Int)+1) (by omega) (by omega)]
  exact⟨⟨i+1,g',by omega,by omega,I',H⟩,by omega⟩
 have hik:i=k:=by omega
 rw[hik] at H I
 generalize gBk G0 k=G1 at H I hok hnet
 refine QiH (s1:= .one (.int .i64)) (s2:= .one (.int .i64)) (fun(done y:Int) h4=>∃(r:Nat) (g:GH) (S:Nat),y=r/\r<=Rd/\done=(stG k (G1,0) r).2/\S<=500+r*200000/\GInv k g S (stG k (G1,0) r).1/\GroupH hB h4 gp (stG k (G1,0) r).1 [] []) (fun _ (y:Int) _=>(300 -y).toNat)
  ⟨0,g,_,rfl,Nat.zero_le _,rfl,by omega,I,H⟩ fun _ (done y:Int) h4 hI=> ?_
 clear H I
 obtain⟨r,g,S,rfl,hr,rfl,hS,I,H⟩:=hI
 refine brD (fun hc2=> ?_) fun hc2=> ?_
 rotate_left
 ·exact absurd (show(r:Int)<300 by omega) hc2
 generalize hp:stG k (G1,0) r=p at H I
 have hstep:stG k (G1,0) (r+1)=rdG k r p:=by rw[<-hp];rfl
 refine Qhl (s1:= .one (.int .i64)) (fun(y:Int) h5=>∃(j:Nat) (g:GH) (S':Nat),y=j/\j<=k/\S'<=S+j*20001/\GInv k g S' (Qe8 r p.1 j)/\GroupH hB h5 gp (Qe8 r p.1 j) [] []) (fun(y:Int) _=>(k -y).toNat)
  ⟨0,g,S,rfl,Nat.zero_le _,by omega,I,H⟩ fun _ (y:Int) h5 hI=> ?_
 clear H I
 obtain⟨j,g,S',rfl,hj,hS',I,H⟩:=hI
 refine brD (fun hc3=> ?_) fun hc3=> ?_
 ·refine nz (by decide) (nz (by decide) ?_)
  have hdr:divV .rem .i64 (IntKind.i64.wrap ((j:Int)+divV .quo .i64 (r:Int) 20)) 4=drw r j:=by
   rw[quo_i64 (by omega) (by omega) (by decide),w64 (n:=(j:Int)+(r:Int)/20) (by omega) (by omega),QhX (by omega)]
   unfold drw
   omega
  rw[hdr]
  refine QdO (s:=Qnd j r) H I (by omega) fun h6 H=> ?_
  obtain⟨g',_,I'⟩:=Qhv I (Qnd j r) (Nat.zero_le _)
  refine QeT (m:=20000) H I' (by omega) fun h7 _ g2 S2 hS2 I2 H=> ?_
  rw[w64 (n:=(j:Int)+1) (by omega) (by omega)]
  exact⟨⟨j+1,g2,S2,by omega,by omega,by omega,I2,H⟩,by omega⟩
 have hji:j=k:=by omega
 rw[hji] at H I
 refine Qht H I ?_
 have hrd:rdG k r p=if ¬QcA (Qe8 r p.1 k) k<0/\r%10=5 then
  (QnU 20000 (gDo (Qe8 r p.1 k) (Qne (QcA (Qe8 r p.1 k) k))).1,if(gDo (Qe8 r p.1 k) (Qne (QcA (Qe8 r p.1 k) k))).2=0 then mx p.2 (lastG (gDo (Qe8 r p.1 k) (Qne (QcA (Qe8 r p.1 k) k))).1 (QcA (Qe8 r p.1 k) k)) else p.2)
  else(Qe8 r p.1 k,p.2):=rfl
 generalize QcA (Qe8 r p.1 k) k=ld at hrd⊢
 generalize Qe8 r p.1 k=G2 at H I hrd
 refine Qg2 (s1:= .one .bool) (fun(b:Bool) h6=>(b=true↔(¬ld<0/\r%10=5))/\h6=h5) (fun _ (b:Bool) h6 hJ=> ?_) ?_
 rotate_left
 ·refine br decide_eq_true_iff (fun hneg=>nz (by decide) ⟨?_,rfl⟩) fun hneg=>⟨⟨fun z=>(by cases z),fun z=>absurd z.1 hneg⟩,rfl⟩
  rw[QhX (by omega),beq_iff_eq]
  omega
 obtain⟨hb,rfl⟩:=hJ
 refine Qg2 (s1:= .one (.int .i64)) (fun(d1:Int) h7=>∃(g:GH) (S2:Nat),d1=(rdG k r p).2/\S2<=S'+20001/\GInv k g S2 (rdG k r p).1/\GroupH hB h7 gp (rdG k r p).1 [] []) (fun _ (d1:Int) h7 hJ=> ?_) ?_
 rotate_left
 ·refine brB (fun hb1=> ?_) fun hb1=> ?_
  ·obtain⟨hl1,hl2⟩:=hb.1 hb1
   rw[if_pos ⟨hl1,hl2⟩] at hrd
   rw[if_neg hl1]
   refine QdO (s:=Qne ld) H I (by omega) fun h7 H=> ?_
   obtain⟨g',_,I'⟩:=Qhv I (Qne ld) (show xB.size<=100 by decide)
   refine br beq_iff_eq (fun h0=> ?_) fun h0=> ?_
   ·rw[if_pos h0] at hrd
    refine H.nodeV I' fun r2 V2=>V2.last _ (QbF ?_)
    refine QeT (m:=20000) H I' (by omega) fun h8 _ g2 S2 hS2 I2 H=> ?_
    refine⟨g2,S2, ?_,by omega,by rw[hrd];exact I2,by rw[hrd];exact H⟩
    rw[hrd];rfl
   ·rw[if_neg h0] at hrd
    refine QeT (m:=20000) H I' (by omega) fun h8 _ g2 S2 hS2 I2 H=> ?_
    exact⟨g2,S2,by rw[hrd],by omega,by rw[hrd];exact I2,by rw[hrd];exact H⟩
  ·rw[if_neg fun z=>by have:=hb.2 z;rw[hb1] at this;cases this] at hrd
   exact⟨g,S',by rw[hrd],by omega,by rw[hrd];exact I,by rw[hrd];exact H⟩
 clear H I
 obtain⟨g,S2,rfl,hS2,I,H⟩:=hJ
 rw[<-hstep] at I H⊢
 generalize hp1:stG k (G1,0) (r+1)=p1 at I H
 refine QbF ?_
 refine QiH (s1:= .one .bool) (s2:= .one (.int .i64)) (fun(b:Bool) (y:Int) h8=>∃q:Nat,y=q/\q<=k/\(b=true↔(0<p1.2/\∀x,x<q->p1.2<=commG p1.1 x))/\GroupH hB h8 gp p1.1 [] []) (fun _ (y:Int) _=>(k -y).toNat)
  ⟨0,rfl,Nat.zero_le _,by rw[decide_eq_true_iff];exact⟨fun z=>⟨z,fun x hx=>by omega⟩,fun z=>z.1⟩,H⟩ fun _ (b:Bool) (y:Int) h8 hI=> ?_
 clear H
 obtain⟨q,rfl,hq,hbq,H⟩:=hI
 refine brD (fun hc4=> ?_) fun hc4=> ?_
 ·rw[w64 (n:=(q:Int)+1) (by omega) (by omega)]
  refine brB (fun hb1=> ?_) fun hb1=> ?_
  ·refine H.nodeV I fun r2 V2=>V2.commit _ (QbF ?_)
   refine⟨⟨q+1,by omega,by omega, ?_,H⟩,by omega⟩
   rw[decide_eq_true_iff]
   obtain⟨z1,z2⟩:=hbq.1 hb1
   refine⟨fun z=>⟨z1,fun x hx=> ?_⟩,fun z=>z.2 q (by omega)⟩
   by_cases e:x=q
   ·subst e;exact z
   ·exact z2 x (by omega)
  ·refine⟨⟨q+1,by omega,by omega,⟨fun z=>(by cases z),fun z=> ?_⟩,H⟩,by omega⟩
   have:=hbq.2 ⟨z.1,fun x hx=>z.2 x (by omega)⟩
   rw[hb1] at this
   cases this
 have hqj:q=k:=by omega
 rw[hqj] at hbq
 refine brB (fun hb1=> ?_) fun hb1=> ?_
 ·have hn:=hnet r hr (by rw[hp1];exact hbq.1 hb1)
  rw[hp1] at hn
  refine Qms H I.cap fun s' h9 hs e=>⟨?_,e⟩
  rw[hs,hn];rfl
 ·have hne:r≠Rd:=fun e=>by
   subst e
   rw[hp1] at hok
   have:=hbq.2 hok
   rw[hb1] at this
   cases this
  rw[w64 (n:=(r:Int)+1) (by omega) (by omega)]
  exact⟨⟨r+1,g,S2,by omega,by omega,by rw[hp1],by omega,by rw[hp1];exact I,by rw[hp1];exact H⟩,by omega⟩
end
end
end Go.Proofs.YtniojdaddolnfaaGreat
