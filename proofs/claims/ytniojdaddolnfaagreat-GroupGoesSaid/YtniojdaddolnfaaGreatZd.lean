/-
  Several of the proof's texts in one, squeezed: a claim may have 1,500,000 bytes.
-/
import Derived.Test.YtniojdaddolnfaaGreatZc
import Derived.Test.YtniojdaddolnfaaGreatZa
set_option linter.unusedVariables false
set_option linter.unusedSimpArgs false
namespace Go.Proofs.YtniojdaddolnfaaGreat
section
open Go
def eEN:Enc Ent 2:=⟨fun e=> [.int .i64 e.t,.string (QnA e.d)],fun _=>rfl,by decide,fun x u hu=>by
 simp only[List.mem_cons,List.not_mem_nil,or_false] at hu
 rcases hu with rfl|rfl<;>rfl⟩
theorem TEN:ElemT Tryz.prog 37 40 2 24:= .of (by kernel_rfl)
theorem At.join2{h0 h:Heap}{a b c:Res}{F:List Res}(H:At h0 h (a::b::F))(hc:a.ok h->b.ok h->c.ok h)(hf:∀g,c.fp g->a.fp g\/b.fp g):At h0 h (c::F):=by
 obtain⟨s1,s2⟩:=List.pairwise_cons.1 H.sep
 obtain⟨s3,s4⟩:=List.pairwise_cons.1 s2
 have ma:a∈a::b::F:=List.mem_cons_self ..
 have mb:b∈a::b::F:=List.mem_cons_of_mem _ (List.mem_cons_self ..)
 refine⟨H.ext,fun r hr=> ?_,fun r hr g hg=> ?_,List.pairwise_cons.2 ⟨fun r hr g hg=> ?_,s4⟩⟩
 ·rcases List.mem_cons.1 hr with rfl|hr
  ·exact hc (H.ok _ ma) (H.ok _ mb)
  ·exact H.ok r (List.mem_cons_of_mem _ (List.mem_cons_of_mem _ hr))
 ·rcases List.mem_cons.1 hr with rfl|hr
  ·rcases hf g hg with x|x
   ·exact H.lo _ ma g x
   ·exact H.lo _ mb g x
  ·exact H.lo r (List.mem_cons_of_mem _ (List.mem_cons_of_mem _ hr)) g hg
 ·rcases hf g hg with x|x
  ·exact s1 r (List.mem_cons_of_mem _ hr) g x
  ·exact s3 r hr g x
theorem At.subl{h0 h:Heap}{L L':List Res}(H:At h0 h L)(s:L'.Sublist L):At h0 h L':=⟨H.ext,fun r hr=>H.ok r (s.subset hr),fun r hr=>H.lo r (s.subset hr),H.sep.sublist s⟩
def datW(bs:List BR):Res:= .any (fun g=>∃a∈bs,0<(cB a.xs).length/\a.s.blk=some g) (fun h=>∀a∈bs,RdS h 1 a.s (cB a.xs))
 (fun h h' hs hk h2 a ha=>Res.keep (.rd a.s 1 (cB a.xs)) hs (fun g hg hl=>hk g ⟨a,ha,hg⟩ hl) (h2 a ha))
 (fun h h2 g hg=>by obtain⟨a,ha,hg⟩:=hg;exact Res.lt (.rd a.s 1 (cB a.xs)) (h2 a ha) g hg)
theorem At.datS{h0 h:Heap}{F:List Res}{bs:List BR}{k:UInt8}{s:Sl}{xs:List UInt8}(H:At h0 h (.own s 1 (cB xs)::datW bs::F)):At h0 h (datW (bs++ [⟨k,s,xs⟩])::F):=
 H.join2 (fun ha hb a hm=>by
  rcases List.mem_append.1 hm with hm|hm
  ·exact hb a hm
  ·rw[List.mem_singleton.1 hm];exact Own.rd ha) fun g hg=>by
  obtain⟨a,hm,h1,h2⟩:=hg
  rcases List.mem_append.1 hm with hm|hm
  ·exact .inr ⟨a,hm,h1,h2⟩
  ·rw[List.mem_singleton.1 hm] at h2;exact .inl h2
section
variable {h0 hB h:Heap}{L F:List Res}{d p:Nat}{ty:TypeId}{s sd:Sl}{b:List UInt8}{n:Nat}{es:List Ent}{bs:List BR}{rs:List WRec}
theorem wIntA{xs:List UInt8}{m:Int}{R:Sl->Heap->Prop}(H:At h0 h L)(i:Nat)(hi:L[i]? =some (.own s 1 (cB xs)))(hlen:xs.length<=1000000000000)
  (hR:∀s' h',At h0 h' (L.set i (.own s' 1 (cB (xs++be8 m))))->R s' h'):QdS s m h R:=
 word_IntP (H.get i hi) hlen fun s' h' o g=>hR s' h' (H.turn i hi (r':= .own s' 1 (cB (xs++be8 m))) g.upd o g.stp.grow)
theorem wTextA{xs:List UInt8}{t:ByteArray}{R:Sl->Heap->Prop}(H:At h0 h L)(i:Nat)(hi:L[i]? =some (.own s 1 (cB xs)))(hlen:xs.length<=1000000000000)
  (hR:∀s' h',At h0 h' (L.set i (.own s' 1 (cB (xs++txt t.data.toList))))->R s' h'):Qgs s t h R:=
 word_TextP (H.get i hi) hlen fun s' h' o g=>hR s' h' (H.turn i hi (r':= .own s' 1 (cB (xs++txt t.data.toList))) g.upd o g.stp.grow)
theorem hard_Right_ok{t v:Int}{R:Bool->Heap->Prop}(hr:RdS hB 2 s (eEN.fl es))(hl:es.length<=1000000000000000)(hR:∀h',Ext hB.size hB h'->R (Ql1 ⟨t,v,es⟩) h'):QhM (t,v,s,()) hB R:=by
 refine A_hard_Right ?_
 unfold Qk5
 have hn:=rdn hr
 unfold Ql1 at hR
 simp only at hR
 have bad:(t<0\/1099511627776<t\/v< -1\/6<v\/1024<es.length)->∀h',Ext hB.size hB h'->R false h':=fun hb h' e=>by
  have:=hR h' e
  rwa[if_pos hb] at this
 refine Qaj (At.start hB) fun h1 p1 H=>Qac H 0 rfl t rfl ?_
 refine brD (fun hc=>bad (by omega) _ H.ext) fun c1=>Qac H 0 rfl t rfl (brD (fun hc=>bad (by omega) _ H.ext) fun c2=>Qap H 0 rfl v rfl (brD (fun hc=>bad (by omega) _ H.ext) fun c3=>Qap H 0 rfl v rfl (brD (fun hc=>bad (by omega) _ H.ext) fun c4=>Qap H 0 rfl s rfl (brD (fun hc=>bad (by omega) _ H.ext) fun c5=>Qap H 0 rfl s rfl ?_))))
 have hR2:∀h',Ext hB.size hB h'->R (QkN t 1 es) h':=fun h' e=>by
  have:=hR h' e
  rwa[if_neg (by omega)] at this
 refine QiH (s1:= .one (.int .i64)) (s2:= .one (.int .i64)) (fun(last x:Int) h2=>∃k:Nat,x=k/\k<=es.length/\At hB h2 [.blk p1 46 [.int .i64 t,.int .i64 v,.slice s.a s.n s.c]]/\QkN t last (es.drop k)=QkN t 1 es) (fun _ (x:Int) _=>(es.length -x).toNat)
  ⟨0,rfl,Nat.zero_le _,H,rfl⟩ fun _ (last x:Int) h2 hI=> ?_
 obtain⟨k,rfl,hk,H,hle⟩:=hI
 refine brD (fun hc=> ?_) fun hc=> ?_
 ·have hk2:k<es.length:=by omega
  rw[List.drop_eq_getElem_cons hk2,QkN] at hle
  refine ixR (H.arg hr) k rfl hk2 fun e he=> ?_
  repeat (first|with_reducible refine nn ?_|with_reducible refine QbF ?_|with_reducible refine QaA ?_|with_reducible refine brF ?_|with_reducible refine brT ?_|((with_reducible apply Qap H 0);exact rfl;exact rfl)|((with_reducible apply Qac H 0);exact rfl;exact rfl)|((with_reducible apply Qap H 1);exact rfl;exact rfl)|((with_reducible apply Qac H 1);exact rfl;exact rfl)|((with_reducible apply ldR (H.arg hr));assumption;(case hk=>assumption);exact rfl)|((with_reducible apply ldR0 (H.arg hr));assumption;(case hk=>assumption);exact rfl)|((with_reducible apply Qa3 H 0);exact rfl;exact rfl;intro h H)|((with_reducible apply Qas H 0);exact rfl;exact rfl;intro h H)|((with_reducible apply Qa3 H 1);exact rfl;exact rfl;intro h H)|((with_reducible apply Qas H 1);exact rfl;exact rfl;intro h H)|((with_reducible apply Qaj H);intro h b H)|((with_reducible refine⟨?_, ?_⟩);first|((with_reducible apply Qap H 0);exact rfl;exact rfl;exact rfl)|((with_reducible apply Qac H 0);exact rfl;exact rfl;exact rfl)|((with_reducible apply Qap H 1);exact rfl;exact rfl;exact rfl)|((with_reducible apply Qac H 1);exact rfl;exact rfl;exact rfl)))
  have bad2:(es[k].t<last\/t<es[k].t\/512<(es[k].d.length:Int))->∀h',Ext hB.size hB h'->R false h':=fun hb h' e=>by
   have:=hR2 h' e
   rwa[<-hle,if_pos hb] at this
  refine brD (fun hc=>bad2 (by omega) _ H.ext) fun d1=> ?_
  repeat (first|with_reducible refine nn ?_|with_reducible refine QbF ?_|with_reducible refine QaA ?_|with_reducible refine brF ?_|with_reducible refine brT ?_|((with_reducible apply Qap H 0);exact rfl;exact rfl)|((with_reducible apply Qac H 0);exact rfl;exact rfl)|((with_reducible apply Qap H 1);exact rfl;exact rfl)|((with_reducible apply Qac H 1);exact rfl;exact rfl)|((with_reducible apply Qa3 H 0);exact rfl;exact rfl;intro h H)|((with_reducible apply Qas H 0);exact rfl;exact rfl;intro h H)|((with_reducible apply Qa3 H 1);exact rfl;exact rfl;intro h H)|((with_reducible apply Qas H 1);exact rfl;exact rfl;intro h H)|((with_reducible apply Qaj H);intro h b H)|((with_reducible refine⟨?_, ?_⟩);first|((with_reducible apply Qap H 0);exact rfl;exact rfl;exact rfl)|((with_reducible apply Qac H 0);exact rfl;exact rfl;exact rfl)|((with_reducible apply Qap H 1);exact rfl;exact rfl;exact rfl)|((with_reducible apply Qac H 1);exact rfl;exact rfl;exact rfl)))
  refine brD (fun hc=>bad2 (by omega) _ H.ext) fun d2=> ?_
  repeat (first|with_reducible refine nn ?_|with_reducible refine QbF ?_|with_reducible refine QaA ?_|with_reducible refine brF ?_|with_reducible refine brT ?_|((with_reducible apply Qap H 0);exact rfl;exact rfl)|((with_reducible apply Qac H 0);exact rfl;exact rfl)|((with_reducible apply Qap H 1);exact rfl;exact rfl)|((with_reducible apply Qac H 1);exact rfl;exact rfl)|((with_reducible apply Qa3 H 0);exact rfl;exact rfl;intro h H)|((with_reducible apply Qas H 0);exact rfl;exact rfl;intro h H)|((with_reducible apply Qa3 H 1);exact rfl;exact rfl;intro h H)|((with_reducible apply Qas H 1);exact rfl;exact rfl;intro h H)|((with_reducible apply Qaj H);intro h b H)|((with_reducible refine⟨?_, ?_⟩);first|((with_reducible apply Qap H 0);exact rfl;exact rfl;exact rfl)|((with_reducible apply Qac H 0);exact rfl;exact rfl;exact rfl)|((with_reducible apply Qap H 1);exact rfl;exact rfl;exact rfl)|((with_reducible apply Qac H 1);exact rfl;exact rfl;exact rfl)))
  rw[Qi3]
  refine brD (fun hc=>bad2 (by omega) _ H.ext) fun d3=> ?_
  repeat (first|with_reducible refine nn ?_|with_reducible refine QbF ?_|with_reducible refine QaA ?_|with_reducible refine brF ?_|with_reducible refine brT ?_|((with_reducible apply Qap H 0);exact rfl;exact rfl)|((with_reducible apply Qac H 0);exact rfl;exact rfl)|((with_reducible apply Qap H 1);exact rfl;exact rfl)|((with_reducible apply Qac H 1);exact rfl;exact rfl)|((with_reducible apply Qa3 H 0);exact rfl;exact rfl;intro h H)|((with_reducible apply Qas H 0);exact rfl;exact rfl;intro h H)|((with_reducible apply Qa3 H 1);exact rfl;exact rfl;intro h H)|((with_reducible apply Qas H 1);exact rfl;exact rfl;intro h H)|((with_reducible apply Qaj H);intro h b H)|((with_reducible refine⟨?_, ?_⟩);first|((with_reducible apply Qap H 0);exact rfl;exact rfl;exact rfl)|((with_reducible apply Qac H 0);exact rfl;exact rfl;exact rfl)|((with_reducible apply Qap H 1);exact rfl;exact rfl;exact rfl)|((with_reducible apply Qac H 1);exact rfl;exact rfl;exact rfl)))
  rw[w64 (by omega) (by omega)]
  rw[if_neg (by omega)] at hle
  exact⟨⟨k+1,by omega,by omega,H.tail,hle⟩,by omega⟩
 ·have hkl:k=es.length:=by omega
  subst hkl
  rw[List.drop_length] at hle
  have:=hR2 h2 H.ext
  rw[<-hle] at this
  exact this
theorem savR_pos{s:Sav}{r:WRec}(hr:r∈Qnc s):0<r.data.length:=by
 rcases List.mem_append.1 hr with hr|hr
 ·split at hr
  ·rw[List.mem_singleton.1 hr];simp[QbH]
  ·cases hr
 ·rw[List.mem_mapIdx] at hr
  obtain⟨k,hk,rfl⟩:=hr
  simp only[Qle,List.length_append,QbH]
  omega
theorem Qmr{a:Bool}{t v f:Int}{R:Sl->Heap->Prop}(hr:RdS hB 2 s (eEN.fl es))(hl:es.length<=1000000)
  (hR:∀out bs h',OutW hB.size h' out bs->(∀a∈bs,a.s.n<=a.s.c)->bs.map BR.rec_=Qnc ⟨a,t,v,f,es⟩->Ext hB.size hB h'->R out h'):QfG (a,t,v,f,s,()) hB R:=by
 refine Qnv ?_
 unfold Qix
 have hn:=rdn hr
 refine Qaj (At.start hB) fun h1 p1 H=>Qac H 0 rfl a rfl ?_
 refine Qg2 (s1:= .one .sl) (fun(out:Sl) h2=>∃bs,At hB h2 [datW bs,.own out 2 (eBR.fl bs),.blk p1 123 [.bool a,.int .i64 t,.int .i64 v,.int .i64 f,.slice s.a s.n s.c]]/\(∀a∈bs,a.s.n<=a.s.c)/\bs.map BR.rec_=(if a then [⟨1,be8 t++be8 v⟩] else [])) (fun _ (out:Sl) h2 hJ=> ?_) ?_
 ·obtain⟨bs0,H,hcp0,hbs0⟩:=hJ
  have hpl:(if a then [(⟨1,be8 t++be8 v⟩:WRec)] else []).length<=1:=by split<;>simp
  have hsv:Qnc ⟨a,t,v,f,es⟩=(if a then [(⟨1,be8 t++be8 v⟩:WRec)] else [])++es.mapIdx (Qle f):=rfl
  generalize (if a then [(⟨1,be8 t++be8 v⟩:WRec)] else [])=pre at*
  refine Qap H 2 rfl s rfl ?_
  refine QiH (s1:= .one .sl) (s2:= .one (.int .i64)) (fun(out:Sl) (x:Int) h3=>∃(k:Nat) (bs:List BR),x=k/\k<=es.length/\At hB h3 [datW bs,.own out 2 (eBR.fl bs),.blk p1 123 [.bool a,.int .i64 t,.int .i64 v,.int .i64 f,.slice s.a s.n s.c]]/\(∀a∈bs,a.s.n<=a.s.c)/\bs.map BR.rec_=pre++(es.mapIdx (Qle f)).take k) (fun _ (x:Int) _=>(es.length -x).toNat)
   ⟨0,bs0,rfl,Nat.zero_le _,H,hcp0,by rw[List.take_zero,List.append_nil];exact hbs0⟩ fun _ (out:Sl) (x:Int) h3 hI=> ?_
  obtain⟨k,bs,rfl,hk,H,hcp,hbs⟩:=hI
  have hln:bs.length<=1+es.length:=by
   have:=congrArg List.length hbs
   rw[List.length_map,List.length_append,List.length_take,List.length_mapIdx] at this
   omega
  refine brD (fun hc=> ?_) fun hc=> ?_
  ·have hk2:k<es.length:=by omega
   refine ixR (H.arg hr) k rfl hk2 fun e he=> ?_
   repeat (first|with_reducible refine nn ?_|with_reducible refine QbF ?_|with_reducible refine QaA ?_|with_reducible refine brF ?_|with_reducible refine brT ?_|((with_reducible apply Qap H 0);exact rfl;exact rfl)|((with_reducible apply Qac H 0);exact rfl;exact rfl)|((with_reducible apply Qap H 1);exact rfl;exact rfl)|((with_reducible apply Qac H 1);exact rfl;exact rfl)|((with_reducible apply Qap H 2);exact rfl;exact rfl)|((with_reducible apply Qac H 2);exact rfl;exact rfl)|((with_reducible apply Qap H 3);exact rfl;exact rfl)|((with_reducible apply Qac H 3);exact rfl;exact rfl)|((with_reducible apply ldR (H.arg hr));assumption;(case hk=>assumption);exact rfl)|((with_reducible apply ldR0 (H.arg hr));assumption;(case hk=>assumption);exact rfl)|((with_reducible apply Qa3 H 0);exact rfl;exact rfl;intro h H)|((with_reducible apply Qas H 0);exact rfl;exact rfl;intro h H)|((with_reducible apply Qa3 H 1);exact rfl;exact rfl;intro h H)|((with_reducible apply Qas H 1);exact rfl;exact rfl;intro h H)|((with_reducible apply Qa3 H 2);exact rfl;exact rfl;intro h H)|((with_reducible apply Qas H 2);exact rfl;exact rfl;intro h H)|((with_reducible apply Qa3 H 3);exact rfl;exact rfl;intro h H)|((with_reducible apply Qas H 3);exact rfl;exact rfl;intro h H)|((with_reducible apply Qaj H);intro h b H)|((with_reducible refine⟨?_, ?_⟩);first|((with_reducible apply Qap H 0);exact rfl;exact rfl;exact rfl)|((with_reducible apply Qac H 0);exact rfl;exact rfl;exact rfl)|((with_reducible apply Qap H 1);exact rfl;exact rfl;exact rfl)|((with_reducible apply Qac H 1);exact rfl;exact rfl;exact rfl)|((with_reducible apply Qap H 2);exact rfl;exact rfl;exact rfl)|((with_reducible apply Qac H 2);exact rfl;exact rfl;exact rfl)|((with_reducible apply Qap H 3);exact rfl;exact rfl;exact rfl)|((with_reducible apply Qac H 3);exact rfl;exact rfl;exact rfl)))
   refine wIntA (xs:= []) (H.nil 1) 0 rfl (by decide) fun s4 h4 H=> ?_
   repeat (first|with_reducible refine nn ?_|with_reducible refine QbF ?_|with_reducible refine QaA ?_|with_reducible refine brF ?_|with_reducible refine brT ?_|((with_reducible apply Qap H 0);exact rfl;exact rfl)|((with_reducible apply Qac H 0);exact rfl;exact rfl)|((with_reducible apply Qap H 1);exact rfl;exact rfl)|((with_reducible apply Qac H 1);exact rfl;exact rfl)|((with_reducible apply Qap H 2);exact rfl;exact rfl)|((with_reducible apply Qac H 2);exact rfl;exact rfl)|((with_reducible apply Qap H 3);exact rfl;exact rfl)|((with_reducible apply Qac H 3);exact rfl;exact rfl)|((with_reducible apply Qap H 4);exact rfl;exact rfl)|((with_reducible apply Qac H 4);exact rfl;exact rfl)|((with_reducible apply Qa3 H 0);exact rfl;exact rfl;intro h H)|((with_reducible apply Qas H 0);exact rfl;exact rfl;intro h H)|((with_reducible apply Qa3 H 1);exact rfl;exact rfl;intro h H)|((with_reducible apply Qas H 1);exact rfl;exact rfl;intro h H)|((with_reducible apply Qa3 H 2);exact rfl;exact rfl;intro h H)|((with_reducible apply Qas H 2);exact rfl;exact rfl;intro h H)|((with_reducible apply Qa3 H 3);exact rfl;exact rfl;intro h H)|((with_reducible apply Qas H 3);exact rfl;exact rfl;intro h H)|((with_reducible apply Qa3 H 4);exact rfl;exact rfl;intro h H)|((with_reducible apply Qas H 4);exact rfl;exact rfl;intro h H)|((with_reducible apply Qaj H);intro h b H)|((with_reducible refine⟨?_, ?_⟩);first|((with_reducible apply Qap H 0);exact rfl;exact rfl;exact rfl)|((with_reducible apply Qac H 0);exact rfl;exact rfl;exact rfl)|((with_reducible apply Qap H 1);exact rfl;exact rfl;exact rfl)|((with_reducible apply Qac H 1);exact rfl;exact rfl;exact rfl)|((with_reducible apply Qap H 2);exact rfl;exact rfl;exact rfl)|((with_reducible apply Qac H 2);exact rfl;exact rfl;exact rfl)|((with_reducible apply Qap H 3);exact rfl;exact rfl;exact rfl)|((with_reducible apply Qac H 3);exact rfl;exact rfl;exact rfl)|((with_reducible apply Qap H 4);exact rfl;exact rfl;exact rfl)|((with_reducible apply Qac H 4);exact rfl;exact rfl;exact rfl)))
   refine wIntA (xs:=_) H 0 rfl (by simp[QbH]) fun s5 h5 H=> ?_
   repeat (first|with_reducible refine nn ?_|with_reducible refine QbF ?_|with_reducible refine QaA ?_|with_reducible refine brF ?_|with_reducible refine brT ?_|((with_reducible apply Qap H 0);exact rfl;exact rfl)|((with_reducible apply Qac H 0);exact rfl;exact rfl)|((with_reducible apply Qap H 1);exact rfl;exact rfl)|((with_reducible apply Qac H 1);exact rfl;exact rfl)|((with_reducible apply Qap H 2);exact rfl;exact rfl)|((with_reducible apply Qac H 2);exact rfl;exact rfl)|((with_reducible apply Qap H 3);exact rfl;exact rfl)|((with_reducible apply Qac H 3);exact rfl;exact rfl)|((with_reducible apply Qap H 4);exact rfl;exact rfl)|((with_reducible apply Qac H 4);exact rfl;exact rfl)|((with_reducible apply Qa3 H 0);exact rfl;exact rfl;intro h H)|((with_reducible apply Qas H 0);exact rfl;exact rfl;intro h H)|((with_reducible apply Qa3 H 1);exact rfl;exact rfl;intro h H)|((with_reducible apply Qas H 1);exact rfl;exact rfl;intro h H)|((with_reducible apply Qa3 H 2);exact rfl;exact rfl;intro h H)|((with_reducible apply Qas H 2);exact rfl;exact rfl;intro h H)|((with_reducible apply Qa3 H 3);exact rfl;exact rfl;intro h H)|((with_reducible apply Qas H 3);exact rfl;exact rfl;intro h H)|((with_reducible apply Qa3 H 4);exact rfl;exact rfl;intro h H)|((with_reducible apply Qas H 4);exact rfl;exact rfl;intro h H)|((with_reducible apply Qaj H);intro h b H)|((with_reducible refine⟨?_, ?_⟩);first|((with_reducible apply Qap H 0);exact rfl;exact rfl;exact rfl)|((with_reducible apply Qac H 0);exact rfl;exact rfl;exact rfl)|((with_reducible apply Qap H 1);exact rfl;exact rfl;exact rfl)|((with_reducible apply Qac H 1);exact rfl;exact rfl;exact rfl)|((with_reducible apply Qap H 2);exact rfl;exact rfl;exact rfl)|((with_reducible apply Qac H 2);exact rfl;exact rfl;exact rfl)|((with_reducible apply Qap H 3);exact rfl;exact rfl;exact rfl)|((with_reducible apply Qac H 3);exact rfl;exact rfl;exact rfl)|((with_reducible apply Qap H 4);exact rfl;exact rfl;exact rfl)|((with_reducible apply Qac H 4);exact rfl;exact rfl;exact rfl)))
   refine wTextA (xs:=_) H 0 rfl (by simp[QbH]) fun s6 h6 H=> ?_
   rw[strB_data,List.nil_append] at H
   have hc6:=(H.own 0 rfl).2.1
   refine app1At (E:=eBR) TWR H 3 rfl ⟨2,s6,be8 (IntKind.i64.wrap (f+(k:Int)))++be8 es[k].t++txt es[k].d⟩ (by omega) (by omega) fun s7 h7 H=> ?_
   rw[w64 (by omega) (by omega)]
   refine⟨⟨k+1,_,by omega,by omega,At.datS (k:=2) (H.del 1), ?_, ?_⟩,by omega⟩
   ·intro x hx
    rcases List.mem_append.1 hx with hx|hx
    ·exact hcp x hx
    ·rw[List.mem_singleton.1 hx];exact hc6
   ·rw[QeM _ k (by rw[List.length_mapIdx];exact hk2),List.getElem_mapIdx,<-List.append_assoc,List.map_append,hbs]
    rfl
  ·have hkl:k=es.length:=by omega
   subst hkl
   rw[List.take_of_length_le (by rw[List.length_mapIdx];exact Nat.le_refl _),<-hsv] at hbs
   refine hR out bs h3 ⟨H.rdo 1 rfl,H.from_ 1 rfl,fun x ha=>⟨H.get 0 rfl x ha,fun g hg=> ?_⟩⟩ hcp hbs H.ext
   by_cases h0:0<(cB x.xs).length
   ·exact H.from_ 0 rfl g ⟨x,ha,h0,hg⟩
   ·have hm:x.rec_∈Qnc ⟨a,t,v,f,es⟩:=by rw[<-hbs];exact List.mem_map_of_mem ha
    have:=savR_pos hm
    exact absurd (by rw[QbY];exact this) h0
 ·cases a with
  |false=>
   refine brF ⟨[],(H.nil 2).new (Ext.refl _ _) (r:=datW []) (fun a ha=>by cases ha) (fun g hg=>by obtain⟨a,ha,_⟩:=hg;cases ha),(fun a ha=>by cases ha),rfl⟩
  |true=>
   refine brT ?_
   repeat (first|with_reducible refine nn ?_|with_reducible refine QbF ?_|with_reducible refine QaA ?_|with_reducible refine brF ?_|with_reducible refine brT ?_|((with_reducible apply Qap H 0);exact rfl;exact rfl)|((with_reducible apply Qac H 0);exact rfl;exact rfl)|((with_reducible apply Qa3 H 0);exact rfl;exact rfl;intro h H)|((with_reducible apply Qas H 0);exact rfl;exact rfl;intro h H)|((with_reducible apply Qaj H);intro h b H)|((with_reducible refine⟨?_, ?_⟩);first|((with_reducible apply Qap H 0);exact rfl;exact rfl;exact rfl)|((with_reducible apply Qac H 0);exact rfl;exact rfl;exact rfl)))
   refine wIntA (xs:= []) (H.nil 1) 0 rfl (by decide) fun s4 h4 H=> ?_
   repeat (first|with_reducible refine nn ?_|with_reducible refine QbF ?_|with_reducible refine QaA ?_|with_reducible refine brF ?_|with_reducible refine brT ?_|((with_reducible apply Qap H 0);exact rfl;exact rfl)|((with_reducible apply Qac H 0);exact rfl;exact rfl)|((with_reducible apply Qap H 1);exact rfl;exact rfl)|((with_reducible apply Qac H 1);exact rfl;exact rfl)|((with_reducible apply Qa3 H 0);exact rfl;exact rfl;intro h H)|((with_reducible apply Qas H 0);exact rfl;exact rfl;intro h H)|((with_reducible apply Qa3 H 1);exact rfl;exact rfl;intro h H)|((with_reducible apply Qas H 1);exact rfl;exact rfl;intro h H)|((with_reducible apply Qaj H);intro h b H)|((with_reducible refine⟨?_, ?_⟩);first|((with_reducible apply Qap H 0);exact rfl;exact rfl;exact rfl)|((with_reducible apply Qac H 0);exact rfl;exact rfl;exact rfl)|((with_reducible apply Qap H 1);exact rfl;exact rfl;exact rfl)|((with_reducible apply Qac H 1);exact rfl;exact rfl;exact rfl)))
   refine wIntA (xs:=_) H 0 rfl (by simp[QbH]) fun s5 h5 H=> ?_
   rw[List.nil_append] at H
   have hc5:=(H.own 0 rfl).2.1
   refine app1At (E:=eBR) (l:= []) TWR (H.nil 2) 0 rfl ⟨1,s5,be8 t++be8 v⟩ (by decide) (by decide) fun s6 h6 H=> ?_
   have H2:=(H.mv 1 1).new (Ext.refl _ _) (r:=datW []) (fun a ha=>by cases ha) (fun g hg=>by obtain⟨a,ha,_⟩:=hg;cases ha)
   exact⟨_,At.datS (k:=1) (H2.mv 1 1),(fun x hx=>by rw[List.mem_singleton.1 hx];exact hc5),rfl⟩
end
end
section
open Go
variable {h0 hB h:Heap}{L F:List Res}{d p pr:Nat}{ty tyr:TypeId}{s sd rs_ q l:Sl}{b:List UInt8}{n:Nat}{es:List Ent}{bs:List BR}{rs:List WRec}{st:Stt}{l0 xs:List UInt8}
def plrL(p:Nat)(ty:TypeId)(s:Sl)(st:Stt):List Res:= [.blk p ty [.int .i64 st.term,.int .i64 st.vote,.slice s.a s.n s.c],.own s 2 (eEN.fl st.es)]
def SrcF(h0:Heap)(F:List Res)(q:Sl)(l0:List UInt8):Prop:=∀h' L,At h0 h' (L++F)->RdS h' 1 q (cB l0)
theorem SrcF.src{p:Nat}{G:List Res}(hq:SrcF h0 F q l0):Src h0 p (G++F) q l0:=fun h' ty cs H=>hq h' (.blk p ty cs::G) H
theorem hard_vote_ok{R:Heap->Prop}(H:At h0 h (rdr pr tyr rs_ false::(plrL p ty s st++F)))(hs:RdF q l0 rs_ xs)(hq:SrcF h0 F q l0)
  (hR:∀h' s',At h0 h' (rdr pr tyr s' (vV xs).1::(plrL p ty s ⟨(vT xs).2.2,(vV xs).2.2,st.es⟩++F))->RdF q l0 s' (vV xs).2.1->R h'):QdB (some ⟨p,0,none⟩) (some ⟨pr,0,none⟩) h R:=by
 refine QjU ?_
 unfold Qfv
 refine Qgd H hs hq.src fun h1 s1 H r1=>nn (Qas H 1 rfl rfl fun h2 H=> ?_)
 have H:At h0 h2 (rdr pr tyr s1 (vT xs).1::(plrL p ty s ⟨(vT xs).2.2,st.vote,st.es⟩++F)):=H
 refine Qgd H r1 hq.src fun h3 s3 H r3=>nn (Qa3 H 1 rfl rfl fun h4 H=> ?_)
 exact hR h4 s3 H r3
theorem hard_entry_ok{R:Heap->Prop}(H:At h0 h (rdr pr tyr rs_ false::(plrL p ty s st++F)))(hs:RdF q l0 rs_ xs)(hq:SrcF h0 F q l0)(hl:st.es.length<=1000000000)
  (h1:(eD st.es.length xs).1=true->∀h' s',At h0 h' (rdr pr tyr s' true::(plrL p ty s st++F))->RdF q l0 s' (eD st.es.length xs).2.1->R h')
  (h2:(eD st.es.length xs).1=false->∀h' s' s2,At h0 h' (rdr pr tyr s' false::(plrL p ty s2 ⟨st.term,st.vote,st.es.take ((eI st.es.length xs).2.2 -1).toNat++ [⟨(eT st.es.length xs).2.2,(eD st.es.length xs).2.2⟩]⟩++F))->RdF q l0 s' (eD st.es.length xs).2.1->R h'):
  Qdg (some ⟨p,0,none⟩) (some ⟨pr,0,none⟩) h R:=by
 refine QiW ?_
 unfold Qe0
 have hn:=H.n (E:=eEN) 2 rfl
 refine nn (Qap H 1 rfl s rfl (QbF ?_))
 rw[w64 (n:=(s.n:Int)+1) (by omega) (by omega),show(s.n:Int)+1=((st.es.length+1:Nat):Int) by omega]
 refine Qgd H hs hq.src fun h3 s3 H r3=> ?_
 refine Qgd H r3 hq.src fun h4 s4 H r4=> ?_
 refine word_Text_ok H r4 hq.src fun h5 s5 H r5=> ?_
 have H:At h0 h5 (rdr pr tyr s5 (eD st.es.length xs).1::(plrL p ty s st++F)):=H
 have r5:RdF q l0 s5 (eD st.es.length xs).2.1:=r5
 show QaG h5 (.cells #[.int .i64 0,.string (⟨#[]⟩:ByteArray)] _) _
 have g1:(Qj0 (Qj0 false xs 1 ((st.es.length+1:Nat):Int)).1 (Qj0 false xs 1 ((st.es.length+1:Nat):Int)).2.1 1 1099511627776).2.2=(eT st.es.length xs).2.2:=rfl
 have g2:(Qj0 false xs 1 ((st.es.length+1:Nat):Int)).2.2=(eI st.es.length xs).2.2:=rfl
 have g3:(Qid (Qj0 (Qj0 false xs 1 ((st.es.length+1:Nat):Int)).1 (Qj0 false xs 1 ((st.es.length+1:Nat):Int)).2.1 1 1099511627776).1 (Qj0 (Qj0 false xs 1 ((st.es.length+1:Nat):Int)).1 (Qj0 false xs 1 ((st.es.length+1:Nat):Int)).2.1 1 1099511627776).2.1 512).2.2=(eD st.es.length xs).2.2:=rfl
 rw[g1,g2,g3]
 refine Qaj H fun h6 pe H=>Qas H 0 rfl rfl fun h7 H=>Qa3 H 0 rfl rfl fun h8 H=> ?_
 have H:=H.mv 1 1
 refine Qha H ?_
 cases hbad:(eD st.es.length xs).1 with
 |true=>
  rw[hbad] at H
  exact brF (h1 hbad h8 s5 (H.del 1) r5)
 |false=>
  rw[hbad] at H
  obtain⟨i1,i2⟩:=eD_ok hbad
  have H:=H.mv 1 1
  generalize hi:(eI st.es.length xs).2.2=i at*
  rw[w64 (n:=i -1) (by omega) (by omega)]
  obtain⟨m,hm⟩:∃m:Nat,i -1=m:=⟨(i -1).toNat,by omega⟩
  have hmt:(i -1).toNat=m:=by omega
  have hcap:=(H.own 3 rfl).2.1
  refine brT (nn (Qap H 2 rfl s rfl (cutRO (E:=eEN) TEN (H.own 3 rfl) 0 m m lo0 (hii hm) (.inr ⟨hii hm,by simp⟩) (by omega) (by omega) (by omega) (by omega) fun s9 o9 n9 c9 b9=> ?_)))
  rw[List.drop_zero,Nat.sub_zero] at o9
  have H:=H.as_ 3 rfl (.own s9 2 (eEN.fl (st.es.take m))) o9 fun g hg=>by
   show s.blk=some g
   rw[<-b9];exact hg
  refine Qac H 0 rfl _ rfl (Qap H 0 rfl _ rfl (Qaj H fun h9 pb H=>⟨Qap H 3 rfl s rfl rfl, ?_⟩))
  refine app1B (E:=eEN) TEN H 4 rfl 0 rfl ⟨(eT st.es.length xs).2.2,(eD st.es.length xs).2.2⟩ rfl (by rw[List.length_take];omega) (by rw[List.length_take];omega) fun s10 h10 H=>nn (Qa3 H 3 rfl rfl fun h11 H=> ?_)
  refine h2 hbad h11 s5 s10 ?_ r5
  rw[hmt]
  exact(H.del 0).del 0
def SrcW(h0:Heap)(F:List Res)(l:Sl)(bs:List BR):Prop:=∀h' L,At h0 h' (L++F)->RdS h' 2 l (eBR.fl bs)/\∀a∈bs,RdS h' 1 a.s (cB a.xs)
theorem QnN{rs:List WRec}{k:Nat}(hk:k<rs.length)(h1:Qdl st0 (rs.take k)=some st)(h2:QfD st rs[k]=none):Qg1 rs=none:=by
 have e:rs=rs.take k++rs[k]::rs.drop (k+1):=by rw[<-List.drop_eq_getElem_cons hk,List.take_append_drop]
 unfold Qg1
 rw[e,QfP,h1]
 simp only[Qdl]
 rw[h2]
theorem playF_step{rs:List WRec}{k:Nat}{st':Stt}(hk:k<rs.length)(h1:Qdl st0 (rs.take k)=some st)(h2:QfD st rs[k]=some st'):Qdl st0 (rs.take (k+1))=some st':=by
 rw[QeM _ k hk,QfP,h1]
 simp only[Qdl,h2]
theorem hard_Play_ok{R:KL [.int .i64,.int .i64,.sl]->Int->Heap->Prop}(H:At h0 hB F)(hq:SrcW h0 F l bs)(hcp:∀a∈bs,a.s.n<=a.s.c)(hl:bs.length<=1000000000)
  (h1:Qg1 (bs.map BR.rec_)=none->∀h',At h0 h' F->R (0,0,⟨none,0,0⟩,()) 2 h')
  (h2:∀st s h',Qg1 (bs.map BR.rec_)=some st->At h0 h' (.own s 2 (eEN.fl st.es)::F)->R (st.term,st.vote,s,()) 0 h'):QiP l hB R:=by
 refine A_hard_Play ?_
 unfold QmO
 have hn:=rdn (hq hB [] H).1
 refine Qaj H fun hc1 p1 H=>Qaj (H.nil 2) fun hc2 p2 H=> ?_
 have bad:∀(h':Heap) (L:List Res),At h0 h' (L++(.blk p1 46 [.int .i64 0,.int .i64 0,.slice none 0 0]::F))->Qg1 (bs.map BR.rec_)=none->
   St h' ⟨p1,0,none⟩ (.int .i64 0) fun h_9=>St h_9 ((⟨p1,0,none⟩:Addr).add 1) (.int .i64 0) fun h_10=>St h_10 ((⟨p1,0,none⟩:Addr).add 2) (.slice none 0 0) fun h_11=>
   Ld (.int .i64) h_11 ⟨p1,0,none⟩ fun(r_0:Int)=>Ld (.int .i64) h_11 ((⟨p1,0,none⟩:Addr).add 1) fun(r_1:Int)=>Ld .sl h_11 ((⟨p1,0,none⟩:Addr).add 2) fun(r_2:Sl)=>R (r_0,r_1,r_2,()) 2 h_11:=fun h' L H hp=>by
  have H:At h0 h' (.blk p1 46 [.int .i64 0,.int .i64 0,.slice none 0 0]::F):=H.subl (List.sublist_append_right ..)
  repeat (first|with_reducible refine nn ?_|with_reducible refine QbF ?_|with_reducible refine QaA ?_|with_reducible refine brF ?_|with_reducible refine brT ?_|((with_reducible apply Qap H 0);exact rfl;exact rfl)|((with_reducible apply Qac H 0);exact rfl;exact rfl)|((with_reducible apply Qa3 H 0);exact rfl;exact rfl;intro h H)|((with_reducible apply Qas H 0);exact rfl;exact rfl;intro h H)|((with_reducible apply Qaj H);intro h b H)|((with_reducible refine⟨?_, ?_⟩);first|((with_reducible apply Qap H 0);exact rfl;exact rfl;exact rfl)|((with_reducible apply Qac H 0);exact rfl;exact rfl;exact rfl)))
  exact Qap H 0 rfl (⟨none,0,0⟩:Sl) rfl (h1 hp _ H.tail)
 refine Qhl (s1:= .one (.int .i64)) (fun(x:Int) h3=>∃(k:Nat) (st:Stt) (s:Sl) (ty:TypeId),x=k/\k<=bs.length/\Qdl st0 ((bs.map BR.rec_).take k)=some st/\st.es.length<=k/\At h0 h3 (plrL p2 ty s st++(.blk p1 46 [.int .i64 0,.int .i64 0,.slice none 0 0]::F))) (fun(x:Int) _=>(bs.length -x).toNat)
  ⟨0,st0,⟨none,0,0⟩,_,rfl,Nat.zero_le _,rfl,Nat.le_refl _,H⟩ fun _ (x:Int) h3 hI=> ?_
 obtain⟨k,st,s,ty,rfl,hk,hp,hlen,H⟩:=hI
 have Hs:=(show At h0 h3 ((plrL p2 ty s st++ [.blk p1 46 [.int .i64 0,.int .i64 0,.slice none 0 0]])++F) from H)
 refine brD (fun hc=> ?_) fun hc=> ?_
 ·have hk2:k<bs.length:=by omega
  have hk3:k<(bs.map BR.rec_).length:=by rw[List.length_map];exact hk2
  have hge:(bs.map BR.rec_)[k]=⟨bs[k].kind,bs[k].xs⟩:=by rw[List.getElem_map];rfl
  have hxl:=hq h3 _ Hs
  have hsrc:∀G,SrcF h0 (G++F) bs[k].s bs[k].xs:=fun G h' L H=>(hq h' (L++G) (by rw[List.append_assoc];exact H)).2 _ (List.getElem_mem hk2)
  refine ixR hxl.1 k rfl hk2 fun e he=>ldR0 hxl.1 he hk2 ((bs[k].kind.toNat:Nat):Int) rfl (ldR hxl.1 he hk2 bs[k].s rfl ?_)
  refine Qaj H fun h4 px H=>Qas H 0 rfl rfl fun h5 H=>Qa3 H 0 rfl rfl fun h6 H=>Qap H 0 rfl bs[k].s rfl ?_
  refine word_Read_ok H fun pr tyr h7 H=> ?_
  refine Qac H 1 rfl ((bs[k].kind.toNat:Nat):Int) rfl ?_
  have H:=(H.del 1)
  have H:At h0 h7 (rdr pr tyr bs[k].s false::(plrL p2 ty s st++([.blk p1 46 [.int .i64 0,.int .i64 0,.slice none 0 0]]++F))):=H
  have rf:RdF bs[k].s bs[k].xs bs[k].s bs[k].xs:=RdF.self (hxl.2 _ (List.getElem_mem hk2)) (hcp _ (List.getElem_mem hk2))
  refine Qg3 (fun h8=>∃s' bad' xs' st' s2,At h0 h8 (rdr pr tyr s' bad'::(plrL p2 ty s2 st'++([.blk p1 46 [.int .i64 0,.int .i64 0,.slice none 0 0]]++F)))/\RdF bs[k].s bs[k].xs s' xs'/\st'.es.length<=k+1/\QfD st (bs.map BR.rec_)[k]=if bad'=false/\xs'= [] then some st' else none) (fun _ h8 hJ=> ?_) ?_
  ·obtain⟨s',bad',xs',st',s2,H,r8,hl8,hst⟩:=hJ
   refine word_Done_ok H r8 (brB (fun hb=> ?_) fun hb=> ?_)
   ·refine bad h8 (rdr pr tyr s' bad'::plrL p2 ty s2 st') H (QnN hk3 hp ?_)
    rw[hst,if_neg]
    rintro ⟨rfl,rfl⟩
    cases hb
   ·have hb2:bad'=false/\xs'= []:=by
     cases bad' with
     |true=>cases hb
     |false=>exact⟨rfl,by simpa using hb⟩
    rw[if_pos hb2] at hst
    rw[w64 (by omega) (by omega)]
    exact⟨⟨k+1,st',s2,ty,by omega,by omega,playF_step hk3 hp hst,hl8,H.tail⟩,by omega⟩
  ·rw[hge]
   refine br beq_iff_eq (fun hk1=> ?_) fun hk1=>br beq_iff_eq (fun hk2'=> ?_) fun hk2'=> ?_
   ·have e1:bs[k].kind=1:=UInt8.toNat_inj.1 (by show bs[k].kind.toNat=1;omega)
    refine hard_vote_ok H rf (hsrc _) fun h8 s8 H r8=>⟨s8,_,_,_,s,H,r8,by show st.es.length<=k+1;omega, ?_⟩
    unfold QfD
    rw[if_pos e1]
   ·have e1:bs[k].kind=2:=UInt8.toNat_inj.1 (by show bs[k].kind.toNat=2;omega)
    have n1:¬bs[k].kind=1:=by rw[e1];decide
    refine hard_entry_ok H rf (hsrc _) (by omega) (fun hb h8 s8 H r8=>⟨s8,true,_,st,s,H,r8,by omega, ?_⟩) fun hb h8 s8 s9 H r8=>⟨s8,false,_,_,s9,H,r8, ?_, ?_⟩
    ·unfold QfD
     rw[if_neg n1,if_pos e1]
     show(if(eD st.es.length bs[k].xs).1=false/\_ then _ else _)=_
     rw[hb]
     simp
    ·rw[List.length_append,List.length_take];simp;omega
    ·unfold QfD
     rw[if_neg n1,if_pos e1]
     show(if(eD st.es.length bs[k].xs).1=false/\_ then _ else _)=_
     rw[hb]
   ·have n1:¬bs[k].kind=1:=fun e=>hk1 (by rw[e];rfl)
    have n2:¬bs[k].kind=2:=fun e=>hk2' (by rw[e];rfl)
    refine bad h7 (rdr pr tyr bs[k].s false::plrL p2 ty s st) H (QnN hk3 hp ?_)
    rw[hge]
    unfold QfD
    rw[if_neg n1,if_neg n2]
 ·have hkl:k=bs.length:=by omega
  subst hkl
  rw[List.take_of_length_le (by rw[List.length_map];exact Nat.le_refl _)] at hp
  refine nn (Qac H 0 rfl st.term rfl (Qap H 0 rfl st.vote rfl (Qap H 0 rfl s rfl ?_)))
  refine hard_Right_ok (H.rdo 1 rfl) (by omega) fun h4 e4=> ?_
  have H:=H.ext' e4
  have hpm:Qg1 (bs.map BR.rec_)=if Ql1 ⟨st.term,st.vote,st.es⟩=true then some st else none:=by unfold Qg1;rw[hp]
  refine brB (fun hb=> ?_) fun hb=> ?_
  ·refine bad h4 (plrL p2 ty s st) H ?_
   rw[hpm,if_neg]
   intro h
   rw[h] at hb
   cases hb
  ·refine nn (Qac H 0 rfl st.term rfl (Qap H 0 rfl st.vote rfl (Qap H 0 rfl s rfl ?_)))
   repeat (first|with_reducible refine nn ?_|with_reducible refine QbF ?_|with_reducible refine QaA ?_|with_reducible refine brF ?_|with_reducible refine brT ?_|((with_reducible apply Qap H 0);exact rfl;exact rfl)|((with_reducible apply Qac H 0);exact rfl;exact rfl)|((with_reducible apply Qap H 1);exact rfl;exact rfl)|((with_reducible apply Qac H 1);exact rfl;exact rfl)|((with_reducible apply Qap H 2);exact rfl;exact rfl)|((with_reducible apply Qac H 2);exact rfl;exact rfl)|((with_reducible apply Qa3 H 0);exact rfl;exact rfl;intro h H)|((with_reducible apply Qas H 0);exact rfl;exact rfl;intro h H)|((with_reducible apply Qa3 H 1);exact rfl;exact rfl;intro h H)|((with_reducible apply Qas H 1);exact rfl;exact rfl;intro h H)|((with_reducible apply Qa3 H 2);exact rfl;exact rfl;intro h H)|((with_reducible apply Qas H 2);exact rfl;exact rfl;intro h H)|((with_reducible apply Qaj H);intro h b H)|((with_reducible refine⟨?_, ?_⟩);first|((with_reducible apply Qap H 0);exact rfl;exact rfl;exact rfl)|((with_reducible apply Qac H 0);exact rfl;exact rfl;exact rfl)|((with_reducible apply Qap H 1);exact rfl;exact rfl;exact rfl)|((with_reducible apply Qac H 1);exact rfl;exact rfl;exact rfl)|((with_reducible apply Qap H 2);exact rfl;exact rfl;exact rfl)|((with_reducible apply Qac H 2);exact rfl;exact rfl;exact rfl)))
   refine h2 st s _ ?_ ((H.del 0).del 1)
   rw[hpm,if_pos]
   simpa using hb
theorem Qmq{R:KL [.int .i64,.int .i64,.sl]->Int->Heap->Prop}(H:At h0 hB (Qb9 d ty sd b n++F))(hl:b.length<=1048576)(hge:n<=(QdG b).2.1)
  (h1:Qg1 (QdG b).1=none->∀h' s',At h0 h' (Qb9 d ty s' (b.take (QdG b).2.1) (QdG b).2.1++F)->R (0,0,⟨none,0,0⟩,()) 2 h')
  (h2:∀st s h' s',Qg1 (QdG b).1=some st->At h0 h' (.own s 2 (eEN.fl st.es)::(Qb9 d ty s' (b.take (QdG b).2.1) (QdG b).2.1++F))->R (st.term,st.vote,s,()) 0 h'):Qd3 (some ⟨d,0,none⟩) hB R:=by
 refine Qnu ?_
 unfold Qiw
 refine Qaj H fun hc1 p1 H=> ?_
 have hle:=Qoh b (b.length+1) [] 0 (Nat.zero_le _)
 have hcnt:(QdG b).1.length<=1048576:=by
  have h1:=hle.2.1
  have h2:=hle.2.2
  unfold QdG
  simp only[List.length_nil] at h2
  omega
 refine Qm9 (F:= .blk p1 _ _::F) (H.mv 1 2) hl (fun hlt=>by omega) fun _ h3 out bs s3 hbs hcp H=>brN rfl ?_
 have hbl:bs.length<=1048576:=by
  have:=congrArg List.length hbs
  rw[List.length_map] at this
  omega
 rw[<-hbs] at h1 h2
 have H:=H.mv 3 1
 refine hard_Play_ok (F:=_::(Qb9 d ty s3 (b.take (QdG b).2.1) (QdG b).2.1++(resW out bs::F))) (bs:=bs) H (fun h' L H=> ?_) hcp (by omega) (fun hp h4 H=> ?_) fun st s h4 hp H=> ?_
 ·have H:=H.subl (List.sublist_append_right ..)
  exact H.get 3 rfl
 ·repeat (first|with_reducible refine nn ?_|with_reducible refine QbF ?_|with_reducible refine QaA ?_|with_reducible refine brF ?_|with_reducible refine brT ?_|((with_reducible apply Qap H 0);exact rfl;exact rfl)|((with_reducible apply Qac H 0);exact rfl;exact rfl)|((with_reducible apply Qa3 H 0);exact rfl;exact rfl;intro h H)|((with_reducible apply Qas H 0);exact rfl;exact rfl;intro h H)|((with_reducible apply Qaj H);intro h b H)|((with_reducible refine⟨?_, ?_⟩);first|((with_reducible apply Qap H 0);exact rfl;exact rfl;exact rfl)|((with_reducible apply Qac H 0);exact rfl;exact rfl;exact rfl)))
  exact h1 hp _ s3 (H.tail.del 2)
 ·repeat (first|with_reducible refine nn ?_|with_reducible refine QbF ?_|with_reducible refine QaA ?_|with_reducible refine brF ?_|with_reducible refine brT ?_|((with_reducible apply Qap H 0);exact rfl;exact rfl)|((with_reducible apply Qac H 0);exact rfl;exact rfl)|((with_reducible apply Qap H 1);exact rfl;exact rfl)|((with_reducible apply Qac H 1);exact rfl;exact rfl)|((with_reducible apply Qa3 H 0);exact rfl;exact rfl;intro h H)|((with_reducible apply Qas H 0);exact rfl;exact rfl;intro h H)|((with_reducible apply Qa3 H 1);exact rfl;exact rfl;intro h H)|((with_reducible apply Qas H 1);exact rfl;exact rfl;intro h H)|((with_reducible apply Qaj H);intro h b H)|((with_reducible refine⟨?_, ?_⟩);first|((with_reducible apply Qap H 0);exact rfl;exact rfl;exact rfl)|((with_reducible apply Qac H 0);exact rfl;exact rfl;exact rfl)|((with_reducible apply Qap H 1);exact rfl;exact rfl;exact rfl)|((with_reducible apply Qac H 1);exact rfl;exact rfl;exact rfl)))
  exact h2 st s _ s3 hp ((H.del 1).del 3)
end
section
open Go
open Go.ChangeShapes Go.WideShapes
variable {H:Type}{enc:TypeId×Value->H}{w:World}{b0:Nat}{v:Value}{d:DataW H}{ps:List MemPlace}
end
section
open Go
variable {h0 hB h:Heap}{L F:List Res}{d p:Nat}{ty:TypeId}{s sd l:Sl}{b:List UInt8}{n:Nat}{es:List Ent}{bs:List BR}{rs:List WRec}
theorem Qla{R:KL [.int .i64,.int .i64,.sl]->Int->Heap->Prop}(H:At h0 hB (Qb9 d ty sd b n++F))(hl:b.length<=1048576)(hge:n<=(QdG b).2.1)
  (hR:∀tg vg sg eg code h',((Qg1 (QdG b).1=none/\code=2)\/(Qg1 (QdG b).1=some ⟨tg,vg,eg⟩/\code=0))->(∃s',At h0 h' (.own sg 2 (eEN.fl eg)::(Qb9 d ty s' (b.take (QdG b).2.1) (QdG b).2.1++F)))->R (tg,vg,sg,()) code h'):Qd3 (some ⟨d,0,none⟩) hB R:=
 Qmq H hl hge (fun hp h' s' H=>hR 0 0 _ [] 2 h' (.inl ⟨hp,rfl⟩) ⟨s',H.nil 2⟩) fun st s h' s' hp H=>hR st.term st.vote s st.es 0 h' (.inr ⟨hp,rfl⟩) ⟨s',H⟩
set_option maxRecDepth 100000 in
theorem savR_size{s:Sav}(h:∀e∈s.es,e.d.length<=600):(Qao (Qnc s)).length<=(s.es.length+1)*627:=by
 have h1:=Ql3 618 _ fun r hr=>(savR_ok h r hr).2
 have h2:=savR_len s
 have h3:(Qnc s).length*627<=(s.es.length+1)*627:=Nat.mul_le_mul_right _ h2
 omega
set_option maxRecDepth 100000 in
theorem walR_recs{rs:List WRec}(hok:∀r∈rs,r.ok):QdG (Qao rs)=(rs,(Qao rs).length,0):=by
 obtain⟨f2,hf2,hw3⟩:=walM_recs [] rs [] ((Qao rs).length+1) [] 0 hok rfl (by simp)
 simp only[List.nil_append,Nat.zero_add,List.append_nil] at hf2 hw3
 rw[QlP (Nat.lt_irrefl _)] at hw3
 exact hw3
end
section
open Go
variable {h0 h:Heap}{F:List Res}{d:Nat}{X:RN}{m:RM}
theorem ldM{kd:Kd}{j b:Nat}{t:TypeId}{cs:List Value}{K:kd.T->Prop}(H:RaftAt h0 h d X (.blk b t cs::F))(x:kd.T)(hx:cs[j]? =some (kd.mk x))(hK:K x):Ld kd h ((⟨b,0,none⟩:Addr).add j) K:=Qap H.ats 0 rfl x hx hK
theorem ldM0{kd:Kd}{b:Nat}{t:TypeId}{cs:List Value}{K:kd.T->Prop}(H:RaftAt h0 h d X (.blk b t cs::F))(x:kd.T)(hx:cs[0]? =some (kd.mk x))(hK:K x):Ld kd h (⟨b,0,none⟩:Addr) K:=Qac H.ats 0 rfl x hx hK
theorem sendE{to:Int}{m:RM}{R:Heap->Prop}(H:RaftAt h0 h d X F)(he:m.ents= [])(ho:X.out.length<=999999)(hR:∀h',RaftAt h0 h' d (Ql8 X to m) F->R h'):
  Qa5 (some ⟨d,0,none⟩) to (m.kind,m.from_,m.to,m.term,m.index,m.logTerm,m.commit,m.yes,⟨none,0,0⟩,()) h R:=Qhf (H.nilE he) ho hR
theorem Qfg{to index:Int}{yes:Bool}{R:Heap->Prop}(H:RaftAt h0 h d X F)(ho:X.out.length<=999999)(hR:∀h',RaftAt h0 h' d (Qib X to yes index) F->R h'):QbR (some ⟨d,0,none⟩) to yes index h R:=by
 refine Qlg ?_
 unfold QgG
 refine nn (Qat (j:=4) H X.term (fun _ _=>rfl) ?_)
 exact sendE (m:=⟨6,0,0,X.term,index,0,0,yes,[]⟩) H rfl ho hR
theorem rAgree_same(X:RN):(Qaf X).n=X.n/\(Qaf X).id=X.id/\(Qaf X).next=X.next/\(Qaf X).log=X.log/\(Qaf X).matc=X.matc/\(Qaf X).role=X.role/\(Qaf X).term=X.term:=by
 unfold Qaf
 split<;>exact⟨rfl,rfl,rfl,rfl,rfl,rfl,rfl⟩
theorem rAgree_len(hb:RB X):(Qaf X).out.length<=X.out.length+7:=by
 unfold Qaf
 split
 ·exact Nat.le_add_right _ _
 ·rename_i c _
  exact Qkc (X:={X with commit:=(c:Int)}) (hb.of rfl rfl rfl rfl)
theorem RB.hear1(hb:RB X)(hm:∀t,0<=X.matc t/\X.matc t<=1024)(k:Nat){i:Int}(hi:i<=1024):RB (Qau X k i):=⟨hb.n1,hb.n7,hb.id0,hb.idn,fun t=>by
 have h1:=hm k
 have h2:=hb.nx t
 show 0<=upd X.next k (mx (X.matc k) i+1) t/\upd X.next k (mx (X.matc k) i+1) t<=1025
 unfold upd mx
 split
 ·split<;>omega
 ·exact h2,hb.l⟩
theorem RB.hear2(hb:RB X)(hm:∀t,0<=X.matc t/\X.matc t<=1024)(k:Nat)(i:Int):RB (Qcx X k i):=⟨hb.n1,hb.n7,hb.id0,hb.idn,fun t=>by
 have h1:=hm k
 have h2:=hb.nx t
 have h3:=hb.nx k
 show 0<=upd X.next k _ t/\upd X.next k _ t<=(1025:Int)
 unfold upd
 split
 ·unfold mx mn
  repeat' split
  all_goals omega
 ·exact h2,hb.l⟩
theorem rNewer_same(X:RN)(m:RM):(Qab X m).n=X.n/\(Qab X m).id=X.id/\(Qab X m).next=X.next/\(Qab X m).log=X.log/\(Qab X m).matc=X.matc/\(Qab X m).out=X.out/\(Qab X m).commit=X.commit/\(Qab X m).votes=X.votes/\(Qab X m).heard=X.heard:=by
 unfold Qab Qai
 split<;>exact⟨rfl,rfl,rfl,rfl,rfl,rfl,rfl,rfl,rfl⟩
end
section
open Go
variable {h0 h:Heap}{F L:List Res}{d:Nat}{X:RN}
def Qng(T:Int):Int->List RE->Prop
 |_,[]=>True
 |a,e::l=>¬e.term<a/\¬e.term>T/\e.data.size<=512/\Qng T e.term l
def okS(term vote:Int)(es:List RE):Prop:=Qng term 1 es/\0<=term/\term<=1099511627776/\ -1<=vote/\vote<7/\es.length<=1024
theorem QnH{T:Int}:∀{es:List RE}{a:Int}(j:Nat) (hj:j<es.length),(Qng T a (es.take (j+1))↔Qng T a (es.take j)/\¬es[j].term<(if j=0 then a else(es[j -1]?.map (·.term)).getD 0)/\¬es[j].term>T/\es[j].data.size<=512)
 |e::l,a,0,_=>by
  show(_/\_/\_/\True)↔True/\_/\_/\_
  rw[if_pos rfl]
  simp
 |e::l,a,j+1,hj=>by
  have ih:=QnH (T:=T) (es:=l) (a:=e.term) j (by simpa using hj)
  show(_/\_/\_/\Qng T e.term (l.take (j+1)))↔(_/\_/\_/\Qng T e.term (l.take j))/\_
  rw[ih]
  have e1:(if j+1=0 then a else((e::l)[j+1 -1]?.map (·.term)).getD 0)=(if j=0 then e.term else(l[j -1]?.map (·.term)).getD 0):=by
   rw[if_neg (by omega),Nat.add_sub_cancel]
   cases j with
   |zero=>rfl
   |succ i=>rw[if_neg (by omega),List.getElem?_cons_succ,Nat.add_sub_cancel]
  rw[e1]
  simp only[List.getElem_cons_succ]
  constructor
  ·rintro ⟨h1,h2,h3,h4,h5⟩;exact⟨⟨h1,h2,h3,h4⟩,h5⟩
  ·rintro ⟨⟨h1,h2,h3,h4⟩,h5⟩;exact⟨h1,h2,h3,h4,h5⟩
theorem riseR_pre{T:Int}:∀{es:List RE}{a:Int}(j:Nat),Qng T a es->Qng T a (es.take j)
 | [],_,_,_=>by rw[List.take_nil];trivial
 |_::_,_,0,_=>trivial
 |e::l,a,j+1,h=>⟨h.1,h.2.1,h.2.2.1,riseR_pre j h.2.2.2⟩
def lastOf(a:Int)(es:List RE)(j:Nat):Int:=if j=0 then a else(es[j -1]?.map (·.term)).getD 0
theorem lastOf_succ{a:Int}{es:List RE}{j:Nat}(hj:j<es.length):lastOf a es (j+1)=es[j].term:=by
 unfold lastOf
 rw[if_neg (by omega),Nat.add_sub_cancel,List.getElem?_eq_getElem hj];rfl
theorem Qox{term vote:Int}{s:Sl}{es:List RE}{R:Bool->Heap->Prop}(H:At h0 h L)(A:RdS h0 2 s (eRE.fl es))(hl:es.length<=1000000)(hR:∀q h',(q=true↔okS term vote es)->At h0 h' L->R q h'):QhK (term,vote,s,()) h R:=by
 refine A_raft_right ?_
 unfold Qk3
 have hn:=rdn A
 refine Qaj (cs:= [.int .i64 term,.int .i64 vote,.slice s.a s.n s.c]) H fun h1 b H=> ?_
 repeat (first|with_reducible refine nn ?_|with_reducible refine QbF ?_|with_reducible refine QaA ?_|with_reducible refine brF ?_|with_reducible refine brT ?_|((with_reducible apply Qap H 0);exact rfl;exact rfl)|((with_reducible apply Qac H 0);exact rfl;exact rfl)|((with_reducible apply Qa3 H 0);exact rfl;exact rfl;intro h H)|((with_reducible apply Qas H 0);exact rfl;exact rfl;intro h H)|((with_reducible refine⟨?_, ?_⟩);first|((with_reducible apply Qap H 0);exact rfl;exact rfl;exact rfl)|((with_reducible apply Qac H 0);exact rfl;exact rfl;exact rfl)))
 have no:∀{h':Heap} {q:Res},At h0 h' (q::L)->¬okS term vote es->R false h':=fun H2 hno=>hR _ _ ⟨fun x=>(by cases x),fun x=>absurd x hno⟩ H2.tail
 refine QiH (s1:= .one (.int .i64)) (s2:= .one (.int .i64)) (fun(a y:Int) h2=>∃j:Nat,y=j/\j<=es.length/\a=lastOf 1 es j/\Qng term 1 (es.take j)/\At h0 h2 (.blk b 46 [.int .i64 term,.int .i64 vote,.slice s.a s.n s.c]::L)) (fun _ (y:Int) _=>(es.length -y).toNat)
  ⟨0,rfl,Nat.zero_le _,rfl,trivial,H⟩ fun _ (a y:Int) h2 hI=> ?_
 obtain⟨j,rfl,hj,rfl,hri,H⟩:=hI
 refine brD (fun hc=> ?_) fun hc=> ?_
 ·have hj2:j<es.length:=by omega
  have A2:=H.arg A
  refine ixR A2 j rfl hj2 fun e he=> ?_
  refine ldR0 A2 he hj2 es[j].term rfl (ldR (j:=1) A2 he hj2 es[j].data rfl ?_)
  repeat (first|with_reducible refine nn ?_|with_reducible refine QbF ?_|with_reducible refine QaA ?_|with_reducible refine brF ?_|with_reducible refine brT ?_|((with_reducible apply Qap H 0);exact rfl;exact rfl)|((with_reducible apply Qac H 0);exact rfl;exact rfl)|((with_reducible apply Qap H 1);exact rfl;exact rfl)|((with_reducible apply Qac H 1);exact rfl;exact rfl)|((with_reducible apply Qa3 H 0);exact rfl;exact rfl;intro h H)|((with_reducible apply Qas H 0);exact rfl;exact rfl;intro h H)|((with_reducible apply Qa3 H 1);exact rfl;exact rfl;intro h H)|((with_reducible apply Qas H 1);exact rfl;exact rfl;intro h H)|((with_reducible apply Qaj H);intro h b H)|((with_reducible refine⟨?_, ?_⟩);first|((with_reducible apply Qap H 0);exact rfl;exact rfl;exact rfl)|((with_reducible apply Qac H 0);exact rfl;exact rfl;exact rfl)|((with_reducible apply Qap H 1);exact rfl;exact rfl;exact rfl)|((with_reducible apply Qac H 1);exact rfl;exact rfl;exact rfl)))
  have hta:=QnH (T:=term) (a:=1) j hj2
  have bad:¬(¬es[j].term<lastOf 1 es j/\¬es[j].term>term/\es[j].data.size<=512)->¬okS term vote es:=fun hb hx=>hb (hta.1 (riseR_pre _ hx.1)).2
  refine brD (fun h3=>no H.tail (bad fun x=>x.1 h3)) fun h3=> ?_
  repeat (first|with_reducible refine nn ?_|with_reducible refine QbF ?_|with_reducible refine QaA ?_|with_reducible refine brF ?_|with_reducible refine brT ?_|((with_reducible apply Qap H 0);exact rfl;exact rfl)|((with_reducible apply Qac H 0);exact rfl;exact rfl)|((with_reducible apply Qap H 1);exact rfl;exact rfl)|((with_reducible apply Qac H 1);exact rfl;exact rfl)|((with_reducible apply Qa3 H 0);exact rfl;exact rfl;intro h H)|((with_reducible apply Qas H 0);exact rfl;exact rfl;intro h H)|((with_reducible apply Qa3 H 1);exact rfl;exact rfl;intro h H)|((with_reducible apply Qas H 1);exact rfl;exact rfl;intro h H)|((with_reducible apply Qaj H);intro h b H)|((with_reducible refine⟨?_, ?_⟩);first|((with_reducible apply Qap H 0);exact rfl;exact rfl;exact rfl)|((with_reducible apply Qac H 0);exact rfl;exact rfl;exact rfl)|((with_reducible apply Qap H 1);exact rfl;exact rfl;exact rfl)|((with_reducible apply Qac H 1);exact rfl;exact rfl;exact rfl)))
  refine brD (fun h4=>no H.tail (bad fun x=>x.2.1 h4)) fun h4=> ?_
  repeat (first|with_reducible refine nn ?_|with_reducible refine QbF ?_|with_reducible refine QaA ?_|with_reducible refine brF ?_|with_reducible refine brT ?_|((with_reducible apply Qap H 0);exact rfl;exact rfl)|((with_reducible apply Qac H 0);exact rfl;exact rfl)|((with_reducible apply Qap H 1);exact rfl;exact rfl)|((with_reducible apply Qac H 1);exact rfl;exact rfl)|((with_reducible apply Qa3 H 0);exact rfl;exact rfl;intro h H)|((with_reducible apply Qas H 0);exact rfl;exact rfl;intro h H)|((with_reducible apply Qa3 H 1);exact rfl;exact rfl;intro h H)|((with_reducible apply Qas H 1);exact rfl;exact rfl;intro h H)|((with_reducible apply Qaj H);intro h b H)|((with_reducible refine⟨?_, ?_⟩);first|((with_reducible apply Qap H 0);exact rfl;exact rfl;exact rfl)|((with_reducible apply Qac H 0);exact rfl;exact rfl;exact rfl)|((with_reducible apply Qap H 1);exact rfl;exact rfl;exact rfl)|((with_reducible apply Qac H 1);exact rfl;exact rfl;exact rfl)))
  refine brD (fun h5=>no H.tail (bad fun x=>by have:=x.2.2;omega)) fun h5=> ?_
  repeat (first|with_reducible refine nn ?_|with_reducible refine QbF ?_|with_reducible refine QaA ?_|with_reducible refine brF ?_|with_reducible refine brT ?_|((with_reducible apply Qap H 0);exact rfl;exact rfl)|((with_reducible apply Qac H 0);exact rfl;exact rfl)|((with_reducible apply Qap H 1);exact rfl;exact rfl)|((with_reducible apply Qac H 1);exact rfl;exact rfl)|((with_reducible apply Qa3 H 0);exact rfl;exact rfl;intro h H)|((with_reducible apply Qas H 0);exact rfl;exact rfl;intro h H)|((with_reducible apply Qa3 H 1);exact rfl;exact rfl;intro h H)|((with_reducible apply Qas H 1);exact rfl;exact rfl;intro h H)|((with_reducible apply Qaj H);intro h b H)|((with_reducible refine⟨?_, ?_⟩);first|((with_reducible apply Qap H 0);exact rfl;exact rfl;exact rfl)|((with_reducible apply Qac H 0);exact rfl;exact rfl;exact rfl)|((with_reducible apply Qap H 1);exact rfl;exact rfl;exact rfl)|((with_reducible apply Qac H 1);exact rfl;exact rfl;exact rfl)))
  rw[w64 (by omega) (by omega)]
  exact⟨⟨j+1,by omega,by omega,(lastOf_succ hj2).symm,hta.2 ⟨hri,h3,h4,by omega⟩,H.tail⟩,by omega⟩
 ·have hjl:j=es.length:=by omega
  subst hjl
  rw[List.take_length] at hri
  repeat (first|with_reducible refine nn ?_|with_reducible refine QbF ?_|with_reducible refine QaA ?_|with_reducible refine brF ?_|with_reducible refine brT ?_|((with_reducible apply Qap H 0);exact rfl;exact rfl)|((with_reducible apply Qac H 0);exact rfl;exact rfl)|((with_reducible apply Qa3 H 0);exact rfl;exact rfl;intro h H)|((with_reducible apply Qas H 0);exact rfl;exact rfl;intro h H)|((with_reducible refine⟨?_, ?_⟩);first|((with_reducible apply Qap H 0);exact rfl;exact rfl;exact rfl)|((with_reducible apply Qac H 0);exact rfl;exact rfl;exact rfl)))
  refine brD (fun h3=> ?_) fun h3=>no H fun x=>h3 x.2.1
  repeat (first|with_reducible refine nn ?_|with_reducible refine QbF ?_|with_reducible refine QaA ?_|with_reducible refine brF ?_|with_reducible refine brT ?_|((with_reducible apply Qap H 0);exact rfl;exact rfl)|((with_reducible apply Qac H 0);exact rfl;exact rfl)|((with_reducible apply Qa3 H 0);exact rfl;exact rfl;intro h H)|((with_reducible apply Qas H 0);exact rfl;exact rfl;intro h H)|((with_reducible refine⟨?_, ?_⟩);first|((with_reducible apply Qap H 0);exact rfl;exact rfl;exact rfl)|((with_reducible apply Qac H 0);exact rfl;exact rfl;exact rfl)))
  refine brD (fun h4=> ?_) fun h4=>no H fun x=>h4 x.2.2.1
  repeat (first|with_reducible refine nn ?_|with_reducible refine QbF ?_|with_reducible refine QaA ?_|with_reducible refine brF ?_|with_reducible refine brT ?_|((with_reducible apply Qap H 0);exact rfl;exact rfl)|((with_reducible apply Qac H 0);exact rfl;exact rfl)|((with_reducible apply Qa3 H 0);exact rfl;exact rfl;intro h H)|((with_reducible apply Qas H 0);exact rfl;exact rfl;intro h H)|((with_reducible refine⟨?_, ?_⟩);first|((with_reducible apply Qap H 0);exact rfl;exact rfl;exact rfl)|((with_reducible apply Qac H 0);exact rfl;exact rfl;exact rfl)))
  refine brD (fun h5=> ?_) fun h5=>no H fun x=>h5 x.2.2.2.1
  repeat (first|with_reducible refine nn ?_|with_reducible refine QbF ?_|with_reducible refine QaA ?_|with_reducible refine brF ?_|with_reducible refine brT ?_|((with_reducible apply Qap H 0);exact rfl;exact rfl)|((with_reducible apply Qac H 0);exact rfl;exact rfl)|((with_reducible apply Qa3 H 0);exact rfl;exact rfl;intro h H)|((with_reducible apply Qas H 0);exact rfl;exact rfl;intro h H)|((with_reducible refine⟨?_, ?_⟩);first|((with_reducible apply Qap H 0);exact rfl;exact rfl;exact rfl)|((with_reducible apply Qac H 0);exact rfl;exact rfl;exact rfl)))
  refine brD (fun h6=> ?_) fun h6=>no H fun x=>h6 x.2.2.2.2.1
  repeat (first|with_reducible refine nn ?_|with_reducible refine QbF ?_|with_reducible refine QaA ?_|with_reducible refine brF ?_|with_reducible refine brT ?_|((with_reducible apply Qap H 0);exact rfl;exact rfl)|((with_reducible apply Qac H 0);exact rfl;exact rfl)|((with_reducible apply Qa3 H 0);exact rfl;exact rfl;intro h H)|((with_reducible apply Qas H 0);exact rfl;exact rfl;intro h H)|((with_reducible refine⟨?_, ?_⟩);first|((with_reducible apply Qap H 0);exact rfl;exact rfl;exact rfl)|((with_reducible apply Qac H 0);exact rfl;exact rfl;exact rfl)))
  refine hR _ _ ?_ H.tail
  rw[decide_eq_true_iff]
  exact⟨fun x=>⟨hri,h3,h4,h5,h6,by omega⟩,fun x=>by have:=x.2.2.2.2.2;omega⟩
theorem Ql7{id n elect beat term vote:Int}{s:Sl}{es:List RE}{R:Option Addr->Int->Heap->Prop}(H:At h0 h L)(A:RdS h0 2 s (eRE.fl es))(hl:es.length<=100000)
  (hbad:(n<1\/n>7\/id<0\/id>=n\/elect<1\/elect>1000\/beat<1\/beat>elect)->∀h',At h0 h' L->R none 1 h') (hno:¬okS term vote es->∀h',At h0 h' L->R none 2 h')
  (hR:okS term vote es->¬(n<1\/n>7\/id<0\/id>=n\/elect<1\/elect>1000\/beat<1\/beat>elect)->∀h' d,RaftAt h0 h' d (Ql9 id n elect beat term vote es) L->R (some ⟨d,0,none⟩) 0 h'):Qia id n elect beat (term,vote,s,()) h R:=by
 refine A_raft_New ?_
 unfold Qob
 refine Qaj (cs:= [.int .i64 term,.int .i64 vote,.slice s.a s.n s.c]) H fun h1 b H=> ?_
 refine Qg3 (fun h2=>(okS term vote es/\¬(n<1\/n>7\/id<0\/id>=n\/elect<1\/elect>1000\/beat<1\/beat>elect))/\At h0 h2 (.blk b 46 [.int .i64 term,.int .i64 vote,.slice s.a s.n s.c]::L)) (fun _ h2 hJ=> ?_) ?_
 ·obtain⟨hok,H⟩:=hJ
  repeat (first|with_reducible refine nn ?_|with_reducible refine QbF ?_|with_reducible refine QaA ?_|with_reducible refine brF ?_|with_reducible refine brT ?_|((with_reducible apply Qap H 0);exact rfl;exact rfl)|((with_reducible apply Qac H 0);exact rfl;exact rfl)|((with_reducible apply Qa3 H 0);exact rfl;exact rfl;intro h H)|((with_reducible apply Qas H 0);exact rfl;exact rfl;intro h H)|((with_reducible refine⟨?_, ?_⟩);first|((with_reducible apply Qap H 0);exact rfl;exact rfl;exact rfl)|((with_reducible apply Qac H 0);exact rfl;exact rfl;exact rfl)))
  refine log_New_ok H (H.arg A) hl fun lg sl h3 H=> ?_
  repeat (first|with_reducible refine nn ?_|with_reducible refine QbF ?_|with_reducible refine QaA ?_|with_reducible refine brF ?_|with_reducible refine brT ?_|((with_reducible apply Qap H 2);exact rfl;exact rfl)|((with_reducible apply Qac H 2);exact rfl;exact rfl)|((with_reducible apply Qa3 H 2);exact rfl;exact rfl;intro h H)|((with_reducible apply Qas H 2);exact rfl;exact rfl;intro h H)|((with_reducible refine⟨?_, ?_⟩);first|((with_reducible apply Qap H 2);exact rfl;exact rfl;exact rfl)|((with_reducible apply Qac H 2);exact rfl;exact rfl;exact rfl)))
  refine Qaj (cs:=(Ql9 id n elect beat term vote es).cells lg ⟨none,0,0⟩) ((H.del 2).nil 9) fun h4 d H=> ?_
  refine hR hok.1 hok.2 h4 d ⟨73,lg,101,sl,⟨none,0,0⟩,[],rfl, ?_⟩
  rw[show Qfb []= [] from rfl,List.append_nil]
  have H:=H.mv 2 2
  exact H.mv 2 1
 ·refine brD (fun h3=>hbad (by omega) _ H.tail) fun h3=>brD (fun h4=>hbad (by omega) _ H.tail) fun h4=>brD (fun h5=>hbad (by omega) _ H.tail) fun h5=>brD (fun h6=>hbad (by omega) _ H.tail) fun h6=> ?_
  refine brD (fun h7=>hbad (by omega) _ H.tail) fun h7=>brD (fun h8=>hbad (by omega) _ H.tail) fun h8=>brD (fun h9=>hbad (by omega) _ H.tail) fun h9=>brD (fun h10=>hbad (by omega) _ H.tail) fun h10=> ?_
  repeat (first|with_reducible refine nn ?_|with_reducible refine QbF ?_|with_reducible refine QaA ?_|with_reducible refine brF ?_|with_reducible refine brT ?_|((with_reducible apply Qap H 0);exact rfl;exact rfl)|((with_reducible apply Qac H 0);exact rfl;exact rfl)|((with_reducible apply Qa3 H 0);exact rfl;exact rfl;intro h H)|((with_reducible apply Qas H 0);exact rfl;exact rfl;intro h H)|((with_reducible refine⟨?_, ?_⟩);first|((with_reducible apply Qap H 0);exact rfl;exact rfl;exact rfl)|((with_reducible apply Qac H 0);exact rfl;exact rfl;exact rfl)))
  refine Qox H A (by omega) fun q h2 hq H=>brNot (fun hqf=>hno (fun x=>by rw[hq.2 x] at hqf;cases hqf) _ H.tail) fun hqt=>⟨⟨hq.1 hqt,by omega⟩,H⟩
theorem raft_Save_ok{R:KL [.bool,.int .i64,.int .i64,.int .i64,.sl]->Bool->Heap->Prop}(H:RaftAt h0 h d X F)(hl:X.log.length<=100000)(hf:0<=X.from_/\X.from_<=2000)
  (h1:X.hard=false->X.from_=0->∀h',RaftAt h0 h' d X F->R (false,0,0,0,⟨none,0,0⟩,()) false h')
  (h2:¬(X.hard=false/\X.from_=0)->∀r h',RaftAt h0 h' d {X with hard:=false,from_:=0} (.own r 2 (eRE.fl (if X.from_>0 then Qgr X.log X.from_ 1024 else []))::F)->R (X.hard,X.term,X.vote,X.from_,r,()) true h'):Qep (some ⟨d,0,none⟩) h R:=by
 refine Qln ?_
 unfold QgO
 refine RaftAt.alloc (cs:= [.bool false,.int .i64 0,.int .i64 0,.int .i64 0,.slice none 0 0]) H fun h b H=> ?_
 refine Qg2 (s1:= .one .bool) (fun(q:Bool) h2=>(q=true↔(X.hard=false/\X.from_=0))/\h2=h) (fun _ (q:Bool) h3 hJ=> ?_) ?_
 rotate_left
 ·refine brF (nn (Qat (j:=29) H X.hard (fun _ _=>rfl) (brNot (fun hh=>nn (Qat (j:=30) H X.from_ (fun _ _=>rfl) ⟨?_,rfl⟩)) fun hh=>⟨⟨fun x=>(by cases x),fun x=>by rw[hh] at x;cases x.1⟩,rfl⟩)))
  rw[beq_iff_eq]
  exact⟨fun x=>⟨hh,x⟩,fun x=>x.2⟩
 obtain⟨hq,rfl⟩:=hJ
 obtain⟨ty,lg,tl,sl,so,z,hz,H⟩:=H
 refine brB (fun hqt=> ?_) fun hqf=> ?_
 ·repeat (first|with_reducible refine nn ?_|with_reducible refine QbF ?_|with_reducible refine QaA ?_|with_reducible refine brF ?_|with_reducible refine brT ?_|((with_reducible apply Qap H 4);exact rfl;exact rfl)|((with_reducible apply Qac H 4);exact rfl;exact rfl)|((with_reducible apply Qa3 H 4);exact rfl;exact rfl;intro h H)|((with_reducible apply Qas H 4);exact rfl;exact rfl;intro h H)|((with_reducible refine⟨?_, ?_⟩);first|((with_reducible apply Qap H 4);exact rfl;exact rfl;exact rfl)|((with_reducible apply Qac H 4);exact rfl;exact rfl;exact rfl)))
  (try refine Qap H 4 rfl (⟨none,0,0⟩:Sl) rfl ?_)
  exact h1 (hq.1 hqt).1 (hq.1 hqt).2 _ ⟨ty,lg,tl,sl,so,z,hz,H.del 4⟩
 ·have hno:¬(X.hard=false/\X.from_=0):=fun x=>by rw[hq.2 x] at hqf;cases hqf
  have h2:=h2 hno
  repeat (first|with_reducible refine nn ?_|with_reducible refine QbF ?_|with_reducible refine QaA ?_|with_reducible refine brF ?_|with_reducible refine brT ?_|((with_reducible apply Qap H 0);exact rfl;exact rfl)|((with_reducible apply Qac H 0);exact rfl;exact rfl)|((with_reducible apply Qa3 H 0);exact rfl;exact rfl;intro h H)|((with_reducible apply Qas H 0);exact rfl;exact rfl;intro h H)|((with_reducible refine⟨?_, ?_⟩);first|((with_reducible apply Qap H 0);exact rfl;exact rfl;exact rfl)|((with_reducible apply Qac H 0);exact rfl;exact rfl;exact rfl)))
  refine Qaj (cs:= [.bool false,.int .i64 0,.int .i64 0,.int .i64 0,.slice none 0 0]) H fun h b2 H=> ?_
  repeat (first|with_reducible refine nn ?_|with_reducible refine QbF ?_|with_reducible refine QaA ?_|with_reducible refine brF ?_|with_reducible refine brT ?_|((with_reducible apply Qap H 0);exact rfl;exact rfl)|((with_reducible apply Qac H 0);exact rfl;exact rfl)|((with_reducible apply Qap H 1);exact rfl;exact rfl)|((with_reducible apply Qac H 1);exact rfl;exact rfl)|((with_reducible apply Qa3 H 0);exact rfl;exact rfl;intro h H)|((with_reducible apply Qas H 0);exact rfl;exact rfl;intro h H)|((with_reducible apply Qa3 H 1);exact rfl;exact rfl;intro h H)|((with_reducible apply Qas H 1);exact rfl;exact rfl;intro h H)|((with_reducible refine⟨?_, ?_⟩);first|((with_reducible apply Qap H 0);exact rfl;exact rfl;exact rfl)|((with_reducible apply Qac H 0);exact rfl;exact rfl;exact rfl)|((with_reducible apply Qap H 1);exact rfl;exact rfl;exact rfl)|((with_reducible apply Qac H 1);exact rfl;exact rfl;exact rfl)))
  refine Qg3 (fun h5=>∃r,At h0 h5 (.own r 2 (eRE.fl (if X.from_>0 then Qgr X.log X.from_ 1024 else [])):: .blk b2 123 [.bool X.hard,.int .i64 X.term,.int .i64 X.vote,.int .i64 X.from_,.slice r.a r.n r.c]::(Qhw d ty lg tl sl so X z++(.blk b 123 [.bool false,.int .i64 0,.int .i64 0,.int .i64 0,.slice none 0 0]::(F++Qfb z))))) (fun _ h5 hJ=> ?_) ?_
  ·obtain⟨r,H⟩:=hJ
   repeat (first|with_reducible refine nn ?_|with_reducible refine QbF ?_|with_reducible refine QaA ?_|with_reducible refine brF ?_|with_reducible refine brT ?_|((with_reducible apply Qap H 1);exact rfl;exact rfl)|((with_reducible apply Qac H 1);exact rfl;exact rfl)|((with_reducible apply Qap H 2);exact rfl;exact rfl)|((with_reducible apply Qac H 2);exact rfl;exact rfl)|((with_reducible apply Qap H 6);exact rfl;exact rfl)|((with_reducible apply Qac H 6);exact rfl;exact rfl)|((with_reducible apply Qa3 H 1);exact rfl;exact rfl;intro h H)|((with_reducible apply Qas H 1);exact rfl;exact rfl;intro h H)|((with_reducible apply Qa3 H 2);exact rfl;exact rfl;intro h H)|((with_reducible apply Qas H 2);exact rfl;exact rfl;intro h H)|((with_reducible apply Qa3 H 6);exact rfl;exact rfl;intro h H)|((with_reducible apply Qas H 6);exact rfl;exact rfl;intro h H)|((with_reducible refine⟨?_, ?_⟩);first|((with_reducible apply Qap H 1);exact rfl;exact rfl;exact rfl)|((with_reducible apply Qac H 1);exact rfl;exact rfl;exact rfl)|((with_reducible apply Qap H 2);exact rfl;exact rfl;exact rfl)|((with_reducible apply Qac H 2);exact rfl;exact rfl;exact rfl)|((with_reducible apply Qap H 6);exact rfl;exact rfl;exact rfl)|((with_reducible apply Qac H 6);exact rfl;exact rfl;exact rfl)))
   exact h2 r _ ⟨ty,lg,tl,sl,so,z,hz,(((H.del 6).del 1).mv 1 4)⟩
  ·refine brD (fun hp=> ?_) fun hp=> ?_
   ·rw[if_pos hp]
    repeat (first|with_reducible refine nn ?_|with_reducible refine QbF ?_|with_reducible refine QaA ?_|with_reducible refine brF ?_|with_reducible refine brT ?_|((with_reducible apply Qap H 1);exact rfl;exact rfl)|((with_reducible apply Qac H 1);exact rfl;exact rfl)|((with_reducible apply Qa3 H 1);exact rfl;exact rfl;intro h H)|((with_reducible apply Qas H 1);exact rfl;exact rfl;intro h H)|((with_reducible refine⟨?_, ?_⟩);first|((with_reducible apply Qap H 1);exact rfl;exact rfl;exact rfl)|((with_reducible apply Qac H 1);exact rfl;exact rfl;exact rfl)))
    refine Qml H 2 rfl 3 rfl hl (by omega) (by omega) fun r h H=> ?_
    repeat (first|with_reducible refine nn ?_|with_reducible refine QbF ?_|with_reducible refine QaA ?_|with_reducible refine brF ?_|with_reducible refine brT ?_|((with_reducible apply Qap H 1);exact rfl;exact rfl)|((with_reducible apply Qac H 1);exact rfl;exact rfl)|((with_reducible apply Qap H 2);exact rfl;exact rfl)|((with_reducible apply Qac H 2);exact rfl;exact rfl)|((with_reducible apply Qa3 H 1);exact rfl;exact rfl;intro h H)|((with_reducible apply Qas H 1);exact rfl;exact rfl;intro h H)|((with_reducible apply Qa3 H 2);exact rfl;exact rfl;intro h H)|((with_reducible apply Qas H 2);exact rfl;exact rfl;intro h H)|((with_reducible refine⟨?_, ?_⟩);first|((with_reducible apply Qap H 1);exact rfl;exact rfl;exact rfl)|((with_reducible apply Qac H 1);exact rfl;exact rfl;exact rfl)|((with_reducible apply Qap H 2);exact rfl;exact rfl;exact rfl)|((with_reducible apply Qac H 2);exact rfl;exact rfl;exact rfl)))
    exact⟨r,H⟩
   ·have h0':X.from_=0:=by omega
    rw[if_neg hp]
    refine⟨⟨none,0,0⟩, ?_⟩
    rw[h0']
    exact H.nil 2
end
section
open Go
def i64ok(n:Int):Prop:= -9223372036854775808<=n/\n<=9223372036854775807
def rI(bad:Bool)(l:List UInt8):Bool×List UInt8×Int:=Qj0 bad l (-9223372036854775808) 9223372036854775807
theorem wrap_u64'{n:Int}(h:i64ok n):IntKind.i64.wrap (u64 n:Int)=n:=by
 unfold i64ok at h
 rw[IntKind.wrap_i64];unfold u64;omega
theorem QlD(n:Int)(l:List UInt8)(lo hi:Int)(hn:i64ok n)(h:lo<=n/\n<=hi):Qj0 false (be8 n++l) lo hi=(false,l,n):=by
 have hl:=QbH n
 have ht:(be8 n++l).take 8=be8 n:=by rw[List.take_append_of_le_length (by omega),List.take_of_length_le (by omega)]
 have hd:(be8 n++l).drop 8=l:=by rw[List.drop_append_of_le_length (by omega),List.drop_of_length_le (by omega)];rfl
 unfold Qj0
 rw[if_neg (by rw[List.length_append];simp;omega),ht,valBE_be8,wrap_u64' hn,if_pos h,hd]
theorem valBE_be2'(k:Nat)(hk:k<65536):Qb4 (be2 k)=k:=by
 show Qb4 [UInt8.ofNat (k/256),UInt8.ofNat k]=k
 have e: [UInt8.ofNat (k/256),UInt8.ofNat k]=([]++ [UInt8.ofNat (k/256)])++ [UInt8.ofNat k]:=rfl
 rw[e,QeI,QeI,UInt8.toNat_ofNat',UInt8.toNat_ofNat']
 simp[Qb4];omega
theorem mText_put(t l:List UInt8)(m:Int)(h1:(t.length:Int)<=m)(h2:t.length<=65535):Qid false (txt t++l) m=(false,l,t):=by
 have e:txt t=be2 t.length++t:=by unfold txt;rw[Nat.min_eq_left h2,List.take_of_length_le h2]
 rw[e,List.append_assoc]
 have ht:(be2 t.length++(t++l)).take 2=be2 t.length:=rfl
 have hd:(be2 t.length++(t++l)).drop 2=t++l:=rfl
 unfold Qid
 rw[if_neg (by simp[be2]),ht,hd,valBE_be2' _ (by omega),if_neg (by omega),if_neg (by rw[List.length_append];omega),List.take_left,List.drop_left]
section
variable {α:Type}{q:Bool×List UInt8×α}{a:α}{r:List UInt8}
end
def c1(l:List UInt8):=rI false l
def c2(l:List UInt8):=rI (c1 l).1 (c1 l).2.1
def c3(l:List UInt8):=rI (c2 l).1 (c2 l).2.1
def c4(l:List UInt8):=rI (c3 l).1 (c3 l).2.1
def c5(l:List UInt8):=rI (c4 l).1 (c4 l).2.1
def c6(l:List UInt8):=rI (c5 l).1 (c5 l).2.1
def c7(l:List UInt8):=rI (c6 l).1 (c6 l).2.1
def cK(l:List UInt8):=Qid (c5 l).1 (c5 l).2.1 16
def cV(l:List UInt8):=Qid (cK l).1 (cK l).2.1 32
def cM(l:List UInt8):=rI (cV l).1 (cV l).2.1
def cY(l:List UInt8):=mBool (cM l).1 (cM l).2.1
end
section
def toE(e:RE):Ent:=⟨e.term,e.data.data.toList⟩
def Qj6(X:RN):Stt:=⟨X.term,X.vote,X.log.map toE⟩
def Qbr(X:RN):List RE:=if X.from_>0 then Qgr X.log X.from_ 1024 else []
def QcY(X:RN):Sav:=⟨X.hard,X.term,X.vote,X.from_,(Qbr X).map toE⟩
def Qav(X:RN):List WRec:=if X.hard=false/\X.from_=0 then [] else Qnc (QcY X)
def wrM:List UInt8->List WRec->List UInt8×Bool
 |b,[]=>(b,true)
 |b,r::rs=>if b.length+(Qgi r).length>1048576 then(b,false) else wrM (b++Qgi r) rs
def Qae(X:RN):RN:={X with out:= [],hard:=false,from_:=0}
structure GN where
 node:Option RN
 b:List UInt8
 n:Nat
structure GS where
 l:List GN
 net:List RM
structure ST where
 kind:Int
 node:Int
 i:Int
 draw:Int
 keep:Int
 at_:Int
 by_:UInt8
 data:ByteArray
def Qa7(G:GS)(i:Nat)(q:GN)(Y:RN)(e:Int):GS×Int:=
 if(wrM q.b (Qav Y)).2=true then(⟨G.l.set i ⟨some (Qae Y),(wrM q.b (Qav Y)).1,(wrM q.b (Qav Y)).1.length⟩,(G.net++Y.out).take 512⟩,e)
 else(⟨G.l.set i ⟨none,(wrM q.b (Qav Y)).1,q.n⟩,G.net⟩,7)
def toR(e:Ent):RE:=⟨e.t,QnA e.d⟩
def Qnm(k:Int)(i:Nat)(st:Stt):RN:=Ql9 i k 4 2 st.term st.vote (st.es.map toR)
def QbW(G:GS)(i:Nat)(q:GN):GS×Int:=
 match Qg1 (QdG q.b).1 with
 |none=>(⟨G.l.set i ⟨none,q.b.take (QdG q.b).2.1,(QdG q.b).2.1⟩,G.net⟩,2)
 |some st=>(⟨G.l.set i ⟨some (Qnm G.l.length i st),q.b.take (QdG q.b).2.1,(QdG q.b).2.1⟩,G.net⟩,0)
def Qld(G:GS)(s:ST):GS×Int:=
 if s.node<0 then(G,6) else
 match G.l[s.node.toNat]? with
 |none=>(G,6)
 |some q=>match q.node with
  |none=>if s.kind=7 then QbW G s.node.toNat q else(G,12)
  |some X=>
   if s.kind=7 then(G,8)
   else if s.kind=1 then Qa7 G s.node.toNat q (Qah X s.draw) 0
   else if s.kind=5 then Qa7 G s.node.toNat q (Qam X s.data).1 (Qam X s.data).2.2
   else(⟨G.l.set s.node.toNat ⟨none,Qc3 q.b q.n s.keep s.at_ s.by_,q.n⟩,G.net⟩,0)
def gCome(G:GS)(m:RM)(s:ST):GS×Int:=
 if m.to<0 then(G,12) else
 match G.l[m.to.toNat]? with
 |none=>(G,12)
 |some q=>match q.node with
  |none=>(G,12)
  |some X=>
   if s.kind=2 then Qa7 G m.to.toNat q (Qaa X m) 0
   else(⟨G.l.set m.to.toNat ⟨none,Qc3 (wrM q.b (Qav (Qaa X m))).1 q.n s.keep s.at_ s.by_,q.n⟩,G.net⟩,0)
def gMsg(G:GS)(s:ST):GS×Int:=
 if s.i<0 then(G,6) else
 match G.net[s.i.toNat]? with
 |none=>(G,6)
 |some m=>
  if s.kind=4 then(if G.net.length>=512 then(G,7) else(⟨G.l,G.net++ [m]⟩,0))
  else if s.kind=3 then(⟨G.l,G.net.eraseIdx s.i.toNat⟩,0)
  else gCome ⟨G.l,G.net.eraseIdx s.i.toNat⟩ m s
def gDo(G:GS)(s:ST):GS×Int:=
 if s.kind=1\/(5<=s.kind/\s.kind<=7) then Qld G s
 else if 2<=s.kind/\s.kind<=8 then gMsg G s
 else(G,1)
def gRun(G:GS)(l:List ST):GS:=l.foldl (fun G s=>(gDo G s).1) G
def gNew(k:Nat):GS:=⟨(List.range k).map fun(i:Nat)=>⟨some (Ql9 i k 4 2 0 (-1) []),[],0⟩,[]⟩
theorem QiY(rs:List WRec):∀b:List UInt8,∃j,j<=rs.length/\(wrM b rs).1=b++Qao (rs.take j)/\((wrM b rs).2=true↔j=rs.length)/\(b.length<=1048576->(wrM b rs).1.length<=1048576):=by
 induction rs with
 |nil=>intro b;exact⟨0,Nat.le_refl _,by show b=b++ [];simp,⟨fun _=>rfl,fun _=>rfl⟩,fun h=>h⟩
 |cons r rs ih=>
  intro b
  unfold wrM
  split
  ·exact⟨0,Nat.zero_le _,by show b=b++ [];simp,⟨fun h=>(by cases h),fun h=>(by simp at h)⟩,fun h=>h⟩
  ·obtain⟨j,h1,h2,h3,h4⟩:=ih (b++Qgi r)
   refine⟨j+1,by simp;omega, ?_, ?_,fun h=>h4 (by rw[List.length_append];omega)⟩
   ·rw[h2,List.take_succ_cons,Qbs,List.append_assoc]
   ·rw[h3];simp
theorem toR_toE(e:RE):toR (toE e)=e:=by
 cases e;rfl
theorem map_toR_toE(l:List RE):(l.map toE).map toR=l:=by
 rw[List.map_map]
 conv=>rhs;rw[<-List.map_id l]
 exact List.map_congr_left fun e _=>toR_toE e
theorem rise_take{es:List Ent}{term:Int}:∀(l:List RE) (a:Int),(∀e∈l,e.data.size<=512/\e.term<=term)->(∀e∈l,a<=e.term)->Mono l->QkN term a (l.map toE)=true
 | [],_,_,_,_=>rfl
 |e::l,a,h1,h2,hm=>by
  rw[List.map_cons,QkN]
  have h3:=h1 e (List.mem_cons_self ..)
  have h4:=h2 e (List.mem_cons_self ..)
  rw[if_neg (by show ¬(e.term<a\/term<e.term\/512<((e.data.data.toList).length:Int));rw[Array.length_toList];have:e.data.data.size=e.data.size:=rfl;omega)]
  obtain⟨h5,h6⟩:=List.pairwise_cons.1 hm
  exact rise_take (es:=es) l e.term (fun x hx=>h1 x (List.mem_cons_of_mem _ hx)) (fun x hx=>h5 x hx) h6
structure RtS(T vt:Int)(l:List RE):Prop where
 t0:0<=T
 t1:T<=1099511627776
 v0: -1<=vt
 v1:vt<7
 n:l.length<=1024
 d:∀e∈l,e.data.size<=512
 ter:Ter l T
 mono:Mono l
theorem RtS.right{T vt:Int}{l:List RE}(h:RtS T vt l):Ql1 ⟨T,vt,l.map toE⟩=true:=by
 unfold Ql1
 rw[if_neg (by
  show ¬(T<0\/1099511627776<T\/vt< -1\/6<vt\/1024<(l.map toE).length)
  rw[List.length_map]
  have:=h.t0;have:=h.t1;have:=h.v0;have:=h.v1;have:=h.n
  omega)]
 exact rise_take (es:= []) l 1 (fun e he=>⟨h.d e he,(h.ter e he).2⟩) (fun e he=>(h.ter e he).1) h.mono
theorem RtS.okS{T vt:Int}{l:List RE}(h:RtS T vt l):okS T vt l:=by
 refine⟨?_,h.t0,h.t1,h.v0,h.v1,h.n⟩
 have:∀(l:List RE) (a:Int),(∀e∈l,e.data.size<=512/\e.term<=T)->(∀e∈l,a<=e.term)->Mono l->Qng T a l:=by
  intro l
  induction l with
  |nil=>intro a _ _ _;trivial
  |cons e l ih=>
   intro a h1 h2 hm
   obtain⟨h5,h6⟩:=List.pairwise_cons.1 hm
   have h3:=h1 e (List.mem_cons_self ..)
   have h4:=h2 e (List.mem_cons_self ..)
   exact⟨by omega,by omega,h3.1,ih e.term (fun x hx=>h1 x (List.mem_cons_of_mem _ hx)) (fun x hx=>h5 x hx) h6⟩
 exact this l 1 (fun e he=>⟨h.d e he,(h.ter e he).2⟩) (fun e he=>(h.ter e he).1) h.mono
theorem step_vote{s:Stt}{T vt:Int}(h0:0<=T)(h1:T<=1099511627776)(h2: -1<=vt)(h3:vt<7):QfD s ⟨1,be8 T++be8 vt⟩=some ⟨T,vt,s.es⟩:=by
 unfold QfD
 have e1:vT (be8 T++be8 vt)=(false,be8 vt,T):=by unfold vT;exact QlD T _ _ _ (by unfold i64ok;omega) (by omega)
 have e2:vV (be8 T++be8 vt)=(false,[],vt):=by
  unfold vV
  rw[e1]
  have:=QlD vt [] (-1) 6 (by unfold i64ok;omega) (by omega)
  rwa[List.append_nil] at this
 rw[if_pos rfl,e1,e2,if_pos ⟨rfl,rfl⟩]
theorem QnB{s:Stt}{i:Int}{e:Ent}(h0:1<=i)(h1:i<=s.es.length+1)(h2:1<=e.t)(h3:e.t<=1099511627776)(h4:e.d.length<=512)(hl:s.es.length<=100000):
  QfD s ⟨2,be8 i++be8 e.t++txt e.d⟩=some ⟨s.term,s.vote,s.es.take (i -1).toNat++ [e]⟩:=by
 unfold QfD
 rw[List.append_assoc]
 have e1:eI s.es.length (be8 i++(be8 e.t++txt e.d))=(false,be8 e.t++txt e.d,i):=by unfold eI;exact QlD i _ _ _ (by unfold i64ok;omega) (by omega)
 have e2:eT s.es.length (be8 i++(be8 e.t++txt e.d))=(false,txt e.d,e.t):=by
  unfold eT;rw[e1]
  exact QlD e.t _ _ _ (by unfold i64ok;omega) (by omega)
 have e3:eD s.es.length (be8 i++(be8 e.t++txt e.d))=(false,[],e.d):=by
  unfold eD;rw[e2]
  have:=mText_put e.d [] 512 (by omega) (by omega)
  rwa[List.append_nil] at this
 rw[if_neg (show ¬((2:UInt8)=1) by decide),if_pos rfl,e1,e2,e3,if_pos ⟨rfl,rfl⟩]
theorem play_tail{f:Int}{p:Nat}(hf:f=(p:Int)+1):∀(es:List Ent) (k:Nat) (s:Stt),s.es.length=p+k->s.es.length+es.length<=5000->(∀e∈es,1<=e.t/\e.t<=1099511627776/\e.d.length<=512)->
  Qdl s (es.mapIdx fun j e=>Qle f (j+k) e)=some ⟨s.term,s.vote,s.es++es⟩
 | [],k,s,_,_,_=>by rw[List.mapIdx_nil,Qdl,List.append_nil]
 |e::es,k,s,h1,h2,h3=>by
  obtain⟨a,b,c⟩:=h3 e (List.mem_cons_self ..)
  simp only[List.length_cons] at h2
  rw[List.mapIdx_cons]
  have hw:IntKind.i64.wrap (f+((0+k:Nat):Int))=f+k:=by rw[w64 (by omega) (by omega)];omega
  have e1:QfD s (Qle f (0+k) e)=some ⟨s.term,s.vote,s.es++ [e]⟩:=by
   unfold Qle
   rw[hw,QnB (by omega) (by omega) a b c (by omega)]
   rw[List.take_of_length_le (by omega)]
  unfold Qdl
  rw[e1]
  simp only
  have e2:(fun j e=>Qle f (j+1+k) e)=fun j e=>Qle f (j+(k+1)) e:=by funext j e;rw[show j+1+k=j+(k+1) by omega]
  rw[e2,play_tail hf es (k+1) _ (by rw[List.length_append,List.length_singleton];omega) (by rw[List.length_append,List.length_singleton];omega) fun x hx=>h3 x (List.mem_cons_of_mem _ hx)]
  rw[List.append_assoc];rfl
theorem play_head{f:Int}{p:Nat}(hf:f=(p:Int)+1)(e:Ent)(es:List Ent)(s:Stt)(hp:p<=s.es.length)(hl:s.es.length+es.length<=4000)(h3:∀x∈e::es,1<=x.t/\x.t<=1099511627776/\x.d.length<=512):
  Qdl s ((e::es).mapIdx (Qle f))=some ⟨s.term,s.vote,s.es.take p++(e::es)⟩:=by
 obtain⟨a,b,c⟩:=h3 e (List.mem_cons_self ..)
 rw[List.mapIdx_cons]
 have hw:IntKind.i64.wrap (f+((0:Nat):Int))=f:=by rw[w64 (by omega) (by omega)];omega
 have e1:QfD s (Qle f 0 e)=some ⟨s.term,s.vote,s.es.take p++ [e]⟩:=by
  unfold Qle
  rw[hw,QnB (by omega) (by omega) a b c (by omega),show(f -1).toNat=p by omega]
 unfold Qdl
 rw[e1]
 simp only
 have hl2:(s.es.take p++ [e]).length=p+1:=by rw[List.length_append,List.length_take,List.length_singleton];omega
 rw[play_tail hf es 1 _ hl2 (by rw[hl2];omega) fun x hx=>h3 x (List.mem_cons_of_mem _ hx)]
 rw[List.append_assoc];rfl
theorem mapIdx_take{α β:Type}(f:Nat->α->β)(l:List α)(n:Nat):(l.mapIdx f).take n=(l.take n).mapIdx f:=by
 refine List.ext_getElem? fun i=> ?_
 by_cases h:i<n
 ·rw[List.getElem?_take_of_lt h,List.getElem?_mapIdx,List.getElem?_mapIdx,List.getElem?_take_of_lt h]
 ·rw[List.getElem?_eq_none (by rw[List.length_take];omega),List.getElem?_mapIdx,List.getElem?_eq_none (by rw[List.length_take];omega)];rfl
structure Sz(X:RN):Prop where
 t0:0<=X.term
 t1:X.term<=1099511627776
 v0: -1<=X.vote
 v1:X.vote<7
 n:X.log.length<=1024
 d:∀e∈X.log,e.data.size<=512
theorem BN.sz{S o:Nat}{X:RN}(h:BN S o X):Sz X:=⟨h.t.1,h.t.2,h.vt.1,h.vt.2,h.l,h.ld⟩
theorem Qlw{X:RN}(h:0<X.from_)(hl:X.log.length<=1024):Qbr X=X.log.drop (X.from_.toNat -1):=by
 unfold Qbr Qgr
 rw[if_pos h,show(if 1>X.from_ then 1 else X.from_)=X.from_ by split<;>omega]
 rw[List.take_of_length_le]
 rw[List.length_drop];omega
theorem Qlv(e:RE):(toE e).d.length=e.data.size:=Array.length_toList
theorem play_part{X Y:RN}(sv:SV X Y)(zx:Sz X)(zy:Sz Y)(ht:Ter Y.log Y.term){j:Nat}(hj:j<=(Qav Y).length):
  ∃T vt l,Qdl (Qj6 X) ((Qav Y).take j)=some ⟨T,vt,l.map toE⟩/\Part X Y T vt l/\(j=(Qav Y).length->T=Y.term/\vt=Y.vote/\l=Y.log)/\(j<(Qav Y).length->(Qbr Y).length<=1->(T=X.term/\vt=X.vote/\l=X.log)\/(Y.hard=true/\T=Y.term/\vt=Y.vote/\l=X.log)):=by
 have f0:=sv.f0
 unfold Qav at hj⊢
 by_cases hno:Y.hard=false/\Y.from_=0
 ·rw[if_pos hno] at hj⊢
  obtain⟨h1,h2⟩:=sv.hard hno.1
  have h3:=sv.none hno.2
  have:j=0:=by simpa using hj
  subst this
  exact⟨X.term,X.vote,X.log,rfl,.inl ⟨rfl,rfl,rfl⟩,fun _=>⟨h1.symm,h2.symm,h3.symm⟩,fun h=>by simp at h⟩
 rw[if_neg hno] at hj⊢
 have ents:∀(T vt:Int) (q:Nat),q<=(Qbr Y).length->∃l,Qdl ⟨T,vt,X.log.map toE⟩ ((((Qbr Y).map toE).mapIdx (Qle Y.from_)).take q)=some ⟨T,vt,l.map toE⟩/\(q=0->l=X.log)/\(0<q->0<Y.from_/\l=Y.log.take (Y.from_.toNat -1+q)):=fun T vt q hq=>by
  rcases Nat.eq_zero_or_pos q with h0|h0
  ·subst h0
   exact⟨X.log,by rw[List.take_zero];rfl,fun _=>rfl,fun h=>absurd h (Nat.lt_irrefl _)⟩
  ·have hf:0<Y.from_:=by
    rcases Int.lt_or_eq_of_le f0 with x|x
    ·exact x
    ·unfold Qbr at hq
     rw[if_neg (by omega)] at hq
     simp at hq
     omega
   obtain⟨n1,n2,n3⟩:=sv.new hf
   have hse:=Qlw hf zy.n
   rw[hse,List.length_drop] at hq
   refine⟨Y.log.take (Y.from_.toNat -1+q), ?_,fun h=>by omega,fun _=>⟨hf,rfl⟩⟩
   rw[mapIdx_take,hse,<-List.map_take]
   have hne:0<((Y.log.drop (Y.from_.toNat -1)).take q).length:=by rw[List.length_take,List.length_drop];omega
   have hsub:∀x∈(Y.log.drop (Y.from_.toNat -1)).take q,x∈Y.log:=fun x hx=>List.mem_of_mem_drop (List.mem_of_mem_take hx)
   have hlen:((Y.log.drop (Y.from_.toNat -1)).take q).length<=1024:=by
    have:=zy.n
    rw[List.length_take,List.length_drop];omega
   have hap:X.log.take (Y.from_.toNat -1)++(Y.log.drop (Y.from_.toNat -1)).take q=Y.log.take (Y.from_.toNat -1+q):=by rw[<-n3,<-List.take_add]
   generalize (Y.log.drop (Y.from_.toNat -1)).take q=es at*
   cases es with
   |nil=>simp at hne
   |cons e es=>
    have:=zx.n
    simp only[List.length_cons] at hlen
    rw[List.map_cons,play_head (p:=Y.from_.toNat -1) (by omega) (toE e) (es.map toE) _ (by show _<=(X.log.map toE).length;rw[List.length_map];omega) (by show(X.log.map toE).length+_<=_;rw[List.length_map,List.length_map];omega) ?_]
    ·show some (Stt.mk T vt ((X.log.map toE).take _++_))=_
     rw[<-List.map_cons,<-List.map_take,<-List.map_append,hap]
    ·intro x hx
     rw[<-List.map_cons] at hx
     obtain⟨y,hy,rfl⟩:=List.mem_map.1 hx
     have h1:=ht y (hsub y hy)
     have h2:=zy.d y (hsub y hy)
     have h3:=zy.t1
     exact⟨h1.1,by show y.term<=_;omega,by rw[Qlv];exact h2⟩
 have hfl:0<Y.from_->(Qbr Y).length=Y.log.length -(Y.from_.toNat -1)/\Y.from_.toNat<=Y.log.length:=fun hf=>by
  obtain⟨n1,n2,n3⟩:=sv.new hf
  rw[Qlw hf zy.n,List.length_drop]
  omega
 have hfz:Y.from_=0->(Qbr Y).length=0:=fun e=>by unfold Qbr;rw[if_neg (by omega)];rfl
 have hmap:(((Qbr Y).map toE).mapIdx (Qle Y.from_)).length=(Qbr Y).length:=by rw[List.length_mapIdx,List.length_map]
 have full:∀(q:Nat) (l:List RE),q=(Qbr Y).length->(q=0->l=X.log)->(0<q->0<Y.from_/\l=Y.log.take (Y.from_.toNat -1+q))->l=Y.log:=fun q l hq h1 h2=>by
  rcases Nat.eq_zero_or_pos q with h0|h0
  ·rw[h1 h0]
   rcases Int.lt_or_eq_of_le f0 with x|x
   ·have:=hfl x;omega
   ·exact(sv.none x.symm).symm
  ·obtain⟨h3,h4⟩:=h2 h0
   have:=hfl h3
   rw[h4,List.take_of_length_le (by omega)]
 unfold Qnc at hj⊢
 cases hh:Y.hard with
 |false=>
  obtain⟨h1,h2⟩:=sv.hard hh
  have e0:(if(QcY Y).hard=true then [(⟨1,be8 (QcY Y).term++be8 (QcY Y).vote⟩:WRec)] else [])++(QcY Y).es.mapIdx (Qle (QcY Y).frm)=((Qbr Y).map toE).mapIdx (Qle Y.from_):=by
   show(if Y.hard=true then _ else _)++_=_
   rw[if_neg (by rw[hh];decide)];rfl
  rw[e0] at hj⊢
  rw[hmap] at hj⊢
  obtain⟨l,h3,h4,h5⟩:=ents X.term X.vote j hj
  refine⟨X.term,X.vote,l,h3, ?_,fun hf=>⟨h1.symm,h2.symm,full j l hf h4 h5⟩,fun h6 h7=> .inl ⟨rfl,rfl,h4 (by omega)⟩⟩
  rcases Nat.eq_zero_or_pos j with h0|h0
  ·exact .inl ⟨rfl,rfl,h4 h0⟩
  ·exact .inr (.inr ⟨(h5 h0).1,h1.symm,h2.symm,_,(by omega),(h5 h0).2⟩)
 |true=>
  have e0:(if(QcY Y).hard=true then [(⟨1,be8 (QcY Y).term++be8 (QcY Y).vote⟩:WRec)] else [])++(QcY Y).es.mapIdx (Qle (QcY Y).frm)=⟨1,be8 Y.term++be8 Y.vote⟩::((Qbr Y).map toE).mapIdx (Qle Y.from_):=by
   show(if Y.hard=true then _ else _)++_=_
   rw[if_pos hh];rfl
  rw[e0] at hj⊢
  rw[List.length_cons,hmap] at hj⊢
  cases j with
  |zero=>exact⟨X.term,X.vote,X.log,by rw[List.take_zero];rfl,.inl ⟨rfl,rfl,rfl⟩,fun h=>by omega,fun _ _=> .inl ⟨rfl,rfl,rfl⟩⟩
  |succ q=>
   obtain⟨l,h3,h4,h5⟩:=ents Y.term Y.vote q (by omega)
   refine⟨Y.term,Y.vote,l, ?_, ?_,fun hf=>⟨rfl,rfl,full q l (by omega) h4 h5⟩,fun h6 h7=> .inr ⟨rfl,rfl,rfl,h4 (by omega)⟩⟩
   ·rw[List.take_succ_cons,Qdl,step_vote zy.t0 zy.t1 zy.v0 zy.v1]
    exact h3
   ·rcases Nat.eq_zero_or_pos q with h0|h0
    ·exact .inr (.inl ⟨hh,rfl,rfl,h4 h0⟩)
    ·exact .inr (.inr ⟨(h5 h0).1,rfl,rfl,_,(by omega),(h5 h0).2⟩)
theorem Qjp{Y:RN}(hd:∀e∈Y.log,e.data.size<=512):∀r∈Qav Y,r.ok:=by
 intro r hr
 unfold Qav at hr
 split at hr
 ·cases hr
 ·refine(savR_ok (s:=QcY Y) (fun e he=> ?_) r hr).1
  obtain⟨x,hx,rfl⟩:=List.mem_map.1 he
  rw[Qlv]
  have hx2:x∈Y.log:=by
   unfold Qbr at hx
   split at hx
   ·exact Qjq hx
   ·cases hx
  have:=hd x hx2
  omega
end
section
structure UpI(k:Nat)(g:GH)(i S:Nat)(q:GN)(X:RN):Prop where
 ni:NI k g i X
 bn:BN S 0 X
 out:X.out= []
 hard:X.hard=false
 from_:X.from_=0
 dk:∃rs:List WRec,(∀r∈rs,r.ok)/\q.b=Qao rs/\Qdl st0 rs=some (Qj6 X)
 n:q.n=q.b.length
structure DownI(k:Nat)(g:GH)(i:Nat)(q:GN):Prop where
 ik:i<k
 dk:∃(rs ts:List WRec) (keep a:Nat) (c:UInt8),(∀r∈rs,r.ok)/\(∀r∈ts,r.ok)/\q.b=Qao rs++flp ((Qao ts).take keep) a c/\q.n=(Qao rs).length/\
  ∀j,j<=ts.length->∃T vt l,Qdl st0 (rs++ts.take j)=some ⟨T,vt,l.map toE⟩/\RtS T vt l/\DI g i T vt l
structure SeatI(k:Nat)(g:GH)(i S:Nat)(q:GN):Prop where
 len:q.b.length<=1048576
 up:∀X,q.node=some X->UpI k g i S q X
 down:q.node=none->DownI k g i q
structure FewI(g:GH)(S:Nat):Prop where
 lb:∀t,(g.ll t).length<=S
 cr:∃cr:List (Nat×Int),cr.length<=S/\∀t i e,(g.ll t)[i]? =some e->e.term=t->(i,t)∈cr
theorem LM.len{g:GH}{S:Nat}{l:List RE}(h:LM g l)(hb:∀t,(g.ll t).length<=S):l.length<=S:=by
 rcases Nat.eq_zero_or_pos l.length with e|e
 ·omega
 ·exact Nat.le_trans (Qbf (h.last e)) (hb _)
theorem FewI.up{g g':GH}{S:Nat}(h:FewI g S)(a:LAdd g g'):FewI g' (S+1):=by
 obtain⟨cr,h1,h2⟩:=h.cr
 rcases a with a|⟨T,l,e,k1,k2,k3,k4⟩
 ·exact⟨fun t=>by rw[a];exact Nat.le_succ_of_le (h.lb t),cr,Nat.le_succ_of_le h1,by rw[a];exact h2⟩
 ·have hl:=k2.len h.lb
  refine⟨fun t=> ?_,(l.length,T)::cr,by rw[List.length_cons];omega,fun t i x hx hxt=> ?_⟩
  ·rw[k4]
   show(if t=T then l++ [e] else g.ll t).length<=_
   split
   ·rw[List.length_append,List.length_singleton];omega
   ·exact Nat.le_succ_of_le (h.lb t)
  ·rw[k4] at hx
   have hx:(if t=T then l++ [e] else g.ll t)[i]? =some x:=hx
   by_cases et:t=T
   ·rw[if_pos et] at hx
    rcases Nat.lt_or_ge i l.length with hi|hi
    ·rw[List.getElem?_append_left hi] at hx
     rcases k3 with k3|⟨_,k3⟩
     ·exact List.mem_cons_of_mem _ (h2 t i x (by rw[et,k3];exact hx) hxt)
     ·exact absurd (hxt.trans et) (k3 x (List.mem_of_getElem? hx))
    ·have hlt:=(List.getElem?_eq_some_iff.1 hx).1
     rw[List.length_append,List.length_singleton] at hlt
     have:i=l.length:=by omega
     rw[this,et]
     exact List.mem_cons_self ..
   ·rw[if_neg et] at hx
    exact List.mem_cons_of_mem _ (h2 t i x hx hxt)
structure GInv(k:Nat)(g:GH)(S:Nat)(G:GS):Prop where
 k1:1<=k
 k7:k<=7
 gi:GI k g
 len:G.l.length=k
 seat:∀i q,G.l[i]? =some q->SeatI k g i S q
 net:∀m∈G.net,MI k g m/\BM m
 cap:G.net.length<=512
 few:FewI g S
section
variable {k:Nat}{g g':GH}{i j S:Nat}{q:GN}{X Y:RN}{G:GS}
theorem SeatI.other(I:GI k g)(B:GBy i g g')(hj:j≠i)(h:SeatI k g j S q):SeatI k g' j (S+1) q:=by
 refine⟨h.len,fun X hX=> ?_,fun hd=> ?_⟩
 ·have u:=h.up X hX
  exact⟨u.ni.other I B hj,u.bn.up (Nat.le_succ _) (Nat.le_refl _),u.out,u.hard,u.from_,u.dk,u.n⟩
 ·have d:=h.down hd
  obtain⟨rs,ts,keep,a,c,h1,h2,h3,h4,h5⟩:=d.dk
  refine⟨d.ik,rs,ts,keep,a,c,h1,h2,h3,h4,fun x hx=> ?_⟩
  obtain⟨T,vt,l,h6,h7,h8⟩:=h5 x hx
  exact⟨T,vt,l,h6,h7,h8.other I B hj⟩
theorem GInv.set(h:GInv k g S G)(B:GBy i g g')(I:GI k g'){q':GN}(hi:i<k)(hq:SeatI k g' i (S+1) q'){net':List RM}(hn:∀m∈net',MI k g' m/\BM m)(hc:net'.length<=512):GInv k g' (S+1) ⟨G.l.set i q',net'⟩:=by
 refine⟨h.k1,h.k7,I,by show(G.l.set i q').length=k;rw[List.length_set];exact h.len,fun j x hx=> ?_,hn,hc,h.few.up B.oG⟩
 have hx:(G.l.set i q')[j]? =some x:=hx
 by_cases e:j=i
 ·subst e
  rw[List.getElem?_set_self (by rw[h.len];exact hi)] at hx
  injection hx with hx
  rw[<-hx];exact hq
 ·rw[List.getElem?_set_ne (fun x=>e x.symm)] at hx
  exact(h.seat j x hx).other h.gi B e
theorem GInv.netgrow(h:GInv k g S G)(G':GLe g g'):∀m∈G.net,MI k g' m/\BM m:=fun m hm=>⟨(h.net m hm).1.grow h.gi G',(h.net m hm).2⟩
theorem rts_of(hs:Sz X){T vt:Int}{l:List RE}(d:DI g i T vt l)(h1:0<=T/\T<=1099511627776)(h2: -1<=vt/\vt<7)(h3:l.length<=1024)(h4:∀e∈l,e.data.size<=512):RtS T vt l:=⟨h1.1,h1.2,h2.1,h2.2,h3,h4,d.ter,d.mono⟩
theorem rts_part(zx:Sz X)(zy:Sz Y){T vt:Int}{l:List RE}(d:DI g i T vt l)(hp:Part X Y T vt l):RtS T vt l:=by
 have a:=zx.t0;have b:=zx.t1;have c:=zx.v0;have e:=zx.v1;have f:=zx.n
 have a':=zy.t0;have b':=zy.t1;have c':=zy.v0;have e':=zy.v1;have f':=zy.n
 rcases hp with⟨rfl,rfl,rfl⟩|⟨_,rfl,rfl,rfl⟩|⟨_,rfl,rfl,q,_,rfl⟩
 ·exact rts_of zx d ⟨a,b⟩ ⟨c,e⟩ f zx.d
 ·exact rts_of zx d ⟨a',b'⟩ ⟨c',e'⟩ f zx.d
 ·exact rts_of zx d ⟨a',b'⟩ ⟨c',e'⟩ (by rw[List.length_take];omega) fun x hx=>zy.d x (List.mem_of_mem_take hx)
theorem down_part(u:UpI k g i S q X)(sv:SV X Y)(zy:Sz Y)(ht:Ter Y.log Y.term)(hik:i<k){j0:Nat}(hj0:j0<=(Qav Y).length){keep a:Nat}{c:UInt8}{q':GN}(hb:q'.b=q.b++flp ((Qao ((Qav Y).take j0)).take keep) a c)(hn:q'.n=q.n)
  (hD:∀j T vt l,j<=j0->Qdl (Qj6 X) ((Qav Y).take j)=some ⟨T,vt,l.map toE⟩->Part X Y T vt l->(j<(Qav Y).length->(Qbr Y).length<=1->(T=X.term/\vt=X.vote/\l=X.log)\/(Y.hard=true/\T=Y.term/\vt=Y.vote/\l=X.log))->DI g' i T vt l):DownI k g' i q':=by
 obtain⟨rs,h1,h2,h3⟩:=u.dk
 refine⟨hik,rs,(Qav Y).take j0,keep,a,c,h1,fun r hr=>Qjp zy.d r (List.mem_of_mem_take hr),by rw[hb,h2],by rw[hn,u.n,h2],fun j hj=> ?_⟩
 rw[List.length_take] at hj
 obtain⟨T,vt,l,p1,p2,p3,p4⟩:=play_part sv u.bn.sz zy ht (j:=j) (by omega)
 have d:=hD j T vt l (by omega) p1 p2 p4
 refine⟨T,vt,l, ?_,rts_part u.bn.sz zy d p2,d⟩
 rw[QfP,h3,List.take_take,Nat.min_eq_left (by omega)]
 exact p1
theorem QfE(a:Nat)(c:UInt8):flp [] a c= []:=rfl
theorem comes_inv(h:GInv k g S G)(hq:G.l[i]? =some q)(hX:q.node=some X){e:Int}(D:Does k g i Y)(sv:SV X Y)(b:BN (S+1) 14 Y)
  (F:∀j0,j0<(Qav Y).length->∃g',GBy i g g'/\GI k g'/\∀j T vt l,j<=j0->Qdl (Qj6 X) ((Qav Y).take j)=some ⟨T,vt,l.map toE⟩->Part X Y T vt l->(j<(Qav Y).length->(Qbr Y).length<=1->(T=X.term/\vt=X.vote/\l=X.log)\/(Y.hard=true/\T=Y.term/\vt=Y.vote/\l=X.log))->DI g' i T vt l):
  ∃g',GLe g g'/\GInv k g' (S+1) (Qa7 G i q Y e).1:=by
 have s:=h.seat i q hq
 have u:=s.up X hX
 have hik:=u.ni.ik
 obtain⟨g',B,I,si⟩:=D
 obtain⟨j0,w1,w2,w3,w4⟩:=QiY (Qav Y) q.b
 unfold Qa7
 by_cases hw:(wrM q.b (Qav Y)).2=true
 ·rw[if_pos hw]
  have hj:=w3.1 hw
  rw[hj,List.take_length] at w2
  refine⟨g',B.toGLe,h.set B I hik ⟨w4 s.len,fun Z hZ=> ?_,fun hd=>(by cases hd)⟩ (fun m hm=> ?_) (by rw[List.length_take];exact Nat.min_le_left _ _)⟩
  ·have hZ:some (Qae Y)=some Z:=hZ
   injection hZ with hZ
   subst hZ
   obtain⟨rs,h1,h2,h3⟩:=u.dk
   refine⟨si.ni.like rfl rfl rfl rfl rfl rfl (.inl rfl) rfl rfl rfl,⟨b.el,b.be,b.i,b.t,b.vt,b.v,b.h,b.s,b.q,b.c,b.nx,b.mt,b.l,b.ld,⟨Int.le_refl _,(by decide:(0:Int)<=1025)⟩,Nat.le_refl _,fun m hm=>by cases hm⟩,rfl,rfl,rfl,⟨rs++Qav Y,fun r hr=> ?_, ?_, ?_⟩,rfl⟩
   ·rcases List.mem_append.1 hr with hr|hr
    ·exact h1 r hr
    ·exact Qjp b.ld r hr
   ·show(wrM q.b (Qav Y)).1=_
    rw[w2,h2,Qd8]
   ·obtain⟨T,vt,l,p1,p2,p3,_⟩:=play_part sv u.bn.sz b.sz si.ni.d.ter (j:=(Qav Y).length) (Nat.le_refl _)
    obtain⟨e1,e2,e3⟩:=p3 rfl
    rw[List.take_length] at p1
    rw[QfP,h3]
    show Qdl (Qj6 X) (Qav Y)=some (Qj6 Y)
    rw[p1,e1,e2,e3];rfl
  ·rcases List.mem_append.1 (List.mem_of_mem_take hm) with hm|hm
   ·exact h.netgrow B.toGLe m hm
   ·exact⟨si.out m hm,b.om m hm⟩
 ·rw[if_neg hw]
  have hlt:j0<(Qav Y).length:=by
   rcases Nat.lt_or_eq_of_le w1 with x|x
   ·exact x
   ·exact absurd (w3.2 x) hw
  obtain⟨g2,B2,I2,hD⟩:=F j0 hlt
  refine⟨g2,B2.toGLe,h.set B2 I2 hik ⟨w4 s.len,fun Z hZ=>(by cases hZ),fun _=> ?_⟩ (h.netgrow B2.toGLe) h.cap⟩
  refine down_part u sv b.sz si.ni.d.ter hik (j0:=j0) w1 (keep:=(Qao ((Qav Y).take j0)).length) (a:=(Qao ((Qav Y).take j0)).length) (c:=0) ?_ rfl hD
  show(wrM q.b (Qav Y)).1=_
  rw[w2,List.take_length,flp_out (Nat.le_refl _)]
theorem di_tv(h:NI k g i X)(hT:X.term<Y.term\/(Y.term=X.term/\(X.vote= -1\/Y.vote=X.vote))){T vt:Int}{l:List RE}(hp:(T=X.term/\vt=X.vote/\l=X.log)\/(Y.hard=true/\T=Y.term/\vt=Y.vote/\l=X.log)):DI g i T vt l:=by
 rcases hp with⟨rfl,rfl,rfl⟩|⟨_,rfl,rfl,rfl⟩
 ·exact h.d
 ·rcases hT with hT|⟨hT,hv⟩
  ·exact h.d.up hT
  ·have d:=h.d
   refine⟨d.lm,d.mono,by rw[hT];exact d.ter,by rw[hT];exact d.kp,by rw[hT];exact d.futV,by rw[hT];exact d.futC,by rw[hT];exact d.futA,by rw[hT];exact d.futL, ?_,by rw[hT];exact d.t0,by rw[hT];exact d.cur⟩
   rw[hT,h.v]
   rcases hv with hv|hv
   ·exact .inl hv
   ·exact .inr hv.symm
structure One(X Y:RN):Prop where
 f:Y.from_=0\/Y.from_=Y.log.length
 tv:X.term<Y.term\/(Y.term=X.term/\Y.vote=X.vote)
theorem One.like{Z:RN}(h:One X Y)(h1:Z.from_=Y.from_)(h2:Z.log=Y.log)(h3:Z.term=Y.term)(h4:Z.vote=Y.vote):One X Z:=⟨by rw[h1,h2];exact h.f,by rw[h3,h4];exact h.tv⟩
theorem QnO(h:One X Y)(l:Int):One X (Qai Y Y.term l):=by
 unfold Qai
 rw[if_neg (by omega)]
 exact h.like rfl rfl rfl rfl
theorem one_agree(h:One X Y):One X (Qaf Y):=by
 obtain⟨h1,_,h3,h4,_,h6,_⟩:=Qan Y
 exact h.like h6 h3 h1 h4
theorem one_add(h:One X Y)(hf:Y.from_=0){data:ByteArray}:One X (Qc7 Y data).1:=by
 unfold Qc7
 split
 ·exact h
 split
 ·exact h
 ·refine one_agree ?_
  refine One.like (Y:=QaN {Y with log:=Y.log++ [⟨Y.term,data⟩]} ((Y.log.length:Int)+1)) ⟨.inr ?_,h.tv⟩ rfl rfl rfl rfl
  show(if Y.from_=0\/(Y.log.length:Int)+1<Y.from_ then(Y.log.length:Int)+1 else Y.from_)=((Y.log++ [(⟨Y.term,data⟩:RE)]).length:Int)
  rw[if_pos (.inl hf),List.length_append,List.length_singleton];omega
theorem one_leads(h:One X Y)(hf:Y.from_=0):One X (Qbh Y):=by
 have h1:One X (Qc7 (Qay Y) ⟨#[]⟩).1:=one_add (Y:=Qay Y) (h.like rfl rfl rfl rfl) hf
 unfold Qbh
 split
 ·exact QnO h1 _
 ·exact h1
theorem one_stands(h:One X Y)(hf:Y.from_=0)(hle:X.term<=Y.term):One X (QaU Y):=by
 have h0:One X (QbB Y):=⟨h.f,.inl (by show X.term<Y.term+1;omega)⟩
 unfold QaU
 split
 ·exact one_leads h0 hf
 ·exact h0.like rfl rfl rfl rfl
theorem one_tick(hf:X.from_=0){draw:Int}:One X (Qah X draw):=by
 have h0:One X X:=⟨.inl hf,.inr ⟨rfl,rfl⟩⟩
 unfold Qah
 generalize (if 0>draw then 0 else draw)%X.elect=dr
 split
 ·unfold Qk8
  split
  ·split
   ·exact One.like (Y:=Qai {X with since:=X.since+1,quiet:=0,heard:=0} X.term (-1)) (QnO (Y:={X with since:=X.since+1,quiet:=0,heard:=0}) (h0.like rfl rfl rfl rfl) (-1)) rfl rfl rfl rfl
   ·unfold QeP;split<;>exact h0.like rfl rfl rfl rfl
  ·unfold QeP;split<;>exact h0.like rfl rfl rfl rfl
 ·split
  ·unfold QfO
   split
   ·exact one_stands (h0.like rfl rfl rfl rfl) hf (Int.le_refl _)
   ·exact h0.like rfl rfl rfl rfl
  ·exact h0.like rfl rfl rfl rfl
theorem QiE(hf:X.from_=0){data:ByteArray}:One X (Qam X data).1:=by
 have h0:One X X:=⟨.inl hf,.inr ⟨rfl,rfl⟩⟩
 unfold Qam
 split
 ·exact h0
 split
 ·exact h0
 split<;>exact one_add h0 hf
theorem One.small(h:One X Y)(hl:Y.log.length<=1024):(Qbr Y).length<=1:=by
 rcases h.f with e|e
 ·unfold Qbr;rw[if_neg (by omega)];exact Nat.zero_le _
 ·by_cases h0:0<Y.from_
  ·rw[Qlw h0 hl,List.length_drop];omega
  ·unfold Qbr;rw[if_neg (by omega)];exact Nat.zero_le _
theorem one_inv(h:GInv k g S G)(hq:G.l[i]? =some q)(hX:q.node=some X){e:Int}(D:Does k g i Y)(sv:SV X Y)(b:BN (S+1) 14 Y)(o:One X Y):∃g',GLe g g'/\GInv k g' (S+1) (Qa7 G i q Y e).1:=
 comes_inv h hq hX D sv b fun j0 hj0=>⟨g,GBy.refl i g,h.gi,fun j T vt l hj _ _ hx=>di_tv ((h.seat i q hq).up X hX).ni (by
  rcases o.tv with x|⟨x,y⟩
  ·exact .inl x
  ·exact .inr ⟨x,.inr y⟩) (hx (by omega) (o.small b.l))⟩
theorem QfT{b t:List UInt8}{keep at_:Int}{c:UInt8}:∃kp a,Qc3 (b++t) b.length keep at_ c=b++flp (t.take kp) a c:=by
 unfold Qc3
 rw[List.length_append,Nat.add_sub_cancel_left]
 generalize min keep.toNat t.length=kp
 have e:(b++t).take (b.length+kp)=b++t.take kp:=List.take_length_add_append ..
 rw[e]
 split
 ·exact⟨kp,at_.toNat,by rw[flp_app2 (by omega),Nat.add_sub_cancel_left]⟩
 ·exact⟨kp,t.length,by rw[flp_out (l:=t.take kp) (by rw[List.length_take];omega)]⟩
theorem back_inv{rs ts:List WRec}{keep a:Nat}{c:UInt8}(h1:∀r∈rs,r.ok)(h2:∀r∈ts,r.ok):∃j,j<=ts.length/\(QdG (Qao rs++flp ((Qao ts).take keep) a c)).1=rs++ts.take j/\
  (QdG (Qao rs++flp ((Qao ts).take keep) a c)).2.1=(Qao (rs++ts.take j)).length/\(Qao rs++flp ((Qao ts).take keep) a c).take (Qao (rs++ts.take j)).length=Qao (rs++ts.take j):=by
 obtain⟨f',hf',hw1⟩:=walM_recs [] rs (flp ((Qao ts).take keep) a c) ((Qao rs++flp ((Qao ts).take keep) a c).length+1) [] 0 h1 rfl (by simp)
 simp only[List.nil_append,Nat.zero_add] at hf' hw1
 obtain⟨j,ee,hj,hw2,hw3⟩:=walM_crash (Qao rs) ts keep a c f' rs h2 (by omega)
 have e:QdG (Qao rs++flp ((Qao ts).take keep) a c)=(rs++ts.take j,(Qao rs).length+(Qao (ts.take j)).length,ee):=hw1.trans hw2
 refine⟨j,hj,by rw[e],by rw[e,Qd8,List.length_append], ?_⟩
 rw[Qd8,List.length_append,List.take_length_add_append,hw3]
theorem back_ni{T vt:Int}{l:List RE}(hk:k<=7)(hi:i<k)(I:GI k g)(d:DI g i T vt l)(r:RtS T vt l):GBy i g (g.setV i T vt)/\GI k (g.setV i T vt)/\NI k (g.setV i T vt) i (Ql9 i k 4 2 T vt l):=by
 have B:=Qor d.vot
 refine⟨B,setV_gi I d.vot,⟨⟨d.lm,d.mono,d.ter,d.kp,fun t ht=> ?_,d.futC,d.futA,d.futL,.inr (if_pos ⟨rfl,rfl⟩),d.t0,d.cur⟩,if_pos ⟨rfl,rfl⟩,rfl,rfl,hi,hk,r.v0,(by decide:0<128),Int.le_refl _,Int.natCast_nonneg _,.inl rfl,(fun e=>absurd e (by decide:¬(0:Int)=2)),(fun e=>absurd e (by decide:¬(0:Int)=3))⟩⟩
 show(if i=i/\t=T then vt else g.V i t)= -1
 have ht:T<t:=ht
 rw[if_neg (by omega)]
 exact d.futV t ht
theorem back_bn{T vt:Int}{l:List RE}(hk:k<=7)(hi:i<k)(r:RtS T vt l):BN S 0 (Ql9 i k 4 2 T vt l):=
 ⟨rfl,rfl,⟨Int.natCast_nonneg _,by show(i:Int)<k;omega,by show(k:Int)<=7;omega⟩,⟨r.t0,r.t1⟩,⟨r.v0,r.v1⟩,(by decide:0<128),(by decide:0<128),⟨Int.le_refl _,Int.natCast_nonneg _⟩,⟨Int.le_refl _,Int.natCast_nonneg _⟩,Int.le_refl _,fun t=>⟨Int.le_refl _,(by decide:(0:Int)<=1025)⟩,fun t=>⟨Int.le_refl _,(by decide:(0:Int)<=1024)⟩,r.n,r.d,⟨Int.le_refl _,(by decide:(0:Int)<=1025)⟩,Nat.le_refl _,fun m hm=>by cases hm⟩
structure Tells(k i:Nat)(g:GH)(q:GN)(st:Stt)(T vt:Int)(l:List RE):Prop where
 play:Qg1 (QdG q.b).1=some st
 st_:st=⟨T,vt,l.map toE⟩
 r:RtS T vt l
 d:DI g i T vt l
 e1:q.n<=(QdG q.b).2.1
 dk:∃rs:List WRec,(∀x∈rs,x.ok)/\q.b.take (QdG q.b).2.1=Qao rs/\(QdG q.b).2.1=(Qao rs).length/\Qdl st0 rs=some st
theorem DownI.tells(h:DownI k g i q):∃st T vt l,Tells k i g q st T vt l:=by
 obtain⟨rs,ts,keep,a,c,h1,h2,h3,h4,h5⟩:=h.dk
 obtain⟨j,hj,e1,e2,e3⟩:=back_inv (keep:=keep) (a:=a) (c:=c) h1 h2
 obtain⟨T,vt,l,h6,h7,h8⟩:=h5 j hj
 rw[<-h3] at e1 e2 e3
 refine⟨⟨T,vt,l.map toE⟩,T,vt,l, ?_,rfl,h7,h8, ?_,rs++ts.take j,fun r hr=> ?_,by rw[e2,e3],e2,h6⟩
 ·rw[e1]
  unfold Qg1
  rw[h6]
  simp only
  rw[if_pos h7.right]
 ·rw[e2,h4,Qd8,List.length_append];omega
 ·rcases List.mem_append.1 hr with hr|hr
  ·exact h1 r hr
  ·exact h2 r (List.mem_of_mem_take hr)
theorem walR_le(b:List UInt8):(QdG b).2.1<=b.length:=(Qoh b (b.length+1) [] 0 (Nat.zero_le _)).2.1
theorem QmF(G:GS)(i:Nat){T vt:Int}{l:List RE}:Qnm (G.l.length:Nat) i ⟨T,vt,l.map toE⟩=Ql9 i G.l.length 4 2 T vt l:=by
 unfold Qnm
 simp only[map_toR_toE]
theorem Ql2(h:GInv k g S G)(hq:G.l[i]? =some q)(hX:q.node=none):∃g',GLe g g'/\GInv k g' (S+1) (QbW G i q).1/\g'.ll=g.ll:=by
 have s:=h.seat i q hq
 have dn:=s.down hX
 obtain⟨st,T,vt,l,t⟩:=dn.tells
 obtain⟨B,I,n⟩:=back_ni h.k7 dn.ik h.gi t.d t.r
 unfold QbW
 rw[t.play]
 simp only
 refine⟨_,B.toGLe,h.set B I dn.ik ⟨?_,fun Z hZ=> ?_,fun hd=>(by cases hd)⟩ (h.netgrow B.toGLe) h.cap,rfl⟩
 ·show(q.b.take _).length<=_
  have:=s.len
  rw[List.length_take];omega
 ·have hZ:some (Qnm G.l.length i st)=some Z:=hZ
  injection hZ with hZ
  rw[t.st_,QmF,h.len] at hZ
  subst hZ
  obtain⟨rs,r1,r2,r3,r4⟩:=t.dk
  refine⟨n,back_bn h.k7 dn.ik t.r,rfl,rfl,rfl,⟨rs,r1,r2, ?_⟩, ?_⟩
  ·rw[r4,t.st_];rfl
  ·show(QdG q.b).2.1=(q.b.take (QdG q.b).2.1).length
   have:=walR_le q.b
   rw[List.length_take];omega
theorem Qcq(h:GInv k g S G):∃g',GLe g g'/\GInv k g' (S+1) G:=by
 refine⟨g,GLe.refl g,h.k1,h.k7,h.gi,h.len,fun i q hq=> ?_,h.net,h.cap,h.few.up (.inl rfl)⟩
 have s:=h.seat i q hq
 exact⟨s.len,fun X hX=>by have u:=s.up X hX;exact⟨u.ni,u.bn.up (Nat.le_succ _) (Nat.le_refl _),u.out,u.hard,u.from_,u.dk,u.n⟩,s.down⟩
theorem crash_inv(h:GInv k g S G)(hq:G.l[i]? =some q)(hX:q.node=some X){keep at_:Int}{c:UInt8}:∃g',GLe g g'/\GInv k g' (S+1) ⟨G.l.set i ⟨none,Qc3 q.b q.n keep at_ c,q.n⟩,G.net⟩:=by
 have s:=h.seat i q hq
 have u:=s.up X hX
 obtain⟨kp,a,hcr⟩:=QfT (b:=q.b) (t:= []) (keep:=keep) (at_:=at_) (c:=c)
 rw[List.append_nil,<-u.n] at hcr
 have hcr:Qc3 q.b q.n keep at_ c=q.b:=by rw[hcr,List.take_nil,QfE,List.append_nil]
 have B:=GBy.refl i g
 refine⟨g,GLe.refl g,h.set B h.gi u.ni.ik ⟨?_,fun Z hZ=>(by cases hZ),fun _=> ?_⟩ h.net h.cap⟩
 ·show(Qc3 q.b q.n keep at_ c).length<=_
  rw[hcr];exact s.len
 ·obtain⟨rs,h1,h2,h3⟩:=u.dk
  refine⟨u.ni.ik,rs,[],0,0,0,h1,fun r hr=>(by cases hr), ?_, ?_,fun j hj=>⟨X.term,X.vote,X.log, ?_, ?_,u.ni.d⟩⟩
  ·show Qc3 q.b q.n keep at_ c=_
   rw[hcr,h2,List.take_zero,QfE,List.append_nil]
  ·show q.n=_
   rw[u.n,h2]
  ·rw[List.take_nil,List.append_nil,h3];rfl
  ·have z:=u.bn.sz
   exact rts_of z u.ni.d ⟨z.t0,z.t1⟩ ⟨z.v0,z.v1⟩ z.n z.d
theorem Qhv(h:GInv k g S G)(s:ST)(hs:s.data.size<=100):∃g',GLe g g'/\GInv k g' (S+1) (gDo G s).1:=by
 have comes_step:∀{m:RM} {q:GN} {X:RN} {i:Nat} {e:Int} {G:GS},GInv k g S G->G.l[i]? =some q->q.node=some X->MI k g m->BM m->∃g',GLe g g'/\GInv k g' (S+1) (Qa7 G i q (Qaa X m) e).1:=fun{m q X i e G} h hq hX hm hb=>by
  have u:=(h.seat i q hq).up X hX
  have si:SI k g i X:=⟨u.ni,by rw[u.out];intro m hm;cases hm⟩
  refine comes_inv h hq hX (Qju h.gi si hm) (QlV u.from_) ((QhA u.bn hb u.ni.c1).up (Nat.le_succ _) (Nat.le_refl _)) fun j0 _=> ?_
  obtain⟨g',B,I,hD⟩:=torn_step h.gi u.ni u.out u.hard u.from_ hm
  exact⟨g',B,I,fun j T vt l _ _ hp _=>hD T vt l hp⟩
 unfold gDo
 split
 ·unfold Qld
  split
  ·exact Qcq h
  split
  ·exact Qcq h
  ·rename_i q hq
   split
   ·rename_i hX
    split
    ·obtain⟨g',a,b,_⟩:=Ql2 h hq hX
     exact⟨g',a,b⟩
    ·exact Qcq h
   ·rename_i X hX
    have u:=(h.seat _ q hq).up X hX
    have si:SI k g s.node.toNat X:=⟨u.ni,by rw[u.out];intro m hm;cases hm⟩
    split
    ·exact Qcq h
    split
    ·exact one_inv h hq hX (Qjt h.gi si) (sv_tick (SV.start u.from_)) (QmE u.bn) (one_tick u.from_)
    split
    ·exact one_inv h hq hX (Qfl h.gi si hs) (Qny (SV.start u.from_)) ((QfW u.bn).up (Nat.le_succ _) (Nat.le_refl _)) (QiE u.from_)
    ·exact crash_inv h hq hX
 split
 ·unfold gMsg
  split
  ·exact Qcq h
  split
  ·exact Qcq h
  ·rename_i m hm
   have hmm:=List.mem_of_getElem? hm
   have hmi:=h.net m hmm
   have herase:GInv k g S ⟨G.l,G.net.eraseIdx s.i.toNat⟩:=⟨h.k1,h.k7,h.gi,h.len,h.seat,fun x hx=>h.net x (List.mem_of_mem_eraseIdx hx),Nat.le_trans (List.length_eraseIdx_le ..) h.cap,h.few⟩
   split
   ·split
    ·exact Qcq h
    ·refine Qcq (G:=⟨G.l,G.net++ [m]⟩) ⟨h.k1,h.k7,h.gi,h.len,h.seat,fun x hx=> ?_,by show(G.net++ [m]).length<=512;rw[List.length_append,List.length_singleton];omega,h.few⟩
     rcases List.mem_append.1 hx with hx|hx
     ·exact h.net x hx
     ·rw[List.mem_singleton.1 hx];exact hmi
   split
   ·exact Qcq herase
   ·unfold gCome
    split
    ·exact Qcq herase
    split
    ·exact Qcq herase
    ·rename_i q hq
     split
     ·exact Qcq herase
     ·rename_i X hX
      split
      ·exact comes_step herase hq hX hmi.1 hmi.2
      ·have u:=(h.seat _ q hq).up X hX
       obtain⟨g',B,I,hD⟩:=torn_step h.gi u.ni u.out u.hard u.from_ hmi.1
       obtain⟨j0,w1,w2,w3,w4⟩:=QiY (Qav (Qaa X m)) q.b
       have bn:=QhA u.bn hmi.2 u.ni.c1
       have si:SI k g m.to.toNat X:=⟨u.ni,by rw[u.out];intro m hm;cases hm⟩
       obtain⟨g2,_,_,s2⟩:=Qju h.gi si hmi.1
       obtain⟨kp,a,hcr⟩:=QfT (b:=q.b) (t:=Qao ((Qav (Qaa X m)).take j0)) (keep:=s.keep) (at_:=s.at_) (c:=s.by_)
       rw[<-w2,<-u.n] at hcr
       refine⟨g',B.toGLe,herase.set B I u.ni.ik ⟨?_,fun Z hZ=>(by cases hZ),fun _=> ?_⟩ (herase.netgrow B.toGLe) herase.cap⟩
       ·have hw:=w4 (h.seat _ q hq).len
        rw[w2,List.length_append] at hw
        show(Qc3 (wrM q.b (Qav (Qaa X m))).1 q.n s.keep s.at_ s.by_).length<=_
        rw[hcr,List.length_append,Qh5,List.length_take]
        omega
       ·exact down_part u (QlV u.from_) bn.sz s2.ni.d.ter u.ni.ik w1 hcr rfl fun j T vt l _ _ hp _=>hD T vt l hp
 ·exact Qcq h
end
def gh0:GH:=⟨fun _ _=> -1,fun _=> [],fun _=> -1,fun _ _=>0,fun _ _=>none⟩
theorem QlF{k:Nat}(h1:1<=k)(h7:k<=7):GInv k gh0 0 (gNew k):=by
 have I:GI k gh0:=⟨fun t h=>absurd rfl h,fun v t=>Nat.zero_le _,fun t e he=>(by cases he)⟩
 refine⟨h1,h7,I,by show((List.range k).map _).length=k;rw[List.length_map,List.length_range],fun i q hq=> ?_,fun m hm=>(by cases hm),Nat.zero_le _,⟨fun _=>Nat.le_refl _,[],Nat.le_refl _,fun t i e he=>by simp[gh0] at he⟩⟩
 have hq:((List.range k).map fun(i:Nat)=>(⟨some (Ql9 i k 4 2 0 (-1) []),[],0⟩:GN))[i]? =some q:=hq
 have hik:i<k:=by
  have:=(List.getElem?_eq_some_iff.1 hq).1
  rwa[List.length_map,List.length_range] at this
 rw[List.getElem?_map,List.getElem?_range hik] at hq
 injection hq with hq
 subst hq
 have d:DI gh0 i 0 (-1) []:=⟨fun j hj=>by simp at hj,List.Pairwise.nil,(fun e he=>by cases he),(fun t j hj ho=>absurd ho.1 (by have:j<=0:=hj;omega)),fun _ _=>rfl,fun _ _=>rfl,fun _ _=>rfl,fun t _ h=>absurd rfl h,.inl rfl,Int.le_refl _,List.nil_prefix⟩
 have r:RtS 0 (-1) []:=⟨Int.le_refl _,by decide,Int.le_refl _,by decide,Nat.zero_le _,(fun e he=>by cases he),(fun e he=>by cases he),List.Pairwise.nil⟩
 refine⟨Nat.zero_le _,fun X hX=> ?_,fun h=>by cases h⟩
 have hX:some (Ql9 (i:Int) k 4 2 0 (-1) [])=some X:=hX
 injection hX with hX
 subst hX
 refine⟨⟨d,rfl,rfl,rfl,hik,h7,Int.le_refl _,(by decide:0<128),Int.le_refl _,Int.natCast_nonneg _,.inl rfl,(fun e=>absurd e (by decide:¬(0:Int)=2)),(fun e=>absurd e (by decide:¬(0:Int)=3))⟩,back_bn h7 hik r,rfl,rfl,rfl,⟨[],(fun r hr=>by cases hr),rfl,rfl⟩,rfl⟩
theorem gRun_inv{k:Nat}{g:GH}:∀(l:List ST){S:Nat}{G:GS},GInv k g S G->(∀s∈l,s.data.size<=100)->∃g',GLe g g'/\GInv k g' (S+l.length) (gRun G l)
 | [],S,G,h,_=>⟨g,GLe.refl g,h⟩
 |s::l,S,G,h,hd=>by
  obtain⟨g1,L1,h1⟩:=Qhv h s (hd s (List.mem_cons_self ..))
  obtain⟨g2,L2,h2⟩:=gRun_inv l h1 fun x hx=>hd x (List.mem_cons_of_mem _ hx)
  refine⟨g2,L1.trans L2, ?_⟩
  rw[List.length_cons,show S+(l.length+1)=S+1+l.length by omega]
  exact h2
end
section
inductive It where
 |A (a:Nat)
 |Y (i:Nat)
 |N
 |S
def kOf:Nat->List It->Nat
 |h,[]=>h
 |h,.Y i::r=>kOf (max h i) r
 |h,.A _::r=>kOf h r
 |h,.N::r=>kOf h r
 |h,.S::r=>kOf h r
def vals:Nat->List It->List Nat
 |_,[]=> []
 |h,.A a::r=>a::vals h r
 |h,.Y i::r=>max h i::vals (max h i) r
 |h,.N::r=>h::vals h r
 |h,.S::r=>vals h r
def ind(b:Bool):Nat:=if b then 1 else 0
def has(c l:Nat)(vs:List Nat)(r:Nat):Bool:=vs.any fun v=>v%8==r&&decide (c<=v)&&decide (v<l)
def QcT(c l:Nat)(vs:List Nat):Nat:=
 ind (has c l vs 0)+ind (has c l vs 1)+ind (has c l vs 2)+ind (has c l vs 3)+ind (has c l vs 4)+ind (has c l vs 5)+ind (has c l vs 6)+ind (has c l vs 7)
theorem Qkm{c l:Nat}{vs:List Nat}{r:Nat}:has c l vs r=true↔∃v∈vs,v%8=r/\c<=v/\v<l:=by
 unfold has
 rw[List.any_eq_true]
 constructor
 ·rintro ⟨v,h1,h2⟩
  rw[Bool.and_eq_true,Bool.and_eq_true,beq_iff_eq,decide_eq_true_eq,decide_eq_true_eq] at h2
  exact⟨v,h1,h2.1.1,h2.1.2,h2.2⟩
 ·rintro ⟨v,h1,h2,h3,h4⟩
  refine⟨v,h1, ?_⟩
  rw[Bool.and_eq_true,Bool.and_eq_true,beq_iff_eq,decide_eq_true_eq,decide_eq_true_eq]
  exact⟨⟨h2,h3⟩,h4⟩
theorem ind_le{a b:Bool}(h:a=true->b=true):ind a<=ind b:=by
 unfold ind
 cases a<;>cases b<;>simp_all
theorem Qhq(a:Bool):ind a<=1:=by unfold ind;cases a<;>simp
theorem Qja(c l:Nat)(vs:List Nat):QcT c l vs<=8:=by
 unfold QcT
 have:=Qhq (has c l vs 0);have:=Qhq (has c l vs 1);have:=Qhq (has c l vs 2);have:=Qhq (has c l vs 3)
 have:=Qhq (has c l vs 4);have:=Qhq (has c l vs 5);have:=Qhq (has c l vs 6);have:=Qhq (has c l vs 7)
 omega
theorem QfN{c c' l:Nat}{vs vs':List Nat}(h:∀v∈vs',c'<=v->v<l->∃u∈vs,u%8=v%8/\c<=u/\u<l):QcT c' l vs'<=QcT c l vs:=by
 have key:∀r,ind (has c' l vs' r)<=ind (has c l vs r):=fun r=>ind_le fun hr=>by
  obtain⟨v,h1,h2,h3,h4⟩:=Qkm.1 hr
  obtain⟨u,h5,h6,h7,h8⟩:=h v h1 h3 h4
  exact Qkm.2 ⟨u,h5,by omega,h7,h8⟩
 unfold QcT
 have:=key 0;have:=key 1;have:=key 2;have:=key 3;have:=key 4;have:=key 5;have:=key 6;have:=key 7
 omega
theorem resid_lt{c c' l b:Nat}{vs vs':List Nat}(h:∀v∈vs',c'<=v->v<l->∃u∈vs,u%8=v%8/\c<=u/\u<l)(hb:b∈vs)(hc:c<=b)(hl:b<l)(hn:∀v∈vs',c'<=v->v<l->v%8≠b%8):QcT c' l vs'+1<=QcT c l vs:=by
 have key:∀r,ind (has c' l vs' r)<=ind (has c l vs r):=fun r=>ind_le fun hr=>by
  obtain⟨v,h1,h2,h3,h4⟩:=Qkm.1 hr
  obtain⟨u,h5,h6,h7,h8⟩:=h v h1 h3 h4
  exact Qkm.2 ⟨u,h5,by omega,h7,h8⟩
 have h1:ind (has c l vs (b%8))=1:=by
  unfold ind
  rw[if_pos (Qkm.2 ⟨b,hb,rfl,hc,hl⟩)]
 have h0:ind (has c' l vs' (b%8))=0:=by
  unfold ind
  refine if_neg fun hh=> ?_
  obtain⟨v,k1,k2,k3,k4⟩:=Qkm.1 hh
  exact hn v k1 k3 k4 k2
 unfold QcT
 have:=key 0;have:=key 1;have:=key 2;have:=key 3;have:=key 4;have:=key 5;have:=key 6;have:=key 7
 have hlt:b%8<8:=Nat.mod_lt _ (by decide)
 generalize b%8=r at*
 match r,hlt with
 |0,_=>omega
 |1,_=>omega
 |2,_=>omega
 |3,_=>omega
 |4,_=>omega
 |5,_=>omega
 |6,_=>omega
 |7,_=>omega
def Mw(l:Nat):Nat:=2*((l+7)/8)+19
def Nw(l n x:Nat):Nat:=2*((l -x+7)/8)+2*n
def Tw(l n x:Nat):Nat:=if l<=x then 1 else 1+Nw l n x
def wA(l c n K a:Nat):Nat:=if a<c then 1+Tw l n K else if l<=a then 2 else Nw l n a
def wT(l c n K q:Nat):Nat:=if l<=q then 1 else if q<c then 2+Tw l n K else 1+Nw l n q
def wN(l c n K q:Nat):Nat:=if l<=q then 3 else wT l c n K q
def lkW(l c n K:Nat):Nat->List It->Nat
 |_,[]=>0
 |h,.A a::r=>wA l c n K a+lkW l c n K h r
 |h,.Y i::r=>wT l c n K (max h i)+lkW l c n K (max h i) r
 |h,.N::r=>wN l c n K h+lkW l c n K h r
 |h,.S::r=>Mw l+4+lkW l c n K h r
def vsO(c hv:Nat)(its:List It):List Nat:=max (kOf hv its) c::hv::vals hv its
def LkW(l c hv:Nat)(its:List It):Nat:=lkW l c (QcT c l (vsO c hv its)) (max (kOf hv its) c) hv its
def prW(l:Nat):List It->Nat
 | []=>0
 | .A a::r=>(if a=0 then Mw l+1 else Mw l+3)+prW l r
 | .Y _::r=>Mw l+prW l r
 | .N::r=>Mw l+2+prW l r
 | .S::r=>Mw l+4+prW l r
def brW(l:Nat):Nat->List It->Nat
 |_,[]=>0
 |h,.A _::r=>2+brW l h r
 |h,.Y i::r=>(if l<=max h i then 1 else 3)+brW l (max h i) r
 |h,.N::r=>3+brW l h r
 |h,.S::r=>2+brW l h r
def qs:Nat->List It->List Nat
 |_,[]=> []
 |h,.A _::r=>qs h r
 |h,.Y i::r=>max h i::qs (max h i) r
 |h,.N::r=>h::qs h r
 |h,.S::r=>qs h r
theorem QkV:∀(h:Nat) (its:List It),h<=kOf h its
 |h,[]=>Nat.le_refl _
 |h,.Y i::r=>Nat.le_trans (Nat.le_max_left h i) (QkV (max h i) r)
 |h,.A _::r=>QkV h r
 |h,.N::r=>QkV h r
 |h,.S::r=>QkV h r
theorem Qma:∀(its:List It) (h q:Nat),q∈qs h its->q∈vals h its
 | .A a::r,h,q,hq=>List.mem_cons_of_mem _ (Qma r h q hq)
 | .Y i::r,h,q,hq=>by
  rcases List.mem_cons.1 hq with e|e
  ·exact e▸List.mem_cons_self ..
  ·exact List.mem_cons_of_mem _ (Qma r _ q e)
 | .N::r,h,q,hq=>by
  rcases List.mem_cons.1 hq with e|e
  ·exact e▸List.mem_cons_self ..
  ·exact List.mem_cons_of_mem _ (Qma r _ q e)
 | .S::r,h,q,hq=>Qma r h q hq
theorem Qjj:∀(its:List It) (h a:Nat),It.A a∈its->a∈vals h its
 | .A b::r,h,a,ha=>by
  rcases List.mem_cons.1 ha with e|e
  ·injection e with e;exact e▸List.mem_cons_self ..
  ·exact List.mem_cons_of_mem _ (Qjj r h a e)
 | .Y i::r,h,a,ha=>by
  rcases List.mem_cons.1 ha with e|e
  ·cases e
  ·exact List.mem_cons_of_mem _ (Qjj r _ a e)
 | .N::r,h,a,ha=>by
  rcases List.mem_cons.1 ha with e|e
  ·cases e
  ·exact List.mem_cons_of_mem _ (Qjj r _ a e)
 | .S::r,h,a,ha=>by
  rcases List.mem_cons.1 ha with e|e
  ·cases e
  ·exact Qjj r _ a e
theorem qs_le:∀(its:List It) (h q:Nat),q∈qs h its->h<=q/\q<=kOf h its
 | .A a::r,h,q,hq=>qs_le r h q hq
 | .Y i::r,h,q,hq=>by
  rcases List.mem_cons.1 hq with e|e
  ·subst e;exact⟨Nat.le_max_left _ _,QkV _ r⟩
  ·have:=qs_le r _ q e;exact⟨Nat.le_trans (Nat.le_max_left h i) this.1,this.2⟩
 | .N::r,h,q,hq=>by
  rcases List.mem_cons.1 hq with e|e
  ·subst e;exact⟨Nat.le_refl _,QkV _ r⟩
  ·exact qs_le r _ q e
 | .S::r,h,q,hq=>qs_le r h q hq
theorem QfJ:∀(its:List It) (h v:Nat),v∈vals h its->It.A v∈its\/v∈qs h its
 | .A a::r,h,v,hv=>by
  rcases List.mem_cons.1 hv with e|e
  ·exact .inl (e▸List.mem_cons_self ..)
  ·rcases QfJ r h v e with x|x
   ·exact .inl (List.mem_cons_of_mem _ x)
   ·exact .inr x
 | .Y i::r,h,v,hv=>by
  rcases List.mem_cons.1 hv with e|e
  ·exact .inr (e▸List.mem_cons_self ..)
  ·rcases QfJ r _ v e with x|x
   ·exact .inl (List.mem_cons_of_mem _ x)
   ·exact .inr (List.mem_cons_of_mem _ x)
 | .N::r,h,v,hv=>by
  rcases List.mem_cons.1 hv with e|e
  ·exact .inr (e▸List.mem_cons_self ..)
  ·rcases QfJ r _ v e with x|x
   ·exact .inl (List.mem_cons_of_mem _ x)
   ·exact .inr (List.mem_cons_of_mem _ x)
 | .S::r,h,v,hv=>by
  rcases QfJ r h v hv with x|x
  ·exact .inl (List.mem_cons_of_mem _ x)
  ·exact .inr x
def Low(hv:Nat)(its:List It):Prop:=∀a,It.A a∈its->a<=hv
theorem vals_le{its:List It}{hv v:Nat}(hl:Low hv its)(h:v∈vals hv its):v<=kOf hv its:=by
 rcases QfJ its hv v h with x|x
 ·exact Nat.le_trans (hl v x) (QkV hv its)
 ·exact(qs_le its hv v x).2
theorem Qho:∀(a b:List It) (h:Nat),kOf h (a++b)=kOf (kOf h a) b
 | [],_,_=>rfl
 | .A _::r,b,h=>Qho r b h
 | .Y i::r,b,h=>Qho r b (max h i)
 | .N::r,b,h=>Qho r b h
 | .S::r,b,h=>Qho r b h
theorem Qfe:∀(a b:List It) (h:Nat),vals h (a++b)=vals h a++vals (kOf h a) b
 | [],_,_=>rfl
 | .A x::r,b,h=>by show x::vals h (r++b)=x::(vals h r++_);rw[Qfe r b h];rfl
 | .Y i::r,b,h=>by show max h i::vals _ (r++b)=max h i::(vals _ r++_);rw[Qfe r b];rfl
 | .N::r,b,h=>by show h::vals _ (r++b)=h::(vals _ r++_);rw[Qfe r b];rfl
 | .S::r,b,h=>by show vals _ (r++b)=vals _ r++_;rw[Qfe r b];rfl
theorem Qhn{l c n K:Nat}:∀(a b:List It) (h:Nat),lkW l c n K h (a++b)=lkW l c n K h a+lkW l c n K (kOf h a) b
 | [],_,_=>(Nat.zero_add _).symm
 | .A x::r,b,h=>by show wA l c n K x+lkW l c n K h (r++b)=wA l c n K x+lkW l c n K h r+_;rw[Qhn r b h,Nat.add_assoc];rfl
 | .Y i::r,b,h=>by show _+lkW l c n K _ (r++b)=_+lkW l c n K _ r+_;rw[Qhn r b,Nat.add_assoc];rfl
 | .N::r,b,h=>by show _+lkW l c n K _ (r++b)=_+lkW l c n K _ r+_;rw[Qhn r b,Nat.add_assoc];rfl
 | .S::r,b,h=>by show Mw l+4+lkW l c n K h (r++b)=Mw l+4+lkW l c n K h r+lkW l c n K (kOf h r) b;rw[Qhn r b];omega
theorem Qmm{l c n K c' n' K':Nat}:∀(its:List It) (h:Nat),(∀a,It.A a∈its->wA l c' n' K' a<=wA l c n K a)->(∀q∈qs h its,wT l c' n' K' q<=wT l c n K q)->lkW l c' n' K' h its<=lkW l c n K h its
 | [],_,_,_=>Nat.le_refl _
 | .A x::r,h,h1,h2=>Nat.add_le_add (h1 x (List.mem_cons_self ..)) (Qmm r h (fun a ha=>h1 a (List.mem_cons_of_mem _ ha)) h2)
 | .Y i::r,h,h1,h2=>Nat.add_le_add (h2 _ (List.mem_cons_self ..)) (Qmm r _ (fun a ha=>h1 a (List.mem_cons_of_mem _ ha)) fun q hq=>h2 q (List.mem_cons_of_mem _ hq))
 | .N::r,h,h1,h2=>by
  have k1:=h2 h (List.mem_cons_self ..)
  have k2:=Qmm r h (fun a ha=>h1 a (List.mem_cons_of_mem _ ha)) fun q hq=>h2 q (List.mem_cons_of_mem _ hq)
  show wN l c' n' K' h+_<=wN l c n K h+_
  have:wN l c' n' K' h<=wN l c n K h:=by
   unfold wN
   split
   ·exact Nat.le_refl _
   ·exact k1
  omega
 | .S::r,h,h1,h2=>Nat.add_le_add (Nat.le_refl _) (Qmm r h (fun a ha=>h1 a (List.mem_cons_of_mem _ ha)) h2)
theorem QmU{l n n' x y:Nat}(hn:n'<=n)(hx:x<=y):Nw l n' y<=Nw l n x:=by
 unfold Nw
 have:(l -y+7)/8<=(l -x+7)/8:=Nat.div_le_div_right (by omega)
 omega
theorem QmI{l n n' x y:Nat}(hn:n'<=n)(hx:x<=y):Tw l n' y<=Tw l n x:=by
 unfold Tw
 have:=QmU (l:=l) hn hx
 split<;>split<;>omega
theorem Qok{l c n n' K K' a:Nat}(hn:n'<=n)(hK:K<=K'):wA l c n' K' a<=wA l c n K a:=by
 unfold wA
 have:=QmI (l:=l) hn hK
 have:=QmU (l:=l) hn (Nat.le_refl a)
 split
 ·omega
 ·split<;>omega
theorem wT_mono{l c n n' K K' a:Nat}(hn:n'<=n)(hK:K<=K'):wT l c n' K' a<=wT l c n K a:=by
 unfold wT
 have:=QmI (l:=l) hn hK
 have:=QmU (l:=l) hn (Nat.le_refl a)
 split
 ·omega
 ·split<;>omega
theorem Tw_le{l n x:Nat}(hn:n<=8):Tw l n x<=Mw l -2:=by
 unfold Tw Nw Mw
 have:(l -x+7)/8<=(l+7)/8:=Nat.div_le_div_right (by omega)
 split<;>omega
theorem wA_le{l c n K a:Nat}(hn:n<=8):wA l c n K a<=Mw l -1:=by
 unfold wA
 have:=Tw_le (l:=l) (x:=K) hn
 have h2:Nw l n a<=Mw l -3:=by
  unfold Nw Mw
  have:(l -a+7)/8<=(l+7)/8:=Nat.div_le_div_right (by omega)
  omega
 have:19<=Mw l:=by unfold Mw;omega
 split
 ·omega
 ·split<;>omega
theorem wT_le{l c n K a:Nat}(hn:n<=8):wT l c n K a<=Mw l:=by
 unfold wT
 have:=Tw_le (l:=l) (x:=K) hn
 have h2:Nw l n a<=Mw l -3:=by
  unfold Nw Mw
  have:(l -a+7)/8<=(l+7)/8:=Nat.div_le_div_right (by omega)
  omega
 have:19<=Mw l:=by unfold Mw;omega
 split
 ·omega
 ·split<;>omega
theorem wN_le{l c n K a:Nat}(hn:n<=8):wN l c n K a<=Mw l:=by
 unfold wN
 have:19<=Mw l:=by unfold Mw;omega
 have:=wT_le (l:=l) (c:=c) (K:=K) (a:=a) hn
 split<;>omega
theorem QlM{l c hv n K:Nat}{its:List It}(hn:QcT c l (vsO c hv its)<=n)(hK:K<=max (kOf hv its) c):LkW l c hv its<=lkW l c n K hv its:=
 Qmm its hv (fun a _=>Qok hn hK) fun q _=>wT_mono hn hK
theorem lk_full{l c c' hv a:Nat}{r:List It}(hl:Low hv (.A a::r))(hc:c<=a)(hal:a<=l)(h1:c<=c')(h2:c'<=max c (min (a+8) l)):LkW l c' hv (r++ [.Y (min (a+8) l)])+1<=LkW l c hv (.A a::r):=by
 have ha:a<=hv:=hl a (List.mem_cons_self ..)
 have hlr:Low hv r:=fun x hx=>hl x (List.mem_cons_of_mem _ hx)
 have hk:=QkV hv r
 generalize hi:min (a+8) l=i at*
 have hK0:max (kOf hv (.A a::r)) c=kOf hv r:=by show max (kOf hv r) c=_;omega
 have hK1:kOf hv (r++ [.Y i])=max (kOf hv r) i:=by rw[Qho];rfl
 have hK2:max (kOf hv (r++ [.Y i])) c'=max (kOf hv r) i:=by rw[hK1];omega
 generalize hK':max (kOf hv r) i=K' at*
 unfold LkW
 rw[hK0,hK2]
 have hv1:vsO c hv (.A a::r)=kOf hv r::hv::a::vals hv r:=by unfold vsO;rw[hK0];rfl
 have hv2:vsO c' hv (r++ [.Y i])=K'::hv::(vals hv r++ [K']):=by unfold vsO;rw[hK2,Qfe];show _::_::(_++ [max (kOf hv r) i])=_;rw[hK']
 have hall:∀v∈vsO c' hv (r++ [.Y i]),v<=K':=fun v hv'=>by
  rw[hv2] at hv'
  rcases List.mem_cons.1 hv' with e|e
  ·omega
  rcases List.mem_cons.1 e with e|e
  ·omega
  rcases List.mem_append.1 e with e|e
  ·have:=vals_le hlr e;omega
  ·rw[List.mem_singleton] at e;omega
 have hm:∀v∈vsO c' hv (r++ [.Y i]),c'<=v->v<l->∃u∈vsO c hv (.A a::r),u%8=v%8/\c<=u/\u<l:=fun v hv' hcv hvl=>by
  have hold:v∈vsO c hv (.A a::r)->∃u∈vsO c hv (.A a::r),u%8=v%8/\c<=u/\u<l:=fun x=>⟨v,x,rfl,by omega,hvl⟩
  have hnew:v=K'->∃u∈vsO c hv (.A a::r),u%8=v%8/\c<=u/\u<l:=fun e=>by
   by_cases hx:K'=kOf hv r
   ·exact hold (by rw[hv1,e,hx];exact List.mem_cons_self ..)
   ·refine⟨a,by rw[hv1];simp, ?_,hc,by omega⟩
    have:v=a+8:=by omega
    omega
  rw[hv2] at hv'
  rcases List.mem_cons.1 hv' with e|e
  ·exact hnew e
  rcases List.mem_cons.1 e with e|e
  ·exact hold (by rw[hv1,e];simp)
  rcases List.mem_append.1 e with e|e
  ·exact hold (by rw[hv1];simp[e])
  ·rw[List.mem_singleton] at e;exact hnew e
 generalize hn1:QcT c l (vsO c hv (.A a::r))=n at*
 generalize hn2:QcT c' l (vsO c' hv (r++ [.Y i]))=n' at*
 have hn:n'<=n:=by rw[<-hn1,<-hn2];exact QfN hm
 have hK:kOf hv r<=K':=by omega
 have hdoom:∀b∈vsO c hv (.A a::r),c<=b->b<c'->2+Tw l n' K'<=1+Nw l n b:=fun b hb hcb hbc=>by
  have hbl:b<l:=by omega
  have hbK:b<K':=by omega
  have hd:1<=(l -b+7)/8:=by omega
  unfold Tw
  by_cases hx:l<=K'
  ·rw[if_pos hx];unfold Nw;omega
  ·rw[if_neg hx]
   unfold Nw
   by_cases hy:b+8<=K'
   ·have:(l -K'+7)/8+1<=(l -b+7)/8:=by omega
    omega
   ·have:(l -K'+7)/8<=(l -b+7)/8:=Nat.div_le_div_right (by omega)
    have h8:n'+1<=n:=by
     rw[<-hn1,<-hn2]
     refine resid_lt hm hb hcb hbl fun v hv' k1 k2=> ?_
     have:=hall v hv'
     omega
    omega
 have hwA:∀b,It.A b∈r->wA l c' n' K' b<=wA l c n (kOf hv r) b:=fun b hb=>by
  have hbv:b∈vsO c hv (.A a::r):=by rw[hv1];simp[Qjj r hv b hb]
  have t:=QmI (l:=l) hn hK
  have t2:=QmU (l:=l) hn (Nat.le_refl b)
  have hd:=hdoom b hbv
  unfold wA
  by_cases k1:b<c
  ·rw[if_pos (show b<c' by omega),if_pos k1];omega
  ·rw[if_neg k1]
   by_cases k2:b<c'
   ·have:=hd (by omega) k2
    rw[if_pos k2,if_neg (show ¬l<=b by omega)];omega
   ·rw[if_neg k2]
    split<;>omega
 have hwT:∀b∈qs hv r,wT l c' n' K' b<=wT l c n (kOf hv r) b:=fun b hb=>by
  have hbv:b∈vsO c hv (.A a::r):=by rw[hv1];simp[Qma r hv b hb]
  have t:=QmI (l:=l) hn hK
  have t2:=QmU (l:=l) hn (Nat.le_refl b)
  have hd:=hdoom b hbv
  unfold wT
  by_cases k0:l<=b
  ·rw[if_pos k0,if_pos k0];exact Nat.le_refl _
  rw[if_neg k0,if_neg k0]
  by_cases k1:b<c
  ·rw[if_pos (show b<c' by omega),if_pos k1];omega
  ·rw[if_neg k1]
   by_cases k2:b<c'
   ·have:=hd (by omega) k2
    rw[if_pos k2];omega
   ·rw[if_neg k2];omega
 have hmain:=Qmm r hv hwA hwT
 rw[Qhn]
 show lkW l c' n' K' hv r+(wT l c' n' K' (max (kOf hv r) i)+0)+1<=wA l c n (kOf hv r) a+lkW l c n (kOf hv r) hv r
 rw[hK']
 have:wT l c' n' K' K'+1<=wA l c n (kOf hv r) a:=by
  unfold wT wA
  rw[if_neg (show ¬a<c by omega)]
  by_cases k0:l<=K'
  ·rw[if_pos k0]
   split
   ·exact Nat.le_refl _
   ·unfold Nw
    have:1<=(l -a+7)/8:=by omega
    omega
  ·rw[if_neg k0,if_neg (show ¬K'<c' by omega),if_neg (show ¬l<=a by omega)]
   unfold Nw
   have:(l -K'+7)/8+1<=(l -a+7)/8:=by omega
   omega
 omega
theorem lk_short{l c hv a:Nat}{r:List It}(hc:a<c)(hcl:c<=l):LkW l c hv (r++ [.Y c])+1<=LkW l c hv (.A a::r):=by
 have hK1:kOf hv (r++ [.Y c])=max (kOf hv r) c:=by rw[Qho];rfl
 have hK0:kOf hv (.A a::r)=kOf hv r:=rfl
 generalize hK':max (kOf hv r) c=K' at*
 have hn:QcT c l (vsO c hv (r++ [.Y c]))<=QcT c l (vsO c hv (.A a::r)):=QfN fun v hv' k1 k2=>by
  refine⟨v, ?_,rfl,k1,k2⟩
  unfold vsO at hv'⊢
  rw[hK1,Qfe] at hv'
  rw[hK0,hK']
  rcases List.mem_cons.1 hv' with e|e
  ·rw[e,Nat.max_eq_left (by omega)];exact List.mem_cons_self ..
  rcases List.mem_cons.1 e with e|e
  ·rw[e];simp
  rcases List.mem_append.1 e with e|e
  ·exact List.mem_cons_of_mem _ (List.mem_cons_of_mem _ (List.mem_cons_of_mem _ e))
  ·have e:v=max (kOf hv r) c:=by simpa [vals] using e
   rw[e,hK'];exact List.mem_cons_self ..
 unfold LkW
 rw[hK0,hK1,hK',show max K' c=K' by omega]
 generalize QcT c l (vsO c hv (.A a::r))=n at*
 generalize QcT c l (vsO c hv (r++ [.Y c]))=n' at*
 have hmain:=Qmm (l:=l) (c:=c) (c':=c) (n:=n) (n':=n') (K:=K') (K':=K') r hv (fun b _=>Qok hn (Nat.le_refl _)) fun b _=>wT_mono hn (Nat.le_refl _)
 rw[Qhn]
 show lkW l c n' K' hv r+(wT l c n' K' (max (kOf hv r) c)+0)+1<=wA l c n K' a+lkW l c n K' hv r
 rw[hK']
 have:wT l c n' K' K'+1<=wA l c n K' a:=by
  unfold wT wA
  rw[if_pos hc]
  have t:=QmI (l:=l) hn (Nat.le_refl K')
  by_cases k0:l<=K'
  ·rw[if_pos k0];unfold Tw;split<;>omega
  ·rw[if_neg k0,if_neg (show ¬K'<c by omega)]
   have:Tw l n' K'=1+Nw l n' K':=by unfold Tw;rw[if_neg k0]
   omega
 omega
theorem lk_push{l c hv:Nat}{its:List It}:LkW l c hv (its++ [.A hv])<=LkW l c hv its+wA l c (QcT c l (vsO c hv its)) (max (kOf hv its) c) hv:=by
 have hK:kOf hv (its++ [.A hv])=kOf hv its:=by rw[Qho];rfl
 have hn:QcT c l (vsO c hv (its++ [.A hv]))<=QcT c l (vsO c hv its):=QfN fun v hv' k1 k2=>by
  refine⟨v, ?_,rfl,k1,k2⟩
  unfold vsO at hv'⊢
  rw[hK,Qfe] at hv'
  rcases List.mem_cons.1 hv' with e|e
  ·rw[e];exact List.mem_cons_self ..
  rcases List.mem_cons.1 e with e|e
  ·rw[e];simp
  rcases List.mem_append.1 e with e|e
  ·exact List.mem_cons_of_mem _ (List.mem_cons_of_mem _ e)
  ·have e:v=hv:=by simpa [vals] using e
   rw[e];simp
 have h1:=QlM (l:=l) hn (K:=max (kOf hv its) c) (by rw[hK];exact Nat.le_refl _)
 rw[Qhn] at h1
 unfold LkW at h1⊢
 show _<=_+wA l c (QcT c l (vsO c hv its)) (max (kOf hv its) c) hv
 exact h1
theorem lk_push_le{l c hv:Nat}{its:List It}:LkW l c hv (its++ [.A hv])<=LkW l c hv its+Mw l:=by
 have:=lk_push (l:=l) (c:=c) (hv:=hv) (its:=its)
 have:=wA_le (l:=l) (c:=c) (K:=max (kOf hv its) c) (a:=hv) (Qja c l (vsO c hv its))
 omega
theorem lk_pop0{l c hv q:Nat}{it:It}{r:List It}(hk:kOf hv (it::r)=kOf q r)(hvs:∀v∈q::vals q r,v∈vals hv (it::r)):QcT c l (vsO c q r)<=QcT c l (vsO c hv (it::r)):=QfN fun v hv' k1 k2=>by
 refine⟨v, ?_,rfl,k1,k2⟩
 unfold vsO at hv'⊢
 rw[hk]
 rcases List.mem_cons.1 hv' with e|e
 ·rw[e];exact List.mem_cons_self ..
 ·exact List.mem_cons_of_mem _ (List.mem_cons_of_mem _ (hvs v e))
theorem lk_yes0{l c hv i:Nat}{r:List It}:LkW l c (max hv i) r+wT l c (QcT c l (vsO c hv (.Y i::r))) (max (kOf hv (.Y i::r)) c) (max hv i)<=LkW l c hv (.Y i::r):=by
 have hn:=lk_pop0 (l:=l) (c:=c) (hv:=hv) (q:=max hv i) (it:= .Y i) (r:=r) rfl (fun v hv=>hv)
 have:=QlM (l:=l) hn (K:=max (kOf hv (.Y i::r)) c) (Nat.le_refl _)
 show _<=wT l c _ _ (max hv i)+lkW l c _ _ (max hv i) r
 omega
theorem lk_no0{l c hv:Nat}{r:List It}:LkW l c hv r+wN l c (QcT c l (vsO c hv (.N::r))) (max (kOf hv (.N::r)) c) hv<=LkW l c hv (.N::r):=by
 have hn:=lk_pop0 (l:=l) (c:=c) (hv:=hv) (q:=hv) (it:= .N) (r:=r) rfl (fun v hv=>hv)
 have:=QlM (l:=l) hn (K:=max (kOf hv (.N::r)) c) (Nat.le_refl _)
 show _<=wN l c _ _ hv+lkW l c _ _ hv r
 omega
theorem wT_pos{l c n K q:Nat}:1<=wT l c n K q:=by
 unfold wT;split<;>(try split)<;>omega
theorem wN_pos{l c n K q:Nat}:1<=wN l c n K q:=by
 unfold wN;split
 ·omega
 ·exact wT_pos
theorem lk_yes{l c hv i:Nat}{r:List It}:LkW l c (max hv i) r+1<=LkW l c hv (.Y i::r):=by
 have:=lk_yes0 (l:=l) (c:=c) (hv:=hv) (i:=i) (r:=r)
 have:=wT_pos (l:=l) (c:=c) (n:=QcT c l (vsO c hv (.Y i::r))) (K:=max (kOf hv (.Y i::r)) c) (q:=max hv i)
 omega
theorem lk_yes_go{l c hv i:Nat}{r:List It}(hq:max hv i<l):LkW l c (max hv i) (r++ [.A (max hv i)])+1<=LkW l c hv (.Y i::r):=by
 have h0:=lk_yes0 (l:=l) (c:=c) (hv:=hv) (i:=i) (r:=r)
 have h1:=lk_push (l:=l) (c:=c) (hv:=max hv i) (its:=r)
 have hn:=lk_pop0 (l:=l) (c:=c) (hv:=hv) (q:=max hv i) (it:= .Y i) (r:=r) rfl (fun v hv=>hv)
 have h2:=Qok (l:=l) (c:=c) (a:=max hv i) hn (Nat.le_refl (max (kOf (max hv i) r) c))
 have hk:kOf hv (.Y i::r)=kOf (max hv i) r:=rfl
 rw[hk] at h0
 have:wT l c (QcT c l (vsO c hv (.Y i::r))) (max (kOf (max hv i) r) c) (max hv i)=1+wA l c (QcT c l (vsO c hv (.Y i::r))) (max (kOf (max hv i) r) c) (max hv i):=by
  unfold wT wA
  rw[if_neg (show ¬l<=max hv i by omega)]
  split
  ·omega
  ·rw[if_neg (show ¬l<=max hv i by omega)]
 omega
theorem lk_no{l c hv:Nat}{r:List It}:LkW l c hv r+1<=LkW l c hv (.N::r):=by
 have:=lk_no0 (l:=l) (c:=c) (hv:=hv) (r:=r)
 have:=wN_pos (l:=l) (c:=c) (n:=QcT c l (vsO c hv (.N::r))) (K:=max (kOf hv (.N::r)) c) (q:=hv)
 omega
theorem lk_no_go{l c hv:Nat}{r:List It}(hcl:c<=l):LkW l c hv (r++ [.A hv])+1<=LkW l c hv (.N::r):=by
 have h0:=lk_no0 (l:=l) (c:=c) (hv:=hv) (r:=r)
 have h1:=lk_push (l:=l) (c:=c) (hv:=hv) (its:=r)
 have hn:=lk_pop0 (l:=l) (c:=c) (hv:=hv) (q:=hv) (it:= .N) (r:=r) rfl (fun v hv=>hv)
 have h2:=Qok (l:=l) (c:=c) (a:=hv) hn (Nat.le_refl (max (kOf hv r) c))
 have hk:kOf hv (.N::r)=kOf hv r:=rfl
 rw[hk] at h0
 have:wN l c (QcT c l (vsO c hv (.N::r))) (max (kOf hv r) c) hv=1+wA l c (QcT c l (vsO c hv (.N::r))) (max (kOf hv r) c) hv:=by
  unfold wN wA
  by_cases k0:l<=hv
  ·rw[if_pos k0,if_neg (show ¬hv<c by omega),if_pos k0]
  ·rw[if_neg k0]
   unfold wT
   rw[if_neg k0]
   split
   ·omega
   ·rfl
 omega
theorem lk_stray{l c hv:Nat}{r:List It}:LkW l c hv (r++ [.N])+1<=LkW l c hv (.S::r):=by
 have hK:kOf hv (r++ [.N])=kOf hv r:=by rw[Qho];rfl
 have hn:QcT c l (vsO c hv (r++ [.N]))<=QcT c l (vsO c hv (.S::r)):=QfN fun v hv' k1 k2=>by
  refine⟨v, ?_,rfl,k1,k2⟩
  unfold vsO at hv'⊢
  rw[hK,Qfe] at hv'
  rw[show kOf hv (.S::r)=kOf hv r from rfl]
  rcases List.mem_cons.1 hv' with e|e
  ·rw[e];exact List.mem_cons_self ..
  rcases List.mem_cons.1 e with e|e
  ·rw[e];simp
  rcases List.mem_append.1 e with e|e
  ·exact List.mem_cons_of_mem _ (List.mem_cons_of_mem _ e)
  ·have e:v=kOf hv r:=by simpa [vals] using e
   rw[e]
   have e2:kOf hv r=max (kOf hv r) c:=by omega
   exact e2▸List.mem_cons_self ..
 have h1:=QlM (l:=l) hn (K:=max (kOf hv r) c) (by rw[hK];exact Nat.le_refl _)
 rw[Qhn] at h1
 have:wN l c (QcT c l (vsO c hv (.S::r))) (max (kOf hv r) c) (kOf hv r)<=Mw l:=wN_le (Qja ..)
 show _<=Mw l+4+lkW l c _ (max (kOf hv r) c) hv r
 change _<=_+(wN l c _ _ (kOf hv r)+0) at h1
 omega
theorem Qhm{l c n K:Nat}(hn:n<=8):∀(its:List It) (h:Nat),lkW l c n K h its<=prW l its
 | [],_=>Nat.le_refl _
 | .A a::r,h=>by
  have:=Qhm (l:=l) (c:=c) (K:=K) hn r h
  have:=wA_le (l:=l) (c:=c) (K:=K) (a:=a) hn
  show wA l c n K a+_<=(if a=0 then Mw l+1 else Mw l+3)+_
  split<;>omega
 | .Y i::r,h=>by
  have:=Qhm (l:=l) (c:=c) (K:=K) hn r (max h i)
  have:=wT_le (l:=l) (c:=c) (K:=K) (a:=max h i) hn
  show wT l c n K _+_<=Mw l+_
  omega
 | .N::r,h=>by
  have:=Qhm (l:=l) (c:=c) (K:=K) hn r h
  have:=wN_le (l:=l) (c:=c) (K:=K) (a:=h) hn
  show wN l c n K _+_<=Mw l+2+_
  omega
 | .S::r,h=>by
  have:=Qhm (l:=l) (c:=c) (K:=K) hn r h
  show Mw l+4+_<=Mw l+4+_
  omega
theorem LkW_bound{l c hv:Nat}{its:List It}:LkW l c hv its<=prW l its:=Qhm (Qja ..) its hv
theorem Qhj{l:Nat}:∀its:List It,prW l its<=(Mw l+4)*its.length
 | []=>Nat.zero_le _
 | .A a::r=>by
  have:=Qhj (l:=l) r
  show(if a=0 then Mw l+1 else Mw l+3)+_<=_
  rw[List.length_cons,Nat.mul_succ]
  split<;>omega
 | .Y i::r=>by
  have:=Qhj (l:=l) r
  show Mw l+_<=_
  rw[List.length_cons,Nat.mul_succ];omega
 | .N::r=>by
  have:=Qhj (l:=l) r
  show Mw l+2+_<=_
  rw[List.length_cons,Nat.mul_succ];omega
 | .S::r=>by
  have:=Qhj (l:=l) r
  show Mw l+4+_<=_
  rw[List.length_cons,Nat.mul_succ];omega
theorem Qgl{l:Nat}:∀a b:List It,prW l (a++b)=prW l a+prW l b
 | [],b=>(Nat.zero_add _).symm
 | .A x::r,b=>by show _+prW l (r++b)=_+prW l r+_;rw[Qgl r b,Nat.add_assoc]
 | .Y x::r,b=>by show _+prW l (r++b)=_+prW l r+_;rw[Qgl r b,Nat.add_assoc]
 | .N::r,b=>by show Mw l+2+prW l (r++b)=Mw l+2+prW l r+_;rw[Qgl r b];omega
 | .S::r,b=>by show Mw l+4+prW l (r++b)=Mw l+4+prW l r+_;rw[Qgl r b];omega
theorem QiK{l:Nat}:∀(a b:List It) (h:Nat),brW l h (a++b)=brW l h a+brW l (kOf h a) b
 | [],b,_=>(Nat.zero_add _).symm
 | .A x::r,b,h=>by show 2+brW l h (r++b)=2+brW l h r+_;rw[QiK r b,Nat.add_assoc];rfl
 | .Y x::r,b,h=>by show _+brW l _ (r++b)=_+brW l _ r+_;rw[QiK r b,Nat.add_assoc];rfl
 | .N::r,b,h=>by show 3+brW l h (r++b)=3+brW l h r+_;rw[QiK r b,Nat.add_assoc];rfl
 | .S::r,b,h=>by show 2+brW l h (r++b)=2+brW l h r+_;rw[QiK r b,Nat.add_assoc];rfl
theorem Qn2{l:Nat}:∀(its:List It) (h:Nat),brW l h its<=prW l its
 | [],_=>Nat.le_refl _
 | .A x::r,h=>by
  have:=Qn2 (l:=l) r h
  show 2+_<=(if x=0 then Mw l+1 else Mw l+3)+_
  have:19<=Mw l:=by unfold Mw;omega
  split<;>omega
 | .Y x::r,h=>by
  have:=Qn2 (l:=l) r (max h x)
  show(if l<=max h x then 1 else 3)+_<=Mw l+_
  have:19<=Mw l:=by unfold Mw;omega
  split<;>omega
 | .N::r,h=>by
  have:=Qn2 (l:=l) r h
  show 3+_<=Mw l+2+_
  have:19<=Mw l:=by unfold Mw;omega
  omega
 | .S::r,h=>by
  have:=Qn2 (l:=l) r h
  show 2+_<=Mw l+4+_
  omega
theorem QmD{l c n K:Nat}:∀(its:List It) (h:Nat),brW l h its<=lkW l c n K h its
 | [],_=>Nat.le_refl _
 | .A x::r,h=>by
  have:=QmD (l:=l) (c:=c) (n:=n) (K:=K) r h
  show 2+_<=wA l c n K x+_
  have:2<=wA l c n K x:=by
   unfold wA Tw Nw
   split
   ·split<;>omega
   ·split
    ·exact Nat.le_refl _
    ·have:1<=(l -x+7)/8:=by omega
     omega
  omega
 | .Y x::r,h=>by
  have:=QmD (l:=l) (c:=c) (n:=n) (K:=K) r (max h x)
  show(if l<=max h x then 1 else 3)+_<=wT l c n K (max h x)+_
  have:(if l<=max h x then 1 else 3)<=wT l c n K (max h x):=by
   unfold wT Tw Nw
   split
   ·exact Nat.le_refl _
   ·have:1<=(l -max h x+7)/8:=by omega
    split
    ·split<;>omega
    ·omega
  omega
 | .N::r,h=>by
  have:=QmD (l:=l) (c:=c) (n:=n) (K:=K) r h
  show 3+_<=wN l c n K h+_
  have:3<=wN l c n K h:=by
   unfold wN wT Tw Nw
   split
   ·exact Nat.le_refl _
   ·have:1<=(l -h+7)/8:=by omega
    split
    ·split<;>omega
    ·omega
  omega
 | .S::r,h=>by
  have:=QmD (l:=l) (c:=c) (n:=n) (K:=K) r h
  show 2+_<=Mw l+4+_
  omega
def pW(br:Bool)(l c hv:Nat)(its:List It):Nat:=if br then brW l hv its else if hv=0 then prW l its else LkW l c hv its
theorem pW_pr{br:Bool}{l c hv:Nat}{its:List It}:pW br l c hv its<=prW l its:=by
 unfold pW
 split
 ·exact Qn2 its hv
 ·split
  ·exact Nat.le_refl _
  ·exact LkW_bound
theorem pW_br{l c hv:Nat}{its:List It}:brW l hv its<=pW false l c hv its:=by
 unfold pW
 rw[if_neg (by decide)]
 split
 ·exact Qn2 its hv
 ·exact QmD its hv
end
section
def Qjk:Int:=1099511627776
structure WM(k:Nat)(m:RM):Prop where
 f:0<=m.from_/\m.from_<k
 t:0<=m.to/\m.to<k
 ne:m.from_≠m.to
 tm:0<=m.term/\m.term<=Qjk
 en:m.kind=5\/m.ents= []
def AG(X:RN):Prop:=Qba X X.log.length=none
structure XI(k i:Nat)(X:RN):Prop where
 id:X.id=i
 n:X.n=k
 ik:i<k
 be:X.beat=2
 tm:0<=X.term/\X.term<=Qjk
 role:X.role=0\/X.role=1\/X.role=2\/X.role=3
 since:X.role=3->X.since<=1
 ag:X.role=3->AG X
 nx:X.role=3->∀t,t<k->t≠i->X.matc t=0\/X.next t=X.matc t+1
 out:∀m∈X.out,WM k m/\m.from_=i
section
variable {k i:Nat}{X Y:RN}{m:RM}
theorem Qk1{X Y:RN}(h1:Y.commit=X.commit)(h2:Y.log=X.log)(h3:Y.term=X.term)(h4:Y.id=X.id)(h5:Y.n=X.n)(h6:Y.matc=X.matc):∀j,Qba Y j=Qba X j
 |0=>rfl
 |j+1=>by
  have hc:Qj1 Y ((j+1:Nat):Int)=Qj1 X ((j+1:Nat):Int):=by unfold Qj1;rw[h4,h5,h6]
  unfold Qba
  rw[h1,h2,h3,h5,hc,Qk1 h1 h2 h3 h4 h5 h6 j]
theorem Qk0{X:RN}{c:Nat}:∀{j:Nat},Qba X j=some c->Qba {X with commit:=(c:Int)} j=none
 |0,h=>by cases h
 |j+1,h=>by
  unfold Qba at h⊢
  split at h
  ·cases h
  ·rename_i h1
   split at h
   ·cases h
   ·rename_i h2
    split at h
    ·rename_i h3
     injection h with h
     rw[if_pos (show((j+1:Nat):Int)<=c by omega)]
    ·rename_i h3
     have hle:=(Qee h).2.1
     rw[if_neg (show ¬((j+1:Nat):Int)<=c by omega),if_neg h2,if_neg (show ¬2*(Qj1 {X with commit:=(c:Int)} ((j+1:Nat):Int):Int)>X.n from h3)]
     exact Qk0 h
theorem AG.cong(h:AG X)(h1:Y.commit=X.commit)(h2:Y.log=X.log)(h3:Y.term=X.term)(h4:Y.id=X.id)(h5:Y.n=X.n)(h6:Y.matc=X.matc):AG Y:=by
 unfold AG
 rw[Qk1 h1 h2 h3 h4 h5 h6,h2];exact h
theorem ag_agree(X:RN):AG (Qaf X):=by
 unfold Qaf
 split
 ·rename_i h;exact h
 ·rename_i c h
  exact AG.cong (X:={X with commit:=(c:Int)}) (Qk0 h) rfl rfl rfl rfl rfl rfl
def OW(k i:Nat)(l:List RM):Prop:=∀m∈l,WM k m/\m.from_=i
theorem OW.app{a b:List RM}(h1:OW k i a)(h2:OW k i b):OW k i (a++b):=fun m hm=>(List.mem_append.1 hm).elim (h1 m) (h2 m)
theorem ow_all(hid:X.id=i)(hn:X.n=k)(hik:i<k)(h:OW k i X.out){f:Nat->RM}(hf:∀t:Nat,(f t).from_=X.id/\(f t).to=t/\(0<=(f t).term/\(f t).term<=Qjk)/\((f t).kind=5\/(f t).ents= [])):OW k i (X.out++(Qax X X.n.toNat).map f):=by
 refine h.app fun m hm=> ?_
 obtain⟨t,ht,rfl⟩:=List.mem_map.1 hm
 obtain⟨h1,h2⟩:=Qcl ht
 obtain⟨e1,e2,e3,e4⟩:=hf t
 rw[hn,Int.toNat_natCast] at h1
 rw[hid] at h2 e1
 exact⟨⟨by omega,by omega,by omega,e3,e4⟩,e1⟩
theorem ow_toAll(hid:X.id=i)(hn:X.n=k)(hik:i<k)(ht:0<=X.term/\X.term<=Qjk)(h:OW k i X.out):OW k i (Qa4 X).out:=
 ow_all hid hn hik h fun t=>⟨rfl,rfl,ht,.inl rfl⟩
theorem ow_agree(hid:X.id=i)(hn:X.n=k)(hik:i<k)(ht:0<=X.term/\X.term<=Qjk)(h:OW k i X.out):OW k i (Qaf X).out:=by
 unfold Qaf
 split
 ·exact h
 ·exact ow_toAll (X:={X with commit:=_}) hid hn hik ht h
theorem ow_add(hid:X.id=i)(hn:X.n=k)(hik:i<k)(ht:0<=X.term/\X.term<=Qjk)(h:OW k i X.out){data:ByteArray}:OW k i (Qc7 X data).1.out:=by
 unfold Qc7
 split
 ·exact h
 split
 ·exact h
 ·exact ow_agree (X:=Qa4 (QaN {X with log:=X.log++ [⟨X.term,data⟩]} ((X.log.length:Int)+1))) hid hn hik ht (ow_toAll (X:=QaN {X with log:=X.log++ [⟨X.term,data⟩]} ((X.log.length:Int)+1)) hid hn hik ht h)
theorem Qdh(X:RN):(Qaf X).since=X.since\/(Qaf X).since=0:=by
 unfold Qaf
 split
 ·exact .inl rfl
 ·exact .inr rfl
theorem QeK(X:RN):(Qaf X).id=X.id/\(Qaf X).n=X.n/\(Qaf X).beat=X.beat:=by
 unfold Qaf
 split<;>exact⟨rfl,rfl,rfl⟩
theorem XI.follow(h:XI k i X){t l:Int}(ht:t<=Qjk):XI k i (Qai X t l):=by
 have:=h.tm
 unfold Qai
 split
 ·exact⟨h.id,h.n,h.ik,h.be,by show 0<=t/\t<=Qjk;omega,.inl rfl,(fun e=>absurd e (by decide:¬(0:Int)=3)),(fun e=>absurd e (by decide:¬(0:Int)=3)),(fun e=>absurd e (by decide:¬(0:Int)=3)),h.out⟩
 ·exact⟨h.id,h.n,h.ik,h.be,h.tm,.inl rfl,(fun e=>absurd e (by decide:¬(0:Int)=3)),(fun e=>absurd e (by decide:¬(0:Int)=3)),(fun e=>absurd e (by decide:¬(0:Int)=3)),h.out⟩
theorem XI.lead(hid:Y.id=i)(hn:Y.n=k)(hik:i<k)(hb:Y.beat=2)(ht:0<=Y.term/\Y.term<=Qjk)(hr:Y.role=3)(hs:Y.since<=1)(ha:AG Y)(hx:∀t,t<k->t≠i->Y.matc t=0\/Y.next t=Y.matc t+1)(ho:OW k i Y.out):XI k i Y:=
 ⟨hid,hn,hik,hb,ht,.inr (.inr (.inr hr)),fun _=>hs,fun _=>ha,fun _=>hx,ho⟩
theorem XI.none(hid:Y.id=i)(hn:Y.n=k)(hik:i<k)(hb:Y.beat=2)(ht:0<=Y.term/\Y.term<=Qjk)(hr:Y.role=0\/Y.role=1\/Y.role=2)(ho:OW k i Y.out):XI k i Y:=by
 have h3:Y.role≠3:=by omega
 exact⟨hid,hn,hik,hb,ht,by omega,fun e=>absurd e h3,fun e=>absurd e h3,fun e=>absurd e h3,ho⟩
theorem xi_add(h:XI k i X)(hr:X.role=3){data:ByteArray}:XI k i (Qc7 X data).1:=by
 have ho:=ow_add h.id h.n h.ik h.tm h.out (data:=data)
 unfold Qc7 at ho⊢
 split at ho
 ·rename_i e;rw[if_pos e];exact h
 rename_i e;rw[if_neg e]
 split at ho
 ·rename_i e2;rw[if_pos e2];exact h
 rename_i e2;rw[if_neg e2]
 obtain⟨e1,e2,e3,e4,e5,e6,e7,e8⟩:=Qan (Qa4 (QaN {X with log:=X.log++ [⟨X.term,data⟩]} ((X.log.length:Int)+1)))
 obtain⟨f1,f2,f3⟩:=QeK (Qa4 (QaN {X with log:=X.log++ [⟨X.term,data⟩]} ((X.log.length:Int)+1)))
 refine XI.lead (f1.trans h.id) (f2.trans h.n) h.ik (f3.trans h.be) (by rw[e1];exact h.tm) (e2.trans hr) ?_ (ag_agree _) (fun t h1 h2=>by rw[e7,e8];exact h.nx hr t h1 h2) ho
 rcases Qdh (Qa4 (QaN {X with log:=X.log++ [⟨X.term,data⟩]} ((X.log.length:Int)+1))) with e|e
 ·rw[e];show(0:Int)<=1;decide
 ·rw[e];decide
theorem xi_leads(h:XI k i X):XI k i (Qbh X):=by
 have ho:=ow_add (X:=Qay X) h.id h.n h.ik h.tm h.out (data:=⟨#[]⟩)
 have hn:=h.n
 have key:XI k i (Qc7 (Qay X) ⟨#[]⟩).1\/((Qc7 (Qay X) ⟨#[]⟩).1=Qay X/\(Qc7 (Qay X) ⟨#[]⟩).2≠0):=by
  unfold Qc7 at ho⊢
  split at ho
  ·rename_i e;rw[if_pos e];exact .inr ⟨rfl,(by decide:(5:Int)≠0)⟩
  rename_i e;rw[if_neg e]
  split at ho
  ·rename_i e2;rw[if_pos e2];exact .inr ⟨rfl,(by decide:(7:Int)≠0)⟩
  rename_i e2;rw[if_neg e2]
  left
  generalize hZ:Qa4 (QaN {Qay X with log:=(Qay X).log++ [⟨(Qay X).term,⟨#[]⟩⟩]} (((Qay X).log.length:Int)+1))=Z at ho⊢
  obtain⟨e1,e2,e3,e4,e5,e6,e7,e8⟩:=Qan Z
  obtain⟨f1,f2,f3⟩:=QeK Z
  refine XI.lead (f1.trans (by rw[<-hZ];exact h.id)) (f2.trans (by rw[<-hZ];exact h.n)) h.ik (f3.trans (by rw[<-hZ];exact h.be)) (by rw[e1,<-hZ];exact h.tm) (e2.trans (by rw[<-hZ];rfl)) ?_ (ag_agree _) (fun t h1 h2=> .inl ?_) ho
  ·rcases Qdh Z with e|e
   ·rw[e,<-hZ];show(0:Int)<=1;decide
   ·rw[e];decide
  ·rw[e8,<-hZ]
   show(if(t:Int)<X.n then(0:Int) else X.matc t)=0
   rw[if_pos (by omega)]
 unfold Qbh
 rcases key with key|⟨key,kn⟩
 ·split
  ·exact key.follow key.tm.2
  ·exact key
 ·rw[if_pos kn,key]
  exact XI.none (by unfold Qai;split<;>exact h.id) (by unfold Qai;split<;>exact h.n) h.ik (by unfold Qai;split<;>exact h.be) (by unfold Qai;split<;>exact h.tm) (.inl (by unfold Qai;split<;>rfl)) (by unfold Qai;split<;>exact h.out)
theorem xi_stands(h:XI k i X)(ht:X.term<Qjk):XI k i (QaU X):=by
 have h0:XI k i (QbB X):=XI.none h.id h.n h.ik h.be (by have:=h.tm;show 0<=X.term+1/\X.term+1<=Qjk;omega) (.inr (.inr rfl)) h.out
 unfold QaU
 split
 ·exact xi_leads h0
 ·exact XI.none h0.id h0.n h0.ik h0.be h0.tm (.inr (.inr rfl)) (ow_all (X:=QbB X) h0.id h0.n h0.ik h0.out fun t=>⟨rfl,rfl,h0.tm,.inr rfl⟩)
theorem xi_asks(h:XI k i X)(ht:X.term<Qjk):XI k i (QfO X):=by
 have h0:XI k i (Qg0 X):=XI.none h.id h.n h.ik h.be h.tm (.inr (.inl rfl)) h.out
 unfold QfO
 split
 ·exact xi_stands h0 ht
 ·exact XI.none h0.id h0.n h0.ik h0.be h0.tm (.inr (.inl rfl)) (ow_all (X:=Qg0 X) h0.id h0.n h0.ik h0.out fun t=>⟨rfl,rfl,(by have:=h.tm;show 0<=X.term+1/\X.term+1<=Qjk;omega),.inr rfl⟩)
theorem xi_beat(h:XI k i {X with since:=0})(hr:X.role=3):XI k i (QeP X):=by
 unfold QeP
 split
 ·exact XI.lead h.id h.n h.ik h.be h.tm hr (by show(0:Int)<=1;decide) ((h.ag hr).cong rfl rfl rfl rfl rfl rfl) (h.nx hr) (ow_toAll h.id h.n h.ik h.tm h.out)
 ·rename_i hs
  have hb:X.beat=2:=h.be
  exact XI.lead h.id h.n h.ik h.be h.tm hr (by rw[hb] at hs;omega) ((h.ag hr).cong rfl rfl rfl rfl rfl rfl) (h.nx hr) h.out
theorem Qj2(h:XI k i X){draw:Int}:XI k i (Qah X draw):=by
 unfold Qah
 generalize (if 0>draw then 0 else draw)%X.elect=dr
 split
 ·rename_i hr
  have base:∀(q:Int) (hd:Nat),XI k i {X with since:=0,quiet:=q,heard:=hd}:=fun q hd=>XI.lead h.id h.n h.ik h.be h.tm hr (by show(0:Int)<=1;decide) ((h.ag hr).cong rfl rfl rfl rfl rfl rfl) (h.nx hr) h.out
  unfold Qk8
  split
  ·split
   ·unfold Qai
    rw[if_neg (by show ¬X.term>X.term;omega)]
    exact XI.none h.id h.n h.ik h.be h.tm (.inl rfl) h.out
   ·exact xi_beat (X:={X with since:=X.since+1,quiet:=0,heard:=0}) (base 0 0) hr
  ·exact xi_beat (X:={X with since:=X.since+1,quiet:=X.quiet+1}) (base _ _) hr
 ·rename_i hr
  have h0:XI k i {X with since:=X.since+1}:=XI.none h.id h.n h.ik h.be h.tm (by have:=h.role;show X.role=0\/X.role=1\/X.role=2;omega) h.out
  split
  ·rename_i hc;exact xi_asks h0 hc.1
  ·exact h0
theorem Qj3(h:XI k i X){data:ByteArray}:XI k i (Qam X data).1:=by
 unfold Qam
 split
 ·exact h
 rename_i hr
 split
 ·exact h
 split<;>exact xi_add h (Decidable.not_not.1 hr)
theorem xi_new(hik:i<k){term vote:Int}{es:List RE}(ht:0<=term/\term<=Qjk):XI k i (Ql9 i k 4 2 term vote es):=
 XI.none rfl rfl hik rfl ht (.inl rfl) fun m hm=>by cases hm
theorem XI.send(h:XI k i X){to:Int}(hto:0<=to/\to<k/\to≠i){o:RM}(ho:0<=o.term/\o.term<=Qjk)(he:o.kind=5\/o.ents= []):XI k i (Ql8 X to o):=
 ⟨h.id,h.n,h.ik,h.be,h.tm,h.role,h.since,fun e=>(h.ag e).cong rfl rfl rfl rfl rfl rfl,h.nx,OW.app h.out fun m hm=>by
  rw[List.mem_singleton] at hm
  subst hm
  have hid:=h.id
  have hik:=h.ik
  exact⟨⟨by show 0<=X.id/\X.id<k;omega,⟨hto.1,hto.2.1⟩,by show X.id≠to;omega,ho,he⟩,hid⟩⟩
theorem XI.votes(h:XI k i X){v:Nat}:XI k i {X with votes:=v}:=
 ⟨h.id,h.n,h.ik,h.be,h.tm,h.role,h.since,fun e=>(h.ag e).cong rfl rfl rfl rfl rfl rfl,h.nx,h.out⟩
theorem xi_newer(h:XI k i X)(ht:m.term<=Qjk):XI k i (Qab X m):=by
 unfold Qab
 split
 ·exact h.follow ht
 ·exact h
theorem QaO(X:RN)(m:RM):(Qab X m).role=0\/(Qab X m=X/\m.term<=X.term):=by
 unfold Qab
 split
 ·unfold Qai;split<;>exact .inl rfl
 ·exact .inr ⟨rfl,by omega⟩
theorem xi_hears(h:XI k i X)(hf:0<=m.from_/\m.from_<k/\m.from_≠i)(hm0:∀t,0<=X.matc t)(hn1:∀t,t<k->t≠i->X.role=3->1<=X.next t):XI k i (QaC X m):=by
 unfold QaC
 split
 ·exact h
 rename_i hr
 have hr:X.role=3:=Decidable.not_not.1 hr
 have hto:∀Z:RN,Z.role=3->XI k i Z->XI k i (rTo Z m.from_.toNat):=fun Z hz hZ=>
  ⟨hZ.id,hZ.n,hZ.ik,hZ.be,hZ.tm,hZ.role,hZ.since,fun e=>(hZ.ag e).cong rfl rfl rfl rfl rfl rfl,hZ.nx,OW.app hZ.out fun x hx=>by
   rw[List.mem_singleton] at hx
   subst hx
   have hid:=hZ.id
   have hik:=hZ.ik
   exact⟨⟨by show 0<=Z.id/\Z.id<k;omega,by show 0<=((m.from_.toNat:Nat):Int)/\((m.from_.toNat:Nat):Int)<k;omega,by show Z.id≠((m.from_.toNat:Nat):Int);omega,hZ.tm,.inl rfl⟩,hid⟩⟩
 split
 ·rename_i hc
  have hg:XI k i (Qaf (Qau X m.from_.toNat m.index)):=by
   obtain⟨e1,e2,e3,e4,e5,e6,e7,e8⟩:=Qan (Qau X m.from_.toNat m.index)
   obtain⟨f1,f2,f3⟩:=QeK (Qau X m.from_.toNat m.index)
   refine XI.lead (f1.trans h.id) (f2.trans h.n) h.ik (f3.trans h.be) (by rw[e1];exact h.tm) (e2.trans hr) ?_ (ag_agree _) (fun t h1 h2=> ?_) (ow_agree (X:=Qau X m.from_.toNat m.index) h.id h.n h.ik h.tm h.out)
   ·rcases Qdh (Qau X m.from_.toNat m.index) with e|e
    ·rw[e];exact h.since hr
    ·rw[e];decide
   ·rw[e7,e8]
    show upd X.matc m.from_.toNat _ t=0\/upd X.next m.from_.toNat _ t=upd X.matc m.from_.toNat _ t+1
    unfold upd
    split
    ·exact .inr rfl
    ·exact h.nx hr t h1 h2
  split
  ·exact hto _ ((Qan _).2.1.trans hr) hg
  ·exact hg
 split
 ·refine hto _ hr ⟨h.id,h.n,h.ik,h.be,h.tm,h.role,h.since,fun e=>(h.ag e).cong rfl rfl rfl rfl rfl rfl,fun _ t h1 h2=> ?_,h.out⟩
  show X.matc t=0\/upd X.next m.from_.toNat _ t=X.matc t+1
  unfold upd
  split
  ·rename_i e
   rcases h.nx hr t h1 h2 with x|x
   ·exact .inl x
   ·right
    rw[<-e]
    have:=hm0 t
    unfold mx mn
    repeat' split
    all_goals omega
  ·exact h.nx hr t h1 h2
 ·exact⟨h.id,h.n,h.ik,h.be,h.tm,h.role,h.since,fun e=>(h.ag e).cong rfl rfl rfl rfl rfl rfl,h.nx,h.out⟩
theorem QnJ(h:XI k i X):XI k i (Qag X m):=by
 rw[Qaz]
 exact XI.none h.id h.n h.ik h.be h.tm (.inl rfl) h.out
theorem Qcw(X:RN)(m:RM):(QbD X m).id=X.id/\(QbD X m).n=X.n/\(QbD X m).beat=X.beat/\(QbD X m).term=X.term/\(QbD X m).role=X.role/\(QbD X m).out=X.out:=by
 unfold QbD
 split<;>exact⟨rfl,rfl,rfl,rfl,rfl,rfl⟩
theorem Qiz(h:XI k i X)(w:WM k m)(hto:m.to=i)(hm0:∀t,0<=X.matc t)(hn1:∀t,t<k->t≠i->X.role=3->1<=X.next t):XI k i (Qaa X m):=by
 have hf:0<=m.from_/\m.from_<k/\m.from_≠i:=⟨w.f.1,w.f.2,by rw[<-hto];exact w.ne⟩
 unfold Qaa
 split
 ·exact h
 split
 ·refine h.send hf ?_ (.inr rfl)
  show 0<=(if QkQ X m then m.term else X.term)/\(if QkQ X m then m.term else X.term)<=Qjk
  split
  ·exact w.tm
  ·exact h.tm
 split
 ·unfold QaS
  split
  ·exact h.follow w.tm.2
  split
  ·rename_i hc
   split
   ·refine xi_stands h.votes ?_
    show X.term<Qjk
    have:=w.tm;omega
   ·exact h.votes
  ·exact h
 have h1:=xi_newer h w.tm.2
 split
 ·split
  ·exact h1.send hf h1.tm (.inr rfl)
  ·exact h1
 rcases QaO X m with hr|⟨hr,hle⟩
 ·generalize Qab X m=Z at h1 hr⊢
  have hnone:∀Y:RN,Y.id=Z.id->Y.n=Z.n->Y.beat=Z.beat->Y.term=Z.term->Y.role=0->Y.out=Z.out->XI k i Y:=fun Y a b c d e f=>XI.none (a.trans h1.id) (b.trans h1.n) h1.ik (c.trans h1.be) (by rw[d];exact h1.tm) (.inl e) (by rw[f];exact h1.out)
  split
  ·unfold Qbg
   refine XI.send ?_ hf h1.tm (.inr rfl)
   split
   ·exact hnone _ rfl rfl rfl rfl hr rfl
   ·exact h1
  split
  ·unfold Qar
   rw[if_pos (.inr (by omega))]
   exact h1
  split
  ·unfold QaV
   rw[if_neg (by omega)]
   have h2:=QnJ (m:=m) h1
   split
   ·exact h2.send hf h2.tm (.inr rfl)
   split
   ·exact h2.send hf h2.tm (.inr rfl)
   ·obtain⟨a,b,c,d,e,f⟩:=Qcw (Qag Z m) m
    have h3:XI k i (QbD (Qag Z m) m):=XI.none (a.trans h2.id) (b.trans h2.n) h2.ik (c.trans h2.be) (by rw[d];exact h2.tm) (.inl (e.trans (by rw[Qaz]))) (by rw[f];exact h2.out)
    have e0:(QbD (Qag Z m) m).role=0:=e.trans (by rw[Qaz])
    generalize mx Z.commit (mn m.commit (m.index+m.ents.length))=c
    generalize QbD (Qag Z m) m=W at h3 e0⊢
    exact XI.send (X:={W with commit:=c}) (XI.none h3.id h3.n h3.ik h3.be h3.tm (.inl e0) h3.out) hf (o:=⟨6,0,0,W.term,m.index+m.ents.length,0,0,true,[]⟩) h3.tm (.inr rfl)
  ·unfold QaC
   rw[if_pos (by omega)]
   exact h1
 ·rw[hr]
  split
  ·unfold Qbg
   refine XI.send ?_ hf h.tm (.inr rfl)
   split
   ·rename_i hv
    have hrn:X.role≠3:=hv.2.1
    exact XI.none h.id h.n h.ik h.be h.tm (by have:=h.role;show X.role=0\/X.role=1\/X.role=2;omega) h.out
   ·exact h
  split
  ·unfold Qar
   split
   ·exact h
   split
   ·exact xi_leads h.votes
   ·exact h.votes
  split
  ·unfold QaV
   split
   ·exact h
   have h2:=QnJ (m:=m) h
   split
   ·exact h2.send hf h2.tm (.inr rfl)
   split
   ·exact h2.send hf h2.tm (.inr rfl)
   ·obtain⟨a,b,c,d,e,f⟩:=Qcw (Qag X m) m
    have h3:XI k i (QbD (Qag X m) m):=XI.none (a.trans h2.id) (b.trans h2.n) h2.ik (c.trans h2.be) (by rw[d];exact h2.tm) (.inl (e.trans (by rw[Qaz]))) (by rw[f];exact h2.out)
    have e0:(QbD (Qag X m) m).role=0:=e.trans (by rw[Qaz])
    generalize mx X.commit (mn m.commit (m.index+m.ents.length))=c
    generalize QbD (Qag X m) m=W at h3 e0⊢
    exact XI.send (X:={W with commit:=c}) (XI.none h3.id h3.n h3.ik h3.be h3.tm (.inl e0) h3.out) hf (o:=⟨6,0,0,W.term,m.index+m.ents.length,0,0,true,[]⟩) h3.tm (.inr rfl)
  ·exact xi_hears h hf hm0 hn1
end
end
section
theorem XI.clean{k i:Nat}{X:RN}(h:XI k i X):XI k i (Qae X):=
 ⟨h.id,h.n,h.ik,h.be,h.tm,h.role,h.since,fun e=>(h.ag e).cong rfl rfl rfl rfl rfl rfl,h.nx,fun m hm=>by cases hm⟩
structure GXI(k:Nat)(G:GS):Prop where
 node:∀i q X,G.l[i]? =some q->q.node=some X->XI k i X
 net:∀m∈G.net,WM k m
section
variable {k:Nat}{g:GH}{i j S:Nat}{q:GN}{X Y:RN}{G:GS}{m:RM}
theorem GXI.set(h:GXI k G){q':GN}(hq:∀X,q'.node=some X->XI k i X){net':List RM}(hn:∀m∈net',WM k m):GXI k ⟨G.l.set i q',net'⟩:=by
 refine⟨fun j x X hx hX=> ?_,hn⟩
 have hx:(G.l.set i q')[j]? =some x:=hx
 by_cases e:j=i
 ·subst e
  have hj:j<G.l.length:=by
   have:=(List.getElem?_eq_some_iff.1 hx).1
   rwa[List.length_set] at this
  rw[List.getElem?_set_self hj] at hx
  injection hx with hx
  exact hq X (by rw[hx];exact hX)
 ·rw[List.getElem?_set_ne (fun x=>e x.symm)] at hx
  exact h.node j x X hx hX
theorem gx_comes(h:GXI k G)(hY:XI k i Y){e:Int}:GXI k (Qa7 G i q Y e).1:=by
 unfold Qa7
 split
 ·refine h.set (fun Z hZ=> ?_) fun m hm=> ?_
  ·have hZ:some (Qae Y)=some Z:=hZ
   injection hZ with hZ
   rw[<-hZ];exact hY.clean
  ·rcases List.mem_append.1 (List.mem_of_mem_take hm) with hm|hm
   ·exact h.net m hm
   ·exact(hY.out m hm).1
 ·exact h.set (fun Z hZ=>by cases hZ) h.net
theorem UpI.m0(u:UpI k g i S q X):(∀t,0<=X.matc t)/\(∀t,t<k->t≠i->X.role=3->1<=X.next t):=
 ⟨fun t=>(u.bn.mt t).1,fun t h1 h2 h3=>((u.ni.lead h3).nx t h1 h2).1⟩
theorem gx_do(h:GInv k g S G)(x:GXI k G)(s:ST):GXI k (gDo G s).1:=by
 unfold gDo
 split
 ·unfold Qld
  split
  ·exact x
  split
  ·exact x
  ·rename_i q hq
   split
   ·rename_i hX
    split
    ·have dn:=(h.seat _ q hq).down hX
     obtain⟨st,T,vt,l,t⟩:=dn.tells
     unfold QbW
     rw[t.play]
     refine x.set (fun Z hZ=> ?_) x.net
     have hZ:some (Qnm G.l.length s.node.toNat st)=some Z:=hZ
     injection hZ with hZ
     rw[t.st_,QmF,h.len] at hZ
     subst hZ
     exact xi_new dn.ik ⟨t.r.t0,t.r.t1⟩
    ·exact x
   ·rename_i X hX
    have hXI:=x.node _ q X hq hX
    split
    ·exact x
    split
    ·exact gx_comes x (Qj2 hXI)
    split
    ·exact gx_comes x (Qj3 hXI)
    ·exact x.set (fun Z hZ=>by cases hZ) x.net
 split
 ·unfold gMsg
  split
  ·exact x
  split
  ·exact x
  ·rename_i m hm
   have hmm:=List.mem_of_getElem? hm
   have herase:GXI k ⟨G.l,G.net.eraseIdx s.i.toNat⟩:=⟨x.node,fun y hy=>x.net y (List.mem_of_mem_eraseIdx hy)⟩
   split
   ·split
    ·exact x
    ·refine⟨x.node,fun y hy=> ?_⟩
     rcases List.mem_append.1 hy with hy|hy
     ·exact x.net y hy
     ·rw[List.mem_singleton.1 hy];exact x.net m hmm
   split
   ·exact herase
   ·unfold gCome
    split
    ·exact herase
    split
    ·exact herase
    ·rename_i q hq
     split
     ·exact herase
     ·rename_i X hX
      split
      ·have u:=(h.seat _ q hq).up X hX
       have w:=x.net m hmm
       refine gx_comes herase (Qiz (x.node _ q X hq hX) w (by have:=w.t;omega) u.m0.1 u.m0.2)
      ·exact herase.set (fun Z hZ=>by cases hZ) herase.net
 ·exact x
theorem gx_new{k:Nat}(h1:1<=k):GXI k (gNew k):=by
 refine⟨fun i q X hq hX=> ?_,fun m hm=>by cases hm⟩
 have hq:((List.range k).map fun(i:Nat)=>(⟨some (Ql9 i k 4 2 0 (-1) []),[],0⟩:GN))[i]? =some q:=hq
 have hik:i<k:=by
  have:=(List.getElem?_eq_some_iff.1 hq).1
  rwa[List.length_map,List.length_range] at this
 rw[List.getElem?_map,List.getElem?_range hik] at hq
 injection hq with hq
 subst hq
 injection hX with hX
 subst hX
 exact xi_new hik ⟨Int.le_refl _,by decide⟩
end
structure CS where
 x:List RN
 net:List RM
def Qg8(C:CS)(i:Nat)(Y:RN)(net:List RM):CS:=⟨C.x.set i (Qae Y),(net++Y.out).take 512⟩
def Qal(C:CS)(i:Nat)(d:Int):CS:=match C.x[i]? with
 |none=>C
 |some X=>Qg8 C i (Qah X d) C.net
def Qe9(C:CS)(i:Nat)(data:ByteArray):CS:=match C.x[i]? with
 |none=>C
 |some X=>Qg8 C i (Qam X data).1 C.net
def QaX(C:CS):CS:=match C.net with
 | []=>C
 |m::r=>match C.x[m.to.toNat]? with
  |none=>⟨C.x,r⟩
  |some X=>Qg8 C m.to.toNat (Qaa X m) r
def Qbq:Nat->CS->CS
 |0,C=>C
 |n+1,C=>if C.net= [] then C else Qbq n (QaX C)
structure CN(k:Nat)(g:GH)(S i:Nat)(X:RN):Prop where
 ni:NI k g i X
 bn:BN S 0 X
 xi:XI k i X
 out:X.out= []
 hard:X.hard=false
 from_:X.from_=0
structure CInv(k:Nat)(g:GH)(S:Nat)(C:CS):Prop where
 k1:1<=k
 k7:k<=7
 gi:GI k g
 len:C.x.length=k
 node:∀i X,C.x[i]? =some X->CN k g S i X
 net:∀m∈C.net,MI k g m/\BM m/\WM k m
 cap:C.net.length<=512
section
variable {k:Nat}{g:GH}{i j S:Nat}{X Y:RN}{C:CS}{m:RM}
theorem CInv.get(h:CInv k g S C)(hi:i<k):∃X,C.x[i]? =some X:=⟨_,List.getElem?_eq_getElem (by rw[h.len];exact hi)⟩
theorem CInv.put(h:CInv k g S C)(hX:C.x[i]? =some X)(D:Does k g i Y)(b:BN (S+1) 14 Y)(x:XI k i Y){net:List RM}(hn:∀m∈net,m∈C.net):∃g',GLe g g'/\CInv k g' (S+1) (Qg8 C i Y net):=by
 obtain⟨g',B,I,si⟩:=D
 have hik:=si.ni.ik
 refine⟨g',B.toGLe,h.k1,h.k7,I,by show(C.x.set i (Qae Y)).length=k;rw[List.length_set];exact h.len,fun j Z hZ=> ?_,fun m hm=> ?_,by show((net++Y.out).take 512).length<=512;rw[List.length_take];exact Nat.min_le_left _ _⟩
 ·have hZ:(C.x.set i (Qae Y))[j]? =some Z:=hZ
  by_cases e:j=i
  ·subst e
   rw[List.getElem?_set_self (by rw[h.len];exact hik)] at hZ
   injection hZ with hZ
   subst hZ
   exact⟨si.ni.like rfl rfl rfl rfl rfl rfl (.inl rfl) rfl rfl rfl,⟨b.el,b.be,b.i,b.t,b.vt,b.v,b.h,b.s,b.q,b.c,b.nx,b.mt,b.l,b.ld,⟨Int.le_refl _,(by decide:(0:Int)<=1025)⟩,Nat.le_refl _,fun m hm=>by cases hm⟩,x.clean,rfl,rfl,rfl⟩
  ·rw[List.getElem?_set_ne (fun x=>e x.symm)] at hZ
   have c:=h.node j Z hZ
   exact⟨c.ni.other h.gi B e,c.bn.up (Nat.le_succ _) (Nat.le_refl _),c.xi,c.out,c.hard,c.from_⟩
 ·rcases List.mem_append.1 (List.mem_of_mem_take hm) with hm|hm
  ·have:=h.net m (hn m hm)
   exact⟨this.1.grow h.gi B.toGLe,this.2⟩
  ·exact⟨si.out m hm,b.om m hm,(x.out m hm).1⟩
theorem CN.si(c:CN k g S i X):SI k g i X:=⟨c.ni,by rw[c.out];intro m hm;cases hm⟩
theorem CN.m0(c:CN k g S i X):(∀t,0<=X.matc t)/\(∀t,t<k->t≠i->X.role=3->1<=X.next t):=
 ⟨fun t=>(c.bn.mt t).1,fun t h1 h2 h3=>((c.ni.lead h3).nx t h1 h2).1⟩
theorem CInv.up(h:CInv k g S C):CInv k g (S+1) C:=
 ⟨h.k1,h.k7,h.gi,h.len,fun i X hX=>by have c:=h.node i X hX;exact⟨c.ni,c.bn.up (Nat.le_succ _) (Nat.le_refl _),c.xi,c.out,c.hard,c.from_⟩,h.net,h.cap⟩
theorem CInv.tick(h:CInv k g S C)(i:Nat)(d:Int):∃g',GLe g g'/\CInv k g' (S+1) (Qal C i d):=by
 unfold Qal
 split
 ·exact⟨g,GLe.refl g,h.up⟩
 ·rename_i X hX
  have c:=h.node i X hX
  exact h.put hX (Qjt h.gi c.si) (QmE c.bn) (Qj2 c.xi) fun m hm=>hm
theorem CInv.pro(h:CInv k g S C)(i:Nat)(d:ByteArray)(hs:d.size<=100):∃g',GLe g g'/\CInv k g' (S+1) (Qe9 C i d):=by
 unfold Qe9
 split
 ·exact⟨g,GLe.refl g,h.up⟩
 ·rename_i X hX
  have c:=h.node i X hX
  exact h.put hX (Qfl h.gi c.si hs) ((QfW c.bn).up (Nat.le_succ _) (Nat.le_refl _)) (Qj3 c.xi) fun m hm=>hm
theorem CInv.del(h:CInv k g S C):∃g',GLe g g'/\CInv k g' (S+1) (QaX C):=by
 unfold QaX
 split
 ·exact⟨g,GLe.refl g,h.up⟩
 ·rename_i m r hnet
  have hmm:m∈C.net:=by rw[hnet];exact List.mem_cons_self ..
  have hr:∀x∈r,x∈C.net:=fun x hx=>by rw[hnet];exact List.mem_cons_of_mem _ hx
  obtain⟨w1,w2,w3⟩:=h.net m hmm
  obtain⟨X,hX⟩:=h.get (i:=m.to.toNat) (by have:=w3.t;omega)
  rw[hX]
  have c:=h.node _ X hX
  exact h.put hX (Qju h.gi c.si w1) ((QhA c.bn w2 c.ni.c1).up (Nat.le_succ _) (Nat.le_refl _)) (Qiz c.xi w3 (by have:=w3.t;omega) c.m0.1 c.m0.2) hr
theorem QmC(h:CInv k g S C){r:List RM}(hn:C.net=m::r):∃X,C.x[m.to.toNat]? =some X/\QaX C=Qg8 C m.to.toNat (Qaa X m) r:=by
 have hmm:m∈C.net:=by rw[hn];exact List.mem_cons_self ..
 obtain⟨X,hX⟩:=h.get (i:=m.to.toNat) (by have:=(h.net m hmm).2.2.t;omega)
 refine⟨X,hX, ?_⟩
 unfold QaX
 rw[hn]
 simp only[hX]
end
structure Rel(G:GS)(C:CS):Prop where
 net:G.net=C.net
 x:G.l.map (·.node)=C.x.map some
theorem rel_comes{G:GS}{C:CS}(h:Rel G C){i:Nat}{q:GN}{Y:RN}{e:Int}(hw:(wrM q.b (Qav Y)).2=true):Rel (Qa7 G i q Y e).1 (Qg8 C i Y G.net):=by
 unfold Qa7
 rw[if_pos hw]
 refine⟨rfl, ?_⟩
 show(G.l.set i _).map (·.node)=(C.x.set i (Qae Y)).map some
 rw[List.map_set,List.map_set,h.x]
theorem GInv.cinv{k:Nat}{g:GH}{S:Nat}{G:GS}(h:GInv k g S G)(x:GXI k G)(up:∀q∈G.l,q.node≠none):∃C,Rel G C/\CInv k g S C:=by
 have key:∃xs:List RN,G.l.map (·.node)=xs.map some:=by
  refine⟨G.l.map fun q=>q.node.getD (Ql9 0 0 0 0 0 0 []), ?_⟩
  rw[List.map_map]
  refine List.map_congr_left fun q hq=> ?_
  cases hn:q.node with
  |none=>exact absurd hn (up q hq)
  |some X=>simp[Function.comp,hn]
 obtain⟨xs,hxs⟩:=key
 refine⟨⟨xs,G.net⟩,⟨rfl,hxs⟩,h.k1,h.k7,h.gi, ?_,fun i X hX=> ?_,fun m hm=>⟨(h.net m hm).1,(h.net m hm).2,x.net m hm⟩,h.cap⟩
 ·have:=congrArg List.length hxs
  rw[List.length_map,List.length_map] at this
  show xs.length=k
  rw[<-this];exact h.len
 ·have hX:xs[i]? =some X:=hX
  have:=congrArg (·[i]?) hxs
  simp only[List.getElem?_map,hX] at this
  cases hq:G.l[i]? with
  |none=>rw[hq] at this;cases this
  |some q=>
   rw[hq] at this
   injection this with hn
   have u:=(h.seat i q hq).up X hn
   exact⟨u.ni,u.bn,x.node i q X hq hn,u.out,u.hard,u.from_⟩
end
section
def itW:List It->Nat
 | []=>0
 | .A _::r=>2+itW r
 | .Y _::r=>1+itW r
 | .N::r=>1+itW r
 | .S::r=>2+itW r
theorem QdN:∀a b:List It,itW (a++b)=itW a+itW b
 | [],b=>(Nat.zero_add _).symm
 | .A _::r,b=>by show 2+itW (r++b)=2+itW r+itW b;rw[QdN r b];omega
 | .Y _::r,b=>by show 1+itW (r++b)=1+itW r+itW b;rw[QdN r b];omega
 | .N::r,b=>by show 1+itW (r++b)=1+itW r+itW b;rw[QdN r b];omega
 | .S::r,b=>by show 2+itW (r++b)=2+itW r+itW b;rw[QdN r b];omega
theorem itW_br{l:Nat}:∀(its:List It) (h:Nat),itW its<=brW l h its
 | [],_=>Nat.le_refl _
 | .A _::r,h=>by have:=itW_br (l:=l) r h;show 2+_<=2+_;omega
 | .Y i::r,h=>by have:=itW_br (l:=l) r (max h i);show 1+_<=_+_;split<;>omega
 | .N::r,h=>by have:=itW_br (l:=l) r h;show 1+_<=3+_;omega
 | .S::r,h=>by have:=itW_br (l:=l) r h;show 2+_<=2+_;omega
theorem Qip{br:Bool}{l c hv:Nat}{its:List It}:itW its<=pW br l c hv its:=by
 have h1:=itW_br (l:=l) its hv
 cases br
 ·exact Nat.le_trans h1 pW_br
 ·exact h1
def xP(br:Bool)(l c hv:Nat)(its:List It):Nat:=pW br l c hv its -itW its
theorem xP_le{br br':Bool}{l c c' hv hv':Nat}{its its':List It}(h:pW br' l c' hv' its'+itW its<=pW br l c hv its+itW its'):xP br' l c' hv' its'<=xP br l c hv its:=by
 unfold xP
 have:=Qip (br:=br) (l:=l) (c:=c) (hv:=hv) (its:=its)
 omega
def Desc:List It->Prop
 | []=>True
 | .A a::r=>(∀b,It.A b∈r->b<=a)/\Desc r
 | .Y _::r=>Desc r
 | .N::r=>Desc r
 | .S::r=>Desc r
structure PrOK(nx:Nat)(its:List It):Prop where
 d:Desc its
 a:∀a,It.A a∈its->nx -1<=a
 y:∀i,It.Y i∈its->1<=i/\nx -1<=i/\∀a,It.A a∈its->a<=i
def POK(hv nx:Nat)(its:List It):Prop:=if hv=0 then PrOK nx its else nx=hv+1/\Low hv its
theorem Desc.app{x:It}:∀{its:List It},Desc its->(∀b,x= .A b->∀a,It.A a∈its->b<=a)->Desc (its++ [x])
 | [],_,_=>by cases x<;>first|exact trivial|exact⟨fun b hb=>(by cases hb),trivial⟩
 | .A a::r,h,hx=>by
  refine⟨fun b hb=> ?_,Desc.app h.2 fun b hb a ha=>hx b hb a (List.mem_cons_of_mem _ ha)⟩
  rcases List.mem_append.1 hb with e|e
  ·exact h.1 b e
  ·rw[List.mem_singleton] at e
   exact hx b e.symm a (List.mem_cons_self ..)
 | .Y _::r,h,hx=>Desc.app (its:=r) h fun b hb a ha=>hx b hb a (List.mem_cons_of_mem _ ha)
 | .N::r,h,hx=>Desc.app (its:=r) h fun b hb a ha=>hx b hb a (List.mem_cons_of_mem _ ha)
 | .S::r,h,hx=>Desc.app (its:=r) h fun b hb a ha=>hx b hb a (List.mem_cons_of_mem _ ha)
theorem Desc.tail{x:It}{r:List It}(h:Desc (x::r)):Desc r:=by
 cases x
 ·exact h.2
 ·exact h
 ·exact h
 ·exact h
theorem PrOK.tail{nx:Nat}{x:It}{r:List It}(h:PrOK nx (x::r)):PrOK nx r:=
 ⟨h.d.tail,fun a ha=>h.a a (List.mem_cons_of_mem _ ha),fun i hi=>⟨(h.y i (List.mem_cons_of_mem _ hi)).1,(h.y i (List.mem_cons_of_mem _ hi)).2.1,fun a ha=>(h.y i (List.mem_cons_of_mem _ hi)).2.2 a (List.mem_cons_of_mem _ ha)⟩⟩
theorem PrOK.less{nx nx':Nat}{its:List It}(h:PrOK nx its)(hn:nx'<=nx):PrOK nx' its:=
 ⟨h.d,fun a ha=>by have:=h.a a ha;omega,fun i hi=>by have:=h.y i hi;exact⟨this.1,by omega,this.2.2⟩⟩
theorem PrOK.send{nx:Nat}{its:List It}(h:PrOK nx its):PrOK nx (its++ [.A (nx -1)]):=by
 refine⟨h.d.app fun b hb a ha=>(by injection hb with hb;have:=h.a a ha;omega),fun a ha=> ?_,fun i hi=> ?_⟩
 ·rcases List.mem_append.1 ha with e|e
  ·exact h.a a e
  ·rw[List.mem_singleton] at e;injection e with e;omega
 ·rcases List.mem_append.1 hi with e|e
  ·have:=h.y i e
   refine⟨this.1,this.2.1,fun a ha=> ?_⟩
   rcases List.mem_append.1 ha with e2|e2
   ·exact this.2.2 a e2
   ·rw[List.mem_singleton] at e2;injection e2 with e2;omega
  ·rw[List.mem_singleton] at e;cases e
theorem PrOK.plain{nx:Nat}{its:List It}(h:PrOK nx its){x:It}(hx:x= .N\/x= .S):PrOK nx (its++ [x]):=by
 refine⟨h.d.app fun b hb=>(by rcases hx with e|e<;>rw[e] at hb<;>cases hb),fun a ha=> ?_,fun i hi=> ?_⟩
 ·rcases List.mem_append.1 ha with e|e
  ·exact h.a a e
  ·rw[List.mem_singleton] at e
   rcases hx with y|y<;>rw[y] at e<;>cases e
 ·rcases List.mem_append.1 hi with e|e
  ·have:=h.y i e
   refine⟨this.1,this.2.1,fun a ha=> ?_⟩
   rcases List.mem_append.1 ha with e2|e2
   ·exact this.2.2 a e2
   ·rw[List.mem_singleton] at e2
    rcases hx with y|y<;>rw[y] at e2<;>cases e2
  ·rw[List.mem_singleton] at e
   rcases hx with y|y<;>rw[y] at e<;>cases e
theorem PrOK.yes{nx a i:Nat}{r:List It}(h:PrOK nx (.A a::r))(hi:1<=i)(ha:a<=i):PrOK nx (r++ [.Y i]):=by
 have t:=h.tail
 have h1:=h.a a (List.mem_cons_self ..)
 refine⟨t.d.app fun b hb=>(by cases hb),fun b hb=> ?_,fun j hj=> ?_⟩
 ·rcases List.mem_append.1 hb with e|e
  ·exact t.a b e
  ·rw[List.mem_singleton] at e;cases e
 ·have hA:∀b,It.A b∈r++ [.Y i]->It.A b∈r:=fun b hb=>by
   rcases List.mem_append.1 hb with e|e
   ·exact e
   ·rw[List.mem_singleton] at e;cases e
  rcases List.mem_append.1 hj with e|e
  ·have:=t.y j e
   exact⟨this.1,this.2.1,fun b hb=>this.2.2 b (hA b hb)⟩
  ·rw[List.mem_singleton] at e;injection e with e
   subst e
   exact⟨hi,by omega,fun b hb=>Nat.le_trans (h.d.1 b (hA b hb)) ha⟩
theorem Low.app{hv:Nat}{its:List It}(h:Low hv its){x:It}(hx:∀b,x= .A b->b<=hv):Low hv (its++ [x]):=fun a ha=>by
 rcases List.mem_append.1 ha with e|e
 ·exact h a e
 ·rw[List.mem_singleton] at e;exact hx a e.symm
theorem Low.tail{hv:Nat}{x:It}{r:List It}(h:Low hv (x::r)):Low hv r:=fun a ha=>h a (List.mem_cons_of_mem _ ha)
theorem Low.up{hv hv':Nat}{its:List It}(h:Low hv its)(hh:hv<=hv'):Low hv' its:=fun a ha=>Nat.le_trans (h a ha) hh
inductive FStep(gone:Bool)(l hv c c':Nat)(its its':List It):Prop
 |stay:(gone=true\/c'=c\/hv=0)->its'=its->FStep gone l hv c c' its its'
 |lose (x:It) (r:List It):gone=true->its=x::r->(x= .S\/∃a,x= .A a)->its'=r->FStep gone l hv c c' its its'
 |stray (r:List It):gone=false->(c'=c\/hv=0)->its= .S::r->its'=r\/its'=r++ [.N]->FStep gone l hv c c' its its'
 |no (a:Nat) (r:List It):gone=false->hv<a->its= .A a::r->its'=r++ [.N]->FStep gone l hv c c' its its'
 |yes0 (a i:Nat) (r:List It):gone=false->hv=0->1<=i->a<=i->its= .A a::r->its'=r++ [.Y i]->FStep gone l hv c c' its its'
 |full (a:Nat) (r:List It):gone=false->0<hv->c<=a->a<=l->c<=c'->c'<=max c (min (a+8) l)->its= .A a::r->its'=r++ [.Y (min (a+8) l)]->FStep gone l hv c c' its its'
 |short (a:Nat) (r:List It):gone=false->0<hv->a<c->c<=l->c'=c->its= .A a::r->its'=r++ [.Y c]->FStep gone l hv c c' its its'
inductive FS(gone:Bool)(l hv c c':Nat)(hd nw:List It):Prop
 |stay:(gone=true\/c'=c\/hv=0)->hd= []->nw= []->FS gone l hv c c' hd nw
 |lose (x:It):gone=true->hd= [x]->(x= .S\/∃a,x= .A a)->nw= []->FS gone l hv c c' hd nw
 |stray:gone=false->(c'=c\/hv=0)->hd= [.S]->nw= []\/nw= [.N]->FS gone l hv c c' hd nw
 |no (a:Nat):gone=false->hv<a->hd= [.A a]->nw= [.N]->FS gone l hv c c' hd nw
 |yes0 (a i:Nat):gone=false->hv=0->1<=i->a<=i->hd= [.A a]->nw= [.Y i]->FS gone l hv c c' hd nw
 |full (a:Nat):gone=false->0<hv->c<=a->a<=l->c<=c'->c'<=max c (min (a+8) l)->hd= [.A a]->nw= [.Y (min (a+8) l)]->FS gone l hv c c' hd nw
 |short (a:Nat):gone=false->0<hv->a<c->c<=l->c'=c->hd= [.A a]->nw= [.Y c]->FS gone l hv c c' hd nw
theorem FS.step{gone:Bool}{l hv c c':Nat}{hd nw:List It}(s:FS gone l hv c c' hd nw)(R:List It):FStep gone l hv c c' (hd++R) (R++nw):=by
 cases s with
 |stay h1 h2 h3=>rw[h2,h3];exact .stay h1 (List.append_nil _)
 |lose x h1 h2 h3 h4=>rw[h2,h4];exact .lose x R h1 rfl h3 (List.append_nil _)
 |stray h1 h2 h3 h4=>
  rw[h3]
  rcases h4 with h4|h4
  ·rw[h4];exact .stray R h1 h2 rfl (.inl (List.append_nil _))
  ·rw[h4];exact .stray R h1 h2 rfl (.inr rfl)
 |no a h1 h2 h3 h4=>rw[h3,h4];exact .no a R h1 h2 rfl rfl
 |yes0 a i h1 h2 h3 h4 h5 h6=>rw[h5,h6];exact .yes0 a i R h1 h2 h3 h4 rfl rfl
 |full a h1 h2 h3 h4 h5 h6 h7 h8=>rw[h7,h8];exact .full a R h1 h2 h3 h4 h5 h6 rfl rfl
 |short a h1 h2 h3 h4 h5 h6 h7=>rw[h6,h7];exact .short a R h1 h2 h3 h4 h5 rfl rfl
theorem LkW_S{l c hv:Nat}{r:List It}:LkW l c hv (.S::r)=Mw l+4+LkW l c hv r:=rfl
theorem pW_t{l c hv:Nat}{its:List It}:pW true l c hv its=brW l hv its:=rfl
theorem pW_0{l c hv:Nat}{its:List It}(h:hv=0):pW false l c hv its=prW l its:=by
 unfold pW
 rw[if_pos h];rfl
theorem pW_1{l c hv:Nat}{its:List It}(h:hv≠0):pW false l c hv its=LkW l c hv its:=by
 unfold pW
 rw[if_neg h];rfl
theorem FStep.less{br br' gone:Bool}{l c c' hv nx:Nat}{its its':List It}(s:FStep gone l hv c c' its its')(hb:br=true->br'=true)(hg:gone=br')(ok:br'=false->POK hv nx its):xP br' l c' hv its'<=xP br l c hv its:=by
 subst hg
 have M19:19<=Mw l:=by unfold Mw;omega
 have brle:∀x:List It,brW l hv x<=pW br l c hv x:=fun x=>by
  cases br
  ·exact pW_br
  ·exact Nat.le_refl _
 have fal:gone=false->br=false:=fun e=>by
  cases br
  ·rfl
  ·rw[hb rfl] at e;cases e
 refine xP_le ?_
 cases s with
 |stay h e=>
  rw[e]
  refine Nat.add_le_add ?_ (Nat.le_refl _)
  cases gone with
  |true=>exact brle _
  |false=>
   rw[fal rfl]
   rcases h with h|h|h
   ·cases h
   ·rw[h];exact Nat.le_refl _
   ·rw[pW_0 h,pW_0 h];exact Nat.le_refl _
 |lose x r hg e hx e'=>
  rw[e,e',hg,pW_t]
  have:=brle (x::r)
  rcases hx with rfl|⟨a,rfl⟩
  ·change brW l hv r+(2+itW r)<=_
   change 2+brW l hv r<=_ at this
   omega
  ·change brW l hv r+(2+itW r)<=_
   change 2+brW l hv r<=_ at this
   omega
 |stray r hg hc e e'=>
  rw[e,hg,fal hg]
  have hcc:∀x:List It,pW false l c' hv x=pW false l c hv x:=fun x=>by
   rcases hc with h|h
   ·rw[h]
   ·rw[pW_0 h,pW_0 h]
  rw[hcc]
  by_cases h0:hv=0
  ·rw[pW_0 h0,pW_0 h0]
   rcases e' with e'|e'
   ·rw[e']
    show prW l r+(2+itW r)<=Mw l+4+prW l r+itW r
    omega
   ·rw[e',Qgl,QdN]
    show prW l r+(Mw l+2+0)+(2+itW r)<=Mw l+4+prW l r+(itW r+(1+0))
    omega
  ·rw[pW_1 h0,pW_1 h0]
   rcases e' with e'|e'
   ·rw[e',LkW_S]
    show LkW l c hv r+(2+itW r)<=_
    omega
   ·have:=lk_stray (l:=l) (c:=c) (hv:=hv) (r:=r)
    rw[e',QdN]
    show _+(2+itW r)<=_+(itW r+(1+0))
    omega
 |no a r hg ha e e'=>
  have h0:hv=0:=Decidable.byContradiction fun h0=>by
   have ok:=ok hg
   unfold POK at ok
   rw[if_neg h0,e] at ok
   have:=ok.2 a (List.mem_cons_self ..)
   omega
  rw[e,e',hg,fal hg,pW_0 h0,pW_0 h0,Qgl,QdN]
  show prW l r+(Mw l+2+0)+(2+itW r)<=(if a=0 then Mw l+1 else Mw l+3)+prW l r+(itW r+(1+0))
  rw[if_neg (by omega)]
  omega
 |yes0 a i r hg h0 hi ha e e'=>
  rw[e,e',hg,fal hg,pW_0 h0,pW_0 h0,Qgl,QdN]
  show prW l r+(Mw l+0)+(2+itW r)<=(if a=0 then Mw l+1 else Mw l+3)+prW l r+(itW r+(1+0))
  split<;>omega
 |full a r hg h0 hc hal h1 h2 e e'=>
  have ok:=ok hg
  unfold POK at ok
  rw[if_neg (by omega),e] at ok
  have:=lk_full ok.2 hc hal h1 h2
  rw[e,e',hg,fal hg,pW_1 (by omega),pW_1 (by omega),QdN]
  show _+(2+itW r)<=_+(itW r+(1+0))
  omega
 |short a r hg h0 hc hcl h1 e e'=>
  have:=lk_short (hv:=hv) (r:=r) hc hcl
  rw[e,e',hg,fal hg,h1,pW_1 (by omega),pW_1 (by omega),QdN]
  show _+(2+itW r)<=_+(itW r+(1+0))
  omega
theorem FStep.ok{gone:Bool}{l c c' hv nx:Nat}{its its':List It}(s:FStep gone l hv c c' its its')(ok:POK hv nx its)(hl:0<hv\/1<=l):POK hv nx its':=by
 by_cases h0:hv=0
 ·unfold POK at ok⊢
  rw[if_pos h0] at ok⊢
  cases s with
  |stay h e=>rw[e];exact ok
  |lose x r hg e hx e'=>rw[e'];rw[e] at ok;exact ok.tail
  |stray r hg hc e e'=>
   rw[e] at ok
   rcases e' with e'|e'
   ·rw[e'];exact ok.tail
   ·rw[e'];exact ok.tail.plain (.inl rfl)
  |no a r hg ha e e'=>rw[e'];rw[e] at ok;exact ok.tail.plain (.inl rfl)
  |yes0 a i r hg h1 hi ha e e'=>rw[e'];rw[e] at ok;exact ok.yes hi ha
  |full a r hg h1=>omega
  |short a r hg h1=>omega
 ·unfold POK at ok⊢
  rw[if_neg h0] at ok⊢
  refine⟨ok.1, ?_⟩
  have ok:=ok.2
  cases s with
  |stay h e=>rw[e];exact ok
  |lose x r hg e hx e'=>rw[e'];rw[e] at ok;exact ok.tail
  |stray r hg hc e e'=>
   rw[e] at ok
   rcases e' with e'|e'
   ·rw[e'];exact ok.tail
   ·rw[e'];exact ok.tail.app fun b hb=>by cases hb
  |no a r hg ha e e'=>rw[e] at ok;have:=ok a (List.mem_cons_self ..);omega
  |yes0 a i r hg h1 hi ha e e'=>exact absurd h1 h0
  |full a r hg h1 hc hal k1 k2 e e'=>rw[e'];rw[e] at ok;exact ok.tail.app fun b hb=>by cases hb
  |short a r hg h1 hc hcl k1 e e'=>rw[e'];rw[e] at ok;exact ok.tail.app fun b hb=>by cases hb
theorem xP_send{br:Bool}{l c hv nx:Nat}{its:List It}(ok:br=false->POK hv nx its):xP br l c hv (its++ [.A (nx -1)])+2<=xP br l c hv its+(Mw l+4):=by
 have M19:19<=Mw l:=by unfold Mw;omega
 have h1:=Qip (br:=br) (l:=l) (c:=c) (hv:=hv) (its:=its)
 have h2:=Qip (br:=br) (l:=l) (c:=c) (hv:=hv) (its:=its++ [.A (nx -1)])
 have hi:itW (its++ [.A (nx -1)])=itW its+2:=by rw[QdN];rfl
 have key:pW br l c hv (its++ [.A (nx -1)])<=pW br l c hv its+(Mw l+4):=by
  cases br with
  |true=>
   rw[pW_t,pW_t,QiK]
   show brW l hv its+(2+0)<=_
   omega
  |false=>
   have ok:=ok rfl
   by_cases h0:hv=0
   ·rw[pW_0 h0,pW_0 h0,Qgl]
    show prW l its+((if nx -1=0 then Mw l+1 else Mw l+3)+0)<=_
    split<;>omega
   ·unfold POK at ok
    rw[if_neg h0] at ok
    rw[pW_1 h0,pW_1 h0,ok.1,Nat.add_sub_cancel]
    have:=lk_push_le (l:=l) (c:=c) (hv:=hv) (its:=its)
    omega
 unfold xP
 omega
theorem xP_yes{br:Bool}{l c hv i:Nat}{r:List It}(hi:br=false->hv=0->1<=i):xP br l c (max hv i) r<=xP br l c hv (.Y i::r)/\(max hv i<l->xP br l c (max hv i) (r++ [.A (max hv i)])+2<=xP br l c hv (.Y i::r)):=by
 have M19:19<=Mw l:=by unfold Mw;omega
 have h1:=Qip (br:=br) (l:=l) (c:=c) (hv:=hv) (its:= .Y i::r)
 have h2:=Qip (br:=br) (l:=l) (c:=c) (hv:=max hv i) (its:=r)
 have h3:=Qip (br:=br) (l:=l) (c:=c) (hv:=max hv i) (its:=r++ [.A (max hv i)])
 have hi1:itW (r++ [.A (max hv i)])=itW r+2:=by rw[QdN];rfl
 have hi2:itW (.Y i::r)=1+itW r:=rfl
 have key:pW br l c (max hv i) r+1<=pW br l c hv (.Y i::r)/\(max hv i<l->pW br l c (max hv i) (r++ [.A (max hv i)])+1<=pW br l c hv (.Y i::r)):=by
  cases br with
  |true=>
   rw[pW_t,pW_t,pW_t,QiK]
   show brW l (max hv i) r+1<=(if l<=max hv i then 1 else 3)+brW l (max hv i) r/\(_->brW l (max hv i) r+(2+0)+1<=(if l<=max hv i then 1 else 3)+brW l (max hv i) r)
   refine⟨by split<;>omega,fun h=> ?_⟩
   rw[if_neg (by omega)];omega
  |false=>
   by_cases h0:hv=0
   ·have hi:=hi rfl h0
    rw[pW_0 h0,pW_1 (show max hv i≠0 by omega),pW_1 (show max hv i≠0 by omega)]
    have hb:=LkW_bound (l:=l) (c:=c) (hv:=max hv i) (its:=r)
    refine⟨?_,fun _=> ?_⟩
    ·show _<=Mw l+prW l r
     omega
    ·have hp:=lk_push (l:=l) (c:=c) (hv:=max hv i) (its:=r)
     have hw:=wA_le (l:=l) (c:=c) (K:=max (kOf (max hv i) r) c) (a:=max hv i) (Qja c l (vsO c (max hv i) r))
     show _<=Mw l+prW l r
     omega
   ·rw[pW_1 h0,pW_1 (show max hv i≠0 by omega),pW_1 (show max hv i≠0 by omega)]
    exact⟨lk_yes,fun h=>lk_yes_go h⟩
 unfold xP
 omega
theorem xP_no{br:Bool}{l c hv nx nx':Nat}{r:List It}(hcl:br=false->0<hv->c<=l)(h1:hv+1<=nx')(h2:nx'+1<=nx\/nx'=hv+1)(h3:nx'<=nx)(hlk:br=false->hv≠0->nx'=hv+1):
  xP br l c hv (r++ [.A (nx' -1)])+2+2*(nx' -hv -1)<=xP br l c hv (.N::r)+2*(nx -hv -1)/\xP br l c hv r<=xP br l c hv (.N::r):=by
 have M19:19<=Mw l:=by unfold Mw;omega
 have k1:=Qip (br:=br) (l:=l) (c:=c) (hv:=hv) (its:= .N::r)
 have k2:=Qip (br:=br) (l:=l) (c:=c) (hv:=hv) (its:=r)
 have k3:=Qip (br:=br) (l:=l) (c:=c) (hv:=hv) (its:=r++ [.A (nx' -1)])
 have hi1:itW (r++ [.A (nx' -1)])=itW r+2:=by rw[QdN];rfl
 have hi2:itW (.N::r)=1+itW r:=rfl
 have key:pW br l c hv (r++ [.A (nx' -1)])+1+2*(nx' -hv -1)<=pW br l c hv (.N::r)+2*(nx -hv -1)/\pW br l c hv r+1<=pW br l c hv (.N::r):=by
  cases br with
  |true=>
   rw[pW_t,pW_t,pW_t,QiK]
   show brW l hv r+(2+0)+1+_<=3+brW l hv r+_/\_<=3+brW l hv r
   omega
  |false=>
   by_cases h0:hv=0
   ·rw[pW_0 h0,pW_0 h0,pW_0 h0,Qgl]
    show prW l r+((if nx' -1=0 then Mw l+1 else Mw l+3)+0)+1+_<=Mw l+2+prW l r+_/\_<=Mw l+2+prW l r
    refine⟨?_,by omega⟩
    split<;>omega
   ·rw[pW_1 h0,pW_1 h0,pW_1 h0,hlk rfl h0,Nat.add_sub_cancel]
    have a1:=lk_no_go (hv:=hv) (r:=r) (hcl rfl (by omega))
    have a2:=lk_no (l:=l) (c:=c) (hv:=hv) (r:=r)
    omega
 unfold xP
 omega
theorem xP_bound{br:Bool}{l c hv:Nat}{its:List It}:xP br l c hv its+itW its<=(Mw l+4)*its.length:=by
 have h1:=Qip (br:=br) (l:=l) (c:=c) (hv:=hv) (its:=its)
 have h2:=pW_pr (br:=br) (l:=l) (c:=c) (hv:=hv) (its:=its)
 have h3:=Qhj (l:=l) its
 unfold xP
 omega
end
section
def QaD(i f:Nat)(t:Int)(m:RM):Option It:=
 if m.kind=5/\m.from_=i/\m.to=f then(if m.term=t then some (.A m.index.toNat) else if m.term<t then some .S else none)
 else if m.kind=6/\m.from_=f/\m.to=i/\m.term=t then(if m.yes=true then some (.Y m.index.toNat) else some .N)
 else none
def items(net:List RM)(i f:Nat)(t:Int):List It:=net.filterMap (QaD i f t)
def nd(C:CS)(i:Nat):RN:=C.x.getD i (Ql9 0 0 0 0 0 0 [])
theorem QaW(a b:List RM)(i f:Nat)(t:Int):items (a++b) i f t=items a i f t++items b i f t:=List.filterMap_append ..
theorem Qcf{l:List RM}{i f:Nat}{t:Int}(h:∀m∈l,QaD i f t m=none):items l i f t= []:=by
 unfold items
 rw[List.filterMap_eq_nil_iff];exact h
theorem QbM{m:RM}{l:List RM}{i f:Nat}{t:Int}(h:QaD i f t m=none):items (m::l) i f t=items l i f t:=List.filterMap_cons_none h
theorem Qbo{m:RM}{l:List RM}{i f:Nat}{t:Int}{x:It}(h:QaD i f t m=some x):items (m::l) i f t=x::items l i f t:=List.filterMap_cons_some h
theorem item_to{i f:Nat}{t:Int}{m:RM}(hto:m.to=f)(hif:f≠i)(h:m.kind≠5\/m.from_≠i):QaD i f t m=none:=by
 unfold QaD
 rw[if_neg fun x=>h.elim (fun y=>y x.1) fun y=>y x.2.1,if_neg fun x=>by have:=x.2.2.1;omega]
theorem Qea{i f:Nat}{t:Int}{m:RM}(hf:m.from_=f)(hif:f≠i)(h:m.kind≠6\/m.to≠i\/m.term≠t):QaD i f t m=none:=by
 unfold QaD
 rw[if_neg fun x=>by have:=x.2.1;omega,if_neg fun x=>h.elim (fun y=>y x.1) fun y=>y.elim (fun z=>z x.2.2.1) fun z=>z x.2.2.2]
theorem Qhp{i f:Nat}{t:Int}{m:RM}(h:m.kind=6)(hf:m.from_=f)(ht:m.to=i)(hm:m.term=t):QaD i f t m=some (if m.yes=true then .Y m.index.toNat else .N):=by
 unfold QaD
 rw[if_neg fun x=>by have:=x.1;omega,if_pos ⟨h,hf,ht,hm⟩]
 split<;>rfl
theorem QbQ(m:RM)(l:List RM)(i f:Nat)(t:Int):items (m::l) i f t=(QaD i f t m).toList++items l i f t:=by
 cases h:QaD i f t m with
 |none=>rw[QbM h];rfl
 |some x=>rw[Qbo h];rfl
theorem QnS{i f:Nat}{t:Int}{o:RM}(h:o.kind=6)(hf:o.from_=f)(ht:o.to=i)(hm:o.term=t):items [o] i f t= [if o.yes=true then .Y o.index.toNat else .N]:=by
 rw[Qbo (Qhp h hf ht hm)];rfl
section
variable {k:Nat}{g:GH}{i f S:Nat}{X Y F L:RN}{m:RM}{C:CS}
theorem Qcu(I:GI k g)(w:MI k g m/\BM m/\WM k m)(hid:X.id=m.to)(hn:X.n=k):QaR X m:=by
 obtain⟨w1,w2,w3⟩:=w
 refine⟨hid.symm,by rw[hid];exact w3.ne,w3.f.1,by rw[hn];exact w3.f.2,w2.k.1,w2.k.2,w3.tm.1,w3.tm.2,w2.e,fun e he=> ?_⟩
 rcases w3.en with h5|h5
 ·obtain⟨a,_,_,_,_,q,_,_⟩:=w1.2.2.1 h5
  have:=(I.L _ a).ter e (List.mem_of_mem_drop (q.subset he))
  have:=w2.d e he
  unfold oddE
  omega
 ·rw[h5] at he;cases he
theorem Qbu(h:m.term<=X.term):Qab X m=X:=by
 unfold Qab
 rw[if_neg (by omega)]
theorem QbN(h:X.term<=m.term):(Qab X m).term=m.term:=by
 unfold Qab
 split
 ·unfold Qai;rw[if_pos (by assumption)]
 ·omega
theorem st1(hc:QaR X m)(h:m.kind=1):Qaa X m=QiB X m:=by
 unfold Qaa
 rw[if_neg (fun x=>x hc),if_pos h]
theorem st2(hc:QaR X m)(h:m.kind=2):Qaa X m=QaS X m:=by
 unfold Qaa
 rw[if_neg (fun x=>x hc),if_neg (by omega),if_pos h]
theorem Qi4(hc:QaR X m)(h:3<=m.kind)(ht:m.term<X.term):Qaa X m=if m.kind=5 then Qib X m.from_ false 0 else X:=by
 unfold Qaa
 rw[if_neg (fun x=>x hc),if_neg (by omega),if_neg (by omega),Qbu (by omega),if_pos ht]
theorem st3(hc:QaR X m)(h:m.kind=3)(ht:X.term<=m.term):Qaa X m=Qbg (Qab X m) m:=by
 unfold Qaa
 rw[if_neg (fun x=>x hc),if_neg (by omega),if_neg (by omega),if_neg (by rw[QbN ht];omega),if_pos h]
theorem st4(hc:QaR X m)(h:m.kind=4)(ht:X.term<=m.term):Qaa X m=Qar (Qab X m) m:=by
 unfold Qaa
 rw[if_neg (fun x=>x hc),if_neg (by omega),if_neg (by omega),if_neg (by rw[QbN ht];omega),if_neg (by omega),if_pos h]
theorem st5(hc:QaR X m)(h:m.kind=5)(ht:X.term<=m.term):Qaa X m=QaV (Qab X m) m:=by
 unfold Qaa
 rw[if_neg (fun x=>x hc),if_neg (by omega),if_neg (by omega),if_neg (by rw[QbN ht];omega),if_neg (by omega),if_neg (by omega),if_pos h]
theorem st6(hc:QaR X m)(h:m.kind=6)(ht:X.term<=m.term):Qaa X m=QaC (Qab X m) m:=by
 unfold Qaa
 rw[if_neg (fun x=>x hc),if_neg (by omega),if_neg (by omega),if_neg (by rw[QbN ht];omega),if_neg (by omega),if_neg (by omega),if_neg (by omega)]
theorem newer_up(ht:X.term<m.term):Qab X m={X with term:=m.term,vote:= -1,hard:=true,role:=0,leader:= -1}:=by
 unfold Qab Qai
 rw[if_pos ht,if_pos ht]
theorem Qbl(X:RN)(m:RM):(Qab X m).commit=X.commit/\(Qab X m).log=X.log/\(Qab X m).out=X.out/\(Qab X m).id=X.id/\(Qab X m).n=X.n/\(Qab X m).matc=X.matc/\(Qab X m).next=X.next:=by
 unfold Qab Qai
 split<;>(try split)<;>exact⟨rfl,rfl,rfl,rfl,rfl,rfl,rfl⟩
def No6(l:List RM):Prop:=∀o∈l,o.kind≠6
theorem Qkg{a b:List RM}(h1:No6 a)(h2:No6 b):No6 (a++b):=fun m hm=>(List.mem_append.1 hm).elim (h1 m) (h2 m)
theorem no6_map{l:List Nat}{F:Nat->RM}(h:∀t,(F t).kind≠6):No6 (l.map F):=fun m hm=>by
 obtain⟨t,_,rfl⟩:=List.mem_map.1 hm
 exact h t
theorem no6_toAll(h:No6 X.out):No6 (Qa4 X).out:=Qkg h (no6_map fun t=>(by decide:(5:Int)≠6))
theorem no6_agree(h:No6 X.out):No6 (Qaf X).out:=by
 unfold Qaf
 split
 ·exact h
 ·exact no6_toAll (X:={X with commit:=_}) h
theorem no6_add(h:No6 X.out){d:ByteArray}:No6 (Qc7 X d).1.out:=by
 unfold Qc7
 split
 ·exact h
 split
 ·exact h
 ·exact no6_agree (no6_toAll (X:=QaN {X with log:=X.log++ [⟨X.term,d⟩]} ((X.log.length:Int)+1)) h)
theorem no6_leads(h:No6 X.out):No6 (Qbh X).out:=by
 have:=no6_add (X:=Qay X) h (d:=⟨#[]⟩)
 unfold Qbh
 split
 ·unfold Qai;split<;>exact this
 ·exact this
theorem no6_stands(h:No6 X.out):No6 (QaU X).out:=by
 unfold QaU
 split
 ·exact no6_leads (X:=QbB X) h
 ·exact Qkg h (no6_map fun t=>(by decide:(3:Int)≠6))
theorem no6_step(hc:QaR X m)(h5:m.kind≠5)(ho:X.out= []):No6 (Qaa X m).out:=by
 have h0:No6 X.out:=by rw[ho];intro m hm;cases hm
 obtain⟨c1,c2,c3,c4,c5,c6,_⟩:=hc
 have hc:QaR X m:=⟨c1,c2,c3,c4,c5,c6,by assumption⟩
 by_cases k1:m.kind=1
 ·rw[st1 hc k1]
  exact Qkg h0 fun o ho=>by rw[List.mem_singleton] at ho;subst ho;exact(by decide:(2:Int)≠6)
 by_cases k2:m.kind=2
 ·rw[st2 hc k2]
  unfold QaS
  split
  ·unfold Qai;split<;>exact h0
  split
  ·split
   ·exact no6_stands (X:={X with votes:=_}) h0
   ·exact h0
  ·exact h0
 by_cases ht:m.term<X.term
 ·rw[Qi4 hc (by omega) ht,if_neg h5];exact h0
 have hz:No6 (Qab X m).out:=by rw[(Qbl X m).2.2.1];exact h0
 by_cases k3:m.kind=3
 ·rw[st3 hc k3 (by omega)]
  unfold Qbg
  refine Qkg ?_ fun o ho=>by rw[List.mem_singleton] at ho;subst ho;exact(by decide:(4:Int)≠6)
  split<;>exact hz
 by_cases k4:m.kind=4
 ·rw[st4 hc k4 (by omega)]
  unfold Qar
  split
  ·exact hz
  split
  ·exact no6_leads (X:={Qab X m with votes:=_}) hz
  ·exact hz
 rw[st6 hc (by omega) (by omega)]
 unfold QaC
 split
 ·exact hz
 split
 ·have hg:=no6_agree (X:=Qau (Qab X m) m.from_.toNat m.index) hz
  split
  ·exact Qkg hg fun o ho=>by rw[List.mem_singleton] at ho;subst ho;exact(by decide:(5:Int)≠6)
  ·exact hg
 split
 ·exact Qkg (a:=(Qcx (Qab X m) m.from_.toNat m.index).out) hz fun o ho=>by rw[List.mem_singleton] at ho;subst ho;exact(by decide:(5:Int)≠6)
 ·exact hz
theorem Qh2(X:RN):(Qbh X).term=X.term:=by
 have:(Qc7 (Qay X) ⟨#[]⟩).1.term=X.term:=by
  unfold Qc7
  split
  ·rfl
  split
  ·rfl
  ·exact(Qan _).1
 unfold Qbh
 split
 ·unfold Qai
  rw[if_neg (by omega)]
  exact this
 ·exact this
theorem Qh3(X:RN)(m:RM):(QaC X m).term=X.term:=by
 unfold QaC
 split
 ·rfl
 split
 ·split
  ·exact(Qan (Qau X m.from_.toNat m.index)).1
  ·exact(Qan (Qau X m.from_.toNat m.index)).1
 split<;>rfl
theorem QiL(X:RN)(m:RM):(QaV X m).term=X.term:=by
 unfold QaV
 split
 ·rfl
 split
 ·show(Qag X m).term=_;rw[Qaz]
 split
 ·show(Qag X m).term=_;rw[Qaz]
 ·show(QbD (Qag X m) m).term=_;rw[(Qcw _ m).2.2.2.1,Qaz]
theorem Qdn(hc:QaR X m):X.term<=(Qaa X m).term/\((Qaa X m).term=X.term\/(Qaa X m).term<=m.term):=by
 have c5:=hc.2.2.2.2.1
 have c6:=hc.2.2.2.2.2.1
 by_cases k1:m.kind=1
 ·rw[st1 hc k1];exact⟨Int.le_refl _,.inl rfl⟩
 by_cases k2:m.kind=2
 ·rw[st2 hc k2]
  unfold QaS
  split
  ·rename_i h
   unfold Qai
   rw[if_pos h.2]
   exact⟨by show X.term<=m.term;omega,.inr (Int.le_refl _)⟩
  split
  ·rename_i h
   split
   ·have:(QaU {X with votes:=X.votes|||2^m.from_.toNat}).term=X.term+1:=by
     unfold QaU
     split
     ·exact Qh2 _
     ·rfl
    rw[this]
    omega
   ·exact⟨Int.le_refl _,.inl rfl⟩
  ·exact⟨Int.le_refl _,.inl rfl⟩
 by_cases ht:m.term<X.term
 ·rw[Qi4 hc (by omega) ht]
  split<;>exact⟨Int.le_refl _,.inl rfl⟩
 have ht:X.term<=m.term:=by omega
 have key:(Qaa X m).term=m.term:=by
  have hz:=QbN ht
  by_cases k3:m.kind=3
  ·rw[st3 hc k3 ht]
   show(if Qbm (Qab X m) m then _ else Qab X m).term=_
   split<;>exact hz
  by_cases k4:m.kind=4
  ·rw[st4 hc k4 ht]
   unfold Qar
   split
   ·exact hz
   split
   ·rw[Qh2];exact hz
   ·exact hz
  by_cases k5:m.kind=5
  ·rw[st5 hc k5 ht,QiL];exact hz
  ·rw[st6 hc (by omega) ht,Qh3];exact hz
 rw[key]
 exact⟨ht,.inr (Int.le_refl _)⟩
theorem step_commit (hc : QaR X m) (h5 : m.kind ≠ 5) (hr : X.role ≠ 3) (h2 : m.kind = 4 → X.role ≠ 2) (hna : ∀ v, ¬ QaF { X with votes := v } (2 ^ X.id.toNat)) : (Qaa X m).commit = X.commit := by
  have c5 := hc.2.2.2.2.1
  have c6 := hc.2.2.2.2.2.1
  by_cases k1 : m.kind = 1
  · rw [st1 hc k1]; rfl
  by_cases k2 : m.kind = 2
  · rw [st2 hc k2]
    unfold QaS
    split
    · unfold Qai; split <;> rfl
    split
    · split
      · unfold QaU
        rw [if_neg (hna _)]; rfl
      · rfl
    · rfl
  by_cases ht : m.term < X.term
  · rw [Qi4 hc (by omega) ht]
    split <;> rfl
  have ht : X.term ≤ m.term := by omega
  have hz := (Qbl X m).1
  have hzr : (Qab X m).role ≠ 3 ∧ (m.kind = 4 → (Qab X m).role ≠ 2) := by
    rcases QaO X m with e | ⟨e, _⟩
    · rw [e]; exact ⟨by decide, fun _ => by decide⟩
    · rw [e]; exact ⟨hr, h2⟩
  by_cases k3 : m.kind = 3
  · rw [st3 hc k3 ht]
    show (if Qbm (Qab X m) m then _ else Qab X m).commit = _
    split <;> exact hz
  by_cases k4 : m.kind = 4
  · rw [st4 hc k4 ht]
    unfold Qar
    rw [if_pos (.inr (hzr.2 k4))]
    exact hz
  · rw [st6 hc (by omega) ht]
    unfold QaC
    rw [if_pos hzr.1]; exact hz
theorem put_ok{es:List RE}(I:GI k g)(w1:MI k g m)(hk:m.kind=5)(hl:(g.ll m.term).length<=1024)(hp:(g.ll m.term).take m.index.toNat<+:es):(Qc8 es m.index m.logTerm m.ents).2.2=0:=by
 obtain⟨a,b,c,d,e,q,n,r⟩:=w1.2.2.1 hk
 have L:=I.L _ a
 have hlen:m.index<=es.length:=by
  have:=Qbf hp
  rw[List.length_take] at this
  omega
 have ht:QaH es m.index=QaH (g.ll m.term) m.index:=by
  have h1:((g.ll m.term).take m.index.toNat).length=m.index.toNat:=by rw[List.length_take];omega
  rw[QhU hp c (by rw[h1];omega),QhU (QbT (g.ll m.term) m.index.toNat) c (by rw[h1];omega)]
 unfold Qc8
 rw[if_neg (by unfold QaH;rw[if_neg (by omega)];split<;>simp),if_neg (by rw[ht,e];simp)]
 have hf:Qfk m.logTerm m.ents=false:=by
  have key:∀(l:List RE) (t:Int),(∀x∈l,t<=x.term)->Mono l->Qfk t l=false:=by
   intro l
   induction l with
   |nil=>intro t _ _;rfl
   |cons x l ih=>
    intro t h1 h2
    obtain⟨h3,h4⟩:=List.pairwise_cons.1 h2
    have:=h1 x (List.mem_cons_self ..)
    unfold Qfk
    rw[if_neg (by omega)]
    exact ih x.term h3 h4
  refine key _ _ (fun x hx=> ?_) (List.Pairwise.sublist q.sublist (List.Pairwise.sublist (List.drop_sublist _ _) L.mono))
  rw[e]
  have hx:=q.subset hx
  obtain⟨j,hj,rfl⟩:=List.getElem_of_mem hx
  rw[List.getElem_drop]
  rw[List.length_drop] at hj
  unfold QaH
  rw[if_neg (by omega)]
  split
  ·have:=(L.ter _ (List.getElem_mem (by omega:m.index.toNat+j<(g.ll m.term).length))).1
   show(0:Int)<=_
   omega
  ·show((g.ll m.term)[m.index.toNat -1]?.map (·.term)).getD 0<=_
   rw[List.getElem?_eq_getElem (by omega)]
   exact List.pairwise_iff_getElem.1 L.mono (m.index.toNat -1) (m.index.toNat+j) (by omega) (by omega) (by omega)
 rw[hf]
 have hle:m.index+m.ents.length<=1024:=by
  have:=Qbf q
  rw[List.length_drop] at this
  omega
 rw[if_neg (by decide)]
 split
 ·rfl
 rw[if_neg (by omega)]
theorem Qbd(X:RN)(m:RM)(hr:X.role≠3):
  (m.index<X.commit/\QaV X m=Qib (Qag X m) m.from_ true X.commit)\/
  (¬m.index<X.commit/\(Qc8 X.log m.index m.logTerm m.ents).2.2≠0/\QaV X m=Qib (Qag X m) m.from_ false (mx (mn (X.log.length:Int) (m.index -1)) 0))\/
  (¬m.index<X.commit/\(Qc8 X.log m.index m.logTerm m.ents).2.2=0/\QaV X m=Qib {QbD (Qag X m) m with commit:=mx X.commit (mn m.commit (m.index+m.ents.length))} m.from_ true (m.index+m.ents.length)):=by
 unfold QaV
 rw[if_neg hr]
 by_cases h1:m.index<X.commit
 ·rw[if_pos h1];exact .inl ⟨h1,rfl⟩
 rw[if_neg h1]
 by_cases h2:(Qc8 X.log m.index m.logTerm m.ents).2.2=0
 ·rw[if_neg (fun x=>x h2)];exact .inr (.inr ⟨h1,h2,rfl⟩)
 ·rw[if_pos h2];exact .inr (.inl ⟨h1,h2,rfl⟩)
end
end
section
variable {k:Nat}{g:GH}{i f S:Nat}{X Y F L:RN}{m:RM}{C:CS}{r:List RM}
def FB(C:CS):Prop:=∀(i:Nat) (L:RN),C.x[i]? =some L->L.role=3->∀m∈C.net,m.kind=5->m.from_=i->m.term=L.term->m.ents.length=min 8 (L.log.length -m.index.toNat)
theorem CInv.one(h:CInv k g S C)(hX:C.x[f]? =some X)(hL:C.x[i]? =some L)(h1:X.role=3)(h2:L.role=3)(ht:X.term=L.term):f=i:=by
 have a:=((h.node f X hX).ni.lead h1).ld
 have b:=((h.node i L hL).ni.lead h2).ld
 rw[ht] at a
 omega
theorem CInv.have0(h:CInv k g S C)(hX:C.x[f]? =some X)(hL:C.x[i]? =some L)(h2:L.role=3)(hif:f≠i)(ht:X.term<L.term):(L.matc f).toNat=0:=by
 have c:=h.node f X hX
 have l:=(h.node i L hL).ni.lead h2
 have:=l.mt f c.ni.ik hif
 have:=c.ni.d.futA L.term ht
 omega
theorem CInv.capr(h:CInv k g S C)(hn:C.net=m::r):r.length+1<=512:=by
 have:=h.cap
 rw[hn] at this
 exact this
theorem Qfj{r:List RM}{o:RM}(h:r.length+1<=512): [o].take (512 -r.length)= [o]:=List.take_of_length_le (by show 1<=_;omega)
theorem Qad{o:RM}{l:List RM}{n:Nat}(h:o∈l.take n):o∈l:=List.mem_of_mem_take h
theorem Qhb(I:GI k g)(h:NI k g i X)(hm:MI k g m)(hk:m.kind=4)(ht:m.term=X.term)(hto:m.to=X.id)(hf:0<=m.from_/\m.from_<X.n)(hy:m.yes=true)(hr:X.role=2)(hmo:QaF X (X.votes|||2^m.from_.toNat)):g.ll X.term= []:=by
 have hn:=h.n
 have hk7:=h.k7
 have hid:=h.id
 obtain⟨a,b,c,d,f⟩:=hm.2.1 hk hy
 rw[ht] at d f
 rw[hto,hid] at d f
 have cd:=h.cand hr
 have hq:∀t,(X.votes|||2^m.from_.toNat).testBit t=true->t<k/\g.V t X.term=i/\(g.ll X.term= []->Rec g X.term i t):=fun t htb=>by
  rw[Nat.testBit_or,Bool.or_eq_true] at htb
  rcases htb with htb|htb
  ·exact cd.vs t htb
  ·rw[Qh9 htb]
   exact⟨by omega,d,f⟩
 have hv7:X.votes|||2^m.from_.toNat<128:=or7 h.vb hf.1 (by omega)
 exact(cd.none I h hmo hv7 hq).1
theorem step_commit4(hc:QaR X m)(h4:m.kind=4):(Qaa X m).commit=X.commit\/(m.term=X.term/\X.role=2/\m.yes=true/\QaF X (X.votes|||2^m.from_.toNat)):=by
 by_cases ht:m.term<X.term
 ·rw[Qi4 hc (by omega) ht,if_neg (by omega)];exact .inl rfl
 rw[st4 hc h4 (by omega)]
 rcases QaO X m with e|⟨e,e2⟩
 ·left
  unfold Qar
  rw[if_pos (.inr (by omega))]
  exact(Qbl X m).1
 ·rw[e]
  unfold Qar
  split
  ·exact .inl rfl
  ·rename_i hno
   split
   ·rename_i hmo
    right
    refine⟨by omega,Decidable.byContradiction fun x=>hno (.inr x), ?_,hmo⟩
    cases hy:m.yes
    ·exact absurd (.inl hy) hno
    ·rfl
   ·exact .inl rfl
theorem QlG(h:CInv k g S C)(hn:C.net=m::r)(hX:C.x[m.to.toNat]? =some X)(hL:C.x[i]? =some L)(hr:L.role=3)(hif:m.to.toNat≠i)
  (hfbm:m.kind=5->m.from_=i->m.term=L.term->m.ents.length=min 8 (L.log.length -m.index.toNat)):
  FS (decide (L.term<(Qaa X m).term)) L.log.length (L.matc m.to.toNat).toNat X.commit.toNat (Qaa X m).commit.toNat (QaD i m.to.toNat L.term m).toList (items ((Qaa X m).out.take (512 -r.length)) i m.to.toNat L.term):=by
 have hmm:m∈C.net:=by rw[hn];exact List.mem_cons_self ..
 have w:=h.net m hmm
 have w3:=w.2.2
 have c:=h.node _ X hX
 have cl:=h.node i L hL
 have Ld:=cl.ni.lead hr
 have hto:m.to=((m.to.toNat:Nat):Int):=by have:=w3.t;omega
 have hid:X.id=m.to:=by rw[c.ni.id];exact hto.symm
 have hc:=Qcu h.gi w hid c.ni.n
 have hcap:=h.capr hn
 have hxi:=Qiz c.xi w3 hto c.m0.1 c.m0.2
 have c5:=hc.2.2.2.2.1
 have c6:=hc.2.2.2.2.2.1
 have hst:=Qdn hc
 have hcx:=c.ni.c0
 generalize hf:m.to.toNat=f at*
 have plain:(∀o∈(Qaa X m).out,QaD i f L.term o=none)->QaD i f L.term m=none->(L.term<(Qaa X m).term\/(Qaa X m).commit=X.commit\/(L.matc f).toNat=0)->FS (decide (L.term<(Qaa X m).term)) L.log.length (L.matc f).toNat X.commit.toNat (Qaa X m).commit.toNat (QaD i f L.term m).toList (items ((Qaa X m).out.take (512 -r.length)) i f L.term):=fun h1 h2 h3=>by
  refine .stay ?_ (by rw[h2];rfl) ?_
  ·rcases h3 with e|e|e
   ·exact .inl (decide_eq_true e)
   ·exact .inr (.inl (by rw[e]))
   ·exact .inr (.inr e)
  ·exact Qcf fun o ho=>h1 o (Qad ho)
 by_cases h5:m.kind=5
 ·obtain⟨a1,a2,a3,a4,a5,a6,a7,a8⟩:=w.1.2.2.1 h5
  by_cases hlo:m.term<X.term
  ·
   have hY:=Qi4 hc (by omega) hlo
   rw[if_pos h5] at hY
   have hout:(Qaa X m).out= [⟨6,X.id,m.from_,X.term,0,0,0,false,[]⟩]:=by
    rw[hY]
    show X.out++ [_]=_
    rw[c.out];rfl
   have hcm:(Qaa X m).commit=X.commit:=by rw[hY];rfl
   have htm:(Qaa X m).term=X.term:=by rw[hY];rfl
   by_cases hfi:m.from_=i
   ·by_cases h1:L.term<X.term
    ·
     by_cases h2:L.term<m.term
     ·refine plain (fun o ho=> ?_) ?_ (.inl (by rw[htm];exact h1))
      ·rw[hout,List.mem_singleton] at ho
       subst ho
       exact Qea (by show X.id=_;omega) hif (.inr (.inr (by show X.term≠_;omega)))
      ·unfold QaD
       rw[if_pos ⟨h5,hfi,hto⟩,if_neg (by omega),if_neg (by omega)]
     ·have hO:items ((Qaa X m).out.take (512 -r.length)) i f L.term= []:=Qcf fun o ho=>by
       have ho:=Qad ho
       rw[hout,List.mem_singleton] at ho
       subst ho
       exact Qea (by show X.id=_;omega) hif (.inr (.inr (by show X.term≠_;omega)))
      by_cases h3:m.term=L.term
      ·refine .lose (.A m.index.toNat) (decide_eq_true (by rw[htm];exact h1)) ?_ (.inr ⟨_,rfl⟩) hO
       unfold QaD
       rw[if_pos ⟨h5,hfi,hto⟩,if_pos h3]
       rfl
      ·refine .lose .S (decide_eq_true (by rw[htm];exact h1)) ?_ (.inl rfl) hO
       unfold QaD
       rw[if_pos ⟨h5,hfi,hto⟩,if_neg h3,if_pos (by omega)]
       rfl
    ·refine .stray (decide_eq_false (by rw[htm];exact h1)) (.inl (by rw[hcm])) ?_ ?_
     ·unfold QaD
      rw[if_pos ⟨h5,hfi,hto⟩,if_neg (by omega),if_pos (by omega)]
      rfl
     ·rw[hout,Qfj hcap]
      by_cases h4:X.term=L.term
      ·right
       rw[QnS (o:=⟨6,X.id,m.from_,X.term,0,0,0,false,[]⟩) rfl (by show X.id=_;omega) hfi h4]
       rfl
      ·left
       rw[QbM (Qea (by show X.id=_;omega) hif (.inr (.inr h4)))]
       rfl
   ·refine plain (fun o ho=> ?_) (item_to hto hif (.inr hfi)) (.inr (.inl hcm))
    rw[hout,List.mem_singleton] at ho
    subst ho
    exact Qea (by show X.id=_;omega) hif (.inr (.inl hfi))
  ·
   have hge:X.term<=m.term:=by omega
   have hY:=st5 hc h5 hge
   have hzr:(Qab X m).role≠3:=by
    rcases QaO X m with e|⟨e,e2⟩
    ·rw[e];decide
    ·rw[e]
     intro hx
     have:=(c.ni.lead hx).ld
     have:X.term=m.term:=by omega
     have:=w3.ne
     rw[<- ‹X.term=m.term›] at a2
     omega
   have hzt:=QbN hge
   obtain⟨z1,z2,z3,z4,z5,z6,z7⟩:=Qbl X m
   have htm:(Qaa X m).term=m.term:=by rw[hY,QiL];exact hzt
   have ha:=Qbd (Qab X m) m hzr
   rw[z1,z2,<-hY] at ha
   have hans:∃y idx,(Qaa X m).out= [⟨6,X.id,m.from_,m.term,idx,0,0,y,[]⟩]:=by
    have e0:(Qag (Qab X m) m).out= []/\(Qag (Qab X m) m).id=X.id/\(Qag (Qab X m) m).term=m.term:=by rw[Qaz];exact⟨z3.trans c.out,z4,hzt⟩
    rcases ha with⟨_,e⟩|⟨_,_,e⟩|⟨_,_,e⟩
    ·exact⟨_,_,by rw[e];show(Qag (Qab X m) m).out++ [(⟨6,(Qag (Qab X m) m).id,m.from_,(Qag (Qab X m) m).term,_,0,0,_,[]⟩:RM)]=_;rw[e0.1,e0.2.1,e0.2.2];rfl⟩
    ·exact⟨_,_,by rw[e];show(Qag (Qab X m) m).out++ [(⟨6,(Qag (Qab X m) m).id,m.from_,(Qag (Qab X m) m).term,_,0,0,_,[]⟩:RM)]=_;rw[e0.1,e0.2.1,e0.2.2];rfl⟩
    ·obtain⟨p1,p2,p3,p4,p5,p6⟩:=Qcw (Qag (Qab X m) m) m
     exact⟨_,_,by rw[e];show(QbD (Qag (Qab X m) m) m).out++ [(⟨6,(QbD (Qag (Qab X m) m) m).id,m.from_,(QbD (Qag (Qab X m) m) m).term,_,0,0,_,[]⟩:RM)]=_;rw[p6,p1,p4,e0.1,e0.2.1,e0.2.2];rfl⟩
   by_cases hfi:m.from_=i
   ·
    by_cases h1:L.term<m.term
    ·refine plain (fun o ho=> ?_) ?_ (.inl (by rw[htm];exact h1))
     ·obtain⟨y,idx,e⟩:=hans
      rw[e,List.mem_singleton] at ho
      subst ho
      exact Qea (by show X.id=_;omega) hif (.inr (.inr (by show m.term≠_;omega)))
     ·unfold QaD
      rw[if_pos ⟨h5,hfi,hto⟩,if_neg (by omega),if_neg (by omega)]
    by_cases h2:m.term=L.term
    ·
     have hgone:decide (L.term<(Qaa X m).term)=false:=decide_eq_false (by rw[htm];omega)
     have hhead:(QaD i f L.term m).toList= [.A m.index.toNat]:=by unfold QaD;rw[if_pos ⟨h5,hfi,hto⟩,if_pos h2];rfl
     have hfb:=hfbm h5 hfi h2
     rw[h2,Ld.ll] at a4 a6 a7 a8
     have hle:=Qbf a6
     rw[List.length_drop] at hle
     have hL0:1<=L.log.length:=by
      have:=List.length_pos_iff.2 Ld.ne;omega
     have htail:∀(y:Bool) (idx:Int),(Qaa X m).out= [⟨6,X.id,m.from_,m.term,idx,0,0,y,[]⟩]->items ((Qaa X m).out.take (512 -r.length)) i f L.term= [if y=true then .Y idx.toNat else .N]:=fun y idx e=>by
      rw[e,Qfj hcap,QnS (o:=⟨6,X.id,m.from_,m.term,idx,0,0,y,[]⟩) rfl (by show X.id=_;omega) hfi h2]
     have e0:(Qag (Qab X m) m).out= []/\(Qag (Qab X m) m).id=X.id/\(Qag (Qab X m) m).term=m.term/\(Qag (Qab X m) m).commit=X.commit:=by rw[Qaz];exact⟨z3.trans c.out,z4,hzt,z1⟩
     have hack:X.term=L.term->(g.ll m.term).take (L.matc f).toNat<+:X.log:=fun e=>by
      have h3:=c.ni.d.cur
      have h4:=Ld.mt f c.ni.ik hif
      rw[e] at h3
      rw[h2]
      exact(Qhi (by omega)).trans h3
     have hlen4:(g.ll m.term).length<=1024:=by rw[h2,Ld.ll];exact cl.bn.l
     have hcL:X.term=L.term->X.commit<=L.log.length:=fun e=>by
      have h3:=Cm.pre h.gi.L c.ni.com (by rw[e,Ld.ll];exact Ld.ne)
      rw[e,Ld.ll] at h3
      have:=Qbf h3
      rw[List.length_take] at this
      have:=c.ni.c1
      omega
     rcases ha with⟨k1,e⟩|⟨k1,k2,e⟩|⟨k1,k2,e⟩
     ·have eo:(Qaa X m).out= [⟨6,X.id,m.from_,m.term,X.commit,0,0,true,[]⟩]:=by
       rw[e];show(Qag (Qab X m) m).out++ [(⟨6,(Qag (Qab X m) m).id,m.from_,(Qag (Qab X m) m).term,X.commit,0,0,true,[]⟩:RM)]=_;rw[e0.1,e0.2.1,e0.2.2.1];rfl
      have hcm:(Qaa X m).commit=X.commit:=by rw[e];exact e0.2.2.2
      have ht:=htail true _ eo
      rw[if_pos rfl] at ht
      by_cases hv:(L.matc f).toNat=0
      ·exact .yes0 m.index.toNat X.commit.toNat hgone hv (by omega) (by omega) hhead ht
      ·have hXT:X.term=L.term:=by
        rcases Int.lt_or_eq_of_le hge with x|x
        ·exact absurd (h.have0 hX hL hr hif (by omega)) hv
        ·omega
       have:=hcL hXT
       exact .short m.index.toNat hgone (by omega) (by omega) (by omega) (by rw[hcm]) hhead ht
     ·have eo:(Qaa X m).out= [⟨6,X.id,m.from_,m.term,mx (mn (X.log.length:Int) (m.index -1)) 0,0,0,false,[]⟩]:=by
       rw[e];show(Qag (Qab X m) m).out++ [(⟨6,(Qag (Qab X m) m).id,m.from_,(Qag (Qab X m) m).term,mx (mn (X.log.length:Int) (m.index -1)) 0,0,0,false,[]⟩:RM)]=_;rw[e0.1,e0.2.1,e0.2.2.1];rfl
      have ht:=htail false _ eo
      rw[if_neg (by decide)] at ht
      refine .no m.index.toNat hgone (Nat.lt_of_not_le fun hlow=> ?_) hhead ht
      refine k2 (put_ok h.gi w.1 h5 hlen4 ?_)
      by_cases hv:(L.matc f).toNat=0
      ·rw[show m.index.toNat=0 by omega,List.take_zero];exact List.nil_prefix
      ·have hXT:X.term=L.term:=by
        rcases Int.lt_or_eq_of_le hge with x|x
        ·exact absurd (h.have0 hX hL hr hif (by omega)) hv
        ·omega
       exact(Qhi hlow).trans (hack hXT)
     ·have eo:(Qaa X m).out= [⟨6,X.id,m.from_,m.term,m.index+m.ents.length,0,0,true,[]⟩]:=by
       obtain⟨p1,p2,p3,p4,p5,p6⟩:=Qcw (Qag (Qab X m) m) m
       rw[e];show(QbD (Qag (Qab X m) m) m).out++ [(⟨6,(QbD (Qag (Qab X m) m) m).id,m.from_,(QbD (Qag (Qab X m) m) m).term,m.index+m.ents.length,0,0,true,[]⟩:RM)]=_;rw[p6,p1,p4,e0.1,e0.2.1,e0.2.2.1];rfl
      have hcm:(Qaa X m).commit=mx X.commit (mn m.commit (m.index+m.ents.length)):=by rw[e];rfl
      have ht:=htail true _ eo
      rw[if_pos rfl] at ht
      by_cases hv:(L.matc f).toNat=0
      ·exact .yes0 m.index.toNat (m.index+m.ents.length).toNat hgone hv (by omega) (by omega) hhead ht
      ·have e1:(m.index+m.ents.length).toNat=min (m.index.toNat+8) L.log.length:=by omega
       rw[e1] at ht
       refine .full m.index.toNat hgone (by omega) (by omega) (by omega) ?_ ?_ hhead ht
       ·rw[hcm];unfold mx;split<;>omega
       ·rw[hcm];unfold mx mn;repeat' split
        all_goals omega
    ·
     have hlt:X.term<L.term:=by omega
     refine .stray (decide_eq_false (by rw[htm];omega)) (.inr (h.have0 hX hL hr hif hlt)) ?_ (.inl (Qcf fun o ho=> ?_))
     ·unfold QaD
      rw[if_pos ⟨h5,hfi,hto⟩,if_neg h2,if_pos (by omega)]
      rfl
     ·obtain⟨y,idx,e⟩:=hans
      have ho:=Qad ho
      rw[e,List.mem_singleton] at ho
      subst ho
      exact Qea (by show X.id=_;omega) hif (.inr (.inr h2))
   ·refine plain (fun o ho=> ?_) (item_to hto hif (.inr hfi)) ?_
    ·obtain⟨y,idx,e⟩:=hans
     rw[e,List.mem_singleton] at ho
     subst ho
     exact Qea (by show X.id=_;omega) hif (.inr (.inl hfi))
    ·rcases Int.lt_trichotomy m.term L.term with x|x|x
     ·exact .inr (.inr (h.have0 hX hL hr hif (by omega)))
     ·rw[x,Ld.ld] at a2;omega
     ·exact .inl (by rw[htm];exact x)
 ·
  have h6:=no6_step hc h5 c.out
  refine plain (fun o ho=>Qea (by rw[(hxi.out o ho).2]) hif (.inl (h6 o ho))) (item_to hto hif (.inl h5)) ?_
  rcases Int.lt_trichotomy X.term L.term with x|x|x
  ·exact .inr (.inr (h.have0 hX hL hr hif x))
  ·have hr3:X.role≠3:=fun hx=>hif (h.one hX hL hx hr x)
   by_cases hcan:m.kind=4
   ·rcases step_commit4 hc hcan with e|⟨e1,e2,e3,e4⟩
    ·exact .inr (.inl e)
    ·have:=Qhb h.gi c.ni w.1 hcan e1 hid.symm ⟨w3.f.1,by rw[c.ni.n];exact w3.f.2⟩ e3 e2 e4
     rw[x,Ld.ll] at this
     exact absurd this Ld.ne
   ·exact .inr (.inl (step_commit hc h5 hr3 (fun e=>absurd e hcan) fun v hm=>Qcy (X:=X) (m:=m) c.ni ⟨w3.f.1,by rw[c.ni.n];exact w3.f.2,by rw[hid];exact w3.ne⟩ hm))
  ·exact .inl (by omega)
end
end Go.Proofs.YtniojdaddolnfaaGreat
