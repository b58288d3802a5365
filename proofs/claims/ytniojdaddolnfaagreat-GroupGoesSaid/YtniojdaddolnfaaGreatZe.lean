/-
  Several of the proof's texts in one, squeezed: a claim may have 1,500,000 bytes.
-/
import Derived.Test.YtniojdaddolnfaaGreatZd
set_option linter.unusedVariables false
set_option linter.unusedSimpArgs false
namespace Go.Proofs.YtniojdaddolnfaaGreat
section
def Qck:Nat->(Nat->Nat)->Nat
 |0,_=>0
 |n+1,F=>Qck n F+F n
theorem Qcn{F G:Nat->Nat}:∀{n:Nat},(∀i,i<n->F i<=G i)->Qck n F<=Qck n G
 |0,_=>Nat.le_refl _
 |n+1,h=>Nat.add_le_add (Qcn fun i hi=>h i (by omega)) (h n (by omega))
theorem QbE{F G:Nat->Nat}{n:Nat}(h:∀i,i<n->F i=G i):Qck n F=Qck n G:=
 Nat.le_antisymm (Qcn fun i hi=>Nat.le_of_eq (h i hi)) (Qcn fun i hi=>Nat.le_of_eq (h i hi).symm)
theorem QdZ{F G:Nat->Nat}{i a b:Nat}:∀{n:Nat},i<n->(∀j,j<n->j≠i->F j<=G j)->F i+a<=G i+b->Qck n F+a<=Qck n G+b
 |0,h,_,_=>by omega
 |n+1,h,h1,h2=>by
  show Qck n F+F n+a<=Qck n G+G n+b
  by_cases e:i=n
  ·subst e
   have:=Qcn (F:=F) (G:=G) (n:=i) fun j hj=>h1 j (by omega) (by omega)
   omega
  ·have:=QdZ (n:=n) (by omega) (fun j hj=>h1 j (by omega)) h2
   have:=h1 n (by omega) (fun x=>e x.symm)
   omega
theorem Qcj{F:Nat->Nat}{b:Nat}:∀{n:Nat},(∀i,i<n->F i<=b)->Qck n F<=n*b
 |0,_=>Nat.zero_le _
 |n+1,h=>by
  have:=Qcj (n:=n) fun i hi=>h i (by omega)
  have:=h n (by omega)
  show Qck n F+F n<=_
  rw[Nat.succ_mul];omega
theorem Qlu{F:Nat->Nat}{b i:Nat}:∀{n:Nat},i<n->(∀j,j<n->F j<=b)->F i=0->Qck n F<=(n -1)*b
 |0,h,_,_=>by omega
 |n+1,h,h1,h2=>by
  show Qck n F+F n<=n*b
  by_cases e:i=n
  ·subst e
   have:=Qcj (F:=F) (n:=i) fun j hj=>h1 j (by omega)
   omega
  ·have:=Qlu (n:=n) (by omega) (fun j hj=>h1 j (by omega)) h2
   have hb:=h1 n (by omega)
   obtain⟨p,rfl⟩:∃p,n=p+1:=⟨n -1,by omega⟩
   rw[Nat.add_sub_cancel] at this
   rw[Nat.succ_mul];omega
def bW(m:RM):Nat:=if m.kind=1\/m.kind=3\/m.kind=5 then 2 else 1
def bWs:List RM->Nat
 | []=>0
 |m::l=>bW m+bWs l
theorem bWs_app:∀a b:List RM,bWs (a++b)=bWs a+bWs b
 | [],b=>(Nat.zero_add _).symm
 |m::l,b=>by show bW m+bWs (l++b)=bW m+bWs l+bWs b;rw[bWs_app l b,Nat.add_assoc]
theorem QlK:∀(l:List RM) (n:Nat),bWs (l.take n)<=bWs l
 | [],n=>by rw[List.take_nil];exact Nat.le_refl _
 |m::l,0=>Nat.zero_le _
 |m::l,n+1=>Nat.add_le_add (Nat.le_refl _) (QlK l n)
theorem bW_two(m:RM):bW m<=2:=by unfold bW;split<;>omega
theorem Qn4(m:RM):1<=bW m:=by unfold bW;split<;>omega
theorem QmG:∀l:List RM,bWs l<=2*l.length
 | []=>Nat.le_refl _
 |m::l=>by
  have:=QmG l
  have:=bW_two m
  show bW m+bWs l<=2*(l.length+1)
  omega
def QcW(X:RN):Nat:=((X.log.drop X.commit.toNat).filter fun e=>decide (e.term=X.term)).length
def exc(k i:Nat)(X:RN):Nat:=Qck k fun f=>if f=i then 0 else(X.next f).toNat -(X.matc f).toNat -1
def prs(k i:Nat)(X:RN)(N:Nat->RN)(its:Nat->List It):Nat:=Qck k fun f=>if f=i then 0 else xP (decide (X.term<(N f).term)) X.log.length (N f).commit.toNat (X.matc f).toNat (its f)
def ph(k X0 LC:Nat)(C:CS)(i:Nat):Nat:=
 if(nd C i).role=3 then QcW (nd C i)*((k -1)*X0)+2*exc k i (nd C i)+prs k i (nd C i) (nd C) (fun f=>items C.net i f (nd C i).term)
 else if(nd C i).role=2 then LC else if(nd C i).role=1 then LC+2*(k -1) else 0
def Phi(k X0 LC:Nat)(C:CS):Nat:=bWs C.net+Qck k (ph k X0 LC C)
section
variable {k X0 LC:Nat}{g:GH}{i f S:Nat}{X Y F L:RN}{m:RM}{C:CS}{r:List RM}
theorem Qcc(hX:C.x[i]? =some X):nd C i=X:=by
 unfold nd
 rw[List.getD_eq_getElem?_getD,hX];rfl
theorem CInv.nd(h:CInv k g S C)(hi:i<k):C.x[i]? =some (nd C i):=by
 obtain⟨X,hX⟩:=h.get hi
 rw[Qcc hX];exact hX
theorem Qhk(hlen:i<C.x.length){net:List RM}:nd (Qg8 C i Y net) i=Qae Y:=by
 refine Qcc ?_
 show(C.x.set i (Qae Y))[i]? =_
 rw[List.getElem?_set_self hlen]
theorem Qc2{j:Nat}(h:j≠i){net:List RM}:nd (Qg8 C i Y net) j=nd C j:=by
 unfold nd
 rw[List.getD_eq_getElem?_getD,List.getD_eq_getElem?_getD]
 show((C.x.set i (Qae Y))[j]?).getD _=_
 rw[List.getElem?_set_ne (fun x=>h x.symm)]
theorem Qdq{net:List RM}(h:net.length<=512):(Qg8 C i Y net).net=net++Y.out.take (512 -net.length):=by
 show(net++Y.out).take 512=_
 rw[List.take_append,List.take_of_length_le h]
theorem Qmn{O:List RM}{n1 n2 t:_}(hto:m.to=(i:Int))(hO:∀o∈O,o.from_=(i:Int))(h1:n1≠i)(h2:n2≠i):items (r++O) n1 n2 t=items (m::r) n1 n2 t:=by
 rw[QaW,Qcf (l:=O) fun o ho=> ?_,List.append_nil,QbM]
 ·unfold QaD
  rw[if_neg fun x=>by have:=x.2.2;omega,if_neg fun x=>by have:=x.2.2.1;omega]
 ·have:=hO o ho
  unfold QaD
  rw[if_neg fun x=>by have:=x.2.1;omega,if_neg fun x=>by have:=x.2.1;omega]
def PS(k:Nat)(C:CS):Prop:=∀i f,i<k->f<k->f≠i->(nd C i).role=3->(nd C f).term<=(nd C i).term->POK ((nd C i).matc f).toNat ((nd C i).next f).toNat (items C.net i f (nd C i).term)
theorem ph_other(h:CInv k g S C)(fb:FB C)(ps:PS k C)(hn:C.net=m::r)(hi:i<k)(hne:i≠m.to.toNat):ph k X0 LC (QaX C) i<=ph k X0 LC C i:=by
 obtain⟨X,hX,hd⟩:=QmC h hn
 have hcap:=h.capr hn
 have hmm:m∈C.net:=by rw[hn];exact List.mem_cons_self ..
 have w:=h.net m hmm
 have w3:=w.2.2
 have c:=h.node _ X hX
 have hto:m.to=((m.to.toNat:Nat):Int):=by have:=w3.t;omega
 have hid:X.id=m.to:=by rw[c.ni.id];exact hto.symm
 have hc:=Qcu h.gi w hid c.ni.n
 have hxi:=Qiz c.xi w3 hto c.m0.1 c.m0.2
 have hst:=Qdn hc
 have hik:m.to.toNat<C.x.length:=by rw[h.len];exact c.ni.ik
 rw[hd]
 have e1:=Qc2 (C:=C) (i:=m.to.toNat) (Y:=Qaa X m) (net:=r) hne
 have e2:(Qg8 C m.to.toNat (Qaa X m) r).net=r++(Qaa X m).out.take (512 -r.length):=Qdq (by omega)
 unfold ph
 rw[e1,e2]
 by_cases hr:(nd C i).role=3
 ·rw[if_pos hr,if_pos hr]
  refine Nat.add_le_add (Nat.le_refl _) (Qcn fun f hf=> ?_)
  by_cases efi:f=i
  ·rw[if_pos efi,if_pos efi];exact Nat.le_refl _
  rw[if_neg efi,if_neg efi]
  by_cases eff:f=m.to.toNat
  ·subst eff
   rw[Qhk hik]
   have hL:=h.nd hi
   have hXn:=Qcc hX
   rw[hXn]
   have s:=(QlG h hn hX hL hr efi (fb i _ hL hr m hmm)).step (items r i m.to.toNat (nd C i).term)
   rw[<-QbQ,<-QaW] at s
   rw[hn]
   refine s.less (nx:=((nd C i).next m.to.toNat).toNat) (br:=decide ((nd C i).term<X.term)) (br':=decide ((nd C i).term<(Qaa X m).term)) (fun e=> ?_) rfl fun e=> ?_
   ·rw[decide_eq_true_eq] at e⊢
    omega
   ·rw[decide_eq_false_iff_not] at e
    have:=ps i _ hi c.ni.ik efi hr (by rw[hXn];omega)
    rw[hn] at this
    exact this
  ·rw[Qc2 eff]
   show xP _ _ _ _ (items (r++(Qaa X m).out.take (512 -r.length)) i f (nd C i).term)<=xP _ _ _ _ (items C.net i f (nd C i).term)
   rw[Qmn (i:=m.to.toNat) hto (fun o ho=>(hxi.out o (Qad ho)).2) hne eff,hn]
   exact Nat.le_refl _
 ·rw[if_neg hr,if_neg hr];exact Nat.le_refl _
theorem Qlz{N:Nat->RN}{T:Int}(hT:X.term=T)(hX0:Mw X.log.length+4<=X0):∀(O:List RM),(∀o∈O,o.kind=5/\o.from_=(i:Int)/\o.term=T/\∃f,f<k/\f≠i/\o.to=(f:Int)/\o.index=X.next f -1)->∀its:Nat->List It,(∀f,f<k->f≠i->¬X.term<(N f).term->POK (X.matc f).toNat (X.next f).toNat (its f))->
  prs k i X N (fun f=>its f++items O i f T)+2*O.length<=prs k i X N its+O.length*X0
 | [],_,its,_=>by
  have e:prs k i X N (fun f=>its f++items [] i f T)=prs k i X N its:=QbE fun f _=>by
   show(if f=i then 0 else xP _ _ _ _ (its f++ []))=_
   rw[List.append_nil]
  rw[e,List.length_nil];omega
 |o::O,hO,its,ok=>by
  obtain⟨h1,h2,h3,f,h4,h5,h6,h7⟩:=hO o (List.mem_cons_self ..)
  have hone:∀j,items [o] i j T=if j=f then [.A ((X.next f).toNat -1)] else []:=fun j=>by
   by_cases e:j=f
   ·rw[if_pos e]
    subst e
    rw[Qbo (x:= .A o.index.toNat) (by unfold QaD;rw[if_pos ⟨h1,h2,h6⟩,if_pos h3]),h7,show(X.next j -1).toNat=(X.next j).toNat -1 by omega]
    rfl
   ·rw[if_neg e]
    refine Qcf fun x hx=> ?_
    rw[List.mem_singleton] at hx
    subst hx
    unfold QaD
    rw[if_neg fun y=>by have:=y.2.2;omega,if_neg fun y=>by have:=y.1;omega]
  have ih:=Qlz hT hX0 O (fun x hx=>hO x (List.mem_cons_of_mem _ hx)) (fun j=>its j++items [o] i j T) fun j hj hji hlt=>by
   have:=ok j hj hji hlt
   simp only[hone]
   by_cases e:j=f
   ·rw[if_pos e]
    subst e
    unfold POK at this⊢
    split
    ·rename_i h0
     rw[if_pos h0] at this
     exact this.send
    ·rename_i h0
     rw[if_neg h0] at this
     exact⟨this.1,this.2.app fun b hb=>by injection hb with hb;omega⟩
   ·rw[if_neg e,List.append_nil];exact this
  have hsplit:∀j,its j++items (o::O) i j T=(its j++items [o] i j T)++items O i j T:=fun j=>by
   rw[List.append_assoc,<-QaW];rfl
  have hstep:prs k i X N (fun j=>its j++items [o] i j T)+2<=prs k i X N its+X0:=by
   refine QdZ (i:=f) h4 (fun j hj hjf=> ?_) ?_
   ·show(if j=i then 0 else xP _ _ _ _ (its j++items [o] i j T))<=(if j=i then 0 else xP _ _ _ _ (its j))
    rw[hone,if_neg hjf,List.append_nil]
    exact Nat.le_refl _
   ·show(if f=i then 0 else xP _ _ _ _ (its f++items [o] i f T))+2<=(if f=i then 0 else xP _ _ _ _ (its f))+X0
    rw[if_neg h5,if_neg h5,hone,if_pos rfl]
    have:=xP_send (br:=decide (X.term<(N f).term)) (l:=X.log.length) (c:=(N f).commit.toNat) (hv:=(X.matc f).toNat) (nx:=(X.next f).toNat) (its:=its f) fun e=>ok f h4 h5 (by rw[decide_eq_false_iff_not] at e;exact e)
    omega
  have e:prs k i X N (fun f=>its f++items (o::O) i f T)=prs k i X N (fun f=>(fun j=>its j++items [o] i j T) f++items O i f T):=QbE fun j _=>by
   show(if j=i then 0 else xP _ _ _ _ (its j++items (o::O) i j T))=_
   rw[hsplit]
  have e3:(O.length+1)*X0=O.length*X0+X0:=Nat.succ_mul _ _
  rw[e,List.length_cons,e3]
  have ih:prs k i X N (fun f=>(fun j=>its j++items [o] i j T) f++items O i f T)+2*O.length<=_:=ih
  omega
end
end
section
variable {k X0 LC:Nat}{g:GH}{i f S:Nat}{X Y F L:RN}{m:RM}{C:CS}{r:List RM}
theorem Qbt(hid:X.id=i)(hi:i<k):(Qax X k).length+1=k:=by
 have key:∀n,((List.range n).filter fun(t:Nat)=>decide ((t:Int)≠X.id)).length=if i<n then n -1 else n:=by
  intro n
  induction n with
  |zero=>rfl
  |succ n ih=>
   rw[List.range_succ,List.filter_append,List.length_append,ih]
   by_cases e:(n:Int)=X.id
   ·have:i=n:=by omega
    rw[List.filter_cons_of_neg (by simp[e]),if_neg (by omega),if_pos (by omega)]
    simp
   ·rw[List.filter_cons_of_pos (by simp[e])]
    by_cases h:i<n
    ·rw[if_pos h,if_pos (by omega)];simp;omega
    ·rw[if_neg h,if_neg (by omega)];simp
 unfold Qax
 rw[key,if_pos hi];omega
theorem bWs_map(l:List Nat)(G:Nat->RM):bWs (l.map G)<=2*l.length:=by
 have:=QmG (l.map G)
 rwa[List.length_map] at this
def nR(k LC:Nat)(r:Int):Nat:=if r=2 then LC else if r=1 then LC+2*(k -1) else 0
theorem ph_nR(h:(nd C i).role≠3):ph k X0 LC C i=nR k LC (nd C i).role:=by
 unfold ph nR
 rw[if_neg h]
theorem nR_ph:nR k LC (nd C i).role<=ph k X0 LC C i:=by
 by_cases h:(nd C i).role=3
 ·unfold nR;rw[h,if_neg (by decide),if_neg (by decide)];exact Nat.zero_le _
 ·rw[ph_nR h];exact Nat.le_refl _
theorem nR0:nR k LC 0=0:=by unfold nR;rw[if_neg (by decide),if_neg (by decide)]
theorem bW5(h:m.kind=1\/m.kind=3\/m.kind=5):bW m=2:=if_pos h
theorem Qgo {Z : RN} (h1 : ¬ Z.term < Qa9 Z.log) (h2 : Z.log.length < 1024) : Qbh Z = Qaf (Qa4 (QaN { Qay Z with log := Z.log ++ [⟨Z.term, ⟨#[]⟩⟩] } ((Z.log.length : Int) + 1))) := by
  have e : Qc7 (Qay Z) ⟨#[]⟩ = (Qaf (Qa4 (QaN { Qay Z with log := Z.log ++ [⟨Z.term, ⟨#[]⟩⟩] } ((Z.log.length : Int) + 1))), 0) := by
    unfold Qc7
    rw [if_neg (show ¬ (Qay Z).term < Qa9 (Qay Z).log from h1), if_neg (show ¬ (Qay Z).log.length ≥ 1024 by show ¬ Z.log.length ≥ 1024; omega)]
    rfl
  unfold Qbh
  rw [e, if_neg (show ¬ (0 : Int) ≠ 0 by decide)]
theorem self_none(hc:QaR X m)(c:CN k g S i X)(w:WM k m)(hto:m.to=i)(hl:X.log.length<1024)(hr:(Qaa X m).role≠3)(hter:X.role=2->¬X.term<Qa9 X.log):
  bWs (Qaa X m).out+nR k LC (Qaa X m).role+1<=bW m+nR k LC X.role:=by
 have c5:=hc.2.2.2.2.1
 have c6:=hc.2.2.2.2.2.1
 have hna:¬QaF X (2^X.id.toNat):=Qcy (X:=X) (m:=m) c.ni ⟨w.f.1,by rw[c.ni.n];exact w.f.2,by rw[c.ni.id,<-hto];exact w.ne⟩
 by_cases k1:m.kind=1
 ·rw[st1 hc k1] at hr⊢
  have:bWs (QiB X m).out=1:=by
   show bWs (X.out++ [_])=1
   rw[c.out];rfl
  rw[this,bW5 (.inl k1)]
  show 1+nR k LC X.role+1<=_
  omega
 by_cases k2:m.kind=2
 ·rw[st2 hc k2] at hr⊢
  have h1:=Qn4 m
  unfold QaS at hr⊢
  split
  ·rename_i h
   unfold Qai
   rw[if_pos h.2]
   show bWs X.out+nR k LC 0+1<=_
   rw[nR0,c.out]
   show 0+0+1<=_
   omega
  split
  ·rename_i h
   split
   ·unfold QaU
    rw[if_neg (show ¬QaF {X with votes:=X.votes|||2^m.from_.toNat} (2^X.id.toNat) from hna)]
    show bWs (X.out++(Qax (QbB {X with votes:=X.votes|||2^m.from_.toNat}) X.n.toNat).map _)+nR k LC 2+1<=_
    have hlen:∀Z:RN,Z.id=i->(Qax Z k).length<=k -1:=fun Z hZ=>by have:=Qbt (X:=Z) (k:=k) hZ c.ni.ik;omega
    rw[c.out,List.nil_append,h.2.2,c.ni.n,Int.toNat_natCast]
    have e2:nR k LC 2=LC:=rfl
    have e1:nR k LC 1=LC+2*(k -1):=rfl
    rw[e1,e2]
    refine Nat.le_trans (Nat.add_le_add_right (Nat.add_le_add_right (bWs_map _ _) _) _) ?_
    refine Nat.le_trans (Nat.add_le_add_right (Nat.add_le_add_right (Nat.mul_le_mul_left 2 (hlen _ c.ni.id)) _) _) ?_
    omega
   ·show bWs X.out+nR k LC X.role+1<=_
    rw[c.out]
    show 0+_+1<=_
    omega
  ·show bWs X.out+nR k LC X.role+1<=_
   rw[c.out]
   show 0+_+1<=_
   omega
 by_cases ht:m.term<X.term
 ·rw[Qi4 hc (by omega) ht] at hr⊢
  by_cases k5:m.kind=5
  ·rw[if_pos k5,bW5 (.inr (.inr k5))]
   show bWs (X.out++ [_])+nR k LC X.role+1<=_
   rw[c.out]
   show 1+0+_+1<=_
   omega
  ·rw[if_neg k5,c.out]
   have:=Qn4 m
   show 0+_+1<=_
   omega
 have ht:X.term<=m.term:=by omega
 obtain⟨z1,z2,z3,z4,z5,z6,z7⟩:=Qbl X m
 have hz:nR k LC (Qab X m).role<=nR k LC X.role:=by
  rcases QaO X m with e|⟨e,_⟩
  ·rw[e,nR0];exact Nat.zero_le _
  ·rw[e];exact Nat.le_refl _
 by_cases k3:m.kind=3
 ·rw[st3 hc k3 ht] at hr⊢
  have e1:(Qbg (Qab X m) m).role=(Qab X m).role:=by
   show(if Qbm (Qab X m) m then _ else Qab X m).role=_
   split<;>rfl
  have e2:bWs (Qbg (Qab X m) m).out=1:=by
   show bWs ((if Qbm (Qab X m) m then _ else Qab X m).out++ [_])=1
   rw[show(if Qbm (Qab X m) m then{(Qab X m) with hard:=(Qab X m).hard||((Qab X m).vote !=m.from_),vote:=m.from_,since:=0} else Qab X m).out= [] from by split<;>exact z3.trans c.out]
   rfl
  rw[e1,e2,bW5 (.inr (.inl k3))]
  omega
 by_cases k4:m.kind=4
 ·rw[st4 hc k4 ht] at hr⊢
  have:=Qn4 m
  unfold Qar at hr⊢
  split
  ·rw[z3,c.out]
   show 0+_+1<=_
   omega
  rename_i hno
  rw[if_neg hno] at hr
  have hr2:(Qab X m).role=2:=Decidable.byContradiction fun x=>hno (.inr x)
  have hXe:Qab X m=X:=by
   rcases QaO X m with e|⟨e,_⟩
   ·rw[e] at hr2;exact absurd hr2 (by decide)
   ·exact e
  rw[hXe] at hr hr2⊢
  split
  ·rename_i hmo
   rw[if_pos hmo] at hr
   exfalso
   apply hr
   rw[Qgo (Z:={X with votes:=X.votes|||2^m.from_.toNat}) (hter hr2) hl]
   exact(Qan _).2.1
  ·show bWs X.out+nR k LC X.role+1<=_
   rw[c.out]
   show 0+_+1<=_
   omega
 by_cases k5:m.kind=5
 ·rw[st5 hc k5 ht] at hr⊢
  by_cases hr3:(Qab X m).role=3
  ·unfold QaV at hr
   rw[if_pos hr3] at hr
   exact absurd hr3 hr
  have hap:(Qag (Qab X m) m).out= []/\(Qag (Qab X m) m).role=0:=by rw[Qaz];exact⟨z3.trans c.out,rfl⟩
  have key:∀Z:RN,Z.out= []->Z.role=0->∀y idx,bWs (Qib Z m.from_ y idx).out+nR k LC (Qib Z m.from_ y idx).role+1<=bW m+nR k LC X.role:=fun Z h1 h2 y idx=>by
   show bWs (Z.out++ [_])+nR k LC Z.role+1<=_
   rw[h1,h2,nR0,bW5 (.inr (.inr k5))]
   show 1+0+0+1<=_
   omega
  rcases Qbd (Qab X m) m hr3 with⟨_,e⟩|⟨_,_,e⟩|⟨_,_,e⟩
  ·rw[e];exact key _ hap.1 hap.2 _ _
  ·rw[e];exact key _ hap.1 hap.2 _ _
  ·rw[e]
   obtain⟨_,_,_,_,p5,p6⟩:=Qcw (Qag (Qab X m) m) m
   exact key _ (p6.trans hap.1) (p5.trans hap.2) _ _
 ·rw[st6 hc (by omega) ht] at hr⊢
  have:=Qn4 m
  have hr3:(Qab X m).role≠3:=fun x=>hr (by
   unfold QaC
   rw[if_neg (fun y=>y x)]
   split
   ·split<;>exact(Qan _).2.1.trans x
   split<;>exact x)
  unfold QaC
  rw[if_pos hr3,z3,c.out]
  show 0+_+1<=_
  omega
end
section
variable {k X0 LC:Nat}{g:GH}{i f S:Nat}{X Y F L:RN}{m:RM}{C:CS}{r:List RM}
theorem ownU_commit{c:Nat}(h:Qba X X.log.length=some c)(h0:0<=X.commit):QcW {X with commit:=(c:Int)}+1<=QcW X:=by
 obtain⟨h1,h2,h3,h4,_⟩:=Qee h
 unfold QcW
 show((X.log.drop (c:Int).toNat).filter _).length+1<=_
 rw[Int.toNat_natCast]
 have e:X.log.drop X.commit.toNat=(X.log.drop X.commit.toNat).take (c -X.commit.toNat)++X.log.drop c:=by
  have:=(List.take_append_drop (c -X.commit.toNat) (X.log.drop X.commit.toNat)).symm
  rwa[List.drop_drop,show X.commit.toNat+(c -X.commit.toNat)=c by omega] at this
 rw[e,List.filter_append,List.length_append]
 have hp:0<(((X.log.drop X.commit.toNat).take (c -X.commit.toNat)).filter fun e=>decide (e.term=X.term)).length:=by
  refine List.length_pos_iff.2 (List.ne_nil_of_mem (a:=X.log[c -1]'(by omega)) (List.mem_filter.2 ⟨?_, ?_⟩))
  ·refine List.mem_iff_getElem?.2 ⟨c -1 -X.commit.toNat, ?_⟩
   rw[List.getElem?_take_of_lt (by omega),List.getElem?_drop,show X.commit.toNat+(c -1 -X.commit.toNat)=c -1 by omega,List.getElem?_eq_getElem (by omega)]
  ·rw[decide_eq_true_eq,<-h4]
   unfold QaH
   rw[if_neg (by omega),if_neg (by omega),Int.toNat_natCast,List.getElem?_eq_getElem (by omega)]
   rfl
 show(List.filter (fun e=>decide (e.term=X.term)) (X.log.drop c)).length+1<=_
 omega
theorem Qcd(hc:QaR X m)(c:CN k g S i X)(w:WM k m)(hto:m.to=i)(h1:X.role≠3)(h2:(Qaa X m).role=3):m.kind=4/\m.term=X.term/\X.role=2/\m.yes=true/\QaF X (X.votes|||2^m.from_.toNat)/\Qaa X m=Qbh {X with votes:=X.votes|||2^m.from_.toNat}:=by
 have c5:=hc.2.2.2.2.1
 have c6:=hc.2.2.2.2.2.1
 have hna:¬QaF X (2^X.id.toNat):=Qcy (X:=X) (m:=m) c.ni ⟨w.f.1,by rw[c.ni.n];exact w.f.2,by rw[c.ni.id,<-hto];exact w.ne⟩
 by_cases k1:m.kind=1
 ·rw[st1 hc k1] at h2;exact absurd h2 h1
 by_cases k2:m.kind=2
 ·rw[st2 hc k2] at h2
  unfold QaS at h2
  split at h2
  ·unfold Qai at h2;split at h2<;>exact absurd h2 (by decide:¬(0:Int)=3)
  split at h2
  ·split at h2
   ·unfold QaU at h2
    rw[if_neg (show ¬QaF {X with votes:=X.votes|||2^m.from_.toNat} (2^X.id.toNat) from hna)] at h2
    exact absurd h2 (by decide:¬(2:Int)=3)
   ·exact absurd h2 h1
  ·exact absurd h2 h1
 by_cases ht:m.term<X.term
 ·rw[Qi4 hc (by omega) ht] at h2
  split at h2<;>exact absurd h2 h1
 have ht:X.term<=m.term:=by omega
 have hz:(Qab X m).role≠3:=by
  rcases QaO X m with e|⟨e,_⟩
  ·rw[e];decide
  ·rw[e];exact h1
 by_cases k3:m.kind=3
 ·rw[st3 hc k3 ht] at h2
  exfalso
  apply hz
  rw[<-h2]
  show(Qab X m).role=(if Qbm (Qab X m) m then _ else Qab X m).role
  split<;>rfl
 by_cases k4:m.kind=4
 ·rw[st4 hc k4 ht] at h2⊢
  unfold Qar at h2⊢
  split at h2
  ·exact absurd h2 hz
  rename_i hno
  rw[if_neg hno]
  have hr2:(Qab X m).role=2:=Decidable.byContradiction fun x=>hno (.inr x)
  rcases QaO X m with e|⟨e,e2⟩
  ·rw[e] at hr2;exact absurd hr2 (by decide)
  rw[e] at h2 hr2⊢
  split at h2
  ·rename_i hmo
   rw[if_pos hmo]
   refine⟨k4,by omega,hr2, ?_,hmo,rfl⟩
   cases hy:m.yes
   ·exact absurd (.inl hy) hno
   ·rfl
  ·exact absurd h2 h1
 by_cases k5:m.kind=5
 ·rw[st5 hc k5 ht] at h2
  exfalso
  rcases Qbd (Qab X m) m hz with⟨_,e⟩|⟨_,_,e⟩|⟨_,_,e⟩
  ·rw[e] at h2
   have h2:(Qag (Qab X m) m).role=3:=h2
   rw[Qaz] at h2;exact absurd h2 (by decide:¬(0:Int)=3)
  ·rw[e] at h2
   have h2:(Qag (Qab X m) m).role=3:=h2
   rw[Qaz] at h2;exact absurd h2 (by decide:¬(0:Int)=3)
  ·rw[e] at h2
   have h2:(QbD (Qag (Qab X m) m) m).role=3:=h2
   rw[(Qcw _ m).2.2.2.2.1,Qaz] at h2;exact absurd h2 (by decide:¬(0:Int)=3)
 ·rw[st6 hc (by omega) ht] at h2
  unfold QaC at h2
  rw[if_pos hz] at h2
  exact absurd h2 hz
theorem cnt_self(hid:X.id=i){j:Int}(hm:∀t:Nat,(t:Int)<X.n->X.matc t<j):Qj1 X j<=1:=by
 have key:∀n:Nat,(n:Int)<=X.n->((List.range n).filter fun(t:Nat)=>decide ((t:Int)=X.id\/X.matc t>=j)).length<=if i<n then 1 else 0:=by
  intro n
  induction n with
  |zero=>intro _;exact Nat.le_refl _
  |succ n ih=>
   intro hn
   have ih:=ih (by omega)
   have:=hm n (by omega)
   rw[List.range_succ,List.filter_append,List.length_append]
   by_cases e:(n:Int)=X.id
   ·rw[List.filter_cons_of_pos (by simp[e])]
    rw[if_neg (by omega)] at ih
    rw[if_pos (by omega)]
    simp only[List.filter_nil,List.length_cons,List.length_nil]
    omega
   ·rw[List.filter_cons_of_neg (by simp;omega)]
    simp only[List.filter_nil,List.length_nil]
    split at ih
    ·rw[if_pos (by omega)];omega
    ·split<;>omega
 unfold Qj1
 have:=key X.n.toNat
 by_cases h:0<=X.n
 ·have:=this (by omega)
  split at this<;>omega
 ·have:X.n.toNat=0:=by omega
  rw[this];exact Nat.zero_le _
theorem Qn8(hid:X.id=i)(hn:2<=X.n)(hm:∀t:Nat,(t:Int)<X.n->X.matc t<=0):∀j,Qba X j=none
 |0=>rfl
 |j+1=>by
  unfold Qba
  split
  ·rfl
  split
  ·rfl
  ·rw[if_neg ?_]
   ·exact Qn8 hid hn hm j
   ·have:=cnt_self (X:=X) hid (j:=((j+1:Nat):Int)) fun t ht=>by have:=hm t ht;omega
    omega
theorem QcI(c:CN k g S i X)(hr:X.role=2)(hk:2<=k)(hl:X.log.length<1024)(v:Nat):∃Z:RN,Qbh {X with votes:=v}=Z/\Z.role=3/\Z.term=X.term/\Z.log=X.log++ [⟨X.term,⟨#[]⟩⟩]/\Z.commit=X.commit/\(∀t,t<k->Z.next t=(X.log.length:Int)+1/\Z.matc t=0)/\Z.id=X.id/\Z.n=X.n/\
  ∃W:RN,W.id=X.id/\W.term=X.term/\W.log=Z.log/\(∀t,t<k->W.next t=(X.log.length:Int)+1)/\Z.out=X.out++(Qax W k).map (Qbk W):=by
 have cd:=c.ni.cand hr
 have hter:¬X.term<Qa9 X.log:=by
  have:=Qce c.ni.d.ter c.ni.d.t0
  omega
 have hn:=c.ni.n
 refine⟨_,rfl, ?_⟩
 rw[Qgo (Z:={X with votes:=v}) hter hl]
 have hag:Qba (Qa4 (QaN {Qay {X with votes:=v} with log:=X.log++ [⟨X.term,⟨#[]⟩⟩]} ((X.log.length:Int)+1))) (Qa4 (QaN {Qay {X with votes:=v} with log:=X.log++ [⟨X.term,⟨#[]⟩⟩]} ((X.log.length:Int)+1))).log.length=none:=by
  have gen:∀U:RN,U.id=X.id->U.n=X.n->(∀t:Nat,(t:Int)<X.n->U.matc t<=0)->Qba U U.log.length=none:=fun U h1 h2 h3=>Qn8 (h1.trans c.ni.id) (by rw[h2,hn];omega) (fun t ht=>h3 t (by rw[<-h2];exact ht)) _
  refine gen _ rfl rfl fun t ht=> ?_
  show(if(t:Int)<X.n then(0:Int) else X.matc t)<=0
  rw[if_pos ht];exact Int.le_refl _
 have hA:Qaf (Qa4 (QaN {Qay {X with votes:=v} with log:=X.log++ [⟨X.term,⟨#[]⟩⟩]} ((X.log.length:Int)+1)))=Qa4 (QaN {Qay {X with votes:=v} with log:=X.log++ [⟨X.term,⟨#[]⟩⟩]} ((X.log.length:Int)+1)):=by
  unfold Qaf
  rw[hag]
 show(Qaf (Qa4 (QaN {Qay {X with votes:=v} with log:=X.log++ [⟨X.term,⟨#[]⟩⟩]} ((X.log.length:Int)+1)))).role=3/\_
 rw[hA]
 refine⟨rfl,rfl,rfl,rfl,fun t ht=>⟨?_, ?_⟩,rfl,rfl,QaN {Qay {X with votes:=v} with log:=X.log++ [⟨X.term,⟨#[]⟩⟩]} ((X.log.length:Int)+1),rfl,rfl,rfl,fun t ht=> ?_, ?_⟩
 ·show(if(t:Int)<X.n then(X.log.length:Int)+1 else X.next t)=_
  rw[if_pos (by omega)]
 ·show(if(t:Int)<X.n then(0:Int) else X.matc t)=_
  rw[if_pos (by omega)]
 ·show(if(t:Int)<X.n then(X.log.length:Int)+1 else X.next t)=_
  rw[if_pos (by omega)]
 ·show X.out++(Qax _ X.n.toNat).map _=_
  rw[hn,Int.toNat_natCast]
theorem prs_nil{N:Nat->RN}:prs k i X N (fun _=> [])=0:=by
 have:prs k i X N (fun _=> [])<=k*0:=Qcj fun f _=>by
  show(if f=i then 0 else xP _ _ _ _ [])<=0
  split
  ·exact Nat.le_refl _
  ·unfold xP pW
   split
   ·exact Nat.le_refl _
   ·split<;>exact Nat.le_refl _
 omega
theorem Qon{W:RN}{T:Int}{n:Nat}(hid:W.id=i)(hT:W.term=T)(hn:∀t,t<k->W.next t=X.next t):∀o∈((Qax W k).map (Qbk W)).take n,o.kind=5/\o.from_=(i:Int)/\o.term=T/\∃f,f<k/\f≠i/\o.to=(f:Int)/\o.index=X.next f -1:=fun o ho=>by
 obtain⟨t,ht,rfl⟩:=List.mem_map.1 (List.mem_of_mem_take ho)
 obtain⟨h1,h2⟩:=Qcl ht
 exact⟨rfl,hid,hT,t,h1,by omega,rfl,by show W.next t -1=_;rw[hn t h1]⟩
theorem QbU{F:Nat->Nat}{n:Nat}(h:∀i,i<n->F i=0):Qck n F=0:=by
 have:Qck n F<=n*0:=Qcj fun i hi=>Nat.le_of_eq (h i hi)
 omega
theorem ownU_new{l:List RE}{T c:Int}(hter:Ter l (T -1))(h1:X.log=l++ [⟨T,⟨#[]⟩⟩])(h2:X.term=T)(h3:X.commit<=l.length):QcW X<=1:=by
 unfold QcW
 rw[h1,h2,List.drop_append_of_le_length (by omega),List.filter_append,List.length_append]
 have:(l.drop X.commit.toNat).filter (fun e=>decide (e.term=T))= []:=by
  rw[List.filter_eq_nil_iff]
  intro e he
  have:=hter e (List.mem_of_mem_drop he)
  simp;omega
 rw[this]
 simp
theorem self_lead(hk:2<=k){Zb:Nat}(hX0:Mw (Zb+1)+4<=X0)(hLC:2*((k -1)*X0)+2*((k -1)*Zb)<=LC)(h:CInv k g S C)(hn:C.net=m::r)(hX:C.x[m.to.toNat]? =some X)(hl:X.log.length<=Zb)(hl2:X.log.length<1024)(h1:X.role≠3)(h2:(Qaa X m).role=3)
  (hci:∀f,f<k->f≠m.to.toNat->items r m.to.toNat f X.term= []):
  bWs ((Qaa X m).out.take (512 -r.length))+ph k X0 LC (QaX C) m.to.toNat+1<=bW m+ph k X0 LC C m.to.toNat:=by
 have hmm:m∈C.net:=by rw[hn];exact List.mem_cons_self ..
 have w:=h.net m hmm
 have w3:=w.2.2
 have c:=h.node _ X hX
 have hto:m.to=((m.to.toNat:Nat):Int):=by have:=w3.t;omega
 have hid:X.id=m.to:=by rw[c.ni.id];exact hto.symm
 have hc:=Qcu h.gi w hid c.ni.n
 obtain⟨k4,e1,hr2,_,_,hY⟩:=Qcd hc c w3 hto h1 h2
 have hcap:=h.capr hn
 have hik:m.to.toNat<C.x.length:=by rw[h.len];exact c.ni.ik
 have cd:=c.ni.cand hr2
 obtain⟨Z,z0,z1,z2,z3,z4,z5,z6,z7,W,w1,w2,_,w4,w5⟩:=QcI c hr2 hk hl2 (X.votes|||2^m.from_.toNat)
 rw[z0] at hY
 obtain⟨X',hX',hd⟩:=QmC h hn
 rw[hX] at hX'
 injection hX' with hX'
 subst hX'
 rw[hd,hY]
 rw[c.out,List.nil_append] at w5
 have hph:ph k X0 LC C m.to.toNat=LC:=by
  rw[ph_nR (by rw[Qcc hX];exact h1),Qcc hX,hr2];rfl
 rw[hph]
 unfold ph
 rw[Qhk hik,if_pos (show(Qae Z).role=3 from z1)]
 have hnet:(Qg8 C m.to.toNat Z r).net=r++Z.out.take (512 -r.length):=Qdq (by omega)
 rw[hnet]
 generalize hO:Z.out.take (512 -r.length)=O
 have hOk:∀o∈O,o.kind=5/\o.from_=((m.to.toNat:Nat):Int)/\o.term=(Qae Z).term/\∃f,f<k/\f≠m.to.toNat/\o.to=(f:Int)/\o.index=(Qae Z).next f -1:=by
  rw[<-hO,w5]
  exact Qon (X:=Qae Z) (w1.trans c.ni.id) (w2.trans z2.symm) fun t ht=>by rw[w4 t ht];exact((z5 t ht).1).symm
 have hOl:O.length<=k -1:=by
  rw[<-hO,w5,List.length_take,List.length_map]
  have:=Qbt (X:=W) (k:=k) (i:=m.to.toNat) (w1.trans c.ni.id) c.ni.ik
  omega
 have hll:(Qae Z).log.length=X.log.length+1:=by
  show Z.log.length=_
  rw[z3,List.length_append,List.length_singleton]
 have hM:Mw (Qae Z).log.length+4<=X0:=by
  rw[hll]
  have:Mw (X.log.length+1)<=Mw (Zb+1):=by
   unfold Mw
   have:(X.log.length+1+7)/8<=(Zb+1+7)/8:=Nat.div_le_div_right (by omega)
   omega
  omega
 have hitems:prs k m.to.toNat (Qae Z) (nd (Qg8 C m.to.toNat Z r)) (fun f=>items (r++O) m.to.toNat f (Qae Z).term)=prs k m.to.toNat (Qae Z) (nd (Qg8 C m.to.toNat Z r)) (fun f=> []++items O m.to.toNat f (Qae Z).term):=QbE fun f hf=>by
  show(if f=m.to.toNat then 0 else xP _ _ _ _ (items (r++O) m.to.toNat f (Qae Z).term))=(if f=m.to.toNat then 0 else xP _ _ _ _ ([]++items O m.to.toNat f (Qae Z).term))
  by_cases e:f=m.to.toNat
  ·rw[if_pos e,if_pos e]
  ·rw[if_neg e,if_neg e,QaW]
   have:=hci f hf e
   rw[show(Qae Z).term=X.term from z2,this]
 have hpush:=Qlz (k:=k) (X0:=X0) (i:=m.to.toNat) (X:=Qae Z) (N:=nd (Qg8 C m.to.toNat Z r)) rfl hM O hOk (fun _=> []) fun f hf hfi _=>by
  unfold POK
  have:=(z5 f hf).2
  rw[show(Qae Z).matc f=0 from this,if_pos (show(0:Int).toNat=0 from rfl)]
  exact⟨trivial,fun a ha=>(by cases ha),fun a ha=>(by cases ha)⟩
 rw[hitems]
 rw[prs_nil] at hpush
 have hown:QcW (Qae Z)<=1:=ownU_new (c:=0) cd.ter z3 z2 (by show Z.commit<=_;rw[z4];exact c.ni.c1)
 have hexc:exc k m.to.toNat (Qae Z)<=(k -1)*Zb:=Qlu c.ni.ik (fun j hj=>by
  show(if j=m.to.toNat then 0 else(Z.next j).toNat -(Z.matc j).toNat -1)<=Zb
  split
  ·exact Nat.zero_le _
  ·rw[(z5 j hj).1,(z5 j hj).2];omega) (if_pos rfl)
 have hb:=QmG O
 have h9:QcW (Qae Z)*((k -1)*X0)<=(k -1)*X0:=by
  have:=Nat.mul_le_mul_right ((k -1)*X0) hown
  omega
 have h10:O.length*X0<=(k -1)*X0:=Nat.mul_le_mul_right _ hOl
 have:=Qn4 m
 omega
end
section
variable {k X0 LC:Nat}{g:GH}{i f S:Nat}{X Y F L:RN}{m:RM}{C:CS}{r:List RM}
theorem Qd0{F G:Nat->Nat}:∀n,Qck n (fun i=>F i+G i)=Qck n F+Qck n G
 |0=>rfl
 |n+1=>by
  show Qck n _+(F n+G n)=Qck n F+F n+(Qck n G+G n)
  rw[Qd0 n];omega
theorem Qi2{F:Nat->Nat}{a:Nat}:∀n,Qck n (fun i=>a*F i)=a*Qck n F
 |0=>rfl
 |n+1=>by
  show Qck n _+a*F n=a*(Qck n F+F n)
  rw[Qi2 n,Nat.mul_add]
structure SameL(X Y:RN):Prop where
 term:Y.term=X.term
 log:Y.log=X.log
 commit:Y.commit=X.commit
 next:Y.next=X.next
 matc:Y.matc=X.matc
theorem Qdo(hc:QaR X m)(c:CN k g S i X)(h1:X.role=3)(h2:(Qaa X m).role=3):
  (SameL X (Qaa X m)/\(m.kind≠6\/m.term≠X.term)/\((Qaa X m).out= []\/∃o,(Qaa X m).out= [o]/\o.kind≠5/\bW o+1<=bW m))\/(m.kind=6/\m.term=X.term/\Qaa X m=QaC X m):=by
 have c5:=hc.2.2.2.2.1
 have c6:=hc.2.2.2.2.2.1
 by_cases k1:m.kind=1
 ·rw[st1 hc k1]
  exact .inl ⟨⟨rfl,rfl,rfl,rfl,rfl⟩,.inl (by omega),.inr ⟨_,by show X.out++ [_]=_;rw[c.out];rfl,(by decide:(2:Int)≠5),by rw[bW5 (.inl k1)];exact Nat.le_refl _⟩⟩
 by_cases k2:m.kind=2
 ·have e:Qaa X m=X:=by
   rw[st2 hc k2] at h2⊢
   unfold QaS at h2⊢
   split at h2
   ·unfold Qai at h2;split at h2<;>exact absurd h2 (by decide:¬(0:Int)=3)
   ·rename_i h
    rw[if_neg h,if_neg (by omega)]
  rw[e]
  exact .inl ⟨⟨rfl,rfl,rfl,rfl,rfl⟩,.inl (by omega),.inl c.out⟩
 by_cases ht:m.term<X.term
 ·rw[Qi4 hc (by omega) ht]
  by_cases k5:m.kind=5
  ·rw[if_pos k5]
   exact .inl ⟨⟨rfl,rfl,rfl,rfl,rfl⟩,.inl (by omega),.inr ⟨_,by show X.out++ [_]=_;rw[c.out];rfl,(by decide:(6:Int)≠5),by rw[bW5 (.inr (.inr k5))];exact Nat.le_refl _⟩⟩
  ·rw[if_neg k5]
   exact .inl ⟨⟨rfl,rfl,rfl,rfl,rfl⟩,.inr (by omega),.inl c.out⟩
 have ht:X.term<=m.term:=by omega
 by_cases hgt:X.term<m.term
 ·
  exfalso
  have hz:(Qab X m).role=0:=by rw[newer_up hgt]
  have hz3:(Qab X m).role≠3:=by omega
  by_cases k3:m.kind=3
  ·rw[st3 hc k3 ht] at h2
   have:(Qbg (Qab X m) m).role=(Qab X m).role:=by
    show(if Qbm (Qab X m) m then _ else Qab X m).role=_
    split<;>rfl
   omega
  by_cases k4:m.kind=4
  ·rw[st4 hc k4 ht] at h2
   unfold Qar at h2
   rw[if_pos (.inr (by omega))] at h2
   omega
  by_cases k5:m.kind=5
  ·rw[st5 hc k5 ht] at h2
   rcases Qbd (Qab X m) m hz3 with⟨_,e⟩|⟨_,_,e⟩|⟨_,_,e⟩
   ·rw[e] at h2
    have h2:(Qag (Qab X m) m).role=3:=h2
    rw[Qaz] at h2;exact absurd h2 (by decide:¬(0:Int)=3)
   ·rw[e] at h2
    have h2:(Qag (Qab X m) m).role=3:=h2
    rw[Qaz] at h2;exact absurd h2 (by decide:¬(0:Int)=3)
   ·rw[e] at h2
    have h2:(QbD (Qag (Qab X m) m) m).role=3:=h2
    rw[(Qcw _ m).2.2.2.2.1,Qaz] at h2;exact absurd h2 (by decide:¬(0:Int)=3)
  ·rw[st6 hc (by omega) ht] at h2
   unfold QaC at h2
   rw[if_pos hz3] at h2
   exact hz3 h2
 have hX:Qab X m=X:=Qbu (by omega)
 by_cases k3:m.kind=3
 ·rw[st3 hc k3 ht,hX]
  have hv:¬Qbm X m:=fun x=>x.2.1 h1
  have e:Qbg X m=Ql8 X m.from_ ⟨4,0,0,X.term,0,0,0,decide (Qbm X m),[]⟩:=by
   unfold Qbg
   rw[if_neg hv]
  rw[e]
  exact .inl ⟨⟨rfl,rfl,rfl,rfl,rfl⟩,.inl (by omega),.inr ⟨_,by show X.out++ [_]=_;rw[c.out];rfl,(by decide:(4:Int)≠5),by rw[bW5 (.inr (.inl k3))];exact Nat.le_refl _⟩⟩
 by_cases k4:m.kind=4
 ·rw[st4 hc k4 ht,hX]
  unfold Qar
  rw[if_pos (.inr (by omega))]
  exact .inl ⟨⟨rfl,rfl,rfl,rfl,rfl⟩,.inl (by omega),.inl c.out⟩
 by_cases k5:m.kind=5
 ·rw[st5 hc k5 ht,hX]
  unfold QaV
  rw[if_pos h1]
  exact .inl ⟨⟨rfl,rfl,rfl,rfl,rfl⟩,.inl (by omega),.inl c.out⟩
 ·rw[st6 hc (by omega) ht,hX]
  exact .inr ⟨by omega,by omega,rfl⟩
theorem QeQ(h:SameL X Y):QcW (Qae Y)=QcW X:=by
 unfold QcW
 show((Y.log.drop Y.commit.toNat).filter fun e=>decide (e.term=Y.term)).length=_
 rw[h.log,h.commit,h.term]
theorem exc_same(h1:Y.next=X.next)(h2:Y.matc=X.matc):exc k i (Qae Y)=exc k i X:=QbE fun f _=>by
 show(if f=i then 0 else(Y.next f).toNat -(Y.matc f).toNat -1)=_
 rw[h1,h2]
theorem prs_N{N N':Nat->RN}{its:Nat->List It}(h:∀j,j≠i->N' j=N j):prs k i X N' its=prs k i X N its:=QbE fun f _=>by
 by_cases e:f=i
 ·show(if f=i then 0 else _)=(if f=i then 0 else _)
  rw[if_pos e,if_pos e]
 ·show(if f=i then 0 else _)=(if f=i then 0 else _)
  rw[if_neg e,if_neg e,h f e]
theorem self_quiet(h:CInv k g S C)(hn:C.net=m::r)(hX:C.x[m.to.toNat]? =some X)(h1:X.role=3)(h2:(Qaa X m).role=3)
  (q:SameL X (Qaa X m)/\(m.kind≠6\/m.term≠X.term)/\((Qaa X m).out= []\/∃o,(Qaa X m).out= [o]/\o.kind≠5/\bW o+1<=bW m)):
  bWs ((Qaa X m).out.take (512 -r.length))+ph k X0 LC (QaX C) m.to.toNat+1<=bW m+ph k X0 LC C m.to.toNat:=by
 obtain⟨q1,q2,q3⟩:=q
 have hmm:m∈C.net:=by rw[hn];exact List.mem_cons_self ..
 have w3:=(h.net m hmm).2.2
 have c:=h.node _ X hX
 have hto:m.to=((m.to.toNat:Nat):Int):=by have:=w3.t;omega
 have hcap:=h.capr hn
 have hik:m.to.toNat<C.x.length:=by rw[h.len];exact c.ni.ik
 have hxi:=Qiz c.xi w3 hto c.m0.1 c.m0.2
 obtain⟨X',hX',hd⟩:=QmC h hn
 rw[hX] at hX'
 injection hX' with hX'
 subst hX'
 rw[hd]
 have hph:ph k X0 LC (Qg8 C m.to.toNat (Qaa X m) r) m.to.toNat=ph k X0 LC C m.to.toNat:=by
  unfold ph
  rw[Qhk hik,Qcc hX,if_pos (show(Qae (Qaa X m)).role=3 from h2),if_pos h1,QeQ q1,exc_same q1.next q1.matc]
  congr 1
  have hnet:(Qg8 C m.to.toNat (Qaa X m) r).net=r++(Qaa X m).out.take (512 -r.length):=Qdq (by omega)
  rw[hnet]
  refine QbE fun f hf=> ?_
  by_cases e:f=m.to.toNat
  ·show(if f=m.to.toNat then 0 else _)=(if f=m.to.toNat then 0 else _)
   rw[if_pos e,if_pos e]
  ·show(if f=m.to.toNat then 0 else xP (decide ((Qaa X m).term<(nd (Qg8 C m.to.toNat (Qaa X m) r) f).term)) (Qaa X m).log.length _ ((Qaa X m).matc f).toNat (items (r++(Qaa X m).out.take (512 -r.length)) m.to.toNat f (Qaa X m).term))=(if f=m.to.toNat then 0 else xP _ _ _ _ (items C.net m.to.toNat f X.term))
   rw[if_neg e,if_neg e,Qc2 e,q1.term,q1.log,q1.matc,hn,QaW,Qcf (l:=List.take _ _) fun o ho=> ?_,List.append_nil,QbM]
   ·unfold QaD
    rw[if_neg fun x=>by have:=x.2.2;omega,if_neg fun x=>q2.elim (fun y=>y x.1) fun y=>y x.2.2.2]
   ·have ho:=Qad ho
    have hf:=(hxi.out o ho).2
    have h5:o.kind≠5:=by
     rcases q3 with e|⟨o',e,e5,_⟩
     ·rw[e] at ho;cases ho
     ·rw[e,List.mem_singleton] at ho;rw[ho];exact e5
    unfold QaD
    rw[if_neg fun x=>h5 x.1,if_neg fun x=>by have:=x.2.1;omega]
 rw[hph]
 have hb:bWs ((Qaa X m).out.take (512 -r.length))+1<=bW m:=by
  have:=QlK (Qaa X m).out (512 -r.length)
  rcases q3 with e|⟨o',e,_,e6⟩
  ·rw[e] at this⊢
   have:=Qn4 m
   rw[List.take_nil]
   show 0+1<=_
   omega
  ·rw[e] at this⊢
   have h9:bWs [o']=bW o'+0:=rfl
   omega
 omega
end
section
variable {k X0 LC:Nat}{g:GH}{i f S:Nat}{X Y F L:RN}{m:RM}{C:CS}{r:List RM}
structure HearF(k i f0:Nat)(X Y:RN)(q nx:Nat)(T1 T2:List RM):Prop where
 term:Y.term=X.term
 log:Y.log=X.log
 role:Y.role=3
 out:Y.out=T1++T2
 matc:∀f,f≠f0->Y.matc f=X.matc f
 next:∀f,f≠f0->Y.next f=X.next f
 mq:(Y.matc f0).toNat=q
 nq:(Y.next f0).toNat=nx
 nq0:1<=Y.next f0
 t1:T1= []\/∃W:RN,W.id=X.id/\W.term=X.term/\W.next=Y.next/\W.log=X.log/\T1=(Qax W k).map (Qbk W)
 t2:T2= []\/∃W:RN,W.id=X.id/\W.term=X.term/\W.next=Y.next/\W.log=X.log/\T2= [Qbk W f0]
 own:QcW (Qae Y)<=QcW X/\(T1≠ []->QcW (Qae Y)+1<=QcW X)
theorem QfK{W:RN}(hid:W.id=i)(hT:W.term=Y.term)(hn:W.next=Y.next):∀o∈(Qax W k).map (Qbk W),o.kind=5/\o.from_=(i:Int)/\o.term=Y.term/\∃f,f<k/\f≠i/\o.to=(f:Int)/\o.index=Y.next f -1:=fun o ho=>by
 obtain⟨t,ht,rfl⟩:=List.mem_map.1 ho
 obtain⟨h1,h2⟩:=Qcl ht
 exact⟨rfl,hid,hT,t,h1,by omega,rfl,by show W.next t -1=_;rw[hn]⟩
theorem swap_reps{a:It}{l1 l2:List It}(h1:∀x∈l1,x=a)(h2:∀x∈l2,x=a):l1++l2=l2++l1:=by
 rw[List.eq_replicate_of_mem h1,List.eq_replicate_of_mem h2,List.replicate_append_replicate,List.replicate_append_replicate,Nat.add_comm]
theorem Qdi{O:List RM}{T:Int}{f0:Nat}{nx:Int}(hO:∀o∈O,o.kind=5/\o.from_=(i:Int)/\o.term=T/\∃f,f<k/\f≠i/\o.to=(f:Int)/\o.index=Y.next f -1):∀x∈items O i f0 T,x= .A ((Y.next f0).toNat -1):=fun x hx=>by
 unfold items at hx
 obtain⟨o,ho,hi⟩:=List.mem_filterMap.1 hx
 obtain⟨h1,h2,h3,f,h4,h5,h6,h7⟩:=hO o ho
 unfold QaD at hi
 by_cases e:o.kind=5/\o.from_=(i:Int)/\o.to=(f0:Int)
 ·rw[if_pos e,if_pos h3] at hi
  injection hi with hi
  have:f=f0:=by have:=e.2.2;omega
  subst this
  rw[<-hi,h7,show(Y.next f -1).toNat=(Y.next f).toNat -1 by omega]
 ·rw[if_neg e,if_neg (fun y=>by have:=y.1;omega)] at hi
  cases hi
theorem self_hear(hX0:Mw X.log.length+4<=X0)(h:CInv k g S C)(ps:PS k C)(hn:C.net=m::r)(hX:C.x[m.to.toNat]? =some X)(h1:X.role=3)(h6:m.kind=6)(ht:m.term=X.term)
  {q nx:Nat} {T1 T2:List RM} (hf:HearF k m.to.toNat m.from_.toNat X (Qaa X m) q nx T1 T2)
  (hpop:xP (decide (X.term<(nd C m.from_.toNat).term)) X.log.length (nd C m.from_.toNat).commit.toNat q (items r m.to.toNat m.from_.toNat X.term++items (T2.take (512 -r.length -T1.length)) m.to.toNat m.from_.toNat X.term)+2*(T2.take (512 -r.length -T1.length)).length+2*(nx -q -1)<=xP (decide (X.term<(nd C m.from_.toNat).term)) X.log.length (nd C m.from_.toNat).commit.toNat (X.matc m.from_.toNat).toNat ((if m.yes=true then .Y m.index.toNat else .N)::items r m.to.toNat m.from_.toNat X.term)+2*((X.next m.from_.toNat).toNat -(X.matc m.from_.toNat).toNat -1))
  (hok:¬X.term<(nd C m.from_.toNat).term->POK q nx (items r m.to.toNat m.from_.toNat X.term)):
  bWs ((Qaa X m).out.take (512 -r.length))+ph k X0 LC (QaX C) m.to.toNat+1<=bW m+ph k X0 LC C m.to.toNat:=by
 have hmm:m∈C.net:=by rw[hn];exact List.mem_cons_self ..
 have w3:=(h.net m hmm).2.2
 have c:=h.node _ X hX
 have hto:m.to=((m.to.toNat:Nat):Int):=by have:=w3.t;omega
 have hfr:m.from_=((m.from_.toNat:Nat):Int):=by have:=w3.f;omega
 have hff:m.from_.toNat<k:=by have:=w3.f;omega
 have hne:m.from_.toNat≠m.to.toNat:=by have:=w3.ne;omega
 have hcap:=h.capr hn
 have hik:m.to.toNat<C.x.length:=by rw[h.len];exact c.ni.ik
 obtain⟨X',hX',hd⟩:=QmC h hn
 rw[hX] at hX'
 injection hX' with hX'
 subst hX'
 rw[hd]
 generalize hY:Qaa X m=Y at*
 generalize hi0:m.to.toNat=i0 at*
 generalize hf0:m.from_.toNat=f0 at*
 have hnet:(Qg8 C i0 Y r).net=r++Y.out.take (512 -r.length):=Qdq (by omega)
 have hsplit:Y.out.take (512 -r.length)=T1.take (512 -r.length)++T2.take (512 -r.length -T1.length):=by rw[hf.out,List.take_append]
 generalize hO1:T1.take (512 -r.length)=O1 at*
 generalize hO2:T2.take (512 -r.length -T1.length)=O2 at*
 have hid:X.id=(i0:Int):=c.ni.id
 have hT1:∀o∈T1,o.kind=5/\o.from_=(i0:Int)/\o.term=Y.term/\∃f,f<k/\f≠i0/\o.to=(f:Int)/\o.index=Y.next f -1:=by
  rcases hf.t1 with e|⟨W,a,b,d,_,e⟩
  ·rw[e];intro o ho;cases ho
  ·rw[e];exact QfK (a.trans hid) (by rw[b,hf.term]) d
 have hT2:∀o∈T2,o.kind=5/\o.from_=(i0:Int)/\o.term=Y.term/\∃f,f<k/\f≠i0/\o.to=(f:Int)/\o.index=Y.next f -1:=by
  rcases hf.t2 with e|⟨W,a,b,d,_,e⟩
  ·rw[e];intro o ho;cases ho
  ·rw[e];intro o ho
   rw[List.mem_singleton] at ho
   subst ho
   exact⟨rfl,a.trans hid,by show W.term=_;rw[b,hf.term],f0,hff,hne,rfl,by show W.next f0 -1=_;rw[d]⟩
 have hOk1:∀o∈O1,o.kind=5/\o.from_=(i0:Int)/\o.term=Y.term/\∃f,f<k/\f≠i0/\o.to=(f:Int)/\o.index=Y.next f -1:=fun o ho=>hT1 o (by rw[<-hO1] at ho;exact Qad ho)
 have hOk2:∀o∈O2,o.kind=5/\o.from_=(i0:Int)/\o.term=Y.term/\∃f,f<k/\f≠i0/\o.to=(f:Int)/\o.index=Y.next f -1:=fun o ho=>hT2 o (by rw[<-hO2] at ho;exact Qad ho)
 have hO2f:∀f,f≠f0->items O2 i0 f X.term= []:=fun f hff'=>Qcf fun o ho=>by
  have ho:o∈T2:=by rw[<-hO2] at ho;exact Qad ho
  rcases hf.t2 with e|⟨W,a,b,d,_,e⟩
  ·rw[e] at ho;cases ho
  ·rw[e,List.mem_singleton] at ho
   subst ho
   unfold QaD
   rw[if_neg fun x=>by have:((f0:Nat):Int)=f:=x.2.2;omega,if_neg fun x=>absurd x.1 (by decide:¬(5:Int)=6)]
 have hO1l:O1.length<=k -1:=by
  rw[<-hO1,List.length_take]
  rcases hf.t1 with e|⟨W,a,b,d,_,e⟩
  ·rw[e,List.length_nil];omega
  ·rw[e,List.length_map]
   have:=Qbt (X:=W) (k:=k) (i:=i0) (a.trans hid) c.ni.ik
   omega
 unfold ph
 rw[Qhk hik,Qcc hX,if_pos (show(Qae Y).role=3 from hf.role),if_pos h1,hnet,prs_N (N:=nd C) fun j hj=>Qc2 hj,hsplit]
 have hhead:items (m::r) i0 f0 X.term=(if m.yes=true then .Y m.index.toNat else .N)::items r i0 f0 X.term:=Qbo (Qhp h6 hfr hto ht)
 have hother:∀f,f≠f0->f≠i0->items (m::r) i0 f X.term=items r i0 f X.term:=fun f e1 e2=>QbM (by
  unfold QaD
  rw[if_neg fun x=>by have:=x.1;omega,if_neg fun x=>by have:=x.2.1;omega])
 have p1:prs k i0 (Qae Y) (nd C) (fun f=>items r i0 f X.term++items O2 i0 f X.term)+2*exc k i0 (Qae Y)+2*O2.length<=prs k i0 X (nd C) (fun f=>items C.net i0 f X.term)+2*exc k i0 X:=by
  unfold prs exc
  rw[<-Qi2,<-Qi2,<-Qd0,<-Qd0]
  refine QdZ (b:=0) hff (fun f hfk hff'=> ?_) ?_
  ·by_cases e:f=i0
   ·simp only[if_pos e];exact Nat.le_refl _
   ·simp only[if_neg e]
    show xP (decide (Y.term<_)) Y.log.length _ (Y.matc f).toNat (items r i0 f X.term++items O2 i0 f X.term)+2*((Y.next f).toNat -(Y.matc f).toNat -1)<=_
    rw[hO2f f hff',List.append_nil,hf.term,hf.log,hf.matc f hff',hf.next f hff',hn,hother f hff' e]
    exact Nat.le_refl _
  ·simp only[if_neg hne]
   show xP (decide (Y.term<_)) Y.log.length _ (Y.matc f0).toNat (items r i0 f0 X.term++items O2 i0 f0 X.term)+2*((Y.next f0).toNat -(Y.matc f0).toNat -1)+2*O2.length<=_
   rw[hf.term,hf.log,hf.mq,hf.nq,hn,hhead]
   have:=hpop
   omega
 have p2:=Qlz (k:=k) (X0:=X0) (i:=i0) (X:=Qae Y) (N:=nd C) (T:=X.term) hf.term (by show Mw Y.log.length+4<=X0;rw[hf.log];exact hX0) O1 (fun o ho=>by have:=hOk1 o ho;rw[hf.term] at this;exact this) (fun f=>items r i0 f X.term++items O2 i0 f X.term) fun f hfk hfi hlt=>by
  have hlt:¬Y.term<(nd C f).term:=hlt
  rw[hf.term] at hlt
  show POK (Y.matc f).toNat (Y.next f).toNat (items r i0 f X.term++items O2 i0 f X.term)
  by_cases e:f=f0
  ·subst e
   rw[hf.mq,hf.nq]
   have ok:=hok hlt
   rcases hf.t2 with e2|⟨W,a,b,d,_,e2⟩
   ·have:O2= []:=by rw[<-hO2,e2,List.take_nil]
    rw[this]
    show POK q nx (_++ [])
    rw[List.append_nil];exact ok
   ·have:O2= []\/O2= [Qbk W f]:=by
     rw[<-hO2,e2]
     cases(512 -r.length -T1.length) with
     |zero=>exact .inl rfl
     |succ n=>exact .inr (by rw[List.take_succ_cons,List.take_nil])
    rcases this with e3|e3
    ·rw[e3]
     show POK q nx (_++ [])
     rw[List.append_nil];exact ok
    ·have hitem:items O2 i0 f X.term= [.A (nx -1)]:=by
      rw[e3,Qbo (x:= .A (nx -1)) ?_]
      ·rfl
      ·unfold QaD
       rw[if_pos ⟨rfl,a.trans hid,rfl⟩,if_pos (show(Qbk W f).term=X.term from b)]
       show some (It.A (W.next f -1).toNat)=_
       rw[d]
       have:=hf.nq
       have:=hf.nq0
       congr 2
       omega
     rw[hitem]
     unfold POK at ok⊢
     split
     ·rename_i h0
      rw[if_pos h0] at ok
      exact ok.send
     ·rename_i h0
      rw[if_neg h0] at ok
      exact⟨ok.1,ok.2.app fun b hb=>by injection hb with hb;omega⟩
  ·rw[hO2f f e,List.append_nil,hf.matc f e,hf.next f e]
   have:=ps i0 f c.ni.ik hfk hfi (by rw[Qcc hX];exact h1) (by rw[Qcc hX];omega)
   rw[Qcc hX,hn,hother f e hfi] at this
   exact this
 have p3:prs k i0 (Qae Y) (nd C) (fun f=>items (r++(O1++O2)) i0 f (Qae Y).term)=prs k i0 (Qae Y) (nd C) (fun f=>(items r i0 f X.term++items O2 i0 f X.term)++items O1 i0 f X.term):=QbE fun f hfk=>by
  by_cases e:f=i0
  ·show(if f=i0 then 0 else _)=(if f=i0 then 0 else _)
   rw[if_pos e,if_pos e]
  ·show(if f=i0 then 0 else xP _ _ _ _ (items (r++(O1++O2)) i0 f Y.term))=(if f=i0 then 0 else xP _ _ _ _ ((items r i0 f X.term++items O2 i0 f X.term)++items O1 i0 f X.term))
   rw[if_neg e,if_neg e,hf.term,QaW,QaW,List.append_assoc,swap_reps (a:= .A ((Y.next f).toNat -1)) (l1:=items O1 i0 f X.term) (l2:=items O2 i0 f X.term)]
   ·exact Qdi (nx:=0) fun o ho=>by have:=hOk1 o ho;rw[hf.term] at this;exact this
   ·exact Qdi (nx:=0) fun o ho=>by have:=hOk2 o ho;rw[hf.term] at this;exact this
 rw[p3]
 have hb:=QmG (O1++O2)
 rw[List.length_append] at hb
 have hown:=hf.own
 have hbw:bW m=1:=by unfold bW;rw[if_neg (by omega)]
 rw[hbw]
 by_cases hz:T1= []
 ·have:O1= []:=by rw[<-hO1,hz,List.take_nil]
  rw[this] at p2 hb⊢
  have h9:=Nat.mul_le_mul_right ((k -1)*X0) hown.1
  simp only[List.length_nil,Nat.zero_mul] at p2 hb
  omega
 ·have h9:=Nat.mul_le_mul_right ((k -1)*X0) (hown.2 hz)
  rw[Nat.succ_mul] at h9
  have h10:O1.length*X0<=(k -1)*X0:=Nat.mul_le_mul_right _ hO1l
  omega
theorem CInv.commit_le(h:CInv k g S C)(hX:C.x[f]? =some X)(hL:C.x[i]? =some L)(h2:L.role=3)(e:X.term=L.term):X.commit<=L.log.length:=by
 have c:=h.node f X hX
 have Ld:=(h.node i L hL).ni.lead h2
 have h3:=Cm.pre h.gi.L c.ni.com (by rw[e,Ld.ll];exact Ld.ne)
 rw[e,Ld.ll] at h3
 have:=Qbf h3
 rw[List.length_take] at this
 have:=c.ni.c1
 omega
theorem hear_own{Z:RN}(h0:0<=Z.commit):∃T1,(Qaf Z).out=Z.out++T1/\(T1= []\/∃W:RN,W.id=Z.id/\W.term=Z.term/\W.next=Z.next/\W.log=Z.log/\T1=(Qax W Z.n.toNat).map (Qbk W))/\QcW (Qae (Qaf Z))<=QcW Z/\(T1≠ []->QcW (Qae (Qaf Z))+1<=QcW Z):=by
 unfold Qaf
 split
 ·exact⟨[],(List.append_nil _).symm,.inl rfl,Nat.le_refl _,fun e=>absurd rfl e⟩
 ·rename_i c hc
  have:=ownU_commit hc h0
  have e:QcW (Qae (Qa4 {Z with commit:=(c:Int)}))=QcW {Z with commit:=(c:Int)}:=rfl
  exact⟨(Qax {Z with commit:=(c:Int)} Z.n.toNat).map (Qbk {Z with commit:=(c:Int)}),rfl,.inr ⟨{Z with commit:=(c:Int)},rfl,rfl,rfl,rfl,rfl⟩,by rw[e];omega,fun _=>by rw[e];exact this⟩
theorem hear_all(h:CInv k g S C)(ps:PS k C)(hn:C.net=m::r)(hX:C.x[m.to.toNat]? =some X)(h1:X.role=3)(h6:m.kind=6)(ht:m.term=X.term)(hY:Qaa X m=QaC X m):
  ∃q nx T1 T2,HearF k m.to.toNat m.from_.toNat X (Qaa X m) q nx T1 T2/\
  (xP (decide (X.term<(nd C m.from_.toNat).term)) X.log.length (nd C m.from_.toNat).commit.toNat q (items r m.to.toNat m.from_.toNat X.term++items (T2.take (512 -r.length -T1.length)) m.to.toNat m.from_.toNat X.term)+2*(T2.take (512 -r.length -T1.length)).length+2*(nx -q -1)<=xP (decide (X.term<(nd C m.from_.toNat).term)) X.log.length (nd C m.from_.toNat).commit.toNat (X.matc m.from_.toNat).toNat ((if m.yes=true then .Y m.index.toNat else .N)::items r m.to.toNat m.from_.toNat X.term)+2*((X.next m.from_.toNat).toNat -(X.matc m.from_.toNat).toNat -1))/\
  (¬X.term<(nd C m.from_.toNat).term->POK q nx (items r m.to.toNat m.from_.toNat X.term)):=by
 have hmm:m∈C.net:=by rw[hn];exact List.mem_cons_self ..
 have w:=h.net m hmm
 have w3:=w.2.2
 have c:=h.node _ X hX
 have Ld:=c.ni.lead h1
 have hto:m.to=((m.to.toNat:Nat):Int):=by have:=w3.t;omega
 have hfr:m.from_=((m.from_.toNat:Nat):Int):=by have:=w3.f;omega
 have hff:m.from_.toNat<k:=by have:=w3.f;omega
 have hne:m.from_.toNat≠m.to.toNat:=by have:=w3.ne;omega
 have hmt:=Ld.mt _ hff hne
 have hnx:=Ld.nx _ hff hne
 have hl0:1<=X.log.length:=by have:=List.length_pos_iff.2 Ld.ne;omega
 have hack:=h.gi.A m.from_.toNat X.term
 rw[Ld.ll] at hack
 have hitem:=Qhp h6 hfr hto ht
 have hps:¬X.term<(nd C m.from_.toNat).term->POK (X.matc m.from_.toNat).toNat (X.next m.from_.toNat).toNat ((if m.yes=true then .Y m.index.toNat else .N)::items r m.to.toNat m.from_.toNat X.term):=fun hlt=>by
  have:=ps _ _ c.ni.ik hff hne (by rw[Qcc hX];exact h1) (by rw[Qcc hX];omega)
  rw[Qcc hX,hn,Qbo hitem] at this
  exact this
 have hlk:=c.xi.nx h1 _ hff hne
 have hout0:=c.out
 have hcm0:=c.ni.c0
 have hn':X.n.toNat=k:=by rw[c.ni.n];exact Int.toNat_natCast k
 unfold QaC at hY
 rw[if_neg (fun x=>x h1)] at hY
 by_cases hy:m.yes=true/\0<=m.index/\m.index<=X.log.length
 ·
  rw[if_pos hy] at hY
  obtain⟨hy1,hy2,hy3⟩:=hy
  rw[if_pos hy1] at hps
  have hi1:¬X.term<(nd C m.from_.toNat).term->(X.matc m.from_.toNat).toNat=0->1<=m.index.toNat:=fun hlt h0=>by
   have:=hps hlt
   unfold POK at this
   rw[if_pos h0] at this
   exact(this.y _ (List.mem_cons_self ..)).1
  obtain⟨T1,a1,a2,a3,a4⟩:=hear_own (Z:=Qau X m.from_.toNat m.index) hcm0
  obtain⟨k1,k2,k3,k4,k5,k6,k7,k8⟩:=Qan (Qau X m.from_.toNat m.index)
  have hm1:(Qaf (Qau X m.from_.toNat m.index)).matc m.from_.toNat=mx (X.matc m.from_.toNat) m.index:=by
   rw[k8];show upd X.matc m.from_.toNat _ m.from_.toNat=_;unfold upd;rw[if_pos rfl]
  have hn1:(Qaf (Qau X m.from_.toNat m.index)).next m.from_.toNat=mx (X.matc m.from_.toNat) m.index+1:=by
   rw[k7];show upd X.next m.from_.toNat _ m.from_.toNat=_;unfold upd;rw[if_pos rfl]
  have hmx:(mx (X.matc m.from_.toNat) m.index).toNat=max (X.matc m.from_.toNat).toNat m.index.toNat/\0<=mx (X.matc m.from_.toNat) m.index:=by
   unfold mx;split<;>omega
  have hown0:QcW (Qau X m.from_.toNat m.index)=QcW X:=rfl
  have a1:(Qaf (Qau X m.from_.toNat m.index)).out=T1:=by rw[a1];show X.out++T1=T1;rw[hout0];rfl
  have base:∀T2:List RM,(T2= []\/∃W:RN,W.id=X.id/\W.term=X.term/\W.next=(Qaa X m).next/\W.log=X.log/\T2= [Qbk W m.from_.toNat])->(Qaa X m).term=X.term->(Qaa X m).log=X.log->(Qaa X m).role=3->(Qaa X m).out=T1++T2->(Qaa X m).matc=(Qaf (Qau X m.from_.toNat m.index)).matc->(Qaa X m).next=(Qaf (Qau X m.from_.toNat m.index)).next->QcW (Qae (Qaa X m))=QcW (Qae (Qaf (Qau X m.from_.toNat m.index)))->
    HearF k m.to.toNat m.from_.toNat X (Qaa X m) (max (X.matc m.from_.toNat).toNat m.index.toNat) (max (X.matc m.from_.toNat).toNat m.index.toNat+1) T1 T2:=fun T2 b0 b1 b2 b3 b4 b5 b6 b7=>by
   refine⟨b1,b2,b3,b4,fun f hf=> ?_,fun f hf=> ?_,by rw[b5,hm1];exact hmx.1,by rw[b6,hn1];omega,by rw[b6,hn1];omega, ?_,b0, ?_⟩
   ·rw[b5,k8];show upd X.matc _ _ f=_;unfold upd;rw[if_neg hf]
   ·rw[b6,k7];show upd X.next _ _ f=_;unfold upd;rw[if_neg hf]
   ·rcases a2 with e|⟨W,c1,c2,c3,c5,c4⟩
    ·exact .inl e
    ·exact .inr ⟨W,c1,c2,by rw[b6,k7];exact c3,c5,by rw[c4];show(Qax W X.n.toNat).map _=_;rw[hn']⟩
   ·rw[b7,<-hown0];exact⟨a3,a4⟩
  have hyes:=fun c=>xP_yes (br:=decide (X.term<(nd C m.from_.toNat).term)) (l:=X.log.length) (c:=c) (hv:=(X.matc m.from_.toNat).toNat) (i:=m.index.toNat) (r:=items r m.to.toNat m.from_.toNat X.term) fun e=>hi1 (by rw[decide_eq_false_iff_not] at e;exact e)
  have hok:¬X.term<(nd C m.from_.toNat).term->POK (max (X.matc m.from_.toNat).toNat m.index.toNat) (max (X.matc m.from_.toNat).toNat m.index.toNat+1) (items r m.to.toNat m.from_.toNat X.term):=fun hlt=>by
   have ok:=hps hlt
   have h11:=hi1 hlt
   unfold POK at ok⊢
   rw[if_neg (by omega)]
   refine⟨rfl, ?_⟩
   split at ok
   ·rename_i h0
    exact fun a ha=>Nat.le_trans ((ok.y _ (List.mem_cons_self ..)).2.2 a (List.mem_cons_of_mem _ ha)) (Nat.le_max_right _ _)
   ·exact ok.2.tail.up (Nat.le_max_left _ _)
  have hnil:∀c,xP (decide (X.term<(nd C m.from_.toNat).term)) X.log.length c (max (X.matc m.from_.toNat).toNat m.index.toNat) (items r m.to.toNat m.from_.toNat X.term++items [] m.to.toNat m.from_.toNat X.term)+2*([]:List RM).length+2*(max (X.matc m.from_.toNat).toNat m.index.toNat+1 -max (X.matc m.from_.toNat).toNat m.index.toNat -1)<=xP (decide (X.term<(nd C m.from_.toNat).term)) X.log.length c (X.matc m.from_.toNat).toNat (.Y m.index.toNat::items r m.to.toNat m.from_.toNat X.term)+2*((X.next m.from_.toNat).toNat -(X.matc m.from_.toNat).toNat -1):=fun c=>by
   have:=(hyes c).1
   show xP _ _ _ _ (_++ [])+2*0+_<=_
   rw[List.append_nil]
   omega
  by_cases hlast:(Qaf (Qau X m.from_.toNat m.index)).matc m.from_.toNat<X.log.length
  ·rw[if_pos hlast] at hY
   have hf:=base [Qbk (Qaf (Qau X m.from_.toNat m.index)) m.from_.toNat] (.inr ⟨Qaf (Qau X m.from_.toNat m.index),(QeK _).1,k1,by rw[hY];rfl,k3,rfl⟩) (by rw[hY];exact k1) (by rw[hY];exact k3) (by rw[hY];exact k2.trans h1) (by rw[hY];show(Qaf _).out++ [_]=_;rw[a1]) (by rw[hY];rfl) (by rw[hY];rfl) (by rw[hY];rfl)
   refine⟨_,_,_,_,hf, ?_,hok⟩
   rw[if_pos hy1]
   cases hN:(512 -r.length -T1.length) with
   |zero=>exact hnil _
   |succ n=>
    rw[List.take_succ_cons,List.take_nil]
    have hq:max (X.matc m.from_.toNat).toNat m.index.toNat<X.log.length:=by rw[hm1] at hlast;omega
    have:=(hyes (nd C m.from_.toNat).commit.toNat).2 hq
    have hit:items [Qbk (Qaf (Qau X m.from_.toNat m.index)) m.from_.toNat] m.to.toNat m.from_.toNat X.term= [.A (max (X.matc m.from_.toNat).toNat m.index.toNat)]:=by
     rw[Qbo (x:= .A (max (X.matc m.from_.toNat).toNat m.index.toNat)) ?_]
     ·rfl
     ·unfold QaD
      rw[if_pos ⟨rfl,(QeK (Qau X m.from_.toNat m.index)).1.trans c.ni.id,rfl⟩,if_pos (show(Qbk (Qaf (Qau X m.from_.toNat m.index)) m.from_.toNat).term=X.term from k1)]
      show some (It.A ((Qaf (Qau X m.from_.toNat m.index)).next m.from_.toNat -1).toNat)=_
      rw[hn1]
      congr 2
      omega
    rw[hit]
    show _+2*1+_<=_
    omega
  ·rw[if_neg hlast] at hY
   have hf:=base [] (.inl rfl) (by rw[hY];exact k1) (by rw[hY];exact k3) (by rw[hY];exact k2.trans h1) (by rw[hY,a1,List.append_nil]) (by rw[hY]) (by rw[hY]) (by rw[hY])
   refine⟨_,_,_,_,hf, ?_,hok⟩
   rw[if_pos hy1,List.take_nil]
   exact hnil _
 ·rw[if_neg hy] at hY
  by_cases hno:m.yes=false
  ·
   rw[if_pos hno] at hY
   rw[if_neg (by rw[hno];decide)] at hps
   have hnx2:(Qcx X m.from_.toNat m.index).next m.from_.toNat=mx (mn (mn (mx m.index 0) X.log.length+1) (X.next m.from_.toNat -1)) (X.matc m.from_.toNat+1):=by
    show upd X.next m.from_.toNat _ m.from_.toNat=_;unfold upd;rw[if_pos rfl]
   have hnb:X.matc m.from_.toNat+1<=mx (mn (mn (mx m.index 0) X.log.length+1) (X.next m.from_.toNat -1)) (X.matc m.from_.toNat+1)/\(mx (mn (mn (mx m.index 0) X.log.length+1) (X.next m.from_.toNat -1)) (X.matc m.from_.toNat+1)+1<=X.next m.from_.toNat\/mx (mn (mn (mx m.index 0) X.log.length+1) (X.next m.from_.toNat -1)) (X.matc m.from_.toNat+1)=X.matc m.from_.toNat+1):=by
    unfold mx mn
    repeat' split
    all_goals omega
   generalize hNX:mx (mn (mn (mx m.index 0) X.log.length+1) (X.next m.from_.toNat -1)) (X.matc m.from_.toNat+1)=NX at*
   have hnl:NX<=X.next m.from_.toNat:=by omega
   have hf:HearF k m.to.toNat m.from_.toNat X (Qaa X m) (X.matc m.from_.toNat).toNat NX.toNat [] [Qbk (Qcx X m.from_.toNat m.index) m.from_.toNat]:=by
    refine⟨by rw[hY];rfl,by rw[hY];rfl,by rw[hY];exact h1,by rw[hY];show X.out++ [_]=_;rw[hout0],fun f hf=>by rw[hY];rfl,fun f hf=> ?_,by rw[hY];rfl, ?_, ?_,.inl rfl,.inr ⟨Qcx X m.from_.toNat m.index,rfl,rfl,by rw[hY];rfl,rfl,rfl⟩,by rw[hY];exact Nat.le_refl _,fun e=>absurd rfl e⟩
    ·rw[hY];show upd X.next _ _ f=_;unfold upd;rw[if_neg hf]
    ·rw[hY];show((Qcx X m.from_.toNat m.index).next m.from_.toNat).toNat=_;rw[hnx2]
    ·rw[hY];show 1<=(Qcx X m.from_.toNat m.index).next m.from_.toNat;rw[hnx2];omega
   have hlk1:X.matc m.from_.toNat≠0->NX=X.matc m.from_.toNat+1:=fun h0=>by omega
   refine⟨_,_,_,_,hf, ?_,fun hlt=> ?_⟩
   ·rw[if_neg (by rw[hno];decide)]
    have hpo:=xP_no (br:=decide (X.term<(nd C m.from_.toNat).term)) (l:=X.log.length) (c:=(nd C m.from_.toNat).commit.toNat) (hv:=(X.matc m.from_.toNat).toNat) (nx:=(X.next m.from_.toNat).toNat) (nx':=NX.toNat) (r:=items r m.to.toNat m.from_.toNat X.term) (fun e h0=>by
     rw[decide_eq_false_iff_not] at e
     have hF:=h.nd hff
     have:(nd C m.from_.toNat).term=X.term:=by
      rcases Int.lt_trichotomy (nd C m.from_.toNat).term X.term with x|x|x
      ·have:=h.have0 hF hX h1 hne x;omega
      ·exact x
      ·exact absurd x e
     have:=h.commit_le hF hX h1 this
     omega) (by omega) (by omega) (by omega) (fun _ h0=>by omega)
    simp only[List.length_nil,Nat.sub_zero]
    cases hN:(512 -r.length) with
    |zero=>
     have:=hpo.2
     show xP _ _ _ _ (_++ [])+2*0+_<=_
     rw[List.append_nil]
     omega
    |succ n=>
     rw[List.take_succ_cons,List.take_nil]
     have hit:items [Qbk (Qcx X m.from_.toNat m.index) m.from_.toNat] m.to.toNat m.from_.toNat X.term= [.A (NX.toNat -1)]:=by
      rw[Qbo (x:= .A (NX.toNat -1)) ?_]
      ·rfl
      ·unfold QaD
       rw[if_pos ⟨rfl,c.ni.id,rfl⟩,if_pos (show(Qbk (Qcx X m.from_.toNat m.index) m.from_.toNat).term=X.term from rfl)]
       show some (It.A ((Qcx X m.from_.toNat m.index).next m.from_.toNat -1).toNat)=_
       rw[hnx2]
       congr 2
       omega
     rw[hit]
     have:=hpo.1
     show _+2*1+_<=_
     omega
   ·have ok:=hps hlt
    unfold POK at ok⊢
    split
    ·rename_i h0
     rw[if_pos h0] at ok
     exact ok.tail.less (by omega)
    ·rename_i h0
     rw[if_neg h0] at ok
     exact⟨by omega,ok.2.tail⟩
  ·
   rw[if_neg hno] at hY
   have hyt:m.yes=true:=by
    cases e:m.yes
    ·exact absurd e hno
    ·rfl
   have hidx:m.index.toNat=0:=by
    have:=w.1.2.2.2 h6 hyt
    rw[ht] at this
    have:¬(0<=m.index/\m.index<=X.log.length):=fun x=>hy ⟨hyt,x⟩
    omega
   rw[if_pos hyt] at hps
   have hf:HearF k m.to.toNat m.from_.toNat X (Qaa X m) (X.matc m.from_.toNat).toNat (X.next m.from_.toNat).toNat [] []:=
    ⟨by rw[hY];rfl,by rw[hY];rfl,by rw[hY];exact h1,by rw[hY];exact hout0,fun f hf=>by rw[hY];rfl,fun f hf=>by rw[hY];rfl,by rw[hY];rfl,by rw[hY];rfl,by rw[hY];exact hnx.1,.inl rfl,.inl rfl,by rw[hY];exact Nat.le_refl _,fun e=>absurd rfl e⟩
   refine⟨_,_,_,_,hf, ?_,fun hlt=> ?_⟩
   ·rw[if_pos hyt,List.take_nil,hidx]
    have:=(xP_yes (br:=decide (X.term<(nd C m.from_.toNat).term)) (l:=X.log.length) (c:=(nd C m.from_.toNat).commit.toNat) (hv:=(X.matc m.from_.toNat).toNat) (i:=0) (r:=items r m.to.toNat m.from_.toNat X.term) fun e h0=>by
     rw[decide_eq_false_iff_not] at e
     have ok:=hps e
     unfold POK at ok
     rw[if_pos h0,hidx] at ok
     exact(ok.y _ (List.mem_cons_self ..)).1).1
    rw[Nat.max_eq_left (Nat.zero_le _)] at this
    show xP _ _ _ _ (_++ [])+2*0+_<=_
    rw[List.append_nil]
    omega
   ·have ok:=hps hlt
    unfold POK at ok⊢
    split
    ·rename_i h0
     rw[if_pos h0] at ok
     exact ok.tail
    ·rename_i h0
     rw[if_neg h0] at ok
     exact⟨ok.1,ok.2.tail⟩
theorem self_hears(hX0:Mw X.log.length+4<=X0)(h:CInv k g S C)(ps:PS k C)(hn:C.net=m::r)(hX:C.x[m.to.toNat]? =some X)(h1:X.role=3)(h6:m.kind=6)(ht:m.term=X.term)(hY:Qaa X m=QaC X m):
  bWs ((Qaa X m).out.take (512 -r.length))+ph k X0 LC (QaX C) m.to.toNat+1<=bW m+ph k X0 LC C m.to.toNat:=by
 obtain⟨q,nx,T1,T2,a,b,d⟩:=hear_all h ps hn hX h1 h6 ht hY
 exact self_hear hX0 h ps hn hX h1 h6 ht a b d
end
section
variable {k X0 LC:Nat}{g g':GH}{i f S:Nat}{X Y F L W:RN}{m:RM}{C:CS}{r:List RM}
theorem QeJ{t:Nat}(h:1<=W.next t):(Qbk W t).ents.length=min 8 (W.log.length -(Qbk W t).index.toNat):=by
 show(Qgr W.log (W.next t -1+1) 8).length=min 8 (W.log.length -(W.next t -1).toNat)
 unfold Qgr
 rw[List.length_take,List.length_drop]
 have:(if 1>W.next t -1+1 then 1 else W.next t -1+1).toNat -1=(W.next t -1).toNat:=by
  split<;>omega
 rw[this]
 rfl
theorem Qjh(hc:QaR X m)(c:CN k g S i X)(w:WM k m)(hto:m.to=i)(hr:(Qaa X m).role≠3)(hl:X.log.length<1024):∀o∈(Qaa X m).out,o.kind≠5:=by
 have c5:=hc.2.2.2.2.1
 have c6:=hc.2.2.2.2.2.1
 have hna:¬QaF X (2^X.id.toNat):=Qcy (X:=X) (m:=m) c.ni ⟨w.f.1,by rw[c.ni.n];exact w.f.2,by rw[c.ni.id,<-hto];exact w.ne⟩
 have hnil:∀o∈X.out,o.kind≠5:=by rw[c.out];intro o ho;cases ho
 by_cases k1:m.kind=1
 ·rw[st1 hc k1]
  intro o ho
  rcases List.mem_append.1 (show o∈X.out++ [_] from ho) with e|e
  ·exact hnil o e
  ·rw[List.mem_singleton] at e;subst e;exact(by decide:(2:Int)≠5)
 by_cases k2:m.kind=2
 ·rw[st2 hc k2]
  unfold QaS
  split
  ·unfold Qai;split<;>exact hnil
  split
  ·split
   ·unfold QaU
    rw[if_neg (show ¬QaF {X with votes:=X.votes|||2^m.from_.toNat} (2^X.id.toNat) from hna)]
    intro o ho
    rcases List.mem_append.1 ho with e|e
    ·exact hnil o e
    ·obtain⟨t,_,rfl⟩:=List.mem_map.1 e
     exact(by decide:(3:Int)≠5)
   ·exact hnil
  ·exact hnil
 by_cases ht:m.term<X.term
 ·rw[Qi4 hc (by omega) ht]
  split
  ·intro o ho
   rcases List.mem_append.1 (show o∈X.out++ [_] from ho) with e|e
   ·exact hnil o e
   ·rw[List.mem_singleton] at e;subst e;exact(by decide:(6:Int)≠5)
  ·exact hnil
 have ht:X.term<=m.term:=by omega
 obtain⟨z1,z2,z3,z4,z5,z6,z7⟩:=Qbl X m
 have hz:∀o∈(Qab X m).out,o.kind≠5:=by rw[z3];exact hnil
 by_cases k3:m.kind=3
 ·rw[st3 hc k3 ht]
  intro o ho
  rcases List.mem_append.1 (show o∈(if Qbm (Qab X m) m then{(Qab X m) with hard:=(Qab X m).hard||((Qab X m).vote !=m.from_),vote:=m.from_,since:=0} else Qab X m).out++ [_] from ho) with e|e
  ·refine hz o ?_
   split at e<;>exact e
  ·rw[List.mem_singleton] at e;subst e;exact(by decide:(4:Int)≠5)
 by_cases k4:m.kind=4
 ·rw[st4 hc k4 ht] at hr⊢
  unfold Qar at hr⊢
  split
  ·exact hz
  rename_i hno
  rw[if_neg hno] at hr
  have hr2:(Qab X m).role=2:=Decidable.byContradiction fun x=>hno (.inr x)
  have hXe:Qab X m=X:=by
   rcases QaO X m with e|⟨e,_⟩
   ·rw[e] at hr2;exact absurd hr2 (by decide)
   ·exact e
  rw[hXe] at hr hr2⊢
  split
  ·rename_i hmo
   rw[if_pos hmo] at hr
   exfalso
   apply hr
   have cd:=c.ni.cand hr2
   have:=Qce c.ni.d.ter c.ni.d.t0
   rw[Qgo (Z:={X with votes:=X.votes|||2^m.from_.toNat}) (show ¬X.term<Qa9 X.log by omega) hl]
   exact(Qan _).2.1
  ·exact hnil
 by_cases k5:m.kind=5
 ·rw[st5 hc k5 ht] at hr⊢
  by_cases hr3:(Qab X m).role=3
  ·unfold QaV at hr
   rw[if_pos hr3] at hr
   exact absurd hr3 hr
  have hap:(Qag (Qab X m) m).out= []:=by rw[Qaz];exact z3.trans c.out
  have key:∀Z:RN,Z.out= []->∀y idx,∀o∈(Qib Z m.from_ y idx).out,o.kind≠5:=fun Z h1 y idx o ho=>by
   rcases List.mem_append.1 (show o∈Z.out++ [_] from ho) with e|e
   ·rw[h1] at e;cases e
   ·rw[List.mem_singleton] at e;subst e;exact(by decide:(6:Int)≠5)
  rcases Qbd (Qab X m) m hr3 with⟨_,e⟩|⟨_,_,e⟩|⟨_,_,e⟩
  ·rw[e];exact key _ hap _ _
  ·rw[e];exact key _ hap _ _
  ·rw[e]
   exact key _ ((Qcw (Qag (Qab X m) m) m).2.2.2.2.2.trans hap) _ _
 ·rw[st6 hc (by omega) ht] at hr⊢
  have hr3:(Qab X m).role≠3:=fun x=>hr (by
   unfold QaC
   rw[if_neg (fun y=>y x)]
   split
   ·split<;>exact(Qan _).2.1.trans x
   split<;>exact x)
  unfold QaC
  rw[if_pos hr3];exact hz
structure CIc(c:Nat)(T:Int)(net:List RM):Prop where
 a:∀xs m ys,net=xs++m::ys->m.kind=3->m.from_=(c:Int)->m.term=T->∀o∈ys,¬(o.kind=5/\o.from_=(c:Int))
 b:∀xs m ys,net=xs++m::ys->m.kind=4->m.to=(c:Int)->m.yes=true->m.term=T->(∀o∈net,¬(o.kind=5/\o.from_=(c:Int)))/\∀o∈ys,¬(o.kind=6/\o.to=(c:Int)/\o.term=T)
def CI(k:Nat)(g:GH)(C:CS):Prop:=∀c,c<k->(nd C c).role=2->g.ll (nd C c).term= []->CIc c (nd C c).term C.net
theorem QcX{a b xs ys:List RM}{m:RM}(h:a++b=xs++m::ys):(∃ys',a=xs++m::ys'/\ys=ys'++b)\/(∃xs',b=xs'++m::ys/\xs=a++xs'):=by
 rcases List.append_eq_append_iff.1 h with⟨us,h1,h2⟩|⟨bs,h1,h2⟩
 ·exact .inr ⟨us,h2,h1⟩
 ·cases bs with
  |nil=>
   right
   refine⟨[], ?_, ?_⟩
   ·simpa using h2.symm
   ·simpa using h1.symm
  |cons x bs=>
   left
   rw[List.cons_append] at h2
   injection h2 with h2 h3
   subst h2
   exact⟨bs,h1,h3⟩
theorem CIc.more{c:Nat}{T:Int}{net O:List RM}(h:CIc c T net)(h5:∀o∈O,¬(o.kind=5/\o.from_=(c:Int)))(h3:∀o∈O,¬(o.kind=3/\o.from_=(c:Int)/\o.term=T))(h4:∀o∈O,¬(o.kind=4/\o.to=(c:Int)/\o.yes=true/\o.term=T))
  (h6:(∀o∈net,¬(o.kind=5/\o.from_=(c:Int)))->∀o∈O,¬(o.kind=6/\o.to=(c:Int)/\o.term=T)):CIc c T (net++O):=by
 refine⟨fun xs m ys e k1 k2 k3 o ho=> ?_,fun xs m ys e k1 k2 k3 k4=> ?_⟩
 ·rcases QcX e with⟨ys',e1,e2⟩|⟨xs',e1,e2⟩
  ·rw[e2] at ho
   rcases List.mem_append.1 ho with x|x
   ·exact h.a xs m ys' e1 k1 k2 k3 o x
   ·exact h5 o x
  ·exact absurd ⟨k1,k2,k3⟩ (h3 m (by rw[e1];simp))
 ·rcases QcX e with⟨ys',e1,e2⟩|⟨xs',e1,e2⟩
  ·obtain⟨b1,b2⟩:=h.b xs m ys' e1 k1 k2 k3 k4
   refine⟨fun o ho=> ?_,fun o ho=> ?_⟩
   ·rcases List.mem_append.1 ho with x|x
    ·exact b1 o x
    ·exact h5 o x
   ·rw[e2] at ho
    rcases List.mem_append.1 ho with x|x
    ·exact b2 o x
    ·exact h6 b1 o x
  ·exact absurd ⟨k1,k2,k3,k4⟩ (h4 m (by rw[e1];simp))
theorem CIc.tail{c:Nat}{T:Int}(h:CIc c T (m::r)):CIc c T r:=by
 refine⟨fun xs x ys e k1 k2 k3 o ho=>h.a (m::xs) x ys (by rw[e];rfl) k1 k2 k3 o ho,fun xs x ys e k1 k2 k3 k4=> ?_⟩
 obtain⟨b1,b2⟩:=h.b (m::xs) x ys (by rw[e];rfl) k1 k2 k3 k4
 exact⟨fun o ho=>b1 o (List.mem_cons_of_mem _ ho),b2⟩
theorem CI.lead(ci:CI k g C)(h:CInv k g S C)(hn:C.net=m::r)(hX:C.x[m.to.toNat]? =some X)(h1:X.role≠3)(h2:(Qaa X m).role=3):∀f,f<k->f≠m.to.toNat->items r m.to.toNat f X.term= []:=by
 have hmm:m∈C.net:=by rw[hn];exact List.mem_cons_self ..
 have w:=h.net m hmm
 have w3:=w.2.2
 have c:=h.node _ X hX
 have hto:m.to=((m.to.toNat:Nat):Int):=by have:=w3.t;omega
 have hid:X.id=m.to:=by rw[c.ni.id];exact hto.symm
 have hc:=Qcu h.gi w hid c.ni.n
 obtain⟨k4,e1,hr2,hy,hmo,_⟩:=Qcd hc c w3 hto h1 h2
 have hll:=Qhb h.gi c.ni w.1 k4 e1 hid.symm ⟨w3.f.1,by rw[c.ni.n];exact w3.f.2⟩ hy hr2 hmo
 have hci:=ci _ c.ni.ik (by rw[Qcc hX];exact hr2) (by rw[Qcc hX];exact hll)
 rw[Qcc hX] at hci
 obtain⟨b1,b2⟩:=hci.b [] m r hn k4 hto hy e1
 refine fun f hf hfi=>Qcf fun o ho=> ?_
 unfold QaD
 rw[if_neg fun x=>b1 o (by rw[hn];exact List.mem_cons_of_mem _ ho) ⟨x.1,x.2.1⟩,if_neg fun x=>b2 o ho ⟨x.1,x.2.2.1,x.2.2.2⟩]
end
section
variable {k X0 LC:Nat}{g g':GH}{i f S:Nat}{X Y F L W:RN}{m:RM}{C:CS}{r:List RM}
structure OF(X Y:RN)(m:RM)(o:RM):Prop where
 k3:o.kind=3->X.term<Y.term
 k4:o.kind=4->m.kind=3/\o.to=m.from_/\o.term=m.term
 k6:o.kind=6->m.kind=5/\o.to=m.from_
theorem OF.five{o:RM}(h:o.kind=5):OF X Y m o:=⟨fun e=>by omega,fun e=>by omega,fun e=>by omega⟩
theorem out_agree{Z:RN}(h:∀o∈Z.out,OF X Y m o):∀o∈(Qaf Z).out,OF X Y m o:=by
 unfold Qaf
 split
 ·exact h
 ·intro o ho
  rcases List.mem_append.1 ho with e|e
  ·exact h o e
  ·obtain⟨t,_,rfl⟩:=List.mem_map.1 e
   exact OF.five rfl
theorem out_leads{Z:RN}(h:∀o∈Z.out,OF X Y m o):∀o∈(Qbh Z).out,OF X Y m o:=by
 have key:∀o∈(Qc7 (Qay Z) ⟨#[]⟩).1.out,OF X Y m o:=by
  unfold Qc7
  split
  ·exact h
  split
  ·exact h
  ·refine out_agree fun o ho=> ?_
   rcases List.mem_append.1 ho with e|e
   ·exact h o e
   ·obtain⟨t,_,rfl⟩:=List.mem_map.1 e
    exact OF.five rfl
 unfold Qbh
 split
 ·unfold Qai;split<;>exact key
 ·exact key
theorem out_form(hc:QaR X m)(c:CN k g S i X)(w:WM k m)(hto:m.to=i):∀o∈(Qaa X m).out,OF X (Qaa X m) m o:=by
 have c5:=hc.2.2.2.2.1
 have c6:=hc.2.2.2.2.2.1
 have hna:¬QaF X (2^X.id.toNat):=Qcy (X:=X) (m:=m) c.ni ⟨w.f.1,by rw[c.ni.n];exact w.f.2,by rw[c.ni.id,<-hto];exact w.ne⟩
 have hnil:∀{Y:RN},∀o∈X.out,OF X Y m o:=by rw[c.out];intro _ o ho;cases ho
 have one:∀{Y Z:RN} {o':RM},Z.out= []->OF X Y m o'->∀o∈Z.out++ [o'],OF X Y m o:=fun hz h o ho=>by
  rw[hz,List.nil_append,List.mem_singleton] at ho
  rw[ho];exact h
 by_cases k1:m.kind=1
 ·rw[st1 hc k1]
  exact one (Z:=X) c.out ⟨fun e=>absurd e (by decide:¬(2:Int)=3),fun e=>absurd e (by decide:¬(2:Int)=4),fun e=>absurd e (by decide:¬(2:Int)=6)⟩
 by_cases k2:m.kind=2
 ·rw[st2 hc k2]
  unfold QaS
  split
  ·unfold Qai;split<;>exact hnil
  split
  ·split
   ·unfold QaU
    rw[if_neg (show ¬QaF {X with votes:=X.votes|||2^m.from_.toNat} (2^X.id.toNat) from hna)]
    intro o ho
    rcases List.mem_append.1 ho with e|e
    ·exact hnil o e
    ·obtain⟨t,_,rfl⟩:=List.mem_map.1 e
     exact⟨fun _=>(by show X.term<X.term+1;omega),fun e=>absurd e (by decide:¬(3:Int)=4),fun e=>absurd e (by decide:¬(3:Int)=6)⟩
   ·exact hnil
  ·exact hnil
 by_cases ht:m.term<X.term
 ·rw[Qi4 hc (by omega) ht]
  split
  ·rename_i k5
   exact one (Z:=X) c.out ⟨fun e=>absurd e (by decide:¬(6:Int)=3),fun e=>absurd e (by decide:¬(6:Int)=4),fun _=>⟨k5,rfl⟩⟩
  ·exact hnil
 have ht:X.term<=m.term:=by omega
 obtain⟨z1,z2,z3,z4,z5,z6,z7⟩:=Qbl X m
 have hz:∀{Y:RN},∀o∈(Qab X m).out,OF X Y m o:=by rw[z3];exact hnil
 by_cases k3:m.kind=3
 ·rw[st3 hc k3 ht]
  have e1:(if Qbm (Qab X m) m then{(Qab X m) with hard:=(Qab X m).hard||((Qab X m).vote !=m.from_),vote:=m.from_,since:=0} else Qab X m).out= []:=by split<;>exact z3.trans c.out
  have e2:(if Qbm (Qab X m) m then{(Qab X m) with hard:=(Qab X m).hard||((Qab X m).vote !=m.from_),vote:=m.from_,since:=0} else Qab X m).term=m.term:=by split<;>exact QbN ht
  refine one e1 ⟨fun e=>absurd e (by decide:¬(4:Int)=3),fun _=>⟨k3,rfl, ?_⟩,fun e=>absurd e (by decide:¬(4:Int)=6)⟩
  exact QbN ht
 by_cases k4:m.kind=4
 ·rw[st4 hc k4 ht]
  unfold Qar
  split
  ·exact hz
  split
  ·exact out_leads (Z:={Qab X m with votes:=_}) hz
  ·exact hz
 by_cases k5:m.kind=5
 ·rw[st5 hc k5 ht]
  by_cases hr3:(Qab X m).role=3
  ·unfold QaV
   rw[if_pos hr3];exact hz
  have hap:(Qag (Qab X m) m).out= []:=by rw[Qaz];exact z3.trans c.out
  rcases Qbd (Qab X m) m hr3 with⟨_,e⟩|⟨_,_,e⟩|⟨_,_,e⟩
  ·rw[e];exact one (Z:=Qag (Qab X m) m) hap ⟨fun e=>absurd e (by decide:¬(6:Int)=3),fun e=>absurd e (by decide:¬(6:Int)=4),fun _=>⟨k5,rfl⟩⟩
  ·rw[e];exact one (Z:=Qag (Qab X m) m) hap ⟨fun e=>absurd e (by decide:¬(6:Int)=3),fun e=>absurd e (by decide:¬(6:Int)=4),fun _=>⟨k5,rfl⟩⟩
  ·rw[e];exact one (Z:=QbD (Qag (Qab X m) m) m) ((Qcw (Qag (Qab X m) m) m).2.2.2.2.2.trans hap) ⟨fun e=>absurd e (by decide:¬(6:Int)=3),fun e=>absurd e (by decide:¬(6:Int)=4),fun _=>⟨k5,rfl⟩⟩
 ·rw[st6 hc (by omega) ht]
  unfold QaC
  split
  ·exact hz
  split
  ·have hg:=out_agree (X:=X) (m:=m) (Y:=if(Qaf (Qau (Qab X m) m.from_.toNat m.index)).matc m.from_.toNat<(Qab X m).log.length then rTo (Qaf (Qau (Qab X m) m.from_.toNat m.index)) m.from_.toNat else Qaf (Qau (Qab X m) m.from_.toNat m.index)) (Z:=Qau (Qab X m) m.from_.toNat m.index) hz
   intro o ho
   by_cases hlt:(Qaf (Qau (Qab X m) m.from_.toNat m.index)).matc m.from_.toNat<(Qab X m).log.length
   ·rw[if_pos hlt] at ho
    rcases List.mem_append.1 ho with e|e
    ·exact hg o e
    ·rw[List.mem_singleton] at e;subst e;exact OF.five rfl
   ·rw[if_neg hlt] at ho
    exact hg o ho
  split
  ·intro o ho
   rcases List.mem_append.1 ho with e|e
   ·exact hz o e
   ·rw[List.mem_singleton] at e;subst e;exact OF.five rfl
  ·exact hz
theorem QnG(hc:QaR X m)(c:CN k g S i X)(hr:(Qaa X m).role=2)(hl:X.log.length<1024):(X.role=2/\(Qaa X m).term=X.term)\/X.term<(Qaa X m).term:=by
 have hst:=Qdn hc
 rcases Int.lt_or_eq_of_le hst.1 with h|h
 ·exact .inr h
 refine .inl ⟨?_,h.symm⟩
 have c5:=hc.2.2.2.2.1
 have c6:=hc.2.2.2.2.2.1
 by_cases k1:m.kind=1
 ·rw[st1 hc k1] at hr;exact hr
 by_cases k2:m.kind=2
 ·rw[st2 hc k2] at hr h
  unfold QaS at hr h
  split at hr
  ·unfold Qai at hr;split at hr<;>exact absurd hr (by decide:¬(0:Int)=2)
  rename_i hn1
  rw[if_neg hn1] at h
  split at hr
  ·rename_i hc2
   rw[if_pos hc2] at h
   split at hr
   ·rename_i hm
    rw[if_pos hm] at h
    exfalso
    have:(QaU {X with votes:=X.votes|||2^m.from_.toNat}).term=X.term+1:=by
     unfold QaU
     split
     ·exact Qh2 _
     ·rfl
    omega
   ·exact hr
  ·exact hr
 by_cases ht:m.term<X.term
 ·rw[Qi4 hc (by omega) ht] at hr
  split at hr<;>exact hr
 have ht:X.term<=m.term:=by omega
 have key:(Qaa X m).term=m.term:=by
  have hz:=QbN ht
  by_cases k3:m.kind=3
  ·rw[st3 hc k3 ht]
   show(if Qbm (Qab X m) m then _ else Qab X m).term=_
   split<;>exact hz
  by_cases k4:m.kind=4
  ·rw[st4 hc k4 ht]
   unfold Qar
   split
   ·exact hz
   split
   ·rw[Qh2];exact hz
   ·exact hz
  by_cases k5:m.kind=5
  ·rw[st5 hc k5 ht,QiL];exact hz
  ·rw[st6 hc (by omega) ht,Qh3];exact hz
 have hX:Qab X m=X:=Qbu (by omega)
 by_cases k3:m.kind=3
 ·rw[st3 hc k3 ht,hX] at hr
  have hr:(if Qbm X m then{X with hard:=X.hard||(X.vote !=m.from_),vote:=m.from_,since:=0} else X).role=2:=hr
  split at hr<;>exact hr
 by_cases k4:m.kind=4
 ·rw[st4 hc k4 ht,hX] at hr
  unfold Qar at hr
  split at hr
  ·exact hr
  ·rename_i hno
   exact Decidable.byContradiction fun x=>hno (.inr x)
 by_cases k5:m.kind=5
 ·rw[st5 hc k5 ht,hX] at hr
  by_cases hr3:X.role=3
  ·unfold QaV at hr
   rw[if_pos hr3] at hr
   exact hr
  exfalso
  have hap:(Qag X m).role=0:=by rw[Qaz]
  rcases Qbd X m hr3 with⟨_,e⟩|⟨_,_,e⟩|⟨_,_,e⟩
  ·rw[e] at hr
   have hr:(Qag X m).role=2:=hr
   omega
  ·rw[e] at hr
   have hr:(Qag X m).role=2:=hr
   omega
  ·rw[e] at hr
   have hr:(QbD (Qag X m) m).role=2:=hr
   rw[(Qcw _ m).2.2.2.2.1] at hr
   omega
 ·rw[st6 hc (by omega) ht,hX] at hr
  unfold QaC at hr
  split at hr
  ·exact hr
  rename_i h3
  have h3:X.role=3:=Decidable.not_not.1 h3
  exfalso
  split at hr
  ·have e:(Qaf (Qau X m.from_.toNat m.index)).role=3:=(Qan _).2.1.trans h3
   split at hr
   ·have hr:(Qaf (Qau X m.from_.toNat m.index)).role=2:=hr
    omega
   ·omega
  split at hr
  ·have hr:X.role=2:=hr
   omega
  ·have hr:X.role=2:=hr
   omega
theorem POK.sends{hv nx:Nat}:∀{l its:List It},POK hv nx its->(∀x∈l,x= .A (nx -1))->POK hv nx (its++l)
 | [],its,h,_=>by rw[List.append_nil];exact h
 |x::l,its,h,hl=>by
  have e:=hl x (List.mem_cons_self ..)
  subst e
  have h1:POK hv nx (its++ [.A (nx -1)]):=by
   unfold POK at h⊢
   split
   ·rename_i h0
    rw[if_pos h0] at h
    exact h.send
   ·rename_i h0
    rw[if_neg h0] at h
    exact⟨h.1,h.2.app fun b hb=>by injection hb with hb;omega⟩
  have:=POK.sends h1 fun y hy=>hl y (List.mem_cons_of_mem _ hy)
  rwa[List.append_assoc] at this
end
section
variable {k X0 LC:Nat}{g g':GH}{i f S:Nat}{X Y F L W:RN}{m:RM}{C:CS}{r:List RM}
structure Ord(k:Nat)(g:GH)(C:CS):Prop where
 fb:FB C
 ps:PS k C
 ci:CI k g C
structure Dl(k:Nat)(g:GH)(S:Nat)(C:CS)(m:RM)(r:List RM)(X:RN):Prop where
 h:CInv k g S C
 n:C.net=m::r
 x:C.x[m.to.toNat]? =some X
 to:m.to=((m.to.toNat:Nat):Int)
 fr:m.from_=((m.from_.toNat:Nat):Int)
 ff:m.from_.toNat<k
 ne:m.from_.toNat≠m.to.toNat
 c:CN k g S m.to.toNat X
 w:MI k g m/\BM m/\WM k m
 cb:QaR X m
 cap:r.length+1<=512
 ik:m.to.toNat<C.x.length
 xi:XI k m.to.toNat (Qaa X m)
 eq:QaX C=Qg8 C m.to.toNat (Qaa X m) r
 net:(QaX C).net=r++(Qaa X m).out.take (512 -r.length)
structure Del(k:Nat)(g:GH)(S:Nat)(C:CS)(m:RM)(r:List RM)(X:RN):Prop extends Dl k g S C m r X where
 o:Ord k g C
theorem CInv.dl(h:CInv k g S C)(hn:C.net=m::r):∃X,Dl k g S C m r X:=by
 obtain⟨X,hX,hd⟩:=QmC h hn
 have hmm:m∈C.net:=by rw[hn];exact List.mem_cons_self ..
 have w:=h.net m hmm
 have w3:=w.2.2
 have c:=h.node _ X hX
 have hto:m.to=((m.to.toNat:Nat):Int):=by have:=w3.t;omega
 have hid:X.id=m.to:=by rw[c.ni.id];exact hto.symm
 have hcap:=h.capr hn
 exact⟨X,h,hn,hX,hto,by have:=w3.f;omega,by have:=w3.f;omega,by have:=w3.ne;have:=w3.f;omega,c,w,Qcu h.gi w hid c.ni.n,hcap,by rw[h.len];exact c.ni.ik,Qiz c.xi w3 hto c.m0.1 c.m0.2,hd,by rw[hd];exact Qdq (by omega)⟩
theorem CInv.del_(h:CInv k g S C)(o:Ord k g C)(hn:C.net=m::r):∃X,Del k g S C m r X:=by
 obtain⟨X,d⟩:=h.dl hn
 exact⟨X,d,o⟩
theorem Dl.self(d:Dl k g S C m r X):nd (QaX C) m.to.toNat=Qae (Qaa X m):=by rw[d.eq];exact Qhk d.ik
theorem Dl.other(d:Dl k g S C m r X){j:Nat}(h:j≠m.to.toNat):nd (QaX C) j=nd C j:=by rw[d.eq];exact Qc2 h
theorem Dl.old(d:Dl k g S C m r X):nd C m.to.toNat=X:=Qcc d.x
theorem quiet_items(d:Dl k g S C m r X)(q2:m.kind≠6\/m.term≠X.term)(q3:∀o∈(Qaa X m).out,o.kind≠5)(hf:f≠m.to.toNat):items (r++(Qaa X m).out.take (512 -r.length)) m.to.toNat f X.term=items C.net m.to.toNat f X.term:=by
 have hto:=d.to
 rw[d.n,QaW,Qcf (l:=List.take _ _) fun o ho=> ?_,List.append_nil,QbM]
 ·unfold QaD
  rw[if_neg fun x=>by have:=x.2.2;omega,if_neg fun x=>q2.elim (fun y=>y x.1) fun y=>y x.2.2.2]
 ·have ho:=Qad ho
  have hf:=(d.xi.out o ho).2
  unfold QaD
  rw[if_neg fun x=>q3 o ho x.1,if_neg fun x=>by have:=x.2.1;omega]
theorem q3_of(q:(Qaa X m).out= []\/∃o,(Qaa X m).out= [o]/\o.kind≠5/\bW o+1<=bW m):∀o∈(Qaa X m).out,o.kind≠5:=fun o ho=>by
 rcases q with e|⟨o',e,e5,_⟩
 ·rw[e] at ho;cases ho
 ·rw[e,List.mem_singleton] at ho;rw[ho];exact e5
theorem ps_del(d:Del k g S C m r X)(hk:2<=k)(hl:X.log.length<1024):PS k (QaX C):=by
 intro i f hi hf hfi hr hle
 have h:=d.h
 have fb:=d.o.fb
 have ps:=d.o.ps
 have c:=d.c
 rw[d.net]
 by_cases hii:i=m.to.toNat
 ·subst hii
  rw[d.self] at hr hle⊢
  rw[d.other hfi] at hle
  have hr:(Qaa X m).role=3:=hr
  have hle:(nd C f).term<=(Qaa X m).term:=hle
  show POK ((Qaa X m).matc f).toNat ((Qaa X m).next f).toNat (items _ _ f (Qaa X m).term)
  by_cases h3:X.role=3
  ·rcases Qdo d.cb c h3 hr with⟨q1,q2,q3⟩|⟨h6,ht,hY⟩
   ·rw[q1.term,q1.matc,q1.next,quiet_items d.toDl q2 (q3_of q3) hfi]
    have:=ps _ f c.ni.ik hf hfi (by rw[d.old];exact h3) (by rw[d.old];rw[q1.term] at hle;exact hle)
    rwa[d.old] at this
   ·obtain⟨q,nx,T1,T2,hfm,_,hok⟩:=hear_all h ps d.n d.x h3 h6 ht hY
    rw[hfm.term] at hle⊢
    have hto:=d.to
    have hfr:=d.fr
    have hid:=c.ni.id
    have hsplit:(Qaa X m).out.take (512 -r.length)=T1.take (512 -r.length)++T2.take (512 -r.length -T1.length):=by rw[hfm.out,List.take_append]
    have hOk:∀o∈(Qaa X m).out.take (512 -r.length),o.kind=5/\o.from_=((m.to.toNat:Nat):Int)/\o.term=X.term/\∃f,f<k/\f≠m.to.toNat/\o.to=(f:Int)/\o.index=(Qaa X m).next f -1:=fun o ho=>by
     rw[hsplit] at ho
     rcases List.mem_append.1 ho with e|e
     ·have e:=Qad e
      rcases hfm.t1 with e1|⟨W,a1,a2,a3,_,a4⟩
      ·rw[e1] at e;cases e
      ·rw[a4] at e
       have:=QfK (k:=k) (i:=m.to.toNat) (Y:=Qaa X m) (W:=W) (a1.trans hid) (by rw[a2,hfm.term]) a3 o e
       rw[hfm.term] at this
       exact this
     ·have e:=Qad e
      rcases hfm.t2 with e1|⟨W,a1,a2,a3,_,a4⟩
      ·rw[e1] at e;cases e
      ·rw[a4,List.mem_singleton] at e
       subst e
       exact⟨rfl,a1.trans hid,a2,m.from_.toNat,d.ff,d.ne,rfl,by show W.next _ -1=_;rw[a3]⟩
    rw[QaW]
    refine POK.sends ?_ (Qdi (nx:=0) (k:=k) hOk)
    by_cases e:f=m.from_.toNat
    ·subst e
     rw[hfm.mq,hfm.nq]
     exact hok (by omega)
    ·rw[hfm.matc f e,hfm.next f e]
     have:=ps _ f c.ni.ik hf hfi (by rw[d.old];exact h3) (by rw[d.old];exact hle)
     rw[d.old,d.n,QbM] at this
     ·exact this
     ·unfold QaD
      rw[if_neg fun x=>by have:=x.1;omega,if_neg fun x=>by have:=x.2.1;omega]
  ·
   obtain⟨k4,e1,hr2,_,_,hY⟩:=Qcd d.cb c d.w.2.2 d.to h3 hr
   obtain⟨Z,z0,z1,z2,z3,z4,z5,z6,z7,W,w1,w2,_,w4,w5⟩:=QcI c hr2 hk hl (X.votes|||2^m.from_.toNat)
   rw[z0] at hY
   rw[hY,z2,(z5 f hf).1,(z5 f hf).2,QaW,d.o.ci.lead h d.n d.x h3 hr f hf hfi]
   rw[c.out,List.nil_append] at w5
   have hto:=d.to
   have hOk:∀o∈Z.out.take (512 -r.length),o.kind=5/\o.from_=((m.to.toNat:Nat):Int)/\o.term=X.term/\∃f,f<k/\f≠m.to.toNat/\o.to=(f:Int)/\o.index=Z.next f -1:=by
    rw[w5]
    exact Qon (X:=Z) (w1.trans c.ni.id) w2 fun t ht=>by rw[w4 t ht];exact((z5 t ht).1).symm
   refine POK.sends ?_ fun x hx=> ?_
   ·show POK 0 _ []
    unfold POK
    rw[if_pos rfl]
    exact⟨trivial,fun a ha=>(by cases ha),fun a ha=>(by cases ha)⟩
   ·have:=Qdi (nx:=0) (k:=k) (f0:=f) hOk x hx
    rw[(z5 f hf).1] at this
    exact this
 ·rw[d.other hii] at hr hle⊢
  by_cases hff:f=m.to.toNat
  ·subst hff
   rw[d.self] at hle
   have hle:(Qaa X m).term<=(nd C i).term:=hle
   have hst:=Qdn d.cb
   have hL:=h.nd hi
   have Ld:=(h.node i _ hL).ni.lead hr
   have hp:=ps i _ hi c.ni.ik hfi hr (by rw[d.old];omega)
   have s:=(QlG h d.n d.x hL hr hfi (fb i _ hL hr m (by rw[d.n];exact List.mem_cons_self ..))).step (items r i m.to.toNat (nd C i).term)
   rw[<-QbQ,<-QaW] at s
   rw[d.n] at hp
   exact s.ok hp (.inr (by have:=List.length_pos_iff.2 Ld.ne;omega))
  ·rw[d.other hff] at hle
   rw[Qmn (i:=m.to.toNat) d.to (fun o ho=>(d.xi.out o (Qad ho)).2) hii hff,<-d.n]
   exact ps i f hi hf hfi hr hle
theorem fb_del(d:Del k g S C m r X)(hk:2<=k)(hl:X.log.length<1024):FB (QaX C):=by
 intro i L' hL' hr m' hm' h5 hfi ht
 have h:=d.h
 have fb:=d.o.fb
 have c:=d.c
 have hto:=d.to
 have hL':=Qcc hL'
 subst hL'
 rw[d.net] at hm'
 by_cases hii:i=m.to.toNat
 ·subst hii
  rw[d.self] at hr ht⊢
  have hr:(Qaa X m).role=3:=hr
  have ht:m'.term=(Qaa X m).term:=ht
  show m'.ents.length=min 8 ((Qaa X m).log.length -m'.index.toNat)
  have hWm:∀W:RN,(∀t,t<k->t≠m.to.toNat->1<=W.next t)->W.id=((m.to.toNat:Nat):Int)->W.log=(Qaa X m).log->∀o∈(Qax W k).map (Qbk W),o.ents.length=min 8 ((Qaa X m).log.length -o.index.toNat):=fun W a1 a2 a3 o ho=>by
   obtain⟨t,htt,rfl⟩:=List.mem_map.1 ho
   obtain⟨b1,b2⟩:=Qcl htt
   rw[QeJ (a1 t b1 (by omega)),a3]
  by_cases h3:X.role=3
  ·have Ld:=c.ni.lead h3
   rcases Qdo d.cb c h3 hr with⟨q1,q2,q3⟩|⟨h6,htm,hY⟩
   ·rcases List.mem_append.1 hm' with e|e
    ·rw[q1.log]
     exact fb _ X d.x h3 m' (by rw[d.n];exact List.mem_cons_of_mem _ e) h5 hfi (by rw[ht,q1.term])
    ·exact absurd h5 (q3_of q3 m' (Qad e))
   ·obtain⟨q,nx,T1,T2,hfm,_,hok⟩:=hear_all h d.o.ps d.n d.x h3 h6 htm hY
    have hnx:∀t,t<k->t≠m.to.toNat->1<=(Qaa X m).next t:=fun t h1 h2=>by
     by_cases e:t=m.from_.toNat
     ·rw[e];exact hfm.nq0
     ·rw[hfm.next t e];exact(Ld.nx t h1 h2).1
    rcases List.mem_append.1 hm' with e|e
    ·rw[hfm.log]
     exact fb _ X d.x h3 m' (by rw[d.n];exact List.mem_cons_of_mem _ e) h5 hfi (by rw[ht,hfm.term])
    ·have e:=Qad e
     rw[hfm.out] at e
     rcases List.mem_append.1 e with e|e
     ·rcases hfm.t1 with e1|⟨W,a1,a2,a3,a5,a4⟩
      ·rw[e1] at e;cases e
      ·rw[a4] at e
       exact hWm W (fun t h1 h2=>by rw[a3];exact hnx t h1 h2) (a1.trans c.ni.id) (by rw[a5,hfm.log]) m' e
     ·rcases hfm.t2 with e1|⟨W,a1,a2,a3,a5,a4⟩
      ·rw[e1] at e;cases e
      ·rw[a4,List.mem_singleton] at e
       subst e
       rw[QeJ (by rw[a3];exact hfm.nq0),a5,hfm.log]
  ·obtain⟨k4,e1,hr2,hy,hmo,hY⟩:=Qcd d.cb c d.w.2.2 d.to h3 hr
   obtain⟨Z,z0,z1,z2,z3,z4,z5,z6,z7,W,w1,w2,w3,w4,w5⟩:=QcI c hr2 hk hl (X.votes|||2^m.from_.toNat)
   rw[z0] at hY
   rcases List.mem_append.1 hm' with e|e
   ·exfalso
    have hid:X.id=m.to:=by rw[c.ni.id];exact hto.symm
    have hll:=Qhb h.gi c.ni d.w.1 k4 e1 hid.symm ⟨d.w.2.2.f.1,by rw[c.ni.n];exact d.w.2.2.f.2⟩ hy hr2 hmo
    have:=(h.net m' (by rw[d.n];exact List.mem_cons_of_mem _ e)).1.2.2.1 h5
    rw[ht,hY,z2] at this
    exact this.1 hll
   ·have e:=Qad e
    rw[hY,w5,c.out,List.nil_append] at e
    exact hWm W (fun t h1 _=>by rw[w4 t h1];omega) (w1.trans c.ni.id) (by rw[w3,hY]) m' e
 ·rw[d.other hii] at hr ht⊢
  rcases List.mem_append.1 hm' with e|e
  ·exact fb i _ (h.nd (by
    have:=(List.getElem?_eq_some_iff.1 (show(QaX C).x[i]? =some _ from by assumption)).1
    rw[d.eq] at this
    have this:i<(C.x.set m.to.toNat (Qae (Qaa X m))).length:=this
    rw[List.length_set,h.len] at this
    exact this)) hr m' (by rw[d.n];exact List.mem_cons_of_mem _ e) h5 hfi ht
  ·have:=(d.xi.out m' (Qad e)).2
   omega
end
section
variable {k X0 LC:Nat}{g g':GH}{i f S:Nat}{X Y F L W:RN}{m:RM}{C:CS}{r:List RM}
theorem CIc.keep{c:Nat}{T:Int}{net O:List RM}(h:CIc c T (m::r))(h5:∀o∈O,¬(o.kind=5/\o.from_=(c:Int)))(h3:∀o∈O,¬(o.kind=3/\o.from_=(c:Int)/\o.term=T))(h4:∀o∈O,¬(o.kind=4/\o.to=(c:Int)/\o.yes=true/\o.term=T))
  (h6:∀o∈O,o.kind=6->o.to=(c:Int)->m.kind=5/\m.from_=(c:Int)):CIc c T (r++O):=by
 have:=h.more h5 h3 h4 fun hno o ho hk=>by
  obtain⟨a,b⟩:=h6 o ho hk.1 hk.2.1
  exact hno m (List.mem_cons_self ..) ⟨a,b⟩
 exact CIc.tail (m:=m) this
theorem ci_del(d:Del k g S C m r X)(hk:2<=k)(hl:X.log.length<1024)(G:GLe g g'):CI k g' (QaX C):=by
 intro cn hcn hr hll
 have h:=d.h
 have c:=d.c
 have hto:=d.to
 have hfr:=d.fr
 have w3:=d.w.2.2
 have hof:=out_form d.cb c w3 d.to
 have hst:=Qdn d.cb
 rw[d.net]
 have gl:∀t,g'.ll t= []->g.ll t= []:=fun t e=>by
  have:=G.ll t
  rw[e] at this
  exact List.prefix_nil.1 this
 by_cases hc:cn=m.to.toNat
 ·subst hc
  rw[d.self] at hr hll⊢
  have hr:(Qaa X m).role=2:=hr
  have hll:g'.ll (Qaa X m).term= []:=hll
  show CIc _ (Qaa X m).term _
  have h5:=Qjh d.cb c w3 d.to (by omega) hl
  have hto4:∀o∈(Qaa X m).out,o.kind=4->o.to≠((m.to.toNat:Nat):Int):=fun o ho hk4 e=>by
   have:=(hof o ho).k4 hk4
   have:=w3.ne
   omega
  have hto6:∀o∈(Qaa X m).out,o.kind=6->o.to≠((m.to.toNat:Nat):Int):=fun o ho hk6 e=>by
   have:=(hof o ho).k6 hk6
   have:=w3.ne
   omega
  rcases QnG d.cb c hr hl with⟨h2,ht⟩|ht
  ·have old:=d.o.ci _ c.ni.ik (by rw[d.old];exact h2) (by rw[d.old,<-ht];exact gl _ hll)
   rw[d.old,d.n] at old
   rw[ht]
   exact old.keep (net:= []) (fun o ho x=>h5 o (Qad ho) x.1) (fun o ho x=>by have:=(hof o (Qad ho)).k3 x.1;omega) (fun o ho x=>hto4 o (Qad ho) x.1 x.2.1) (fun o ho a b=>absurd b (hto6 o (Qad ho) a))
  ·
   have hcl:=c.ni.d.futC _ ht
   refine⟨fun xs m' ys e k1 k2 k3 o ho=> ?_,fun xs m' ys e k1 k2 k3 k4=> ?_⟩
   ·rcases QcX e with⟨ys',e1,e2⟩|⟨xs',e1,e2⟩
    ·exfalso
     obtain⟨lc,b1,_⟩:=(h.net m' (by rw[d.n,e1];simp)).1.1 k1
     rw[k2,k3,hcl] at b1
     cases b1
    ·intro x
     exact h5 o (Qad (by rw[e1];simp[ho])) x.1
   ·exfalso
    rcases QcX e with⟨ys',e1,e2⟩|⟨xs',e1,e2⟩
    ·obtain⟨_,_,_,_,b5⟩:=(h.net m' (by rw[d.n,e1];simp)).1.2.1 k1 k3
     rw[k4] at b5
     obtain⟨lv,lc,b6,_⟩:=b5 (gl _ hll)
     rw[k2,hcl] at b6
     cases b6
    ·exact hto4 m' (Qad (by rw[e1];simp)) k1 k2
 ·rw[d.other hc] at hr hll⊢
  have old:=d.o.ci cn hcn hr (gl _ hll)
  rw[d.n] at old
  have hfrom:∀o∈(Qaa X m).out,o.from_≠(cn:Int):=fun o ho e=>by
   have:=(d.xi.out o ho).2
   omega
  by_cases hav:m.kind=3/\m.from_=(cn:Int)/\m.term=(nd C cn).term
  ·
   obtain⟨v1,v2,v3⟩:=hav
   have hno:=old.a [] m r rfl v1 v2 v3
   have hone:∀o∈(Qaa X m).out,o.kind≠6:=fun o ho e=>by have:=(hof o ho).k6 e;omega
   refine⟨fun xs m' ys e k1 k2 k3 o ho=> ?_,fun xs m' ys e k1 k2 k3 k4=>⟨fun o ho=> ?_,fun o ho=> ?_⟩⟩
   ·rcases QcX e with⟨ys',e1,e2⟩|⟨xs',e1,e2⟩
    ·rw[e2] at ho
     rcases List.mem_append.1 ho with x|x
     ·exact hno o (by rw[e1];simp[x])
     ·exact fun y=>hfrom o (Qad x) y.2
    ·exact absurd k2 (hfrom m' (Qad (by rw[e1];simp)))
   ·rcases List.mem_append.1 ho with x|x
    ·exact hno o x
    ·exact fun y=>hfrom o (Qad x) y.2
   ·rcases QcX e with⟨ys',e1,e2⟩|⟨xs',e1,e2⟩
    ·rw[e2] at ho
     rcases List.mem_append.1 ho with x|x
     ·exact(old.b (m::xs) m' ys' (by rw[e1];rfl) k1 k2 k3 k4).2 o x
     ·exact fun y=>hone o (Qad x) y.1
    ·exact fun y=>hone o (Qad (by rw[e1];simp[ho])) y.1
  ·refine old.keep (net:= []) (fun o ho x=>hfrom o (Qad ho) x.2) (fun o ho x=>hfrom o (Qad ho) x.2.1) (fun o ho x=> ?_) (fun o ho a b=> ?_)
   ·have:=(hof o (Qad ho)).k4 x.1
    exact hav ⟨this.1,by rw[<-this.2.1];exact x.2.1,by rw[<-this.2.2];exact x.2.2.2⟩
   ·have:=(hof o (Qad ho)).k6 a
    exact⟨this.1,by rw[<-this.2];exact b⟩
theorem ord_del(d:Del k g S C m r X)(hk:2<=k)(hl:X.log.length<1024)(G:GLe g g'):Ord k g' (QaX C):=⟨fb_del d hk hl,ps_del d hk hl,ci_del d hk hl G⟩
theorem phi_del(d:Del k g S C m r X)(hk:2<=k){Zb:Nat}(hZ:Zb<1024)(hX0:Mw (Zb+1)+4<=X0)(hLC:2*((k -1)*X0)+2*((k -1)*Zb)<=LC)(hl:X.log.length<=Zb):Phi k X0 LC (QaX C)+1<=Phi k X0 LC C:=by
 have h:=d.h
 have c:=d.c
 have hw3:=d.w.2.2
 have self:bWs ((Qaa X m).out.take (512 -r.length))+ph k X0 LC (QaX C) m.to.toNat+1<=bW m+ph k X0 LC C m.to.toNat:=by
  by_cases hr:(Qaa X m).role=3
  ·by_cases h3:X.role=3
   ·rcases Qdo d.cb c h3 hr with q|⟨h6,ht,hY⟩
    ·exact self_quiet h d.n d.x h3 hr q
    ·have:Mw X.log.length<=Mw (Zb+1):=by
      unfold Mw
      have:(X.log.length+7)/8<=(Zb+1+7)/8:=Nat.div_le_div_right (by omega)
      omega
     exact self_hears (by omega) h d.o.ps d.n d.x h3 h6 ht hY
   ·exact self_lead hk hX0 hLC h d.n d.x hl (by omega) h3 hr (d.o.ci.lead h d.n d.x h3 hr)
  ·have h1:=self_none (LC:=LC) d.cb c hw3 d.to (by omega) hr fun h2=>by
    have cd:=c.ni.cand h2
    have:=Qce c.ni.d.ter c.ni.d.t0
    omega
   have h2:=QlK (Qaa X m).out (512 -r.length)
   have h3:ph k X0 LC (QaX C) m.to.toNat=nR k LC (Qaa X m).role:=by
    rw[ph_nR (by rw[d.self];exact hr),d.self];rfl
   have h4:nR k LC X.role<=ph k X0 LC C m.to.toNat:=by
    have:=nR_ph (k:=k) (X0:=X0) (LC:=LC) (C:=C) (i:=m.to.toNat)
    rwa[d.old] at this
   omega
 have hs:=QdZ (F:=ph k X0 LC (QaX C)) (G:=ph k X0 LC C) (i:=m.to.toNat) (a:=bWs ((Qaa X m).out.take (512 -r.length))+1) (b:=bW m) c.ni.ik (fun j hj hji=>ph_other h d.o.fb d.o.ps d.n hj hji) (by omega)
 unfold Phi
 rw[d.net,bWs_app,d.n]
 show _<=bW m+bWs r+_
 omega
end
section
variable {k X0 LC:Nat}{g g':GH}{i f S:Nat}{X Y F L W:RN}{m:RM}{C:CS}{r:List RM}{dr:Int}
inductive TickF(k:Nat)(X Y:RN)(dr:Int):Prop
 |quiet:X.role=3->Y.role=3->SameL X Y->Y.out= []->Y.since=X.since+1->X.since+1<2->(Y.quiet=X.quiet+1/\X.quiet+1<4/\Y.heard=X.heard\/Y.quiet=0/\X.quiet+1>=4/\Y.heard=0/\QaF X (X.heard|||2^X.id.toNat))->TickF k X Y dr
 |beat (W:RN):X.role=3->Y.role=3->SameL X Y->W.id=X.id->W.term=X.term->W.next=X.next->W.log=X.log->W.commit=X.commit->Y.out=(Qax W k).map (Qbk W)->Y.since=0->X.since+1>=2->(Y.quiet=X.quiet+1/\X.quiet+1<4/\Y.heard=X.heard\/Y.quiet=0/\X.quiet+1>=4/\Y.heard=0/\QaF X (X.heard|||2^X.id.toNat))->TickF k X Y dr
 |down:X.role=3->X.quiet+1>=4->¬QaF X (X.heard|||2^X.id.toNat)->Y={X with role:=0,leader:= -1,since:=0,quiet:=0,heard:=0}->TickF k X Y dr
 |wait:X.role≠3->(X.since+1<4+(if 0>dr then 0 else dr)%4\/X.term>=Qjk)->Y={X with since:=X.since+1}->TickF k X Y dr
 |ask:X.role≠3->X.since+1>=4+(if 0>dr then 0 else dr)%4->X.term<Qjk->Y=QfO {X with since:=X.since+1}->TickF k X Y dr
theorem Qa2(c:CN k g S i X):TickF k X (Qah X dr) dr:=by
 have hel:=c.bn.el
 have hbe:=c.bn.be
 have hn':X.n.toNat=k:=by rw[c.ni.n];exact Int.toNat_natCast k
 have ho:=c.out
 unfold Qah
 by_cases hr:X.role=3
 ·rw[if_pos hr]
  unfold Qk8
  by_cases hq:X.quiet+1>=4
  ·rw[if_pos (show({X with since:=X.since+1}:RN).quiet+1>=({X with since:=X.since+1}:RN).elect by show X.quiet+1>=X.elect;rw[hel];exact hq)]
   by_cases hm:QaF X (X.heard|||2^X.id.toNat)
   ·rw[if_neg (show ¬¬QaF {X with since:=X.since+1} (({X with since:=X.since+1}:RN).heard|||2^({X with since:=X.since+1}:RN).id.toNat) from fun x=>x hm)]
    unfold QeP
    by_cases hs:X.since+1>=2
    ·rw[if_pos (show({X with since:=X.since+1,quiet:=0,heard:=0}:RN).since>=({X with since:=X.since+1,quiet:=0,heard:=0}:RN).beat by show X.since+1>=X.beat;rw[hbe];exact hs)]
     refine .beat {X with since:=X.since+1,quiet:=0,heard:=0} hr hr ⟨rfl,rfl,rfl,rfl,rfl⟩ rfl rfl rfl rfl rfl ?_ rfl hs (.inr ⟨rfl,hq,rfl,hm⟩)
     show X.out++(Qax _ X.n.toNat).map _=_
     rw[ho,hn'];rfl
    ·rw[if_neg (show ¬({X with since:=X.since+1,quiet:=0,heard:=0}:RN).since>=({X with since:=X.since+1,quiet:=0,heard:=0}:RN).beat by show ¬X.since+1>=X.beat;rw[hbe];exact hs)]
     exact .quiet hr hr ⟨rfl,rfl,rfl,rfl,rfl⟩ ho rfl (by omega) (.inr ⟨rfl,hq,rfl,hm⟩)
   ·rw[if_pos (show ¬QaF {X with since:=X.since+1} (({X with since:=X.since+1}:RN).heard|||2^({X with since:=X.since+1}:RN).id.toNat) from hm)]
    refine .down hr hq hm ?_
    unfold Qai
    rw[if_neg (by show ¬X.term>X.term;omega)]
  ·rw[if_neg (show ¬({X with since:=X.since+1}:RN).quiet+1>=({X with since:=X.since+1}:RN).elect by show ¬X.quiet+1>=X.elect;rw[hel];exact hq)]
   unfold QeP
   by_cases hs:X.since+1>=2
   ·rw[if_pos (show({X with since:=X.since+1,quiet:=X.quiet+1}:RN).since>=({X with since:=X.since+1,quiet:=X.quiet+1}:RN).beat by show X.since+1>=X.beat;rw[hbe];exact hs)]
    refine .beat {X with since:=X.since+1,quiet:=X.quiet+1} hr hr ⟨rfl,rfl,rfl,rfl,rfl⟩ rfl rfl rfl rfl rfl ?_ rfl hs (.inl ⟨rfl,by omega,rfl⟩)
    show X.out++(Qax _ X.n.toNat).map _=_
    rw[ho,hn'];rfl
   ·rw[if_neg (show ¬({X with since:=X.since+1,quiet:=X.quiet+1}:RN).since>=({X with since:=X.since+1,quiet:=X.quiet+1}:RN).beat by show ¬X.since+1>=X.beat;rw[hbe];exact hs)]
    exact .quiet hr hr ⟨rfl,rfl,rfl,rfl,rfl⟩ ho rfl (by omega) (.inl ⟨rfl,by omega,rfl⟩)
 ·rw[if_neg hr]
  by_cases ha:X.term<1099511627776/\X.since+1>=X.elect+(if 0>dr then 0 else dr)%X.elect
  ·rw[if_pos ha]
   have h2:=ha.2
   rw[hel] at h2
   exact .ask hr h2 ha.1 rfl
  ·rw[if_neg ha]
   rw[hel] at ha
   refine .wait hr ?_ rfl
   by_cases h2:X.since+1<4+(if 0>dr then 0 else dr)%4
   ·exact .inl h2
   ·refine .inr ?_
    show(1099511627776:Int)<=X.term
    exact Int.not_lt.1 fun x=>ha ⟨x,by omega⟩
theorem QdQ(c:CN k g S i X)(hk:2<=k):QfO {X with since:=X.since+1}={X with since:=0,role:=1,leader:= -1,votes:=2^X.id.toNat,out:=(Qax {X with since:=0,role:=1,leader:= -1,votes:=2^X.id.toNat} k).map fun(t:Nat)=>⟨1,X.id,(t:Int),X.term+1,X.log.length,Qa9 X.log,0,false,[]⟩}:=by
 have hm:¬QaF X (2^X.id.toNat):=by
  have e:=QoE ⟨i,by have:=c.ni.ik;have:=c.ni.k7;omega⟩
  simp only at e
  unfold QaF
  rw[show X.id.toNat=i by have:=c.ni.id;omega,e]
  have:=c.ni.n
  omega
 unfold QfO
 rw[if_neg (show ¬QaF {X with since:=X.since+1} (2^({X with since:=X.since+1}:RN).id.toNat) from hm)]
 have hn':X.n.toNat=k:=by rw[c.ni.n];exact Int.toNat_natCast k
 show({Qg0 {X with since:=X.since+1} with out:=X.out++_}:RN)=_
 rw[c.out,List.nil_append]
 show({Qg0 {X with since:=X.since+1} with out:=(Qax (Qg0 {X with since:=X.since+1}) X.n.toNat).map _}:RN)=_
 rw[hn']
 rfl
theorem Qh8(hX:C.x[i]? =some X):Qal C i dr=Qg8 C i (Qah X dr) C.net:=by
 unfold Qal
 rw[hX]
theorem Qbn(h:CInv k g S C)(hX:C.x[i]? =some X):(Qal C i dr).net=C.net++(Qah X dr).out.take (512 -C.net.length):=by
 rw[Qh8 hX];exact Qdq h.cap
theorem Qff(c:CN k g S i X)(hk:2<=k):∀o∈(Qah X dr).out,o.kind=1\/(o.kind=5/\X.role=3/\(Qah X dr).role=3):=by
 intro o ho
 cases Qa2 (dr:=dr) c with
 |quiet h1 h2 h3 h4=>rw[h4] at ho;cases ho
 |beat W h1 h2 h3 h4 h5 h6 h7 h8 h9=>
  rw[h9] at ho
  obtain⟨t,_,rfl⟩:=List.mem_map.1 ho
  exact .inr ⟨rfl,h1,h2⟩
 |down h1 h2 h3 h4=>rw[h4] at ho;rw[show({X with role:=0,leader:= -1,since:=0,quiet:=0,heard:=0}:RN).out=X.out from rfl,c.out] at ho;cases ho
 |wait h1 h2 h3=>rw[h3] at ho;rw[show({X with since:=X.since+1}:RN).out=X.out from rfl,c.out] at ho;cases ho
 |ask h1 h2 h3 h4=>
  rw[h4,QdQ c hk] at ho
  obtain⟨t,_,rfl⟩:=List.mem_map.1 ho
  exact .inl rfl
theorem Qb5(c:CN k g S i X)(hk:2<=k):(Qah X dr).term=X.term/\(Qah X dr).log=X.log/\(Qah X dr).commit=X.commit/\(Qah X dr).next=X.next/\(Qah X dr).matc=X.matc/\((Qah X dr).role=2->X.role=2)/\((Qah X dr).role=3->X.role=3):=by
 cases Qa2 (dr:=dr) c with
 |quiet h1 h2 h3=>exact⟨h3.term,h3.log,h3.commit,h3.next,h3.matc,fun e=>by omega,fun _=>h1⟩
 |beat W h1 h2 h3=>exact⟨h3.term,h3.log,h3.commit,h3.next,h3.matc,fun e=>by omega,fun _=>h1⟩
 |down h1 h2 h3 h4=>rw[h4];exact⟨rfl,rfl,rfl,rfl,rfl,fun e=>absurd e (by decide:¬(0:Int)=2),fun _=>h1⟩
 |wait h1 h2 h3=>rw[h3];exact⟨rfl,rfl,rfl,rfl,rfl,fun e=>e,fun e=>e⟩
 |ask h1 h2 h3 h4=>rw[h4,QdQ c hk];exact⟨rfl,rfl,rfl,rfl,rfl,fun e=>absurd e (by decide:¬(1:Int)=2),fun e=>absurd e (by decide:¬(1:Int)=3)⟩
theorem Qaw(h:CInv k g S C)(hX:C.x[i]? =some X):nd (Qal C i dr) i=Qae (Qah X dr):=by
 rw[Qh8 hX]
 exact Qhk (List.getElem?_eq_some_iff.1 hX).1
theorem Qak(hX:C.x[i]? =some X){j:Nat}(hj:j≠i):nd (Qal C i dr) j=nd C j:=by
 rw[Qh8 hX];exact Qc2 hj
theorem Qnx(h:CInv k g S C)(hX:C.x[i]? =some X)(hk:2<=k){j f:Nat}{t:Int}(hj:j≠i\/(Qah X dr).role≠3)(hf:f≠j):items (Qal C i dr).net j f t=items C.net j f t:=by
 have c:=h.node i X hX
 rw[Qbn h hX,QaW,Qcf (l:=List.take _ _) fun o ho=> ?_,List.append_nil]
 have ho:=Qad ho
 have hfr:=((Qj2 (draw:=dr) c.xi).out o ho).2
 unfold QaD
 rcases Qff c hk o ho with e|⟨e,e2,e3⟩
 ·rw[if_neg fun x=>by omega,if_neg fun x=>by omega]
 ·rw[if_neg fun x=>hj.elim (fun y=>y (by have:=x.2.1;omega)) fun y=>y e3,if_neg fun x=>by omega]
theorem Qfi(h:CInv k g S C)(o:Ord k g C)(hX:C.x[i]? =some X)(hk:2<=k)(G:GLe g g'):Ord k g' (Qal C i dr):=by
 have c:=h.node i X hX
 obtain⟨k1,k2,k3,k4,k5,k6,k7⟩:=Qb5 (dr:=dr) c hk
 refine⟨fun j L' hL' hr m' hm' h5 hf ht=> ?_,fun j f hj hf hfj hr hle=> ?_,fun cn hcn hr hll=> ?_⟩
 ·have hnd:=Qcc hL'
  rw[Qbn h hX] at hm'
  by_cases e:j=i
  ·subst e
   rw[Qaw h hX] at hnd
   subst hnd
   have h3:X.role=3:=k7 hr
   have ht:m'.term=(Qah X dr).term:=ht
   show m'.ents.length=min 8 ((Qah X dr).log.length -m'.index.toNat)
   rw[k2]
   rcases List.mem_append.1 hm' with x|x
   ·exact o.fb j X hX h3 m' x h5 hf (by rw[ht,k1])
   ·have x:=Qad x
    cases Qa2 (dr:=dr) c with
    |quiet h1 h2 h3 h4=>rw[h4] at x;cases x
    |beat W h1 h2 a1 a2 a3 a4 a5 a6 a7=>
     rw[a7] at x
     obtain⟨t,htt,rfl⟩:=List.mem_map.1 x
     obtain⟨b1,b2⟩:=Qcl htt
     have:=((c.ni.lead h1).nx t b1 (by have:=c.ni.id;omega)).1
     rw[QeJ (by rw[a4];exact this),a5]
    |down h1 h2 h3 h4=>rw[h4,show({X with role:=0,leader:= -1,since:=0,quiet:=0,heard:=0}:RN).out=X.out from rfl,c.out] at x;cases x
    |wait h1 h2 h3=>exact absurd (k7 hr) h1
    |ask h1 h2 h3 h4=>exact absurd (k7 hr) h1
  ·rw[Qak hX e] at hnd
   rcases List.mem_append.1 hm' with x|x
   ·refine o.fb j L' ?_ hr m' x h5 hf ht
    have hj:j<k:=by
     have:=(List.getElem?_eq_some_iff.1 hL').1
     rw[Qh8 hX] at this
     have this:j<(C.x.set i _).length:=this
     rw[List.length_set,h.len] at this
     exact this
    rw[<-hnd];exact h.nd hj
   ·have:=((Qj2 (draw:=dr) c.xi).out m' (Qad x)).2
    omega
 ·by_cases e:j=i
  ·subst e
   rw[Qaw h hX] at hr hle⊢
   have hr:(Qah X dr).role=3:=hr
   have h3:X.role=3:=k7 hr
   rw[Qak hX hfj] at hle
   have hle:(nd C f).term<=(Qah X dr).term:=hle
   show POK ((Qah X dr).matc f).toNat ((Qah X dr).next f).toNat (items _ j f (Qah X dr).term)
   rw[k1] at hle
   rw[k1,k4,k5]
   have old:=o.ps j f hj hf hfj (by rw[Qcc hX];exact h3) (by rw[Qcc hX];exact hle)
   rw[Qcc hX] at old
   rw[Qbn h hX,QaW]
   refine old.sends fun x hx=> ?_
   cases Qa2 (dr:=dr) c with
   |quiet h1 h2 h3 h4=>rw[h4,List.take_nil] at hx;cases hx
   |beat W h1 h2 a1 a2 a3 a4 a5 a6 a7=>
    rw[a7] at hx
    have:=Qdi (nx:=0) (k:=k) (Y:=X) (i:=j) (f0:=f) (T:=X.term) (fun o ho=>QfK (k:=k) (i:=j) (Y:=X) (W:=W) (a2.trans c.ni.id) a3 a4 o (Qad ho)) x hx
    exact this
   |down h1 h2 h3 h4=>rw[h4] at hr;exact absurd hr (by decide:¬(0:Int)=3)
   |wait h1 h2 h3=>exact absurd h3 (fun _=>h1 (by assumption))
   |ask h1 h2 h3 h4=>exact absurd (k7 hr) h1
  ·rw[Qak hX e] at hr hle⊢
   rw[Qnx h hX hk (.inl e) hfj]
   refine o.ps j f hj hf hfj hr ?_
   by_cases e2:f=i
   ·subst e2
    rw[Qaw h hX] at hle
    have hle:(Qah X dr).term<=(nd C j).term:=hle
    rw[Qcc hX]
    omega
   ·rwa[Qak hX e2] at hle
 ·have gl:∀t,g'.ll t= []->g.ll t= []:=fun t e=>by
   have:=G.ll t
   rw[e] at this
   exact List.prefix_nil.1 this
  have hold:(nd C cn).role=2/\(nd (Qal C i dr) cn).term=(nd C cn).term:=by
   by_cases e:cn=i
   ·subst e
    rw[Qaw h hX] at hr⊢
    rw[Qcc hX]
    exact⟨k6 hr,k1⟩
   ·rw[Qak hX e] at hr⊢
    exact⟨hr,rfl⟩
  rw[hold.2] at hll⊢
  rw[Qbn h hX]
  have old:=o.ci cn hcn hold.1 (gl _ hll)
  refine old.more (fun o' ho x=> ?_) (fun o' ho x=> ?_) (fun o' ho x=> ?_) (fun _ o' ho x=> ?_)
  ·have ho:=Qad ho
   have hfr:=((Qj2 (draw:=dr) c.xi).out o' ho).2
   rcases Qff c hk o' ho with e|⟨e,e2,e3⟩
   ·omega
   ·have:cn=i:=by omega
    rw[this,Qcc hX] at hold
    omega
  ·rcases Qff c hk o' (Qad ho) with e|⟨e,e2,e3⟩<;>omega
  ·rcases Qff c hk o' (Qad ho) with e|⟨e,e2,e3⟩<;>omega
  ·rcases Qff c hk o' (Qad ho) with e|⟨e,e2,e3⟩<;>omega
def Qb8(r:Nat)(s:Int):Nat:=(r+min s.toNat 3)/4
def tB(k X0 LC:Nat)(r:Nat)(X:RN):Nat:=r*((k -1)*X0)+Qb8 r X.since*(LC+4*(k -1))
theorem phi_tick(h:CInv k g S C)(o:Ord k g C)(hX:C.x[i]? =some X)(hk:2<=k){Zb:Nat}(hX0:Mw (Zb+1)+4<=X0)(hl:X.log.length<=Zb)(rr:Nat):
  Phi k X0 LC (Qal C i dr)+tB k X0 LC rr (nd (Qal C i dr) i)<=Phi k X0 LC C+tB k X0 LC (rr+1) X:=by
 have c:=h.node i X hX
 obtain⟨k1,k2,k3,k4,k5,k6,k7⟩:=Qb5 (dr:=dr) c hk
 have hs0:=c.bn.s.1
 have hph:∀j,j<k->j≠i->ph k X0 LC (Qal C i dr) j<=ph k X0 LC C j:=fun j hj hji=>by
  unfold ph
  rw[Qak hX hji]
  split
  ·refine Nat.add_le_add (Nat.le_refl _) (Nat.le_of_eq (QbE fun f hf=> ?_))
   by_cases e:f=j
   ·show(if f=j then 0 else _)=(if f=j then 0 else _)
    rw[if_pos e,if_pos e]
   ·show(if f=j then 0 else xP _ _ _ _ (items (Qal C i dr).net j f (nd C j).term))=(if f=j then 0 else xP _ _ _ _ (items C.net j f (nd C j).term))
    rw[if_neg e,if_neg e,Qnx h hX hk (.inl hji) e]
    by_cases e2:f=i
    ·subst e2
     rw[Qaw h hX,Qcc hX]
     show xP (decide ((nd C j).term<(Qah X dr).term)) _ (Qah X dr).commit.toNat _ _=_
     rw[k1,k3]
    ·rw[Qak hX e2]
  ·exact Nat.le_refl _
 have hrr:Qb8 rr (X.since+1)<=Qb8 (rr+1) X.since:=by
  unfold Qb8
  exact Nat.div_le_div_right (by omega)
 have hr0:Qb8 rr 0<=Qb8 (rr+1) X.since:=by
  unfold Qb8
  exact Nat.div_le_div_right (by omega)
 have hmul:=fun{a b:Nat} (h:a<=b)=>Nat.mul_le_mul_right (LC+4*(k -1)) h
 have e1:(rr+1)*((k -1)*X0)=rr*((k -1)*X0)+(k -1)*X0:=Nat.succ_mul _ _
 have hM:Mw X.log.length+4<=X0:=by
  have:Mw X.log.length<=Mw (Zb+1):=by
   unfold Mw
   have:(X.log.length+7)/8<=(Zb+1+7)/8:=Nat.div_le_div_right (by omega)
   omega
  omega
 have fin:∀a b:Nat,bWs ((Qah X dr).out.take (512 -C.net.length))+ph k X0 LC (Qal C i dr) i+a<=ph k X0 LC C i+b->Phi k X0 LC (Qal C i dr)+a<=Phi k X0 LC C+b:=fun a b hab=>by
  have:=QdZ (F:=ph k X0 LC (Qal C i dr)) (G:=ph k X0 LC C) (i:=i) (n:=k) (a:=bWs ((Qah X dr).out.take (512 -C.net.length))+a) (b:=b) c.ni.ik hph (by omega)
  unfold Phi
  rw[Qbn h hX,bWs_app]
  omega
 rw[Qaw h hX]
 unfold tB
 show _+(rr*((k -1)*X0)+Qb8 rr (Qah X dr).since*(LC+4*(k -1)))<=_
 cases Qa2 (dr:=dr) c with
 |quiet h1 h2 h3 h4 h5=>
  have hb:=hmul (show Qb8 rr (Qah X dr).since<=Qb8 (rr+1) X.since by rw[h5];exact hrr)
  refine Nat.le_trans (fin _ ((rr+1)*((k -1)*X0)+Qb8 (rr+1) X.since*(LC+4*(k -1))) ?_) (Nat.le_refl _)
  rw[h4,List.take_nil]
  have hp:ph k X0 LC (Qal C i dr) i=ph k X0 LC C i:=by
   unfold ph
   rw[Qaw h hX,Qcc hX,if_pos (show(Qae (Qah X dr)).role=3 from h2),if_pos h1,QeQ h3,exc_same h3.next h3.matc]
   congr 1
   refine QbE fun f hf=> ?_
   by_cases e:f=i
   ·show(if f=i then 0 else _)=(if f=i then 0 else _)
    rw[if_pos e,if_pos e]
   ·show(if f=i then 0 else xP (decide ((Qah X dr).term<_)) (Qah X dr).log.length _ ((Qah X dr).matc f).toNat (items (Qal C i dr).net i f (Qah X dr).term))=(if f=i then 0 else _)
    rw[if_neg e,if_neg e,Qak hX e,h3.term,h3.log,h3.matc,Qbn h hX,h4,List.take_nil,List.append_nil]
  rw[hp]
  show 0+_+_<=_
  omega
 |beat W h1 h2 a1 a2 a3 a4 a5 a6 a7 a8=>
  have hb:=hmul (show Qb8 rr (Qah X dr).since<=Qb8 (rr+1) X.since by rw[a8];exact hr0)
  refine Nat.le_trans (fin _ ((rr+1)*((k -1)*X0)+Qb8 (rr+1) X.since*(LC+4*(k -1))) ?_) (Nat.le_refl _)
  generalize hO:(Qah X dr).out.take (512 -C.net.length)=O
  have hOk:∀o∈O,o.kind=5/\o.from_=((i:Nat):Int)/\o.term=X.term/\∃f,f<k/\f≠i/\o.to=(f:Int)/\o.index=X.next f -1:=fun o ho=>by
   rw[<-hO,a7] at ho
   exact QfK (k:=k) (i:=i) (Y:=X) (W:=W) (a2.trans c.ni.id) a3 a4 o (Qad ho)
  have hOl:O.length<=k -1:=by
   rw[<-hO,a7,List.length_take,List.length_map]
   have:=Qbt (X:=W) (k:=k) (i:=i) (a2.trans c.ni.id) c.ni.ik
   omega
  have hp:=Qlz (k:=k) (X0:=X0) (i:=i) (X:=X) (N:=nd C) rfl hM O hOk (fun f=>items C.net i f X.term) fun f hf hfi hlt=>by
   have:=o.ps i f c.ni.ik hf hfi (by rw[Qcc hX];exact h1) (by rw[Qcc hX];omega)
   rwa[Qcc hX] at this
  have hpe:ph k X0 LC (Qal C i dr) i=QcW X*((k -1)*X0)+2*exc k i X+prs k i X (nd C) (fun f=>items C.net i f X.term++items O i f X.term):=by
   unfold ph
   rw[Qaw h hX,if_pos (show(Qae (Qah X dr)).role=3 from h2),QeQ a1,exc_same a1.next a1.matc]
   congr 1
   refine QbE fun f hf=> ?_
   by_cases e:f=i
   ·show(if f=i then 0 else _)=(if f=i then 0 else _)
    rw[if_pos e,if_pos e]
   ·show(if f=i then 0 else xP (decide ((Qah X dr).term<_)) (Qah X dr).log.length _ ((Qah X dr).matc f).toNat (items (Qal C i dr).net i f (Qah X dr).term))=(if f=i then 0 else xP _ _ _ _ (items C.net i f X.term++items O i f X.term))
    rw[if_neg e,if_neg e,Qak hX e,a1.term,a1.log,a1.matc,Qbn h hX,hO,QaW]
  have hpc:ph k X0 LC C i=QcW X*((k -1)*X0)+2*exc k i X+prs k i X (nd C) (fun f=>items C.net i f X.term):=by
   unfold ph
   rw[Qcc hX,if_pos h1]
  rw[hpe,hpc]
  have:=QmG O
  have:O.length*X0<=(k -1)*X0:=Nat.mul_le_mul_right _ hOl
  omega
 |down h1 h2 h3 h4=>
  have hb:=hmul (show Qb8 rr (Qah X dr).since<=Qb8 (rr+1) X.since by rw[h4];exact hr0)
  refine Nat.le_trans (fin _ ((rr+1)*((k -1)*X0)+Qb8 (rr+1) X.since*(LC+4*(k -1))) ?_) (Nat.le_refl _)
  have hp:ph k X0 LC (Qal C i dr) i=0:=by
   unfold ph
   rw[Qaw h hX,h4]
   rfl
  have ho:(Qah X dr).out= []:=by rw[h4];exact c.out
  rw[hp,ho,List.take_nil]
  show 0+0+_<=_
  omega
 |wait h1 h2 h3=>
  have hb:=hmul (show Qb8 rr (Qah X dr).since<=Qb8 (rr+1) X.since by rw[h3];exact hrr)
  refine Nat.le_trans (fin _ ((rr+1)*((k -1)*X0)+Qb8 (rr+1) X.since*(LC+4*(k -1))) ?_) (Nat.le_refl _)
  have hp:ph k X0 LC (Qal C i dr) i=ph k X0 LC C i:=by
   have a:ph k X0 LC C i=nR k LC X.role:=by rw[ph_nR (by rw[Qcc hX];exact h1),Qcc hX]
   have b:ph k X0 LC (Qal C i dr) i=nR k LC X.role:=by
    rw[ph_nR (by rw[Qaw h hX,h3];exact h1),Qaw h hX,h3];rfl
   rw[a,b]
  have ho:(Qah X dr).out= []:=by rw[h3];exact c.out
  rw[hp,ho,List.take_nil]
  show 0+_+_<=_
  omega
 |ask h1 h2 h3 h4=>
  have hs:(Qah X dr).since=0:=by rw[h4,QdQ c hk]
  have hs3:3<=X.since:=by
   have:0<=(if 0>dr then 0 else dr)%4:=Int.emod_nonneg _ (by decide)
   omega
  have hb:Qb8 rr (Qah X dr).since+1<=Qb8 (rr+1) X.since:=by
   rw[hs]
   unfold Qb8
   omega
  have hb:=hmul hb
  rw[Nat.succ_mul] at hb
  refine Nat.le_trans (fin _ ((rr+1)*((k -1)*X0)+Qb8 (rr+1) X.since*(LC+4*(k -1))) ?_) (Nat.le_refl _)
  have hp:ph k X0 LC (Qal C i dr) i=LC+2*(k -1):=by
   rw[ph_nR (by rw[Qaw h hX,h4,QdQ c hk];exact(by decide:(1:Int)≠3)),Qaw h hX,h4,QdQ c hk]
   rfl
  have ho:bWs ((Qah X dr).out.take (512 -C.net.length))<=2*(k -1):=by
   refine Nat.le_trans (QlK _ _) ?_
   rw[h4,QdQ c hk]
   refine Nat.le_trans (bWs_map _ _) ?_
   have:=Qbt (X:={X with since:=0,role:=1,leader:= -1,votes:=2^X.id.toNat}) (k:=k) (i:=i) c.ni.id c.ni.ik
   omega
  rw[hp]
  omega
end
section
variable {k X0 LC:Nat}{g g':GH}{i f S:Nat}{X Y F L W:RN}{m:RM}{C:CS}{r:List RM}
theorem Qhr(h:CInv k g S C)(hn:C.net=m::r)(hX:C.x[m.to.toNat]? =some X)(h1:X.role=3)(h6:m.kind=6)(ht:m.term=X.term)(hY:Qaa X m=QaC X m):
  ∃q nx T1 T2,HearF k m.to.toNat m.from_.toNat X (Qaa X m) q nx T1 T2/\(X.matc m.from_.toNat).toNat<=q/\(q=0->nx<=(X.next m.from_.toNat).toNat)/\((X.matc m.from_.toNat).toNat<q->m.yes=true/\q=m.index.toNat/\nx=q+1)/\(T2= []->(X.log.length:Int)<=(Qaa X m).matc m.from_.toNat\/(m.yes=true/\¬(0<=m.index/\m.index<=X.log.length))):=by
 have hmm:m∈C.net:=by rw[hn];exact List.mem_cons_self ..
 have w:=h.net m hmm
 have w3:=w.2.2
 have c:=h.node _ X hX
 have Ld:=c.ni.lead h1
 have hto:m.to=((m.to.toNat:Nat):Int):=by have:=w3.t;omega
 have hfr:m.from_=((m.from_.toNat:Nat):Int):=by have:=w3.f;omega
 have hff:m.from_.toNat<k:=by have:=w3.f;omega
 have hne:m.from_.toNat≠m.to.toNat:=by have:=w3.ne;omega
 have hmt:=Ld.mt _ hff hne
 have hnx:=Ld.nx _ hff hne
 have hl0:1<=X.log.length:=by have:=List.length_pos_iff.2 Ld.ne;omega
 have hack:=h.gi.A m.from_.toNat X.term
 rw[Ld.ll] at hack
 have hitem:=Qhp h6 hfr hto ht
 have hlk:=c.xi.nx h1 _ hff hne
 have hout0:=c.out
 have hcm0:=c.ni.c0
 have hn':X.n.toNat=k:=by rw[c.ni.n];exact Int.toNat_natCast k
 unfold QaC at hY
 rw[if_neg (fun x=>x h1)] at hY
 by_cases hy:m.yes=true/\0<=m.index/\m.index<=X.log.length
 ·
  rw[if_pos hy] at hY
  obtain⟨hy1,hy2,hy3⟩:=hy
  obtain⟨T1,a1,a2,a3,a4⟩:=hear_own (Z:=Qau X m.from_.toNat m.index) hcm0
  obtain⟨k1,k2,k3,k4,k5,k6,k7,k8⟩:=Qan (Qau X m.from_.toNat m.index)
  have hm1:(Qaf (Qau X m.from_.toNat m.index)).matc m.from_.toNat=mx (X.matc m.from_.toNat) m.index:=by
   rw[k8];show upd X.matc m.from_.toNat _ m.from_.toNat=_;unfold upd;rw[if_pos rfl]
  have hn1:(Qaf (Qau X m.from_.toNat m.index)).next m.from_.toNat=mx (X.matc m.from_.toNat) m.index+1:=by
   rw[k7];show upd X.next m.from_.toNat _ m.from_.toNat=_;unfold upd;rw[if_pos rfl]
  have hmx:(mx (X.matc m.from_.toNat) m.index).toNat=max (X.matc m.from_.toNat).toNat m.index.toNat/\0<=mx (X.matc m.from_.toNat) m.index:=by
   unfold mx;split<;>omega
  have hown0:QcW (Qau X m.from_.toNat m.index)=QcW X:=rfl
  have a1:(Qaf (Qau X m.from_.toNat m.index)).out=T1:=by rw[a1];show X.out++T1=T1;rw[hout0];rfl
  have base:∀T2:List RM,(T2= []\/∃W:RN,W.id=X.id/\W.term=X.term/\W.next=(Qaa X m).next/\W.log=X.log/\T2= [Qbk W m.from_.toNat])->(Qaa X m).term=X.term->(Qaa X m).log=X.log->(Qaa X m).role=3->(Qaa X m).out=T1++T2->(Qaa X m).matc=(Qaf (Qau X m.from_.toNat m.index)).matc->(Qaa X m).next=(Qaf (Qau X m.from_.toNat m.index)).next->QcW (Qae (Qaa X m))=QcW (Qae (Qaf (Qau X m.from_.toNat m.index)))->
    HearF k m.to.toNat m.from_.toNat X (Qaa X m) (max (X.matc m.from_.toNat).toNat m.index.toNat) (max (X.matc m.from_.toNat).toNat m.index.toNat+1) T1 T2:=fun T2 b0 b1 b2 b3 b4 b5 b6 b7=>by
   refine⟨b1,b2,b3,b4,fun f hf=> ?_,fun f hf=> ?_,by rw[b5,hm1];exact hmx.1,by rw[b6,hn1];omega,by rw[b6,hn1];omega, ?_,b0, ?_⟩
   ·rw[b5,k8];show upd X.matc _ _ f=_;unfold upd;rw[if_neg hf]
   ·rw[b6,k7];show upd X.next _ _ f=_;unfold upd;rw[if_neg hf]
   ·rcases a2 with e|⟨W,c1,c2,c3,c5,c4⟩
    ·exact .inl e
    ·exact .inr ⟨W,c1,c2,by rw[b6,k7];exact c3,c5,by rw[c4];show(Qax W X.n.toNat).map _=_;rw[hn']⟩
   ·rw[b7,<-hown0];exact⟨a3,a4⟩
  by_cases hlast:(Qaf (Qau X m.from_.toNat m.index)).matc m.from_.toNat<X.log.length
  ·rw[if_pos hlast] at hY
   have hf:=base [Qbk (Qaf (Qau X m.from_.toNat m.index)) m.from_.toNat] (.inr ⟨Qaf (Qau X m.from_.toNat m.index),(QeK _).1,k1,by rw[hY];rfl,k3,rfl⟩) (by rw[hY];exact k1) (by rw[hY];exact k3) (by rw[hY];exact k2.trans h1) (by rw[hY];show(Qaf _).out++ [_]=_;rw[a1]) (by rw[hY];rfl) (by rw[hY];rfl) (by rw[hY];rfl)
   exact⟨_,_,_,_,hf,Nat.le_max_left _ _,fun e=>by omega,fun e=>⟨hy1,by omega,rfl⟩,fun e=>by cases e⟩
  ·rw[if_neg hlast] at hY
   have hf:=base [] (.inl rfl) (by rw[hY];exact k1) (by rw[hY];exact k3) (by rw[hY];exact k2.trans h1) (by rw[hY,a1,List.append_nil]) (by rw[hY]) (by rw[hY]) (by rw[hY])
   exact⟨_,_,_,_,hf,Nat.le_max_left _ _,fun e=>by omega,fun e=>⟨hy1,by omega,rfl⟩,fun _=> .inl (by rw[hY];omega)⟩
 ·rw[if_neg hy] at hY
  by_cases hno:m.yes=false
  ·
   rw[if_pos hno] at hY
   have hnx2:(Qcx X m.from_.toNat m.index).next m.from_.toNat=mx (mn (mn (mx m.index 0) X.log.length+1) (X.next m.from_.toNat -1)) (X.matc m.from_.toNat+1):=by
    show upd X.next m.from_.toNat _ m.from_.toNat=_;unfold upd;rw[if_pos rfl]
   have hnb:X.matc m.from_.toNat+1<=mx (mn (mn (mx m.index 0) X.log.length+1) (X.next m.from_.toNat -1)) (X.matc m.from_.toNat+1)/\(mx (mn (mn (mx m.index 0) X.log.length+1) (X.next m.from_.toNat -1)) (X.matc m.from_.toNat+1)+1<=X.next m.from_.toNat\/mx (mn (mn (mx m.index 0) X.log.length+1) (X.next m.from_.toNat -1)) (X.matc m.from_.toNat+1)=X.matc m.from_.toNat+1):=by
    unfold mx mn
    repeat' split
    all_goals omega
   generalize hNX:mx (mn (mn (mx m.index 0) X.log.length+1) (X.next m.from_.toNat -1)) (X.matc m.from_.toNat+1)=NX at*
   have hnl:NX<=X.next m.from_.toNat:=by omega
   have hf:HearF k m.to.toNat m.from_.toNat X (Qaa X m) (X.matc m.from_.toNat).toNat NX.toNat [] [Qbk (Qcx X m.from_.toNat m.index) m.from_.toNat]:=by
    refine⟨by rw[hY];rfl,by rw[hY];rfl,by rw[hY];exact h1,by rw[hY];show X.out++ [_]=_;rw[hout0],fun f hf=>by rw[hY];rfl,fun f hf=> ?_,by rw[hY];rfl, ?_, ?_,.inl rfl,.inr ⟨Qcx X m.from_.toNat m.index,rfl,rfl,by rw[hY];rfl,rfl,rfl⟩,by rw[hY];exact Nat.le_refl _,fun e=>absurd rfl e⟩
    ·rw[hY];show upd X.next _ _ f=_;unfold upd;rw[if_neg hf]
    ·rw[hY];show((Qcx X m.from_.toNat m.index).next m.from_.toNat).toNat=_;rw[hnx2]
    ·rw[hY];show 1<=(Qcx X m.from_.toNat m.index).next m.from_.toNat;rw[hnx2];omega
   have hlk1:X.matc m.from_.toNat≠0->NX=X.matc m.from_.toNat+1:=fun h0=>by omega
   exact⟨_,_,_,_,hf,Nat.le_refl _,fun _=>by omega,fun e=>absurd e (Nat.lt_irrefl _),fun e=>by cases e⟩
  ·
   rw[if_neg hno] at hY
   have hyt:m.yes=true:=by
    cases e:m.yes
    ·exact absurd e hno
    ·rfl
   have hidx:m.index.toNat=0:=by
    have:=w.1.2.2.2 h6 hyt
    rw[ht] at this
    have:¬(0<=m.index/\m.index<=X.log.length):=fun x=>hy ⟨hyt,x⟩
    omega
   have hf:HearF k m.to.toNat m.from_.toNat X (Qaa X m) (X.matc m.from_.toNat).toNat (X.next m.from_.toNat).toNat [] []:=
    ⟨by rw[hY];rfl,by rw[hY];rfl,by rw[hY];exact h1,by rw[hY];exact hout0,fun f hf=>by rw[hY];rfl,fun f hf=>by rw[hY];rfl,by rw[hY];rfl,by rw[hY];rfl,by rw[hY];exact hnx.1,.inl rfl,.inl rfl,by rw[hY];exact Nat.le_refl _,fun e=>absurd rfl e⟩
   exact⟨_,_,_,_,hf,Nat.le_refl _,fun _=>Nat.le_refl _,fun e=>absurd e (Nat.lt_irrefl _),fun _=> .inr ⟨hyt,fun x=>hy ⟨hyt,x⟩⟩⟩
end
section
variable {k X0 LC:Nat}{g g':GH}{i f S:Nat}{X Y F L W:RN}{m:RM}{C:CS}{r A B:List RM}
structure PrA(nx:Nat)(its:List It):Prop where
 d:Desc its
 a:∀a,It.A a∈its->nx -1<=a
def noA(its:List It):Prop:=∀a,It.A a∉its
theorem Qh7:∀{its:List It},noA its->Desc its
 | [],_=>trivial
 | .A a::r,h=>absurd (List.mem_cons_self ..) (h a)
 | .Y _::r,h=>Qh7 (its:=r) fun a ha=>h a (List.mem_cons_of_mem _ ha)
 | .N::r,h=>Qh7 (its:=r) fun a ha=>h a (List.mem_cons_of_mem _ ha)
 | .S::r,h=>Qh7 (its:=r) fun a ha=>h a (List.mem_cons_of_mem _ ha)
theorem PrA.noA{nx:Nat}{its:List It}(h:noA its):PrA nx its:=⟨Qh7 h,fun a ha=>absurd ha (h a)⟩
theorem Desc.more:∀{its l:List It},Desc its->(∀b,It.A b∈l->∀a,It.A a∈its->b<=a)->Desc l->Desc (its++l)
 | [],_,_,_,h=>h
 | .A a::r,l,h,hx,hl=>by
  refine⟨fun b hb=> ?_,Desc.more h.2 (fun b hb a ha=>hx b hb a (List.mem_cons_of_mem _ ha)) hl⟩
  rcases List.mem_append.1 hb with e|e
  ·exact h.1 b e
  ·exact hx b e a (List.mem_cons_self ..)
 | .Y _::r,l,h,hx,hl=>Desc.more (its:=r) h (fun b hb a ha=>hx b hb a (List.mem_cons_of_mem _ ha)) hl
 | .N::r,l,h,hx,hl=>Desc.more (its:=r) h (fun b hb a ha=>hx b hb a (List.mem_cons_of_mem _ ha)) hl
 | .S::r,l,h,hx,hl=>Desc.more (its:=r) h (fun b hb a ha=>hx b hb a (List.mem_cons_of_mem _ ha)) hl
theorem desc_same{a:Nat}:∀{l:List It},(∀x∈l,x= .A a)->Desc l
 | [],_=>trivial
 |x::l,h=>by
  have e:=h x (List.mem_cons_self ..)
  subst e
  refine⟨fun b hb=> ?_,desc_same fun y hy=>h y (List.mem_cons_of_mem _ hy)⟩
  have:=h _ (List.mem_cons_of_mem _ hb)
  injection this with this
  omega
theorem PrA.more{nx:Nat}{its l:List It}(h:PrA nx its)(hl:Go.Proofs.YtniojdaddolnfaaGreat.noA l):PrA nx (its++l):=
 ⟨h.d.more (fun b hb=>absurd hb (hl b)) (Qh7 hl),fun a ha=>(List.mem_append.1 ha).elim (h.a a) fun x=>absurd x (hl a)⟩
theorem PrA.less{nx nx':Nat}{its:List It}(h:PrA nx its)(hn:nx'<=nx):PrA nx' its:=⟨h.d,fun a ha=>by have:=h.a a ha;omega⟩
theorem PrA.sends{nx:Nat}{its l:List It}(h:PrA nx its)(hl:∀x∈l,x= .A (nx -1)):PrA nx (its++l):=by
 refine⟨h.d.more (fun b hb a ha=> ?_) (desc_same hl),fun a ha=> ?_⟩
 ·have:=hl _ hb
  injection this with this
  have:=h.a a ha
  omega
 ·rcases List.mem_append.1 ha with e|e
  ·exact h.a a e
  ·have:=hl _ e
   injection this with this
   omega
theorem items_noA{O:List RM}{t:Int}(h:∀o∈O,o.from_≠(i:Int)\/o.kind≠5\/o.term≠t):noA (items O i f t):=fun a ha=>by
 unfold items at ha
 obtain⟨o,ho,hi⟩:=List.mem_filterMap.1 ha
 unfold QaD at hi
 split at hi
 ·rename_i hc
  split at hi
  ·rename_i ht
   rcases h o ho with e|e|e
   ·exact e hc.2.1
   ·exact e hc.1
   ·exact e ht
  ·split at hi<;>cases hi
 ·split at hi
  ·split at hi<;>cases hi
  ·cases hi
structure SelfP(k:Nat)(g:GH)(X Y:RN)(m:RM)(i:Nat)(O:List RM):Prop where
 term:Y.term=X.term
 items:∀f,f<k->f≠i->∀x∈Go.Proofs.YtniojdaddolnfaaGreat.items O i f X.term,x= .A ((Y.next f).toNat -1)
 full:∀o∈O,o.kind=5->o.ents.length=min 8 (Y.log.length -o.index.toNat)
 or_:(X.role=3/\Y.log=X.log/\∀f,f<k->f≠i->((X.matc f).toNat=(Y.matc f).toNat/\(Y.next f).toNat<=(X.next f).toNat)\/((X.matc f).toNat<(Y.matc f).toNat/\m.kind=6/\m.from_=(f:Int)/\m.yes=true/\(Y.matc f).toNat=m.index.toNat/\(Y.next f).toNat=(Y.matc f).toNat+1))\/(X.role=2/\g.ll X.term= []/\m.kind=4/\∀f,f<k->(Y.matc f).toNat=0)
theorem self_p(d:Dl k g S C m r X)(hk:2<=k)(hl:X.log.length<1024)(hr:(Qaa X m).role=3):SelfP k g X (Qaa X m) m m.to.toNat ((Qaa X m).out.take (512 -r.length)):=by
 have h:=d.h
 have c:=d.c
 have hto:=d.to
 have hfr:=d.fr
 have hid:=c.ni.id
 have hWm:∀W:RN,(∀t,t<k->t≠m.to.toNat->1<=W.next t)->W.id=((m.to.toNat:Nat):Int)->W.log=(Qaa X m).log->∀o∈(Qax W k).map (Qbk W),o.ents.length=min 8 ((Qaa X m).log.length -o.index.toNat):=fun W a1 a2 a3 o ho=>by
  obtain⟨t,htt,rfl⟩:=List.mem_map.1 ho
  obtain⟨b1,b2⟩:=Qcl htt
  rw[QeJ (a1 t b1 (by omega)),a3]
 by_cases h3:X.role=3
 ·have Ld:=c.ni.lead h3
  rcases Qdo d.cb c h3 hr with⟨q1,q2,q3⟩|⟨h6,htm,hY⟩
  ·have q5:=q3_of q3
   refine⟨q1.term,fun f hf hfi x hx=> ?_,fun o ho h5=>absurd h5 (q5 o (Qad ho)),.inl ⟨h3,q1.log,fun f hf hfi=> .inl ⟨by rw[q1.matc],by rw[q1.next];exact Nat.le_refl _⟩⟩⟩
   rw[Qcf fun o ho=> ?_] at hx
   ·cases hx
   ·have ho:=Qad ho
    have hf:=(d.xi.out o ho).2
    unfold QaD
    rw[if_neg fun x=>q5 o ho x.1,if_neg fun x=>by have:=x.2.1;omega]
  ·obtain⟨q,nx,T1,T2,hfm,hq1,hq2,hq3,_⟩:=Qhr h d.n d.x h3 h6 htm hY
   have hnx:∀t,t<k->t≠m.to.toNat->1<=(Qaa X m).next t:=fun t h1 h2=>by
    by_cases e:t=m.from_.toNat
    ·rw[e];exact hfm.nq0
    ·rw[hfm.next t e];exact(Ld.nx t h1 h2).1
   have hsplit:(Qaa X m).out.take (512 -r.length)=T1.take (512 -r.length)++T2.take (512 -r.length -T1.length):=by rw[hfm.out,List.take_append]
   have hOk:∀o∈(Qaa X m).out.take (512 -r.length),o.kind=5/\o.from_=((m.to.toNat:Nat):Int)/\o.term=X.term/\∃f,f<k/\f≠m.to.toNat/\o.to=(f:Int)/\o.index=(Qaa X m).next f -1:=fun o ho=>by
    rw[hsplit] at ho
    rcases List.mem_append.1 ho with e|e
    ·have e:=Qad e
     rcases hfm.t1 with e1|⟨W,a1,a2,a3,_,a4⟩
     ·rw[e1] at e;cases e
     ·rw[a4] at e
      have:=QfK (k:=k) (i:=m.to.toNat) (Y:=Qaa X m) (W:=W) (a1.trans hid) (by rw[a2,hfm.term]) a3 o e
      rw[hfm.term] at this
      exact this
    ·have e:=Qad e
     rcases hfm.t2 with e1|⟨W,a1,a2,a3,_,a4⟩
     ·rw[e1] at e;cases e
     ·rw[a4,List.mem_singleton] at e
      subst e
      exact⟨rfl,a1.trans hid,a2,m.from_.toNat,d.ff,d.ne,rfl,by show W.next _ -1=_;rw[a3]⟩
   refine⟨hfm.term,fun f hf hfi=>Qdi (nx:=0) (k:=k) hOk,fun o ho h5=> ?_,.inl ⟨h3,hfm.log,fun f hf hfi=> ?_⟩⟩
   ·have e:=Qad ho
    rw[hfm.out] at e
    rcases List.mem_append.1 e with e|e
    ·rcases hfm.t1 with e1|⟨W,a1,a2,a3,a5,a4⟩
     ·rw[e1] at e;cases e
     ·rw[a4] at e
      exact hWm W (fun t h1 h2=>by rw[a3];exact hnx t h1 h2) (a1.trans c.ni.id) (by rw[a5,hfm.log]) o e
    ·rcases hfm.t2 with e1|⟨W,a1,a2,a3,a5,a4⟩
     ·rw[e1] at e;cases e
     ·rw[a4,List.mem_singleton] at e
      subst e
      rw[QeJ (by rw[a3];exact hfm.nq0),a5,hfm.log]
   ·by_cases e:f=m.from_.toNat
    ·subst e
     rw[hfm.mq,hfm.nq]
     rcases Nat.lt_or_eq_of_le hq1 with x|x
     ·obtain⟨y1,y2,y3⟩:=hq3 x
      exact .inr ⟨x,h6,hfr,y1,y2,y3⟩
     ·refine .inl ⟨x, ?_⟩
      by_cases h0:q=0
      ·exact hq2 h0
      ·
       have hx:=c.xi.nx h3 _ d.ff d.ne
       have hn1:=d.xi.nx (by exact hr) _ d.ff d.ne
       have hmm:=(Ld.mt _ d.ff d.ne).1
       have a1:=hfm.mq
       have a2:=hfm.nq
       have a3:=hfm.nq0
       omega
    ·exact .inl ⟨by rw[hfm.matc f e],by rw[hfm.next f e];exact Nat.le_refl _⟩
 ·obtain⟨k4,e1,hr2,hy,hmo,hY⟩:=Qcd d.cb c d.w.2.2 d.to h3 hr
  obtain⟨Z,z0,z1,z2,z3,z4,z5,z6,z7,W,w1,w2,w3,w4,w5⟩:=QcI c hr2 hk hl (X.votes|||2^m.from_.toNat)
  rw[z0] at hY
  have hidm:X.id=m.to:=by rw[c.ni.id];exact hto.symm
  have hll:=Qhb h.gi c.ni d.w.1 k4 e1 hidm.symm ⟨d.w.2.2.f.1,by rw[c.ni.n];exact d.w.2.2.f.2⟩ hy hr2 hmo
  rw[c.out,List.nil_append] at w5
  refine⟨by rw[hY];exact z2,fun f hf hfi=> ?_,fun o ho h5=> ?_,.inr ⟨hr2,hll,k4,fun f hf=>by rw[hY,(z5 f hf).2];rfl⟩⟩
  ·have hOk:∀o∈Z.out.take (512 -r.length),o.kind=5/\o.from_=((m.to.toNat:Nat):Int)/\o.term=X.term/\∃f,f<k/\f≠m.to.toNat/\o.to=(f:Int)/\o.index=Z.next f -1:=by
    rw[w5]
    exact Qon (X:=Z) (w1.trans c.ni.id) w2 fun t ht=>by rw[w4 t ht];exact((z5 t ht).1).symm
   rw[hY]
   exact Qdi (nx:=0) (k:=k) (f0:=f) hOk
  ·have e:=Qad ho
   rw[hY,w5] at e
   exact hWm W (fun t h1 _=>by rw[w4 t h1];omega) (w1.trans c.ni.id) (by rw[w3,hY]) o e
theorem yes_ll(d:Dl k g S C m r X):∀o∈(Qaa X m).out,o.kind=6->o.yes=true->g.ll o.term≠ []:=fun o ho h6 hy=>by
 have hof:=out_form d.cb d.c d.w.2.2 d.to o ho
 have h5:=(hof.k6 h6).1
 have hll:=(d.w.1.2.2.1 h5).1
 have c:=d.c
 by_cases hlo:m.term<X.term
 ·have hY:=Qi4 d.cb (by omega) hlo
  rw[if_pos h5] at hY
  rw[hY] at ho
  rcases List.mem_append.1 (show o∈X.out++ [_] from ho) with e|e
  ·rw[c.out] at e;cases e
  ·rw[List.mem_singleton] at e
   subst e
   cases hy
 have hge:X.term<=m.term:=by omega
 have hY:=st5 d.cb h5 hge
 have hzt:=QbN hge
 obtain⟨z1,z2,z3,z4,z5,z6,z7⟩:=Qbl X m
 rw[hY] at ho
 by_cases hr3:(Qab X m).role=3
 ·unfold QaV at ho
  rw[if_pos hr3,z3,c.out] at ho
  cases ho
 have e0:(Qag (Qab X m) m).out= []/\(Qag (Qab X m) m).term=m.term:=by rw[Qaz];exact⟨z3.trans c.out,hzt⟩
 have key:∀Z:RN,Z.out= []->Z.term=m.term->∀y idx,o∈(Qib Z m.from_ y idx).out->g.ll o.term≠ []:=fun Z h1 h2 y idx ho=>by
  rcases List.mem_append.1 (show o∈Z.out++ [_] from ho) with e|e
  ·rw[h1] at e;cases e
  ·rw[List.mem_singleton] at e
   subst e
   show g.ll Z.term≠ []
   rw[h2];exact hll
 rcases Qbd (Qab X m) m hr3 with⟨_,e⟩|⟨_,_,e⟩|⟨_,_,e⟩
 ·rw[e] at ho;exact key _ e0.1 e0.2 _ _ ho
 ·rw[e] at ho;exact key _ e0.1 e0.2 _ _ ho
 ·obtain⟨_,_,_,p4,_,p6⟩:=Qcw (Qag (Qab X m) m) m
  rw[e] at ho
  exact key {QbD (Qag (Qab X m) m) m with commit:=_} (p6.trans e0.1) (p4.trans e0.2) _ _ ho
end
section
variable {k X0 LC:Nat}{g g':GH}{i f S:Nat}{X Y F L W:RN}{m:RM}{C:CS}{r A B D D':List RM}
def fbP(k:Nat)(C:CS)(D:List RM):Prop:=∀i,i<k->(nd C i).role=3->∀m∈D,m.kind=5->m.from_=(i:Int)->m.term=(nd C i).term->m.ents.length=min 8 ((nd C i).log.length -m.index.toNat)
def ynP(g:GH)(D:List RM):Prop:=∀m∈D,m.kind=6->m.yes=true->g.ll m.term≠ []
theorem fb_pres(d:Dl k g S C m r X)(hk:2<=k)(hl:X.log.length<1024)(hD:∀x∈D,x∈C.net)(hD':∀x∈D',x∈D\/x∈(Qaa X m).out.take (512 -r.length))(fb:fbP k C D):fbP k (QaX C) D':=by
 intro i hi hr m' hm' h5 hf ht
 by_cases e:i=m.to.toNat
 ·subst e
  rw[d.self] at hr ht⊢
  have hr:(Qaa X m).role=3:=hr
  have sp:=self_p d hk hl hr
  have ht:m'.term=(Qaa X m).term:=ht
  rw[sp.term] at ht
  show m'.ents.length=min 8 ((Qaa X m).log.length -m'.index.toNat)
  rcases hD' m' hm' with x|x
  ·rcases sp.or_ with⟨o1,o2,o3⟩|⟨o1,o2,o3⟩
   ·rw[o2]
    have:=fb _ d.c.ni.ik (by rw[d.old];exact o1) m' x h5 hf (by rw[d.old];exact ht)
    rwa[d.old] at this
   ·exfalso
    have:=(d.h.net m' (hD m' x)).1.2.2.1 h5
    rw[ht] at this
    exact this.1 o2
  ·exact sp.full m' x h5
 ·rw[d.other e] at hr ht⊢
  rcases hD' m' hm' with x|x
  ·exact fb i hi hr m' x h5 hf ht
  ·have:=(d.xi.out m' (Qad x)).2
   omega
theorem yn_pres(d:Dl k g S C m r X)(G:GLe g g')(hD':∀x∈D',x∈D\/x∈(Qaa X m).out.take (512 -r.length))(yn:ynP g D):ynP g' D':=fun m' hm' h6 hy=>by
 have:g.ll m'.term≠ []:=by
  rcases hD' m' hm' with x|x
  ·exact yn m' x h6 hy
  ·exact yes_ll d m' (Qad x) h6 hy
 exact QiC (G.ll _) this
theorem GLe.nil(G:GLe g g'){t:Int}(e:g'.ll t= []):g.ll t= []:=by
 have:=G.ll t
 rw[e] at this
 exact List.prefix_nil.1 this
def no3(c:Nat)(T:Int)(D:List RM):Prop:=∀m∈D,¬(m.kind=3/\m.from_=(c:Int)/\m.term=T)
def no5(c:Nat)(D:List RM):Prop:=∀m∈D,¬(m.kind=5/\m.from_=(c:Int))
def no4(c:Nat)(T:Int)(D:List RM):Prop:=∀m∈D,¬(m.kind=4/\m.to=(c:Int)/\m.yes=true/\m.term=T)
def no6(c:Nat)(T:Int)(D:List RM):Prop:=∀m∈D,¬(m.kind=6/\m.to=(c:Int)/\m.term=T)
theorem QmB(d:Dl k g S C m r X)(hk:2<=k)(hl:X.log.length<1024)(G:GLe g g'){c:Nat}(hc:c<k)(hr:(nd (QaX C) c).role=2)(hll:g'.ll (nd (QaX C) c).term= []):
  CIc c (nd (QaX C) c).term (QaX C).net\/((nd C c).role=2/\(nd (QaX C) c).term=(nd C c).term/\no3 c (nd C c).term ((Qaa X m).out.take (512 -r.length))/\no5 c ((Qaa X m).out.take (512 -r.length))/\(CIc c (nd C c).term C.net->CIc c (nd C c).term (QaX C).net)/\
   (no4 c (nd C c).term ((Qaa X m).out.take (512 -r.length))\/(m.kind=3/\m.from_=(c:Int)/\m.term=(nd C c).term))/\(no6 c (nd C c).term ((Qaa X m).out.take (512 -r.length))\/(m.kind=5/\m.from_=(c:Int)))):=by
 have h:=d.h
 have cn:=d.c
 have hto:=d.to
 have hfr:=d.fr
 have w3:=d.w.2.2
 have hof:=out_form d.cb cn w3 d.to
 by_cases e:c=m.to.toNat
 ·subst e
  rw[d.self] at hr hll⊢
  have hr:(Qaa X m).role=2:=hr
  have hll:g'.ll (Qaa X m).term= []:=hll
  show CIc _ (Qaa X m).term _\/(_/\(Qaa X m).term=_/\_)
  rw[d.old]
  have h5:=Qjh d.cb cn w3 d.to (by omega) hl
  have hto4:∀o∈(Qaa X m).out,o.kind=4->o.to≠((m.to.toNat:Nat):Int):=fun o ho hk4 e=>by
   have:=(hof o ho).k4 hk4
   have:=w3.ne
   omega
  have hto6:∀o∈(Qaa X m).out,o.kind=6->o.to≠((m.to.toNat:Nat):Int):=fun o ho hk6 e=>by
   have:=(hof o ho).k6 hk6
   have:=w3.ne
   omega
  rcases QnG d.cb cn hr hl with⟨h2,ht⟩|ht
  ·have a3:no3 m.to.toNat X.term ((Qaa X m).out.take (512 -r.length)):=fun o ho x=>by have:=(hof o (Qad ho)).k3 x.1;omega
   have a5:no5 m.to.toNat ((Qaa X m).out.take (512 -r.length)):=fun o ho x=>h5 o (Qad ho) x.1
   have a4:no4 m.to.toNat X.term ((Qaa X m).out.take (512 -r.length)):=fun o ho x=>hto4 o (Qad ho) x.1 x.2.1
   refine .inr ⟨h2,ht,a3,a5,fun old=> ?_,.inl a4,.inl fun o ho x=>hto6 o (Qad ho) x.1 x.2.1⟩
   rw[d.n] at old
   rw[d.net]
   exact old.keep (net:= []) a5 a3 a4 fun o ho a b=>absurd b (hto6 o (Qad ho) a)
  ·left
   have hcl:=cn.ni.d.futC _ ht
   rw[d.net]
   refine⟨fun xs m' ys e k1 k2 k3 o ho=> ?_,fun xs m' ys e k1 k2 k3 k4=> ?_⟩
   ·rcases QcX e with⟨ys',e1,e2⟩|⟨xs',e1,e2⟩
    ·exfalso
     obtain⟨lc,b1,_⟩:=(h.net m' (by rw[d.n,e1];simp)).1.1 k1
     rw[k2,k3,hcl] at b1
     cases b1
    ·intro x
     exact h5 o (Qad (by rw[e1];simp[ho])) x.1
   ·exfalso
    rcases QcX e with⟨ys',e1,e2⟩|⟨xs',e1,e2⟩
    ·obtain⟨_,_,_,_,b5⟩:=(h.net m' (by rw[d.n,e1];simp)).1.2.1 k1 k3
     rw[k4] at b5
     obtain⟨lv,lc,b6,_⟩:=b5 (G.nil hll)
     rw[k2,hcl] at b6
     cases b6
    ·exact hto4 m' (Qad (by rw[e1];simp)) k1 k2
 ·rw[d.other e] at hr hll⊢
  have hfrom:∀o∈(Qaa X m).out,o.from_≠(c:Int):=fun o ho e=>by
   have:=(d.xi.out o ho).2
   omega
  have a3:no3 c (nd C c).term ((Qaa X m).out.take (512 -r.length)):=fun o ho x=>hfrom o (Qad ho) x.2.1
  have a5:no5 c ((Qaa X m).out.take (512 -r.length)):=fun o ho x=>hfrom o (Qad ho) x.2
  have a4:no4 c (nd C c).term ((Qaa X m).out.take (512 -r.length))\/(m.kind=3/\m.from_=(c:Int)/\m.term=(nd C c).term):=by
   by_cases hav:m.kind=3/\m.from_=(c:Int)/\m.term=(nd C c).term
   ·exact .inr hav
   ·refine .inl fun o ho x=>hav ?_
    have:=(hof o (Qad ho)).k4 x.1
    exact⟨this.1,by rw[<-this.2.1];exact x.2.1,by rw[<-this.2.2];exact x.2.2.2⟩
  have a6:no6 c (nd C c).term ((Qaa X m).out.take (512 -r.length))\/(m.kind=5/\m.from_=(c:Int)):=by
   by_cases hav:m.kind=5/\m.from_=(c:Int)
   ·exact .inr hav
   ·refine .inl fun o ho x=>hav ?_
    have:=(hof o (Qad ho)).k6 x.1
    exact⟨this.1,by rw[<-this.2];exact x.2.1⟩
  refine .inr ⟨hr,rfl,a3,a5,fun old=> ?_,a4,a6⟩
  rw[d.n] at old
  rw[d.net]
  by_cases hav:m.kind=3/\m.from_=(c:Int)/\m.term=(nd C c).term
  ·obtain⟨v1,v2,v3⟩:=hav
   have hno:=old.a [] m r rfl v1 v2 v3
   have hone:∀o∈(Qaa X m).out,o.kind≠6:=fun o ho e=>by have:=(hof o ho).k6 e;omega
   refine⟨fun xs m' ys e k1 k2 k3 o ho=> ?_,fun xs m' ys e k1 k2 k3 k4=>⟨fun o ho=> ?_,fun o ho=> ?_⟩⟩
   ·rcases QcX e with⟨ys',e1,e2⟩|⟨xs',e1,e2⟩
    ·rw[e2] at ho
     rcases List.mem_append.1 ho with x|x
     ·exact hno o (by rw[e1];simp[x])
     ·exact fun y=>hfrom o (Qad x) y.2
    ·exact absurd k2 (hfrom m' (Qad (by rw[e1];simp)))
   ·rcases List.mem_append.1 ho with x|x
    ·exact hno o x
    ·exact fun y=>hfrom o (Qad x) y.2
   ·rcases QcX e with⟨ys',e1,e2⟩|⟨xs',e1,e2⟩
    ·rw[e2] at ho
     rcases List.mem_append.1 ho with x|x
     ·exact(old.b (m::xs) m' ys' (by rw[e1];rfl) k1 k2 k3 k4).2 o x
     ·exact fun y=>hone o (Qad x) y.1
    ·exact fun y=>hone o (Qad (by rw[e1];simp[ho])) y.1
  ·refine old.keep (net:= []) a5 a3 (a4.resolve_right hav) (fun o ho a b=> ?_)
   have:=(hof o (Qad ho)).k6 a
   exact⟨this.1,by rw[<-this.2];exact b⟩
def ci1(k:Nat)(g:GH)(C:CS)(B:List RM):Prop:=∀c,c<k->(nd C c).role=2->g.ll (nd C c).term= []->CIc c (nd C c).term C.net\/(no3 c (nd C c).term B/\no5 c B)
def ci2(k:Nat)(g:GH)(C:CS)(B:List RM):Prop:=∀c,c<k->(nd C c).role=2->g.ll (nd C c).term= []->CIc c (nd C c).term C.net\/(no3 c (nd C c).term C.net/\no5 c C.net/\no4 c (nd C c).term B/\no6 c (nd C c).term B)
theorem ci1_del(d:Dl k g S C m r X)(hk:2<=k)(hl:X.log.length<1024)(G:GLe g g')(ci:ci1 k g C B):ci1 k g' (QaX C) (B++(Qaa X m).out.take (512 -r.length)):=fun c hc hr hll=>by
 rcases QmB d hk hl G hc hr hll with x|⟨a1,a2,a3,a5,a7,_,_⟩
 ·exact .inl x
 ·rw[a2]
  rcases ci c hc a1 (by rw[a2] at hll;exact G.nil hll) with y|⟨y3,y5⟩
  ·exact .inl (a7 y)
  ·exact .inr ⟨fun o ho=>(List.mem_append.1 ho).elim (y3 o) (a3 o),fun o ho=>(List.mem_append.1 ho).elim (y5 o) (a5 o)⟩
theorem ci2_del(d:Dl k g S C m r X)(hk:2<=k)(hl:X.log.length<1024)(G:GLe g g')(ci:ci2 k g C B):ci2 k g' (QaX C) (B++(Qaa X m).out.take (512 -r.length)):=fun c hc hr hll=>by
 rcases QmB d hk hl G hc hr hll with x|⟨a1,a2,a3,a5,a7,a4,a6⟩
 ·exact .inl x
 ·rw[a2]
  rcases ci c hc a1 (by rw[a2] at hll;exact G.nil hll) with y|⟨y3,y5,y4,y6⟩
  ·exact .inl (a7 y)
  ·have hmm:m∈C.net:=by rw[d.n];exact List.mem_cons_self ..
   have hrr:∀x∈r,x∈C.net:=fun x hx=>by rw[d.n];exact List.mem_cons_of_mem _ hx
   rw[d.net]
   exact .inr ⟨fun o ho=>(List.mem_append.1 ho).elim (fun z=>y3 o (hrr o z)) (a3 o),fun o ho=>(List.mem_append.1 ho).elim (fun z=>y5 o (hrr o z)) (a5 o),fun o ho=>(List.mem_append.1 ho).elim (y4 o) (a4.resolve_right (y3 m hmm) o),fun o ho=>(List.mem_append.1 ho).elim (y6 o) (a6.resolve_right (y5 m hmm) o)⟩
end
section
variable {k X0 LC:Nat}{g g':GH}{i f S:Nat}{X Y F L W:RN}{m:RM}{C:CS}{r A B D D':List RM}
def ps1(k:Nat)(C:CS)(B:List RM):Prop:=∀i f,i<k->f<k->f≠i->(nd C i).role=3->((nd C i).matc f).toNat=0->PrA ((nd C i).next f).toNat (items B i f (nd C i).term)
def ps2(k:Nat)(C:CS)(B:List RM):Prop:=∀i f,i<k->f<k->f≠i->(nd C i).role=3->((nd C i).matc f).toNat=0->
 PrA ((nd C i).next f).toNat (items C.net i f (nd C i).term)/\∀j,It.Y j∈items B i f (nd C i).term->1<=j/\((nd C i).next f).toNat -1<=j/\∀a,It.A a∈items C.net i f (nd C i).term->a<=j
def ps3(k:Nat)(C:CS)(B:List RM):Prop:=∀i f,i<k->f<k->f≠i->(nd C i).role=3->
 if((nd C i).matc f).toNat=0 then PrOK ((nd C i).next f).toNat (items C.net i f (nd C i).term) else Low ((nd C i).matc f).toNat (items B i f (nd C i).term)
theorem QlC(h:CInv k g S C)(hD:∀x∈D,x∈C.net){T:Int}(hll:g.ll T= []):noA (items D i f T)/\(ynP g D->∀j,It.Y j∉items D i f T):=by
 refine⟨items_noA fun o ho=> ?_,fun yn j hj=> ?_⟩
 ·by_cases h5:o.kind=5
  ·by_cases ht:o.term=T
   ·exfalso
    have:=(h.net o (hD o ho)).1.2.2.1 h5
    rw[ht] at this
    exact this.1 hll
   ·exact .inr (.inr ht)
  ·exact .inr (.inl h5)
 ·unfold items at hj
  obtain⟨o,ho,hi⟩:=List.mem_filterMap.1 hj
  unfold QaD at hi
  split at hi
  ·split at hi
   ·cases hi
   ·split at hi<;>cases hi
  ·split at hi
   ·rename_i hc
    split at hi
    ·rename_i hy
     have:=yn o ho hc.1 hy
     rw[hc.2.2.2] at this
     exact this hll
    ·cases hi
   ·cases hi
theorem out_noA(d:Dl k g S C m r X)(h:i≠m.to.toNat){t:Int}:noA (items ((Qaa X m).out.take (512 -r.length)) i f t):=items_noA fun o ho=> .inl (by
 have:=(d.xi.out o (Qad ho)).2
 omega)
theorem ps1_del(d:Dl k g S C m r X)(hk:2<=k)(hl:X.log.length<1024)(hB:∀x∈B,x∈C.net)(ps:ps1 k C B):ps1 k (QaX C) (B++(Qaa X m).out.take (512 -r.length)):=by
 intro i f hi hf hfi hr h0
 rw[QaW]
 by_cases e:i=m.to.toNat
 ·subst e
  rw[d.self] at hr h0⊢
  have hr:(Qaa X m).role=3:=hr
  have sp:=self_p d hk hl hr
  have h0:((Qaa X m).matc f).toNat=0:=h0
  show PrA ((Qaa X m).next f).toNat (items B _ f (Qaa X m).term++items _ _ f (Qaa X m).term)
  rw[sp.term]
  refine PrA.sends ?_ (sp.items f hf hfi)
  rcases sp.or_ with⟨o1,o2,o3⟩|⟨o1,o2,_,o3⟩
  ·rcases o3 f hf hfi with⟨p1,p2⟩|⟨p1,_⟩
   ·have:=ps _ f d.c.ni.ik hf hfi (by rw[d.old];exact o1) (by rw[d.old];omega)
    rw[d.old] at this
    exact this.less p2
   ·omega
  ·exact PrA.noA (QlC d.h hB o2).1
 ·rw[d.other e] at hr h0⊢
  exact(ps i f hi hf hfi hr h0).more (out_noA d e)
theorem Qmo(d:Dl k g S C m r X)(h1:i≠m.to.toNat)(h2:f≠m.to.toNat){t:Int}:QaD i f t m=none:=by
 have:=d.to
 unfold QaD
 rw[if_neg fun x=>by have:=x.2.2;omega,if_neg fun x=>by have:=x.2.2.1;omega]
theorem Qio(d:Dl k g S C m r X)(h1:i≠m.to.toNat)(h2:f≠m.to.toNat){t:Int}:items ((Qaa X m).out.take (512 -r.length)) i f t= []:=Qcf fun o ho=>by
 have:=(d.xi.out o (Qad ho)).2
 unfold QaD
 rw[if_neg fun x=>by have:=x.2.1;omega,if_neg fun x=>by have:=x.2.1;omega]
theorem PrA.tl{nx:Nat}{l its:List It}(h:PrA nx (l++its)):PrA nx its:=by
 induction l with
 |nil=>exact h
 |cons x l ih=>exact ih ⟨h.d.tail,fun a ha=>h.a a (List.mem_cons_of_mem _ ha)⟩
theorem ps2_del(d:Dl k g S C m r X)(hn:r=A++B)(hk:2<=k)(hl:X.log.length<1024)(fb:fbP k C C.net)(yn:ynP g C.net)(ps:ps2 k C B):ps2 k (QaX C) (B++(Qaa X m).out.take (512 -r.length)):=by
 intro i f hi hf hfi hr h0
 have hBn:∀x∈B,x∈C.net:=fun x hx=>by rw[d.n,hn];simp[hx]
 have hrn:∀x∈r,x∈C.net:=fun x hx=>by rw[d.n];exact List.mem_cons_of_mem _ hx
 have hBr:∀{j f:Nat} {t:Int} {x:It},x∈items B j f t->x∈items r j f t:=fun hx=>by rw[hn,QaW];exact List.mem_append_right _ hx
 rw[d.net,QaW,QaW]
 by_cases e:i=m.to.toNat
 ·subst e
  rw[d.self] at hr h0⊢
  have hr:(Qaa X m).role=3:=hr
  have sp:=self_p d hk hl hr
  have h0:((Qaa X m).matc f).toNat=0:=h0
  have hsend:=sp.items f hf hfi
  have hnY:∀j,It.Y j∉items ((Qaa X m).out.take (512 -r.length)) m.to.toNat f X.term:=fun j hj=>by have:=hsend _ hj;cases this
  show PrA ((Qaa X m).next f).toNat (items r _ f (Qaa X m).term++items _ _ f (Qaa X m).term)/\∀j,It.Y j∈items B _ f (Qaa X m).term++items _ _ f (Qaa X m).term->1<=j/\((Qaa X m).next f).toNat -1<=j/\∀a,It.A a∈items r _ f (Qaa X m).term++items _ _ f (Qaa X m).term->a<=j
  rw[sp.term]
  rcases sp.or_ with⟨o1,o2,o3⟩|⟨o1,o2,_,o3⟩
  ·rcases o3 f hf hfi with⟨p1,p2⟩|⟨p1,_⟩
   ·obtain⟨q1,q2⟩:=ps _ f d.c.ni.ik hf hfi (by rw[d.old];exact o1) (by rw[d.old];omega)
    rw[d.old,d.n,QbQ] at q1 q2
    refine⟨(q1.tl.less p2).sends hsend,fun j hj=> ?_⟩
    rcases List.mem_append.1 hj with x|x
    ·obtain⟨s1,s2,s3⟩:=q2 j x
     refine⟨s1,by omega,fun a ha=> ?_⟩
     rcases List.mem_append.1 ha with y|y
     ·exact s3 a (List.mem_append_right _ y)
     ·have:=hsend _ y
      injection this with this
      omega
    ·exact absurd x (hnY j)
   ·omega
  ·obtain⟨n1,n2⟩:=QlC (i:=m.to.toNat) (f:=f) d.h hrn o2
   obtain⟨n3,n4⟩:=QlC (i:=m.to.toNat) (f:=f) d.h hBn o2
   refine⟨(PrA.noA n1).sends hsend,fun j hj=> ?_⟩
   rcases List.mem_append.1 hj with x|x
   ·exact absurd x (n4 (fun y hy=>yn y (hBn y hy)) j)
   ·exact absurd x (hnY j)
 ·rw[d.other e] at hr h0⊢
  obtain⟨q1,q2⟩:=ps i f hi hf hfi hr h0
  rw[d.n,QbQ] at q1 q2
  have hno:=out_noA (f:=f) (t:=(nd C i).term) d e
  refine⟨q1.tl.more hno,fun j hj=> ?_⟩
  have hsub:∀a,It.A a∈items r i f (nd C i).term++items ((Qaa X m).out.take (512 -r.length)) i f (nd C i).term->It.A a∈items r i f (nd C i).term:=fun a ha=>(List.mem_append.1 ha).resolve_right (hno a)
  rcases List.mem_append.1 hj with x|x
  ·obtain⟨s1,s2,s3⟩:=q2 j x
   exact⟨s1,s2,fun a ha=>s3 a (List.mem_append_right _ (hsub a ha))⟩
  ·by_cases e2:f=m.to.toNat
   ·subst e2
    have hL:=d.h.nd hi
    have s:=QlG d.h d.n d.x hL hr hfi fun h5 hf5 ht5=>fb i hi hr m (by rw[d.n];exact List.mem_cons_self ..) h5 hf5 ht5
    generalize itemsof:items ((Qaa X m).out.take (512 -r.length)) i m.to.toNat (nd C i).term=nw at s x hno hsub⊢
    generalize headof:(QaD i m.to.toNat (nd C i).term m).toList=hd at s q1 q2
    cases s with
    |stay h1 h2 h3=>rw[h3] at x;cases x
    |lose y h1 h2 h3 h4=>rw[h4] at x;cases x
    |stray h1 h2 h3 h4=>
     rcases h4 with h4|h4
     ·rw[h4] at x;cases x
     ·rw[h4,List.mem_singleton] at x;cases x
    |no a h1 h2 h3 h4=>rw[h4,List.mem_singleton] at x;cases x
    |yes0 a j' h1 h2 h3 h4 h5 h6=>
     rw[h6,List.mem_singleton] at x
     injection x with x
     subst x
     rw[h5] at q1
     have q1':PrA ((nd C i).next m.to.toNat).toNat (.A a::items r i m.to.toNat (nd C i).term):=q1
     have:=q1'.a a (List.mem_cons_self ..)
     exact⟨h3,by omega,fun b hb=>Nat.le_trans (q1'.d.1 b (hsub b hb)) h4⟩
    |full a h1 h2=>omega
    |short a h1 h2=>omega
   ·rw[Qio d e e2] at x
    cases x
theorem ps3_del(d:Dl k g S C m r X)(hn:r=A++B)(hk:2<=k)(hl:X.log.length<1024)(fb:fbP k C C.net)(yn:ynP g C.net)(ps:ps3 k C B):ps3 k (QaX C) (B++(Qaa X m).out.take (512 -r.length)):=by
 intro i f hi hf hfi hr
 have hrn:∀x∈r,x∈C.net:=fun x hx=>by rw[d.n];exact List.mem_cons_of_mem _ hx
 have hBr:∀{j f:Nat} {t:Int} {x:It},x∈items B j f t->x∈items r j f t:=fun hx=>by rw[hn,QaW];exact List.mem_append_right _ hx
 rw[d.net,QaW,QaW]
 by_cases e:i=m.to.toNat
 ·subst e
  rw[d.self] at hr⊢
  have hr:(Qaa X m).role=3:=hr
  have sp:=self_p d hk hl hr
  have hsend:=sp.items f hf hfi
  have hnx:=d.xi.nx hr f hf hfi
  show if((Qaa X m).matc f).toNat=0 then PrOK ((Qaa X m).next f).toNat (items r _ f (Qaa X m).term++items _ _ f (Qaa X m).term) else Low ((Qaa X m).matc f).toNat (items B _ f (Qaa X m).term++items _ _ f (Qaa X m).term)
  rw[sp.term]
  have prs:∀its:List It,PrOK ((Qaa X m).next f).toNat its->PrOK ((Qaa X m).next f).toNat (its++items ((Qaa X m).out.take (512 -r.length)) m.to.toNat f X.term):=fun its hp=>by
   have:=POK.sends (hv:=0) (nx:=((Qaa X m).next f).toNat) (its:=its) (l:=items ((Qaa X m).out.take (512 -r.length)) m.to.toNat f X.term) (by unfold POK;rw[if_pos rfl];exact hp) hsend
   unfold POK at this
   rwa[if_pos rfl] at this
  have lows:∀its:List It,((Qaa X m).matc f).toNat≠0->Low ((Qaa X m).matc f).toNat its->Low ((Qaa X m).matc f).toNat (its++items ((Qaa X m).out.take (512 -r.length)) m.to.toNat f X.term):=fun its h0 hp a ha=>by
   rcases List.mem_append.1 ha with x|x
   ·exact hp a x
   ·have:=hsend _ x
    injection this with this
    omega
  rcases sp.or_ with⟨o1,o2,o3⟩|⟨o1,o2,_,o3⟩
  ·have old:=ps _ f d.c.ni.ik hf hfi (by rw[d.old];exact o1)
   rw[d.old,d.n,QbQ] at old
   rcases o3 f hf hfi with⟨p1,p2⟩|⟨p1,p3,p4,p5,p6,p7⟩
   ·by_cases h0:((Qaa X m).matc f).toNat=0
    ·rw[if_pos h0]
     rw[if_pos (by omega)] at old
     have ht:PrOK (X.next f).toNat (items r m.to.toNat f X.term):=by
      cases hh:QaD m.to.toNat f X.term m with
      |none=>rw[hh] at old;exact old
      |some y=>rw[hh] at old;exact PrOK.tail old
     exact prs _ (ht.less p2)
    ·rw[if_neg h0]
     rw[if_neg (by omega)] at old
     exact lows _ h0 (old.up (by omega))
   ·rw[if_neg (by omega)]
    refine lows _ (by omega) ?_
    by_cases h0:(X.matc f).toNat=0
    ·rw[if_pos h0] at old
     intro a ha
     by_cases ht:m.term=X.term
     ·have hit:QaD m.to.toNat f X.term m=some (.Y m.index.toNat):=by
       rw[Qhp p3 p4 d.to ht,if_pos p5]
      rw[hit] at old
      have:=(old.y m.index.toNat (List.mem_cons_self ..)).2.2 a (List.mem_cons_of_mem _ (hBr ha))
      omega
     ·
      exfalso
      have h3r:(Qaa X m).role=3:=hr
      rcases Qdo d.cb d.c o1 h3r with⟨q1,_,_⟩|⟨_,htm,_⟩
      ·rw[q1.matc] at p1;omega
      ·exact ht htm
    ·rw[if_neg h0] at old
     exact old.up (by omega)
  ·obtain⟨n1,n2⟩:=QlC (i:=m.to.toNat) (f:=f) d.h hrn o2
   rw[if_pos (o3 f hf)]
   refine prs _ ⟨Qh7 n1,fun a ha=>absurd ha (n1 a),fun j hj=>absurd hj (n2 (fun y hy=>yn y (hrn y hy)) j)⟩
 ·rw[d.other e] at hr⊢
  have old:=ps i f hi hf hfi hr
  rw[d.n,QbQ] at old
  have hno:=out_noA (f:=f) (t:=(nd C i).term) d e
  by_cases h0:((nd C i).matc f).toNat=0
  ·rw[if_pos h0] at old⊢
   by_cases e2:f=m.to.toNat
   ·subst e2
    have hL:=d.h.nd hi
    have Ld:=(d.h.node i _ hL).ni.lead hr
    have s:=(QlG d.h d.n d.x hL hr hfi fun h5 hf5 ht5=>fb i hi hr m (by rw[d.n];exact List.mem_cons_self ..) h5 hf5 ht5).step (items r i m.to.toNat (nd C i).term)
    have:=s.ok (nx:=((nd C i).next m.to.toNat).toNat) (by unfold POK;rw[if_pos h0];exact old) (.inr (by have:=List.length_pos_iff.2 Ld.ne;omega))
    unfold POK at this
    rwa[if_pos h0] at this
   ·rw[Qio d e e2,List.append_nil]
    rw[Qmo d e e2] at old
    exact old
  ·rw[if_neg h0] at old⊢
   intro a ha
   exact old a ((List.mem_append.1 ha).resolve_right (hno a))
end
section
variable {k X0 LC M:Nat}{g g':GH}{i f S:Nat}{X Y F L W:RN}{m:RM}{C:CS}{r A B D D':List RM}{rr:Nat->Nat}
theorem putR_len(es:List RE)(index term:Int)(ys:List RE)(h0:0<=index):(Qc8 es index term ys).1.length<=max es.length (index.toNat+ys.length):=by
 unfold Qc8
 repeat' split
 all_goals try exact Nat.le_max_left _ _
 rw[List.length_append,List.length_take,List.length_drop]
 have:=(QfR (es.drop index.toNat) ys).2
 omega
theorem step_log(d:Dl k g S C m r X)(hk:2<=k)(hl:X.log.length<1024):(Qaa X m).log.length<=X.log.length\/(m.kind=5/\(Qaa X m).log.length<=max X.log.length (m.index.toNat+m.ents.length))\/(X.role=2/\(Qaa X m).role=3/\(Qaa X m).log.length=X.log.length+1):=by
 have c:=d.c
 have hc:=d.cb
 have c5:=hc.2.2.2.2.1
 have c6:=hc.2.2.2.2.2.1
 by_cases hlead:X.role≠3/\(Qaa X m).role=3
 ·obtain⟨k4,e1,hr2,_,_,hY⟩:=Qcd hc c d.w.2.2 d.to hlead.1 hlead.2
  obtain⟨Z,z0,z1,z2,z3,z4,z5,z6,z7,W,w1,w2,_,w4,w5⟩:=QcI c hr2 hk hl (X.votes|||2^m.from_.toNat)
  rw[z0] at hY
  exact .inr (.inr ⟨hr2,hlead.2,by rw[hY,z3,List.length_append];rfl⟩)
 have hna:¬QaF X (2^X.id.toNat):=Qcy (X:=X) (m:=m) c.ni ⟨d.w.2.2.f.1,by rw[c.ni.n];exact d.w.2.2.f.2,by rw[c.ni.id,<-d.to];exact d.w.2.2.ne⟩
 by_cases k1:m.kind=1
 ·rw[st1 hc k1];exact .inl (Nat.le_refl _)
 by_cases k2:m.kind=2
 ·rw[st2 hc k2]
  unfold QaS
  split
  ·unfold Qai;split<;>exact .inl (Nat.le_refl _)
  split
  ·split
   ·unfold QaU
    rw[if_neg (show ¬QaF {X with votes:=X.votes|||2^m.from_.toNat} (2^X.id.toNat) from hna)]
    exact .inl (Nat.le_refl _)
   ·exact .inl (Nat.le_refl _)
  ·exact .inl (Nat.le_refl _)
 by_cases ht:m.term<X.term
 ·rw[Qi4 hc (by omega) ht]
  split<;>exact .inl (Nat.le_refl _)
 have ht:X.term<=m.term:=by omega
 obtain⟨z1,z2,z3,z4,z5,z6,z7⟩:=Qbl X m
 by_cases k3:m.kind=3
 ·rw[st3 hc k3 ht]
  left
  show(if Qbm (Qab X m) m then _ else Qab X m).log.length<=_
  split
  ·exact Nat.le_of_eq (congrArg List.length z2)
  ·exact Nat.le_of_eq (congrArg List.length z2)
 by_cases k4:m.kind=4
 ·rw[st4 hc k4 ht] at hlead⊢
  unfold Qar at hlead⊢
  split
  ·exact .inl (Nat.le_of_eq (congrArg List.length z2))
  rename_i hno
  rw[if_neg hno] at hlead
  have hr2:(Qab X m).role=2:=Decidable.byContradiction fun x=>hno (.inr x)
  have hXe:Qab X m=X:=by
   rcases QaO X m with e|⟨e,_⟩
   ·rw[e] at hr2;exact absurd hr2 (by decide)
   ·exact e
  rw[hXe] at hlead hr2⊢
  split
  ·rename_i hmo
   rw[if_pos hmo] at hlead
   exfalso
   apply hlead
   refine⟨by omega, ?_⟩
   have cd:=c.ni.cand hr2
   have:=Qce c.ni.d.ter c.ni.d.t0
   rw[Qgo (Z:={X with votes:=X.votes|||2^m.from_.toNat}) (show ¬X.term<Qa9 X.log by omega) hl]
   exact(Qan _).2.1
  ·exact .inl (Nat.le_refl _)
 by_cases k5:m.kind=5
 ·rw[st5 hc k5 ht]
  by_cases hr3:(Qab X m).role=3
  ·unfold QaV
   rw[if_pos hr3]
   exact .inl (Nat.le_of_eq (congrArg List.length z2))
  have hap:(Qag (Qab X m) m).log=X.log:=by rw[Qaz];exact z2
  rcases Qbd (Qab X m) m hr3 with⟨_,e⟩|⟨_,_,e⟩|⟨_,_,e⟩
  ·rw[e];exact .inl (Nat.le_of_eq (congrArg List.length hap))
  ·rw[e];exact .inl (Nat.le_of_eq (congrArg List.length hap))
  ·rw[e]
   refine .inr (.inl ⟨k5, ?_⟩)
   show(QbD (Qag (Qab X m) m) m).log.length<=_
   have:(QbD (Qag (Qab X m) m) m).log=(Qc8 (Qag (Qab X m) m).log m.index m.logTerm m.ents).1:=by
    unfold QbD
    split<;>rfl
   rw[this,hap]
   exact putR_len _ _ _ _ (d.w.1.2.2.1 k5).2.2.1
 ·rw[st6 hc (by omega) ht]
  left
  unfold QaC
  split
  ·exact Nat.le_of_eq (congrArg List.length z2)
  split
  ·have:=(Qan (Qau (Qab X m) m.from_.toNat m.index)).2.2.1
   split
   ·show(Qaf (Qau (Qab X m) m.from_.toNat m.index)).log.length<=_
    rw[this];exact Nat.le_of_eq (congrArg List.length z2)
   ·rw[this];exact Nat.le_of_eq (congrArg List.length z2)
  split
  ·exact Nat.le_of_eq (congrArg List.length z2)
  ·exact Nat.le_of_eq (congrArg List.length z2)
theorem agree_since{Z:RN}(h:Z.since<=X.since)(h0:0<=X.since):(Qaf Z).since<=X.since:=by
 rcases Qdh Z with e|e
 ·rw[e];exact h
 ·rw[e];exact h0
theorem QiI(Z:RN):(Qbh Z).since=0:=by
 have:(Qc7 (Qay Z) ⟨#[]⟩).1.since=0:=by
  unfold Qc7
  split
  ·rfl
  split
  ·rfl
  ·rcases Qdh (Qa4 (QaN {Qay Z with log:=(Qay Z).log++ [⟨(Qay Z).term,⟨#[]⟩⟩]} (((Qay Z).log.length:Int)+1))) with e|e
   ·rw[e];rfl
   ·exact e
 unfold Qbh
 split
 ·unfold Qai;split<;>exact this
 ·exact this
theorem Qj7(hc:QaR X m)(h0:0<=X.since):(Qaa X m).since<=X.since:=by
 have c5:=hc.2.2.2.2.1
 have c6:=hc.2.2.2.2.2.1
 by_cases k1:m.kind=1
 ·rw[st1 hc k1];exact Int.le_refl _
 by_cases k2:m.kind=2
 ·rw[st2 hc k2]
  unfold QaS
  split
  ·unfold Qai;split<;>exact Int.le_refl _
  split
  ·split
   ·unfold QaU
    split
    ·rw[QiI];exact h0
    ·exact h0
   ·exact Int.le_refl _
  ·exact Int.le_refl _
 by_cases ht:m.term<X.term
 ·rw[Qi4 hc (by omega) ht]
  split<;>exact Int.le_refl _
 have ht:X.term<=m.term:=by omega
 have hz:(Qab X m).since=X.since:=by
  unfold Qab Qai
  split<;>(try split)<;>rfl
 by_cases k3:m.kind=3
 ·rw[st3 hc k3 ht]
  show(if Qbm (Qab X m) m then{(Qab X m) with hard:=(Qab X m).hard||((Qab X m).vote !=m.from_),vote:=m.from_,since:=0} else Qab X m).since<=_
  split
  ·exact h0
  ·rw[hz];exact Int.le_refl _
 by_cases k4:m.kind=4
 ·rw[st4 hc k4 ht]
  unfold Qar
  split
  ·rw[hz];exact Int.le_refl _
  split
  ·rw[QiI];exact h0
  ·rw[hz];exact Int.le_refl _
 by_cases k5:m.kind=5
 ·rw[st5 hc k5 ht]
  by_cases hr3:(Qab X m).role=3
  ·unfold QaV
   rw[if_pos hr3,hz];exact Int.le_refl _
  have hap:(Qag (Qab X m) m).since=0:=by rw[Qaz]
  rcases Qbd (Qab X m) m hr3 with⟨_,e⟩|⟨_,_,e⟩|⟨_,_,e⟩
  ·rw[e];show(Qag (Qab X m) m).since<=_;rw[hap];exact h0
  ·rw[e];show(Qag (Qab X m) m).since<=_;rw[hap];exact h0
  ·rw[e]
   show(QbD (Qag (Qab X m) m) m).since<=_
   have:(QbD (Qag (Qab X m) m) m).since=(Qag (Qab X m) m).since:=by
    unfold QbD
    split<;>rfl
   rw[this,hap];exact h0
 ·rw[st6 hc (by omega) ht]
  unfold QaC
  split
  ·rw[hz];exact Int.le_refl _
  split
  ·have:=agree_since (X:=X) (Z:=Qau (Qab X m) m.from_.toNat m.index) (by show(Qab X m).since<=_;rw[hz];exact Int.le_refl _) h0
   split<;>exact this
  split
  ·show(Qab X m).since<=_;rw[hz];exact Int.le_refl _
  ·show(Qab X m).since<=_;rw[hz];exact Int.le_refl _
def lb(k:Nat)(rr:Nat->Nat)(C:CS):Nat:=Qck k fun i=>(if(nd C i).role=1\/(nd C i).role=2 then 1 else 0)+Qb8 (rr i) (nd C i).since
structure LenB(k M:Nat)(C:CS):Prop where
 l:∀i,i<k->(nd C i).log.length<=M
 m:∀m∈C.net,m.kind=5->m.index.toNat+m.ents.length<=M
theorem QeW{r r':Nat}{s s':Int}(h:r<=r')(hs:s<=s'):Qb8 r s<=Qb8 r' s':=by
 unfold Qb8
 exact Nat.div_le_div_right (by omega)
theorem step_role(d:Dl k g S C m r X)(hl:X.log.length<1024)(h:(Qaa X m).role=1\/(Qaa X m).role=2):X.role=1\/X.role=2:=by
 have c:=d.c
 have hc:=d.cb
 have c5:=hc.2.2.2.2.1
 have c6:=hc.2.2.2.2.2.1
 by_cases k1:m.kind=1
 ·rw[st1 hc k1] at h;exact h
 by_cases k2:m.kind=2
 ·rw[st2 hc k2] at h
  unfold QaS at h
  split at h
  ·have:(Qai X m.term (-1)).role=0:=by unfold Qai;split<;>rfl
   omega
  split at h
  ·rename_i hc2
   exact .inl hc2.2.2
  ·exact h
 by_cases ht:m.term<X.term
 ·rw[Qi4 hc (by omega) ht] at h
  split at h<;>exact h
 have ht:X.term<=m.term:=by omega
 have hz:(Qab X m).role=1\/(Qab X m).role=2->X.role=1\/X.role=2:=fun x=>by
  rcases QaO X m with e|⟨e,_⟩
  ·omega
  ·rwa[e] at x
 by_cases k3:m.kind=3
 ·rw[st3 hc k3 ht] at h
  have e1:(Qbg (Qab X m) m).role=(Qab X m).role:=by
   show(if Qbm (Qab X m) m then _ else Qab X m).role=_
   split<;>rfl
  rw[e1] at h
  exact hz h
 by_cases k4:m.kind=4
 ·rw[st4 hc k4 ht] at h
  unfold Qar at h
  split at h
  ·exact hz h
  ·rename_i hno
   exact hz (.inr (Decidable.byContradiction fun x=>hno (.inr x)))
 by_cases k5:m.kind=5
 ·rw[st5 hc k5 ht] at h
  by_cases hr3:(Qab X m).role=3
  ·unfold QaV at h
   rw[if_pos hr3] at h
   exact hz h
  have hap:(Qag (Qab X m) m).role=0:=by rw[Qaz]
  exfalso
  rcases Qbd (Qab X m) m hr3 with⟨_,e⟩|⟨_,_,e⟩|⟨_,_,e⟩
  ·rw[e] at h
   have h:(Qag (Qab X m) m).role=1\/(Qag (Qab X m) m).role=2:=h
   omega
  ·rw[e] at h
   have h:(Qag (Qab X m) m).role=1\/(Qag (Qab X m) m).role=2:=h
   omega
  ·rw[e] at h
   have h:(QbD (Qag (Qab X m) m) m).role=1\/(QbD (Qag (Qab X m) m) m).role=2:=h
   rw[(Qcw _ m).2.2.2.2.1] at h
   omega
 ·rw[st6 hc (by omega) ht] at h
  have e:(QaC (Qab X m) m).role=(Qab X m).role:=by
   unfold QaC
   split
   ·rfl
   split
   ·split<;>exact(Qan (Qau (Qab X m) m.from_.toNat m.index)).2.1
   split<;>rfl
  rw[e] at h
  exact hz h
theorem len_del(d:Dl k g S C m r X)(h':CInv k g' (S+1) (QaX C))(hk:2<=k)(hM:M<1024)(lenb:LenB k M C):∃M',LenB k M' (QaX C)/\M'+lb k rr (QaX C)<=M+lb k rr C:=by
 have c:=d.c
 have hXl:=lenb.l _ c.ni.ik
 rw[d.old] at hXl
 have hmm:m∈C.net:=by rw[d.n];exact List.mem_cons_self ..
 have hs0:=c.bn.s.1
 have hsince:=Qj7 d.cb hs0
 have hlog:=step_log d hk (by omega)
 have hrole:=step_role d (by omega)
 have gen:∀M' e,M<=M'->(Qaa X m).log.length<=M'->M'=M+e->(e=0\/(e=1/\X.role=2/\(Qaa X m).role=3))->∃M',LenB k M' (QaX C)/\M'+lb k rr (QaX C)<=M+lb k rr C:=fun M' e h1 h2 h3 h4=>by
  refine⟨M',⟨fun j hj=> ?_,fun o ho h5=> ?_⟩, ?_⟩
  ·by_cases ej:j=m.to.toNat
   ·subst ej;rw[d.self];exact h2
   ·rw[d.other ej];exact Nat.le_trans (lenb.l j hj) h1
  ·rw[d.net] at ho
   rcases List.mem_append.1 ho with x|x
   ·exact Nat.le_trans (lenb.m o (by rw[d.n];exact List.mem_cons_of_mem _ x) h5) h1
   ·
    have hmem:o∈(QaX C).net:=by rw[d.net];exact List.mem_append_right _ x
    have hr3:(Qaa X m).role=3:=Decidable.byContradiction fun y=>Qjh d.cb c d.w.2.2 d.to y (by omega) o (Qad x) h5
    have hnd:=h'.nd c.ni.ik
    rw[d.self] at hnd
    have Ld:=(h'.node _ _ hnd).ni.lead hr3
    obtain⟨b1,b2,b3,b4,_,b6,_⟩:=(h'.net o hmem).1.2.2.1 h5
    have hot:o.term=(Qae (Qaa X m)).term:=by
     have hfo:=(d.xi.out o (Qad x)).2
     by_cases heq:o.term=(Qae (Qaa X m)).term
     ·exact heq
     ·exfalso
      have hsp:=self_p d hk (by omega) hr3
      have hh:∀o∈(Qaa X m).out,o.kind=5->o.term=(Qaa X m).term:=by
       by_cases h3:X.role=3
       ·rcases Qdo d.cb c h3 hr3 with⟨q1,q2,q3⟩|⟨h6,htm,hY⟩
        ·exact fun o ho h5=>absurd h5 (q3_of q3 o ho)
        ·obtain⟨q,nx,T1,T2,hfm,_⟩:=Qhr d.h d.n d.x h3 h6 htm hY
         intro o ho h5
         rw[hfm.out] at ho
         rcases List.mem_append.1 ho with e|e
         ·rcases hfm.t1 with e1|⟨W,a1,a2,a3,_,a4⟩
          ·rw[e1] at e;cases e
          ·rw[a4] at e
           obtain⟨t,_,rfl⟩:=List.mem_map.1 e
           exact a2.trans hfm.term.symm
         ·rcases hfm.t2 with e1|⟨W,a1,a2,a3,_,a4⟩
          ·rw[e1] at e;cases e
          ·rw[a4,List.mem_singleton] at e
           subst e
           exact a2.trans hfm.term.symm
       ·obtain⟨k4,e1,hr2,_,_,hY⟩:=Qcd d.cb c d.w.2.2 d.to h3 hr3
        obtain⟨Z,z0,z1,z2,z3,z4,z5,z6,z7,W,w1,w2,_,w4,w5⟩:=QcI c hr2 hk (by omega) (X.votes|||2^m.from_.toNat)
        rw[z0] at hY
        intro o ho h5
        rw[hY,w5,c.out,List.nil_append] at ho
        obtain⟨t,_,rfl⟩:=List.mem_map.1 ho
        rw[hY]
        exact w2.trans z2.symm
      exact heq (hh o (Qad x) h5)
    rw[hot,Ld.ll] at b4 b6
    have:=Qbf b6
    rw[List.length_drop] at this
    have hcl:(Qae (Qaa X m)).log.length=(Qaa X m).log.length:=rfl
    omega
  ·have hsum:=QdZ (F:=fun i=>(if(nd (QaX C) i).role=1\/(nd (QaX C) i).role=2 then 1 else 0)+Qb8 (rr i) (nd (QaX C) i).since) (G:=fun i=>(if(nd C i).role=1\/(nd C i).role=2 then 1 else 0)+Qb8 (rr i) (nd C i).since) (i:=m.to.toNat) (n:=k) (a:=e) (b:=0) c.ni.ik (fun j hj hji=>by simp only[d.other hji];exact Nat.le_refl _) (by
    simp only[d.self,d.old]
    show(if(Qaa X m).role=1\/(Qaa X m).role=2 then 1 else 0)+Qb8 (rr m.to.toNat) (Qaa X m).since+e<=_
    have ha:=QeW (r:=rr m.to.toNat) (Nat.le_refl _) hsince
    rcases h4 with h4|⟨h4,h5,h6⟩
    ·by_cases hy:(Qaa X m).role=1\/(Qaa X m).role=2
     ·rw[if_pos hy,if_pos (hrole hy)];omega
     ·rw[if_neg hy];omega
    ·rw[if_neg (by omega),if_pos (.inr h5)];omega)
   unfold lb
   omega
 rcases hlog with x|⟨x1,x2⟩|⟨x1,x2,x3⟩
 ·exact gen M 0 (Nat.le_refl _) (by omega) rfl (.inl rfl)
 ·exact gen M 0 (Nat.le_refl _) (by have:=lenb.m m hmm x1;omega) rfl (.inl rfl)
 ·exact gen (M+1) 1 (by omega) (by omega) rfl (.inr ⟨rfl,x1,x2⟩)
end
section
variable {k X0 LC M bd E:Nat}{g g':GH}{i f S:Nat}{X Y F L W:RN}{m:RM}{C:CS}{r A B D D':List RM}{rr:Nat->Nat}
theorem Qa1{n:Nat}(h:C.net≠ []):Qbq (n+1) C=Qbq n (QaX C):=by
 show(if C.net= [] then C else Qbq n (QaX C))=_
 rw[if_neg h]
theorem QbX:∀{n:Nat},C.net= []->Qbq n C=C
 |0,_=>rfl
 |n+1,h=>by show(if C.net= [] then C else _)=_;rw[if_pos h]
def own1(k:Nat)(C:CS):Nat:=Qck k fun i=>if(nd C i).role=3 then QcW (nd C i) -1 else 0
theorem own_del(d:Dl k g S C m r X)(hk:2<=k)(hl:X.log.length<1024):own1 k (QaX C)<=own1 k C:=by
 refine Qcn fun i hi=> ?_
 by_cases e:i=m.to.toNat
 ·subst e
  rw[d.self,d.old]
  by_cases hr:(Qaa X m).role=3
  ·rw[if_pos (show(Qae (Qaa X m)).role=3 from hr)]
   by_cases h3:X.role=3
   ·rw[if_pos h3]
    rcases Qdo d.cb d.c h3 hr with⟨q1,_,_⟩|⟨h6,htm,hY⟩
    ·rw[QeQ q1];exact Nat.le_refl _
    ·obtain⟨q,nx,T1,T2,hfm,_⟩:=Qhr d.h d.n d.x h3 h6 htm hY
     have:=hfm.own.1
     omega
   ·obtain⟨k4,e1,hr2,_,_,hY⟩:=Qcd d.cb d.c d.w.2.2 d.to h3 hr
    obtain⟨Z,z0,z1,z2,z3,z4,z5,z6,z7,W,w1,w2,_,w4,w5⟩:=QcI d.c hr2 hk hl (X.votes|||2^m.from_.toNat)
    rw[z0] at hY
    rw[hY]
    have:QcW (Qae Z)<=1:=ownU_new (c:=0) (d.c.ni.cand hr2).ter z3 z2 (by show Z.commit<=_;rw[z4];exact d.c.ni.c1)
    omega
  ·rw[if_neg (show ¬(Qae (Qaa X m)).role=3 from hr)];exact Nat.zero_le _
 ·rw[d.other e];exact Nat.le_refl _
structure Bas(k:Nat)(rr:Nat->Nat)(bd E:Nat)(g:GH)(S:Nat)(C:CS):Prop where
 c:CInv k g S C
 own:own1 k C<=E
 len:∃M,LenB k M C/\M+lb k rr C<=bd
theorem Bas.lt(b:Bas k rr bd E g S C)(hbd:bd<1024)(hi:i<k):(nd C i).log.length<=bd:=by
 obtain⟨M,h1,h2⟩:=b.len
 have:=h1.l i hi
 omega
theorem Bas.del(b:Bas k rr bd E g S C)(d:Dl k g S C m r X)(hk:2<=k)(hbd:bd<1024):∃g',GLe g g'/\Bas k rr bd E g' (S+1) (QaX C):=by
 obtain⟨g',G,h'⟩:=b.c.del
 obtain⟨M,h1,h2⟩:=b.len
 obtain⟨M',h3,h4⟩:=len_del (rr:=rr) d h' hk (by omega) h1
 have hl:X.log.length<1024:=by have:=b.lt hbd d.c.ni.ik;rw[d.old] at this;omega
 exact⟨g',G,h',Nat.le_trans (own_del d hk hl) b.own,M',h3,by omega⟩
theorem stage1(hk:2<=k)(hbd:bd<1024):∀(A:List RM){B:List RM}{g:GH}{S:Nat}{C:CS},Bas k rr bd E g S C->C.net=A++B->fbP k C B->ynP g B->ps1 k C B->ci1 k g C B->
  ∃g' S' C',(∀n,Qbq (A.length+n) C=Qbq n C')/\GLe g g'/\Bas k rr bd E g' S' C'/\fbP k C' C'.net/\ynP g' C'.net/\ps1 k C' C'.net/\ci1 k g' C' C'.net
 | [],B,g,S,C,b,hn,f1,f2,f3,f4=>⟨g,S,C,fun n=>by show Qbq (0+n) C=_;rw[Nat.zero_add],GLe.refl g,b,by rw[hn];exact f1,by rw[hn];exact f2,by rw[hn];exact f3,by rw[hn];exact f4⟩
 |m::A,B,g,S,C,b,hn,f1,f2,f3,f4=>by
  obtain⟨X,d⟩:=b.c.dl (m:=m) (r:=A++B) hn
  obtain⟨g1,G,b1⟩:=b.del d hk hbd
  have hl:X.log.length<1024:=by have:=b.lt hbd d.c.ni.ik;rw[d.old] at this;omega
  have hB:∀x∈B,x∈C.net:=fun x hx=>by rw[hn];simp[hx]
  have hD':∀x∈B++(Qaa X m).out.take (512 -(A++B).length),x∈B\/x∈(Qaa X m).out.take (512 -(A++B).length):=fun x hx=>List.mem_append.1 hx
  obtain⟨g2,S2,C2,h1,h2,h3⟩:=stage1 hk hbd A (B:=B++(Qaa X m).out.take (512 -(A++B).length)) b1 (by rw[d.net,List.append_assoc]) (fb_pres d hk hl hB hD' f1) (yn_pres d G hD' f2) (ps1_del d hk hl hB f3) (ci1_del d hk hl G f4)
  refine⟨g2,S2,C2,fun n=> ?_,G.trans h2,h3⟩
  rw[<-h1 n,List.length_cons,show A.length+1+n=(A.length+n)+1 by omega]
  exact Qa1 (by rw[hn];simp)
theorem stage2(hk:2<=k)(hbd:bd<1024):∀(A:List RM){B:List RM}{g:GH}{S:Nat}{C:CS},Bas k rr bd E g S C->C.net=A++B->fbP k C C.net->ynP g C.net->ps2 k C B->ci2 k g C B->
  ∃g' S' C',(∀n,Qbq (A.length+n) C=Qbq n C')/\GLe g g'/\Bas k rr bd E g' S' C'/\fbP k C' C'.net/\ynP g' C'.net/\ps2 k C' C'.net/\ci2 k g' C' C'.net
 | [],B,g,S,C,b,hn,f1,f2,f3,f4=>⟨g,S,C,fun n=>by show Qbq (0+n) C=_;rw[Nat.zero_add],GLe.refl g,b,f1,f2,by rw[hn];exact f3,by rw[hn];exact f4⟩
 |m::A,B,g,S,C,b,hn,f1,f2,f3,f4=>by
  obtain⟨X,d⟩:=b.c.dl (m:=m) (r:=A++B) hn
  obtain⟨g1,G,b1⟩:=b.del d hk hbd
  have hl:X.log.length<1024:=by have:=b.lt hbd d.c.ni.ik;rw[d.old] at this;omega
  have hD':∀x∈(QaX C).net,x∈C.net\/x∈(Qaa X m).out.take (512 -(A++B).length):=fun x hx=>by
   rw[d.net] at hx
   rcases List.mem_append.1 hx with y|y
   ·exact .inl (by rw[hn];exact List.mem_cons_of_mem _ y)
   ·exact .inr y
  obtain⟨g2,S2,C2,h1,h2,h3⟩:=stage2 hk hbd A (B:=B++(Qaa X m).out.take (512 -(A++B).length)) b1 (by rw[d.net,List.append_assoc]) (fb_pres d hk hl (fun x hx=>hx) hD' f1) (yn_pres d G hD' f2) (ps2_del d rfl hk hl f1 f2 f3) (ci2_del d hk hl G f4)
  refine⟨g2,S2,C2,fun n=> ?_,G.trans h2,h3⟩
  rw[<-h1 n,List.length_cons,show A.length+1+n=(A.length+n)+1 by omega]
  exact Qa1 (by rw[hn];simp)
theorem ci_del'(d:Dl k g S C m r X)(hk:2<=k)(hl:X.log.length<1024)(G:GLe g g')(ci:CI k g C):CI k g' (QaX C):=fun c hc hr hll=>by
 rcases QmB d hk hl G hc hr hll with x|⟨a1,a2,_,_,a7,_,_⟩
 ·exact x
 ·rw[a2]
  exact a7 (ci c hc a1 (by rw[a2] at hll;exact G.nil hll))
theorem stage3(hk:2<=k)(hbd:bd<1024):∀(A:List RM){B:List RM}{g:GH}{S:Nat}{C:CS},Bas k rr bd E g S C->C.net=A++B->fbP k C C.net->ynP g C.net->ps3 k C B->CI k g C->
  ∃g' S' C',(∀n,Qbq (A.length+n) C=Qbq n C')/\GLe g g'/\Bas k rr bd E g' S' C'/\fbP k C' C'.net/\ps3 k C' C'.net/\CI k g' C'
 | [],B,g,S,C,b,hn,f1,f2,f3,f4=>⟨g,S,C,fun n=>by show Qbq (0+n) C=_;rw[Nat.zero_add],GLe.refl g,b,f1,by rw[hn];exact f3,f4⟩
 |m::A,B,g,S,C,b,hn,f1,f2,f3,f4=>by
  obtain⟨X,d⟩:=b.c.dl (m:=m) (r:=A++B) hn
  obtain⟨g1,G,b1⟩:=b.del d hk hbd
  have hl:X.log.length<1024:=by have:=b.lt hbd d.c.ni.ik;rw[d.old] at this;omega
  have hD':∀x∈(QaX C).net,x∈C.net\/x∈(Qaa X m).out.take (512 -(A++B).length):=fun x hx=>by
   rw[d.net] at hx
   rcases List.mem_append.1 hx with y|y
   ·exact .inl (by rw[hn];exact List.mem_cons_of_mem _ y)
   ·exact .inr y
  obtain⟨g2,S2,C2,h1,h2,h3⟩:=stage3 hk hbd A (B:=B++(Qaa X m).out.take (512 -(A++B).length)) b1 (by rw[d.net,List.append_assoc]) (fb_pres d hk hl (fun x hx=>hx) hD' f1) (yn_pres d G hD' f2) (ps3_del d rfl hk hl f1 f2 f3) (ci_del' d hk hl G f4)
  refine⟨g2,S2,C2,fun n=> ?_,G.trans h2,h3⟩
  rw[<-h1 n,List.length_cons,show A.length+1+n=(A.length+n)+1 by omega]
  exact Qa1 (by rw[hn];simp)
theorem start(hk:2<=k)(hbd:bd<1024)(b:Bas k rr bd E g S C):∃n g' S' C',n<=1536/\(∀p,Qbq (n+p) C=Qbq p C')/\GLe g g'/\Bas k rr bd E g' S' C'/\Ord k g' C':=by
 have e0:∀{i f:Nat} {t:Int},items [] i f t= []:=rfl
 obtain⟨g1,S1,C1,a1,a2,a3,a4,a5,a6,a7⟩:=stage1 hk hbd C.net (B:= []) b (List.append_nil _).symm (fun i _ _ m hm=>(by cases hm)) (fun m hm=>(by cases hm)) (fun i f _ _ _ _ _=>⟨trivial,fun a ha=>(by cases ha)⟩) (fun c _ _ _=> .inr ⟨fun m hm=>(by cases hm),fun m hm=>(by cases hm)⟩)
 obtain⟨g2,S2,C2,b1,b2,b3,b4,b5,b6,b7⟩:=stage2 hk hbd C1.net (B:= []) a3 (List.append_nil _).symm a4 a5 (fun i f h1 h2 h3 h4 h5=>⟨a6 i f h1 h2 h3 h4 h5,fun j hj=>(by cases hj)⟩) (fun c h1 h2 h3=>(a7 c h1 h2 h3).imp (fun x=>x) fun x=>⟨x.1,x.2,fun m hm=>(by cases hm),fun m hm=>(by cases hm)⟩)
 obtain⟨g3,S3,C3,c1,c2,c3,c4,c5,c6⟩:=stage3 hk hbd C2.net (B:= []) b3 (List.append_nil _).symm b4 b5 (fun i f h1 h2 h3 h4=>by
   split
   ·rename_i h0
    obtain⟨q1,q2⟩:=b6 i f h1 h2 h3 h4 h0
    exact⟨q1.d,q1.a,q2⟩
   ·intro a ha;cases ha) (fun c h1 h2 h3=>by
   rcases b7 c h1 h2 h3 with x|⟨x3,x5,x4,x6⟩
   ·exact x
   ·refine⟨fun xs m ys e k1 k2 k3=>absurd ⟨k1,k2,k3⟩ (x3 m (by rw[e];simp)),fun xs m ys e k1 k2 k3 k4=>absurd ⟨k1,k2,k3,k4⟩ (x4 m (by rw[e];simp))⟩)
 have l1:=b.c.cap
 have l2:=a3.c.cap
 have l3:=b3.c.cap
 refine⟨C.net.length+(C1.net.length+C2.net.length),g3,S3,C3,by omega,fun p=> ?_,a2.trans (b2.trans c2),c3,fun i L hL hr m hm h5 hf ht=> ?_,fun i f hi hf hfi hr hle=> ?_,c6⟩
 ·rw[Nat.add_assoc,a1,Nat.add_assoc,b1,c1]
 ·have hi:i<k:=by
   have:=(List.getElem?_eq_some_iff.1 hL).1
   rwa[c3.c.len] at this
  have hnd:=Qcc hL
  have:=c4 i hi (by rw[hnd];exact hr) m hm h5 hf (by rw[hnd];exact ht)
  rwa[hnd] at this
 ·have:=c5 i f hi hf hfi hr
  have hL:=c3.c.nd hi
  have hx:=(c3.c.node i _ hL).xi.nx hr f hf hfi
  have hm:=(c3.c.node i _ hL).m0.1 f
  unfold POK
  split at this
  ·rename_i h0;rw[if_pos h0];exact this
  ·rename_i h0;rw[if_neg h0];exact⟨by omega,this⟩
theorem Qme(h:CInv k g S C)(hn:C.net= []):Ord k g C:=by
 refine⟨fun i L hL hr m hm=>(by rw[hn] at hm;cases hm),fun i f hi hf hfi hr hle=> ?_,fun c hc hr hll=>⟨fun xs m ys e=>(by rw[hn] at e;simp at e),fun xs m ys e=>(by rw[hn] at e;simp at e)⟩⟩
 have hL:=h.nd hi
 have hx:=(h.node i _ hL).xi.nx hr f hf hfi
 have hm:=(h.node i _ hL).m0.1 f
 rw[hn]
 unfold POK
 split
 ·exact⟨trivial,fun a ha=>(by cases ha),fun a ha=>(by cases ha)⟩
 ·exact⟨by omega,fun a ha=>(by cases ha)⟩
def tBs(k X0 LC:Nat)(rr:Nat->Nat)(C:CS):Nat:=Qck k fun i=>tB k X0 LC (rr i) (nd C i)
theorem QkL(hk:2<=k){Zb:Nat}(hZ:Zb<1024)(hX0:Mw (Zb+1)+4<=X0)(hLC:2*((k -1)*X0)+2*((k -1)*Zb)<=LC):∀(n:Nat){g:GH}{S:Nat}{C:CS},Bas k rr Zb E g S C->Ord k g C->∃g' S',GLe g g'/\Bas k rr Zb E g' S' (Qbq n C)/\Ord k g' (Qbq n C)/\Phi k X0 LC (Qbq n C)+tBs k X0 LC rr (Qbq n C)<=Phi k X0 LC C+tBs k X0 LC rr C/\
  ((Qbq n C).net= []\/Phi k X0 LC (Qbq n C)+tBs k X0 LC rr (Qbq n C)+n<=Phi k X0 LC C+tBs k X0 LC rr C)
 |0,g,S,C,b,o=>⟨g,S,GLe.refl g,b,o,Nat.le_refl _,.inr (Nat.le_refl _)⟩
 |n+1,g,S,C,b,o=>by
  by_cases hn:C.net= []
  ·rw[QbX hn]
   exact⟨g,S,GLe.refl g,b,o,Nat.le_refl _,.inl hn⟩
  ·rw[Qa1 hn]
   obtain⟨m,r,hmr⟩:=List.exists_cons_of_ne_nil hn
   obtain⟨X,d⟩:=b.c.del_ o hmr
   obtain⟨g1,G,b1⟩:=b.del d.toDl hk hZ
   have hl:X.log.length<=Zb:=by have:=b.lt hZ d.c.ni.ik;rwa[d.old] at this
   have o1:=ord_del d hk (by omega) G
   have p:=phi_del d hk hZ hX0 hLC hl
   have t:tBs k X0 LC rr (QaX C)<=tBs k X0 LC rr C:=Qcn fun j hj=>by
    by_cases e:j=m.to.toNat
    ·subst e
     rw[d.self,d.old]
     unfold tB
     have:=QeW (r:=rr m.to.toNat) (Nat.le_refl _) (Qj7 d.cb d.c.bn.s.1)
     exact Nat.add_le_add (Nat.le_refl _) (Nat.mul_le_mul_right _ this)
    ·rw[d.other e];exact Nat.le_refl _
   obtain⟨g2,S2,h1,h2,h3,h4,h5⟩:=QkL hk hZ hX0 hLC n b1 o1
   refine⟨g2,S2,G.trans h1,h2,h3,by omega, ?_⟩
   rcases h5 with h5|h5
   ·exact .inl h5
   ·exact .inr (by omega)
end
section
variable {k X0 LC M bd Zb:Nat}{g g':GH}{i f S:Nat}{X Y F L W:RN}{m:RM}{C:CS}{r A B D D':List RM}{rr:Nat->Nat}
def vI(X0:Nat):List It->Nat
 | []=>0
 | .A _::r=>(X0 -2)+vI X0 r
 | .Y _::r=>(X0 -1)+vI X0 r
 | .N::r=>(X0 -1)+vI X0 r
 | .S::r=>(X0 -2)+vI X0 r
theorem vI_eq(h:2<=X0):∀its:List It,vI X0 its+itW its=X0*its.length
 | []=>rfl
 | .A _::r=>by have:=vI_eq h r;show X0 -2+vI X0 r+(2+itW r)=X0*(r.length+1);rw[Nat.mul_succ];omega
 | .Y _::r=>by have:=vI_eq h r;show X0 -1+vI X0 r+(1+itW r)=X0*(r.length+1);rw[Nat.mul_succ];omega
 | .N::r=>by have:=vI_eq h r;show X0 -1+vI X0 r+(1+itW r)=X0*(r.length+1);rw[Nat.mul_succ];omega
 | .S::r=>by have:=vI_eq h r;show X0 -2+vI X0 r+(2+itW r)=X0*(r.length+1);rw[Nat.mul_succ];omega
theorem vI_app:∀a b:List It,vI X0 (a++b)=vI X0 a+vI X0 b
 | [],b=>(Nat.zero_add _).symm
 | .A _::r,b=>by show _+vI X0 (r++b)=_+vI X0 r+_;rw[vI_app r b,Nat.add_assoc]
 | .Y _::r,b=>by show _+vI X0 (r++b)=_+vI X0 r+_;rw[vI_app r b,Nat.add_assoc]
 | .N::r,b=>by show _+vI X0 (r++b)=_+vI X0 r+_;rw[vI_app r b,Nat.add_assoc]
 | .S::r,b=>by show _+vI X0 (r++b)=_+vI X0 r+_;rw[vI_app r b,Nat.add_assoc]
theorem xP_vI{br:Bool}{l c hv:Nat}{its:List It}(h:Mw l+4<=X0):xP br l c hv its<=vI X0 its:=by
 have h1:=xP_bound (br:=br) (l:=l) (c:=c) (hv:=hv) (its:=its)
 have h2:=vI_eq (X0:=X0) (by unfold Mw at h;omega) its
 have h3:(Mw l+4)*its.length<=X0*its.length:=Nat.mul_le_mul_right _ h
 omega
def allV(k X0:Nat)(C:CS)(net:List RM):Nat:=Qck k fun i=>if(nd C i).role=3 then Qck k fun f=>if f=i then 0 else vI X0 (items net i f (nd C i).term) else 0
theorem QeN{F:Nat->Nat}{j b:Nat}:∀{n:Nat},(∀i,i<n->i≠j->F i=0)->F j<=b->Qck n F<=b
 |0,_,_=>Nat.zero_le _
 |n+1,h,hb=>by
  show Qck n F+F n<=b
  by_cases e:n=j
  ·subst e
   rw[QbU fun i hi=>h i (by omega) (by omega)]
   omega
  ·rw[h n (by omega) e]
   exact QeN (n:=n) (fun i hi=>h i (by omega)) hb
theorem vI_one{i f:Nat}{t:Int}(h:2<=X0):vI X0 (items [m] i f t)+bW m<=X0\/items [m] i f t= []:=by
 rw[QbQ]
 show vI X0 ((QaD i f t m).toList++ [])+bW m<=X0\/(QaD i f t m).toList++ []= []
 rw[List.append_nil]
 unfold QaD
 split
 ·rename_i h5
  have:bW m=2:=bW5 (.inr (.inr h5.1))
  split
  ·left;show X0 -2+0+bW m<=X0;omega
  ·split
   ·left;show X0 -2+0+bW m<=X0;omega
   ·exact .inr rfl
 ·split
  ·rename_i h6
   have:bW m=1:=by unfold bW;rw[if_neg (by omega)]
   left
   split
   ·show X0 -1+0+bW m<=X0;omega
   ·show X0 -1+0+bW m<=X0;omega
  ·exact .inr rfl
theorem allV_one(h:2<=X0):allV k X0 C [m]+bW m<=X0:=by
 have hb:=bW_two m
 have key:∃i0 f0:Nat,∀i f t,items [m] i f t≠ []->i=i0/\f=f0:=by
  by_cases h5:m.kind=5
  ·refine⟨m.from_.toNat,m.to.toNat,fun i f t hne=> ?_⟩
   rw[QbQ] at hne
   unfold QaD at hne
   by_cases hc:m.kind=5/\m.from_=(i:Int)/\m.to=(f:Int)
   ·omega
   ·rw[if_neg hc,if_neg fun x=>by omega] at hne
    exact absurd rfl hne
  ·refine⟨m.to.toNat,m.from_.toNat,fun i f t hne=> ?_⟩
   rw[QbQ] at hne
   unfold QaD at hne
   rw[if_neg fun x=>h5 x.1] at hne
   by_cases hc:m.kind=6/\m.from_=(f:Int)/\m.to=(i:Int)/\m.term=t
   ·omega
   ·rw[if_neg hc] at hne
    exact absurd rfl hne
 obtain⟨i0,f0,hk⟩:=key
 have:allV k X0 C [m]<=X0 -bW m:=by
  refine QeN (j:=i0) (fun i hi hne=> ?_) ?_
  ·split
   ·refine QbU fun f hf=> ?_
    split
    ·rfl
    ·have:items [m] i f (nd C i).term= []:=Decidable.byContradiction fun x=>hne (hk _ _ _ x).1
     rw[this];rfl
   ·rfl
  ·split
   ·refine QeN (j:=f0) (fun f hf hne=> ?_) ?_
    ·split
     ·rfl
     ·have:items [m] i0 f (nd C i0).term= []:=Decidable.byContradiction fun x=>hne (hk _ _ _ x).2
      rw[this];rfl
    ·split
     ·exact Nat.zero_le _
     ·rcases vI_one (X0:=X0) (m:=m) (i:=i0) (f:=f0) (t:=(nd C i0).term) h with x|x
      ·omega
      ·rw[x];exact Nat.zero_le _
   ·exact Nat.zero_le _
 omega
theorem allV_cons:allV k X0 C (m::r)=allV k X0 C [m]+allV k X0 C r:=by
 unfold allV
 rw[<-Qd0]
 refine QbE fun i hi=> ?_
 split
 ·rw[<-Qd0]
  refine QbE fun f hf=> ?_
  split
  ·rfl
  ·rw[show m::r= [m]++r from rfl,QaW,vI_app]
 ·rfl
theorem allV_le(h:2<=X0):∀net:List RM,allV k X0 C net+bWs net<=X0*net.length
 | []=>by
  have:allV k X0 C []=0:=QbU fun i _=>by
   split
   ·exact QbU fun f _=>by split<;>rfl
   ·rfl
  rw[this];exact Nat.le_refl _
 |m::r=>by
  have h1:=allV_le h r
  have h2:=allV_one (k:=k) (C:=C) (m:=m) h
  rw[allV_cons,List.length_cons,Nat.mul_succ]
  show _+(bW m+bWs r)<=_
  omega
theorem phi_start(hX0:Mw (Zb+1)+4<=X0)(hLC:2*((k -1)*X0)+2*((k -1)*Zb)<=LC)(h:CInv k g S C)(hlen:∀i,i<k->(nd C i).log.length<=Zb){E:Nat}(hE:own1 k C<=E):Phi k X0 LC C<=512*X0+E*((k -1)*X0)+k*(LC+2*(k -1)):=by
 have hX2:2<=X0:=by unfold Mw at hX0;omega
 have hM:∀i,i<k->Mw (nd C i).log.length+4<=X0:=fun i hi=>by
  have:Mw (nd C i).log.length<=Mw (Zb+1):=by
   unfold Mw
   have:=hlen i hi
   have:((nd C i).log.length+7)/8<=(Zb+1+7)/8:=Nat.div_le_div_right (by omega)
   omega
  omega
 have hph:∀i,i<k->ph k X0 LC C i<=(if(nd C i).role=3 then Qck k fun f=>if f=i then 0 else vI X0 (items C.net i f (nd C i).term) else 0)+((if(nd C i).role=3 then QcW (nd C i) -1 else 0)*((k -1)*X0)+(LC+2*(k -1))):=fun i hi=>by
  unfold ph
  by_cases hr:(nd C i).role=3
  ·rw[if_pos hr,if_pos hr,if_pos hr]
   have a1:prs k i (nd C i) (nd C) (fun f=>items C.net i f (nd C i).term)<=Qck k fun f=>if f=i then 0 else vI X0 (items C.net i f (nd C i).term):=Qcn fun f hf=>by
    split
    ·exact Nat.le_refl _
    ·exact xP_vI (hM i hi)
   have Ld:=(h.node i _ (h.nd hi)).ni.lead hr
   have a2:exc k i (nd C i)<=(k -1)*Zb:=Qlu hi (fun f hf=>by
    by_cases e:f=i
    ·rw[if_pos e];exact Nat.zero_le _
    ·rw[if_neg e]
     have:=Ld.nx f hf e
     have:=hlen i hi
     omega) (if_pos rfl)
   have a3:QcW (nd C i)*((k -1)*X0)<=(QcW (nd C i) -1)*((k -1)*X0)+(k -1)*X0:=by
    rw[<-Nat.succ_mul]
    exact Nat.mul_le_mul_right _ (by omega)
   omega
  ·rw[if_neg hr,if_neg hr,if_neg hr]
   split
   ·omega
   ·split<;>omega
 have hs:Qck k (ph k X0 LC C)<=allV k X0 C C.net+(own1 k C*((k -1)*X0)+k*(LC+2*(k -1))):=by
  refine Nat.le_trans (Qcn hph) ?_
  rw[Qd0,Qd0]
  refine Nat.add_le_add (Nat.le_refl _) (Nat.add_le_add ?_ (Qcj fun _ _=>Nat.le_refl _))
  have e:Qck k (fun i=>(if(nd C i).role=3 then QcW (nd C i) -1 else 0)*((k -1)*X0))=Qck k (fun i=>((k -1)*X0)*(if(nd C i).role=3 then QcW (nd C i) -1 else 0)):=QbE fun i _=>Nat.mul_comm _ _
  rw[e,Qi2,Nat.mul_comm]
  exact Nat.le_refl _
 have hv:=allV_le (k:=k) (C:=C) hX2 C.net
 have hc:=h.cap
 have h1:X0*C.net.length<=X0*512:=Nat.mul_le_mul_left _ hc
 have h2:own1 k C*((k -1)*X0)<=E*((k -1)*X0):=Nat.mul_le_mul_right _ hE
 unfold Phi
 omega
theorem tBs_start(hr:∀i,i<k->rr i<=6):tBs k X0 LC rr C<=k*(6*((k -1)*X0)+2*(LC+4*(k -1))):=Qcj fun i hi=>by
 unfold tB
 have h1:=hr i hi
 have h2:Qb8 (rr i) (nd C i).since<=2:=by unfold Qb8;omega
 exact Nat.add_le_add (Nat.mul_le_mul_right _ h1) (Nat.mul_le_mul_right _ h2)
theorem numbers(h2:2<=k)(h7:k<=7){P T:Nat}(hP:P<=512*129+400*((k -1)*129)+k*((2*((k -1)*129)+2*((k -1)*421))+2*(k -1)))(hT:T<=k*(6*((k -1)*129)+2*((2*((k -1)*129)+2*((k -1)*421))+4*(k -1)))):P+T+1536<4*k*20000:=by
 have:k=2\/k=3\/k=4\/k=5\/k=6\/k=7:=by omega
 rcases this with rfl|rfl|rfl|rfl|rfl|rfl<;>omega
end
section
def slot(C:CS)(i:Nat)(d:Int):CS:=Qbq 20000 (Qal C i d)
def Qe7(k:Nat)(d:Nat->Int)(C:CS):Nat->CS
 |0=>C
 |s+1=>slot (Qe7 k d C s) (s%k) (d s)
def rem(k s i:Nat):Nat:=6 -(s+k -1 -i)/k
theorem Qlx{k s:Nat}(h2:2<=k)(h7:k<=7)(hs:s<6*k):rem k s (s%k)=rem k (s+1) (s%k)+1/\∀i,i<k->i≠s%k->rem k (s+1) i=rem k s i:=by
 unfold rem
 have:k=2\/k=3\/k=4\/k=5\/k=6\/k=7:=by omega
 rcases this with rfl|rfl|rfl|rfl|rfl|rfl<;>exact⟨by omega,fun i hi hne=>by omega⟩
theorem rem_le(k s i:Nat):rem k s i<=6:=Nat.sub_le _ _
section
variable {k X0 LC M bd E Zb:Nat}{g g':GH}{i f S:Nat}{X Y F L W:RN}{m:RM}{C:CS}{r A B D D':List RM}{rr rr':Nat->Nat}{dr:Int}
theorem Qc9(b:Bas k rr bd E g S C)(hk:2<=k)(hi:i<k)(h1:rr i=rr' i+1)(h2:∀j,j<k->j≠i->rr' j=rr j):∃g',GLe g g'/\Bas k rr' bd E g' (S+1) (Qal C i dr):=by
 have hX:=b.c.nd hi
 have c:=b.c.node i _ hX
 obtain⟨g',G,h'⟩:=b.c.tick i dr
 obtain⟨k1,k2,k3,k4,k5,k6,k7⟩:=Qb5 (dr:=dr) c hk
 obtain⟨M,l1,l2⟩:=b.len
 have hs0:=c.bn.s.1
 refine⟨g',G,h', ?_,M,⟨fun j hj=> ?_,fun o ho h5=> ?_⟩, ?_⟩
 ·refine Nat.le_trans (Qcn fun j hj=> ?_) b.own
  by_cases e:j=i
  ·subst e
   rw[Qaw b.c hX]
   by_cases hr:(Qah (nd C j) dr).role=3
   ·rw[if_pos (show(Qae (Qah (nd C j) dr)).role=3 from hr),if_pos (k7 hr),QeQ (X:=nd C j) ⟨k1,k2,k3,k4,k5⟩]
    exact Nat.le_refl _
   ·rw[if_neg (show ¬(Qae (Qah (nd C j) dr)).role=3 from hr)];exact Nat.zero_le _
  ·rw[Qak hX e];exact Nat.le_refl _
 ·by_cases e:j=i
  ·subst e
   rw[Qaw b.c hX]
   show(Qah (nd C j) dr).log.length<=M
   rw[k2];exact l1.l j hj
  ·rw[Qak hX e];exact l1.l j hj
 ·have hmem:=ho
  rw[Qbn b.c hX] at ho
  rcases List.mem_append.1 ho with x|x
  ·exact l1.m o x h5
  ·have x':=Qad x
   have hr3:(Qah (nd C i) dr).role=3:=by
    rcases Qff c hk o x' with e|⟨_,_,e⟩
    ·omega
    ·exact e
   have hnd:=h'.nd hi
   rw[Qaw b.c hX] at hnd
   have Ld:=(h'.node _ _ hnd).ni.lead hr3
   obtain⟨b1,b2,b3,b4,_,b6,_⟩:=(h'.net o hmem).1.2.2.1 h5
   have hot:o.term=(nd C i).term:=by
    cases Qa2 (dr:=dr) c with
    |quiet h1 h2 h3 h4=>rw[h4] at x';cases x'
    |beat W h1 h2 a1 a2 a3 a4 a5 a6 a7=>
     rw[a7] at x'
     obtain⟨t,_,rfl⟩:=List.mem_map.1 x'
     exact a3
    |down h1 h2 h3 h4=>rw[h4] at hr3;exact absurd hr3 (by decide:¬(0:Int)=3)
    |wait h1 h2 h3=>exact absurd (k7 hr3) h1
    |ask h1 h2 h3 h4=>exact absurd (k7 hr3) h1
   have hll:g'.ll o.term=(Qah (nd C i) dr).log:=by
    have:=Ld.ll
    rw[hot]
    rw[show(Qae (Qah (nd C i) dr)).term=(nd C i).term from k1] at this
    exact this
   rw[hll] at b4 b6
   have:=Qbf b6
   rw[List.length_drop] at this
   have:=l1.l i hi
   rw[k2] at*
   omega
 ·have hsum:=QdZ (F:=fun j=>(if(nd (Qal C i dr) j).role=1\/(nd (Qal C i dr) j).role=2 then 1 else 0)+Qb8 (rr' j) (nd (Qal C i dr) j).since) (G:=fun j=>(if(nd C j).role=1\/(nd C j).role=2 then 1 else 0)+Qb8 (rr j) (nd C j).since) (i:=i) (n:=k) (a:=0) (b:=0) hi (fun j hj hji=>by simp only[Qak hX hji,h2 j hj hji];exact Nat.le_refl _) (by
   simp only[Qaw b.c hX,h1]
   show(if(Qah (nd C i) dr).role=1\/(Qah (nd C i) dr).role=2 then 1 else 0)+Qb8 (rr' i) (Qah (nd C i) dr).since+0<=_
   have hrr:Qb8 (rr' i) ((nd C i).since+1)<=Qb8 (rr' i+1) (nd C i).since:=by
    unfold Qb8
    exact Nat.div_le_div_right (by omega)
   have hr0:Qb8 (rr' i) 0<=Qb8 (rr' i+1) (nd C i).since:=by
    unfold Qb8
    exact Nat.div_le_div_right (by omega)
   cases Qa2 (dr:=dr) c with
   |quiet q1 q2 q3 q4 q5=>rw[if_neg (by omega),q5];omega
   |beat W q1 q2 a1 a2 a3 a4 a5 a6 a7 a8=>rw[if_neg (by omega),a8];omega
   |down q1 q2 q3 q4=>
    rw[q4]
    show(if(0:Int)=1\/(0:Int)=2 then 1 else 0)+Qb8 (rr' i) 0+0<=_
    rw[if_neg (by omega)];omega
   |wait q1 q2 q3=>
    rw[q3]
    show(if(nd C i).role=1\/(nd C i).role=2 then 1 else 0)+Qb8 (rr' i) ((nd C i).since+1)+0<=_
    omega
   |ask q1 q2 q3 q4=>
    rw[q4,QdQ c hk]
    show(if(1:Int)=1\/(1:Int)=2 then 1 else 0)+Qb8 (rr' i) 0+0<=_
    have hs3:3<=(nd C i).since:=by
     have:0<=(if 0>dr then 0 else dr)%4:=Int.emod_nonneg _ (by decide)
     omega
    have:Qb8 (rr' i) 0+1<=Qb8 (rr' i+1) (nd C i).since:=by unfold Qb8;omega
    rw[if_pos (.inl rfl)]
    omega)
  unfold lb at l2⊢
  omega
def Vw(k X0 LC:Nat)(rr:Nat->Nat)(C:CS):Nat:=Phi k X0 LC C+tBs k X0 LC rr C
theorem vw_tick(b:Bas k rr Zb E g S C)(o:Ord k g C)(hk:2<=k)(hX0:Mw (Zb+1)+4<=X0)(hZ:Zb<1024)(hi:i<k)(h1:rr i=rr' i+1)(h2:∀j,j<k->j≠i->rr' j=rr j):Vw k X0 LC rr' (Qal C i dr)<=Vw k X0 LC rr C:=by
 have hX:=b.c.nd hi
 have p:=phi_tick (X0:=X0) (LC:=LC) (dr:=dr) b.c o hX hk hX0 (b.lt hZ hi) (rr' i)
 have hsum:=QdZ (F:=fun j=>tB k X0 LC (rr' j) (nd (Qal C i dr) j)) (G:=fun j=>tB k X0 LC (rr j) (nd C j)) (i:=i) (n:=k) (a:=tB k X0 LC (rr i) (nd C i)) (b:=tB k X0 LC (rr' i) (nd (Qal C i dr) i)) hi (fun j hj hji=>by simp only[Qak hX hji,h2 j hj hji];exact Nat.le_refl _) (Nat.le_of_eq (Nat.add_comm _ _))
 unfold Vw tBs
 rw[h1] at hsum
 omega
theorem slot_step(hk:2<=k)(hZ:Zb<1024)(hX0:Mw (Zb+1)+4<=X0)(hLC:2*((k -1)*X0)+2*((k -1)*Zb)<=LC)(b:Bas k rr Zb E g S C)(o:Ord k g C)(hi:i<k)(h1:rr i=rr' i+1)(h2:∀j,j<k->j≠i->rr' j=rr j):
  ∃g' S',GLe g g'/\Bas k rr' Zb E g' S' (slot C i dr)/\Ord k g' (slot C i dr)/\Vw k X0 LC rr' (slot C i dr)<=Vw k X0 LC rr C/\((slot C i dr).net= []\/Vw k X0 LC rr' (slot C i dr)+20000<=Vw k X0 LC rr C):=by
 obtain⟨g1,G,b1⟩:=Qc9 (dr:=dr) b hk hi h1 h2
 have o1:=Qfi (dr:=dr) b.c o (b.c.nd hi) hk G
 have v:=vw_tick (LC:=LC) (dr:=dr) b o hk hX0 hZ hi h1 h2
 obtain⟨g2,S2,a1,a2,a3,a4,a5⟩:=QkL (LC:=LC) hk hZ hX0 hLC 20000 b1 o1
 unfold Vw at*
 refine⟨g2,S2,G.trans a1,a2,a3,Nat.le_trans a4 v, ?_⟩
 rcases a5 with x|x
 ·exact .inl x
 ·exact .inr (by unfold slot;omega)
theorem slot_first(hk:2<=k)(hZ:Zb<1024)(hX0:Mw (Zb+1)+4<=X0)(hLC:2*((k -1)*X0)+2*((k -1)*Zb)<=LC)(b:Bas k rr Zb E g S C)(hi:i<k)(h1:rr i=rr' i+1)(h2:∀j,j<k->j≠i->rr' j=rr j)(h6:∀j,j<k->rr' j<=6):
  ∃g' S',GLe g g'/\Bas k rr' Zb E g' S' (slot C i dr)/\Ord k g' (slot C i dr)/\∃P T,P<=512*X0+E*((k -1)*X0)+k*(LC+2*(k -1))/\T<=k*(6*((k -1)*X0)+2*(LC+4*(k -1)))/\Vw k X0 LC rr' (slot C i dr)<=P+T+1536/\((slot C i dr).net= []\/Vw k X0 LC rr' (slot C i dr)+20000<=P+T+1536):=by
 obtain⟨g1,G,b1⟩:=Qc9 (dr:=dr) b hk hi h1 h2
 obtain⟨n,g3,S3,C3,a1,a2,a3,a4,a5⟩:=start hk hZ b1
 obtain⟨p,hp20⟩:∃p,20000=n+p:=⟨20000 -n,by omega⟩
 obtain⟨g2,S2,c1,c2,c3,c4,c5⟩:=QkL (LC:=LC) hk hZ hX0 hLC p a4 a5
 have hp:=phi_start (LC:=LC) hX0 hLC a4.c (fun j hj=>a4.lt hZ hj) a4.own
 have ht:=tBs_start (k:=k) (X0:=X0) (LC:=LC) (C:=C3) h6
 have e:slot C i dr=Qbq p C3:=(congrArg (fun q=>Qbq q (Qal C i dr)) hp20).trans (a2 p)
 rw[e]
 unfold Vw
 refine⟨g2,S2,G.trans (a3.trans c1),c2,c3,_,_,hp,ht,by omega, ?_⟩
 rcases c5 with x|x
 ·exact .inl x
 ·exact .inr (by omega)
def cnt(k:Nat)(d:Nat->Int)(C:CS):Nat->Nat
 |0=>0
 |s+1=>cnt k d C s+(if(Qe7 k d C (s+1)).net= [] then 0 else 1)
theorem QlZ(hk:2<=k)(h7:k<=7){d:Nat->Int}(b:Bas k (rem k 0) 421 400 g S C):∃V,V<4*k*20000/\∀s,1<=s->s<=6*k->∃g' S',GLe g g'/\Bas k (rem k s) 421 400 g' S' (Qe7 k d C s)/\Ord k g' (Qe7 k d C s)/\
  Vw k 129 (2*((k -1)*129)+2*((k -1)*421)) (rem k s) (Qe7 k d C s)+cnt k d C s*20000<=V:=by
 have hX0:Mw (421+1)+4<=129:=by decide
 have hLC:2*((k -1)*129)+2*((k -1)*421)<=2*((k -1)*129)+2*((k -1)*421):=Nat.le_refl _
 have hmod:∀s,s%k<k:=fun s=>Nat.mod_lt _ (by omega)
 obtain⟨r1,r2⟩:=Qlx (s:=0) hk h7 (by omega)
 obtain⟨g1,S1,a1,a2,a3,P,T,a4,a5,a6,a7⟩:=slot_first (dr:=d 0) hk (by decide) hX0 hLC b (hmod 0) r1 r2 fun j _=>rem_le k 1 j
 refine⟨P+T+1536,numbers hk h7 a4 a5,fun s hs=> ?_⟩
 induction s with
 |zero=>omega
 |succ s ih=>
  intro hs6
  by_cases h0:s=0
  ·subst h0
   refine⟨g1,S1,a1,a2,a3, ?_⟩
   show Vw k 129 _ (rem k 1) (slot C (0%k) (d 0))+(0+if(slot C (0%k) (d 0)).net= [] then 0 else 1)*20000<=_
   rcases a7 with x|x
   ·rw[if_pos x];omega
   ·split<;>omega
  ·obtain⟨g2,S2,c1,c2,c3,c4⟩:=ih (by omega) (by omega)
   obtain⟨q1,q2⟩:=Qlx (s:=s) hk h7 (by omega)
   obtain⟨g3,S3,e1,e2,e3,e4,e5⟩:=slot_step (dr:=d s) (LC:=2*((k -1)*129)+2*((k -1)*421)) hk (by decide) hX0 hLC c2 c3 (hmod s) q1 q2
   refine⟨g3,S3,c1.trans e1,e2,e3, ?_⟩
   show Vw k 129 _ (rem k (s+1)) (slot (Qe7 k d C s) (s%k) (d s))+(cnt k d C s+if(slot (Qe7 k d C s) (s%k) (d s)).net= [] then 0 else 1)*20000<=_
   rcases e5 with x|x
   ·rw[if_pos x];omega
   ·split<;>omega
theorem seq_few(hk:2<=k)(h7:k<=7){d:Nat->Int}(b:Bas k (rem k 0) 421 400 g S C){s:Nat}(hs:s<=6*k):cnt k d C s<=4*k -1:=by
 by_cases h0:s=0
 ·subst h0;show 0<=_;omega
 ·obtain⟨V,h1,h2⟩:=QlZ (d:=d) hk h7 b
  obtain⟨_,_,_,_,_,h3⟩:=h2 s (by omega) hs
  omega
end
end
section
variable {k X0 LC M bd E Zb l:Nat}{g g':GH}{i f S:Nat}{X Y F L W:RN}{m:RM}{C:CS}{r A B D D':List RM}{rr rr':Nat->Nat}{dr t:Int}
structure Fol(t:Int)(l:Nat)(X:RN):Prop where
 term:X.term=t
 role:X.role=0
 leader:X.leader=l
inductive Pm(t:Int)(l:Nat)(m:RM):Prop
 |app:m.kind=5->m.from_=(l:Int)->m.term=t->Pm t l m
 |told:m.kind=6->m.to=(l:Int)->m.term=t->(m.yes=true->0<=m.index)->Pm t l m
 |junk:m.kind=4->m.to=(l:Int)->m.term<=t->Pm t l m
def tn(net:List RM)(l f:Nat)(t:Int):Nat:=(items net l f t).length
structure PM(k l:Nat)(t:Int)(own0 j:Nat)(C:CS)(y h:Nat)(dk:Nat->Nat):Prop where
 lk:l<k
 role:(nd C l).role=3
 term:(nd C l).term=t
 net:∀m∈C.net,Pm t l m
 low:∀f,f<k->f≠l->(nd C f).term<=t
 fol:∀f,f<k->f≠l->Fol t l (nd C f)\/∃m∈C.net,m.kind=5/\m.to=(f:Int)
 th:∀f,f<k->f≠l->(nd C l).matc f<(nd C l).log.length->y<=tn C.net l f t+dk f
 y1:1<=y
 sd:(C.net.length<=(k -1)*y+j/\∀f,dk f=0)\/514<=k+(k -1)*y+j
 own:QcW (nd C l)+(y -1 -h)+Qck k dk<=own0
theorem app_fol(d:Dl k g S C m r X)(h5:m.kind=5)(ht:X.term<=m.term)(hne:X.term=m.term->X.role≠3):Fol m.term m.from_.toNat (Qae (Qaa X m))/\(Qaa X m).since=0/\∃y idx,(Qaa X m).out= [⟨6,X.id,m.from_,m.term,idx,0,0,y,[]⟩]/\(y=true->0<=idx):=by
 have c:=d.c
 have hY:=st5 d.cb h5 ht
 have hfr:=d.fr
 have hzr:(Qab X m).role≠3:=by
  rcases QaO X m with e|⟨e,e2⟩
  ·rw[e];decide
  ·rw[e];exact hne (by omega)
 have hzt:=QbN ht
 obtain⟨z1,z2,z3,z4,z5,z6,z7⟩:=Qbl X m
 have e0:(Qag (Qab X m) m).out= []/\(Qag (Qab X m) m).id=X.id/\(Qag (Qab X m) m).term=m.term/\(Qag (Qab X m) m).role=0/\(Qag (Qab X m) m).leader=m.from_/\(Qag (Qab X m) m).since=0:=by rw[Qaz];exact⟨z3.trans c.out,z4,hzt,rfl,rfl,rfl⟩
 obtain⟨w1,w2,w3,w4,w5⟩:=d.w.1.2.2.1 h5
 have hc0:=c.ni.c0
 rw[hY]
 rcases Qbd (Qab X m) m hzr with⟨_,e⟩|⟨_,_,e⟩|⟨_,_,e⟩
 ·rw[e]
  exact⟨⟨e0.2.2.1,e0.2.2.2.1,by show(Qag (Qab X m) m).leader=_;rw[e0.2.2.2.2.1];exact hfr⟩,e0.2.2.2.2.2,true,(Qab X m).commit,by show(Qag (Qab X m) m).out++ [(⟨6,(Qag (Qab X m) m).id,m.from_,(Qag (Qab X m) m).term,_,0,0,true,[]⟩:RM)]=_;rw[e0.1,e0.2.1,e0.2.2.1];rfl,fun _=>by rw[z1];exact hc0⟩
 ·rw[e]
  exact⟨⟨e0.2.2.1,e0.2.2.2.1,by show(Qag (Qab X m) m).leader=_;rw[e0.2.2.2.2.1];exact hfr⟩,e0.2.2.2.2.2,false,_,by show(Qag (Qab X m) m).out++ [(⟨6,(Qag (Qab X m) m).id,m.from_,(Qag (Qab X m) m).term,_,0,0,false,[]⟩:RM)]=_;rw[e0.1,e0.2.1,e0.2.2.1];rfl,fun e=>by cases e⟩
 ·obtain⟨p1,p2,p3,p4,p5,p6⟩:=Qcw (Qag (Qab X m) m) m
  have p7:(QbD (Qag (Qab X m) m) m).leader=(Qag (Qab X m) m).leader/\(QbD (Qag (Qab X m) m) m).since=(Qag (Qab X m) m).since:=by
   unfold QbD
   split<;>exact⟨rfl,rfl⟩
  rw[e]
  exact⟨⟨p4.trans e0.2.2.1,p5.trans e0.2.2.2.1,by show(QbD (Qag (Qab X m) m) m).leader=_;rw[p7.1,e0.2.2.2.2.1];exact hfr⟩,p7.2.trans e0.2.2.2.2.2,true,m.index+m.ents.length,by show(QbD (Qag (Qab X m) m) m).out++ [(⟨6,(QbD (Qag (Qab X m) m) m).id,m.from_,(QbD (Qag (Qab X m) m) m).term,_,0,0,true,[]⟩:RM)]=_;rw[p6,p1,p4,e0.1,e0.2.1,e0.2.2.1];rfl,fun _=>by omega⟩
theorem QgC(a b:List RM):tn (a++b) l f t=tn a l f t+tn b l f t:=by unfold tn;rw[QaW,List.length_append]
theorem tn_cons(m:RM)(a:List RM):tn (m::a) l f t=tn [m] l f t+tn a l f t:=QgC [m] a
theorem QhS(h5:m.kind=5)(hf:m.from_=(l:Int))(ht:m.term=t):tn [m] l f t=if m.to=(f:Int) then 1 else 0:=by
 unfold tn
 rw[QbQ]
 unfold QaD
 by_cases e:m.to=(f:Int)
 ·rw[if_pos ⟨h5,hf,e⟩,if_pos ht,if_pos e];rfl
 ·rw[if_neg fun x=>e x.2.2,if_neg fun x=>by omega,if_neg e];rfl
theorem Qgf(h6:m.kind=6)(hf:m.to=(l:Int))(ht:m.term=t):tn [m] l f t=if m.from_=(f:Int) then 1 else 0:=by
 unfold tn
 rw[QbQ]
 unfold QaD
 rw[if_neg fun x=>by omega]
 by_cases e:m.from_=(f:Int)
 ·rw[if_pos ⟨h6,e,hf,ht⟩,if_pos e];split<;>rfl
 ·rw[if_neg fun x=>e x.2.1,if_neg e];rfl
theorem tn_junk(h4:m.kind=4):tn [m] l f t=0:=by
 unfold tn
 rw[QbQ]
 unfold QaD
 rw[if_neg fun x=>by omega,if_neg fun x=>by omega];rfl
theorem Qi0{W:RN}(hid:W.id=(l:Int))(ht:W.term=t)(hf:f<k)(hfl:f≠l):tn ((Qax W k).map (Qbk W)) l f t=1:=by
 have key:∀n,tn (((List.range n).filter fun(x:Nat)=>decide ((x:Int)≠W.id)).map (Qbk W)) l f t=if f<n then 1 else 0:=by
  intro n
  induction n with
  |zero=>rfl
  |succ n ih=>
   rw[List.range_succ,List.filter_append,List.map_append,QgC,ih]
   by_cases e:(n:Int)=W.id
   ·rw[List.filter_cons_of_neg (by simp[e])]
    show _+0=_
    by_cases h:f<n
    ·rw[if_pos h,if_pos (by omega)]
    ·rw[if_neg h,if_neg (by omega)]
   ·rw[List.filter_cons_of_pos (by simp[e])]
    show _+tn [Qbk W n] l f t=_
    rw[QhS rfl hid ht]
    show _+(if((n:Nat):Int)=f then 1 else 0)=_
    by_cases h:f<n
    ·rw[if_pos h,if_neg (by omega),if_pos (by omega)]
    ·rw[if_neg h]
     by_cases h2:n=f
     ·rw[if_pos (by omega),if_pos (by omega)]
     ·rw[if_neg (by omega),if_neg (by omega)]
 unfold Qax
 rw[key,if_pos hf]
theorem sumN_inc{dk:Nat->Nat}{f0:Nat}:∀{n:Nat},f0<n->Qck n (fun f=>dk f+(if f=f0 then 1 else 0))=Qck n dk+1
 |0,h=>by omega
 |n+1,h=>by
  show Qck n _+(dk n+_)=Qck n dk+dk n+1
  by_cases e:n=f0
  ·subst e
   rw[if_pos rfl,QbE (G:=dk) fun i hi=>by rw[if_neg (by omega),Nat.add_zero]]
   omega
  ·rw[if_neg e,sumN_inc (n:=n) (by omega)]
   omega
theorem pm_del{own0 j y h:Nat}{dk:Nat->Nat}(d:Dl k g S C m r X)(pm:PM k l t own0 j C y h dk):∃y' dk',y<=y'/\PM k l t own0 j (QaX C) y' h dk':=by
 have hinv:=d.h
 have c:=d.c
 have hto:=d.to
 have hfr:=d.fr
 have hmm:m∈C.net:=by rw[d.n];exact List.mem_cons_self ..
 have hr0:∀x∈r,x∈C.net:=fun x hx=>by rw[d.n];exact List.mem_cons_of_mem _ hx
 have hlen:C.net.length=r.length+1:=by rw[d.n];rfl
 have hL:=hinv.nd pm.lk
 have htn:∀f,tn C.net l f t=tn [m] l f t+tn r l f t:=fun f=>by rw[d.n,tn_cons]
 have hcap:=d.cap
 rcases pm.net m hmm with⟨h5,hfl,ht⟩|⟨h6,htl,ht,hidx⟩|⟨h4,htl,ht⟩
 ·
  have hne:m.to.toNat≠l:=by have:=d.ne;omega
  have hXt:X.term<=t:=by have:=pm.low _ c.ni.ik hne;rwa[d.old] at this
  obtain⟨a1,a2,yy,idx,a3,a4⟩:=app_fol d h5 (by omega) fun e hr3=>hne (hinv.one d.x hL hr3 pm.role (by rw[pm.term];omega))
  have hnet:(QaX C).net=r++ [⟨6,X.id,m.from_,m.term,idx,0,0,yy,[]⟩]:=by rw[d.net,a3,Qfj d.cap]
  have hidn:X.id=((m.to.toNat:Nat):Int):=c.ni.id
  have hol:nd (QaX C) l=nd C l:=d.other (fun x=>hne x.symm)
  have htn':∀f,tn (QaX C).net l f t=tn C.net l f t:=fun f=>by
   rw[hnet,QgC,htn,QhS h5 hfl ht,Qgf (m:=⟨6,X.id,m.from_,m.term,idx,0,0,yy,[]⟩) rfl hfl ht,Nat.add_comm]
   show(if X.id=(f:Int) then 1 else 0)+_=(if m.to=(f:Int) then 1 else 0)+_
   rw[hidn,<-hto]
  refine⟨y,dk,Nat.le_refl _,pm.lk,by rw[hol];exact pm.role,by rw[hol];exact pm.term,fun x hx=> ?_,fun f hf hfl'=> ?_,fun f hf hfl'=> ?_,fun f hf hfl' hlt=> ?_,pm.y1, ?_,by rw[hol];exact pm.own⟩
  ·rw[hnet] at hx
   rcases List.mem_append.1 hx with e|e
   ·exact pm.net x (hr0 x e)
   ·rw[List.mem_singleton] at e
    subst e
    exact .told rfl hfl ht a4
  ·by_cases e:f=m.to.toNat
   ·subst e;rw[d.self,a1.term];omega
   ·rw[d.other e];exact pm.low f hf hfl'
  ·by_cases e:f=m.to.toNat
   ·subst e
    rw[d.self]
    exact .inl ⟨by rw[a1.term,ht],a1.role,by rw[a1.leader];omega⟩
   ·rw[d.other e,hnet]
    rcases pm.fol f hf hfl' with x|⟨m',x1,x2,x3⟩
    ·exact .inl x
    ·refine .inr ⟨m', ?_,x2,x3⟩
     rw[d.n] at x1
     rcases List.mem_cons.1 x1 with e2|e2
     ·subst e2;omega
     ·exact List.mem_append_left _ e2
  ·rw[htn']
   rw[hol] at hlt
   exact pm.th f hf hfl' hlt
  ·refine pm.sd.imp (fun x=>⟨?_,x.2⟩) fun x=>x
   have:=x.1
   rw[hnet,List.length_append,List.length_singleton]
   omega
 ·
  have hie:m.to.toNat=l:=by omega
  have hX:X=nd C l:=by rw[<-d.old,hie]
  have h3:X.role=3:=by rw[hX];exact pm.role
  have hXt:X.term=t:=by rw[hX];exact pm.term
  have hY:Qaa X m=QaC X m:=by
   have:=st6 d.cb h6 (X:=X) (by omega)
   rw[this,Qbu (by omega)]
  obtain⟨q,nx,T1,T2,hfm,hq1,hq2,hq3,hq4⟩:=Qhr hinv d.n d.x h3 h6 (by omega) hY
  have hself:nd (QaX C) l=Qae (Qaa X m):=by rw[<-hie];exact d.self
  have hoth:∀f,f≠l->nd (QaX C) f=nd C f:=fun f hf=>d.other (by omega)
  have hffk:=d.ff
  have hffl:m.from_.toNat≠l:=by have:=d.ne;omega
  have hXid:X.id=(l:Int):=by rw[c.ni.id];omega
  have hmat:∀f,f<k->f≠l->X.matc f<=(Qaa X m).matc f:=fun f hf hfl'=>by
   have hm0:=(c.ni.lead h3).mt f hf (by omega)
   by_cases e:f=m.from_.toNat
   ·subst e
    have:=hfm.mq
    have:=((QhA c.bn d.w.2.1 c.ni.c1).mt m.from_.toNat).1
    omega
   ·rw[hfm.matc f e];exact Int.le_refl _
  have hT1l:T1≠ []->T1.length=k -1:=fun hne=>by
   rcases hfm.t1 with e|⟨W,b1,b2,b3,_,b4⟩
   ·exact absurd e hne
   ·rw[b4,List.length_map]
    have:=Qbt (X:=W) (k:=k) (i:=l) (b1.trans hXid) pm.lk
    omega
  have hT1n:∀f,f<k->f≠l->T1≠ []->tn T1 l f t=1:=fun f hf hfl' hne=>by
   rcases hfm.t1 with e|⟨W,b1,b2,b3,_,b4⟩
   ·exact absurd e hne
   ·rw[b4];exact Qi0 (b1.trans hXid) (b2.trans hXt) hf hfl'
  have hT2l:T2.length<=1:=by
   rcases hfm.t2 with e|⟨W,b1,b2,b3,_,b4⟩
   ·rw[e];exact Nat.zero_le _
   ·rw[b4];exact Nat.le_refl _
  have hT2n:T2≠ []->tn T2 l m.from_.toNat t=1/\T2.length=1:=fun hne=>by
   rcases hfm.t2 with e|⟨W,b1,b2,b3,_,b4⟩
   ·exact absurd e hne
   ·rw[b4,QhS rfl (b1.trans hXid) (b2.trans hXt)]
    exact⟨if_pos rfl,rfl⟩
  have hun:(Qaa X m).matc m.from_.toNat<(Qaa X m).log.length->T2≠ []:=fun hlt e=>by
   rw[hfm.log] at hlt
   rcases hq4 e with x|⟨x1,x2⟩
   ·omega
   ·apply x2
    refine⟨hidx x1, ?_⟩
    have h9:=d.w.1.2.2.2 h6 x1
    have h10:=hinv.gi.A m.from_.toNat m.term
    have Ld:=c.ni.lead h3
    rw[ht,<-hXt,Ld.ll] at h10
    rw[ht,<-hXt] at h9
    omega
  have htnm:∀f,tn [m] l f t=if f=m.from_.toNat then 1 else 0:=fun f=>by
   rw[Qgf h6 htl ht]
   by_cases e:f=m.from_.toNat
   ·rw[if_pos e,if_pos (by omega)]
   ·rw[if_neg e,if_neg (by omega)]
  have hPm:∀x∈(Qaa X m).out,Pm t l x:=fun x hx=>by
   rw[hfm.out] at hx
   rcases List.mem_append.1 hx with e|e
   ·rcases hfm.t1 with e1|⟨W,b1,b2,b3,_,b4⟩
    ·rw[e1] at e;cases e
    ·rw[b4] at e
     obtain⟨z,_,rfl⟩:=List.mem_map.1 e
     exact .app rfl (b1.trans hXid) (b2.trans hXt)
   ·rcases hfm.t2 with e1|⟨W,b1,b2,b3,_,b4⟩
    ·rw[e1] at e;cases e
    ·rw[b4,List.mem_singleton] at e
     subst e
     exact .app rfl (b1.trans hXid) (b2.trans hXt)
  have basePM:∀y' dk',y<=y'->(∀f,f<k->f≠l->(Qaa X m).matc f<(Qaa X m).log.length->y'<=tn (QaX C).net l f t+dk' f)->(((QaX C).net.length<=(k -1)*y'+j/\∀f,dk' f=0)\/514<=k+(k -1)*y'+j)->QcW (Qae (Qaa X m))+(y' -1 -h)+Qck k dk'<=own0->∃y' dk',y<=y'/\PM k l t own0 j (QaX C) y' h dk':=fun y' dk' e1 e2 e3 e5=>by
   refine⟨y',dk',e1,pm.lk,by rw[hself];exact hfm.role,by rw[hself];exact hfm.term.trans hXt,fun x hx=> ?_,fun f hf hfl'=>by rw[hoth f hfl'];exact pm.low f hf hfl',fun f hf hfl'=> ?_,fun f hf hfl' hlt=> ?_,by have:=pm.y1;omega,e3,by rw[hself];exact e5⟩
   ·rw[d.net] at hx
    rcases List.mem_append.1 hx with e|e
    ·exact pm.net x (hr0 x e)
    ·exact hPm x (Qad e)
   ·rw[hoth f hfl',d.net]
    rcases pm.fol f hf hfl' with x|⟨m',x1,x2,x3⟩
    ·exact .inl x
    ·refine .inr ⟨m', ?_,x2,x3⟩
     rw[d.n] at x1
     rcases List.mem_cons.1 x1 with e2|e2
     ·subst e2;omega
     ·exact List.mem_append_left _ e2
   ·rw[hself] at hlt
    exact e2 f hf hfl' hlt
  have hown:=hfm.own
  have po:=pm.own
  rw[<-hX] at po
  have hth:∀f,f<k->f≠l->(Qaa X m).matc f<(Qaa X m).log.length->y<=tn C.net l f t+dk f:=fun f hf hfl' hlt=>by
   refine pm.th f hf hfl' ?_
   rw[<-hX]
   have:=hmat f hf hfl'
   rw[hfm.log] at hlt
   omega
  by_cases hT1:T1= []
  ·have hO:(Qaa X m).out.take (512 -r.length)=T2:=by
    rw[hfm.out,hT1]
    exact List.take_of_length_le (by show T2.length<=_;omega)
   refine basePM y dk (Nat.le_refl _) (fun f hf hfl' hlt=> ?_) ?_ ?_
   ·have:=hth f hf hfl' hlt
    rw[htn,htnm] at this
    rw[d.net,hO,QgC]
    by_cases e:f=m.from_.toNat
    ·subst e
     have:=(hT2n (hun hlt)).1
     rw[if_pos rfl] at*
     omega
    ·rw[if_neg e] at this
     omega
   ·refine pm.sd.imp (fun x=>⟨?_,x.2⟩) fun x=>x
    have:=x.1
    rw[d.net,hO,List.length_append]
    omega
   ·omega
  ·have hl1:=hT1l hT1
   have hown2:=hown.2 hT1
   by_cases hroom:r.length+(k -1)+T2.length<=512
   ·have hO:(Qaa X m).out.take (512 -r.length)=T1++T2:=by
     rw[hfm.out]
     exact List.take_of_length_le (by rw[List.length_append];omega)
    have e1:(k -1)*(y+1)=(k -1)*y+(k -1):=Nat.mul_succ _ _
    refine basePM (y+1) dk (Nat.le_succ _) (fun f hf hfl' hlt=> ?_) ?_ ?_
    ·have h8:=hth f hf hfl' hlt
     rw[htn,htnm] at h8
     rw[d.net,hO,QgC,QgC,hT1n f hf hfl' hT1]
     by_cases e:f=m.from_.toNat
     ·subst e
      have:=(hT2n (hun hlt)).1
      rw[if_pos rfl] at h8
      omega
     ·rw[if_neg e] at h8
      omega
    ·refine pm.sd.imp (fun x=>⟨?_,x.2⟩) fun x=>by omega
     have:=x.1
     rw[d.net,hO,List.length_append,List.length_append]
     omega
    ·have:=pm.y1
     omega
   ·
    refine basePM y (fun f=>dk f+(if f=m.from_.toNat then 1 else 0)) (Nat.le_refl _) (fun f hf hfl' hlt=> ?_) (.inr ?_) ?_
    ·have h8:=hth f hf hfl' hlt
     rw[htn,htnm] at h8
     rw[d.net,QgC]
     by_cases e:f=m.from_.toNat
     ·rw[if_pos e] at h8⊢;omega
     ·rw[if_neg e] at h8⊢;omega
    ·rcases pm.sd with x|x
     ·have:=x.1
      omega
     ·exact x
    ·rw[sumN_inc hffk]
     omega
 ·
  have hie:m.to.toNat=l:=by omega
  have hX:X=nd C l:=by rw[<-d.old,hie]
  have h3:X.role=3:=by rw[hX];exact pm.role
  have hXt:X.term=t:=by rw[hX];exact pm.term
  have hY:Qaa X m=X:=by
   by_cases hlt:m.term<X.term
   ·rw[Qi4 d.cb (by omega) hlt,if_neg (by omega)]
   ·rw[st4 d.cb h4 (by omega),Qbu (by omega)]
    unfold Qar
    rw[if_pos (.inr (by omega))]
  have hnet:(QaX C).net=r:=by rw[d.net,hY,c.out,List.take_nil,List.append_nil]
  have hself:nd (QaX C) l=Qae X:=by rw[<-hie,d.self,hY]
  have hoth:∀f,f≠l->nd (QaX C) f=nd C f:=fun f hf=>d.other (by omega)
  refine⟨y,dk,Nat.le_refl _,pm.lk,by rw[hself];exact h3,by rw[hself];exact hXt,fun x hx=>pm.net x (hr0 x (by rw[hnet] at hx;exact hx)),fun f hf hfl'=>by rw[hoth f hfl'];exact pm.low f hf hfl',fun f hf hfl'=> ?_,fun f hf hfl' hlt=> ?_,pm.y1, ?_, ?_⟩
  ·rw[hoth f hfl',hnet]
   rcases pm.fol f hf hfl' with x|⟨m',x1,x2,x3⟩
   ·exact .inl x
   ·refine .inr ⟨m', ?_,x2,x3⟩
    rw[d.n] at x1
    rcases List.mem_cons.1 x1 with e2|e2
    ·subst e2;omega
    ·exact e2
  ·rw[hself] at hlt
   have:=pm.th f hf hfl' (by rw[<-hX];exact hlt)
   rw[htn,tn_junk h4] at this
   rw[hnet]
   omega
  ·refine pm.sd.imp (fun x=>⟨?_,x.2⟩) fun x=>x
   have:=x.1
   rw[hnet];omega
  ·have:=pm.own
   rw[hself]
   have e:QcW (Qae X)=QcW (nd C l):=by rw[<-hX];rfl
   rw[e];exact this
end
section
variable {k X0 LC M bd E Zb l:Nat}{g g':GH}{i f S:Nat}{X Y F L W:RN}{m:RM}{C:CS}{r A B D D':List RM}{rr rr':Nat->Nat}{dr t:Int}
theorem Qmw{p:Nat->Bool}:∀n,((List.range n).filter p).length=Qck n fun i=>if p i=true then 1 else 0
 |0=>rfl
 |n+1=>by
  rw[List.range_succ,List.filter_append,List.length_append,Qmw n]
  show _=Qck n _+_
  congr 1
  show _=if p n=true then 1 else 0
  by_cases h:p n=true
  ·rw[List.filter_cons_of_pos h,if_pos h];rfl
  ·rw[List.filter_cons_of_neg h,if_neg h];rfl
theorem last_own(h:CInv k g S C)(hL:C.x[i]? =some L)(hr:L.role=3):(QaH L.log (L.log.length:Int)).1=L.term/\1<=L.log.length:=by
 have Ld:=(h.node i L hL).ni.lead hr
 have hpos:1<=L.log.length:=by have:=List.length_pos_iff.2 Ld.ne;omega
 obtain⟨b,e,h1,h2,h3,h4,h5⟩:=(h.gi.L L.term (by rw[Ld.ll];exact Ld.ne)).base
 rw[Ld.ll] at h3 h5
 have hb:=Qbf h3
 rw[List.length_append,List.length_singleton] at hb
 refine⟨?_,hpos⟩
 unfold QaH
 rw[if_neg (by omega),if_neg (by omega)]
 show((L.log[((L.log.length:Int)).toNat -1]?).map (·.term)).getD 0=_
 rw[Int.toNat_natCast,List.getElem?_eq_getElem (by omega)]
 refine h5 _ ?_
 refine List.mem_iff_getElem?.2 ⟨L.log.length -1 -b.length, ?_⟩
 rw[List.getElem?_drop,show b.length+(L.log.length -1 -b.length)=L.log.length -1 by omega,List.getElem?_eq_getElem (by omega)]
theorem ag_last(ag:AG X)(h0:0<=X.commit)(h1:X.commit<X.log.length)(h2:(QaH X.log (X.log.length:Int)).1=X.term):¬2*(Qj1 X (X.log.length:Int):Int)>X.n:=by
 unfold AG at ag
 cases hl:X.log.length with
 |zero=>rw[hl] at h1;omega
 |succ n=>
  rw[hl] at ag h1 h2
  unfold Qba at ag
  rw[if_neg (by omega),if_neg (fun x=>x h2)] at ag
  intro hx
  rw[if_pos hx] at ag
  cases ag
theorem ownU_pos(h:CInv k g S C)(hL:C.x[i]? =some L)(hr:L.role=3)(hc:L.commit<L.log.length):1<=QcW L:=by
 obtain⟨h1,h2⟩:=last_own h hL hr
 have hc0:=(h.node i L hL).ni.c0
 unfold QcW
 refine List.length_pos_iff.2 (List.ne_nil_of_mem (a:=L.log[L.log.length -1]'(by omega)) (List.mem_filter.2 ⟨?_, ?_⟩))
 ·refine List.mem_iff_getElem?.2 ⟨L.log.length -1 -L.commit.toNat, ?_⟩
  rw[List.getElem?_drop,show L.commit.toNat+(L.log.length -1 -L.commit.toNat)=L.log.length -1 by omega,List.getElem?_eq_getElem (by omega)]
 ·rw[decide_eq_true_eq,<-h1]
  unfold QaH
  rw[if_neg (by omega),if_neg (by omega)]
  show _=((L.log[((L.log.length:Int)).toNat -1]?).map (·.term)).getD 0
  rw[Int.toNat_natCast,List.getElem?_eq_getElem (by omega)]
  rfl
theorem cnt_un(hid:X.id=(l:Int))(hn:X.n=k)(hl:l<k){idx:Int}:Qj1 X idx+Qck k (fun f=>if f≠l/\X.matc f<idx then 1 else 0)=k:=by
 unfold Qj1
 rw[hn,Int.toNat_natCast,Qmw,<-Qd0]
 have:Qck k (fun i=>(if decide ((i:Int)=X.id\/X.matc i>=idx)=true then 1 else 0)+(if i≠l/\X.matc i<idx then 1 else 0))=Qck k (fun _=>1):=QbE fun i hi=>by
  by_cases e:(i:Int)=X.id\/X.matc i>=idx
  ·rw[if_pos (decide_eq_true e),if_neg (by omega)]
  ·rw[if_neg (by simp only[decide_eq_true_eq];exact e),if_pos (by omega)]
 rw[this]
 have key:∀n,Qck n (fun _=>1)=n:=by
  intro n
  induction n with
  |zero=>rfl
  |succ n ih=>show Qck n _+1=_;rw[ih]
 exact key k
theorem pm_end{own0 j y h:Nat}{dk:Nat->Nat}(hinv:CInv k g S C)(hk:2<=k)(pm:PM k l t own0 j C y h dk)(hn:C.net= [])(hb:(j=0/\own0<=401/\h<=3)\/(j<=30/\own0<=1/\h<=3)):
  (∀f,f<k->f≠l->Fol t l (nd C f))/\(nd C l).commit=(nd C l).log.length:=by
 have h7:=hinv.k7
 refine⟨fun f hf hfl=> ?_, ?_⟩
 ·rcases pm.fol f hf hfl with x|⟨m',x1,_⟩
  ·exact x
  ·rw[hn] at x1;cases x1
 have hL:=hinv.nd pm.lk
 have c:=hinv.node l _ hL
 have hc1:=c.ni.c1
 refine Decidable.byContradiction fun hne=> ?_
 have hlt:(nd C l).commit<(nd C l).log.length:=by omega
 obtain⟨h1,h2⟩:=last_own hinv hL pm.role
 have hag:=ag_last (c.xi.ag pm.role) c.ni.c0 hlt h1
 have hcu:=cnt_un (X:=nd C l) (idx:=((nd C l).log.length:Int)) c.ni.id c.ni.n pm.lk
 rw[c.ni.n] at hag
 generalize hU:Qck k (fun f=>if f≠l/\(nd C l).matc f<((nd C l).log.length:Int) then 1 else 0)=U at hcu
 have hop:=ownU_pos hinv hL pm.role hlt
 have hdk:U*y<=Qck k dk:=by
  have:Qck k (fun f=>y*(if f≠l/\(nd C l).matc f<((nd C l).log.length:Int) then 1 else 0))<=Qck k dk:=Qcn fun f hf=>by
   split
   ·rename_i hu
    have:=pm.th f hf hu.1 hu.2
    rw[hn] at this
    have e:tn [] l f t=0:=rfl
    omega
   ·omega
  rw[Qi2,hU,Nat.mul_comm] at this
  exact this
 have hU1:1<=U:=by omega
 have hsome:∃f,dk f≠0:=by
  refine Classical.byContradiction fun hno=> ?_
  have:Qck k dk=0:=QbU fun f _=>Decidable.byContradiction fun x=>hno ⟨f,x⟩
  have h9:=Nat.mul_le_mul_right y hU1
  have:=pm.y1
  omega
 have hdr:514<=k+(k -1)*y+j:=pm.sd.resolve_left fun x=>by
  obtain⟨f,hf⟩:=hsome
  exact hf (x.2 f)
 have hown:=pm.own
 have h9:1*y<=U*y:=Nat.mul_le_mul_right y hU1
 have hkk:k=2\/k=3\/k=4\/k=5\/k=6\/k=7:=by omega
 rcases hkk with rfl|rfl|rfl|rfl|rfl|rfl
 ·omega
 ·have:2*y<=U*y:=Nat.mul_le_mul_right y (by omega)
  omega
 ·have:2*y<=U*y:=Nat.mul_le_mul_right y (by omega)
  omega
 ·have:3*y<=U*y:=Nat.mul_le_mul_right y (by omega)
  omega
 ·have:3*y<=U*y:=Nat.mul_le_mul_right y (by omega)
  omega
 ·have:4*y<=U*y:=Nat.mul_le_mul_right y (by omega)
  omega
end
end Go.Proofs.YtniojdaddolnfaaGreat
