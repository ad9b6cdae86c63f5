/- Contracts, and the plain mathematics beneath. -/
import Derived.Test.YtggngahmafbihaaGreatDoorPerBG
set_option linter.unusedVariables false
set_option linter.unusedSimpArgs false
set_option maxRecDepth 100000
namespace Go.Proofs.YtggngahmafbihaaGreatDoor
open Go.RowKit Go.Lib
inductive Wd where
 |s (l:List UInt8)
 |k (l:List UInt8)
 |n (l:List UInt8)
 |i (v:Nat)
 |b
 |nl
def Wd.e:Wd→El
 | .s l=>sg l
 | .k l=>ky l
 | .n l=>Z2 ⟨l.toArray⟩
 | .i v=>KQ 0 v ⟨#[]⟩
 | .b=>bl
 | .nl=>nlE
def wE(l:List Wd):List El:=l.map Wd.e
def Jc(r:List UInt8):Bool:=match r with
 | []=>true
 |c::_=> !(zk c||zz c||qt c)
def kn:List Wd→Bool
 | []=>true
 | .s l::r=>sgB l && (match zw (wE r)with| []=>true|c::_=> !QS ⟨l.toArray⟩ c) && kn r
 | .k l::r=>kyB l && Jc (zw (wE r)) && kn r
 | .n l::r=>zD ⟨l.toArray⟩ && Jc (zw (wE r)) && kn r
 | .i v::r=>decide (v≤9223372036854775807) && Jc (zw (wE r)) && kn r
 | .b::r=>kn r
 | .nl::r=>kn r
theorem JF{r:List UInt8}(h:Jc r=true):Stop (r++ []):=by
 rw[List.append_nil]
 cases r with
 |nil=>intro c t e;cases e
 |cons c u=>
  simp only[Jc,Bool.not_eq_true']at h;exact J1 h
theorem kN: ∀l:List Wd,kn l=true→jU [] (wE l)
 | [],_=>trivial
 | .s l::r,h=>by
   simp only[kn,Bool.and_eq_true]at h;refine qfR h.1.1 (fun c u e=> ?_) (kN r h.2);rw[List.append_nil]at e;have h2:=h.1.2;change zw (wE r)=c::u at e;rw[e]at h2
   simpa using h2
 | .k l::r,h=>by
   simp only[kn,Bool.and_eq_true]at h;exact qgV h.1.1 (JF h.1.2) (kN r h.2)
 | .n l::r,h=>by
   simp only[kn,Bool.and_eq_true]at h;exact qgX h.1.1 (JF h.1.2) (kN r h.2)
 | .i v::r,h=>by
   simp only[kn,Bool.and_eq_true,decide_eq_true_eq]at h;refine qgW ⟨by simp[qH];rfl,by decide,fun _=>by omega,by decide,by omega,by omega⟩ (JF h.1.2) (kN r h.2)
 | .b::r,h=>qgU (kN r h)
 | .nl::r,h=>⟨.inl rfl,kN r h⟩
def kE(k:Nat):List UInt8:=([[120,32,61,32,59],[105,102,32,49],[101,110,100,105,102],[102,111,114,32,120,32,105,110,32,49],[114,101,116,117,114,110,32,49,32,50,59],[120,32,43,32,61,32,50,59],[123,49,44,32,50,125,32,61,32,120,59],[49,32,61,32,120,59],[98,114,101,97,107,59],[102,40,49,59],[120,91,49,32,61,32,50,59],[116,114,121,10,101,110,100,116,114,121],[119,104,105,108,101,32,40,41],[96,120,32,33,32,121,32,61,62,32,122,59]]:List (List UInt8)).getD k []
def Jo(k:Nat):List Wd:=([[.n [120],.b,.s [61],.b,.s [59]],[.k [105,102],.b,.i 1],[.k [101,110,100,105,102]],[.k [102,111,114],.b,.n [120],.b,.k [105,110],.b,.i 1],[.k [114,101,116,117,114,110],.b,.i 1,.b,.i 2,.s [59]],[.n [120],.b,.s [43],.b,.s [61],.b,.i 2,.s [59]],[.s [123],.i 1,.s [44],.b,.i 2,.s [125],.b,.s [61],.b,.n [120],.s [59]],[.i 1,.b,.s [61],.b,.n [120],.s [59]],[.k [98,114,101,97,107],.s [59]],[.n [102],.s [40],.i 1,.s [59]],[.n [120],.s [91],.i 1,.b,.s [61],.b,.i 2,.s [59]],[.k [116,114,121],.nl,.k [101,110,100,116,114,121]],[.k [119,104,105,108,101],.b,.s [40],.s [41]],[.s [96],.n [120],.b,.s [33],.b,.n [121],.b,.s [61,62],.b,.n [122],.s [59]]]:List (List Wd)).getD k []
theorem qd5: ∀k:Fin 14,(kn (Jo k.val) && (zw (wE (Jo k.val))==kE k.val) && decide ((wE (Jo k.val)).length≤100))=true:=by decide+kernel
def xk(n:Nat):List UInt8:=(List.replicate n [120,32,61,32,49,59,10]).flatten
def kz:List Wd:= [.n [120],.b,.s [61],.b,.i 1,.s [59],.nl]
def kY:Nat→List Wd
 |0=> []
 |n+1=>kz++kY n
def x9(L:Int):List Tok:= [⟨1,L,⟨#[120]⟩,0,0,⟨#[]⟩⟩,⟨4,L,⟨#[61]⟩,0,0,⟨#[]⟩⟩,⟨3,L,⟨#[]⟩,0,1,⟨#[]⟩⟩,⟨4,L,⟨#[59]⟩,0,0,⟨#[]⟩⟩]
def qaC(L:Int):NL:=nd 40 L ⟨#[]⟩ 0 0 ⟨#[]⟩ (nd 27 L ⟨#[]⟩ 0 0 ⟨#[]⟩ (.cons 2 L ⟨#[120]⟩ 0 0 ⟨#[]⟩ .nil .nil (.cons 1 L ⟨#[]⟩ 0 1 ⟨#[]⟩ .nil .nil .nil)))
def kx:Nat→NL
 |0=> .nil
 |n+1=>(qaC 1).app (kx n)
theorem qeH(l:List Wd):kn (kz++l)=kn l:=by kernel_rfl
theorem KZ{r:List Wd}(h:kn r=true): ∀n:Nat,kn (kY n++r)=true
 |0=>h
 |n+1=>by
  show kn ((kz++kY n)++r)=true
  rw[List.append_assoc,qeH];exact KZ h n
theorem qcG(l:List Wd):zw (wE (kz++l))= [120,32,61,32,49,59,10]++zw (wE l):=by kernel_rfl
theorem K3(r:List Wd): ∀n:Nat,zw (wE (kY n++r))=xk n++zw (wE r)
 |0=>rfl
 |n+1=>by
  show zw (wE ((kz++kY n)++r))=_
  rw[List.append_assoc,qcG,K3 r n];unfold xk;rw[List.replicate_succ,List.flatten_cons,List.append_assoc]
theorem qeJ(L:Int)(l:List Wd):jD L (wE (kz++l))=x9 L++jD (L+1) (wE l):=by
 have e:jD L (wE (kz++l))=x9 L++jD (L+0+0+1) (wE l):=by
  unfold x9 kz wE Wd.e Z2 sg KQ bl nlE;simp[jD]
 rw[e]
 congr 2
 omega
def xC:Nat→Int→List Tok
 |0,_=> []
 |n+1,L=>x9 L++xC n (L+1)
theorem JT: ∀(n:Nat)(L:Int),(xC n L).length=4*n
 |0,_=>rfl
 |n+1,L=>by
  rw[xC,List.length_append,JT n];show 4+4*n=_
  omega
theorem qby(r:List Wd): ∀(n:Nat)(L:Int),jD L (wE (kY n++r))=xC n L++jD (L+n) (wE r)
 |0,L=>by
  show jD L (wE r)=jD (L+((0:Nat):Int)) (wE r)
  congr 1
  omega
 |n+1,L=>by
  show jD L (wE ((kz++kY n)++r))=_
  rw[List.append_assoc,qeJ,qby r n (L+1),xC,List.append_assoc]
  congr 3
  omega
theorem qaD: ∀n:Fin 20,zG (kx n.val) 7=true:=by decide+kernel
theorem qbx{n:Nat}(h:n<20):zG (kx n) 7=true:=qaD ⟨n,h⟩
theorem qeK(n:Nat):(kx n).tot=4*n:=by
 induction n with
 |zero=>rfl
 |succ n a=>
  rw[kx,NL.tot_app,a];show 4+4*n=_
  omega
theorem qbv: ∀a b:NL,a.fit→b.fit→(a.app b).fit:=fun a b ha hb=>by
 induction a with
 |nil=>exact hb
 |cons op ln s k n t v sub r _ c=>exact⟨ha.1,ha.2.1,ha.2.2.1,ha.2.2.2.1,ha.2.2.2.2.1,ha.2.2.2.2.2.1,c ha.2.2.2.2.2.2⟩
theorem qeF(n:Nat):(kx n).fit:=by
 induction n with
 |zero=>trivial
 |succ n a=>exact qbv _ _ (by simp[qaC,nd,NL.fit,NL.len,VL.len,VL.fit,ByteArray.size]) a
def Tok.dn(m:Int)(t:Tok):Tok:={t with line:=t.line+m}
theorem XA(m:Int): ∀(e:List El)(L:Int),jD (L+m) e=(jD L e).map (Tok.dn m)
 | [],_=>rfl
 | .w t::l,L=>by rw[jD,jD,XA m l L];rfl
 | .b c::l,L=>by
   rw[jD,jD, ←XA m l]
   congr 1;omega
theorem qdN{m:Int}{P Q:List Tok}{k:Nat}(c:P.length=k)(d:Q≠ []):LR k (fun a b=>b=a+m) Q (P++Q.map (Tok.dn m)):=by
 have hg: ∀j,(P++Q.map (Tok.dn m))[k+j]?=(Q[j]?).map (Tok.dn m):=fun j=>by
  rw[List.getElem?_append_right (by omega),show k+j-P.length=j by omega,List.getElem?_map]
 refine⟨fun j=> ?_,fun p f hp=> ?_,by rw[List.length_append,List.length_map,c]⟩
 ·rw[hg,Option.map_map]
  rfl
 ·unfold qd
  rw[hp,hg]
  cases Q[p.pos]? with
  |some t=>rfl
  |none=>
   simp only[Option.map_none];rw[List.getLast?_append,List.getLast?_map]
   cases e:Q.getLast? with
   |none=>exact absurd (List.getLast?_eq_none_iff.1 e) d
   |some t=>rfl
theorem XV(l:List Tok): ∀(f:Nat)(a b:NL)(p:PS),zH l f (a.app b) p=(zH l f b p).map fun x=>(a.app x.1,x.2)
 |0,_,_,_=>rfl
 |f+1,a,b,p=>by
  rw[zH,zH];split
  ·rfl
  ·cases qa l (f+1) .stmt p with
   |none=>rfl
   |some x=>
    simp only[Option.bind];rw[NL.app_assoc,XV l f a _ x.2]
theorem XW(l:List Tok): ∀(f:Nat)(a:NL)(p:PS)(x:NL×PS),zH l f a p=some x→zH l (f+1) a p=some x
 |0,a,p,x,h=>by cases h
 |f+1,a,p,x,h=>by
  rw[zH]at h⊢;split at h
  ·rename_i hc;rw[if_pos hc];exact h
  ·rename_i hc
   rw[if_neg hc]
   cases hs:qa l (f+1) .stmt p with
   |none=>rw[hs]at h;cases h
   |some y=>
    rw[hs]at h;rw[Zo hs (show f+1≤f+1+1 by omega)];exact XW l f _ _ _ h
theorem qeO{l:List Tok}{f g:Nat}{a:NL}{p:PS}{x:NL×PS}(h:zH l f a p=some x)(hg:f≤g):zH l g a p=some x:=by
 obtain⟨k,rfl⟩:=Nat.le.dest hg;clear hg
 induction k with
 |zero=>exact h
 |succ k b=>exact XW l _ _ _ _ b
theorem qhm(Q:List Tok):Q.map (Tok.dn 0)=Q:=by
 have:Tok.dn 0=id:=by
  funext t
  cases t;simp[Tok.dn]
 rw[this,List.map_id]
theorem qcF(L:Int)(r:List Tok):qa (x9 L++r) 60 .stmt ⟨0,0,none⟩=some (qaC L,⟨4,0,none⟩):=by kernel_rfl
theorem qeI(P:List Tok)(L:Int)(r:List Tok): ∃s,rel 0 s=rel 0 (qaC 1)∧qa (P++(x9 L++r)) 60 .stmt ⟨P.length,0,none⟩=some (s,⟨P.length+4,0,none⟩):=by
 have hl:=qdN (m:=0) (P:=P) (Q:=x9 L++r) (k:=P.length) rfl (by simp[x9]);rw[qhm]at hl;have hr:=JB hl 60 .stmt .stmt ⟨0,0,none⟩ ⟨P.length,0,none⟩ .stmt ⟨by simp,rfl,trivial⟩;rw[qcF]at hr
 cases hz:qa (P++(x9 L++r)) 60 .stmt ⟨P.length,0,none⟩with
 |none=>rw[hz]at hr;cases hr
 |some z=>
  obtain⟨s,pos,deep,err⟩:=z;rw[hz]at hr;obtain⟨h1,h2⟩:=hr;have e1:pos=P.length+4:=h2.pos;have e2:deep=0:=h2.deep;have e3:=h2.err
  cases err with
  |some y=>cases e3
  |none=>
   rw[e1,e2];exact⟨s,h1.symm.trans rfl,rfl⟩
theorem qbw: ∀(n:Nat)(P:List Tok)(L:Int)(r:List Tok)(G:Nat)(acc:NL),60≤G→ ∃s,rel 0 s=rel 0 (kx n)∧zH (P++(xC n L++r)) (G+n) acc ⟨P.length,0,none⟩=zH (P++(xC n L++r)) G (acc.app s) ⟨P.length+4*n,0,none⟩
 |0,P,L,r,G,acc,_=>⟨.nil,rfl,by rw[NL.app_nil];rfl⟩
 |n+1,P,L,r,G,acc,hG=>by
  have e:P++(xC (n+1) L++r)=(P++x9 L)++(xC n (L+1)++r):=by
   rw[xC,List.append_assoc,List.append_assoc]
  obtain⟨c,h1,h2⟩:=qeI P L (xC n (L+1)++r);obtain⟨d,h3,h4⟩:=qbw n (P++x9 L) (L+1) r G (acc.app c) hG;refine⟨c.app d,by rw[kx,kb,kb,h1,h3],?_⟩
  have a: ¬(P++(x9 L++(xC n (L+1)++r))).length≤P.length:=by
   rw[List.length_append,List.length_append];show ¬P.length+(4+_)≤P.length
   omega
  have b:(P++x9 L).length=P.length+4:=by rw[List.length_append];rfl
  rw[b]at h4;rw[e];rw[show G+(n+1)=G+n+1 from rfl,zH];rw[List.append_assoc]at h4⊢;simp only[Option.isSome_none,Bool.false_or,decide_eq_true_eq,a,if_false,Zo h2 (show 60≤G+n+1 by omega),Option.bind];rw[h4,NL.app_assoc]
  congr 2
  omega
def jR(k:Nat):List Tok:=jD 1 (wE (Jo k))
def QT(k:Nat):Int:=if k=11 then 2 else 1
def qa0(k:Nat):Bool:=k==8||match zH (jR k) 60 .nil ⟨0,0,none⟩with
 |some x=>(match x.2.err with|some (some l)=>l==QT k|_=>false)
 |none=>false
theorem qd4: ∀k:Fin 14,qa0 k.val=true:=by decide+kernel
theorem qfm: ∀k:Fin 14,jR k.val≠ []:=by
 have: ∀k:Fin 14,(jR k.val).isEmpty=false:=by decide+kernel
 intro k h;have:=this k;rw[h]at this;cases this
theorem JN{n k:Nat}(hn:n<20)(hk:k<14)(T:ByteArray)(b:T.data.toList=xk n++kE k):
 ∃P:List Tok,P.length=4*n∧xP T= .inr (P++(jR k).map (Tok.dn n))∧(P++(jR k).map (Tok.dn n)).length≤1000∧
  ∀G,60≤G→ ∃s,rel 0 s=rel 0 (kx n)∧zH (P++(jR k).map (Tok.dn n)) (G+n) .nil ⟨0,0,none⟩=zH (P++(jR k).map (Tok.dn n)) G s ⟨4*n,0,none⟩:=by
 have hc:=qd5 ⟨k,hk⟩;simp only[Bool.and_eq_true,beq_iff_eq,decide_eq_true_eq]at hc;obtain⟨⟨c1,c2⟩,c3⟩:=hc;have a:=qb6 (s:=T) (l:=wE (kY n++Jo k)) (kN _ (KZ c1 n)) (by rw[b,K3,c2]);rw[qby,XA (n:Int) (wE (Jo k)) 1]at a;have hz:=JT n 1;refine⟨_,hz,a,?_,fun G hG=> ?_⟩
 ·rw[List.length_append,hz,List.length_map]
  have:(jR k).length≤100:=by
   unfold jR;rw[Jt]
   have c: ∀e:List El,ki e≤e.length:=fun e=>by
    induction e with
    |nil=>exact Nat.le_refl _
    |cons x e d=>cases x<;>simp only[ki,List.length_cons]<;>omega
   exact Nat.le_trans (c _) c3
  omega
 ·obtain⟨s,h1,h2⟩:=qbw n [] 1 ((jR k).map (Tok.dn n)) G .nil hG
  refine⟨s,h1,?_⟩;have e:(NL.nil).app s=s:=rfl;rw[e]at h2
  simpa using h2
theorem qfw{n k:Nat}(hn:n<20)(hk:k<14)(h8:k≠8)(T:ByteArray)(j:T.data.toList=xk n++kE k):
 ∃(W:List Tok)(F:Nat)(x:NL)(p:PS),xP T= .inr W∧W.length≤1000000∧F≤1000000000∧zH W F .nil ⟨0,0,none⟩=some (x,p)∧p.err=some (some (QT k+n)):=by
 obtain⟨P,i,o,h,e⟩:=JN hn hk T j;obtain⟨s,hs,d⟩:=e 3000 (by omega);have hb:=qd4 ⟨k,hk⟩;unfold qa0 at hb;simp only[show(k==8)=false from beq_eq_false_iff_ne.2 h8,Bool.false_or]at hb
 cases f:zH (jR k) 60 .nil ⟨0,0,none⟩with
 |none=>rw[f]at hb;cases hb
 |some y=>
  rw[f]at hb;replace hb:(match y.2.err with|some (some l)=>l==QT k|_=>false)=true:=hb;have g:=qeO f (show 60≤3000 by omega);have hr:=K5 (qdN (m:=(n:Int)) i (qfm ⟨k,hk⟩)) 3000 .nil .nil ⟨0,0,none⟩ ⟨4*n,0,none⟩ (NR.refl _) ⟨by simp,rfl,trivial⟩;rw[g]at hr;have c:=XV (P++(jR k).map (Tok.dn n)) 3000 s .nil ⟨4*n,0,none⟩;rw[NL.app_nil]at c;rw[c]at d
  cases hz:zH (P++(jR k).map (Tok.dn n)) 3000 .nil ⟨4*n,0,none⟩with
  |none=>rw[hz]at hr;cases hr
  |some z=>
   rw[hz]at hr d;refine⟨_,_,_,_,o,by omega,show 3000+n≤1000000000 by omega,d,?_⟩;have h2:=hr.2.err
   cases h3:y.2.err with
   |none=>rw[h3]at hb;cases hb
   |some a=>
    cases a with
    |none=>rw[h3]at hb;cases hb
    |some l=>
     rw[h3]at hb h2;simp only[beq_iff_eq]at hb;show z.2.err=_
     cases h4:z.2.err with
     |none=>rw[h4]at h2;cases h2
     |some b=>
      cases b with
      |none=>rw[h4]at h2;cases h2
      |some q=>
       rw[h4]at h2;have h5:q=l+n:=h2;rw[h5,hb]
theorem qed{n:Nat}(hn:n<20)(T:ByteArray)(k:T.data.toList=xk n++kE 8):
 ∃(W:List Tok)(F:Nat)(x:NL)(p:PS),xP T= .inr W∧W.length≤1000000∧F≤1000000000∧zH W F .nil ⟨0,0,none⟩=some (x,p)∧p.err=none∧x.fit∧zG x 7=false∧x.tot≤4096∧x.deep≤40∧zf x (fun _=>(7,false)) 0=some (1+(n:Int),1):=by
 obtain⟨P,h,m,i,f⟩:=JN hn (show 8<14 by decide) T k;obtain⟨s,hs,l⟩:=f 3000 (by omega)
 have hd:(P++(jR 8).map (Tok.dn n)).drop (4*n)=⟨2,1+(n:Int),⟨([98,114,101,97,107]:List UInt8).toArray⟩,0,0,⟨#[]⟩⟩:: [⟨4,1+(n:Int),⟨([59]:List UInt8).toArray⟩,0,0,⟨#[]⟩⟩]:=by
  rw[←h,List.drop_left];rfl
 have j:=qaN (G:=3000) (d:=0) hd (by rw[qfA];rfl) (by omega);have g:(P++(jR 8).map (Tok.dn n)).length=4*n+2:=by rw[List.length_append,h,List.length_map];rfl
 have hrel:=hs;have a:=qbx hn;rw[←qbF hrel 7]at a;simp only[zG,Bool.and_eq_true,decide_eq_true_eq,Option.isNone_iff_eq_none]at a;have b:s.tot=4*n:=by rw[←qeK n, ←Qw 0 s,hrel,Qw]
 have e:s.fit:=by
  rw[Kt hrel];exact qeF n
 have c:zf (s.app (ndL 45 (1+(n:Int)) .nil)) (fun _=>(7,false)) 0=some (1+(n:Int),1):=by
  rw[J4,a.2];rfl
 refine⟨_,_,s.app (ndL 45 (1+(n:Int)) .nil),⟨4*n+1+1,0,none⟩,m,by omega,show 3000+n≤1000000000 by omega,?_,rfl,?_,?_,?_,?_,c⟩
 ·rw[l,zH]
  simp only[Option.isSome_none,Bool.false_or,decide_eq_true_eq,g,show ¬4*n+2≤4*n by omega,if_false,j,Option.bind];rw[zH];simp only[Option.isSome_none,Bool.false_or,decide_eq_true_eq,g,show 4*n+2≤4*n+1+1 by omega,if_true]
 ·exact qbv _ _ e ⟨by decide,by decide,by decide,trivial,by decide,trivial,trivial⟩
 ·unfold zG;rw[c];simp
 ·rw[NL.tot_app,b];show 4*n+1≤4096;omega
 ·rw[NL.deep_app];exact Nat.max_le.2 ⟨a.1.2,by show Nat.max (1+0) 0≤40;decide⟩
end Go.Proofs.YtggngahmafbihaaGreatDoor
