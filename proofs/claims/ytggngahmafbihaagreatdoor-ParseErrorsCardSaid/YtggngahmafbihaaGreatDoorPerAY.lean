/- Contracts, and the plain mathematics beneath. -/
import Derived.Test.YtggngahmafbihaaGreatDoorPerAH
import Derived.Test.YtggngahmafbihaaGreatDoorPerAU
import Derived.Test.YtggngahmafbihaaGreatDoorPerAO
import Derived.Test.YtggngahmafbihaaGreatDoorPerAF
import Derived.Test.YtggngahmafbihaaGreatDoorPerAC
set_option linter.unusedVariables false
set_option linter.unusedSimpArgs false
set_option maxRecDepth 100000
set_option maxHeartbeats 4000000
namespace Go.Proofs.YtggngahmafbihaaGreatDoor
open Go.RowKit Go.Lib
def NoP(p:UInt8→Bool)(r:List UInt8):Prop:= ∀c t,r=c::t→p c=false
theorem Z7{s:ByteArray}{p:UInt8→Bool}{r:List UInt8}(hr:NoP p r): ∀(a:List UInt8)(f i:Nat),(∀c∈a,p c=true)→s.data.toList.drop i=a++r→a.length<f→xp s p f i=a.length
 |a,0,i,_,_,hf=>absurd hf (Nat.not_lt_zero _)
 | [],f+1,i,_,hd,_=>by
   unfold xp;rw[if_neg]
   ·rfl
   ·rintro⟨h1,h2⟩
    rw[kB h1]at hd;have:=hr _ _ hd.symm;rw[h2]at this;cases this
 |c::t,f+1,i,ha,hd,hf=>by
  obtain⟨d,d1⟩:=zj hd
  have b:i<s.size:=by
   rcases Nat.lt_or_ge i s.size with h|h
   ·exact h
   ·exfalso
    have hs:s.data.toList.length=s.size:=by rw[Array.length_toList];rfl
    rw[List.drop_of_length_le (by omega)]at hd;cases hd
  unfold xp;rw[if_pos ⟨b,by rw[d];exact ha c (by simp)⟩,Z7 hr t f (i+1) (fun x hx=>ha x (by simp[hx])) d1 (by rw[List.length_cons]at hf;omega)];rfl
theorem jY{s:ByteArray}{i:Nat}{a r:List UInt8}(h:s.data.toList.drop i=a++r)(ha:a≠ []):i+a.length+r.length=s.size:=by
 have hs:s.data.toList.length=s.size:=by rw[Array.length_toList];rfl
 have:=congrArg List.length h;rw[List.length_drop,List.length_append,hs]at this;have hl:0<a.length:=List.length_pos_iff.2 ha;omega
theorem QZ{s:ByteArray}{p:UInt8→Bool}{a r:List UInt8}{i:Nat}(hr:NoP p r)(ha: ∀c∈a,p c=true)(hd:s.data.toList.drop i=a++r)(b:a≠ []):run s p i=a.length:=by
 have:=jY hd b;unfold run;exact Z7 hr a _ i ha hd (by omega)
theorem kl{s:ByteArray}{a r:List UInt8}{i:Nat}(hd:s.data.toList.drop i=a++r):(s.extract i (i+a.length)).data.toList=a:=by
 rw[ByteArray.data_extract,Array.toList_extract,List.extract_eq_take_drop,hd,show i+a.length-i=a.length by omega,List.take_left]
theorem kZ{s:ByteArray}{a r:List UInt8}{i:Nat}(hd:s.data.toList.drop i=a++r):s.data.toList.drop (i+a.length)=r:=qcg hd
def Stop(r:List UInt8):Prop:= ∀c t,r=c::t→zk c=false∧zz c=false∧qt c=false
theorem Q2{s:ByteArray}{r:List UInt8}{j:Nat}(hd:s.data.toList.drop j=r)(hr:Stop r):zk (pk s j)=false∧zz (pk s j)=false∧qt (pk s j)=false:=by
 cases r with
 |nil=>rw[qgt hd];decide
 |cons c t=>rw[(zj hd).1];exact hr c t rfl
theorem qfv{l:List UInt8}(h: ∀c∈l,QE c=true): ∀c∈l,qt c=true:=fun c hc=>by rw[kU];exact h c hc
theorem Xw{s:ByteArray}{i u:Nat}{r:List UInt8}(hd:s.data.toList.drop i=decDigits u++r)(hr:Stop r):jF s i=if 9223372036854775807<u then .inl 105 else .inr ((u:Int),(decDigits u).length):=by
 obtain⟨⟨d,j,hz⟩,g,k⟩:=QO u;have f:run s qt i=(decDigits u).length:=QZ (fun c t e=>(hr c t e).2.2) (qfv j) hd d;have b:=Q2 (kZ hd) hr;have hl:0<(decDigits u).length:=List.length_pos_iff.2 d;unfold jF;simp only[f,kl hd,g];rw[if_neg];rintro(h|⟨h1,h2⟩|⟨h1,h2|h2⟩)
 ·omega
 ·have:(decDigits u).head?=some 48:=by
   cases l:decDigits u with
   |nil=>exact absurd l d
   |cons a t=>
    rw[l]at hd;rw[(zj hd).1]at h2;rw[h2];rfl
  have:=hz this;omega
 ·rw[b.1]at h2;cases h2
 ·rw[b.2.1]at h2;cases h2
theorem Xu(u:Nat): ∃c t,decDigits u=c::t∧qt c=true:=by
 obtain⟨⟨b,a,hz⟩,f,d⟩:=QO u
 cases e:decDigits u with
 |nil=>exact absurd e b
 |cons c t=>exact⟨c,t,rfl,by rw[kU];exact a c (by rw[e];simp)⟩
theorem KM{c:UInt8}(h:qt c=true):zk c=false∧zz c=false∧c≠35∧c≠34∧c≠45:=by
 unfold qt at h;rw[decide_eq_true_eq]at h;refine⟨?_,?_,?_,?_,?_⟩
 ·unfold zk
  rw[Bool.or_eq_false_iff,decide_eq_false_iff_not,beq_eq_false_iff_ne];exact⟨by omega,fun e=>by rw[e]at h;exact absurd h (by decide)⟩
 ·unfold zz;rw[decide_eq_false_iff_not];omega
 ·intro e;rw[e]at h;exact absurd h (by decide)
 ·intro e;rw[e]at h;exact absurd h (by decide)
 ·intro e;rw[e]at h;exact absurd h (by decide)
theorem qco{s:ByteArray}{i u:Nat}{r:List UInt8}{line:Int}(hd:s.data.toList.drop i=decDigits u++r)(hr:Stop r):zb s i line=if 9223372036854775807<u then .bad 105 else .word (decDigits u).length ⟨3,line,⟨#[]⟩,0,u,⟨#[]⟩⟩:=by
 obtain⟨c,t,a,hc⟩:=Xu u;have hp:pk s i=c:=by rw[a]at hd;exact(zj hd).1
 have hn:=KM hc;unfold zb;simp only[hp,hn.1,hc,Bool.false_eq_true,if_false,if_true,Xw hd hr];by_cases hb:9223372036854775807<u
 ·simp only[if_pos hb]
 ·simp only[if_neg hb]
theorem qcy{s:ByteArray}{i:Nat}{n:Int}{r:List UInt8}{line:Int}(hd:s.data.toList.drop i=35::(itoa n++r))(hr:Stop r)(e: -9223372036854775807≤n)(f:n≤9223372036854775807):
 zb s i line=if n< -2147483648∨2147483647<n then .bad 105 else .word (1+(itoa n).length) ⟨3,line,⟨#[]⟩,1,n,⟨#[]⟩⟩:=by
 obtain⟨hp,d1⟩:=zj hd;have h1:zk (35:UInt8)=false:=by decide
 have h2:qt (35:UInt8)=false:=by decide
 have h3:zz (35:UInt8)=false:=by decide
 by_cases hv:n<0
 ·obtain⟨u,rfl⟩: ∃u:Nat,n= -(u:Int):=⟨n.natAbs,by omega⟩
  have h:1≤u:=by omega
  rw[itoa_neg u h]at d1⊢;obtain⟨d,d2⟩:=zj (show s.data.toList.drop (i+1)=45::(decDigits u++r)from d1);have hg:=Xw d2 hr;rw[if_neg (by omega)]at hg;have b: ¬((u:Int)=0):=by omega
  unfold zb;simp only[hp,h1,h2,h3,Bool.false_eq_true,if_false,if_true,d,beq_self_eq_true,hg,b,and_false];by_cases hb: -(u:Int)< -2147483648∨2147483647< -(u:Int)
  ·rw[if_pos hb,if_pos hb]
  ·rw[if_neg hb,if_neg hb,List.length_cons,show i+1+1+(decDigits u).length-i=1+((decDigits u).length+1)by omega]
 ·obtain⟨u,rfl⟩: ∃u:Nat,n=(u:Int):=⟨n.toNat,by omega⟩
  rw[itoa_nonneg]at d1⊢;obtain⟨c,t,g,hc⟩:=Xu u;have d:pk s (i+1)=c:=by rw[g]at d1;exact(zj d1).1
  have a:(c==45)=false:=by rw[beq_eq_false_iff_ne];exact(KM hc).2.2.2.2
  have hg:=Xw d1 hr;rw[if_neg (by omega)]at hg;unfold zb;simp only[hp,h1,h2,h3,Bool.false_eq_true,if_false,if_true,d,a,hg,false_and];by_cases hb:(u:Int)< -2147483648∨2147483647<(u:Int)
  ·rw[if_pos hb,if_pos hb]
  ·rw[if_neg hb,if_neg hb,show i+1+(decDigits u).length-i=1+(decDigits u).length by omega]
def geB(c:UInt8):Bool:=zz c||c==95
theorem qcx: ∀a:Fin 15,0<(zJ a.val).size:=by decide+kernel
theorem qav: ∀c:Fin 15,(zJ c.val).data.toList.all geB=true:=by decide+kernel
theorem qck{s:ByteArray}{i c:Nat}{r:List UInt8}{line:Int}(hc:c<15)(hd:s.data.toList.drop i=(zJ c).data.toList++r)(hr:NoP geB r):
 zb s i line=if zk (pk s (i+(zJ c).size))=true∧i+(zJ c).size<s.size∨qt (pk s (i+(zJ c).size))=true∧i+(zJ c).size<s.size then .bad 111 else .word (zJ c).size ⟨3,line,⟨#[]⟩,3,c,⟨#[]⟩⟩:=by
 have hz:(zJ c).data.toList.length=(zJ c).size:=by rw[Array.length_toList];rfl
 have d:(zJ c).data.toList≠ []:=by
  intro e;rw[e]at hz;have:=qcx ⟨c,hc⟩;simp only[List.length_nil]at hz this;omega
 have g:run s (fun c=>zz c||c==95) i=(zJ c).size:=by
  rw[←hz];exact QZ hr (fun x hx=>List.all_eq_true.1 (qav ⟨c,hc⟩) x hx) hd d
 have h:s.extract i (i+(zJ c).size)=zJ c:=Zd (by rw[←hz];exact kl hd)
 have f:jI (zJ c)=c:=by
  refine qai _ c hc rfl (fun j p e=> ?_);have e':zJ j=zJ c:=e;obtain⟨k,m,n,d⟩:=qcw ⟨j,by omega⟩ ⟨c,hc⟩ (by simp;omega);simp only at m n d;exact d (by rw[e'])
 have l:=KU ⟨c,hc⟩
 have hp:pk s i=69:=by
  cases o:(zJ c).data.toList with
  |nil=>exact absurd o d
  |cons a t=>
   rw[show(zJ (⟨c,hc⟩:Fin 15).val).data.toList=a::t from o]at l;injection l with l
   rw[o,l]at hd;exact(zj hd).1
 have h1:zk (69:UInt8)=false:=by decide
 have h2:qt (69:UInt8)=false:=by decide
 have h3:zz (69:UInt8)=true:=by decide
 have hk: ¬((c:Int)<0):=by omega
 unfold zb;simp only[hp,h1,h2,h3,Bool.false_eq_true,if_false,if_true,g,h,f,hk,false_or]
 congr 1
 apply propext
 constructor
 ·rintro⟨a,b|b⟩
  ·exact .inl ⟨b,a⟩
  ·exact .inr ⟨b,a⟩
 ·rintro(⟨a,b⟩|⟨a,b⟩)
  ·exact⟨b,.inl a⟩
  ·exact⟨b,.inr a⟩
theorem QW{s:ByteArray}{r:List UInt8}: ∀(l:List UInt8)(f i:Nat),zY l=true→s.data.toList.drop i=jh l++34::r→(jh l).length<f→zA s f i=some (i+(jh l).length+1)
 |l,0,i,_,_,hf=>absurd hf (Nat.not_lt_zero _)
 | [],f+1,i,_,hd,_=>by
   have b:=jY (a:= [34]) (r:=r) hd (by simp);simp only[List.length_singleton]at b;have k:=(zj hd).1;unfold zA;rw[if_pos ⟨by omega,by rw[k];decide⟩,if_pos k];rfl
 |c::t,f+1,i,hp,hd,hf=>by
  have d:Qa c=true∧zY t=true:=by unfold zY at hp⊢;rw[List.all_cons,Bool.and_eq_true]at hp;exact hp
  have b:=jY hd (by rw[jh];split<;>simp);by_cases h:c=34∨c=92
  ·rw[jh,if_pos h]at hd hf b⊢
   obtain⟨g,d1⟩:=zj hd;obtain⟨j,d2⟩:=zj d1;simp only[List.length_cons]at hf b;unfold zA;rw[if_pos ⟨by omega,by rw[g];decide⟩,if_neg (by rw[g];decide),if_pos g,QW t f (i+2) d.2 d2 (by omega)];simp only[List.length_cons,Option.some.injEq];omega
  ·rw[jh,if_neg h]at hd hf b⊢
   obtain⟨g,d1⟩:=zj hd;simp only[List.length_cons]at hf b;unfold zA;rw[if_pos ⟨by omega,by rw[g];exact d.1⟩,if_neg (by rw[g];exact fun e=>h (.inl e)),if_neg (by rw[g];exact fun e=>h (.inr e)),QW t f (i+1) d.2 d1 (by omega)];simp only[List.length_cons,Option.some.injEq];omega
theorem qdv{s t:ByteArray}{i:Nat}{r:List UInt8}{line:Int}(hd:s.data.toList.drop i=j8 t.data.toList++r)(hp:zY t.data.toList=true):
 zb s i line=if 4096≤t.size then .bad 105 else .word (j8 t.data.toList).length ⟨3,line,⟨#[]⟩,2,0,t⟩:=by
 have d:=jY hd (by unfold j8;simp);have k0:=(zj (show s.data.toList.drop i=34::(jh t.data.toList++ [34]++r)from hd)).1
 have d1:s.data.toList.drop (i+1)=jh t.data.toList++34::r:=by
  have:=(zj (show s.data.toList.drop i=34::(jh t.data.toList++ [34]++r)from hd)).2
  simpa using this
 have hl:(j8 t.data.toList).length=(jh t.data.toList).length+2:=by unfold j8;simp
 have e:=QW t.data.toList (s.size+1) (i+1) hp d1 (by omega);have a:=kl hd;have hb:=qaQ (s.extract i (i+(j8 t.data.toList).length)) [] t.data.toList 0 hp (by rw[a,List.drop_zero,List.append_nil])
 have hz:(s.extract i (i+(j8 t.data.toList).length)).size=(j8 t.data.toList).length:=by
  have h1: ∀b:ByteArray,b.size=b.data.toList.length:=fun b=>by rw[Array.length_toList];rfl
  rw[h1,a]
 have c:t.data.toList.length=t.size:=by rw[Array.length_toList];rfl
 have h1:zk (34:UInt8)=false:=by decide
 have h2:qt (34:UInt8)=false:=by decide
 have h3:zz (34:UInt8)=false:=by decide
 have h4: ¬(34:UInt8)=35:=by decide
 have f:i+1+(jh t.data.toList).length+1=i+(j8 t.data.toList).length:=by omega
 have g:xH (s.extract i (i+(j8 t.data.toList).length))=if 4096≤t.size then .inl 105 else .inr t:=by
  unfold xH;simp only[hb,hz];rw[if_pos ⟨trivial,by omega⟩,c]
 unfold zb;simp only[k0,h1,h2,h3,h4,Bool.false_eq_true,if_false,if_true,e,f,g];by_cases h:4096≤t.size
 ·simp only[if_pos h]
 ·simp only[if_neg h,Nat.add_sub_cancel_left]
theorem JI{s:ByteArray}{i:Nat}{line:Int}{out:List Tok}(h: ¬i<s.size): ∀f,zT s f i line out= .inr out
 |0=>rfl
 |f+1=>by rw[zT,if_neg h]
theorem ZR{s:ByteArray}{f i n:Nat}{line:Int}{out:List Tok}{t:Tok}(h:i<s.size)(a:pk s i≠10)(b:pk s i≠32)(c:zb s i line= .word n t):zT s (f+1) i line out=zT s f (i+n) line (out++ [t]):=by
 rw[zT,if_pos h,if_neg a,if_neg b,c]
theorem qaX{s:ByteArray}{f i c:Nat}{line:Int}{out:List Tok}(h:i<s.size)(a:pk s i≠10)(b:pk s i≠32)(d:zb s i line= .bad c):zT s (f+1) i line out= .inl (c,line):=by
 rw[zT,if_pos h,if_neg a,if_neg b,d]
theorem qfy{r:List UInt8}(h:Stop r):NoP geB r:=fun c t e=>by
 obtain⟨h1,h2,_⟩:=h c t e;unfold geB;rw[h2,Bool.false_or,beq_eq_false_iff_ne];rintro rfl;exact absurd h1 (by decide)
def Xf(k n:Int)(t:ByteArray):Prop:=qH k n t 0=0∧k≠4∧(k=0→0≤n)∧t.size<4096∧ -9223372036854775808≤n∧n≤9223372036854775807
theorem qdE{k n:Int}{t:ByteArray}(h:Xf k n t): ∃c u,ZN k n t []=c::u∧c≠10∧c≠32:=by
 obtain⟨f,h4,h0,_⟩:=h;rcases qbu f with⟨rfl,_⟩|⟨rfl,_⟩|⟨rfl,_⟩|⟨rfl,g0,g,_⟩|⟨rfl,_⟩
 ·obtain⟨c,u,b,hc⟩:=qbg n
  refine⟨c,u,b,?_,?_⟩
  ·rintro rfl;rcases hc with hc|hc
   ·cases hc
   ·exact absurd hc (by decide)
  ·rintro rfl;rcases hc with hc|hc
   ·cases hc
   ·exact absurd hc (by decide)
 ·exact⟨_,_,rfl,by decide,by decide⟩
 ·exact⟨_,_,rfl,by decide,by decide⟩
 ·obtain⟨j,rfl⟩: ∃j:Nat,n=j:=⟨n.toNat,by omega⟩
  have d:j<15:=by omega
  have a:=KU ⟨j,d⟩;have e:XK (j:Int)=zJ j:=qbq j d
  cases b:(zJ j).data.toList with
  |nil=>rw[show(zJ (⟨j,d⟩:Fin 15).val).data.toList= []from b]at a;cases a
  |cons c tl=>
   rw[show(zJ (⟨j,d⟩:Fin 15).val).data.toList=c::tl from b]at a;injection a with a
   exact⟨c,tl,by show(XK (j:Int)).data.toList=_;rw[e,b],by rw[a];decide,by rw[a];decide⟩
 ·exact absurd rfl h4
theorem qct{s t:ByteArray}{k n:Int}{i:Nat}{r:List UInt8}{line:Int}(h:Xf k n t)(hd:s.data.toList.drop i=ZN k n t []++r)(hr:Stop r):zb s i line= .word (ZN k n t []).length ⟨3,line,⟨#[]⟩,k,n,t⟩:=by
 obtain⟨l,h4,h0,m,f,g⟩:=h;rcases qbu l with⟨rfl,e1,_⟩|⟨rfl,g0,e,e1,_⟩|⟨rfl,rfl,_,hp⟩|⟨rfl,g0,e,e1,_⟩|⟨rfl,_⟩
 ·obtain⟨u,rfl⟩: ∃u:Nat,n=(u:Int):=⟨n.toNat,by have:=h0 rfl;omega⟩
  have b:t=⟨#[]⟩:=ke e1;subst b;have hd':s.data.toList.drop i=decDigits u++r:=by rw[←itoa_nonneg];exact hd
  rw[qco hd' hr,if_neg (by omega)];show WR.word _ _=WR.word (itoa (u:Int)).length _
  rw[itoa_nonneg]
 ·have b:t=⟨#[]⟩:=ke e1
  subst b;have hd':s.data.toList.drop i=35::(itoa n++r):=hd;rw[qcy hd' hr (by omega) (by omega),if_neg (by omega)];show WR.word _ _=WR.word (35::itoa n).length _
  rw[List.length_cons,Nat.add_comm]
 ·have hd':s.data.toList.drop i=j8 t.data.toList++r:=hd
  rw[qdv hd' hp,if_neg (by omega)];rfl
 ·have b:t=⟨#[]⟩:=ke e1
  subst b;obtain⟨j,rfl⟩: ∃j:Nat,n=j:=⟨n.toNat,by omega⟩
  have d:j<15:=by omega
  have c:XK (j:Int)=zJ j:=qbq j d;have hz:(zJ j).data.toList.length=(zJ j).size:=by rw[Array.length_toList];rfl
  have hd':s.data.toList.drop i=(zJ j).data.toList++r:=by rw[←c];exact hd
  have a:=Q2 (kZ hd') hr;rw[hz]at a;rw[qck d hd' (qfy hr),if_neg (by rintro(⟨h,_⟩|⟨h,_⟩);rw[a.1]at h;cases h;rw[a.2.2]at h;cases h)];show WR.word _ _=WR.word (XK (j:Int)).data.toList.length _
  rw[c,hz]
 ·exact absurd rfl h4
def dA:List UInt8:= [57,50,50,51,51,55,50,48,51,54,56,53,52,55,55,53,56,48,56]
def xj(t:Tok):List UInt8:=if t.kind=3 then ZN t.k t.n t.t []else t.s.data.toList
def qdP(l:List UInt8):Prop:= ∃c r,l=c::r∧zk c=true∧(∀x∈l,(zk x||qt x)=true)∧l.length≤32
def Za(t:Tok):Prop:=
 (t.kind=3∧t.s=⟨#[]⟩∧Xf t.k t.n t.t)∨
 ((t.kind=if zi.contains t.s then 2 else 1)∧qdP t.s.data.toList∧t.k=0∧t.n=0∧t.t=⟨#[]⟩)∨
 (t.kind=4∧t.s∈zB∧t.k=0∧t.n=0∧t.t=⟨#[]⟩)
theorem Z9: ∀x∈zB,∃c r,x.data.toList=c::r∧zk c=false∧qt c=false∧zz c=false∧c≠35∧c≠34∧c≠10∧c≠32:=by
 intro x hx;have h: ∀x∈zB,(match x.data.toList with| []=>false|c::_=> !zk c && !qt c && !zz c && c !=35 && c !=34 && c !=10 && c !=32)=true:=by decide+kernel
 have:=h x hx
 cases a:x.data.toList with
 |nil=>rw[a]at this;cases this
 |cons c r=>
  rw[a]at this;simp only[Bool.and_eq_true,Bool.not_eq_true',bne_iff_ne]at this;obtain⟨⟨⟨⟨⟨⟨h1,h2⟩,h3⟩,h4⟩,h5⟩,h6⟩,h7⟩:=this;exact⟨c,r,rfl,h1,h2,h3,h4,h5,h6,h7⟩
theorem qdx{t:Tok}(h:Za t): ∃c r,xj t=c::r∧c≠10∧c≠32:=by
 rcases h with⟨hk,_,hl⟩|⟨hk,⟨c,r,hc,hs,_,_⟩,_⟩|⟨hk,hs,_⟩
 ·unfold xj;rw[if_pos hk];exact qdE hl
 ·have a:t.kind≠3:=by rw[hk];split<;>decide
  unfold xj;rw[if_neg a];refine⟨c,r,hc,?_,?_⟩<;>(rintro rfl;revert hs;decide)
 ·have a:t.kind≠3:=by rw[hk];decide
  unfold xj;rw[if_neg a];obtain⟨c,r,hc,_,_,_,_,_,h1,h2⟩:=Z9 t.s hs;exact⟨c,r,hc,h1,h2⟩
theorem JW(s:ByteArray)(p:UInt8→Bool): ∀(f i:Nat),i≤s.size→ ∃a r,s.data.toList.drop i=a++r∧a.length=xp s p f i∧ ∀c∈a,p c=true
 |0,i,h=>⟨[],_,rfl,rfl,fun c hc=>by cases hc⟩
 |f+1,i,h=>by
  by_cases hc:i<s.size∧p (pk s i)=true
  ·obtain⟨a,r,h1,h2,h3⟩:=JW s p f (i+1) (by omega)
   have hz:s.data.toList.length=s.size:=by rw[Array.length_toList];rfl
   have hd:s.data.toList.drop i=s.data.toList[i]'(by rw[hz];exact hc.1)::s.data.toList.drop (i+1):=List.drop_eq_getElem_cons (by rw[hz];exact hc.1);have hp:=(zj hd).1;refine⟨pk s i::a,r,?_,?_,?_⟩
   ·rw[hd, ←hp,h1];rfl
   ·rw[xp,if_pos hc,List.length_cons,h2]
   ·intro c hm
    rcases List.mem_cons.1 hm with rfl|hm
    ·exact hc.2
    ·exact h3 c hm
  ·exact⟨[],_,rfl,by rw[xp,if_neg hc];rfl,fun c hc=>by cases hc⟩
theorem QV(s:ByteArray): ∀(f i j:Nat),zA s f i=some j→i<j∧j≤s.size
 |0,i,j,h=>by cases h
 |f+1,i,j,h=>by
  rw[zA]at h;split at h
  ·rename_i hc
   split at h
   ·injection h with h;omega
   ·split at h
    ·have:=QV s f _ _ h;omega
    ·have:=QV s f _ _ h;omega
  ·cases h
theorem J2: ∀(l:List UInt8)(acc:Nat),(∀c∈l,QE c=true)→acc≤18446744073709551615→18446744073709551615<ja acc l→parseUintM 18446744073709551615 acc l= .range
 | [],acc,_,h0,h=>by rw[kH]at h;omega
 |c::r,acc,hd,h0,h=>by
  have hc:=xE.1 (hd c (by simp));rw[jO,QQ]at h;rw[parseUintM,if_pos hc];by_cases h1:1844674407370955162≤acc
  ·rw[if_pos h1]
  ·rw[if_neg h1]
   by_cases h2:18446744073709551615<acc*10+(c.toNat-48)
   ·rw[if_pos h2]
   ·rw[if_neg h2]
    exact J2 r _ (fun x hx=>hd x (by simp[hx])) (by omega) h
theorem XS{l:List UInt8}(hd: ∀c∈l,QE c=true)(b:l≠ []):parseIntB 64 l=if 9223372036854775807<ja 0 l then .range else .ok (ja 0 l:Int):=by
 obtain⟨a,r,rfl⟩: ∃a r,l=a::r:=by cases l with|nil=>exact absurd rfl b|cons a r=>exact⟨a,r,rfl⟩
 have ha:=xE.1 (hd a (by simp));unfold parseIntB parseUintB;simp only;rw[if_neg (show ¬(a.toNat=43∨a.toNat=45)by omega)];simp only[if_neg b];rw[show(2:Nat) ^ 64-1=18446744073709551615 from by decide];by_cases hb:18446744073709551615<ja 0 (a::r)
 ·rw[J2 _ 0 hd (by omega) hb,if_pos (by omega)]
 ·rw[Q7 _ 0 hd (by omega)]
  simp only;by_cases h2:9223372036854775807<ja 0 (a::r)
  ·rw[if_pos h2,if_pos (by omega)]
  ·rw[if_neg h2,if_neg (by omega),if_neg (by omega),if_neg (by omega)]
theorem qe4(s:ByteArray)(p:UInt8→Bool)(i:Nat)(h:i≤s.size): ∀c∈(s.extract i (i+run s p i)).data.toList,p c=true:=by
 obtain⟨a,r,h1,h2,h3⟩:=JW s p (s.size+1) i h;intro c hc;rw[show run s p i=a.length from h2.symm,kl h1]at hc;exact h3 c hc
theorem Ku(s:ByteArray)(p:UInt8→Bool)(i:Nat)(h:i≤s.size):(s.extract i (i+run s p i)).size=run s p i:=by
 have:=QY s p i h;rw[ByteArray.size_extract];omega
theorem XZ(s:ByteArray)(n i:Nat)(h1:1≤n)(h:i+n≤s.size):pk (s.extract i (i+n)) 0=pk s i:=by
 unfold pk;rw[ByteArray.data_extract,Array.toList_extract,List.extract_eq_take_drop,List.getD_eq_getElem?_getD,List.getD_eq_getElem?_getD,List.getElem?_take_of_lt (by omega),List.getElem?_drop,Nat.add_zero]
def DgRes(ea:Nat→Addr)(B:Nat)(line:Int)(r:Nat ⊕ (Int×Nat))(e:Ending)(w':World):Prop:=match r with
 | .inl c=> ∃A,B≤A∧w'.heap[A]?=some (.cells #[.int .i64 line,.iface 270 (.pointer (some (ea c)))] 73 (0,0))∧e= .returned (.tuple #[.int .i64 0,.int .i64 0,.iface 70 (.pointer (some ⟨A,0,none⟩))])
 | .inr (v,n)=>e= .returned (.tuple #[.int .i64 v,.int .i64 n,.nilIface])
theorem DgRes.mkBad{ea:Nat→Addr}{c:Nat}{line:Int}{r:Nat ⊕ (Int×Nat)}{w a:World}(hr:r= .inl c)(hb:Below w.heap.size w a):
 DgRes ea w.heap.size line r (.returned (.tuple #[.int .i64 0,.int .i64 0,.iface 70 (.pointer (some ⟨a.heap.size,0,none⟩))])) (a.alloc (.cells #[.int .i64 line,.iface 270 (.pointer (some (ea c)))] 73))∧
 Below w.heap.size w (a.alloc (.cells #[.int .i64 line,.iface 270 (.pointer (some (ea c)))] 73)):=by
 subst hr;exact⟨⟨_,hb.size,heap_alloc_new a _,rfl⟩,hb.alloc hb.size _⟩
theorem DgRes.mkOk{ea:Nat→Addr}{B n:Nat}{v line:Int}{r:Nat ⊕ (Int×Nat)}{w':World}(hr:r= .inr (v,n)):DgRes ea B line r (.returned (.tuple #[.int .i64 v,.int .i64 n,.nilIface])) w':=by
 subst hr;exact rfl
theorem QB(R:Nat)(s:ByteArray)(G:Nat)(line:Int)(v:Value)(i:Nat)(ea:Nat→Addr)(w:World)(ha:LxAt w R s G line v)(he:LxEnv w ea)(hi:i≤s.size)(hs:s.size≤1000000000)(hR:24≤R):
 Calls Tryz.prog 120 #[.pointer (some ⟨R,0,none⟩),.int .i64 i] w fun e w'=>DgRes ea w.heap.size line (jF s i) e w'∧Below w.heap.size w w':=by
 have K:=ha.lt;have hc0:=ha.c0;have I:=hid (qaH _ _ XC qce R s G line v i w ha hi hs);obtain⟨n,hn⟩: ∃n,n=run s qt i:=⟨_,rfl⟩
 have hn2:i+n≤s.size:=by rw[hn];exact QY s _ i hi
 obtain⟨sub,u⟩: ∃sub,sub=s.extract i (i+n):=⟨_,rfl⟩
 have C: ∀c∈sub.data.toList,qt c=true:=by rw[u,hn];exact qe4 s qt i hi
 have O:sub.size=n:=by rw[u,hn];exact Ku s qt i hi
 obtain⟨r,hr⟩: ∃r,r=jF s i:=⟨_,rfl⟩
 have U:Hid (r=if n=0∨(1<n∧pk s i=48)∨(i+n<s.size∧(zk (pk s (i+n))=true∨zz (pk s (i+n))=true))then .inl 111
  else if 9223372036854775807<ja 0 sub.data.toList then .inl 105 else .inr (ja 0 sub.data.toList,n)):=by rw[hr,u,hn];rfl
 rw[←hr];rw[←hn]at I;have J:=hid ha;have X:=hid he;have e1:=he.err.syn;have e2:=he.err.range;have Y:=hid u;have HSZ:=hid O;obtain⟨g1,g2,g3⟩:=Jf i n (by omega);have hdz:(i:Int)+(n:Int)≤(s.size:Int):=by omega
 have hdw:(i:Int)≤(i:Int)+(n:Int):=by omega
 clear hr hn he ha u;by_cases h0:n=0
 ·have l:=hid (U.out.trans (if_pos (.inl h0)))
  have hz:(((n:Nat):Int)==0)=true:=by subst h0;rfl
  clear U h0 O C;go_enter Tryz.func120,Tryz.ntmps120
  go_wp2_with fail
  refine I.out.mono ?_;rintro e P ⟨rfl,E,rfl⟩;go_wp2_with fail
  refine(zK R s G line v _ _ (by exact J.out)).mono ?_;rintro e w2 ⟨rfl,rfl⟩;go_wp2_with fail
  go_returns
  exact DgRes.mkBad l.out ⟨rfl,rfl,rfl,Nat.le_refl _,fun _ _=>rfl⟩
 have h1:1≤n:=by omega
 have hz:(((n:Nat):Int)==0)=false:=by rw[beq_eq_false_iff_ne];omega
 have L:pk (s.extract i (i+n)) 0=pk s i:=XZ s n i h1 hn2;have hp0:(0:Nat)<(s.extract i (i+n)).size:=by rw[←Y.out];omega
 have M:=qK (s.extract i (i+n)) 0 hp0;have hz0:(0:Int)<((s.extract i (i+n)).size:Int):=by omega
 by_cases S:1<n∧pk s i=48
 ·have l:=hid (U.out.trans (if_pos (.inr (.inl S))))
  have aa:decide ((1:Int)<(n:Int))=true:=by simp;omega
  have hgt':decide ((n:Int)>1)=true:=by simp;omega
  have h48:((((s.extract i (i+n))[0]'hp0).toNat:Int)==48)=true:=by rw[←M,L,S.2];rfl
  clear U h0 O C L M S;go_enter Tryz.func120,Tryz.ntmps120
  go_wp2_with fail
  refine I.out.mono ?_;rintro e P ⟨rfl,E,rfl⟩;go_wp2_with fail
  refine(zK R s G line v _ _ (by exact J.out)).mono ?_;rintro e w2 ⟨rfl,rfl⟩;go_wp2_with fail
  go_returns
  exact DgRes.mkBad l.out ⟨rfl,rfl,rfl,Nat.le_refl _,fun _ _=>rfl⟩
 have hlo:(n=1)∨(1<n∧((((s.extract i (i+n))[0]'hp0).toNat:Int)==48)=false):=by
  rcases Nat.lt_or_ge 1 n with h|h
  ·refine .inr ⟨h,?_⟩
   rw[beq_eq_false_iff_ne, ←M,L];intro e;exact S ⟨h,UInt8.toNat_inj.1 (by show(pk s i).toNat=48;omega)⟩
  ·exact .inl (by omega)
 have hBn: ¬(n=0∨(1<n∧pk s i=48)):=by rintro(h|h);exact h0 h;exact S h
 have B:r=if i+n<s.size∧(zk (pk s (i+n))=true∨zz (pk s (i+n))=true)then .inl 111
  else if 9223372036854775807<ja 0 sub.data.toList then .inl 105 else .inr (ja 0 sub.data.toList,n):=by
  rw[U.out];by_cases hc:i+n<s.size∧(zk (pk s (i+n))=true∨zz (pk s (i+n))=true)
  ·rw[if_pos hc,if_pos (.inr (.inr hc))]
  ·rw[if_neg hc,if_neg (by rintro(h|h|h);exact h0 h;exact S h;exact hc h)]
 have ab:sub.data.toList≠ []:=by
  intro e;have:sub.size=0:=by rw[ByteArray.size, ←Array.length_toList,e];rfl
  omega
 have D:=XS (fun c hc=>by rw[←kU];exact C c hc) ab;obtain⟨V,hV⟩: ∃V:Nat,V=ja 0 sub.data.toList:=⟨_,rfl⟩
 rw[←hV]at B D;have f:=hid B
 have F:Hid (∀W,Below w.heap.size w W→Calls Tryz.prog 156 #[.string sub,.int .i64 10,.int .i64 64] W fun e w'=>Below w.heap.size w w'∧
  ((9223372036854775807<V∧ ∃x N,e= .returned (.tuple #[.int .i64 x,.iface 232 (.pointer (some ⟨N,0,none⟩))]))∨
   (¬9223372036854775807<V∧e= .returned (.tuple #[.int .i64 (V),.nilIface])))):=by
  intro W Z;by_cases a:9223372036854775807<V
  ·rw[if_pos a]at D
   obtain⟨te,pe,hv⟩:=(X.out.str.below Z (Nat.le_refl _)).rng;refine(Tryz.strconv_ParseInt_10_at64_range sub (by omega) D _ W hv (.inr ⟨te,pe,rfl⟩)).mono ?_;rintro e w' ⟨N,h1,_,_,h4⟩;exact⟨Z.trans (qc h4 Z.size),.inl ⟨a,_,N,h1⟩⟩
  ·rw[if_neg a]at D
   refine(Tryz.strconv_ParseInt_10_at64_ok sub (by omega) _ D W).mono ?_;rintro e w' ⟨h1,hw⟩;refine⟨Z.trans (qc ?_ Z.size),.inr ⟨a,h1⟩⟩;rcases hw with rfl|⟨t,rfl⟩
   ·exact Below.refl _ _
   ·exact bytesWorld_below _ _ _
 clear hV B U C L M S hBn D ab O;rcases hlo with Q|⟨Q,h48⟩
 ·have aa:decide ((1:Int)<(n:Int))=false:=by simp;omega
  have hgt':decide ((n:Int)>1)=false:=by simp;omega
  have hle1:(n:Int)≤1:=by omega
  clear Q;by_cases b:i+n<s.size
  ·have T:decide ((i:Int)+(n:Int)<(s.size:Int))=true:=by simp;omega
   have hdy:(i:Int)+(n:Int)<(s.size:Int):=by omega
   have SC:=hid (fun W=>by have:=kD (pk s (i+n)) W;rw[qK s (i+n) b]at this;exact this);have H:=hid (fun W=>by have:=xL (pk s (i+n)) W;rw[qK s (i+n) b]at this;exact this)
   cases j:zk (pk s (i+n))with
   |true=>
    have l:=hid (f.out.trans (if_pos ⟨b,.inl j⟩));rw[←qK s (i+n) b,j,qK s (i+n) b]at SC;clear f j F H h0;go_enter Tryz.func120,Tryz.ntmps120
    go_wp2_with fail
    refine I.out.mono ?_;rintro e P ⟨rfl,E,rfl⟩;go_wp2_with fail
    refine(SC.out _).mono ?_;rintro e w2 ⟨rfl,rfl⟩;go_wp2_with fail
    refine(zK R s G line v _ _ (by exact J.out)).mono ?_;rintro e w2 ⟨rfl,rfl⟩;go_wp2_with fail
    go_returns
    exact DgRes.mkBad l.out ⟨rfl,rfl,rfl,Nat.le_refl _,fun _ _=>rfl⟩
   |false=>
    rw[←qK s (i+n) b,j,qK s (i+n) b]at SC
    cases k:zz (pk s (i+n))with
    |true=>
     have l:=hid (f.out.trans (if_pos ⟨b,.inr k⟩));rw[←qK s (i+n) b,k,qK s (i+n) b]at H;clear f j k F h0;go_enter Tryz.func120,Tryz.ntmps120
     go_wp2_with fail
     refine I.out.mono ?_;rintro e P ⟨rfl,E,rfl⟩;go_wp2_with fail
     refine(SC.out _).mono ?_;rintro e w2 ⟨rfl,rfl⟩;go_wp2_with fail
     refine(H.out _).mono ?_;rintro e w2 ⟨rfl,rfl⟩;go_wp2_with fail
     refine(zK R s G line v _ _ (by exact J.out)).mono ?_;rintro e w2 ⟨rfl,rfl⟩;go_wp2_with fail
     go_returns
     exact DgRes.mkBad l.out ⟨rfl,rfl,rfl,Nat.le_refl _,fun _ _=>rfl⟩
    |false=>
     have l:=hid (f.out.trans (if_neg (by rintro⟨_,h|h⟩;rw[j]at h;cases h;rw[k]at h;cases h)));rw[←qK s (i+n) b,k,qK s (i+n) b]at H;clear f j k h0;go_enter Tryz.func120,Tryz.ntmps120
     go_wp2_with fail
     refine I.out.mono ?_;rintro e P ⟨rfl,E,rfl⟩;go_wp2_with fail
     refine(SC.out _).mono ?_;rintro e w2 ⟨rfl,rfl⟩;go_wp2_with fail
     refine(H.out _).mono ?_;rintro e w2 ⟨rfl,rfl⟩;go_wp2_with fail
     have g:=F.out (w.drewN E) ⟨rfl,rfl,rfl,Nat.le_refl _,fun _ _=>rfl⟩;have m:=l.out;rw[Y.out]at g;have A:=hid g;have o:=hid m;clear F g m l;refine A.out.mono ?_;rintro e w3 ⟨d,q⟩;have p:=hid d;have e4:=(X.out.below d (by omega)).err.range;have y:=hid (J.out.below d K);rcases q with⟨a,x,N,rfl⟩|⟨a,rfl⟩
     ·have z:=hid (o.out.trans (if_pos a))
      clear d a A e1 e2;go_wp2_with fail
      refine(zK R s G line v _ _ (by exact y.out)).mono ?_;rintro e w2 ⟨rfl,rfl⟩;go_wp2_with fail
      go_returns
      exact DgRes.mkBad z.out p.out
     ·have z:=hid (o.out.trans (if_neg a))
      clear d a A e1 e2;go_wp2_with fail
      go_returns
      exact⟨DgRes.mkOk z.out,p.out⟩
  ·have T:decide ((i:Int)+(n:Int)<(s.size:Int))=false:=by simp;omega
   have l:=hid (f.out.trans (if_neg (fun h=>b h.1)));clear f h0;go_enter Tryz.func120,Tryz.ntmps120
   go_wp2_with fail
   refine I.out.mono ?_;rintro e P ⟨rfl,E,rfl⟩;go_wp2_with fail
   have g:=F.out (w.drewN E) ⟨rfl,rfl,rfl,Nat.le_refl _,fun _ _=>rfl⟩;have m:=l.out;rw[Y.out]at g;have A:=hid g;have o:=hid m;clear F g m l;refine A.out.mono ?_;rintro e w3 ⟨d,q⟩;have p:=hid d;have e4:=(X.out.below d (by omega)).err.range;have y:=hid (J.out.below d K);rcases q with⟨a,x,N,rfl⟩|⟨a,rfl⟩
   ·have z:=hid (o.out.trans (if_pos a))
    clear d a A e1 e2;go_wp2_with fail
    refine(zK R s G line v _ _ (by exact y.out)).mono ?_;rintro e w2 ⟨rfl,rfl⟩;go_wp2_with fail
    go_returns
    exact DgRes.mkBad z.out p.out
   ·have z:=hid (o.out.trans (if_neg a))
    clear d a A e1 e2;go_wp2_with fail
    go_returns
    exact⟨DgRes.mkOk z.out,p.out⟩
 ·have aa:decide ((1:Int)<(n:Int))=true:=by simp;omega
  have hgt':decide ((n:Int)>1)=true:=by simp;omega
  by_cases b:i+n<s.size
  ·have T:decide ((i:Int)+(n:Int)<(s.size:Int))=true:=by simp;omega
   have hdy:(i:Int)+(n:Int)<(s.size:Int):=by omega
   have SC:=hid (fun W=>by have:=kD (pk s (i+n)) W;rw[qK s (i+n) b]at this;exact this);have H:=hid (fun W=>by have:=xL (pk s (i+n)) W;rw[qK s (i+n) b]at this;exact this)
   cases j:zk (pk s (i+n))with
   |true=>
    have l:=hid (f.out.trans (if_pos ⟨b,.inl j⟩));rw[←qK s (i+n) b,j,qK s (i+n) b]at SC;clear f j F H h0;go_enter Tryz.func120,Tryz.ntmps120
    go_wp2_with fail
    refine I.out.mono ?_;rintro e P ⟨rfl,E,rfl⟩;go_wp2_with fail
    refine(SC.out _).mono ?_;rintro e w2 ⟨rfl,rfl⟩;go_wp2_with fail
    refine(zK R s G line v _ _ (by exact J.out)).mono ?_;rintro e w2 ⟨rfl,rfl⟩;go_wp2_with fail
    go_returns
    exact DgRes.mkBad l.out ⟨rfl,rfl,rfl,Nat.le_refl _,fun _ _=>rfl⟩
   |false=>
    rw[←qK s (i+n) b,j,qK s (i+n) b]at SC
    cases k:zz (pk s (i+n))with
    |true=>
     have l:=hid (f.out.trans (if_pos ⟨b,.inr k⟩));rw[←qK s (i+n) b,k,qK s (i+n) b]at H;clear f j k F h0;go_enter Tryz.func120,Tryz.ntmps120
     go_wp2_with fail
     refine I.out.mono ?_;rintro e P ⟨rfl,E,rfl⟩;go_wp2_with fail
     refine(SC.out _).mono ?_;rintro e w2 ⟨rfl,rfl⟩;go_wp2_with fail
     refine(H.out _).mono ?_;rintro e w2 ⟨rfl,rfl⟩;go_wp2_with fail
     refine(zK R s G line v _ _ (by exact J.out)).mono ?_;rintro e w2 ⟨rfl,rfl⟩;go_wp2_with fail
     go_returns
     exact DgRes.mkBad l.out ⟨rfl,rfl,rfl,Nat.le_refl _,fun _ _=>rfl⟩
    |false=>
     have l:=hid (f.out.trans (if_neg (by rintro⟨_,h|h⟩;rw[j]at h;cases h;rw[k]at h;cases h)));rw[←qK s (i+n) b,k,qK s (i+n) b]at H;clear f j k h0;go_enter Tryz.func120,Tryz.ntmps120
     go_wp2_with fail
     refine I.out.mono ?_;rintro e P ⟨rfl,E,rfl⟩;go_wp2_with fail
     refine(SC.out _).mono ?_;rintro e w2 ⟨rfl,rfl⟩;go_wp2_with fail
     refine(H.out _).mono ?_;rintro e w2 ⟨rfl,rfl⟩;go_wp2_with fail
     have g:=F.out (w.drewN E) ⟨rfl,rfl,rfl,Nat.le_refl _,fun _ _=>rfl⟩;have m:=l.out;rw[Y.out]at g;have A:=hid g;have o:=hid m;clear F g m l;refine A.out.mono ?_;rintro e w3 ⟨d,q⟩;have p:=hid d;have e4:=(X.out.below d (by omega)).err.range;have y:=hid (J.out.below d K);rcases q with⟨a,x,N,rfl⟩|⟨a,rfl⟩
     ·have z:=hid (o.out.trans (if_pos a))
      clear d a A e1 e2;go_wp2_with fail
      refine(zK R s G line v _ _ (by exact y.out)).mono ?_;rintro e w2 ⟨rfl,rfl⟩;go_wp2_with fail
      go_returns
      exact DgRes.mkBad z.out p.out
     ·have z:=hid (o.out.trans (if_neg a))
      clear d a A e1 e2;go_wp2_with fail
      go_returns
      exact⟨DgRes.mkOk z.out,p.out⟩
  ·have T:decide ((i:Int)+(n:Int)<(s.size:Int))=false:=by simp;omega
   have l:=hid (f.out.trans (if_neg (fun h=>b h.1)));clear f h0;go_enter Tryz.func120,Tryz.ntmps120
   go_wp2_with fail
   refine I.out.mono ?_;rintro e P ⟨rfl,E,rfl⟩;go_wp2_with fail
   have g:=F.out (w.drewN E) ⟨rfl,rfl,rfl,Nat.le_refl _,fun _ _=>rfl⟩;have m:=l.out;rw[Y.out]at g;have A:=hid g;have o:=hid m;clear F g m l;refine A.out.mono ?_;rintro e w3 ⟨d,q⟩;have p:=hid d;have e4:=(X.out.below d (by omega)).err.range;have y:=hid (J.out.below d K);rcases q with⟨a,x,N,rfl⟩|⟨a,rfl⟩
   ·have z:=hid (o.out.trans (if_pos a))
    clear d a A e1 e2;go_wp2_with fail
    refine(zK R s G line v _ _ (by exact y.out)).mono ?_;rintro e w2 ⟨rfl,rfl⟩;go_wp2_with fail
    go_returns
    exact DgRes.mkBad z.out p.out
   ·have z:=hid (o.out.trans (if_neg a))
    clear d a A e1 e2;go_wp2_with fail
    go_returns
    exact⟨DgRes.mkOk z.out,p.out⟩
inductive El where
 |w (t:Tok)
 |b (c:UInt8)
def zw:List El→List UInt8
 | []=> []
 | .w t::l=>xj t++zw l
 | .b c::l=>c::zw l
def JM:List El→Nat
 | []=>0
 | .w _::l=>JM l
 | .b c::l=>(if c=10 then 1 else 0)+JM l
def jD(line:Int):List El→List Tok
 | []=> []
 | .w t::l=>{t with line:=line}::jD line l
 | .b c::l=>jD (line+(if c=10 then 1 else 0)) l
theorem Ju: ∀a b:List El,zw (a++b)=zw a++zw b
 | [],_=>rfl
 | .w t::l,b=>by rw[List.cons_append,zw,zw,Ju l b,List.append_assoc]
 | .b c::l,b=>by rw[List.cons_append,zw,zw,Ju l b];rfl
def QS(y:ByteArray)(c:UInt8):Bool:=zB.any fun x=>(y.data.toList++ [c]).isPrefixOf x.data.toList
def xO(t:Tok)(r:List UInt8):Prop:=if t.kind=4 then ∀c u,r=c::u→QS t.s c=false else Stop r
def jU(r:List UInt8):List El→Prop
 | []=>True
 | .w t::l=>Za t∧xO t (zw l++r)∧jU r l
 | .b c::l=>(c=10∨c=32)∧jU r l
theorem Jm{r:List UInt8}: ∀{a b:List El},jU (zw b++r) a→jU r b→jU r (a++b)
 | [],b,_,h=>h
 | .w t::l,b,⟨h1,h2,h3⟩,h=>⟨h1,by show xO t (zw (l++b)++r);rw[Ju,List.append_assoc];exact h2,Jm h3 h⟩
 | .b c::l,b,⟨h1,h3⟩,h=>⟨h1,Jm h3 h⟩
theorem XU{x y:ByteArray}{r:List UInt8}(hx:x∈zB)(hr: ∀c u,r=c::u→QS y c=false)(h:x.data.toList.isPrefixOf (y.data.toList++r)=true):x.size≤y.size:=by
 have hz: ∀b:ByteArray,b.data.toList.length=b.size:=fun b=>by rw[Array.length_toList];rfl
 rw[List.isPrefixOf_iff_prefix]at h;rcases Nat.lt_or_ge y.size x.size with e|hge
 ·exfalso
  have f:y.data.toList<+:x.data.toList:=List.prefix_of_prefix_length_le (List.prefix_append _ _) h (by rw[hz,hz];omega);obtain⟨u,a⟩:=f;rw[←a]at h;have h2:=(List.prefix_append_right_inj _).1 h
  cases u with
  |nil=>have:=congrArg List.length a;rw[List.length_append,hz,hz,List.length_nil]at this;omega
  |cons c u=>
   cases r with
   |nil=>exact absurd h2.length_le (by simp)
   |cons d t=>
    rw[List.cons_prefix_cons]at h2;obtain⟨rfl,_⟩:=h2;have:=hr c t rfl;unfold QS at this;rw[List.any_eq_false]at this;apply this x hx
    rw[List.isPrefixOf_iff_prefix, ←a];exact⟨u,by simp⟩
 ·exact hge
theorem xh{s:ByteArray}{i:Nat}{y:ByteArray}{r:List UInt8}(hd:s.data.toList.drop i=y.data.toList++r)(hr: ∀c u,r=c::u→QS y c=false)(d:0<y.size): ∀(l:List ByteArray)(b:ByteArray),(∀x∈l,x∈zB)→(b.size<y.size∧y∈l∨b=y)→jn s i l b=y
 | [],b,_,h=>by
   rcases h with⟨_,h⟩|h
   ·cases h
   ·rw[jn,h]
 |x::l,b,hl,h=>by
  have hz: ∀b:ByteArray,b.data.toList.length=b.size:=fun b=>by rw[Array.length_toList];rfl
  have hx:=hl x (by simp);rw[jn];by_cases hp:x.data.toList.isPrefixOf (s.data.toList.drop i)=true
  ·have hp':=hp
   rw[hd]at hp';have g:=XU hx hr hp';by_cases a:b.size<x.size
   ·rw[if_pos ⟨a,hp⟩]
    by_cases f:x.size=y.size
    ·have:x=y:=by
      rw[List.isPrefixOf_iff_prefix]at hp';obtain⟨u,j⟩:=hp';apply Zd
      have:=congrArg (List.take y.size) j;rw[List.take_append_of_le_length (by rw[hz];omega),List.take_append_of_le_length (by rw[hz];exact Nat.le_refl _),List.take_of_length_le (by rw[hz];omega),List.take_of_length_le (by rw[hz];exact Nat.le_refl _)]at this;exact this
     exact xh hd hr d l x (fun z hz=>hl z (by simp[hz])) (.inr this)
    ·refine xh hd hr d l x (fun z hz=>hl z (by simp[hz])) (.inl ⟨by omega,?_⟩)
     rcases h with⟨_,h⟩|h
     ·rcases List.mem_cons.1 h with e|e
      ·exact absurd (by rw[e]) f
      ·exact e
     ·rw[h]at a;omega
   ·rw[if_neg (fun hc=>a hc.1)]
    refine xh hd hr d l b (fun z hz=>hl z (by simp[hz])) ?_;rcases h with⟨h1,h2⟩|h
    ·rcases List.mem_cons.1 h2 with e|e
     ·rw[←e]at a;exact absurd h1 a
     ·exact .inl ⟨h1,e⟩
    ·exact .inr h
  ·rw[if_neg (fun hc=>hp hc.2)]
   refine xh hd hr d l b (fun z hz=>hl z (by simp[hz])) ?_;rcases h with⟨h1,h2⟩|h
   ·rcases List.mem_cons.1 h2 with e|e
    ·exfalso
     apply hp
     rw[hd, ←e,List.isPrefixOf_iff_prefix];exact⟨r,rfl⟩
    ·exact .inl ⟨h1,e⟩
   ·exact .inr h
theorem qbU{s:ByteArray}{i:Nat}{t:Tok}{r:List UInt8}(line:Int)(h:Za t)(hd:s.data.toList.drop i=xj t++r)(hr:xO t r):zb s i line= .word (xj t).length {t with line:=line}:=by
 have hz: ∀b:ByteArray,b.data.toList.length=b.size:=fun b=>by rw[Array.length_toList];rfl
 obtain⟨a,ln,ts,k,n,B⟩:=t;unfold xO at hr;rcases h with⟨h3,hs,hl⟩|⟨hk,⟨c,u,hc,z,d,l⟩,h1,h2,h3⟩|⟨hk,hs,h1,h2,h3⟩
 ·simp only at h3 hs hl
  subst h3;subst hs;rw[if_neg (show ¬(3:Int)=4 by decide)]at hr;have e:xj ⟨3,ln,⟨#[]⟩,k,n,B⟩=ZN k n B []:=by unfold xj;rw[if_pos rfl]
  rw[e]at hd⊢;exact qct hl hd hr
 ·simp only at hk hc d l h1 h2 h3
  subst h1;subst h2;subst h3;have m:a≠3:=by rw[hk];split<;>decide
  have o:a≠4:=by rw[hk];split<;>decide
  rw[if_neg o]at hr;have e:xj ⟨a,ln,ts,0,0,⟨#[]⟩⟩=ts.data.toList:=by unfold xj;rw[if_neg m]
  rw[e]at hd⊢;have q:ts.data.toList≠ []:=by rw[hc];simp
  have hp:pk s i=c:=by rw[hc]at hd;exact(zj hd).1
  have g:run s (fun c=>zk c||qt c) i=ts.data.toList.length:=QZ (fun x v A=>by rw[(hr x v A).1,(hr x v A).2.2];rfl) d hd q;have j:s.extract i (i+ts.data.toList.length)=ts:=Zd (kl hd);have w:=Q2 (kZ hd) hr;unfold zb;simp only[hp,z,if_true,g,j];rw[if_neg (by rintro(h|⟨_,h⟩);omega;rw[w.2.1]at h;cases h), ←hk]
 ·simp only at hk hs h1 h2 h3
  subst hk;subst h1;subst h2;subst h3;rw[if_pos rfl]at hr;have e:xj ⟨4,ln,ts,0,0,⟨#[]⟩⟩=ts.data.toList:=by unfold xj;rw[if_neg (show ¬(4:Int)=3 by decide)]
  rw[e]at hd⊢;obtain⟨c,u,hc,C,D,E,F,G,H,I⟩:=Z9 ts hs;have hp:pk s i=c:=by rw[hc]at hd;exact(zj hd).1
  have f:0<ts.size:=by rw[←hz,hc];simp
  have y:=xh hd hr f zB ⟨#[]⟩ (fun x hx=>hx) (.inl ⟨f,hs⟩);have p: ¬ts.size=0:=by omega
  unfold zb;simp only[hp,C,D,E,F,G,Bool.false_eq_true,if_false,y,p,hz]
theorem kS{s:ByteArray}{r:List UInt8}: ∀(l:List El)(f i:Nat)(line:Int)(out:List Tok),jU r l→s.data.toList.drop i=zw l++r→(zw l).length≤f→
 ∃g,f≤g+(zw l).length∧zT s f i line out=zT s g (i+(zw l).length) (line+JM l) (out++jD line l)
 | [],f,i,line,out,_,_,_=>⟨f,by simp,by simp[zw,JM,jD]⟩
 | .w t::l,f,i,line,out,⟨h1,h2,h3⟩,hd,hf=>by
   obtain⟨c,u,hc,j,k⟩:=qdx h1;rw[zw,List.append_assoc]at hd;rw[zw,List.length_append]at hf;have m:xj t≠ []:=by rw[hc];simp
   have n:0<(xj t).length:=by rw[hc];simp
   have o:=jY hd m;have hp:pk s i=c:=by rw[hc]at hd;exact(zj hd).1
   obtain⟨g,rfl⟩: ∃g,f=g+1:=⟨f-1,by omega⟩
   obtain⟨d,hg,e⟩:=kS l g (i+(xj t).length) line (out++ [{t with line:=line}]) h3 (kZ hd) (by omega);refine⟨d,by rw[zw,List.length_append];omega,?_⟩;rw[ZR (t:={t with line:=line}) (by omega) (by rw[hp];exact j) (by rw[hp];exact k) (qbU _ h1 hd h2),e,zw,JM,jD,List.length_append,List.append_assoc,Nat.add_assoc];rfl
 | .b c::l,f,i,line,out,⟨h1,h3⟩,hd,hf=>by
   rw[zw]at hf hd;have h:i<s.size:=by have:=jY (a:=c::(zw l++r)) (r:= []) (by simpa using hd) (by simp);simp at this;omega
   have hp:=zj hd;obtain⟨g,rfl⟩: ∃g,f=g+1:=⟨f-1,by simp at hf;omega⟩
   rcases h1 with rfl|rfl
   ·obtain⟨d,hg,e⟩:=kS l g (i+1) (line+1) out h3 hp.2 (by simp at hf;omega)
    refine⟨d,by rw[zw,List.length_cons];omega,?_⟩;rw[zT,if_pos h,hp.1,if_pos rfl,e,zw,JM,jD,List.length_cons,if_pos rfl,if_pos rfl]
    congr 1<;>omega
   ·obtain⟨d,hg,e⟩:=kS l g (i+1) line out h3 hp.2 (by simp at hf;omega)
    refine⟨d,by rw[zw,List.length_cons];omega,?_⟩;rw[zT,if_pos h,hp.1,if_neg (by decide),if_pos rfl,e,zw,JM,jD,List.length_cons,if_neg (by decide),if_neg (by decide)]
    congr 1
    ·omega
    ·omega
    ·simp
theorem qb6{s:ByteArray}{l:List El}(h:jU [] l)(hs:s.data.toList=zw l):xP s= .inr (jD 1 l):=by
 have hz:s.data.toList.length=s.size:=by rw[Array.length_toList];rfl
 obtain⟨g,hg,e⟩:=kS (s:=s) (r:= []) l (s.size+1) 0 1 [] h (by simpa using hs) (by rw[←hs,hz];omega);unfold xP;rw[e,JI (by rw[←hs,hz];omega)];simp
structure N1 where
 op:Int
 ln:Int
 s:ByteArray
 k:Int
 n:Int
 t:ByteArray
 v:VL
 sub:NL
def km:List N1→NL
 | []=> .nil
 |x::l=> .cons x.op x.ln x.s x.k x.n x.t x.v x.sub (km l)
theorem KW: ∀a b:List N1,(km a).app (km b)=km (a++b)
 | [],_=>rfl
 |x::a,b=>by rw[km,NL.app,KW a b];rfl
def N1.T(x:N1):Nat:=1+x.sub.tot
def rel(L:Int):NL→NL
 | .nil=> .nil
 | .cons op _ s k n t v sub r=> .cons op L s k n t v (rel L sub) (rel L r)
def N1.rl(L:Int)(x:N1):N1:={x with ln:=L,sub:=rel L x.sub}
def Rt(b:Nat)(x:N1):Prop:=(∃a,jt x.op x.s x.k x.n x.t x.v x.sub.len b a=0∧zf x.sub (zp x.op x.sub.len b a) 0=none)∧(zv x.k x.n x.t x.v).i64∧x.sub.i64
abbrev E0:ByteArray:=⟨#[]⟩
def jm(op ln:Int)(s:ByteArray)(c:List N1):N1:=⟨op,ln,s,0,0,E0,.nil,km c⟩
def Rx(x:N1):Prop:=Rt 0 x∨Rt 2 x∨Rt 3 x
def It(y:N1):Prop:=Rx y∨ ∃ln a,y=jm 26 ln E0 [a]∧Rx a
inductive View:N1→Prop where
 |lit {ln k n:Int} {t:ByteArray}:qH k n t 0=0→k≠4→(k=0→n≠ -9223372036854775808)→t.size<4096→ -9223372036854775808≤n→n≤9223372036854775807→View ⟨1,ln,E0,k,n,t,.nil,.nil⟩
 |var {ln:Int} {s:ByteArray}:zD s=true→View (jm 2 ln s [])
 |neg {ln:Int} {a:N1}:Rx a→View (jm 3 ln E0 [a])
 |not {ln:Int} {a:N1}:Rx a→View (jm 4 ln E0 [a])
 |bin {op ln:Int} {a b:N1}:5≤op→op≤18→Rx a→Rx b→View (jm op ln E0 [a,b])
 |cond {ln:Int} {a b c:N1}:Rx a→Rx b→Rx c→View (jm 19 ln E0 [a,b,c])
 |index {ln:Int} {a b:N1}:Rx a→Rx b→View (jm 20 ln E0 [a,b])
 |slice {ln:Int} {a b c:N1}:Rx a→Rx b→Rx c→View (jm 21 ln E0 [a,b,c])
 |prop {ln:Int} {a b:N1}:Rx a→Rx b→View (jm 22 ln E0 [a,b])
 |call {ln:Int} {a b:N1} {l:List N1}:Rx a→Rx b→(∀y∈l,It y)→View (jm 23 ln E0 (a::b::l))
 |fn {ln:Int} {s:ByteArray} {l:List N1}:zD s=true→(∀y∈l,It y)→View (jm 24 ln s l)
 |make {ln:Int} {l:List N1}:(∀y∈l,It y)→View (jm 25 ln E0 l)
 |set {ln:Int} {a b:N1}:Rt 2 a→Rx b→View (jm 27 ln E0 [a,b])
 |scat {ln:Int} {l:List N1} {b:N1}:l≠ []→(∀y∈l,It y)→(∀L,jA (rel L (km l))=true)→Rx b→View (jm 28 ln E0 (l++ [b]))
 |catch2 {ln ln2:Int} {a:N1} {m:List N1}:Rx a→(∀y∈m,Rx y)→View (jm 29 ln E0 [a,jm 25 ln2 E0 m])
 |catch3 {ln ln2:Int} {a b:N1} {m:List N1}:Rx a→(∀y∈m,Rx y)→Rx b→View (jm 29 ln E0 [a,jm 25 ln2 E0 m,b])
end Go.Proofs.YtggngahmafbihaaGreatDoor
