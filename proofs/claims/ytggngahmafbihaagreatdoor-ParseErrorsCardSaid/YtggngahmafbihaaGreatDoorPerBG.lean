/- Contracts, and the plain mathematics beneath. -/
import Derived.Test.YtggngahmafbihaaGreatDoorPerAY
import Derived.Test.YtggngahmafbihaaGreatDoorPerAH
import Derived.Test.YtggngahmafbihaaGreatDoorPerAI
set_option linter.unusedVariables false
set_option linter.unusedSimpArgs false
namespace Go.Proofs.YtggngahmafbihaaGreatDoor
open Go.RowKit Go.Lib
structure NEx where
 b:List El
 lo:Bool
 nm:List El
 cd:List El
instance:Inhabited NEx:=⟨⟨[],false,[],[]⟩⟩
def sg(l:List UInt8):El:= .w ⟨4,0,⟨l.toArray⟩,0,0,⟨#[]⟩⟩
def ky(l:List UInt8):El:= .w ⟨2,0,⟨l.toArray⟩,0,0,⟨#[]⟩⟩
def Z2(s:ByteArray):El:= .w ⟨1,0,s,0,0,⟨#[]⟩⟩
def KQ(k n:Int)(t:ByteArray):El:= .w ⟨3,0,⟨#[]⟩,k,n,t⟩
def bl:El:= .b 32
def kF(l:List El):List El:=sg [40]::(l++ [sg [41]])
def jE(x:NEx):List El:=if x.lo then kF x.b else x.b
def qdY:List NEx→List El
 | []=> []
 |x::r=>sg [44]::bl::(x.b++qdY r)
def XY:List NEx→List El
 | []=> []
 |x::r=>x.b++qdY r
def qfr(l:List NEx):List El:=if l.length=0 then [ky [97,110,121]]else XY l
def qha(op:Int):El:=if op=16 then ky [105,110]else sg (qdV op)
def qhp(k n:Int)(t:ByteArray):List El:=if k=0∧n<0 then [sg [45],KQ 0 (-n) t]else [KQ k n t]
def qdJ(op:Int)(s:ByteArray)(k n:Int)(t:ByteArray)(l:List NEx):List El:=
 let g:=fun i=>l.getD i default
 if op=1 then qhp k n t
 else if op=2 then [Z2 s]
 else if op=3 then(if 48≤(zw (jE (g 0))).getD 0 0∧(zw (jE (g 0))).getD 0 0≤57 then sg [45]::kF (jE (g 0))else sg [45]::jE (g 0))
 else if op=4 then sg [33]::jE (g 0)
 else if op=19 then jE (g 0)++bl::sg [63]::bl::(jE (g 1)++bl::sg [124]::bl::jE (g 2))
 else if op=20 then jE (g 0)++sg [91]::((g 1).b++ [sg [93]])
 else if op=21 then jE (g 0)++sg [91]::((g 1).b++sg [46,46]::((g 2).b++ [sg [93]]))
 else if op=22 then jE (g 0)++sg [46]::(g 1).nm
 else if op=23 then jE (g 0)++sg [58]::((g 1).nm++sg [40]::(XY (l.drop 2)++ [sg [41]]))
 else if op=24 then Z2 s::sg [40]::(XY l++ [sg [41]])
 else if op=25 then sg [123]::(XY l++ [sg [125]])
 else if op=26 then sg [64]::(g 0).b
 else if op=27 then(g 0).b++bl::sg [61]::bl::(g 1).b
 else if op=28 then sg [123]::(XY (l.take (l.length-1))++sg [125]::bl::sg [61]::bl::(g (l.length-1)).b)
 else if op=29 then sg [96]::(jE (g 0)++bl::sg [33]::bl::((g 1).cd++((if 2<l.length then bl::sg [61,62]::bl::jE (g 2)else [])++ [sg [39]])))
 else jE (g 0)++bl::qha op::bl::jE (g 1)
def qaw(op:Int)(s:ByteArray)(k n:Int)(t:ByteArray)(l:List NEx):NEx:=
 ⟨qdJ op s k n t l,qbk op k n,if op=1∧k=2∧zD t=true then [Z2 t]else kF (qdJ op s k n t l),qfr l⟩
def nex:NL→List NEx
 | .nil=> []
 | .cons op _ s k n t v sub r=>qaw op s k n t (nex sub)::nex r
def N1.ex(x:N1):NEx:=qaw x.op x.s x.k x.n x.t (nex x.sub)
theorem qgP(l:List UInt8)(r:List El):zw (sg l::r)=l++zw r:=by simp[sg,zw,xj]
theorem J1{c:UInt8}{u:List UInt8}(h:(zk c||zz c||qt c)=false):Stop (c::u):=by
 intro d v e;injection e with e1 _
 subst e1;simp only[Bool.or_eq_false_iff]at h;exact⟨h.1.1,h.1.2,h.2⟩
def qay(y:ByteArray):Bool:=zB.all fun x=> !(y.data.toList.isPrefixOf x.data.toList && decide (y.size<x.size))
theorem qbr{y:ByteArray}(h:qay y=true)(c:UInt8):QS y c=false:=by
 have hz: ∀b:ByteArray,b.data.toList.length=b.size:=fun b=>by rw[Array.length_toList];rfl
 unfold QS;rw[List.any_eq_false];intro x hx hp;unfold qay at h;rw[List.all_eq_true]at h;have:=h x hx;rw[List.isPrefixOf_iff_prefix]at hp;have hl:=hp.length_le;rw[List.length_append,hz,hz]at hl;have h1:y.data.toList.isPrefixOf x.data.toList=true:=by rw[List.isPrefixOf_iff_prefix];exact(List.prefix_append _ _).trans hp
 rw[h1,Bool.true_and,Bool.not_eq_true',decide_eq_false_iff_not]at this;simp at hl;omega
def sgB(l:List UInt8):Bool:=zB.any fun x=>x.data.toList==l
def kyB(l:List UInt8):Bool:=zi.contains ⟨l.toArray⟩ && zi.any fun x=>x.data.toList==l
theorem KH{L:List ByteArray}{l:List UInt8}(h:(L.any fun x=>x.data.toList==l)=true):(⟨l.toArray⟩:ByteArray)∈L:=by
 rw[List.any_eq_true]at h;obtain⟨x,hx,e⟩:=h;rw[beq_iff_eq]at e;rw[show(⟨l.toArray⟩:ByteArray)=x from Zd (by rw[←e])];exact hx
theorem Kj{l:List UInt8}(h:sgB l=true):Za ⟨4,0,⟨l.toArray⟩,0,0,⟨#[]⟩⟩:= .inr (.inr ⟨rfl,KH h,rfl,rfl,rfl⟩)
theorem qdT{l:List UInt8}{r:List UInt8}{e:List El}(h:(sgB l && qay ⟨l.toArray⟩)=true)(f:jU r e):jU r (sg l::e):=by
 rw[Bool.and_eq_true]at h;refine⟨Kj h.1,?_,f⟩;unfold xO;rw[if_pos rfl];exact fun c u _=>qbr h.2 c
theorem qfR{l:List UInt8}{r:List UInt8}{e:List El}(h:sgB l=true)(hx: ∀c u,zw e++r=c::u→QS ⟨l.toArray⟩ c=false)(f:jU r e):jU r (sg l::e):=by
 refine⟨Kj h,?_,f⟩;unfold xO;rw[if_pos rfl];exact hx
theorem qgU{r:List UInt8}{e:List El}(f:jU r e):jU r (bl::e):=⟨.inr rfl,f⟩
theorem qgV{l:List UInt8}{r:List UInt8}{e:List El}(h0:kyB l=true)(hs:Stop (zw e++r))(g:jU r e):jU r (ky l::e):=by
 have hl: ∀x∈zi,qdP x.data.toList:=by
  have: ∀x∈zi,(match x.data.toList with| []=>false|c::_=>zk c && x.data.toList.all (fun c=>zk c||qt c) && decide (x.data.toList.length≤32))=true:=by decide+kernel
  intro x hx;have:=this x hx
  cases f:x.data.toList with
  |nil=>rw[f]at this;cases this
  |cons c u=>
   rw[f]at this;simp only[Bool.and_eq_true,decide_eq_true_eq,List.all_eq_true]at this;exact⟨c,u,rfl,this.1.1,this.1.2,this.2⟩
 unfold kyB at h0;rw[Bool.and_eq_true]at h0;have h:=h0.1;have hm:=KH h0.2;refine⟨.inr (.inl ⟨by simp only[h,if_true],hl _ hm,rfl,rfl,rfl⟩),?_,g⟩;unfold xO;rw[if_neg (by simp)];exact hs
theorem qdR{c:UInt8}(h:xn c=true):(zk c||qt c)=true:=by
 simp only[xn,zk,qt,Bool.or_eq_true,Bool.and_eq_true,decide_eq_true_eq,beq_iff_eq,UInt8.le_iff_toNat_le]at h⊢;have e1:(97:UInt8).toNat=97:=rfl;have e2:(122:UInt8).toNat=122:=rfl;have e3:(48:UInt8).toNat=48:=rfl;have e:(57:UInt8).toNat=57:=rfl;rw[e1,e2,e3,e]at h;rcases h with(h|h)|h
 ·exact .inl (.inl h)
 ·exact .inr h
 ·exact .inl (.inr h)
theorem qcv{s:ByteArray}(h:zD s=true):Za ⟨1,0,s,0,0,⟨#[]⟩⟩:=by
 have hz:s.data.toList.length=s.size:=by rw[Array.length_toList];rfl
 unfold zD at h;simp only[Bool.and_eq_true,decide_eq_true_eq,Bool.not_eq_true',List.all_eq_true]at h;obtain⟨⟨⟨⟨h1,h2⟩,h3⟩,h4⟩,h5⟩:=h;refine .inr (.inl ⟨by simp[h5],?_,rfl,rfl,rfl⟩)
 cases e:s.data.toList with
 |nil=>rw[e]at hz;simp at hz;omega
 |cons c u=>
  refine⟨c,u,rfl,?_,fun x hx=>qdR (h4 x (by rw[e];exact hx)),by rw[←e,hz];exact h2⟩;have hc:=qdR (h4 c (by rw[e];exact List.mem_cons_self ..));rw[e,List.getD_cons_zero]at h3;rw[Bool.or_eq_true]at hc;rcases hc with hc|hc
  ·exact hc
  ·exfalso
   simp only[qt,decide_eq_true_eq]at hc;simp only[Bool.and_eq_false_iff,decide_eq_false_iff_not,UInt8.le_iff_toNat_le]at h3;have e3:(48:UInt8).toNat=48:=rfl;have f:(57:UInt8).toNat=57:=rfl;rw[e3,f]at h3;rcases h3 with h|h
   ·exact h hc.1
   ·exact h hc.2
theorem qgX{s:ByteArray}{r:List UInt8}{e:List El}(h:zD s=true)(hs:Stop (zw e++r))(f:jU r e):jU r (Z2 s::e):=by
 refine⟨qcv h,?_,f⟩;unfold xO;rw[if_neg (by simp)];exact hs
theorem qgW{k n:Int}{t:ByteArray}{r:List UInt8}{e:List El}(h:Xf k n t)(hs:Stop (zw e++r))(f:jU r e):jU r (KQ k n t::e):=by
 refine⟨.inl ⟨rfl,rfl,h⟩,?_,f⟩;unfold xO;rw[if_neg (by simp)];exact hs
def qhn(t:Tok):Prop:=t.kind=3∨t.kind=1∨(t.kind=4∧t.s.data.toList∈([[45],[33],[40],[123],[96]]:List (List UInt8)))
def Hd(e:List El):Prop:= ∃t l,e= .w t::l∧Za t∧qhn t
theorem qgQ{l:List UInt8}{e:List El}(h:sgB l=true)(hm:l∈([[45],[33],[40],[123],[96]]:List (List UInt8))):Hd (sg l::e):=⟨_,e,rfl,Kj h,.inr (.inr ⟨rfl,by simpa using hm⟩)⟩
structure NOk (x:NEx):Prop where
 b: ∀r,Stop r→jU r x.b
 hd:Hd x.b
 nm: ∀r,Stop r→jU r x.nm
 hn:Hd x.nm
theorem qfQ{l:List El}(h: ∀r,Stop r→jU r l)(r:List UInt8):jU r (kF l):=by
 unfold kF;refine qdT (by decide+kernel) (Jm (h _ ?_) (qdT (by decide+kernel) trivial));rw[qgP];exact J1 (by decide)
theorem qfB(l:List El):Hd (kF l):=qgQ (by decide+kernel) (by decide)
theorem NOk.i{x:NEx}(h:NOk x)(r:List UInt8)(hr:Stop r):jU r (jE x):=by
 unfold jE;split
 ·exact qfQ h.b r
 ·exact h.b r hr
theorem NOk.hi{x:NEx}(h:NOk x):Hd (jE x):=by
 unfold jE;split
 ·exact qfB _
 ·exact h.hd
def Lee{α:Type}(a b:Option α):Prop:= ∀x,a=some x→b=some x
theorem Lee.refl{α:Type}(a:Option α):Lee a a:=fun _ h=>h
theorem Lee.bind{α β:Type}{a b:Option α}{F G:α→Option β}(h:Lee a b)(hF: ∀x,Lee (F x) (G x)):Lee (a.bind F) (b.bind G):=by
 intro y e
 cases ha:a with
 |none=>rw[ha]at e;cases e
 |some x=>rw[ha]at e;rw[h x ha];exact hF x y e
theorem Lee.ite{α:Type}{c:Prop}[Decidable c]{a b a' b':Option α}(h:Lee a a')(e:Lee b b'):Lee (if c then a else b) (if c then a' else b'):=by
 by_cases hc:c
 ·rw[if_pos hc,if_pos hc];exact h
 ·rw[if_neg hc,if_neg hc];exact e
theorem qbC(l:List Tok)(f g:Nat)(H: ∀r p,Lee (qa l f r p) (qa l g r p)): ∀r p,Lee (qa l (f+1) r p) (qa l (g+1) r p):=by
 intro r p
 cases r<;>simp only[qa]<;>
  repeat' first
   |exact H _ _
   |exact Lee.refl _
   |refine Lee.ite ?_ ?_
   |refine Lee.bind (H _ _) (fun x=> ?_)
   |split
theorem QU(l:List Tok)(r:Req)(p:PS):qa l 0 r p=none:=by cases r<;>rfl
theorem JU(l:List Tok): ∀(f:Nat)(r:Req)(p:PS),Lee (qa l f r p) (qa l (f+1) r p)
 |0,r,p=>fun x h=>by rw[QU]at h;cases h
 |f+1,r,p=>qbC l f (f+1) (JU l f) r p
theorem Zo{l:List Tok}{f g:Nat}{r:Req}{p:PS}{x:NL×PS}(h:qa l f r p=some x)(hg:f≤g):qa l g r p=some x:=by
 obtain⟨k,rfl⟩:=Nat.le.dest hg;clear hg
 induction k with
 |zero=>exact h
 |succ k e=>exact JU l _ r p _ e
def kV(L:Int):List El→List Tok
 | []=> []
 | .w t::l=>{t with line:=L}::kV L l
 | .b _::l=>kV L l
def ki:List El→Nat
 | []=>0
 | .w _::l=>ki l+1
 | .b _::l=>ki l
theorem Jv(L:Int): ∀e:List El,(kV L e).length=ki e
 | []=>rfl
 | .w t::l=>by rw[kV,ki,List.length_cons,Jv L l]
 | .b c::l=>by rw[kV,ki,Jv L l]
theorem qd9{α:Type}{l a r:List α}{i:Nat}(h:l.drop i=a++r):l.drop (i+a.length)=r:=by rw[←List.drop_drop,h];simp
theorem Js{l:List Tok}{i:Nat}{L:Int}{e:List El}{r:List Tok}(h:l.drop i=kV L e++r):l.drop (i+ki e)=r:=by
 rw[←Jv L e];exact qd9 h
theorem qch{l:List Tok}{i:Nat}{t:Tok}{r:List Tok}(h:l.drop i=t::r):l.drop (i+1)=r:=by
 rw[←List.drop_drop,h];rfl
def xU(r:List Tok)(s:List UInt8):Bool:=match r with
 |t::_=>(t.kind==4||t.kind==2) && t.s.data.toList==s
 | []=>false
theorem XF{l r:List Tok}{i:Nat}(h:l.drop i=r):l[i]?=r.head?:=by rw[←h,List.head?_drop]
theorem xY{l r:List Tok}{i:Nat}(d:Int)(h:l.drop i=r)(s:List UInt8):qj l ⟨i,d,none⟩ s=xU r s:=by
 unfold qj xU;simp only[XF h,Option.isNone_none,Bool.true_and]
 cases r<;>rfl
theorem qfA(s s':List UInt8)(L:Int)(r:List Tok):xU (⟨4,L,⟨s.toArray⟩,0,0,⟨#[]⟩⟩::r) s'=(s==s'):=by simp[xU]
theorem qfz(s s':List UInt8)(L:Int)(r:List Tok):xU (⟨2,L,⟨s.toArray⟩,0,0,⟨#[]⟩⟩::r) s'=(s==s'):=by simp[xU]
theorem qau{l:List Tok}{i:Nat}{d:Int}{e:Option (Option Int)}{t:Tok}{r:List Tok}(h:l.drop i=t::r):qd l ⟨i,d,e⟩=t.line:=by
 unfold qd;simp only[XF h];rfl
theorem qeq{l r:List Tok}{i:Nat}{d:Int}{s:List UInt8}(h:l.drop i=r)(hs:xU r s=true):qf l ⟨i,d,none⟩ s=⟨i+1,d,none⟩:=by
 unfold qf;rw[xY d h,hs,if_pos rfl];rfl
def NB(r:List Tok):Prop:=xU r [91]=false∧xU r [46]=false∧xU r [58]=false∧xU r [40]=false
def NL5(k:Nat)(r:List Tok):Prop:= ∀j,k≤j→j<5→(xu j).find? (fun x=>xU r x.1)=none
def C0(r:List Tok):Prop:=NB r∧NL5 0 r∧xU r [63]=false
def qfi(r:List Tok):Prop:=C0 r∧xU r [61]=false
theorem qaf{l r:List Tok}{f i:Nat}{d:Int}{n:NL}(hr:NB r)(h:l.drop i=r):qa l (f+1) (.behind n) ⟨i,d,none⟩=some (n,⟨i,d,none⟩):=by
 rw[qa];simp only[xY d h,hr.1,hr.2.1,hr.2.2.1,Option.isSome_none,Bool.false_eq_true,if_false]
theorem qdA{l r:List Tok}{f i k:Nat}{d:Int}{n:NL}(hr:(xu k).find? (fun x=>xU r x.1)=none)(h:l.drop i=r):qa l (f+1) (.twoL k n) ⟨i,d,none⟩=some (n,⟨i,d,none⟩):=by
 rw[qa];simp only[xY d h,hr]
theorem qbV{l r:List Tok}{g i j:Nat}{d:Int}{n:NL}(h1:qa l g .one ⟨i,d,none⟩=some (n,⟨j,d,none⟩))(h:l.drop j=r): ∀m,m≤5→NL5 (5-m) r→qa l (g+1+m) (.two (5-m)) ⟨i,d,none⟩=some (n,⟨j,d,none⟩)
 |0,_,_=>by rw[Nat.add_zero,qa,if_pos (by omega)];exact h1
 |m+1,hm,hr=>by
  have e:=qbV h1 h m (by omega) (fun j f=>hr j (by omega));rw[show g+1+(m+1)=(g+1+m)+1 by omega,qa,if_neg (by omega),show 5-(m+1)+1=5-m by omega,e];simp only[Option.bind];rw[show g+1+m=(g+m)+1 by omega];exact qdA (hr _ (Nat.le_refl _) (by omega)) h
theorem qcc{l r:List Tok}{g G i j:Nat}{d:Int}{n:NL}(h1:qa l g .one ⟨i,d,none⟩=some (n,⟨j,d,none⟩))(h:l.drop j=r)(hr:C0 r)(hG:g+7≤G):qa l G .cond ⟨i,d,none⟩=some (n,⟨j,d,none⟩):=by
 refine Zo (f:=g+1+5+1) ?_ (by omega);rw[qa,qbV h1 h 5 (by omega) hr.2.1];simp only[Option.bind,xY d h,hr.2.2,Bool.not_false,if_true]
theorem qa8{l r:List Tok}{g G i j:Nat}{d:Int}{n:NL}(h1:qa l g .cond ⟨i,d,none⟩=some (n,⟨j,d,none⟩))(h:l.drop j=r)(hr:xU r [61]=false)(hG:g+1≤G):qa l G .expr ⟨i,d,none⟩=some (n,⟨j,d,none⟩):=by
 refine Zo (f:=g+1) ?_ hG;rw[qa,h1];simp only[Option.bind,xY d h,hr,Bool.not_false,if_true]
def Rd(x:N1):Prop:= ∀(l:List Tok)(i:Nat)(d L:Int)(r:List Tok)(g:Nat),l.drop i=kV L x.ex.b++r→d+2*(x.sub.deep:Int)+1≤160→qfi r→32*x.T≤g→
 qa l g .expr ⟨i,d,none⟩=some (km [x.rl L],⟨i+ki x.ex.b,d,none⟩)
def RdI(x:N1):Prop:= ∀(l:List Tok)(i:Nat)(d L:Int)(r:List Tok)(f g:Nat)(e:NL×PS),l.drop i=kV L (jE x.ex)++r→d+2*(x.sub.deep:Int)+2≤160→xU r [40]=false→
 qa l f (.behind (km [x.rl L])) ⟨i+ki (jE x.ex),d,none⟩=some e→f+32*x.T+8≤g→qa l g .one ⟨i,d,none⟩=some e
structure Gd (x:N1):Prop where
 rd:Rd x
 ri:RdI x
theorem k0:ki []=0:=rfl
theorem wL(L k n:Int)(t:ByteArray)(e:List El):kV L (KQ k n t::e)=⟨3,L,⟨#[]⟩,k,n,t⟩::kV L e:=rfl
theorem w0(L:Int):kV L []= []:=rfl
theorem Gd.one{x:N1}(hx:Gd x){l:List Tok}{i:Nat}{d L:Int}{r:List Tok}{g:Nat}(h:l.drop i=kV L (jE x.ex)++r)(hd:d+2*(x.sub.deep:Int)+2≤160)(hr:NB r)(hg:32*x.T+9≤g):
 qa l g .one ⟨i,d,none⟩=some (km [x.rl L],⟨i+ki (jE x.ex),d,none⟩):=
 hx.ri l i d L r 1 g _ h hd hr.2.2.2 (qaf hr (Js h)) (by omega)
theorem Gd.cond{x:N1}(hx:Gd x){l:List Tok}{i:Nat}{d L:Int}{r:List Tok}{g:Nat}(h:l.drop i=kV L (jE x.ex)++r)(hd:d+2*(x.sub.deep:Int)+2≤160)(hr:C0 r)(hg:32*x.T+16≤g):
 qa l g .cond ⟨i,d,none⟩=some (km [x.rl L],⟨i+ki (jE x.ex),d,none⟩):=
 qcc (hx.one h hd hr.1 (Nat.le_refl _)) (Js h) hr (by omega)
theorem Gd.expr{x:N1}(hx:Gd x){l:List Tok}{i:Nat}{d L:Int}{r:List Tok}{g:Nat}(h:l.drop i=kV L (jE x.ex)++r)(hd:d+2*(x.sub.deep:Int)+2≤160)(hr:qfi r)(hg:32*x.T+17≤g):
 qa l g .expr ⟨i,d,none⟩=some (km [x.rl L],⟨i+ki (jE x.ex),d,none⟩):=
 qa8 (hx.cond h hd hr.1 (Nat.le_refl _)) (Js h) hr.2 (by omega)
def Bk(b:N1):Prop:= ∃(ln:Int)(c:List N1),b=jm 52 ln E0 c∧ ∀y∈c,Rt 7 y
def Ecx(y:N1):Prop:= ∃(ln:Int)(s:ByteArray)(ln2:Int)(m:List N1)(b:N1),y=jm 50 ln s [jm 25 ln2 E0 m,b]∧(s=E0∨zD s=true)∧(∀z∈m,Rx z)∧Bk b
inductive IfL:List N1→Prop where
 |nil:IfL []
 |els {b:N1}:Bk b→IfL [b]
 |two {a b:N1} {l:List N1}:Rx a→Bk b→IfL l→IfL (a::b::l)
inductive SView:N1→Prop where
 |do_ {ln:Int} {a:N1}:Rx a→SView (jm 40 ln E0 [a])
 |ifs {ln:Int} {a b:N1} {l:List N1}:Rx a→Bk b→IfL l→SView (jm 41 ln E0 (a::b::l))
 |forIn {ln:Int} {s:ByteArray} {a b:N1}:zD s=true→Rx a→Bk b→SView (jm 42 ln s [a,b])
 |forTo {ln:Int} {s:ByteArray} {a c b:N1}:zD s=true→Rx a→Rx c→Bk b→SView (jm 43 ln s [a,c,b])
 |whil {ln:Int} {a b:N1}:Rx a→Bk b→SView (jm 44 ln E0 [a,b])
 |brk {ln:Int}:SView (jm 45 ln E0 [])
 |cont {ln:Int}:SView (jm 46 ln E0 [])
 |ret0 {ln:Int}:SView (jm 47 ln E0 [])
 |ret1 {ln:Int} {a:N1}:Rx a→SView (jm 47 ln E0 [a])
 |fork {ln:Int} {a b:N1}:Rx a→Bk b→SView (jm 48 ln E0 [a,b])
 |try_ {ln:Int} {b:N1} {l:List N1}:Bk b→l≠ []→(∀y∈l,Ecx y)→SView (jm 49 ln E0 (b::l))
 |fin {ln:Int} {a b:N1}:Bk a→Bk b→SView (jm 51 ln E0 [a,b])
def nlE:El:= .b 10
def qho(d:Nat):List El:=List.replicate (2*d) bl
def j9(d:Nat)(e:List El):List El:=qho d++(e++ [nlE])
structure SEx where
 x:NEx
 st:List El
 bk:List El
 ex:List El
instance:Inhabited SEx:=⟨⟨default,[],[],[]⟩⟩
def qej:El:=ky [101,108,115,101,105,102]
def qgS:El:=ky [101,108,115,101]
def qbh:El:=ky [101,110,100,105,102]
def KO:El:=ky [101,110,100,102,111,114]
def qbi:El:=ky [101,110,100,119,104,105,108,101]
def qcr:El:=ky [101,110,100,102,111,114,107]
def KP:El:=ky [101,110,100,116,114,121]
def qfG:El:=ky [116,114,121]
def qek:El:=ky [101,120,99,101,112,116]
def qcs:El:=ky [102,105,110,97,108,108,121]
def qfD(d:Nat):El→List SEx→List El
 |w,c::b::r=>j9 d (w::bl::kF c.x.b)++(b.bk++qfD d qej r)
 |_,[b]=>j9 d [qgS]++(b.bk++j9 d [qbh])
 |_,[]=>j9 d [qbh]
def Qn(d:Nat)(head f e:List El):List El:=j9 d head++(f++j9 d e)
def qfx:List SEx→List El
 | []=> []
 |x::r=>x.ex++qfx r
def qdW(d:Nat)(op:Int)(s:ByteArray)(l:List SEx):List El:=
 let g:=fun i=>l.getD i default
 if op=40 then j9 d ((g 0).x.b++ [sg [59]])
 else if op=45 then j9 d [ky [98,114,101,97,107],sg [59]]
 else if op=46 then j9 d [ky [99,111,110,116,105,110,117,101],sg [59]]
 else if op=47 then j9 d (ky [114,101,116,117,114,110]::((if 0<l.length then bl::(g 0).x.b else [])++ [sg [59]]))
 else if op=41 then qfD d (ky [105,102]) l
 else if op=42 then Qn d (ky [102,111,114]::bl::Z2 s::bl::ky [105,110]::bl::kF (g 0).x.b) (g 1).bk [KO]
 else if op=43 then Qn d (ky [102,111,114]::bl::Z2 s::bl::ky [105,110]::bl::sg [91]::((g 0).x.b++sg [46,46]::((g 1).x.b++ [sg [93]]))) (g 2).bk [KO]
 else if op=44 then Qn d (ky [119,104,105,108,101]::bl::kF (g 0).x.b) (g 1).bk [qbi]
 else if op=48 then Qn d (ky [102,111,114,107]::bl::kF (g 0).x.b) (g 1).bk [qcr]
 else if op=49 then j9 d [qfG]++((g 0).bk++(qfx (l.drop 1)++j9 d [KP]))
 else if op=51 then j9 d [qfG]++((g 0).bk++Qn d [qcs] (g 1).bk [KP])
 else []
def exE(d:Nat)(s:ByteArray)(l:List SEx):List El:=
 j9 d (qek::bl::((if s.data.toList.length≠0 then [Z2 s,bl]else [])++kF (l.getD 0 default).x.cd))++(l.getD 1 default).bk
def qdw:List SEx→List El
 | []=> []
 |x::r=>x.st++qdw r
def Ka:NL→Nat→List SEx
 | .nil,_=> []
 | .cons op _ s k n t v sub r,d=>⟨qaw op s k n t (nex sub),qdW d op s (Ka sub d),qdw (Ka sub (d+1)),exE d s (Ka sub d)⟩::Ka r d
def N1.sx(x:N1)(d:Nat):SEx:=⟨x.ex,qdW d x.op x.s (Ka x.sub d),qdw (Ka x.sub (d+1)),exE d x.s (Ka x.sub d)⟩
def N1.tx(x:N1)(d:Nat):STx:=⟨qax x.op x.s x.k x.n x.t x.v (ntx x.sub),qdX d x.op x.s.data.toList (Kg x.sub d),((Kg x.sub (d+1)).map (·.st)).flatten,exT d x.s.data.toList (Kg x.sub d)⟩
section
section
variable {ln : Int} {s : ByteArray} {a b c : N1} {l : List N1} {d : Nat}
end
end
theorem Jt: ∀(e:List El)(L:Int),(jD L e).length=ki e
 | [],_=>rfl
 | .w t::l,L=>by rw[jD,ki,List.length_cons,Jt l L]
 | .b c::l,L=>by rw[jD,ki,Jt l _]
theorem qaN{l r:List Tok}{G i:Nat}{d L:Int}(h:l.drop i=⟨2,L,⟨([98,114,101,97,107]:List UInt8).toArray⟩,0,0,⟨#[]⟩⟩::r)(hs:xU r [59]=true)(hG:1≤G):qa l G .stmt ⟨i,d,none⟩=some (ndL 45 L .nil,⟨i+1+1,d,none⟩):=by
 obtain⟨K,rfl⟩: ∃K,G=K+1:=⟨G-1,by omega⟩
 rw[qa];simp only[xY d h,qfz,show(([98,114,101,97,107]:List UInt8)== [98,114,101,97,107])=true from rfl,Bool.false_eq_true,if_false,if_true,qb,Option.bind,qau h,qeq (qch h) hs]
def Sm(y:NL)(x:N1)(L:Int):Prop:= ∃sub,y= .cons x.op L x.s x.k x.n x.t x.v sub .nil∧rel 0 sub=rel 0 x.sub
theorem kb(L:Int): ∀a b:NL,rel L (a.app b)=(rel L a).app (rel L b)
 | .nil,_=>rfl
 | .cons _ _ _ _ _ _ _ _ r,b=>by rw[NL.app,rel,rel,kb L r b];rfl
theorem qgw{y:NL}{x:N1}{L:Int}(h:Sm y x L):rel 0 y=rel 0 (km [x]):=by
 obtain⟨sub,rfl,e⟩:=h;show NL.cons _ _ _ _ _ _ _ (rel 0 sub) _=NL.cons _ _ _ _ _ _ _ (rel 0 x.sub) _
 rw[e];rfl
theorem qcA(x:N1)(c:List N1):km (x::c)=(km [x]).app (km c):=by rw[KW];rfl
section
def Tok.z(t:Tok):Tok:={t with line:=0}
def ER(E:Int→Int→Prop):Option (Option Int)→Option (Option Int)→Prop
 |none,none=>True
 |some none,some none=>True
 |some (some a),some (some b)=>E a b
 |_,_=>False
structure PR (k:Nat) (E:Int→Int→Prop) (p p':PS):Prop where
 pos:p'.pos=k+p.pos
 deep:p'.deep=p.deep
 err:ER E p.err p'.err
structure LR (k:Nat) (E:Int→Int→Prop) (l l':List Tok):Prop where
 at_: ∀j,(l[j]?).map Tok.z=(l'[k+j]?).map Tok.z
 line: ∀(p p':PS),p'.pos=k+p.pos→E (qd l p) (qd l' p')
 len:l'.length=k+l.length
def NR(a b:NL):Prop:=rel 0 a=rel 0 b
def OR(k:Nat)(E:Int→Int→Prop):Option (NL×PS)→Option (NL×PS)→Prop
 |none,none=>True
 |some x,some y=>NR x.1 y.1∧PR k E x.2 y.2
 |_,_=>False
inductive RQ:Req→Req→Prop where
 |expr:RQ .expr .expr
 |cond:RQ .cond .cond
 |two (m:Nat):RQ (.two m) (.two m)
 |twoL (m:Nat) {n n':NL}:NR n n'→RQ (.twoL m n) (.twoL m n')
 |one:RQ .one .one
 |part:RQ .part .part
 |behind {n n':NL}:NR n n'→RQ (.behind n) (.behind n')
 |items (e:List UInt8):RQ (.items e) (.items e)
 |row {n n':NL}:NR n n'→RQ (.row n) (.row n')
 |codes:RQ .codes .codes
 |codesL {o o' n n':NL}:NR n n'→RQ (.codesL o n) (.codesL o' n')
 |first:RQ .first .first
 |within (e:List UInt8):RQ (.within e) (.within e)
 |caught (a b:Int):RQ (.caught a) (.caught b)
 |block (e:List (List UInt8)):RQ (.block e) (.block e)
 |blockL (e:List (List UInt8)) {n n':NL}:NR n n'→RQ (.blockL e n) (.blockL e n')
 |head:RQ .head .head
 |stmt:RQ .stmt .stmt
 |ifsL {n n':NL}:NR n n'→RQ (.ifsL n) (.ifsL n')
 |tryL {n n':NL}:NR n n'→RQ (.tryL n) (.tryL n')
theorem NR.refl(a:NL):NR a a:=rfl
theorem NR.app{a a' b b':NL}(h:NR a a')(e:NR b b'):NR (a.app b) (a'.app b'):=by unfold NR at h e⊢;rw[kb,kb,h,e]
theorem NR.nd{op ln ln':Int}{s:ByteArray}{k n:Int}{t:ByteArray}{a b:NL}(h:NR a b):NR (nd op ln s k n t a) (nd op ln' s k n t b):=by
 show NL.cons _ _ _ _ _ _ _ (rel 0 a) _=NL.cons _ _ _ _ _ _ _ (rel 0 b) _
 rw[show rel 0 a=rel 0 b from h]
theorem NR.ndL{op ln ln':Int}{a b:NL}(h:NR a b):NR (ndL op ln a) (ndL op ln' b):=NR.nd h
theorem NR.kids{a b:NL}(h:NR a b):a.op=b.op∧NR a.kids b.kids:=by
 cases a with
 |nil=>
  cases b with
  |nil=>exact⟨rfl,rfl⟩
  |cons=>cases h
 |cons op ln s k n t v sub r=>
  cases b with
  |nil=>cases h
  |cons op' ln' s' k' n' t' v' sub' r'=>
   unfold NR at h;rw[rel,rel]at h;injection h with h1 h2 h3 h4 h5 h6 h7 h8 h9
   exact⟨h1,h8⟩
theorem NR.len{a b:NL}(h:NR a b):a.len=b.len:=by
 have: ∀a:NL,(rel 0 a).len=a.len:=by
  intro a
  induction a with
  |nil=>rfl
  |cons _ _ _ _ _ _ _ _ r _ e=>rw[rel,NL.len,NL.len,e]
 rw[←this a, ←this b,show rel 0 a=rel 0 b from h]
theorem kP: ∀a:NL,jd (rel 0 a)=jd a
 | .nil=>rfl
 | .cons op _ s k n t v sub r=>by rw[rel,jd,jd,kP sub]
theorem qfS(a:NL):(rel 0 a).op=a.op:=by cases a<;>rfl
theorem ZO: ∀a:NL,jA (rel 0 a)=jA a
 | .nil=>rfl
 | .cons op _ s k n t v sub .nil=>by simp only[rel,jA,qfS]
 | .cons op ln s k n t v sub (.cons a b c d e f g h r)=>by
   have i:=ZO (.cons a b c d e f g h r);show(op==2 && jA (rel 0 (.cons a b c d e f g h r)))=(op==2 && jA (.cons a b c d e f g h r))
   rw[i]
theorem qaT{a b:NL}(h:NR a b):(zF a=none∧zF b=none)∨ ∃op x y,zF a=some (op,x)∧zF b=some (op,y)∧NR x y:=by
 have h1:jd a=jd b:=by rw[←kP a, ←kP b,show rel 0 a=rel 0 b from h]
 obtain⟨h2,h3⟩:=h.kids;have h4:=h3.len;have h5:jA a.kids=jA b.kids:=by rw[←ZO a.kids, ←ZO b.kids,show rel 0 a.kids=rel 0 b.kids from h3]
 unfold zF;rw[h1,h2,h4,h5];by_cases c:jd b=true
 ·rw[if_pos c,if_pos c];exact .inr ⟨_,_,_,rfl,rfl,h⟩
 ·rw[if_neg c,if_neg c]
  by_cases c:b.op=25∧b.kids.len≠0∧jA b.kids=true
  ·rw[if_pos c,if_pos c];exact .inr ⟨_,_,_,rfl,rfl,h3⟩
  ·rw[if_neg c,if_neg c];exact .inl ⟨rfl,rfl⟩
theorem OR.mk{k:Nat}{E:Int→Int→Prop}{n n':NL}{p p':PS}(h:NR n n')(hp:PR k E p p'):OR k E (some (n,p)) (some (n',p')):=⟨h,hp⟩
theorem OR.bind{k:Nat}{E:Int→Int→Prop}{a a':Option (NL×PS)}{F e:NL×PS→Option (NL×PS)}(h:OR k E a a')(hF: ∀n p n' p',NR n n'→PR k E p p'→OR k E (F (n,p)) (e (n',p'))):OR k E (a.bind F) (a'.bind e):=by
 cases a with
 |none=>
  cases a' with
  |none=>trivial
  |some _=>cases h
 |some x=>
  cases a' with
  |none=>cases h
  |some y=>exact hF _ _ _ _ h.1 h.2
theorem OR.ite{k:Nat}{E:Int→Int→Prop}{c e:Prop}[Decidable c][Decidable e]{a b a' b':Option (NL×PS)}(hc:c=e)(h1:OR k E a a')(h2:OR k E b b'):OR k E (if c then a else b) (if e then a' else b'):=by
 subst hc;by_cases h:c
 ·rw[if_pos h,if_pos h];exact h1
 ·rw[if_neg h,if_neg h];exact h2
section
variable {k : Nat} {E : Int → Int → Prop} {l l' : List Tok} {p p' : PS}
theorem ER.none_{a b:Option (Option Int)}(h:ER E a b):a.isNone=b.isNone∧a.isSome=b.isSome:=by
 cases a with
 |none=>cases b with
  |none=>exact⟨rfl,rfl⟩
  |some b=>cases h
 |some a=>cases b with
  |none=>cases a<;>cases h
  |some b=>exact⟨rfl,rfl⟩
theorem JH(L:LR k E l l')(hp:PR k E p p'):(l[p.pos]?).map Tok.z=(l'[p'.pos]?).map Tok.z:=by rw[hp.pos];exact L.at_ _
theorem Km{a b:Option Tok}(h:a.map Tok.z=b.map Tok.z):(a=none∧b=none)∨ ∃x y,a=some x∧b=some y∧x.kind=y.kind∧x.s=y.s∧x.k=y.k∧x.n=y.n∧x.t=y.t:=by
 cases a with
 |none=>cases b with
  |none=>exact .inl ⟨rfl,rfl⟩
  |some b=>cases h
 |some a=>cases b with
  |none=>cases h
  |some b=>
   simp only[Option.map_some,Option.some.injEq,Tok.z,Tok.mk.injEq]at h;exact .inr ⟨a,b,rfl,rfl,h.1,h.2.2.1,h.2.2.2.1,h.2.2.2.2.1,h.2.2.2.2.2⟩
theorem qB(L:LR k E l l')(hp:PR k E p p')(s:List UInt8):qj l p s=qj l' p' s:=by
 unfold qj;rw[hp.err.none_.1];rcases Km (JH L hp)with⟨h1,h2⟩|⟨x,y,h1,h2,h3,h4,_⟩
 ·rw[h1,h2]
 ·rw[h1,h2];simp only[h3,h4]
theorem kJ(L:LR k E l l')(hp:PR k E p p'):PR k E (zd l p) (zd l' p'):=by
 unfold zd;rw[hp.err.none_.2];split
 ·exact hp
 ·exact⟨hp.pos,hp.deep,L.line p p' hp.pos⟩
theorem qP(hp:PR k E p p'):PR k E (qb p) (qb p'):=⟨by show p'.pos+1=k+(p.pos+1);rw[hp.pos];omega,hp.deep,hp.err⟩
theorem qA(L:LR k E l l')(hp:PR k E p p')(s:List UInt8):PR k E (qf l p s) (qf l' p' s):=by
 unfold qf;rw[qB L hp];split
 ·exact qP hp
 ·exact kJ L hp
theorem zu(hp:PR k E p p'):PR k E (qu p) (qu p'):=⟨hp.pos,by show p'.deep-1=p.deep-1;rw[hp.deep],hp.err⟩
theorem jB(hp:PR k E p p'):PR k E (qh p) (qh p'):=by
 unfold qh;rw[hp.deep,hp.err.none_.1];split
 ·exact⟨hp.pos,rfl,trivial⟩
 ·exact⟨hp.pos,rfl,hp.err⟩
theorem QH(L:LR k E l l')(hp:PR k E p p'):(qE l p).1=(qE l' p').1∧PR k E (qE l p).2 (qE l' p').2:=by
 have hf:=kJ L hp;have hn:=qP hp;have e:=hp.err;have f:=Km (JH L hp);unfold qE
 cases h1:p.err with
 |some a=>
  cases h2:p'.err with
  |none=>rw[h1,h2]at e;cases a<;>cases e
  |some b=>exact⟨rfl,hf⟩
 |none=>
  cases h2:p'.err with
  |some b=>rw[h1,h2]at e;cases e
  |none=>
   rcases f with⟨h3,h4⟩|⟨x,y,h3,h4,h5,h6,_⟩
   ·rw[h3,h4];exact⟨rfl,hf⟩
   ·rw[h3,h4]
    dsimp only;rw[h5];by_cases c:(y.kind==1)=true
    ·rw[if_pos c,if_pos c];exact⟨h6,hn⟩
    ·rw[if_neg c,if_neg c];exact⟨rfl,hf⟩
theorem qaZ(L:LR k E l l')(hp:PR k E p p')(i:Nat):xQ l (p.pos+i)=xQ l' (p'.pos+i):=by
 unfold xQ;rw[hp.pos,Nat.add_assoc];rcases Km (L.at_ (p.pos+i))with⟨h1,h2⟩|⟨x,y,h1,h2,h3,h4,h5,_⟩
 ·rw[h1,h2]
 ·rw[h1,h2];simp only[h3,h5]
end
theorem JB{k:Nat}{E:Int→Int→Prop}{l l':List Tok}(L:LR k E l l'): ∀(f:Nat)(r r':Req)(p p':PS),RQ r r'→PR k E p p'→OR k E (qa l f r p) (qa l' f r' p')
 |0,r,r',p,p',_,_=>by rw[QU,QU];trivial
 |f+1,r,r',p,p',w,hp=>by
  have g:=JB L f
  cases w with
  |expr=>
   rw[qa,qa];refine OR.bind (g _ _ _ _ .cond hp) fun n p n' p' hn hp=> ?_;dsimp only;refine OR.ite (by rw[qB L hp]) (.mk hn hp) ?_;rcases qaT hn with⟨h1,h2⟩|⟨op,x,y,h1,h2,h3⟩
   ·rw[h1,h2];exact .mk hn (kJ L hp)
   ·rw[h1,h2]
    dsimp only;have hd:=jB (qP hp);refine OR.ite (by rw[hd.err.none_.1]) ?_ (.mk (.ndL h3) (zu hd));exact OR.bind (g _ _ _ _ .expr hd) fun n p n' p' hn hp=> .mk (.ndL (h3.app hn)) (zu hp)
  |cond=>
   rw[qa,qa];refine OR.bind (g _ _ _ _ (.two 0) hp) fun n p n' p' hn hp=> ?_;dsimp only;refine OR.ite (by rw[qB L hp]) (.mk hn hp) ?_;have hd:=jB (qP hp);refine OR.ite (by rw[hd.err.none_.1]) ?_ (.mk (.ndL hn) (zu hd));refine OR.bind (g _ _ _ _ .expr hd) fun x p j p' hx hp=> ?_;exact OR.bind (g _ _ _ _ .cond (qA L hp _)) fun y p t p' q hp=> .mk (.ndL ((hn.app hx).app q)) (zu hp)
  |two m=>
   rw[qa,qa];refine OR.ite rfl (g _ _ _ _ .one hp) ?_;exact OR.bind (g _ _ _ _ (.two (m+1)) hp) fun n p n' p' hn hp=>g _ _ _ _ (.twoL m hn) hp
  | @twoL m n n' hn=>
    rw[qa,qa]
    have e:(xu m).find? (fun x=>qj l p x.1)=(xu m).find? (fun x=>qj l' p' x.1):=by
     congr 1;funext x;exact qB L hp _
    rw[e]
    cases(xu m).find? (fun x=>qj l' p' x.1)with
    |none=>exact .mk hn hp
    |some x=>exact OR.bind (g _ _ _ _ (.two (m+1)) (qP hp)) fun y p t p' q hp=>g _ _ _ _ (.twoL m (.ndL (hn.app q))) hp
  |one=>
   rw[qa,qa];dsimp only;have hd:=jB (qP hp);refine OR.ite (by rw[qB L hp,qaZ L hp 1]) ?_ (OR.ite (by rw[qB L hp]) ?_ (OR.ite (by rw[qB L hp]) ?_ ?_))
   ·have h:=Km (L.at_ (p.pos+1))
    rw[←Nat.add_assoc, ←hp.pos]at h;rcases h with⟨h1,h2⟩|⟨x,y,h1,h2,_,_,h3,h4,h5⟩
    ·rw[h1,h2];exact .mk (.refl _) hp
    ·rw[h1,h2]
     dsimp only;rw[h3,h4,h5];exact g _ _ _ _ (.behind (.nd (.refl _))) (qP (qP hp))
   ·refine OR.ite (by rw[hd.err.none_.1]) ?_ (.mk (.ndL (.refl _)) (zu hd))
    exact OR.bind (g _ _ _ _ .one hd) fun x p j p' hx hp=> .mk (.ndL hx) (zu hp)
   ·refine OR.ite (by rw[hd.err.none_.1]) ?_ (.mk (.ndL (.refl _)) (zu hd))
    exact OR.bind (g _ _ _ _ .one hd) fun x p j p' hx hp=> .mk (.ndL hx) (zu hp)
   ·exact OR.bind (g _ _ _ _ .first hp) fun n p n' p' hn hp=>g _ _ _ _ (.behind hn) hp
  |part=>
   rw[qa,qa];refine OR.ite (by rw[qB L hp]) (g _ _ _ _ (.within _) (qP hp)) ?_;obtain⟨h1,h2⟩:=QH L hp;dsimp only;rw[h1];exact .mk (.nd (.refl _)) h2
  | @behind n n' hn=>
    rw[qa,qa];dsimp only;have hd:=jB (qP hp);refine OR.ite (by rw[hp.err.none_.2]) (.mk hn hp) (OR.ite (by rw[qB L hp]) ?_ (OR.ite (by rw[qB L hp]) ?_ (OR.ite (by rw[qB L hp]) ?_ (.mk hn hp))))
    ·refine OR.ite (by rw[hd.err.none_.1]) ?_ (g _ _ _ _ (.behind (.ndL hn)) (qA L (zu hd) _))
     refine OR.bind (g _ _ _ _ .expr hd) fun x p j p' hx hp=> ?_;dsimp only;refine OR.ite (by rw[qB L hp]) ?_ (g _ _ _ _ (.behind (.ndL (hn.app hx))) (qA L (zu hp) _));exact OR.bind (g _ _ _ _ .expr (qP hp)) fun y p t p' q hp=>g _ _ _ _ (.behind (.ndL ((hn.app hx).app q))) (qA L (zu hp) _)
    ·exact OR.bind (g _ _ _ _ .part (qP hp)) fun x p j p' hx hp=>g _ _ _ _ (.behind (.ndL (hn.app hx))) hp
    ·refine OR.bind (g _ _ _ _ .part (qP hp)) fun x p j p' hx hp=> ?_
     exact OR.bind (g _ _ _ _ (.items _) (qA L hp _)) fun y p t p' q hp=>g _ _ _ _ (.behind (.ndL ((hn.app hx).app q))) hp
  |items e=>
   rw[qa,qa];dsimp only;have hd:=jB hp;refine OR.ite (by rw[hd.err.none_.1,qB L hd]) ?_ (.mk (.refl _) (qA L (zu hd) _));exact OR.bind (g _ _ _ _ (.row (.refl _)) hd) fun x p j p' hx hp=> .mk hx (qA L (zu hp) _)
  | @row n n' hn=>
    rw[qa,qa];dsimp only;refine OR.ite (by rw[hp.err.none_.2]) (.mk hn hp) (OR.ite (by rw[qB L hp]) ?_ ?_)
    ·refine OR.bind (g _ _ _ _ .expr (qP hp)) fun x p j p' hx hp=> ?_
     dsimp only;exact OR.ite (by rw[qB L hp]) (g _ _ _ _ (.row (hn.app (.ndL hx))) (qP hp)) (.mk (hn.app (.ndL hx)) hp)
    ·refine OR.bind (g _ _ _ _ .expr hp) fun x p j p' hx hp=> ?_
     dsimp only;exact OR.ite (by rw[qB L hp]) (g _ _ _ _ (.row (hn.app hx)) (qP hp)) (.mk (hn.app hx) hp)
  |codes=>
   rw[qa,qa];dsimp only;refine OR.ite (by rw[qB L hp]) (.mk (.ndL (.refl _)) (qP hp)) ?_;exact OR.bind (g _ _ _ _ (.codesL (.refl _)) hp) fun x p j p' hx hp=> .mk (.ndL hx) hp
  | @codesL o o' n n' hn=>
    rw[qa,qa];refine OR.ite (by rw[hp.err.none_.2]) (.mk hn hp) ?_;refine OR.bind (g _ _ _ _ .expr hp) fun x p j p' hx hp=> ?_;dsimp only;exact OR.ite (by rw[qB L hp]) (g _ _ _ _ (.codesL (hn.app hx)) (qP hp)) (.mk (hn.app hx) hp)
  |first=>
   rw[qa,qa];dsimp only;have hf:OR k E (some (jw,zd l p)) (some (jw,zd l' p')):= .mk (.refl _) (kJ L hp);have v:=hp.err;have C:=Km (JH L hp);have i:=qP hp
   cases h1:p.err with
   |some a=>
    cases h2:p'.err with
    |none=>rw[h1,h2]at v;cases a<;>cases v
    |some b=>exact hf
   |none=>
    cases h2:p'.err with
    |some b=>rw[h1,h2]at v;cases v
    |none=>
     rcases C with⟨h3,h4⟩|⟨x,y,h3,h4,h5,h6,h7,h8,h9⟩
     ·rw[h3,h4];exact hf
     ·rw[h3,h4]
      dsimp only;rw[h5,h6,h7,h8,h9];refine OR.ite rfl (.mk (.nd (.refl _)) i) (OR.ite rfl ?_ (OR.ite (by rw[qB L hp]) ?_ (OR.ite (by rw[qB L hp]) ?_ (OR.ite (by rw[qB L hp]) ?_ (OR.ite (by rw[qB L hp]) ?_ hf)))))
      ·refine OR.ite (by rw[qB L i]) ?_ (.mk (.nd (.refl _)) i)
       exact OR.bind (g _ _ _ _ (.items _) (qP i)) fun x p j p' hx hp=> .mk (.nd hx) hp
      ·exact OR.bind (g _ _ _ _ (.items _) i) fun x p j p' hx hp=> .mk (.ndL hx) hp
      ·exact g _ _ _ _ (.within _) i
      ·obtain⟨A,B⟩:=QH L i
       rw[A];exact .mk (.ndL (NR.app (.nd (.refl _)) (.nd (.refl _)))) B
      ·exact g _ _ _ _ (.caught _ _) i
  |within e=>
   rw[qa,qa];dsimp only;have hd:=jB hp;refine OR.ite (by rw[hd.err.none_.1]) ?_ (.mk (.refl _) (qA L (zu hd) _));exact OR.bind (g _ _ _ _ .expr hd) fun x p j p' hx hp=> .mk hx (qA L (zu hp) _)
  |caught a b=>
   rw[qa,qa];dsimp only;have hd:=jB hp;refine OR.ite (by rw[hd.err.none_.1]) ?_ (.mk (.ndL (.refl _)) (qA L (zu hd) _));refine OR.bind (g _ _ _ _ .expr hd) fun x p j p' hx hp=> ?_;refine OR.bind (g _ _ _ _ .codes (qA L hp _)) fun y p t p' q hp=> ?_;dsimp only;refine OR.ite (by rw[qB L hp]) ?_ (.mk (.ndL (hx.app q)) (qA L (zu hp) _));exact OR.bind (g _ _ _ _ .expr (qP hp)) fun z p u p' hz hp=> .mk (.ndL ((hx.app q).app hz)) (qA L (zu hp) _)
  |block e=>
   rw[qa,qa];dsimp only;have hd:=jB hp;refine OR.ite (by rw[hd.err.none_.1]) ?_ (.mk (.ndL (.refl _)) (zu hd));exact OR.bind (g _ _ _ _ (.blockL e (.refl _)) hd) fun x p j p' hx hp=> .mk (.ndL hx) (zu hp)
  | @blockL e n n' hn=>
    rw[qa,qa];have e1:(fun e=>qj l p e)=(fun e=>qj l' p' e):=by funext x;exact qB L hp _
    refine OR.ite (by rw[hp.err.none_.2,e1]) (.mk hn hp) (OR.ite ?_ (.mk hn (kJ L hp)) ?_)
    ·rw[L.len,hp.pos];exact propext (by omega)
    ·exact OR.bind (g _ _ _ _ .stmt hp) fun x p j p' hx hp=>g _ _ _ _ (.blockL e (hn.app hx)) hp
  |head=>rw[qa,qa];exact g _ _ _ _ (.within _) (qA L hp _)
  |stmt=>
   rw[qa,qa];dsimp only;have i:=qP hp;refine OR.ite (by rw[qB L hp]) (.mk (.ndL (.refl _)) (qA L i _)) (OR.ite (by rw[qB L hp]) (.mk (.ndL (.refl _)) (qA L i _)) (OR.ite (by rw[qB L hp]) ?_ (OR.ite (by rw[qB L hp]) ?_ (OR.ite (by rw[qB L hp]) ?_ (OR.ite (by rw[qB L hp]) ?_ (OR.ite (by rw[qB L hp]) ?_ (OR.ite (by rw[qB L hp]) ?_ ?_)))))))
   ·refine OR.ite (by rw[qB L i]) (.mk (.ndL (.refl _)) (qA L i _)) ?_
    exact OR.bind (g _ _ _ _ .expr i) fun x p j p' hx hp=> .mk (.ndL hx) (qA L hp _)
   ·refine OR.bind (g _ _ _ _ (.ifsL (.refl _)) i) fun x p j p' hx hp=> ?_
    dsimp only;refine OR.ite (by rw[qB L hp]) ?_ (.mk (.ndL hx) (qA L hp _));exact OR.bind (g _ _ _ _ (.block _) (qP hp)) fun y p t p' q hp=> .mk (.ndL (hx.app q)) (qA L hp _)
   ·obtain⟨A,B⟩:=QH L i
    rw[A];have hm:=qA L B [105,110];have hd:=jB (qP hm);refine OR.ite (by rw[qB L hm]) (OR.ite (by rw[hd.err.none_.1]) ?_ ?_) ?_
    ·refine OR.bind (g _ _ _ _ .expr hd) fun x p j p' hx hp=> ?_
     refine OR.bind (g _ _ _ _ .expr (qA L hp _)) fun y p t p' q hp=> ?_;exact OR.bind (g _ _ _ _ (.block _) (qA L (zu hp) _)) fun z p u p' hz hp=> .mk (.nd ((hx.app q).app hz)) (qA L hp _)
    ·exact OR.bind (g _ _ _ _ (.block _) (qA L (zu hd) _)) fun z p u p' hz hp=> .mk (.nd hz) (qA L hp _)
    ·refine OR.bind (g _ _ _ _ .head hm) fun x p j p' hx hp=> ?_
     exact OR.bind (g _ _ _ _ (.block _) hp) fun z p u p' hz hp=> .mk (.nd (hx.app hz)) (qA L hp _)
   ·refine OR.bind (g _ _ _ _ .head i) fun x p j p' hx hp=> ?_
    exact OR.bind (g _ _ _ _ (.block _) hp) fun z p u p' hz hp=> .mk (.ndL (hx.app hz)) (qA L hp _)
   ·refine OR.bind (g _ _ _ _ .head i) fun x p j p' hx hp=> ?_
    exact OR.bind (g _ _ _ _ (.block _) hp) fun z p u p' hz hp=> .mk (.ndL (hx.app hz)) (qA L hp _)
   ·refine OR.bind (g _ _ _ _ (.block _) i) fun x p j p' hx hp=> ?_
    dsimp only;refine OR.ite (by rw[qB L hp]) ?_ ?_
    ·exact OR.bind (g _ _ _ _ (.block _) (qP hp)) fun y p t p' q hp=> .mk (.ndL (hx.app q)) (qA L hp _)
    ·exact OR.bind (g _ _ _ _ (.tryL (.refl _)) hp) fun y p t p' q hp=> .mk (.ndL (hx.app q)) (qA L hp _)
   ·exact OR.bind (g _ _ _ _ .expr hp) fun x p j p' hx hp=> .mk (.ndL hx) (qA L hp _)
  | @ifsL n n' hn=>
    rw[qa,qa];refine OR.bind (g _ _ _ _ .head hp) fun x p j p' hx hp=> ?_;refine OR.bind (g _ _ _ _ (.block _) hp) fun y p t p' q hp=> ?_;dsimp only;exact OR.ite (by rw[qB L hp]) (g _ _ _ _ (.ifsL ((hn.app hx).app q)) (qP hp)) (.mk ((hn.app hx).app q) hp)
  | @tryL n n' hn=>
    rw[qa,qa];dsimp only;refine OR.ite (by rw[hp.err.none_.2,qB L hp]) (.mk hn hp) ?_;have i:=qP hp
    have w:(if qj l (qb p) [40]=true then((⟨#[]⟩:ByteArray),qb p)else qE l (qb p)).1=(if qj l' (qb p') [40]=true then((⟨#[]⟩:ByteArray),qb p')else qE l' (qb p')).1∧
     PR k E (if qj l (qb p) [40]=true then((⟨#[]⟩:ByteArray),qb p)else qE l (qb p)).2 (if qj l' (qb p') [40]=true then((⟨#[]⟩:ByteArray),qb p')else qE l' (qb p')).2:=by
     rw[qB L i];split
     ·exact⟨rfl,i⟩
     ·exact QH L i
    rw[w.1];have hd:=jB (qA L w.2 [40]);refine OR.ite (by rw[hd.err.none_.1]) ?_ ?_
    ·refine OR.bind (g _ _ _ _ .codes hd) fun x p j p' hx hp=> ?_
     exact OR.bind (g _ _ _ _ (.block _) (qA L (zu hp) _)) fun y p t p' q hp=>g _ _ _ _ (.tryL (hn.app (.nd (hx.app q)))) hp
    ·exact OR.bind (g _ _ _ _ (.block _) (qA L (zu hd) _)) fun y p t p' q hp=>g _ _ _ _ (.tryL (hn.app (.nd q))) hp
theorem K5{k:Nat}{E:Int→Int→Prop}{l l':List Tok}(L:LR k E l l'): ∀(f:Nat)(a a':NL)(p p':PS),NR a a'→PR k E p p'→OR k E (zH l f a p) (zH l' f a' p')
 |0,a,a',p,p',_,_=>trivial
 |f+1,a,a',p,p',hn,hp=>by
  rw[zH,zH];refine OR.ite ?_ (.mk hn hp) ?_
  ·rw[hp.err.none_.2,L.len,hp.pos,show decide (l.length≤p.pos)=decide (k+l.length≤k+p.pos)from by rw[decide_eq_decide];omega]
  ·exact OR.bind (JB L (f+1) _ _ _ _ .stmt hp) fun x p e p' hx hp=>K5 L f _ _ _ _ (hn.app hx) hp
end
def LnS:Int→List N1→NL→Prop
 |_,[],s=>s= .nil
 |L,y::c,s=> ∃z s',s=z.app s'∧Sm z y L∧LnS (L+JM (y.sx 0).st) c s'
theorem LnS.rel: ∀{c:List N1}{L:Int}{s:NL},LnS L c s→rel 0 s=rel 0 (km c)
 | [],L,s,h=>by rw[show s= .nil from h];rfl
 |y::c,L,s,⟨z,s',e,h1,h2⟩=>by rw[e,kb,qgw h1,LnS.rel h2,qcA y c,kb]
theorem LnS.len: ∀{c:List N1}{L:Int}{s:NL},LnS L c s→s.len=c.length
 | [],L,s,h=>by rw[show s= .nil from h];rfl
 |y::c,L,s,⟨z,s',e,⟨sub,h1,_⟩,h2⟩=>by rw[e,NL.len_app,LnS.len h2,h1];simp[NL.len];omega
theorem JC(L:Int): ∀a:NL,(rel L a).len=a.len
 | .nil=>rfl
 | .cons _ _ _ _ _ _ _ _ r=>by rw[rel,NL.len,NL.len,JC L r]
theorem Qw(L:Int): ∀a:NL,(rel L a).tot=a.tot
 | .nil=>rfl
 | .cons _ _ _ _ _ _ _ sub r=>by rw[rel,NL.tot,NL.tot,Qw L sub,Qw L r]
theorem ZH(L:Int): ∀a:NL,(rel L a).deep=a.deep
 | .nil=>rfl
 | .cons _ _ _ _ _ _ _ sub r=>by rw[rel,NL.deep,NL.deep,ZH L sub,ZH L r]
theorem Zp(L:Int): ∀a:NL,(rel L a).fit↔a.fit
 | .nil=>Iff.rfl
 | .cons _ _ s k n t v sub r=>by
   rw[rel];simp only[NL.fit,JC,Zp L sub,Zp L r]
theorem ZI(L:Int): ∀(a:NL)(f:Nat→Nat×Bool)(i:Nat),(zf (rel L a) f i).isNone=(zf a f i).isNone
 | .nil,_,_=>rfl
 | .cons op ln s k n t v sub r,f,i=>by
   rw[rel,zf,zf,JC];by_cases h:jt op s k n t v sub.len (f i).1 (f i).2≠0
   ·rw[if_pos h,if_pos h];rfl
   ·rw[if_neg h,if_neg h]
    have h1:=ZI L sub (zp op sub.len (f i).1 (f i).2) 0
    cases j:zf (rel L sub) (zp op sub.len (f i).1 (f i).2) 0 with
    |none=>
     cases g:zf sub (zp op sub.len (f i).1 (f i).2) 0 with
     |none=>exact ZI L r f (i+1)
     |some e=>rw[j,g]at h1;cases h1
    |some e=>
     cases g:zf sub (zp op sub.len (f i).1 (f i).2) 0 with
     |none=>rw[j,g]at h1;cases h1
     |some e'=>rfl
theorem qbF{a b:NL}(h:rel 0 a=rel 0 b)(role:Nat):zG a role=zG b role:=by
 have: ∀a:NL,zG (rel 0 a) role=zG a role:=fun a=>by unfold zG;rw[Qw,ZH,ZI]
 rw[←this a, ←this b,h]
theorem Kt{a b:NL}(h:rel 0 a=rel 0 b):a.fit↔b.fit:=by rw[←Zp 0 a, ←Zp 0 b,h]
end Go.Proofs.YtggngahmafbihaaGreatDoor
