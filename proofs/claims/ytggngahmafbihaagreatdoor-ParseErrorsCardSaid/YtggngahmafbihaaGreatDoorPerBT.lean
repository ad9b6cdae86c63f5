/- Contracts, and the plain mathematics beneath. -/
import Derived.Test.YtggngahmafbihaaGreatDoorPerBJ
import Derived.Test.YtggngahmafbihaaGreatDoorPerAX
import Derived.Test.YtggngahmafbihaaGreatDoorPerAZ
import Derived.Test.YtggngahmafbihaaGreatDoorPerBO
import Derived.Test.YtggngahmafbihaaGreatDoorPerBN
import Derived.Test.YtggngahmafbihaaGreatDoorPerBH
import Derived.Test.YtggngahmafbihaaGreatDoorPerAW
import Derived.Test.YtggngahmafbihaaGreatDoorPerBM
import Derived.Test.YtggngahmafbihaaGreatDoorPerBI
import Derived.Test.YtggngahmafbihaaGreatDoorPerAY
set_option linter.unusedVariables false
set_option linter.unusedSimpArgs false
set_option maxRecDepth 100000
set_option maxHeartbeats 4000000
namespace Go.Proofs.YtggngahmafbihaaGreatDoor
open Go.RowKit Go.Lib
theorem jc{X:PCtx}{a:Nat}{args:Array Value}{b:Req}{f:Nat}(h:f≤0):zP X a args b f:=fun w p r _ _ _ hr=>by
 obtain rfl:f=0:=by omega
 rw[qa]at hr;cases hr
theorem JQ{X:PCtx}{a:Nat}{args:Array Value}{b:Req}{f:Nat}(h:f≤0):ZP X a args b f:=fun w p r _ _ _ hr=>by
 obtain rfl:f=0:=by omega
 rw[qa]at hr;cases hr
theorem qcb{X:PCtx}{f:Nat}(h:f≤0):qb1 X f:=fun op ln s k n t va vc V sub D w p r _ _ _ _ _ _ _ _ hr=>by
 obtain rfl:f=0:=by omega
 rw[qa]at hr;cases hr
theorem qec(X:PCtx):EC X 0:=
 ⟨fun f h=>jc h,fun f h=>jc h,fun f h k _=>jc h,fun f h=>jc h,fun f h=>jc h,fun f h=>qcb h,fun f h e=>JQ h,fun f h=>JQ h,fun f h=>jc h,fun f h=>jc h,fun f h e=>jc h,fun f h l=>jc h⟩
theorem jS{f F:Nat}(h:f≤F+1):f≤F∨f=F+1:=by omega
theorem qeb(X:PCtx)(F:Nat)(hF:F≤1000000000)(a:EC X F):EC X (F+1) where
 expr f h:=by rcases jS h with h|rfl;exact a.expr f h;exact qa9 X F hF a
 cond f h:=by rcases jS h with h|rfl;exact a.cond f h;exact qa1 X F hF a
 two f h k hk:=by rcases jS h with h|rfl;exact a.two f h k hk;exact qdC X F hF a k hk
 one f h:=by rcases jS h with h|rfl;exact a.one f h;exact qcB X F hF a
 part f h:=by rcases jS h with h|rfl;exact a.part f h;exact qbz X F hF a
 behind f h:=by rcases jS h with h|rfl;exact a.behind f h;exact Kn X F hF a
 items f h e:=by rcases jS h with h|rfl;exact a.items f h e;exact qat X F hF a e
 row f h:=by rcases jS h with h|rfl;exact a.row f h;exact qdg X F hF a
 codes f h:=by rcases jS h with h|rfl;exact a.codes f h;exact qaj X F hF a
 first f h:=by rcases jS h with h|rfl;exact a.first f h;exact qar X F hF a
 within f h e:=by rcases jS h with h|rfl;exact a.within f h e;exact KG X F hF a e
 caught f h ln:=by rcases jS h with h|rfl;exact a.caught f h ln;exact Ko X F hF a ln
theorem Xz(X:PCtx): ∀F,F≤1000000001→EC X F
 |0,_=>qec X
 |F+1,h=>qeb X F (by omega) (Xz X F (by omega))
theorem qcl(X:PCtx)(f:Nat)(hf:f≤1000000000)(w:World)(p:PS)(r:NL×PS)(h:PSt w X p)(h0:0≤p.deep)(h1:p.deep≤160)(hr:qa X.l f .expr p=some r):
 Calls Tryz.prog 26 #[.pointer (some ⟨X.P,0,none⟩)] w (PNd X (fun k=>w.heap.size≤k) w p f r):=
 (Xz X f (by omega)).expr f (Nat.le_refl _) w p r h h0 h1 hr
def qap(l:List Tok)(p:PS):PS:=if p.pos<l.length then zd l p else p
def qfk(n:NL)(w:World)(e:Ending)(w':World):Prop:=
 ∃(op ln:Int)(s:ByteArray)(k m:Int)(t:ByteArray)(va:Option Addr)(vc:Nat)(V:Value)(sub:NL),n=nd op ln s k m t sub∧e= .returned (.tuple #[.agg (qN op ln s k m t va vc V),.nilIface])∧OwnN w' (fun k=>w.heap.size<k) V sub∧Below w.heap.size w w'
theorem Xc{m:Func}{p u:Tmp}{Q:Ending→World→Prop}{j:Act}{w:World}(h:m.results= #[.cell p 31,.tmp u])(g:Nat)(hp:j.tmps.getD p undef= .pointer (some ⟨g,0,none⟩))(hd:j.defers= [])
 {a b c d e f k i:Value} (l:NdB w g a b c d e f k i) (r:Q (.returned (.tuple #[.agg #[a,b,c,d,e,f,k,i],j.tmps.getD u undef])) w):bodyPost Tryz.prog m Q .ret j w:=by
 refine bodyPost_ret (v:= .tuple #[.agg #[a,b,c,d,e,f,k,i],j.tmps.getD u undef]) ?_ hd r;have n:=l.c0;have c1:=l.c1;have c2:=l.c2;have c3:=l.c3;have c4:=l.c4;have c5:=l.c5;have o:=l.c6;have q:=l.c7;have hp':(j.tmps[p]?).getD undef= .pointer (some ⟨g,0,none⟩):=by simpa using hp
 simp[results,h,hp',go_sem,n,c1,c2,c3,c4,c5,o,q]
theorem JS{a w w':World}{X:PCtx}{p:PS}(h:Mvd w w' X p)(b:a.heap.size≤X.P)(hb:Below a.heap.size a w):Below a.heap.size a w':=
 hb.trans ⟨h.grown.os,h.grown.tape,h.grown.output,h.grown.size,fun k hk=>h.grown.block k (by have:=hb.size;omega) (fun e=>by injection e with e;omega)⟩
theorem Z6{a:World}{g cap:Nat}{l:List Tok}{ea:Nat→Addr}(b:ErrsAt a ea)(hg:g<a.heap.size)(hl:l.length≤1000000)(d: ∀j t,l[j]?=some t→ ∃sa sc,TkIn a g (7*j) t sa sc):
 PSt (a.alloc (.cells #[.slice (some ⟨g,0,none⟩) l.length cap,.int .i64 0,.int .i64 0,.nilIface] 65)) ⟨a.heap.size,some ⟨g,0,none⟩,cap,l,ea⟩ ⟨0,0,none⟩:=by
 have hb:Below a.heap.size a (a.alloc (.cells #[.slice (some ⟨g,0,none⟩) l.length cap,.int .i64 0,.int .i64 0,.nilIface] 65)):=(Below.refl _ _).alloc (Nat.le_refl _) _;refine⟨⟨.nilIface,heap_alloc_new a _,rfl⟩,fun j t c=> ?_,b.below hb (Nat.le_of_lt b.room),b.room,Nat.zero_le _,hl⟩;obtain⟨sa,sc,h⟩:=d j t c;exact⟨g,sa,sc,rfl,hg,h.below hb hg⟩
theorem qaE(s:ByteArray)(l:List Tok)(F:Nat)(n:NL)(K:PS)(ea:Nat→Addr)(w:World)(he:LxEnv w ea)(hsz:s.size≤32768)(B:xP s= .inr l)(hl0:0<l.length)(hl:l.length≤1000000)(hF:F≤1000000000)(hr:qa l F .expr ⟨0,0,none⟩=some (n,K))(c:(qap l K).err=none)(i:zG n 0=true)(C:n.fit):
 Calls Tryz.prog 11 #[.string s] w (qfk n w):=by
 obtain⟨wa,z⟩: ∃wa,wa=w.alloc (.cells #[.int .i64 0,.int .i64 0,.string ⟨#[]⟩,.int .i64 0,.int .i64 0,.string ⟨#[]⟩,.slice none 0 0,.slice none 0 0] 31):=⟨_,rfl⟩
 have E:Below w.heap.size w wa:=by rw[z];exact(Below.refl _ _).alloc (Nat.le_refl _) _
 have hsa:wa.heap.size=w.heap.size+1:=by rw[z];simp
 have HZ:=hid (show zN wa w.heap.size by rw[z];exact zN.new w);have I:=he.below E (Nat.le_of_lt he.err.room);have AC:=hid (Xn ea wa I hsz B hl0);have T:=hid I;have S:=hid E;have HWA:=hid z;have HPR:=hid hr;have HLL:=hid hl
 have J: ¬K.pos<l.length:=by
  intro h;unfold qap at c;rw[if_pos h]at c
  cases G:K.err with
  |none=>rw[ZW G]at c;cases c
  |some x=>rw[ZX G,G]at c;cases c
 have aa:K.err=none:=by
  unfold qap at c;rw[if_neg J]at c;exact c
 have HE1:=hid aa;have HRI:=hid i;have HFI:=hid C;have hlt: ¬(K.pos:Int)<(l.length:Int):=by omega
 clear c aa i C;clear E z I he B hr;go_enter Tryz.func11,Tryz.ntmps11
 go_wp2_with fail
 rw[←HWA.out];refine AC.out.mono ?_;rintro e L ⟨g,cap,rfl,hg1,hg2,q,hcap,ht⟩;have hz1:=q.size;have N:=hid (S.out.trans (qc q S.out.size));have HZ1:=hid (HZ.out.below' q);have v:=Z6 (cap:=cap) (ea:=ea) ((T.out.below q (by have:=T.out.err.room;omega)).err) hg2 hl ht;obtain⟨X,hX⟩: ∃X:PCtx,X=⟨L.heap.size,some ⟨g,0,none⟩,cap,l,ea⟩:=⟨_,rfl⟩
 have p:X.P=L.heap.size:=by rw[hX]
 have D:X.l=l:=by rw[hX]
 have hXe:X.ea=ea:=by rw[hX]
 rw[←hX]at v;obtain⟨w2,y⟩: ∃w2,w2=L.alloc (.cells #[.slice (some ⟨g,0,none⟩) l.length cap,.int .i64 0,.int .i64 0,.nilIface] 65):=⟨_,rfl⟩
 rw[←y]at v;have r:Below L.heap.size L w2:=by rw[y];exact(Below.refl _ _).alloc (Nat.le_refl _) _
 have hs2:w2.heap.size=L.heap.size+1:=by rw[y];simp
 have Z:=hid (HZ1.out.below' r);have O:=hid (N.out.trans (qc r N.out.size));have M:=hid (qcl X F hF w2 ⟨0,0,none⟩ (n,K) v (by decide) (by decide) (by rw[D];exact HPR.out));rw[p]at M;have HST:=hid v;have HW2:=hid y;have HXl:=hid D;have HXe:=hid hXe;have HXP:=hid p;clear v y q r ht hcap hX D hXe p;go_wp2_with fail
 rw[←HW2.out];refine M.out.mono ?_;rintro e w3 ⟨op,ln,t,k,m,u,va,vc,V,sub,hn,rfl,hm,ho,hk,hln,hd⟩;obtain⟨AV,CV,rfl⟩:=ho.form;have hn':n=nd op ln t k m u sub:=hn;unfold qN;subst hn';have p:=HXP.out;have hz3:=hm.grown.size;have hPw:w.heap.size<X.P:=by omega
 have HZ3:=hid (show zN w3 w.heap.size from(hm.grown.block _ (by have:=Z.out.lt;omega) (fun e=>by injection e with e;omega)).trans Z.out);have Q:=hid (JS hm (Nat.le_of_lt hPw) O.out);obtain⟨w4,A⟩: ∃w4,w4=w3.alloc (.cells #[.int .i64 op,.int .i64 ln,.string t,.int .i64 k,.int .i64 m,.string u,.slice va 0 vc,.slice AV sub.len CV] 31):=⟨_,rfl⟩
 have j:Below w3.heap.size w3 w4:=by rw[A];exact(Below.refl _ _).alloc (Nat.le_refl _) _
 have U:=hid (hm.below j);have HZ4:=hid (show zN w4 w.heap.size from HZ3.out.below' j);have R:=hid (Q.out.trans (qc j Q.out.size));have d:=hid (show NdB w4 w3.heap.size (.int .i64 op) (.int .i64 ln) (.string t) (.int .i64 k) (.int .i64 m) (.string u) (.slice va 0 vc) (.slice AV sub.len CV)by rw[A];exact NdB.new _ _ _ _ _ _ _ _ _);have hs4:=j.size;have W:=hid (ho.below j);have Y:=hid A;have HKK:=hid hk;have HHD:=hid hd;clear hn hm ho hk hd A j;obtain⟨ev,hP,hE⟩:=U.out.st.at_;have c1:=hP.c1;have c3:=hP.c3;rw[p]at c1 c3;have c3w:=c3;rw[Y.out]at c1 c3;rw[HE1.out]at hE;obtain rfl:ev= .nilIface:=hE;have H:=U.out.st.er;rw[HXe.out]at H;obtain⟨A9,c9,ab,hc9,_,hr9⟩:=W.out.kids;simp only[Value.slice.injEq,true_and]at ab;obtain⟨e1,e2⟩:=ab;subst e1;subst e2;have TC:=hid (qee op ln t k m u .nil va vc sub AV CV ea w4 H HFI.out (Nat.zero_le _) hc9 trivial (hr9.wide (fun b hb=>hb.2)));have q0:=d.out.c0;have q1:=d.out.c1;have q2:=d.out.c2;have q3:=d.out.c3;have q4:=d.out.c4;have q5:=d.out.c5;have q6:=d.out.c6;have q7:=d.out.c7;clear hP H hr9;go_wp2_with fail
 rw[←Y.out];refine TC.out.mono ?_;intro e w5 hpv;obtain⟨o,rfl⟩:=hpv.right HRI.out;have HB5:=hid (R.out.trans (qc o R.out.size));have a:=hid (show zN w5 w.heap.size from HZ4.out.below' o);have f:=hid (d.out.below' o);have HO5:=hid (W.out.below o);have hz5:=o.size;clear o hpv q0 q1 q2 q3 q4 q5 q6 q7 c1 c3;have q0:=f.out.c0;have q1:=f.out.c1;have q2:=f.out.c2;have q3:=f.out.c3;have q4:=f.out.c4;have q5:=f.out.c5;have q6:=f.out.c6;have q7:=f.out.c7;have g0:=a.out.c0;have g1:=a.out.c1;have g2:=a.out.c2;have g3:=a.out.c3;have g4:=a.out.c4;have g5:=a.out.c5;have g6:=a.out.c6;have g7:=a.out.c7;have j0:=a.out.fr 0;have j1:=a.out.fr 1;have j2:=a.out.fr 2;have j3:=a.out.fr 3;have j4:=a.out.fr 4;have j5:=a.out.fr 5;have j6:=a.out.fr 6;have j7:=a.out.fr 7;go_wp2_with fail
 refine Xc Tryz.results11 w.heap.size rfl rfl (a.out.set8 _ _ _ _ _ _ _ _) ?_;have hkb:=qe w5 w.heap.size (.int .i64 op) (.int .i64 ln) (.string t) (.int .i64 k) (.int .i64 m) (.string u) (.slice va 0 vc) (.slice AV sub.len CV);refine⟨op,ln,t,k,m,u,va,vc,_,sub,rfl,rfl,(HO5.out.keep (fun b hb r=>hkb.block b r (fun e=>by injection e with e;have:w2.heap.size≤b:=hb;have:=O.out.size;omega)) hkb.size).wide (fun b hb _=>by have:w2.heap.size≤b:=hb;omega),JL HB5.out (Nat.le_refl _) _ _ _ _ _ _ _ _⟩
def Zg:List Tok:= [⟨4,1,⟨#[36]⟩,0,0,⟨#[]⟩⟩,⟨1,1,⟨#[120]⟩,0,0,⟨#[]⟩⟩]
theorem qam:(match xP ⟨#[36,120]⟩with| .inr l=>Xi l Zg|_=>false)=true:=by decide+kernel
theorem qal:xP ⟨#[36,120]⟩= .inr Zg:=by
 have h:=qam;split at h
 ·rename_i l e;rw[e,Kk _ _ h]
 ·cases h
def Zf:NL:=(nd 1 1 ⟨#[]⟩ 1 0 ⟨#[]⟩ .nil).app (nd 1 1 ⟨#[]⟩ 2 0 ⟨#[120]⟩ .nil)
def kA:NL:=ndL 22 1 Zf
theorem qao:qa Zg 60 .expr ⟨0,0,none⟩=some (kA,⟨2,0,none⟩):=by kernel_rfl
theorem Xx:zG kA 0=true:=by decide+kernel
theorem qan:kA.fit:=by
 simp[kA,Zf,ndL,nd,NL.app,NL.fit,NL.len,VL.len,VL.fit,ByteArray.size]
theorem qcH(ea:Nat→Addr)(w:World)(G:LxEnv w ea):Calls Tryz.prog 9 #[] w fun e w'=>e= .returned (.bool true)∧Below w.heap.size w w':=by
 have J:=hid (qaE ⟨#[36,120]⟩ Zg 60 kA ⟨2,0,none⟩ ea w G (by decide) qal (by decide) (by decide) (by decide) qao rfl Xx qan);clear G;go_enter Tryz.func9,Tryz.ntmps9
 go_wp2_with fail
 refine J.out.mono ?_;rintro e w1 ⟨op,ln,s,k,m,t,va,vc,V,sub,hn,rfl,H,hb⟩;unfold kA ndL nd at hn;simp only[NL.cons.injEq,and_true,true_and]at hn;obtain⟨rfl,rfl,rfl,rfl,rfl,rfl,rfl⟩:=hn;obtain⟨A,c,rfl,hc,_,hr⟩:=H.kids;obtain⟨b,o,op0,ln0,s0,k0,n0,t0,v0,sub0,Q,S,M,O,hA,D,a,f,h,j,g,l,n,p,_,_,q,_,_⟩:=hr.nth (i:=0) (by decide);obtain⟨b',o',L,K,X,U,W,Y,Z,I,R,T,N,P,hA1,E,d,r,u,v,x,y,z,B,_,_,C,_,_⟩:=hr.nth (i:=1) (by decide);rw[hA]at hA1;injection hA1 with hA1
 injection hA1 with e1 e2
 subst e1;subst e2;unfold Zf nd at a d;simp only[NL.app,NL.drop,NL.cons.injEq,and_true]at a d;obtain⟨rfl,rfl,rfl,rfl,rfl,rfl,rfl,rfl⟩:=a;obtain⟨rfl,rfl,rfl,rfl,rfl,rfl,rfl,rfl⟩:=d;subst hA;rw[Nat.zero_mul,Nat.add_zero]at f g;have x0:=fun o=>qq f o;have x3:=fun o=>qq g o;have x5:=fun o=>qq z o;have F:=hid hb;rw[show Zf.len=2 from rfl];unfold qN;clear H hr hb h j l n p q r u v x y B C hc D E;go_wp2_with fail
 go_ret
 exact⟨rfl,F.out.alloc F.out.size _⟩
end Go.Proofs.YtggngahmafbihaaGreatDoor
