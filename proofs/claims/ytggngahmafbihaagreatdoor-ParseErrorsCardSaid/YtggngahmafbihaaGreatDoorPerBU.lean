/- Contracts, and the plain mathematics beneath. -/
import Derived.Test.YtggngahmafbihaaGreatDoorPerBR
import Derived.Test.YtggngahmafbihaaGreatDoorPerBA
import Derived.Test.YtggngahmafbihaaGreatDoorPerBL
import Derived.Test.YtggngahmafbihaaGreatDoorPerBK
import Derived.Test.YtggngahmafbihaaGreatDoorPerBP
import Derived.Test.YtggngahmafbihaaGreatDoorPerBQ
import Derived.Test.YtggngahmafbihaaGreatDoorPerBT
import Derived.Test.YtggngahmafbihaaGreatDoorPerBS
set_option linter.unusedVariables false
set_option linter.unusedSimpArgs false
set_option maxRecDepth 100000
set_option maxHeartbeats 8000000
namespace Go.Proofs.YtggngahmafbihaaGreatDoor
open Go.RowKit Go.Lib
theorem bind_some{α β:Type}{a:Option α}{F:α→Option β}{r:β}(h:a.bind F=some r): ∃x,a=some x∧F x=some r:=by
 cases a with
 |none=>cases h
 |some x=>exact⟨x,rfl,h⟩
theorem qaF(X:PCtx)(F:Nat)(hF:F≤1000000000)(e:EC X F)(f:SC X F):zP X 36 #[] .stmt (F+1):=by
 intro w p r a h0 h1 hr;show Calls Tryz.prog 36 #[.pointer (some ⟨X.P,0,none⟩)] w (PNd X (fun k=>w.heap.size≤k) w p (F+1) r)
 cases b:qj X.l p [98,114,101,97,107]with
 |true=>
  rw[qa]at hr;simp only[b,if_true]at hr;exact Ke X F hF e f w p r a h0 h1 b (Option.some.inj hr).symm
 |false=>
 cases c:qj X.l p [99,111,110,116,105,110,117,101]with
 |true=>
  rw[qa]at hr;simp only[b,c,Bool.false_eq_true,if_false,if_true]at hr;exact Jb X F hF e f w p r a h0 h1 b c (Option.some.inj hr).symm
 |false=>
 cases d:qj X.l p [114,101,116,117,114,110]with
 |true=>
  rw[qa]at hr;simp only[b,c,d,Bool.false_eq_true,if_false,if_true]at hr
  cases hs:qj X.l (qb p) [59]with
  |true=>
   simp only[hs,if_true]at hr;exact KD X F hF e f w p r a h0 h1 b c d hs (Option.some.inj hr).symm
  |false=>
   simp only[hs,Bool.false_eq_true,if_false]at hr;obtain⟨⟨n,t⟩,j,hr⟩:=bind_some hr;exact KE X F hF e f w p r a h0 h1 b c d hs n t j (Option.some.inj hr).symm
 |false=>
 cases g:qj X.l p [105,102]with
 |true=>
  rw[qgu b c d g]at hr;obtain⟨x,s,o,q,h3,h4⟩:=ZF hr;exact qbR X F hF e f w p r a h0 h1 b c d g _ (qcn X F hF e f) x s o q h3 (by rw[qgR h3];decide) h4
 |false=>
 cases h:qj X.l p [102,111,114]with
 |true=>
  rw[qeP b c d g h]at hr;obtain⟨x,s,o,q,h3,h4⟩:=ZF hr;exact qaO X F hF e f w p r a h0 h1 b c d g h _ (qbj X F hF e f) x s o q h3 (by rcases qfJ h3 with rfl|rfl<;>decide) h4
 |false=>
 cases i:qj X.l p [119,104,105,108,101]with
 |true=>
  rw[qa]at hr;simp only[b,c,d,g,h,i,Bool.false_eq_true,if_false,if_true]at hr;obtain⟨⟨n,t⟩,j,hr⟩:=bind_some hr;obtain⟨⟨y,z⟩,m,hr⟩:=bind_some hr;exact Kf X F hF e f w p r a h0 h1 b c d g h i n y t z j m (Option.some.inj hr).symm
 |false=>
 cases u:qj X.l p [102,111,114,107]with
 |true=>
  rw[qa]at hr;simp only[b,c,d,g,h,i,u,Bool.false_eq_true,if_false,if_true]at hr;obtain⟨⟨n,t⟩,j,hr⟩:=bind_some hr;obtain⟨⟨y,z⟩,m,hr⟩:=bind_some hr;exact Kz X F hF e f w p r a h0 h1 b c d g h i u n y t z j m (Option.some.inj hr).symm
 |false=>
 cases v:qj X.l p [116,114,121]with
 |true=>
  rw[qeQ b c d g h i u v]at hr;obtain⟨x,s,o,q,h3,h4⟩:=ZF hr;exact qaP X F hF e f w p r a h0 h1 b c d g h i u v _ (qdz X F hF e f) x s o q h3 (by rcases qhd h3 with rfl|rfl<;>decide) h4
 |false=>
  rw[qa]at hr;simp only[b,c,d,g,h,i,u,v,Bool.false_eq_true,if_false]at hr;obtain⟨⟨n,t⟩,j,hr⟩:=bind_some hr;exact qbQ X F hF e f w p r a h0 h1 b c d g h i u v n t j (Option.some.inj hr).symm
theorem qah{X:PCtx}{f:Nat}(h:f≤0):Jn X f:=fun es G w p r _ _ _ _ _ _ hr=>by
 obtain rfl:f=0:=by omega
 rw[qa]at hr;cases hr
theorem qbO(X:PCtx): ∀F,F≤1000000001→SC X F
 |0,_=>⟨fun f h=>jc h,fun f h=>qah h,fun f h=>jc h⟩
 |F+1,h=>by
  have b:=qbO X F (by omega);have c:=Xz X F (by omega);refine⟨fun f a=> ?_,fun f a=> ?_,fun f a=> ?_⟩
  ·rcases jS a with a|rfl
   ·exact b.head f a
   ·exact qba X F (by omega) c b
  ·rcases jS a with a|rfl
   ·exact b.block f a
   ·exact qag X F (by omega) c b
  ·rcases jS a with a|rfl
   ·exact b.stmt f a
   ·exact qaF X F (by omega) c b
theorem qbD(X:PCtx)(f:Nat)(hf:f≤1000000000)(w:World)(p:PS)(r:NL×PS)(h:PSt w X p)(h0:0≤p.deep)(h1:p.deep≤160)(hr:qa X.l f .stmt p=some r):
 Calls Tryz.prog 36 #[.pointer (some ⟨X.P,0,none⟩)] w (PNd X (fun k=>w.heap.size≤k) w p f r):=
 (qbO X f (by omega)).stmt f (Nat.le_refl _) w p r h h0 h1 hr
theorem qd1{s:ByteArray}{l:List Tok}(ea:Nat→Addr)(w:World)(d:LxEnv w ea)(hb:s.size≤32768)(h:xP s= .inr l)(hl:l.length≤1000000):
 Calls Tryz.prog 20 #[.string s] w fun e b=> ∃(A:Option Addr)(cap:Nat),e= .returned (.tuple #[.slice A l.length cap,.nilIface])∧Below w.heap.size w b∧
  PSt (b.alloc (.cells #[.slice A l.length cap,.int .i64 0,.int .i64 0,.nilIface] 65)) ⟨b.heap.size,A,cap,l,ea⟩ ⟨0,0,none⟩:=by
 have k:=d.err.room;by_cases h0:0<l.length
 ·refine(Xn ea w d hb h h0).mono ?_
  rintro e b ⟨g,cap,rfl,n,i,a,m,p⟩;exact⟨_,_,rfl,a,Z6 (d.below a (by omega)).err i hl p⟩
 ·obtain rfl:l= []:=List.length_eq_zero_iff.1 (by omega)
  refine(qb7 ea w d hb h).mono ?_;rintro e b ⟨⟨A,C,rfl⟩,a⟩;have f:Below b.heap.size b (b.alloc (.cells #[.slice A 0 C,.int .i64 0,.int .i64 0,.nilIface] 65)):=(Below.refl _ _).alloc (Nat.le_refl _) _;have c:=(d.below a (by omega)).err;exact⟨A,C,rfl,a,⟨.nilIface,heap_alloc_new b _,rfl⟩,fun j t o=>by simp at o,c.below f (Nat.le_of_lt c.room),c.room,Nat.zero_le _,hl⟩
def Q9(ea:Nat→Addr)(n:NL)(b:PS)(w:World)(e:Ending)(w':World):Prop:=
 match b.err with
 |some none=>e= .returned (.tuple #[.slice none 0 0,.iface 270 (.pointer (some (ea 112)))])∧Below w.heap.size w w'
 |some (some line)=> ∃A,w.heap.size≤A∧e= .returned (.tuple #[.slice none 0 0,.iface 70 (.pointer (some ⟨A,0,none⟩))])∧Below w.heap.size w w'∧w'.heap[A]?=some (.cells #[.int .i64 line,.iface 270 (.pointer (some (ea 111)))] 73 (0,0))
 |none=>if zG n 7 then ∃V,e= .returned (.tuple #[V,.nilIface])∧OwnN w' (fun k=>w.heap.size≤k) V n∧Below w.heap.size w w'
  else ∃a w0,e= .returned (.tuple #[.slice none 0 0,a])∧Below w.heap.size w w0∧PV w0 ea n 7 (.returned a) w'
theorem qbY{l:NL}{A:Option Addr}{c:Nat}{ea:Nat→Addr}{w:World}{b:Bool}(h:Calls Tryz.prog 37 #[.slice A l.len c] w (PV w ea l 7))(hb:zG l 7=b):
 Calls Tryz.prog 37 #[.slice A l.len c] w fun e w'=> ∃d,e= .returned d∧PV w ea l 7 (.returned d) w'∧(b=true→d= .nilIface∧Below w.heap.size w w')∧(b=false→ ∃t a,d= .iface t (.pointer (some a))):=h.mono fun e w' hp=>by
 cases b with
 |true=>
  obtain⟨h1,rfl⟩:=hp.right hb;exact⟨_,rfl,hp,fun _=>⟨rfl,h1⟩,fun h=>(by cases h)⟩
 |false=>
  obtain⟨h1,t,a,rfl⟩:=hp.wrong hb;exact⟨_,rfl,hp,fun h=>(by cases h),fun _=>⟨t,a,rfl⟩⟩
theorem K4(s:ByteArray)(l:List Tok)(F:Nat)(n:NL)(p1:PS)(ea:Nat→Addr)(w:World)(d:LxEnv w ea)(hsz:s.size≤32768)(L:xP s= .inr l)(hl:l.length≤1000000)(hF:F≤1000000000)(hr:zH l F .nil ⟨0,0,none⟩=some (n,p1))(N:p1.err=none→n.fit):
 Calls Tryz.prog 15 #[.string s] w (Q9 ea n p1 w):=by
 have hroom:=d.err.room;obtain⟨i0,hi0,hz0,hz1,hz2⟩:=info_parts qz;have AC:=hid (qd1 ea w d hsz L hl);have HEA:=hid d;have HFI:=hid N;obtain⟨p,hp⟩: ∃p:PS,p=⟨0,0,none⟩:=⟨_,rfl⟩
 have h0:0≤p.deep:=by rw[hp];decide
 have h1:p.deep≤0:=by rw[hp];decide
 rw[←hp]at hr;have HPR:=hid hr;have HPP:=hid hp;clear d L hr N hp;go_enter Tryz.func15,Tryz.ntmps15
 go_wp2_with fail
 refine AC.out.mono ?_;rintro e O ⟨A,cap,rfl,R,j⟩;have hz1':=R.size;have aa:=hid R;rw[←HPP.out]at j;obtain⟨X,hX⟩: ∃X:PCtx,X=⟨O.heap.size,A,cap,l,ea⟩:=⟨_,rfl⟩
 have I:X.P=O.heap.size:=by rw[hX]
 have J:X.l=l:=by rw[hX]
 have hXe:X.ea=ea:=by rw[hX]
 rw[←hX]at j;obtain⟨w2,C⟩: ∃w2,w2=O.alloc (.cells #[.slice A l.length cap,.int .i64 0,.int .i64 0,.nilIface] 65):=⟨_,rfl⟩
 rw[←C]at j;have hb2:Below O.heap.size O w2:=by rw[C];exact(Below.refl _ _).alloc (Nat.le_refl _) _
 have hs2:w2.heap.size=O.heap.size+1:=by rw[C];simp
 have HB2:=hid (aa.out.trans (qc hb2 aa.out.size));have HM2:=hid (Mvd.of j);have HW2:=hid C;have HXl:=hid J;have Q:=hid hXe;have hPl:=j.lt;have HPR2:=hid (show zH X.l F .nil p=some (n,p1)by rw[J];exact HPR.out);have hXn:X.l.length=l.length:=by rw[J]
 have HXN:=hid hXn;have HXPh:=hid I;have hXP1:X.P≤O.heap.size:=Nat.le_of_eq I;have hXP2:O.heap.size≤X.P:=Nat.le_of_eq I.symm;clear j C R hb2 hX J hXe hXn I;go_wp2_with fail
 rw[←HW2.out, ←HXPh.out];go_loopg [7] F (fun kk ov wr=> ∃(V:Value)(q:PS)(acc:NL),V=ov∧acc.len+kk≤F∧q.deep=p.deep∧w2.heap.size≤wr.heap.size∧Hid (Mvd w2 wr X q)∧Hid (OwnN wr (DG w2.heap.size 0) V acc)∧Hid (qQ acc)∧Hid (zH X.l kk acc q=some (n,p1)))
 case atStart=>exact⟨_,p,.nil,rfl,by show 0+F≤_;omega,rfl,Nat.le_refl _,HM2,hid (OwnN.nil _ _),hid trivial,HPR2⟩
 case round=>
  obtain⟨V,q,acc,rfl,hal,hqd,hs0,HM,HO,HK,HQ⟩:=hrel;obtain⟨AV,CV,hVf⟩:=HO.out.form;subst hVf
  cases gk with
  |zero=>have h:=HQ.out;rw[zH]at h;cases h
  |succ k=>
  have hr:=HQ.out;rw[zH]at hr;obtain⟨ev,hP,H⟩:=HM.out.st.at_;have c3:=hP.c3;have c1:=hP.c1;have m:=hid (JS HM.out (by omega) HB2.out);clear HQ;have c: ∀(y:NL×PS),y=(n,p1)→y.1=n∧y.2=p1:=fun y e=>by rw[e];exact⟨rfl,rfl⟩
  cases d:q.err with
  |some x=>
   rw[d]at H;have hE0:=H;obtain⟨ty,ve,rfl⟩:=jb H;replace hr:some (acc,q)=some (n,p1):=by rw[←hr];simp only[d];rfl
   obtain⟨D,f⟩:=c _ (Option.some.inj hr);replace f:q=p1:=f;subst f;have o:=hid d;have HE0:=hid hE0;clear hP H d hr c hE0 D;go_upto_region 9 with fail
   go_region
   all_goals
    go_wp2_with fail
    go_ret2
    have H:=HE0.out;unfold Q9;rw[o.out]
    cases x with
    |none=>
     injection H with hty hve
     subst hty;subst hve;exact⟨by rw[Q.out];rfl,m.out.drew⟩
    |some line=>
     obtain⟨A9,h9,h10,h11⟩:=H;injection h10 with hty hve
     subst hty;subst hve;exact⟨A9,by omega,rfl,m.out.drew,by rw[←Q.out];exact h11⟩
  |none=>
   rw[d]at H;obtain rfl:ev= .nilIface:=H;by_cases hlt:X.l.length≤q.pos
   ·replace hr:some (acc,q)=some (n,p1):=by rw[←hr,d,show decide (X.l.length≤q.pos)=true from decide_eq_true hlt];rfl
    obtain⟨D,f⟩:=c _ (Option.some.inj hr);replace f:q=p1:=f;replace D:acc=n:=D;subst f;subst D;have hle2: ¬(q.pos:Int)<(l.length:Int):=by rw[←HXN.out];omega
    have o:=hid d;have hef:=HM.out.st.er;obtain⟨A7,C7,e7,hc7,ha7,hr7⟩:=HO.out.kids;simp only[Value.slice.injEq,true_and]at e7;obtain⟨rfl,rfl⟩:=e7;have hfl:acc.len≤140737488351232:=by omega
    obtain⟨b,hb⟩: ∃b,zG acc 7=b:=⟨_,rfl⟩
    have VC:=hid (qbY (qb2 acc AV CV X.ea wr hef (HFI.out o.out) hfl hc7 (hr7.keep (fun _ _=>rfl) (fun k hk=>hk.2))) hb);have HRB:=hid hb;clear hP hr c d hef hc7 ha7 hr7 hfl hb;go_wp2_with fail
    refine VC.out.mono ?_;rintro e w3 ⟨ev,rfl,T,ht,hf⟩
    cases b with
    |true=>
     obtain⟨rfl,S⟩:=ht rfl;have HO3:=hid (HO.out.below S);have HB3:=hid (m.out.trans (qc S m.out.size));clear T ht hf S;go_wp2_with fail
     go_ret2
     unfold Q9;rw[o.out];simp only[HRB.out,if_true];exact⟨_,rfl,HO3.out.wide (fun k hk _=>by have:=hk.1;omega),HB3.out⟩
    |false=>
     obtain⟨t,a,rfl⟩:=hf rfl;have HPV:=hid T;clear T ht hf;go_wp2_with fail
     go_ret2
     unfold Q9;rw[o.out];simp only[HRB.out,Bool.false_eq_true,if_false];exact⟨_,wr,rfl,m.out,by rw[←Q.out];exact HPV.out⟩
   ·have hle2:(q.pos:Int)<(l.length:Int):=by rw[←HXN.out];omega
    replace hr:((qa X.l (k+1) .stmt q).bind fun(x,p)=>zH X.l k (acc.app x) p)=some (n,p1):=by rw[←hr,d,show decide (X.l.length≤q.pos)=false from decide_eq_false hlt];rfl
    cases K:qa X.l (k+1) .stmt q with
    |none=>rw[K]at hr;cases hr
    |some q5=>
    obtain⟨n5,p5⟩:=q5;rw[K]at hr;replace hr:zH X.l k (acc.app n5) p5=some (n,p1):=hr;have HQ5:=hid K;clear K;have HQ2:=hid hr;clear hr c hP d;go_wp2_with fail
    refine(qbD X (k+1) (by omega) wr _ _ HM.out.st (by first|omega|(simp<;>omega)) (by first|omega|(simp<;>omega)) HQ5.out).mono ?_;rintro e21 w21 ⟨G,E,Y,U,W,u21,va21,vc21,V21,sub21,v,rfl,i,z,u,hl21,M⟩;obtain⟨A21,cc21,rfl⟩:=z.form;have v:n5=nd G E Y U W u21 sub21:=v;subst v;have u:=hid u;have M:p5.deep=p.deep+0:=by have h:p5.deep=q.deep:=M;(try simp at h);omega
    have HM21:=hid (HM.out.trans i);have hs21:=i.grown.size;have r:=hid (OwnN.grown HO.out i.grown (DG.not (by omega)));have HO21:=hid (z.wide (D':=DG wr.heap.size 0) (fun k hk hk2=>⟨hk,by omega⟩));clear i z;unfold qN;have VLT:=hid (fun g (hg:(.slice AV acc.len CV:Value).ownBlock=some g)=>(HO.out.ge g hg).2);have Z:=hid (Zc r.out HO21.out G E Y U W u21 va21 vc21 (by omega) (by omega) (by omega) (by omega) (fun g hg=>by have:=VLT.out g hg;omega));go_wp2_with (at_builtin;refine zX rfl (.tmp 34) (.tmp 37) 29 rfl Tryz.underlying29 hi0 hz0 hz1 hz2 rfl rfl Z.out.1 rfl rfl Z.out.2 (fun e=>by cases e) (by simp only[qg];omega) (by refine⟨?_,?_⟩<;>(rw[World.size_alloc];omega)) ?_;intro A9 c9 w9 B hg9 hob9;have AE:=QA HM21.out r.out (by omega) (by omega) hg9;have HMA:=hid AE.1;have hs9:=AE.2.1;have HO9:=hid B;clear AE B hg9 hob9)
    go_roundg k
    case measure=>omega
    case rel=>exact⟨_,p5,(acc.app (nd G E Y U W u21 sub21)),rfl,by rw[NL.len_app,qg];omega,by omega,by omega,HMA,HO9,hid (qG _ _ HK.out u.out),HQ2⟩
def xe(k:Nat):Nat:=if k=8 then 103 else 111
def jM(n k:Nat):Int:=if k=11 then(n:Int)+2 else(n:Int)+1
theorem qcj{n k:Nat}(hn:n<20)(hk:k<14)(T:ByteArray)(g:T.data.toList=xk n++kE k)(hz:T.size≤32768)(ea:Nat→Addr)(w:World)(i:LxEnv w ea):
 Calls Tryz.prog 15 #[.string T] w fun e w'=> ∃A,e= .returned (.tuple #[.slice none 0 0,.iface 70 (.pointer (some ⟨A,0,none⟩))])∧Below w.heap.size w w'∧AtAt w' A (jM n k) (.iface 270 (.pointer (some (ea (xe k))))):=by
 by_cases h8:k=8
 ·subst h8
  obtain⟨W,F,x,p,f,hl,hF,hp,a,d,hr,h1,h2,h3⟩:=qed hn T g;refine(K4 T W F x p ea w i hz f hl hF hp (fun _=>d)).mono ?_;intro e w' h;unfold Q9 at h;rw[a]at h;simp only[hr,Bool.false_eq_true,if_false]at h;obtain⟨j,w0,rfl,c,b⟩:=h;unfold PV at b;rw[if_neg (by omega),if_neg (by omega),h3]at b;obtain⟨hb,A,_,hA,e⟩:=b;injection e with e
  subst e
  exact⟨A,rfl,c.trans (qc hb c.size),by
   have:jM n 8=1+(n:Int):=by unfold jM;rw[if_neg (by decide)];omega
   rw[this];exact hA⟩
 ·obtain⟨W,F,x,p,f,hl,hF,hp,a⟩:=qfw hn hk h8 T g
  refine(K4 T W F x p ea w i hz f hl hF hp (fun h=>by rw[a]at h;cases h)).mono ?_;intro e w' h;unfold Q9 at h;rw[a]at h;obtain⟨A,_,rfl,hb,hA⟩:=h;refine⟨A,rfl,hb,?_⟩
  have h1:jM n k=QT k+(n:Int):=by
   unfold jM QT;by_cases h:k=11
   ·rw[if_pos h,if_pos h];omega
   ·rw[if_neg h,if_neg h];omega
  rw[h1,show xe k=111 from by unfold xe;rw[if_neg h8]];exact hA
def Qp:Array Value:= #[.string ⟨#[120,32,61,32,59]⟩,.string ⟨#[105,102,32,49]⟩,.string ⟨#[101,110,100,105,102]⟩,.string ⟨#[102,111,114,32,120,32,105,110,32,49]⟩,.string ⟨#[114,101,116,117,114,110,32,49,32,50,59]⟩,.string ⟨#[120,32,43,32,61,32,50,59]⟩,.string ⟨#[123,49,44,32,50,125,32,61,32,120,59]⟩,.string ⟨#[49,32,61,32,120,59]⟩,.string ⟨#[98,114,101,97,107,59]⟩,.string ⟨#[102,40,49,59]⟩,.string ⟨#[120,91,49,32,61,32,50,59]⟩,.string ⟨#[116,114,121,10,101,110,100,116,114,121]⟩,.string ⟨#[119,104,105,108,101,32,40,41]⟩,.string ⟨#[96,120,32,33,32,121,32,61,62,32,122,59]⟩]
theorem qb9{w:World}{k:Nat}(h:k<14):(w.alloc (.cells Qp 9)).cell? ⟨w.heap.size,k,none⟩=some (.string ⟨(kE k).toArray⟩):=by
 have h1:(w.alloc (.cells Qp 9)).heap[w.heap.size]?=some (.cells Qp 9 (0,0)):=heap_alloc_new w _
 have e:Qp[k]?=some (.string ⟨(kE k).toArray⟩):=by
  have:k=0∨k=1∨k=2∨k=3∨k=4∨k=5∨k=6∨k=7∨k=8∨k=9∨k=10∨k=11∨k=12∨k=13:=by omega
  rcases this with rfl|rfl|rfl|rfl|rfl|rfl|rfl|rfl|rfl|rfl|rfl|rfl|rfl|rfl<;>rfl
 unfold World.cell?;simp only[h1,e];rfl
theorem qca{k:Nat}(h:k<14):(⟨(kE k).toArray⟩:ByteArray).size≤20:=by
 have: ∀i:Fin 14,(⟨(kE i.val).toArray⟩:ByteArray).size≤20:=by decide+kernel
 exact this ⟨k,h⟩
theorem qeG(n:Nat):(xk n).length=7*n:=by
 unfold xk
 induction n with
 |zero=>rfl
 |succ n a=>rw[List.replicate_succ,List.flatten_cons,List.length_append,a];simp;omega
theorem qcE{p:ByteArray}{i:Nat}(h:p.data.toList=xk i):(p++(⟨#[120,32,61,32,49,59,10]⟩:ByteArray)).data.toList=xk (i+1):=by
 rw[ByteArray.data_append,Array.toList_append,h];unfold xk;rw[List.replicate_succ',List.flatten_append];simp
theorem qd3(b:ByteArray):b.size=b.data.toList.length:=by rw[Array.length_toList];rfl
theorem Xa(n0 k0:Int)(ea:Nat→Addr)(w:World)(X: -9223372036854775808≤n0)(Y:n0≤9223372036854775807)(Z: -9223372036854775808≤k0)(aa:k0≤9223372036854775807)(x:SeesAt w ea)(Q:StrcAt w)(P:xI w):
 Calls Tryz.prog 5 #[.int .i64 n0,.int .i64 k0] w fun e w'=>e= .returned (.bool true)∧Below w.heap.size w w':=by
 have he:LxEnv w ea:=⟨x.errs,P,Q⟩
 have hroom:=x.room;have F:=hid (qcH ea w he);have EV:=hid (fun W (m:Below w.heap.size w W)=>he.below m (by omega));have SV:=hid (fun W (m:Below w.heap.size w W)=>x.below m);have NC:=hid (fun W=>J5 n0 20 W X Y (by decide) (by decide));have KC:=hid (fun W=>J5 k0 14 W Z aa (by decide) (by decide));clear he x Q P;go_enter Tryz.func5,Tryz.ntmps5
 go_wp2_with fail
 refine F.out.mono ?_;rintro e w2 ⟨rfl,M⟩;have I:=hid M;clear M;go_wp2_with fail
 refine(NC.out w2).mono ?_;rintro e w3 ⟨L,hL,rfl,rfl⟩;go_wp2_with fail
 go_loopg [6,7] L (fun R pv iv wr=> ∃(p:ByteArray)(i:Nat),pv= .string p∧iv= .int .i64 (i:Int)∧i+R=L∧w2=wr∧Hid (p.data.toList=xk i))
 case atStart=>exact⟨⟨#[]⟩,0,rfl,rfl,by omega,rfl,rfl⟩
 case round=>
  obtain⟨p,i,rfl,rfl,hk,rfl,hp⟩:=hrel;have hpz:p.size≤140:=by rw[qd3,hp.out,qeG];omega
  by_cases hi:i<L
  ·obtain⟨R,rfl⟩: ∃R,gk=R+1:=⟨gk-1,by omega⟩
   have HP:=hid (qcE hp.out);clear hp;go_wp2_with fail
   go_roundg R
   case measure=>omega
   case rel=>exact⟨_,i+1,rfl,by go_num,by omega,rfl,HP.out⟩
  ·obtain rfl:i=L:=by omega
   go_wp2_with fail
   refine(KC.out _).mono ?_;rintro e w4 ⟨k,s,rfl,rfl⟩;obtain⟨wz,y⟩: ∃W,W=w2.alloc (.cells Qp 9):=⟨_,rfl⟩
   have hwz':=y;unfold Qp at hwz';rw[←hwz'];have C:=hid (show Below w.heap.size w wz by rw[y];exact I.out.alloc I.out.size _);obtain⟨S,v⟩: ∃b:ByteArray,b=⟨(kE k).toArray⟩:=⟨_,rfl⟩
   have cz:wz.cell? ⟨w2.heap.size,k,none⟩=some (.string S):=by rw[y,v];exact qb9 s
   have hsz:S.size≤20:=by rw[v];exact qca s
   have hT:(p++S).data.toList=xk i++kE k:=by rw[ByteArray.data_append,Array.toList_append,hp.out,v]
   have hpsz:(p++S).size≤160:=by rw[ByteArray.size_append];omega
   have PC:=hid (fun W (m:Below w.heap.size w W)=>qcj hL s (p++S) hT (by omega) ea W (EV.out W m));have k0i:(0:Int)≤(k:Int):=by omega
   have k1i:(k:Int)<14:=by omega
   clear y hwz' v hT hp;go_wp2_with fail
   refine(PC.out _ C.out).mono ?_;rintro e w5 ⟨A,rfl,N,hA⟩;have u:=hid (C.out.trans (qc N C.out.size));have T:=hid hA;have O:xe k=101+(xe k-101):=by unfold xe;split<;>rfl
   have r:xe k-101<17:=by unfold xe;split<;>decide
   have z:(101:Int)+((xe k-101:Nat):Int)=if k=8 then 103 else 111:=by unfold xe;split<;>rfl
   have G:=hid (fun W (m:Below w5.heap.size w5 W)=>(show Calls Tryz.prog 13 #[.iface 70 (.pointer (some ⟨A,0,none⟩))] W (fun e w'=>e= .returned (jL (if k=8 then 103 else 111) true (jM i k))∧Below W.heap.size W w')from by
    have h:=qcm ea (xe k-101) A (jM i k) W (SV.out W (u.out.trans (qc m u.out.size))) r (by rw[←O];exact T.out.below m)
    rw[z]at h;exact h))
   clear N hA O r z;go_wp2_with fail
   refine(G.out _ (Below.refl _ _)).mono ?_;rintro e H ⟨rfl,E⟩;unfold jL;have l:=hid (u.out.trans (qc E u.out.size));have j:=hid E;clear E;by_cases h8:k=8
   ·have V:(k:Int)=8:=by omega
    have t:jM i k=(i:Int)+1:=by unfold jM;rw[if_neg (by omega)]
    rw[if_pos h8,t];rw[if_pos h8,t]at G;obtain⟨w7,g⟩: ∃W,W=H.alloc (.cells #[.int .i64 103,.bool true,.int .i64 ((i:Int)+1),.int .i64 0,.int .i64 0,.string ⟨#[]⟩,.slice none 0 0] 41):=⟨_,rfl⟩
    have d:Below H.heap.size H w7:=by rw[g];exact(Below.refl _ _).alloc (Nat.le_refl _) _
    have n:=hid (l.out.trans (qc d l.out.size));have a:=hid (j.out.trans (qc d j.out.size));have U:=hid (XT 103 ((i:Int)+1) (by decide) w7);have D:=hid g;clear g d;go_wp2_with fail
    rw[←D.out];refine U.out.mono ?_;rintro e w8 ⟨rfl,f⟩;have o:=hid (n.out.trans (qc f n.out.size));have c:=hid (a.out.trans (qc f a.out.size));have SC:=hid (qbN (.iface 70 (.pointer (some ⟨A,0,none⟩))) 103 true ((i:Int)+1) w8 (fun W m=>G.out W (c.out.trans (qc m c.out.size))));clear f;go_wp2_with fail
    refine SC.out.mono ?_;rintro e w9 ⟨rfl,q⟩;have B:=hid (o.out.trans (qc q o.out.size));clear q;go_wp2_with fail
    go_ret
    exact⟨rfl,B.out⟩
   ·have V: ¬(k:Int)=8:=by omega
    rw[if_neg h8];rw[if_neg h8]at G;by_cases J:k=11
    ·have K:(k:Int)=11:=by omega
     have hl2:jM i k=(i:Int)+2:=by unfold jM;rw[if_pos J]
     rw[hl2];go_wp2_with fail
     go_ret
     exact⟨rfl,l.out.alloc l.out.size _⟩
    ·have K: ¬(k:Int)=11:=by omega
     have t:jM i k=(i:Int)+1:=by unfold jM;rw[if_neg J]
     rw[t];rw[t]at G;obtain⟨w7,g⟩: ∃W,W=H.alloc (.cells #[.int .i64 111,.bool true,.int .i64 ((i:Int)+1),.int .i64 0,.int .i64 0,.string ⟨#[]⟩,.slice none 0 0] 41):=⟨_,rfl⟩
     have d:Below H.heap.size H w7:=by rw[g];exact(Below.refl _ _).alloc (Nat.le_refl _) _
     have n:=hid (l.out.trans (qc d l.out.size));have a:=hid (j.out.trans (qc d j.out.size));have U:=hid (XT 111 ((i:Int)+1) (by decide) w7);have D:=hid g;clear g d;go_wp2_with fail
     rw[←D.out];refine U.out.mono ?_;rintro e w8 ⟨rfl,f⟩;have o:=hid (n.out.trans (qc f n.out.size));have c:=hid (a.out.trans (qc f a.out.size));have SC:=hid (qbN (.iface 70 (.pointer (some ⟨A,0,none⟩))) 111 true ((i:Int)+1) w8 (fun W m=>G.out W (c.out.trans (qc m c.out.size))));clear f;go_wp2_with fail
     refine SC.out.mono ?_;rintro e w9 ⟨rfl,q⟩;have B:=hid (o.out.trans (qc q o.out.size));clear q;go_wp2_with fail
     go_ret
     exact⟨rfl,B.out⟩
end Go.Proofs.YtggngahmafbihaaGreatDoor
