/- Contracts, and the plain mathematics beneath. -/
import Derived.Shelf.GgClosure.Gives
import Derived.Lib.LazyBuf
import Derived.Test.YtggngahmafbihaaGreatDoorPerAV
set_option linter.unusedVariables false
set_option linter.unusedSimpArgs false
set_option maxRecDepth 100000
set_option maxHeartbeats 8000000
namespace Go.Proofs.YtggngahmafbihaaGreatDoor
open Go.RowKit Go.Lib
section
def qhh(g:Nat)(a:Value)(p:List UInt8→Bool)(w:World):Prop:= ∀(s:List UInt8)(op:Int)(W:World),Below w.heap.size w W→Calls Tryz.prog g #[.agg #[.string ⟨s.toArray⟩,.int .i64 op],a] W fun e w'=>e= .returned (.bool (p s))∧Below W.heap.size W w'
theorem qgx(g:Nat)(D: ∀args w,(callFunc g args).run Tryz.prog w= .ok (.enter g args) w)(j:Value)(p:List UInt8→Bool)(G:Nat)(l:List (List UInt8×Int))(w:World)(hp:qhh g j p w)(h:SgAt w G l)(hl:l.length≤1000):
 Calls Tryz.prog 147 #[.slice (some ⟨G,0,none⟩) l.length l.length,.func (.func g) #[] #[j]] w fun e w'=>e= .returned (.int .i64 (Qe (fun x=>p x.1) l 0))∧Below w.heap.size w w':=by
 obtain⟨r,hr⟩: ∃r,r=Qe (fun x=>p x.1) l 0:=⟨_,rfl⟩
 rw[←hr];have v:=hid hr;have u:=hid hp;have o:=hid h;clear hr hp h;go_enter Tryz.func147,Tryz.ntmps147
 go_wp2_with fail
 go_loopg [5,8] l.length (fun k a z wr=> ∃i:Nat,z= .int .i64 (i:Int)∧i+k=l.length∧Hid (Below w.heap.size w wr)∧Hid (r=Qe (fun x=>p x.1) (l.drop i) i))
 case atStart=>exact⟨0,rfl,by omega,hid (Below.refl _ _),v⟩
 case round=>
  obtain⟨i,rfl,hk,d,q⟩:=hrel;by_cases hi:i<l.length
  ·obtain⟨k,rfl⟩: ∃k,gk=k+1:=⟨gk-1,by omega⟩
   obtain⟨x,hx⟩: ∃x,l[i]?=some x:=⟨_,List.getElem?_eq_getElem hi⟩
   obtain⟨k0,s⟩:=o.out.cells hx;have k0':wr.cell? ⟨G,i*2,none⟩=some (.string ⟨x.1.toArray⟩):=(d.out.cell (p:=⟨G,i*2,none⟩) o.out.lt).trans k0;have k1':wr.cell? ⟨G,i*2+1,none⟩=some (.int .i64 x.2):=(d.out.cell (p:=⟨G,i*2+1,none⟩) o.out.lt).trans s;have m:=hid (u.out x.1 x.2 wr d.out);have n:=hid (q.out.trans (qbd _ l i x hx));have B:(0:Int)≤(i:Int):=by omega
   have C:(i:Int)<(l.length:Int):=by omega
   obtain⟨b,hb⟩: ∃b,b=p x.1:=⟨_,rfl⟩
   rw[←hb]at m n;clear hx hb k0 s
   cases b with
   |true=>
    go_wp2_with fail
    refine m.out.mono ?_;rintro e A ⟨rfl,c⟩;have f:=hid (d.out.trans (qc c d.out.size));clear c;go_wp2_with fail
    go_ret
    exact⟨by rw[n.out];rfl,f.out⟩
   |false=>
    go_wp2_with fail
    refine m.out.mono ?_;rintro e A ⟨rfl,c⟩;have f:=hid (d.out.trans (qc c d.out.size));clear c;go_wp2_with fail
    go_roundg k
    case measure=>omega
    case rel=>exact⟨i+1,by go_num,by omega,f,hid (by rw[n.out];rfl)⟩
  ·have y: ¬(i:Int)<(l.length:Int):=by omega
   have t:=hid (show r= -1 by rw[q.out,List.drop_eq_nil_of_le (by omega)];rfl);go_wp2_with fail
   go_ret
   exact⟨by rw[t.out];rfl,d.out⟩
def BxT(w:World)(g P:Nat):Prop:=w.heap[g]?=some (.cells #[.pointer (some ⟨P,0,none⟩)] 63 (0,0))
section
variable {w w' : World} {g g' P Q : Nat}
theorem BxT.lt(H:BxT w g Q):g<w.heap.size:=zV H
theorem BxT.c0(H:BxT w g Q):w.cell? ⟨g,0,none⟩=some (.pointer (some ⟨Q,0,none⟩)):=cell_of_row w g 0 _ _ _ H
theorem BxT.below'(H:BxT w g Q)(hb:Below w.heap.size w w'):BxT w' g Q:=(hb.block g H.lt).trans H
theorem BxT.apart(H:BxT w g Q)(hg:w.grownBy w' (some g'))(a:g≠g'):BxT w' g Q:=(hg.block g H.lt (fun e=>by injection e with e;exact a e)).trans H
theorem BxT.grown(H:BxT w g Q)(hg:w.grownBy w' (some P))(a:P<g):BxT w' g Q:=H.apart hg (by omega)
end
theorem Kp: ∀(args:Array Value)(w:World),(callFunc 148 args).run Tryz.prog w= .ok (.enter 148 args) w:=enters_of Tryz.func148 (by kernel_rfl) rfl
theorem SgAt.below'{w w':World}{g:Nat}{l:List (List UInt8×Int)}(H:SgAt w g l)(hb:Below w.heap.size w w'):SgAt w' g l:=(hb.block g H.lt).trans H
theorem SgAt.apart{w w':World}{g g':Nat}{l:List (List UInt8×Int)}(H:SgAt w g l)(hg:w.grownBy w' (some g'))(a:g≠g'):SgAt w' g l:=(hg.block g H.lt (fun e=>by injection e with e;exact a e)).trans H
theorem SgAt.grown{w w':World}{g P:Nat}{l:List (List UInt8×Int)}(H:SgAt w g l)(hg:w.grownBy w' (some P))(a:P<g):SgAt w' g l:=H.apart hg (by omega)
theorem qfb{w:World}{D j:Nat→Prop}{V l:Value}{sub a:NL}(h:OwnN w D V sub)(o:OwnN w j l a)(m: ∀k,j k→k<w.heap.size→D k)(op ln:Int)(s:ByteArray)(k n:Int)(t:ByteArray)(va:Option Addr)(vc:Nat)(op2 ln2:Int)(f:ByteArray)(d e:Int)(i:ByteArray)(b:Option Addr)(c:Nat):
 jG w (fun k=>D k∧k<w.heap.size) ((nd op ln s k n t sub).app (nd op2 ln2 f d e i a)) ((qN op ln s k n t va vc V).toList++(qN op2 ln2 f d e i b c l).toList):=
 QI _ _ _ _ (h.row1 op ln s k n t va vc) ((o.wide m).row1 op2 ln2 f d e i b c)
def qfl(X:PCtx)(a e:World)(q:PS)(b N:Nat)(op ln:Int)(l:NL)(d:Int)(c:World):Prop:=
 ∃f,Mvd a c X q∧q.deep=d∧NdB c N (.int .i64 op) (.int .i64 ln) (.string ⟨#[]⟩) (.int .i64 0) (.int .i64 0) (.string ⟨#[]⟩) (.slice none 0 0) f∧OwnN c (DG b N) f l∧qQ l∧l.len=2∧e.heap.size<c.heap.size∧ ∀g,g<e.heap.size→g≠N→g≠X.P→c.heap[g]?=e.heap[g]?
theorem qfa{a z W:World}{X:PCtx}{q:PS}{b N B:Nat}{V y:Value}{G c1 c2 c3 c4 c5 H c7:Value}{sub f:NL}{op ln:Int}{s:ByteArray}{k n:Int}{t:ByteArray}{va:Option Addr}{vc:Nat}{op2 ln2:Int}{u:ByteArray}{p r:Int}{v:ByteArray}{h:Option Addr}{i:Nat}{m l d:Int}
 (I:z.grownBy W (some X.P)) (hm:Mvd a W X q) (J:NdB W N G c1 c2 c3 c4 c5 H c7) (hv:OwnN W (DG b N) V sub) (O:OwnN W (fun k=>B≤k) y f) (L:X.P<N) (A:a.heap.size≤N) (M:b≤B) (K:N<B) (S:B=z.heap.size) (hk:qQ (nd op ln s k n t sub)) (E:qQ (nd op2 ln2 u p r v f)) (hd:q.deep=d):
 qfl X a z q b N m l ((nd op ln s k n t sub).app (nd op2 ln2 u p r v f)) d (((((((((W.alloc (.cells ((qN op ln s k n t va vc V)++(qN op2 ln2 u p r v h i y)) 31)).setCell ⟨N,0,none⟩ (.int .i64 m)).setCell ⟨N,1,none⟩ (.int .i64 l)).setCell ⟨N,2,none⟩ (.string ⟨#[]⟩)).setCell ⟨N,3,none⟩ (.int .i64 0)).setCell ⟨N,4,none⟩ (.int .i64 0)).setCell ⟨N,5,none⟩ (.string ⟨#[]⟩)).setCell ⟨N,6,none⟩ (.slice none 0 0)).setCell ⟨N,7,none⟩ (.slice (some ⟨W.heap.size,0,none⟩) 2 2)):=by
 have hz:=I.size;have hr:=qfb hv O (fun k (hk:B≤k) _=>⟨by omega,by omega⟩) op ln s k n t va vc op2 ln2 u p r v h i;have j:=OwnN.lit (cs:=(qN op ln s k n t va vc V)++(qN op2 ln2 u p r v h i y)) (by rw[Array.toList_append];exact hr) (show DG b N W.heap.size from⟨by omega,by omega⟩) (by rw[NL.len_app];show 2≤_;decide);obtain⟨o,c⟩: ∃o,o=W.alloc (.cells ((qN op ln s k n t va vc V)++(qN op2 ln2 u p r v h i y)) 31):=⟨_,rfl⟩
 rw[←c]at j⊢;have F:Mvd a o X q:=by rw[c];exact hm.alloc _
 have x:NdB o N G c1 c2 c3 c4 c5 H c7:=by rw[c];exact J.alloc _
 have R:o.heap.size=W.heap.size+1:=by rw[c];simp
 have hg:=qe o N (.int .i64 m) (.int .i64 l) (.string ⟨#[]⟩) (.int .i64 0) (.int .i64 0) (.string ⟨#[]⟩) (.slice none 0 0) (.slice (some ⟨W.heap.size,0,none⟩) 2 2);refine⟨_,F.node x L A hg,hd,x.set8 _ _ _ _ _ _ _ _,?_,qG _ _ hk E,by rw[NL.len_app];rfl,by have:=hg.size;omega,fun g hg0 C D=> ?_⟩
 ·exact j.apart hg (.inr rfl)
 ·rw[hg.block g (by omega) (fun e=>by injection e with e;exact C e),c,Below.heap_alloc _ _ _ (by omega)]
  exact I.block g hg0 (fun e=>by injection e with e;exact D e)
theorem qdC(X:PCtx)(F:Nat)(hF:F≤1000000000)(ih:EC X F)(k:Nat)(hk5:k≤5):zP X 101 #[.int .i64 k] (.two k) (F+1):=by
 intro w p r ag h0 h1 hr;rw[qa]at hr;have hPl:=ag.lt;have hlen:=ag.len;obtain⟨i0,hi0,hz0,hz1,hz2⟩:=info_parts qz;have IH:=hid ih;clear ih;by_cases hk:5≤k
 ·obtain rfl:k=5:=by omega
  have HQ1:=hid (show qa X.l F .one p=some r by rw[←hr];rfl);clear hr hk;obtain⟨n1,p1⟩:=r;obtain⟨A,u⟩: ∃A,A=(w.alloc (.cells #[.pointer (some ⟨X.P,0,none⟩)] 63)).alloc (.cells #[.int .i64 0,.int .i64 0,.string ⟨#[]⟩,.int .i64 0,.int .i64 0,.string ⟨#[]⟩,.slice none 0 0,.slice none 0 0] 31):=⟨_,rfl⟩
  have ab:=hid (show Mvd w A X p by rw[u];exact((Mvd.of ag).alloc _).alloc _);have hsa:A.heap.size=w.heap.size+2:=by rw[u];simp
  have HZr:=hid (show zN A (w.heap.size+1)by rw[u];exact zN.new1 w _);have ac:=hid (show BxT A w.heap.size X.P by rw[u];exact(Below.heap_alloc _ _ _ (by simp)).trans (heap_alloc_new w _));have HWA:=hid u;clear u;go_enter Tryz.func101,Tryz.ntmps101
  go_wp2_with fail
  rw[←HWA.out];refine(qem _).mono ?_;rintro e0 w0 ⟨rfl,rfl⟩;have b0:=ac.out.c0;have hcmp:=fun(W:World)=>run_eql_slice_nil (P:=Tryz.prog) W 165 169 none 0 0 Tryz.underlying165;go_wp2_with fail
  refine(IH.out.one F (Nat.le_refl _) A _ _ ab.out.st (by first|omega|(simp<;>omega)) (by first|omega|(simp<;>omega)) HQ1.out).mono ?_;rintro e1 w1 ⟨op1,ln1,t1,k1,m1,u1,va1,vc1,V1,sub1,hn1,rfl,S,ho1,hk1,hl1,hd1⟩;obtain⟨A1,cc1,rfl⟩:=ho1.form;have hn1:n1=nd op1 ln1 t1 k1 m1 u1 sub1:=hn1;subst hn1;have hk1:=hid hk1;have hd1:p1.deep=p.deep+0:=by have h:p1.deep=p.deep:=hd1;(try simp at h);omega
  have aa:=hid (ab.out.trans S);have hs1:=S.grown.size;have b:=hid (NdB.grown HZr.out S.grown (show X.P<(w.heap.size+1)by omega));have L:=hid (BxT.grown ac.out S.grown (show X.P<w.heap.size by omega));have HO1:=hid (ho1.wide (D':=DG A.heap.size 0) (fun k hk J=>⟨hk,by omega⟩));clear S ho1;unfold qN;have c1_0:=b.out.c0;have f1_0:=b.out.fr 0;have c1_1:=b.out.c1;have f1_1:=b.out.fr 1;have c1_2:=b.out.c2;have f1_2:=b.out.fr 2;have c1_3:=b.out.c3;have f1_3:=b.out.fr 3;have c1_4:=b.out.c4;have f1_4:=b.out.fr 4;have c1_5:=b.out.c5;have f1_5:=b.out.fr 5;have c1_6:=b.out.c6;have f1_6:=b.out.fr 6;have c1_7:=b.out.c7;have f1_7:=b.out.fr 7;go_wp2_with fail
  have HRR:=hid (rfl:(nd op1 ln1 t1 k1 m1 u1 sub1,p1)=(nd op1 ln1 t1 k1 m1 u1 sub1,p1));refine ql Tryz.results101 (w.heap.size+1) rfl rfl (b.out.set8 _ _ _ _ _ _ _ _) ?_;exact PNd.mk op1 ln1 t1 k1 m1 u1 va1 vc1 _ sub1 _ HRR.out (aa.out.node b.out (by omega) (by omega) (qe _ _ _ _ _ _ _ _ _ _)) (qC (w0:=w.heap.size) (g:=(w.heap.size+1)) HO1.out (by omega) (qe _ _ _ _ _ _ _ _ _ _) (by omega)) hk1.out (by omega) (by first|omega|(simp<;>omega))
 ·have hk4:k<5:=by omega
  replace hr:((qa X.l F (.two (k+1)) p).bind fun(n,p)=>qa X.l F (.twoL k n) p)=some r:=by rw[←hr,if_neg hk]
  clear hk
  cases ae:qa X.l F (.two (k+1)) p with
  |none=>rw[ae]at hr;cases hr
  |some q1=>
  obtain⟨n1,p1⟩:=q1;rw[ae]at hr;replace hr:qa X.l F (.twoL k n1) p1=some r:=hr;have HQ1:=hid ae;clear ae;have HQL:=hid hr;clear hr;have hkw:IntKind.i64.wrap ((k:Int)+1)=((k+1:Nat):Int):=by rw[show((k:Int)+1)=((k+1:Nat):Int)from by omega];exact IntWalk.i64_in _ ⟨by omega,by omega⟩
  have hln:(xu k).length≤1000:=by
   match k,hk4 with
   |0,_=>decide
   |1,_=>decide
   |2,_=>decide
   |3,_=>decide
   |4,_=>decide
  have hln0:0<(xu k).length:=by
   match k,hk4 with
   |0,_=>decide
   |1,_=>decide
   |2,_=>decide
   |3,_=>decide
   |4,_=>decide
  have LC:=hid (fun W=>qen k hk4 W);obtain⟨Y,hls⟩: ∃Y,Y=xu k:=⟨_,rfl⟩
  have HLS:=hid hls;rw[←hls]at LC hln hln0;clear hls;obtain⟨A,u⟩: ∃A,A=(w.alloc (.cells #[.pointer (some ⟨X.P,0,none⟩)] 63)).alloc (.cells #[.int .i64 0,.int .i64 0,.string ⟨#[]⟩,.int .i64 0,.int .i64 0,.string ⟨#[]⟩,.slice none 0 0,.slice none 0 0] 31):=⟨_,rfl⟩
  have ab:=hid (show Mvd w A X p by rw[u];exact((Mvd.of ag).alloc _).alloc _);have hsa:A.heap.size=w.heap.size+2:=by rw[u];simp
  have HZr:=hid (show zN A (w.heap.size+1)by rw[u];exact zN.new1 w _);have ac:=hid (show BxT A w.heap.size X.P by rw[u];exact(Below.heap_alloc _ _ _ (by simp)).trans (heap_alloc_new w _));have HWA:=hid u;clear u;go_enter Tryz.func101,Tryz.ntmps101
  go_wp2_with fail
  rw[←HWA.out];refine(LC.out _).mono ?_;rintro e1 w1 ⟨rfl,hsg,R⟩;have HG:=hid hsg;clear hsg;have hs1:=R.size;have aa:=hid (ab.out.below R);have b:=hid (HZr.out.below' R);have L:=hid (ac.out.below' R);clear R;have b0:=L.out.c0;have hcmp:=fun(W:World)=>run_eql_slice_nil (P:=Tryz.prog) W 165 169 (some ⟨w.heap.size+2,0,none⟩) Y.length Y.length Tryz.underlying165;have hg2:A.heap.size=w.heap.size+2:=hsa;rw[hg2]at HG;clear hg2;go_wp2_with fail
  refine(IH.out.two F (Nat.le_refl _) (k+1) (by omega) w1 _ _ aa.out.st h0 h1 HQ1.out).mono ?_;rintro e2 w2 ⟨op2,ln2,t2,k2,m2,u2,va2,vc2,V2,sub2,hn2,rfl,K,ho2,J,hl2,hd2⟩;obtain⟨A2,cc2,rfl⟩:=ho2.form;have hn2:n1=nd op2 ln2 t2 k2 m2 u2 sub2:=hn2;subst hn2;have J:=hid J;have hd2:p1.deep=p.deep+0:=by have h:p1.deep=p.deep:=hd2;(try simp at h);omega
  have HM2:=hid (aa.out.trans K);have hs2:=K.grown.size;have HBr2:=hid (NdB.grown b.out K.grown (show X.P<(w.heap.size+1)by omega));have HBb2:=hid (BxT.grown L.out K.grown (show X.P<w.heap.size by omega));have HBg2:=hid (SgAt.grown HG.out K.grown (show X.P<(w.heap.size+2)by omega));have HO2:=hid (ho2.wide (D':=DG w1.heap.size 0) (fun k hk J=>⟨hk,by omega⟩));clear K ho2;unfold qN;clear b0 hcmp;obtain⟨w3,T⟩: ∃w3,w3=(w2.alloc (.cells #[.int .i64 op2,.int .i64 ln2,.string t2,.int .i64 k2,.int .i64 m2,.string u2,.slice va2 0 vc2,.slice A2 sub2.len cc2] 31)):=⟨_,rfl⟩
  have I:Below w2.heap.size w2 w3:=by rw[T];exact((Below.refl _ _).alloc (Nat.le_refl _) _)
  have HBn3:=hid (show NdB w3 w2.heap.size (.int .i64 op2) (.int .i64 ln2) (.string t2) (.int .i64 k2) (.int .i64 m2) (.string u2) (.slice va2 0 vc2) (.slice A2 sub2.len cc2)by rw[T];exact NdB.new _ _ _ _ _ _ _ _ _);have hs3:w3.heap.size=w2.heap.size+1:=by rw[T];simp
  have HM3:=hid (HM2.out.below I);have HBr3:=hid (HBr2.out.below' I);have HBb3:=hid (HBb2.out.below' I);have HBg3:=hid (HBg2.out.below' I);have HOx23:=hid ((HO2.out.wide (D':=DG w1.heap.size w2.heap.size) (fun k hk J=>⟨hk.1,by omega⟩)).below I);have HW3:=hid T;clear T I;go_wp2_with fail
  rw[←HW3.out];go_wp2_with fail
  have z:X.P<w1.heap.size∧w.heap.size+2<w1.heap.size∧w1.heap.size≤w2.heap.size∧w2.heap.size<w3.heap.size:=by have hgl:=HG.out.lt;omega
  have HCH:=hid z;clear z;go_loopg [] F (fun kk wr=> ∃(op ln:Int)(s:ByteArray)(U n:Int)(t:ByteArray)(va:Option Addr)(vc:Nat)(V:Value)(sub:NL)(q:PS),sub.len≤2*F+10∧kk≤F∧q.deep=p.deep∧w3.heap.size≤wr.heap.size∧Hid (Mvd w wr X q)∧Hid (zN wr (w.heap.size+1))∧Hid (BxT wr w.heap.size X.P)∧Hid (SgAt wr (w.heap.size+2) Y)∧Hid (NdB wr w2.heap.size (.int .i64 op) (.int .i64 ln) (.string s) (.int .i64 U) (.int .i64 n) (.string t) (.slice va 0 vc) V)∧Hid (OwnN wr (DG w1.heap.size w2.heap.size) V sub)∧Hid (qQ (nd op ln s U n t sub))∧Hid (qa X.l kk (.twoL k (nd op ln s U n t sub)) q=some r))
  case atStart=>exact⟨op2,ln2,t2,k2,m2,u2,va2,vc2,_,sub2,p1,by omega,Nat.le_refl _,by omega,Nat.le_refl _,HM3,HBr3,HBb3,HBg3,HBn3,HOx23,J,HQL⟩
  case round=>
   have z:=HCH.out;obtain⟨op,ln,s,U,n,t,va,vc,V,sub,q,hsl,hkF,hqd,hs0,HM,HR,HX,HG,HN,HO,HK,HQ⟩:=hrel;obtain⟨AV,CV,hVf⟩:=HO.out.form;subst hVf
   cases gk with
   |zero=>have h:=HQ.out;rw[qa]at h;cases h
   |succ kk=>
   have hr:=HQ.out;rw[qa]at hr;have SI:=qgx 148 Kp (.pointer (some ⟨w.heap.size,0,none⟩)) (fun x=>qj X.l q x) (w.heap.size+2) Y wr (fun s op W hW=>qgM X q s op w.heap.size W (HM.out.st.below hW) (HX.out.below' hW).c0) HG.out hln;clear HQ;rcases JP (fun x=>qj X.l q x.1) Y 0 with⟨h1,h2⟩|⟨j,x,h1,h2,h3,h4⟩
   ·rw[h1]at SI
    have SC:=hid SI;replace hr:some (nd op ln s U n t sub,q)=some r:=by rw[←hr, ←HLS.out,h2]
    have HRR:=hid (Option.some.inj hr).symm;clear SI h1 h2 hr;go_wp2_with fail
    refine SC.out.mono ?_;rintro e31 w31 ⟨rfl,d⟩;have hs31:=d.size;have G:=hid (HM.out.below d);have a:=hid (HR.out.below' d);have B:=hid (HX.out.below' d);have M:=hid (HG.out.below' d);have f:=hid (HN.out.below' d);have E:=hid (HO.out.below d);clear d;have c1_0:=f.out.c0;have c1_1:=f.out.c1;have c1_2:=f.out.c2;have c1_3:=f.out.c3;have c1_4:=f.out.c4;have c1_5:=f.out.c5;have c1_6:=f.out.c6;have c1_7:=f.out.c7;have c2_0:=a.out.c0;have f2_0:=a.out.fr 0;have c2_1:=a.out.c1;have f2_1:=a.out.fr 1;have c2_2:=a.out.c2;have f2_2:=a.out.fr 2;have c2_3:=a.out.c3;have f2_3:=a.out.fr 3;have c2_4:=a.out.c4;have f2_4:=a.out.fr 4;have c2_5:=a.out.c5;have f2_5:=a.out.fr 5;have c2_6:=a.out.c6;have f2_6:=a.out.fr 6;have c2_7:=a.out.c7;have f2_7:=a.out.fr 7;go_wp2_with fail
    refine ql Tryz.results101 (w.heap.size+1) rfl rfl (a.out.set8 _ _ _ _ _ _ _ _) ?_;exact PNd.mk op ln s U n t va vc _ sub _ HRR.out (G.out.node a.out (by omega) (by omega) (qe _ _ _ _ _ _ _ _ _ _)) (qC (w0:=w.heap.size) (g:=(w.heap.size+1)) E.out (by omega) (qe _ _ _ _ _ _ _ _ _ _) (by omega)) HK.out (by omega) (by first|omega|(simp<;>omega))
   ·rw[h1]at SI
    have SC:=hid (show Calls _ _ _ _ (fun e w'=>e= .returned (.int .i64 (j:Int))∧Below wr.heap.size wr w')by rw[Nat.zero_add]at SI;exact SI);replace hr:((qa X.l kk (.two (k+1)) (qb q)).bind fun(y,p)=>qa X.l kk (.twoL k (ndL x.2 ln ((nd op ln s U n t sub).app y))) p)=some r:=by rw[←hr, ←HLS.out,h3];rfl
    have hjl:j<Y.length:=(List.getElem?_eq_some_iff.1 h2).1;have hqlt:=Qs h4;have HXX:=hid h2;clear SI h1 h2 h3 h4
    cases af:qa X.l kk (.two (k+1)) (qb q)with
    |none=>rw[af]at hr;cases hr
    |some q5=>
    obtain⟨n5,p5⟩:=q5;rw[af]at hr;replace hr:qa X.l kk (.twoL k (ndL x.2 ln ((nd op ln s U n t sub).app n5))) p5=some r:=hr;have HQ5:=hid af;clear af;have HQ6:=hid hr;clear hr;go_wp2_with fail
    refine SC.out.mono ?_;rintro e31 w31 ⟨rfl,d⟩;have hs31:=d.size;have G:=hid (HM.out.below d);have a:=hid (HR.out.below' d);have B:=hid (HX.out.below' d);have M:=hid (HG.out.below' d);have f:=hid (HN.out.below' d);have E:=hid (HO.out.below d);clear d;have hj0: ¬(j:Int)<0:=by omega
    have hj1:(0:Int)≤(j:Int):=by omega
    have hj2:(j:Int)<(Y.length:Int):=by omega
    obtain⟨ev,hP,hE⟩:=G.out.st.at_;have c1:=hP.c1;have f1:=hP.fr 1;clear hP hE;have b0:=B.out.c0;go_upto_region 9 with fail
    have O:=hid (G.out.jump 1 hqlt);obtain⟨m,H⟩: ∃W,W=w31.setCell ⟨X.P,1,none⟩ (.int .i64 ((q.pos:Int)+1)):=⟨_,rfl⟩
    have v:w31.grownBy m (some X.P):=by rw[H];exact qv _ _ _ _
    have HM32:=hid (show Mvd w m X (qb q)by rw[H];exact O.out);have hs32:=v.size;have HBr32:=hid (NdB.grown a.out v (show X.P<(w.heap.size+1)by omega));have C:=hid (BxT.grown B.out v (show X.P<w.heap.size by omega));have D:=hid (SgAt.grown M.out v (show X.P<(w.heap.size+2)by omega));have i:=hid (NdB.grown f.out v (show X.P<w2.heap.size by omega));have HOo32:=hid (OwnN.grown E.out v (DG.not (by omega)));have HW32:=hid H;clear H v O;rw[←HW32.out];clear c1 f1 b0;have b0:=C.out.c0;have c1:=i.out.c1;have x1:=(D.out.cells HXX.out).2;have b0d:m.drew.cell? _=_:=b0;have c1d:m.drew.cell? _=_:=c1;have x1d:m.drew.cell? _=_:=x1;have c0:=i.out.c0;have c2:=i.out.c2;have c3:=i.out.c3;have c4:=i.out.c4;have c5:=i.out.c5;have c6:=i.out.c6;have c7:=i.out.c7;have HSD:=hid (show PSt m.drew X (qb q)from HM32.out.st.below (Below.drew (Below.refl _ _)));have HMD:=hid (show Mvd w m.drew X (qb q)from HM32.out.drew);have EXC:=hid (fun W (hW:PSt W X (qb q))=>IH.out.two kk (by omega) (k+1) (by omega) W _ _ hW (by first|omega|(simp<;>omega)) (by first|omega|(simp<;>omega)) HQ5.out)
    go_region_law
     (first
      |(go_simp;go_at_call 101;refine(EXC.out _ HSD.out).mono ?_
        rintro e9 Z ⟨op8,ln8,t8,k8,m8,u8,va8,vc8,V8,sub8,hn,rfl,hm,ho,hk,hl,hd⟩;obtain⟨A8,c8,rfl⟩:=ho.form;have hn':n5=nd op8 ln8 t8 k8 m8 u8 sub8:=hn;have HNN:=hid hn';have HK8:=hid (show qQ (nd op8 ln8 t8 k8 m8 u8 sub8)by rw[←hn'];exact hk);have HDD:=hid (show p5.deep=p.deep by have h:p5.deep=(qb q).deep:=hd;(try simp at h);omega);have N:=hid (show m.grownBy Z (some X.P)from⟨hm.grown.os,hm.grown.tape,hm.grown.output,hm.grown.size,hm.grown.block⟩);have HM8:=hid (HMD.out.trans hm);have hs8:m.heap.size≤Z.heap.size:=hm.grown.size;have c:=hid (NdB.grown (w:=m) i.out N.out (show X.P<w2.heap.size by omega));have HO8:=hid (OwnN.grown (w:=m) HOo32.out N.out (DG.not (by omega)));have HX8:=hid (BxT.grown (w:=m) C.out N.out (show X.P<w.heap.size by omega));have HG8:=hid (SgAt.grown (w:=m) D.out N.out (show X.P<w.heap.size+2 by omega));have HY8:=hid (show OwnN Z (fun k=>m.heap.size≤k) (.slice A8 sub8.len c8) sub8 from ho);have b0_8:=HX8.out.c0;have x1_8:=(HG8.out.cells HXX.out).2;have c1_8:=c.out.c1;have c0_8:=c.out.c0;have c2_8:=c.out.c2;have c3_8:=c.out.c3;have c4_8:=c.out.c4;have c5_8:=c.out.c5;have c6_8:=c.out.c6;have c7_8:=c.out.c7;have x1_9:=fun o=>qq x1_8 o;have y0:=fun o=>(c.out.alloc o).c0;have y1:=fun o=>(c.out.alloc o).c1;have y2:=fun o=>(c.out.alloc o).c2;have y3:=fun o=>(c.out.alloc o).c3;have y4:=fun o=>(c.out.alloc o).c4;have y5:=fun o=>(c.out.alloc o).c5;have y6:=fun o=>(c.out.alloc o).c6;have y7:=fun o=>(c.out.alloc o).c7;have z0:=fun o=>(c.out.alloc o).fr 0;have z1:=fun o=>(c.out.alloc o).fr 1;have z2:=fun o=>(c.out.alloc o).fr 2;have z3:=fun o=>(c.out.alloc o).fr 3;have z4:=fun o=>(c.out.alloc o).fr 4;have z5:=fun o=>(c.out.alloc o).fr 5;have z6:=fun o=>(c.out.alloc o).fr 6;have z7:=fun o=>(c.out.alloc o).fr 7;have KB:=hid (fun(o:Obj)(a0 a1 a2 a3 a4 a5 a6 a7:Value)=>show(((((((((Z.alloc o).setCell ⟨w2.heap.size,0,none⟩ a0).setCell ⟨w2.heap.size,1,none⟩ a1).setCell ⟨w2.heap.size,2,none⟩ a2).setCell ⟨w2.heap.size,3,none⟩ a3).setCell ⟨w2.heap.size,4,none⟩ a4).setCell ⟨w2.heap.size,5,none⟩ a5).setCell ⟨w2.heap.size,6,none⟩ a6).setCell ⟨w2.heap.size,7,none⟩ a7).cell? ⟨w.heap.size,0,none⟩=some (.pointer (some ⟨X.P,0,none⟩))from(World.cell?_of_block (w:=Z.alloc o) ((qe _ _ _ _ _ _ _ _ _ _).block _ (by simp;have:=HX8.out.lt;omega) (fun e=>by injection e with e;have e':w.heap.size=w2.heap.size:=e;omega))).trans (qq HX8.out.c0 o));have KS:=hid (fun(o:Obj)(a0 a1 a2 a3 a4 a5 a6 a7:Value)=>show(((((((((Z.alloc o).setCell ⟨w2.heap.size,0,none⟩ a0).setCell ⟨w2.heap.size,1,none⟩ a1).setCell ⟨w2.heap.size,2,none⟩ a2).setCell ⟨w2.heap.size,3,none⟩ a3).setCell ⟨w2.heap.size,4,none⟩ a4).setCell ⟨w2.heap.size,5,none⟩ a5).setCell ⟨w2.heap.size,6,none⟩ a6).setCell ⟨w2.heap.size,7,none⟩ a7).cell? ⟨w.heap.size+2,j*2+1,none⟩=some (.int .i64 x.2)from(World.cell?_of_block (w:=Z.alloc o) ((qe _ _ _ _ _ _ _ _ _ _).block _ (by simp;have:=HG8.out.lt;omega) (fun e=>by injection e with e;have e':w.heap.size+2=w2.heap.size:=e;omega))).trans (qq x1_8 o));have KL:=hid (fun(o:Obj)(a0 a2 a3 a4 a5 a6 a7:Value)=>show(((((((((Z.alloc o).setCell ⟨w2.heap.size,0,none⟩ a0).setCell ⟨w2.heap.size,1,none⟩ (.int .i64 ln)).setCell ⟨w2.heap.size,2,none⟩ a2).setCell ⟨w2.heap.size,3,none⟩ a3).setCell ⟨w2.heap.size,4,none⟩ a4).setCell ⟨w2.heap.size,5,none⟩ a5).setCell ⟨w2.heap.size,6,none⟩ a6).setCell ⟨w2.heap.size,7,none⟩ a7).cell? ⟨w2.heap.size,1,none⟩=some (.int .i64 ln)from((c.out.alloc o).set8 _ _ _ _ _ _ _ _).c1);clear hn hn' hm ho hk hl hd
        unfold qN))
    all_goals
     go_wp2_with fail
     obtain⟨wc,hwc⟩: ∃wc,wc=((((((((Z.alloc (.cells #[.int .i64 op,.int .i64 ln,.string s,.int .i64 U,.int .i64 n,.string t,.slice va 0 vc,.slice AV sub.len CV,.int .i64 op8,.int .i64 ln8,.string t8,.int .i64 k8,.int .i64 m8,.string u8,.slice va8 0 vc8,.slice A8 sub8.len c8] 31)).setCell ⟨w2.heap.size,0,none⟩ (.int .i64 x.2)).setCell ⟨w2.heap.size,1,none⟩ (.int .i64 ln)).setCell ⟨w2.heap.size,2,none⟩ (.string ⟨#[]⟩)).setCell ⟨w2.heap.size,3,none⟩ (.int .i64 0)).setCell ⟨w2.heap.size,4,none⟩ (.int .i64 0)).setCell ⟨w2.heap.size,5,none⟩ (.string ⟨#[]⟩)).setCell ⟨w2.heap.size,6,none⟩ (.slice none 0 0)).setCell ⟨w2.heap.size,7,none⟩ (.slice (some ⟨Z.heap.size,0,none⟩) 2 2):=⟨_,rfl⟩
     have TR:qfl X w m p5 w1.heap.size w2.heap.size x.2 ln ((nd op ln s U n t sub).app n5) p.deep wc:=by
      rw[hwc,HNN.out];exact qfa N.out HM8.out c.out HO8.out HY8.out (by omega) (by omega) (by omega) (by omega) rfl HK.out HK8.out HDD.out
     have HWC:=hid hwc;clear hwc;obtain⟨V9,hm9,hd9,hn9,ho9,hk9,hl9,hs9,ad⟩:=TR;have HBR:=hid (show zN wc (w.heap.size+1)from(ad _ (by omega) (by omega) (by omega)).trans HBr32.out);have HBX:=hid (show BxT wc w.heap.size X.P from(ad _ (by omega) (by omega) (by omega)).trans C.out);have HBG:=hid (show SgAt wc (w.heap.size+2) Y from(ad _ (by omega) (by omega) (by omega)).trans D.out);have HM9:=hid hm9;have HN9:=hid hn9;have HO9:=hid ho9;have HK9:=hid hk9;clear hm9 hn9 ho9 hk9 ad;rw[←HWC.out];go_roundg kk
     case measure=>omega
     case rel=>exact⟨x.2,ln,⟨#[]⟩,0,0,⟨#[]⟩,none,0,V9,_,p5,by omega,by omega,hd9,by omega,HM9,HBR,HBX,HBG,HN9,HO9,hid (qX HK9.out (fun _=>by omega)),HQ6⟩
end
end Go.Proofs.YtggngahmafbihaaGreatDoor
