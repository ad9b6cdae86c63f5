/- Contracts, and the plain mathematics beneath. -/
import Derived.Test.YtggngahmafbihaaGreatDoorPerAV
set_option linter.unusedVariables false
set_option linter.unusedSimpArgs false
set_option maxRecDepth 100000
set_option maxHeartbeats 8000000
namespace Go.Proofs.YtggngahmafbihaaGreatDoor
open Go.RowKit Go.Lib
section
def TkT(w:World)(g:Nat)(a b c d e f h:Value):Prop:=w.heap[g]?=some (.cells #[a,b,c,d,e,f,h] 55 (0,0))
section
variable {w w' : World} {g g' P : Nat} {a b c d e f h : Value}
theorem TkT.lt(H:TkT w g a b c d e f h):g<w.heap.size:=zV H
theorem TkT.c0(H:TkT w g a b c d e f h):w.cell? ⟨g,0,none⟩=some a:=cell_of_row w g 0 _ _ _ H
theorem TkT.c1(H:TkT w g a b c d e f h):w.cell? ⟨g,1,none⟩=some b:=cell_of_row w g 1 _ _ _ H
theorem TkT.c2(H:TkT w g a b c d e f h):w.cell? ⟨g,2,none⟩=some c:=cell_of_row w g 2 _ _ _ H
theorem TkT.c3(H:TkT w g a b c d e f h):w.cell? ⟨g,3,none⟩=some d:=cell_of_row w g 3 _ _ _ H
theorem TkT.c4(H:TkT w g a b c d e f h):w.cell? ⟨g,4,none⟩=some e:=cell_of_row w g 4 _ _ _ H
theorem TkT.c5(H:TkT w g a b c d e f h):w.cell? ⟨g,5,none⟩=some f:=cell_of_row w g 5 _ _ _ H
theorem TkT.c6(H:TkT w g a b c d e f h):w.cell? ⟨g,6,none⟩=some h:=cell_of_row w g 6 _ _ _ H
theorem TkT.below'(H:TkT w g a b c d e f h)(hb:Below w.heap.size w w'):TkT w' g a b c d e f h:=(hb.block g H.lt).trans H
theorem TkT.apart(H:TkT w g a b c d e f h)(hg:w.grownBy w' (some g'))(i:g≠g'):TkT w' g a b c d e f h:=(hg.block g H.lt (fun e=>by injection e with e;exact i e)).trans H
theorem TkT.grown(H:TkT w g a b c d e f h)(hg:w.grownBy w' (some P))(i:P<g):TkT w' g a b c d e f h:=H.apart hg (by omega)
end
theorem qdB(w:World)(S:Nat→Prop)(ln i:Int)(nm:ByteArray):jG w S ((nd 1 ln ⟨#[]⟩ 1 0 ⟨#[]⟩ .nil).app (nd 1 i ⟨#[]⟩ 2 0 nm .nil)) [.int .i64 1,.int .i64 ln,.string ⟨#[]⟩,.int .i64 1,.int .i64 0,.string ⟨#[]⟩,.slice none 0 0,.slice none 0 0,.int .i64 1,.int .i64 i,.string ⟨#[]⟩,.int .i64 2,.int .i64 0,.string nm,.slice none 0 0,.slice none 0 0]:=
 ⟨none,0,none,0,[.int .i64 1,.int .i64 i,.string ⟨#[]⟩,.int .i64 2,.int .i64 0,.string nm,.slice none 0 0,.slice none 0 0],rfl,Nat.zero_le _,trivial,Nat.zero_le _,trivial,none,0,none,0,[],rfl,Nat.zero_le _,trivial,Nat.zero_le _,trivial,rfl⟩
theorem qar(X:PCtx)(F:Nat)(hF:F≤1000000000)(ih:EC X F):zP X 174 #[] .first (F+1):=by
 intro w p r hst h0 h1 hr;rw[qa]at hr;have hPl:=hst.lt;have hlen:=hst.len;obtain⟨i0,hi0,hz0,hz1,hz2⟩:=info_parts qz;have IH:=hid ih;clear ih
 cases he:p.err with
 |some x=>
  have HE:=hid he;replace hr:some (jw,zd X.l p)=some r:=by rw[←hr];simp only[he]
  clear he;have aa:=hid (show r=(jw,zd X.l p)from(Option.some.inj hr).symm);clear hr;obtain⟨N,z⟩: ∃N,N=(w).alloc (.cells #[.int .i64 0,.int .i64 0,.string ⟨#[]⟩,.int .i64 0,.int .i64 0,.string ⟨#[]⟩,.slice none 0 0,.slice none 0 0] 31):=⟨_,rfl⟩
  have R:=hid (show Mvd w N X p by rw[z];exact((Mvd.of hst).alloc _));have hsa:N.heap.size=w.heap.size+1:=by rw[z];simp
  have ad:=hid (show zN N w.heap.size by rw[z];exact(zN.new w));have ac:=hid z;clear z;go_enter Tryz.func174,Tryz.ntmps174
  go_wp2_with fail
  rw[←ac.out];refine(qO R.out.st).mono ?_;rintro e1 Y ⟨rfl,E⟩;have J:=hid (R.out.trans E);have hs1:=E.grown.size;have O:=hid (NdB.grown ad.out E.grown (show X.P<w.heap.size by omega));clear E;obtain⟨ev,M,hE⟩:=J.out.st.at_;have c0:=M.c0;have c1:=M.c1;have c3:=M.c3;rw[HE.out]at hE;obtain⟨ty,ve,rfl⟩:=jb hE;clear M hE;go_wp2_with fail
  go_quiet (fail)
  generalize B:World.drewN _ _=w2;have C:Below Y.heap.size Y w2:=by rw[←B];exact⟨rfl,rfl,rfl,Nat.le_refl _,fun _ _=>rfl⟩
  clear B c0 c1 c3;have hs2:=C.size;have Q:=hid (J.out.below C);have A:=hid (O.out.below' C);clear C;go_wp2_with fail
  refine(kI X _ _ Q.out.st).mono ?_;rintro e3 w3 ⟨rfl,I⟩;have U:=hid (Q.out.trans I);have hs3:=I.grown.size;have q:=hid (NdB.grown A.out I.grown (show X.P<w.heap.size by omega));clear I;have c1_0:=q.out.c0;have f1_0:=q.out.fr 0;have c1_1:=q.out.c1;have f1_1:=q.out.fr 1;have c1_2:=q.out.c2;have f1_2:=q.out.fr 2;have c1_3:=q.out.c3;have f1_3:=q.out.fr 3;have c1_4:=q.out.c4;have f1_4:=q.out.fr 4;have c1_5:=q.out.c5;have f1_5:=q.out.fr 5;have c1_6:=q.out.c6;have f1_6:=q.out.fr 6;have c1_7:=q.out.c7;have f1_7:=q.out.fr 7;go_wp2_with fail
  refine ql Tryz.results174 w.heap.size rfl rfl (q.out.set8 _ _ _ _ _ _ _ _) ?_;exact PNd.mk 0 0 ⟨#[]⟩ 0 0 ⟨#[]⟩ none 0 (.slice none 0 0) .nil _ aa.out (U.out.node q.out (by omega) (by omega) (qe _ _ _ _ _ _ _ _ _ _)) (OwnN.nil _ _) (zr (by decide) (by decide)) (Nat.zero_le _) (by first|omega|(simp<;>omega))
 |none=>
  have HE:=hid he;by_cases hp:X.l.length≤p.pos
  ·have HO:=hid hp
   have hnone:X.l[p.pos]?=none:=List.getElem?_eq_none hp;replace hr:some (jw,zd X.l p)=some r:=by rw[←hr];simp only[he,hnone]
   clear he hp hnone;have aa:=hid (show r=(jw,zd X.l p)from(Option.some.inj hr).symm);clear hr;obtain⟨N,z⟩: ∃N,N=(w).alloc (.cells #[.int .i64 0,.int .i64 0,.string ⟨#[]⟩,.int .i64 0,.int .i64 0,.string ⟨#[]⟩,.slice none 0 0,.slice none 0 0] 31):=⟨_,rfl⟩
   have R:=hid (show Mvd w N X p by rw[z];exact((Mvd.of hst).alloc _));have hsa:N.heap.size=w.heap.size+1:=by rw[z];simp
   have ad:=hid (show zN N w.heap.size by rw[z];exact(zN.new w));have ac:=hid z;clear z;go_enter Tryz.func174,Tryz.ntmps174
   go_wp2_with fail
   rw[←ac.out];refine(qO R.out.st).mono ?_;rintro e1 Y ⟨rfl,E⟩;have J:=hid (R.out.trans E);have hs1:=E.grown.size;have O:=hid (NdB.grown ad.out E.grown (show X.P<w.heap.size by omega));clear E;obtain⟨ev,M,hE⟩:=J.out.st.at_;have c0:=M.c0;have c1:=M.c1;have c3:=M.c3;rw[HE.out]at hE;obtain rfl:ev= .nilIface:=hE;clear M;have b2:(X.l.length:Int)≤(p.pos:Int):=by have:=HO.out;omega
   have b3:decide (X.l.length≤p.pos)=true:=decide_eq_true HO.out;go_wp2_with fail
   go_quiet (fail)
   generalize B:World.drewN _ _=w2;have C:Below Y.heap.size Y w2:=by rw[←B];exact⟨rfl,rfl,rfl,Nat.le_refl _,fun _ _=>rfl⟩
   clear B c0 c1 c3 b2 b3;have hs2:=C.size;have Q:=hid (J.out.below C);have A:=hid (O.out.below' C);clear C;go_wp2_with fail
   refine(kI X _ _ Q.out.st).mono ?_;rintro e3 w3 ⟨rfl,I⟩;have U:=hid (Q.out.trans I);have hs3:=I.grown.size;have q:=hid (NdB.grown A.out I.grown (show X.P<w.heap.size by omega));clear I;have c1_0:=q.out.c0;have f1_0:=q.out.fr 0;have c1_1:=q.out.c1;have f1_1:=q.out.fr 1;have c1_2:=q.out.c2;have f1_2:=q.out.fr 2;have c1_3:=q.out.c3;have f1_3:=q.out.fr 3;have c1_4:=q.out.c4;have f1_4:=q.out.fr 4;have c1_5:=q.out.c5;have f1_5:=q.out.fr 5;have c1_6:=q.out.c6;have f1_6:=q.out.fr 6;have c1_7:=q.out.c7;have f1_7:=q.out.fr 7;go_wp2_with fail
   refine ql Tryz.results174 w.heap.size rfl rfl (q.out.set8 _ _ _ _ _ _ _ _) ?_;exact PNd.mk 0 0 ⟨#[]⟩ 0 0 ⟨#[]⟩ none 0 (.slice none 0 0) .nil _ aa.out (U.out.node q.out (by omega) (by omega) (qe _ _ _ _ _ _ _ _ _ _)) (OwnN.nil _ _) (zr (by decide) (by decide)) (Nat.zero_le _) (by first|omega|(simp<;>omega))
  obtain⟨m,htk⟩:=kp (l:=X.l) (i:=p.pos) (by omega);have hlt:p.pos<X.l.length:=by omega
  clear hp;have HT:=hid htk;rw[he,htk]at hr;clear he htk;by_cases hk3:m.kind=3
  ·have HK:=hid hk3
   replace hr:some (nd 1 (qd X.l p) ⟨#[]⟩ m.k m.n m.t .nil,qb p)=some r:=by rw[←hr];simp only[hk3];rfl
   clear hk3;have aa:=hid (show r=(nd 1 (qd X.l p) ⟨#[]⟩ m.k m.n m.t .nil,qb p)from(Option.some.inj hr).symm);clear hr;obtain⟨N,z⟩: ∃N,N=(w).alloc (.cells #[.int .i64 0,.int .i64 0,.string ⟨#[]⟩,.int .i64 0,.int .i64 0,.string ⟨#[]⟩,.slice none 0 0,.slice none 0 0] 31):=⟨_,rfl⟩
   have R:=hid (show Mvd w N X p by rw[z];exact((Mvd.of hst).alloc _));have hsa:N.heap.size=w.heap.size+1:=by rw[z];simp
   have ad:=hid (show zN N w.heap.size by rw[z];exact(zN.new w));have ac:=hid z;clear z;go_enter Tryz.func174,Tryz.ntmps174
   go_wp2_with fail
   rw[←ac.out];refine(qO R.out.st).mono ?_;rintro e1 Y ⟨rfl,E⟩;have J:=hid (R.out.trans E);have hs1:=E.grown.size;have O:=hid (NdB.grown ad.out E.grown (show X.P<w.heap.size by omega));clear E;obtain⟨ev,M,hE⟩:=J.out.st.at_;obtain⟨g,sa,sc,hA,hg,t0,t1,t2,t3,t4,t5,t6⟩:=J.out.st.tok HT.out;have c0:=M.c0;rw[hA]at c0;have c1:=M.c1;have c3:=M.c3;rw[HE.out]at hE;obtain rfl:ev= .nilIface:=hE;have b0:(0:Int)≤(p.pos:Int):=by omega
   have b1:(p.pos:Int)<(X.l.length:Int):=by omega
   have b2: ¬(X.l.length:Int)≤(p.pos:Int):=by omega
   have b3:decide (X.l.length≤p.pos)=false:=decide_eq_false (by omega);rw[HK.out]at t0;clear M hA;go_wp2_with fail
   go_quiet (fail)
   go_wp2_with fail
   generalize j:World.drewN _ _=wq;have H:Below Y.heap.size Y wq:=by rw[←j];exact⟨rfl,rfl,rfl,Nat.le_refl _,fun _ _=>rfl⟩
   have q0:wq.cell? ⟨X.P,0,none⟩=some (.slice (some ⟨g,0,none⟩) X.l.length X.c):=by rw[←j];exact c0
   have q1:wq.cell? ⟨X.P,1,none⟩=some (.int .i64 p.pos):=by rw[←j];exact c1
   have r0:wq.cell? ⟨g,p.pos*7,none⟩=some (.int .i64 3):=by rw[←j];exact t0
   have r1:wq.cell? ⟨g,p.pos*7+1,none⟩=some (.int .i64 m.line):=by rw[←j];exact t1
   have r2:wq.cell? ⟨g,p.pos*7+2,none⟩=some (.string m.s):=by rw[←j];exact t2
   have r3:wq.cell? ⟨g,p.pos*7+3,none⟩=some (.int .i64 m.k):=by rw[←j];exact t3
   have r4:wq.cell? ⟨g,p.pos*7+4,none⟩=some (.int .i64 m.n):=by rw[←j];exact t4
   have r5:wq.cell? ⟨g,p.pos*7+5,none⟩=some (.string m.t):=by rw[←j];exact t5
   have r6:wq.cell? ⟨g,p.pos*7+6,none⟩=some (.slice sa 0 sc):=by rw[←j];exact t6
   clear j c0 c1 c3 t0 t1 t2 t3 t4 t5 t6
   go_region_held3 (fun W=>W.cell? ⟨X.P,0,none⟩=some (.slice (some ⟨g,0,none⟩) X.l.length X.c)∧W.cell? ⟨X.P,1,none⟩=some (.int .i64 p.pos)∧W.cell? ⟨g,p.pos*7,none⟩=some (.int .i64 3)∧W.cell? ⟨g,p.pos*7+1,none⟩=some (.int .i64 m.line)∧W.cell? ⟨g,p.pos*7+2,none⟩=some (.string m.s)∧W.cell? ⟨g,p.pos*7+3,none⟩=some (.int .i64 m.k)∧W.cell? ⟨g,p.pos*7+4,none⟩=some (.int .i64 m.n)∧W.cell? ⟨g,p.pos*7+5,none⟩=some (.string m.t)∧W.cell? ⟨g,p.pos*7+6,none⟩=some (.slice sa 0 sc)) (first|assumption|exact⟨q0,q1,r0,r1,r2,r3,r4,r5,r6⟩|go_keep) (fail)
   clear q0 q1 r0 r1 r2 r3 r4 r5 r6;obtain⟨w2,B⟩: ∃W,W=(wq.alloc (.cells #[.int .i64 3,.int .i64 m.line,.string m.s,.int .i64 m.k,.int .i64 m.n,.string m.t,.slice sa 0 sc] 55)).drew:=⟨_,rfl⟩
   have C:Below Y.heap.size Y w2:=by rw[B];exact(H.alloc H.size _).drew
   have hsq:=H.size;have v:=hid (show TkT w2 wq.heap.size (.int .i64 3) (.int .i64 m.line) (.string m.s) (.int .i64 m.k) (.int .i64 m.n) (.string m.t) (.slice sa 0 sc)by rw[B];exact heap_alloc_new wq _);have hsw:w2.heap.size=wq.heap.size+1:=by rw[B];show(wq.alloc _).heap.size=_;simp
   have HW2:=hid B;clear B H b0 b1 b2 b3;have hs2:=C.size;have Q:=hid (J.out.below C);have A:=hid (O.out.below' C);clear C;rw[←HW2.out];have c1_0:=v.out.c0;have c1_1:=v.out.c1;have c1_2:=v.out.c2;have c1_3:=v.out.c3;have c1_4:=v.out.c4;have c1_5:=v.out.c5;have c1_6:=v.out.c6;obtain⟨ev,M,hE⟩:=Q.out.st.at_;have c1:=M.c1;have f1:=M.fr 1;clear M hE;have c2_0:=A.out.c0;have f2_0:=A.out.fr 0;have c2_1:=A.out.c1;have f2_1:=A.out.fr 1;have c2_2:=A.out.c2;have f2_2:=A.out.fr 2;have c2_3:=A.out.c3;have f2_3:=A.out.fr 3;have c2_4:=A.out.c4;have f2_4:=A.out.fr 4;have c2_5:=A.out.c5;have f2_5:=A.out.fr 5;have c2_6:=A.out.c6;have f2_6:=A.out.fr 6;have c2_7:=A.out.c7;have f2_7:=A.out.fr 7;have hne1:X.P≠w.heap.size:=by omega
   have hne2:w.heap.size≠X.P:=by omega
   have hne3:wq.heap.size≠X.P:=by omega
   have hne4:X.P≠wq.heap.size:=by omega
   go_wp2_with fail
   have HMn3:=hid (Q.out.jump 1 (by omega));obtain⟨w3,hw3⟩: ∃W,W=w2.setCell ⟨X.P,1,none⟩ (.int .i64 ((p.pos:Int)+1)):=⟨_,rfl⟩
   have hg3:w2.grownBy w3 (some X.P):=by rw[hw3];exact qv _ _ _ _
   have U:=hid (show Mvd w w3 X (qb p)by rw[hw3];exact HMn3.out);have hs3:=hg3.size;have q:=hid (NdB.grown A.out hg3 (show X.P<w.heap.size by omega));have Z:=hid (TkT.grown v.out hg3 (show X.P<wq.heap.size by omega));have HW3:=hid hw3;clear hw3 hg3 HMn3;rw[←HW3.out];refine ql Tryz.results174 w.heap.size rfl rfl (q.out.set8 _ _ _ _ _ _ _ _) ?_;exact PNd.mk 1 (qd X.l p) ⟨#[]⟩ m.k m.n m.t sa sc (.slice none 0 0) .nil _ aa.out (U.out.node q.out (by omega) (by omega) (qe _ _ _ _ _ _ _ _ _ _)) (OwnN.nil _ _) (zr (by decide) (by decide)) (Nat.zero_le _) (by first|omega|(simp<;>omega))
  ·by_cases hk1:m.kind=1
   ·have HK:=hid hk1
    cases hb:qj X.l (qb p) [40]with
    |true=>
     have HB:=hid hb;replace hr:((qa X.l F (.items [41]) (qb (qb p))).bind fun(x,p1)=>some (nd 24 (qd X.l p) m.s 0 0 ⟨#[]⟩ x,p1))=some r:=by rw[←hr];simp only[hk1,hb];rfl
     clear hk1 hk3 hb
     cases hq1:qa X.l F (.items [41]) (qb (qb p))with
     |none=>rw[hq1]at hr;cases hr
     |some q1=>
     obtain⟨l1,p1⟩:=q1;rw[hq1]at hr;replace hr:some (nd 24 (qd X.l p) m.s 0 0 ⟨#[]⟩ l1,p1)=some r:=hr;have HQ1:=hid hq1;clear hq1;have aa:=hid (show r=(nd 24 (qd X.l p) m.s 0 0 ⟨#[]⟩ l1,p1)from(Option.some.inj hr).symm);clear hr;obtain⟨N,z⟩: ∃N,N=(w).alloc (.cells #[.int .i64 0,.int .i64 0,.string ⟨#[]⟩,.int .i64 0,.int .i64 0,.string ⟨#[]⟩,.slice none 0 0,.slice none 0 0] 31):=⟨_,rfl⟩
     have R:=hid (show Mvd w N X p by rw[z];exact((Mvd.of hst).alloc _));have hsa:N.heap.size=w.heap.size+1:=by rw[z];simp
     have ad:=hid (show zN N w.heap.size by rw[z];exact(zN.new w));have ac:=hid z;clear z;go_enter Tryz.func174,Tryz.ntmps174
     go_wp2_with fail
     rw[←ac.out];refine(qO R.out.st).mono ?_;rintro e1 Y ⟨rfl,E⟩;have J:=hid (R.out.trans E);have hs1:=E.grown.size;have O:=hid (NdB.grown ad.out E.grown (show X.P<w.heap.size by omega));clear E;obtain⟨ev,M,hE⟩:=J.out.st.at_;obtain⟨g,sa,sc,hA,hg,t0,t1,t2,t3,t4,t5,t6⟩:=J.out.st.tok HT.out;have c0:=M.c0;rw[hA]at c0;have c1:=M.c1;have c3:=M.c3;rw[HE.out]at hE;obtain rfl:ev= .nilIface:=hE;have b0:(0:Int)≤(p.pos:Int):=by omega
     have b1:(p.pos:Int)<(X.l.length:Int):=by omega
     have b2: ¬(X.l.length:Int)≤(p.pos:Int):=by omega
     have b3:decide (X.l.length≤p.pos)=false:=decide_eq_false (by omega);rw[HK.out]at t0;clear M hA;go_wp2_with fail
     go_quiet (fail)
     go_wp2_with fail
     generalize j:World.drewN _ _=wq;have H:Below Y.heap.size Y wq:=by rw[←j];exact⟨rfl,rfl,rfl,Nat.le_refl _,fun _ _=>rfl⟩
     have q0:wq.cell? ⟨X.P,0,none⟩=some (.slice (some ⟨g,0,none⟩) X.l.length X.c):=by rw[←j];exact c0
     have q1:wq.cell? ⟨X.P,1,none⟩=some (.int .i64 p.pos):=by rw[←j];exact c1
     have r0:wq.cell? ⟨g,p.pos*7,none⟩=some (.int .i64 1):=by rw[←j];exact t0
     have r1:wq.cell? ⟨g,p.pos*7+1,none⟩=some (.int .i64 m.line):=by rw[←j];exact t1
     have r2:wq.cell? ⟨g,p.pos*7+2,none⟩=some (.string m.s):=by rw[←j];exact t2
     have r3:wq.cell? ⟨g,p.pos*7+3,none⟩=some (.int .i64 m.k):=by rw[←j];exact t3
     have r4:wq.cell? ⟨g,p.pos*7+4,none⟩=some (.int .i64 m.n):=by rw[←j];exact t4
     have r5:wq.cell? ⟨g,p.pos*7+5,none⟩=some (.string m.t):=by rw[←j];exact t5
     have r6:wq.cell? ⟨g,p.pos*7+6,none⟩=some (.slice sa 0 sc):=by rw[←j];exact t6
     clear j c0 c1 c3 t0 t1 t2 t3 t4 t5 t6
     go_region_held3 (fun W=>W.cell? ⟨X.P,0,none⟩=some (.slice (some ⟨g,0,none⟩) X.l.length X.c)∧W.cell? ⟨X.P,1,none⟩=some (.int .i64 p.pos)∧W.cell? ⟨g,p.pos*7,none⟩=some (.int .i64 1)∧W.cell? ⟨g,p.pos*7+1,none⟩=some (.int .i64 m.line)∧W.cell? ⟨g,p.pos*7+2,none⟩=some (.string m.s)∧W.cell? ⟨g,p.pos*7+3,none⟩=some (.int .i64 m.k)∧W.cell? ⟨g,p.pos*7+4,none⟩=some (.int .i64 m.n)∧W.cell? ⟨g,p.pos*7+5,none⟩=some (.string m.t)∧W.cell? ⟨g,p.pos*7+6,none⟩=some (.slice sa 0 sc)) (first|assumption|exact⟨q0,q1,r0,r1,r2,r3,r4,r5,r6⟩|go_keep) (fail)
     clear q0 q1 r0 r1 r2 r3 r4 r5 r6;obtain⟨w2,B⟩: ∃W,W=(wq.alloc (.cells #[.int .i64 1,.int .i64 m.line,.string m.s,.int .i64 m.k,.int .i64 m.n,.string m.t,.slice sa 0 sc] 55)).drew:=⟨_,rfl⟩
     have C:Below Y.heap.size Y w2:=by rw[B];exact(H.alloc H.size _).drew
     have hsq:=H.size;have v:=hid (show TkT w2 wq.heap.size (.int .i64 1) (.int .i64 m.line) (.string m.s) (.int .i64 m.k) (.int .i64 m.n) (.string m.t) (.slice sa 0 sc)by rw[B];exact heap_alloc_new wq _);have hsw:w2.heap.size=wq.heap.size+1:=by rw[B];show(wq.alloc _).heap.size=_;simp
     have HW2:=hid B;clear B H b0 b1 b2 b3;have hs2:=C.size;have Q:=hid (J.out.below C);have A:=hid (O.out.below' C);clear C;rw[←HW2.out];have c1_0:=v.out.c0;have c1_1:=v.out.c1;have c1_2:=v.out.c2;have c1_3:=v.out.c3;have c1_4:=v.out.c4;have c1_5:=v.out.c5;have c1_6:=v.out.c6;obtain⟨ev,M,hE⟩:=Q.out.st.at_;have c1:=M.c1;have f1:=M.fr 1;clear M hE;go_wp2_with fail
     have HMn3:=hid (Q.out.jump 1 (by omega));obtain⟨w3,hw3⟩: ∃W,W=w2.setCell ⟨X.P,1,none⟩ (.int .i64 ((p.pos:Int)+1)):=⟨_,rfl⟩
     have hg3:w2.grownBy w3 (some X.P):=by rw[hw3];exact qv _ _ _ _
     have U:=hid (show Mvd w w3 X (qb p)by rw[hw3];exact HMn3.out);have hs3:=hg3.size;have q:=hid (NdB.grown A.out hg3 (show X.P<w.heap.size by omega));have Z:=hid (TkT.grown v.out hg3 (show X.P<wq.heap.size by omega));have HW3:=hid hw3;clear hw3 hg3 HMn3;rw[←HW3.out];clear c1 f1;refine(za U.out.st (s:=⟨#[40]⟩) (L:= [40]) rfl HB.out).mono ?_;rintro e4 w4 ⟨rfl,G⟩;have ae:=hid (U.out.trans G);have hs4:=G.grown.size;have u:=hid (NdB.grown q.out G.grown (show X.P<w.heap.size by omega));have T:=hid (TkT.grown Z.out G.grown (show X.P<wq.heap.size by omega));clear G;have c2:=T.out.c2;have c2d:w4.drew.cell? ⟨wq.heap.size,2,none⟩=some (.string m.s):=c2;have ITC:=hid (fun W (hW:PSt W X (qb (qb p)))=>IH.out.items F (Nat.le_refl _) ⟨#[41]⟩ W _ _ hW (by first|omega|(simp<;>omega)) (by first|omega|(simp<;>omega)) HQ1.out);have HSD:=hid (show PSt w4.drew X (qb (qb p))from ae.out.st.below (Below.drew (Below.refl _ _)));have HMD:=hid (show Mvd w w4.drew X (qb (qb p))from ae.out.drew);have hne5:w.heap.size≠wq.heap.size:=by omega
     have hne6:wq.heap.size≠w.heap.size:=by omega
     go_wp2_with fail
     go_region_held3 (fun W=>W.cell? ⟨wq.heap.size,2,none⟩=some (.string m.s))
      (first|(with_reducible assumption)|go_keep)
      (first
       |(go_at_call 204;refine(ITC.out _ HSD.out).mono ?_
         rintro e8 w8 ⟨V8,rfl,hm8,ho8,hk8,hl8,hd8⟩;obtain⟨A8,c8,rfl⟩:=ho8.form;have HG8:=hid (show w4.grownBy w8 (some X.P)from⟨hm8.grown.os,hm8.grown.tape,hm8.grown.output,hm8.grown.size,hm8.grown.block⟩);have HM8:=hid (HMD.out.trans hm8);have HT8:=hid (TkT.grown (w:=w4) T.out HG8.out (show X.P<wq.heap.size by omega));have af:=hid (NdB.grown (w:=w4) u.out HG8.out (show X.P<w.heap.size by omega));have c2_8:=HT8.out.c2;have g0:=af.out.c0;have g1:=af.out.c1;have g2:=af.out.c2;have g3:=af.out.c3;have g4:=af.out.c4;have g5:=af.out.c5;have g6:=af.out.c6;have g7:=af.out.c7;have j0:=af.out.fr 0;have j1:=af.out.fr 1;have j2:=af.out.fr 2;have j3:=af.out.fr 3;have j4:=af.out.fr 4;have j5:=af.out.fr 5;have j6:=af.out.fr 6;have j7:=af.out.fr 7;have HO8:=hid ho8;have HK8:=hid (show qQ l1 from hk8);replace hl8:l1.len≤2*F+2:=hl8;have hs8:w4.heap.size≤w8.heap.size:=hm8.grown.size;have hd8:p1.deep=p.deep:=by have h:p1.deep=(qb (qb p)).deep:=hd8;(try simp at h);omega
         clear hm8 ho8 hk8))
     go_wp2_with fail
     refine ql Tryz.results174 w.heap.size rfl rfl (af.out.set8 _ _ _ _ _ _ _ _) ?_;exact PNd.mk 24 (qd X.l p) m.s 0 0 ⟨#[]⟩ none 0 _ l1 _ aa.out (HM8.out.node af.out (by omega) (by omega) (qe _ _ _ _ _ _ _ _ _ _)) (qC (HO8.out.wide (D':=DG w4.heap.size 0) (fun k (hk:_≤k) hk2=>⟨hk,by have:w4.heap.size≤k:=hk;omega⟩)) (by omega) (qe _ _ _ _ _ _ _ _ _ _) (by omega)) (qX HK8.out (fun h=>by rcases h with h|h<;>cases h)) (by omega) (by omega)
    |false=>
     have HB:=hid hb;replace hr:some (nd 2 (qd X.l p) m.s 0 0 ⟨#[]⟩ .nil,qb p)=some r:=by rw[←hr];simp only[hk1,hb];rfl
     clear hk1 hk3 hb;have aa:=hid (show r=(nd 2 (qd X.l p) m.s 0 0 ⟨#[]⟩ .nil,qb p)from(Option.some.inj hr).symm);clear hr;obtain⟨N,z⟩: ∃N,N=(w).alloc (.cells #[.int .i64 0,.int .i64 0,.string ⟨#[]⟩,.int .i64 0,.int .i64 0,.string ⟨#[]⟩,.slice none 0 0,.slice none 0 0] 31):=⟨_,rfl⟩
     have R:=hid (show Mvd w N X p by rw[z];exact((Mvd.of hst).alloc _));have hsa:N.heap.size=w.heap.size+1:=by rw[z];simp
     have ad:=hid (show zN N w.heap.size by rw[z];exact(zN.new w));have ac:=hid z;clear z;go_enter Tryz.func174,Tryz.ntmps174
     go_wp2_with fail
     rw[←ac.out];refine(qO R.out.st).mono ?_;rintro e1 Y ⟨rfl,E⟩;have J:=hid (R.out.trans E);have hs1:=E.grown.size;have O:=hid (NdB.grown ad.out E.grown (show X.P<w.heap.size by omega));clear E;obtain⟨ev,M,hE⟩:=J.out.st.at_;obtain⟨g,sa,sc,hA,hg,t0,t1,t2,t3,t4,t5,t6⟩:=J.out.st.tok HT.out;have c0:=M.c0;rw[hA]at c0;have c1:=M.c1;have c3:=M.c3;rw[HE.out]at hE;obtain rfl:ev= .nilIface:=hE;have b0:(0:Int)≤(p.pos:Int):=by omega
     have b1:(p.pos:Int)<(X.l.length:Int):=by omega
     have b2: ¬(X.l.length:Int)≤(p.pos:Int):=by omega
     have b3:decide (X.l.length≤p.pos)=false:=decide_eq_false (by omega);rw[HK.out]at t0;clear M hA;go_wp2_with fail
     go_quiet (fail)
     go_wp2_with fail
     generalize j:World.drewN _ _=wq;have H:Below Y.heap.size Y wq:=by rw[←j];exact⟨rfl,rfl,rfl,Nat.le_refl _,fun _ _=>rfl⟩
     have q0:wq.cell? ⟨X.P,0,none⟩=some (.slice (some ⟨g,0,none⟩) X.l.length X.c):=by rw[←j];exact c0
     have q1:wq.cell? ⟨X.P,1,none⟩=some (.int .i64 p.pos):=by rw[←j];exact c1
     have r0:wq.cell? ⟨g,p.pos*7,none⟩=some (.int .i64 1):=by rw[←j];exact t0
     have r1:wq.cell? ⟨g,p.pos*7+1,none⟩=some (.int .i64 m.line):=by rw[←j];exact t1
     have r2:wq.cell? ⟨g,p.pos*7+2,none⟩=some (.string m.s):=by rw[←j];exact t2
     have r3:wq.cell? ⟨g,p.pos*7+3,none⟩=some (.int .i64 m.k):=by rw[←j];exact t3
     have r4:wq.cell? ⟨g,p.pos*7+4,none⟩=some (.int .i64 m.n):=by rw[←j];exact t4
     have r5:wq.cell? ⟨g,p.pos*7+5,none⟩=some (.string m.t):=by rw[←j];exact t5
     have r6:wq.cell? ⟨g,p.pos*7+6,none⟩=some (.slice sa 0 sc):=by rw[←j];exact t6
     clear j c0 c1 c3 t0 t1 t2 t3 t4 t5 t6
     go_region_held3 (fun W=>W.cell? ⟨X.P,0,none⟩=some (.slice (some ⟨g,0,none⟩) X.l.length X.c)∧W.cell? ⟨X.P,1,none⟩=some (.int .i64 p.pos)∧W.cell? ⟨g,p.pos*7,none⟩=some (.int .i64 1)∧W.cell? ⟨g,p.pos*7+1,none⟩=some (.int .i64 m.line)∧W.cell? ⟨g,p.pos*7+2,none⟩=some (.string m.s)∧W.cell? ⟨g,p.pos*7+3,none⟩=some (.int .i64 m.k)∧W.cell? ⟨g,p.pos*7+4,none⟩=some (.int .i64 m.n)∧W.cell? ⟨g,p.pos*7+5,none⟩=some (.string m.t)∧W.cell? ⟨g,p.pos*7+6,none⟩=some (.slice sa 0 sc)) (first|assumption|exact⟨q0,q1,r0,r1,r2,r3,r4,r5,r6⟩|go_keep) (fail)
     clear q0 q1 r0 r1 r2 r3 r4 r5 r6;obtain⟨w2,B⟩: ∃W,W=(wq.alloc (.cells #[.int .i64 1,.int .i64 m.line,.string m.s,.int .i64 m.k,.int .i64 m.n,.string m.t,.slice sa 0 sc] 55)).drew:=⟨_,rfl⟩
     have C:Below Y.heap.size Y w2:=by rw[B];exact(H.alloc H.size _).drew
     have hsq:=H.size;have v:=hid (show TkT w2 wq.heap.size (.int .i64 1) (.int .i64 m.line) (.string m.s) (.int .i64 m.k) (.int .i64 m.n) (.string m.t) (.slice sa 0 sc)by rw[B];exact heap_alloc_new wq _);have hsw:w2.heap.size=wq.heap.size+1:=by rw[B];show(wq.alloc _).heap.size=_;simp
     have HW2:=hid B;clear B H b0 b1 b2 b3;have hs2:=C.size;have Q:=hid (J.out.below C);have A:=hid (O.out.below' C);clear C;rw[←HW2.out];have c1_0:=v.out.c0;have c1_1:=v.out.c1;have c1_2:=v.out.c2;have c1_3:=v.out.c3;have c1_4:=v.out.c4;have c1_5:=v.out.c5;have c1_6:=v.out.c6;obtain⟨ev,M,hE⟩:=Q.out.st.at_;have c1:=M.c1;have f1:=M.fr 1;clear M hE;go_wp2_with fail
     have HMn3:=hid (Q.out.jump 1 (by omega));obtain⟨w3,hw3⟩: ∃W,W=w2.setCell ⟨X.P,1,none⟩ (.int .i64 ((p.pos:Int)+1)):=⟨_,rfl⟩
     have hg3:w2.grownBy w3 (some X.P):=by rw[hw3];exact qv _ _ _ _
     have U:=hid (show Mvd w w3 X (qb p)by rw[hw3];exact HMn3.out);have hs3:=hg3.size;have q:=hid (NdB.grown A.out hg3 (show X.P<w.heap.size by omega));have Z:=hid (TkT.grown v.out hg3 (show X.P<wq.heap.size by omega));have HW3:=hid hw3;clear hw3 hg3 HMn3;rw[←HW3.out];clear c1 f1;refine(qr U.out.st (s:=⟨#[40]⟩) (L:= [40]) rfl HB.out).mono ?_;rintro e4 w4 ⟨rfl,G⟩;have ae:=hid (U.out.trans G);have hs4:=G.grown.size;have u:=hid (NdB.grown q.out G.grown (show X.P<w.heap.size by omega));have T:=hid (TkT.grown Z.out G.grown (show X.P<wq.heap.size by omega));clear G;have c2_0:=T.out.c0;have c2_1:=T.out.c1;have c2_2:=T.out.c2;have c2_3:=T.out.c3;have c2_4:=T.out.c4;have c2_5:=T.out.c5;have c2_6:=T.out.c6;have c3_0:=u.out.c0;have f3_0:=u.out.fr 0;have c3_1:=u.out.c1;have f3_1:=u.out.fr 1;have c3_2:=u.out.c2;have f3_2:=u.out.fr 2;have c3_3:=u.out.c3;have f3_3:=u.out.fr 3;have c3_4:=u.out.c4;have f3_4:=u.out.fr 4;have c3_5:=u.out.c5;have f3_5:=u.out.fr 5;have c3_6:=u.out.c6;have f3_6:=u.out.fr 6;have c3_7:=u.out.c7;have f3_7:=u.out.fr 7;go_wp2_with fail
     refine ql Tryz.results174 w.heap.size rfl rfl (u.out.set8 _ _ _ _ _ _ _ _) ?_;exact PNd.mk 2 (qd X.l p) m.s 0 0 ⟨#[]⟩ none 0 (.slice none 0 0) .nil _ aa.out (ae.out.node u.out (by omega) (by omega) (qe _ _ _ _ _ _ _ _ _ _)) (OwnN.nil _ _) (zr (by decide) (by decide)) (Nat.zero_le _) (by first|omega|(simp<;>omega))
   ·obtain⟨kd,hkd⟩: ∃kd,kd=m.kind:=⟨_,rfl⟩
    have HK:=hid hkd;have n3:(kd==3)=false:=beq_eq_false_iff_ne.2 (by rw[hkd];exact hk3);have n1:(kd==1)=false:=beq_eq_false_iff_ne.2 (by rw[hkd];exact hk1)
    replace hr:(if qj X.l p [123]then(qa X.l F (.items [125]) (qb p)).bind fun(x,p1)=>some (ndL 25 (qd X.l p) x,p1)
     else if qj X.l p [40]then qa X.l F (.within [41]) (qb p)
     else if qj X.l p [36]then some (ndL 22 (qd X.l p) ((nd 1 (qd X.l p) ⟨#[]⟩ 1 0 ⟨#[]⟩ .nil).app (nd 1 (qd X.l (qb p)) ⟨#[]⟩ 2 0 (qE X.l (qb p)).1 .nil)),(qE X.l (qb p)).2)
     else if qj X.l p [96]then qa X.l F (.caught (qd X.l p)) (qb p)else some (jw,zd X.l p))=some r:=by
     rw[hkd]at n3 n1;rw[←hr];simp only[n3,n1];rfl
    clear hk1 hk3 hkd
    cases hb:qj X.l p [123]with
    |true=>
     rw[hb]at hr;have H123:=hid hb;clear hb;replace hr:((qa X.l F (.items [125]) (qb p)).bind fun(x,p1)=>some (ndL 25 (qd X.l p) x,p1))=some r:=hr
     cases hq1:qa X.l F (.items [125]) (qb p)with
     |none=>rw[hq1]at hr;cases hr
     |some q1=>
     obtain⟨l1,p1⟩:=q1;rw[hq1]at hr;replace hr:some (ndL 25 (qd X.l p) l1,p1)=some r:=hr;have HQ1:=hid hq1;clear hq1;have aa:=hid (show r=(ndL 25 (qd X.l p) l1,p1)from(Option.some.inj hr).symm);clear hr;obtain⟨N,z⟩: ∃N,N=(w).alloc (.cells #[.int .i64 0,.int .i64 0,.string ⟨#[]⟩,.int .i64 0,.int .i64 0,.string ⟨#[]⟩,.slice none 0 0,.slice none 0 0] 31):=⟨_,rfl⟩
     have R:=hid (show Mvd w N X p by rw[z];exact((Mvd.of hst).alloc _));have hsa:N.heap.size=w.heap.size+1:=by rw[z];simp
     have ad:=hid (show zN N w.heap.size by rw[z];exact(zN.new w));have ac:=hid z;clear z;go_enter Tryz.func174,Tryz.ntmps174
     go_wp2_with fail
     rw[←ac.out];refine(qO R.out.st).mono ?_;rintro e1 Y ⟨rfl,E⟩;have J:=hid (R.out.trans E);have hs1:=E.grown.size;have O:=hid (NdB.grown ad.out E.grown (show X.P<w.heap.size by omega));clear E;obtain⟨ev,M,hE⟩:=J.out.st.at_;obtain⟨g,sa,sc,hA,hg,t0,t1,t2,t3,t4,t5,t6⟩:=J.out.st.tok HT.out;have c0:=M.c0;rw[hA]at c0;have c1:=M.c1;have c3:=M.c3;rw[HE.out]at hE;obtain rfl:ev= .nilIface:=hE;have b0:(0:Int)≤(p.pos:Int):=by omega
     have b1:(p.pos:Int)<(X.l.length:Int):=by omega
     have b2: ¬(X.l.length:Int)≤(p.pos:Int):=by omega
     have b3:decide (X.l.length≤p.pos)=false:=decide_eq_false (by omega);rw[←HK.out]at t0;clear M hA;go_wp2_with fail
     go_quiet (fail)
     go_wp2_with fail
     generalize j:World.drewN _ _=wq;have H:Below Y.heap.size Y wq:=by rw[←j];exact⟨rfl,rfl,rfl,Nat.le_refl _,fun _ _=>rfl⟩
     have q0:wq.cell? ⟨X.P,0,none⟩=some (.slice (some ⟨g,0,none⟩) X.l.length X.c):=by rw[←j];exact c0
     have q1:wq.cell? ⟨X.P,1,none⟩=some (.int .i64 p.pos):=by rw[←j];exact c1
     have r0:wq.cell? ⟨g,p.pos*7,none⟩=some (.int .i64 kd):=by rw[←j];exact t0
     have r1:wq.cell? ⟨g,p.pos*7+1,none⟩=some (.int .i64 m.line):=by rw[←j];exact t1
     have r2:wq.cell? ⟨g,p.pos*7+2,none⟩=some (.string m.s):=by rw[←j];exact t2
     have r3:wq.cell? ⟨g,p.pos*7+3,none⟩=some (.int .i64 m.k):=by rw[←j];exact t3
     have r4:wq.cell? ⟨g,p.pos*7+4,none⟩=some (.int .i64 m.n):=by rw[←j];exact t4
     have r5:wq.cell? ⟨g,p.pos*7+5,none⟩=some (.string m.t):=by rw[←j];exact t5
     have r6:wq.cell? ⟨g,p.pos*7+6,none⟩=some (.slice sa 0 sc):=by rw[←j];exact t6
     clear j c0 c1 c3 t0 t1 t2 t3 t4 t5 t6
     go_region_held3 (fun W=>W.cell? ⟨X.P,0,none⟩=some (.slice (some ⟨g,0,none⟩) X.l.length X.c)∧W.cell? ⟨X.P,1,none⟩=some (.int .i64 p.pos)∧W.cell? ⟨g,p.pos*7,none⟩=some (.int .i64 kd)∧W.cell? ⟨g,p.pos*7+1,none⟩=some (.int .i64 m.line)∧W.cell? ⟨g,p.pos*7+2,none⟩=some (.string m.s)∧W.cell? ⟨g,p.pos*7+3,none⟩=some (.int .i64 m.k)∧W.cell? ⟨g,p.pos*7+4,none⟩=some (.int .i64 m.n)∧W.cell? ⟨g,p.pos*7+5,none⟩=some (.string m.t)∧W.cell? ⟨g,p.pos*7+6,none⟩=some (.slice sa 0 sc)) (first|assumption|exact⟨q0,q1,r0,r1,r2,r3,r4,r5,r6⟩|go_keep) (fail)
     clear q0 q1 r0 r1 r2 r3 r4 r5 r6;obtain⟨w2,B⟩: ∃W,W=(wq.alloc (.cells #[.int .i64 kd,.int .i64 m.line,.string m.s,.int .i64 m.k,.int .i64 m.n,.string m.t,.slice sa 0 sc] 55)).drew:=⟨_,rfl⟩
     have C:Below Y.heap.size Y w2:=by rw[B];exact(H.alloc H.size _).drew
     have hsq:=H.size;have v:=hid (show TkT w2 wq.heap.size (.int .i64 kd) (.int .i64 m.line) (.string m.s) (.int .i64 m.k) (.int .i64 m.n) (.string m.t) (.slice sa 0 sc)by rw[B];exact heap_alloc_new wq _);have hsw:w2.heap.size=wq.heap.size+1:=by rw[B];show(wq.alloc _).heap.size=_;simp
     have HW2:=hid B;clear B H b0 b1 b2 b3;have hs2:=C.size;have Q:=hid (J.out.below C);have A:=hid (O.out.below' C);clear C;rw[←HW2.out];have c1_0:=v.out.c0;have c1_1:=v.out.c1;have c1_2:=v.out.c2;have c1_3:=v.out.c3;have c1_4:=v.out.c4;have c1_5:=v.out.c5;have c1_6:=v.out.c6;go_wp2_with fail
     refine(za Q.out.st (s:=⟨#[123]⟩) (L:= [123]) rfl H123.out).mono ?_;rintro e3 w3 ⟨rfl,I⟩;have U:=hid (Q.out.trans I);have hs3:=I.grown.size;have q:=hid (NdB.grown A.out I.grown (show X.P<w.heap.size by omega));have Z:=hid (TkT.grown v.out I.grown (show X.P<wq.heap.size by omega));clear I;go_wp2_with fail
     refine(IH.out.items F (Nat.le_refl _) ⟨#[125]⟩ w3 _ _ U.out.st (by first|omega|(simp<;>omega)) (by first|omega|(simp<;>omega)) HQ1.out).mono ?_;rintro e4 w4 ⟨V4,rfl,G,ho4,hk4,hl4,hd4⟩;obtain⟨A4,cc4,rfl⟩:=ho4.form;have hk4:=hid (show qQ l1 from hk4);replace hl4:l1.len≤2*_+2:=hl4;have hd4:p1.deep=p.deep+0:=by have h:p1.deep=(qb p).deep:=hd4;(try simp at h);omega
     have ae:=hid (U.out.trans G);have hs4:=G.grown.size;have u:=hid (NdB.grown q.out G.grown (show X.P<w.heap.size by omega));have HO4:=hid (ho4.wide (D':=DG w3.heap.size 0) (fun k hk hk2=>⟨hk,by omega⟩));clear G ho4;have c2_0:=u.out.c0;have f2_0:=u.out.fr 0;have c2_1:=u.out.c1;have f2_1:=u.out.fr 1;have c2_2:=u.out.c2;have f2_2:=u.out.fr 2;have c2_3:=u.out.c3;have f2_3:=u.out.fr 3;have c2_4:=u.out.c4;have f2_4:=u.out.fr 4;have c2_5:=u.out.c5;have f2_5:=u.out.fr 5;have c2_6:=u.out.c6;have f2_6:=u.out.fr 6;have c2_7:=u.out.c7;have f2_7:=u.out.fr 7;go_wp2_with fail
     refine ql Tryz.results174 w.heap.size rfl rfl (u.out.set8 _ _ _ _ _ _ _ _) ?_;exact PNd.mk 25 (qd X.l p) ⟨#[]⟩ 0 0 ⟨#[]⟩ none 0 _ l1 _ aa.out (ae.out.node u.out (by omega) (by omega) (qe _ _ _ _ _ _ _ _ _ _)) (qC (w0:=w.heap.size) (g:=w.heap.size) HO4.out (by omega) (qe _ _ _ _ _ _ _ _ _ _) (by omega)) (qX hk4.out (fun h=>by rcases h with h|h<;>cases h)) (by omega) (by first|omega|(simp<;>omega))
    |false=>
     rw[hb]at hr;have H123:=hid hb;clear hb
     cases hb:qj X.l p [40]with
     |true=>
      rw[hb]at hr;have H40:=hid hb;clear hb;have HQ1:=hid (show qa X.l F (.within [41]) (qb p)=some r from hr);clear hr;obtain⟨n1,p1⟩:=r;obtain⟨N,z⟩: ∃N,N=(w).alloc (.cells #[.int .i64 0,.int .i64 0,.string ⟨#[]⟩,.int .i64 0,.int .i64 0,.string ⟨#[]⟩,.slice none 0 0,.slice none 0 0] 31):=⟨_,rfl⟩
      have R:=hid (show Mvd w N X p by rw[z];exact((Mvd.of hst).alloc _));have hsa:N.heap.size=w.heap.size+1:=by rw[z];simp
      have ad:=hid (show zN N w.heap.size by rw[z];exact(zN.new w));have ac:=hid z;clear z;go_enter Tryz.func174,Tryz.ntmps174
      go_wp2_with fail
      rw[←ac.out];refine(qO R.out.st).mono ?_;rintro e1 Y ⟨rfl,E⟩;have J:=hid (R.out.trans E);have hs1:=E.grown.size;have O:=hid (NdB.grown ad.out E.grown (show X.P<w.heap.size by omega));clear E;obtain⟨ev,M,hE⟩:=J.out.st.at_;obtain⟨g,sa,sc,hA,hg,t0,t1,t2,t3,t4,t5,t6⟩:=J.out.st.tok HT.out;have c0:=M.c0;rw[hA]at c0;have c1:=M.c1;have c3:=M.c3;rw[HE.out]at hE;obtain rfl:ev= .nilIface:=hE;have b0:(0:Int)≤(p.pos:Int):=by omega
      have b1:(p.pos:Int)<(X.l.length:Int):=by omega
      have b2: ¬(X.l.length:Int)≤(p.pos:Int):=by omega
      have b3:decide (X.l.length≤p.pos)=false:=decide_eq_false (by omega);rw[←HK.out]at t0;clear M hA;go_wp2_with fail
      go_quiet (fail)
      go_wp2_with fail
      generalize j:World.drewN _ _=wq;have H:Below Y.heap.size Y wq:=by rw[←j];exact⟨rfl,rfl,rfl,Nat.le_refl _,fun _ _=>rfl⟩
      have q0:wq.cell? ⟨X.P,0,none⟩=some (.slice (some ⟨g,0,none⟩) X.l.length X.c):=by rw[←j];exact c0
      have q1:wq.cell? ⟨X.P,1,none⟩=some (.int .i64 p.pos):=by rw[←j];exact c1
      have r0:wq.cell? ⟨g,p.pos*7,none⟩=some (.int .i64 kd):=by rw[←j];exact t0
      have r1:wq.cell? ⟨g,p.pos*7+1,none⟩=some (.int .i64 m.line):=by rw[←j];exact t1
      have r2:wq.cell? ⟨g,p.pos*7+2,none⟩=some (.string m.s):=by rw[←j];exact t2
      have r3:wq.cell? ⟨g,p.pos*7+3,none⟩=some (.int .i64 m.k):=by rw[←j];exact t3
      have r4:wq.cell? ⟨g,p.pos*7+4,none⟩=some (.int .i64 m.n):=by rw[←j];exact t4
      have r5:wq.cell? ⟨g,p.pos*7+5,none⟩=some (.string m.t):=by rw[←j];exact t5
      have r6:wq.cell? ⟨g,p.pos*7+6,none⟩=some (.slice sa 0 sc):=by rw[←j];exact t6
      clear j c0 c1 c3 t0 t1 t2 t3 t4 t5 t6
      go_region_held3 (fun W=>W.cell? ⟨X.P,0,none⟩=some (.slice (some ⟨g,0,none⟩) X.l.length X.c)∧W.cell? ⟨X.P,1,none⟩=some (.int .i64 p.pos)∧W.cell? ⟨g,p.pos*7,none⟩=some (.int .i64 kd)∧W.cell? ⟨g,p.pos*7+1,none⟩=some (.int .i64 m.line)∧W.cell? ⟨g,p.pos*7+2,none⟩=some (.string m.s)∧W.cell? ⟨g,p.pos*7+3,none⟩=some (.int .i64 m.k)∧W.cell? ⟨g,p.pos*7+4,none⟩=some (.int .i64 m.n)∧W.cell? ⟨g,p.pos*7+5,none⟩=some (.string m.t)∧W.cell? ⟨g,p.pos*7+6,none⟩=some (.slice sa 0 sc)) (first|assumption|exact⟨q0,q1,r0,r1,r2,r3,r4,r5,r6⟩|go_keep) (fail)
      clear q0 q1 r0 r1 r2 r3 r4 r5 r6;obtain⟨w2,B⟩: ∃W,W=(wq.alloc (.cells #[.int .i64 kd,.int .i64 m.line,.string m.s,.int .i64 m.k,.int .i64 m.n,.string m.t,.slice sa 0 sc] 55)).drew:=⟨_,rfl⟩
      have C:Below Y.heap.size Y w2:=by rw[B];exact(H.alloc H.size _).drew
      have hsq:=H.size;have v:=hid (show TkT w2 wq.heap.size (.int .i64 kd) (.int .i64 m.line) (.string m.s) (.int .i64 m.k) (.int .i64 m.n) (.string m.t) (.slice sa 0 sc)by rw[B];exact heap_alloc_new wq _);have hsw:w2.heap.size=wq.heap.size+1:=by rw[B];show(wq.alloc _).heap.size=_;simp
      have HW2:=hid B;clear B H b0 b1 b2 b3;have hs2:=C.size;have Q:=hid (J.out.below C);have A:=hid (O.out.below' C);clear C;rw[←HW2.out];have c1_0:=v.out.c0;have c1_1:=v.out.c1;have c1_2:=v.out.c2;have c1_3:=v.out.c3;have c1_4:=v.out.c4;have c1_5:=v.out.c5;have c1_6:=v.out.c6;go_wp2_with fail
      refine(qr Q.out.st (s:=⟨#[123]⟩) (L:= [123]) rfl H123.out).mono ?_;rintro e3 w3 ⟨rfl,I⟩;have U:=hid (Q.out.trans I);have hs3:=I.grown.size;have q:=hid (NdB.grown A.out I.grown (show X.P<w.heap.size by omega));have Z:=hid (TkT.grown v.out I.grown (show X.P<wq.heap.size by omega));clear I;go_wp2_with fail
      refine(za U.out.st (s:=⟨#[40]⟩) (L:= [40]) rfl H40.out).mono ?_;rintro e4 w4 ⟨rfl,G⟩;have ae:=hid (U.out.trans G);have hs4:=G.grown.size;have u:=hid (NdB.grown q.out G.grown (show X.P<w.heap.size by omega));have T:=hid (TkT.grown Z.out G.grown (show X.P<wq.heap.size by omega));clear G;go_wp2_with fail
      refine(IH.out.within F (Nat.le_refl _) ⟨#[41]⟩ w4 _ _ ae.out.st (by first|omega|(simp<;>omega)) (by first|omega|(simp<;>omega)) HQ1.out).mono ?_;rintro e5 w5 ⟨op5,ln5,t5,k5,m5,u5,va5,vc5,V5,sub5,hn5,rfl,V,ho5,hk5,hl5,hd5⟩;obtain⟨A5,cc5,rfl⟩:=ho5.form;have hn5:n1=nd op5 ln5 t5 k5 m5 u5 sub5:=hn5;subst hn5;have hk5:=hid hk5;have hd5:p1.deep=p.deep+0:=by have h:p1.deep=(qb p).deep:=hd5;(try simp at h);omega
      have HM5:=hid (ae.out.trans V);have hs5:=V.grown.size;have K:=hid (NdB.grown u.out V.grown (show X.P<w.heap.size by omega));have HO5:=hid (ho5.wide (D':=DG w4.heap.size 0) (fun k hk hk2=>⟨hk,by omega⟩));clear V ho5;unfold qN;have c2_0:=K.out.c0;have f2_0:=K.out.fr 0;have c2_1:=K.out.c1;have f2_1:=K.out.fr 1;have c2_2:=K.out.c2;have f2_2:=K.out.fr 2;have c2_3:=K.out.c3;have f2_3:=K.out.fr 3;have c2_4:=K.out.c4;have f2_4:=K.out.fr 4;have c2_5:=K.out.c5;have f2_5:=K.out.fr 5;have c2_6:=K.out.c6;have f2_6:=K.out.fr 6;have c2_7:=K.out.c7;have f2_7:=K.out.fr 7;go_wp2_with fail
      have aa:=hid (rfl:(nd op5 ln5 t5 k5 m5 u5 sub5,p1)=(nd op5 ln5 t5 k5 m5 u5 sub5,p1));refine ql Tryz.results174 w.heap.size rfl rfl (K.out.set8 _ _ _ _ _ _ _ _) ?_;exact PNd.mk op5 ln5 t5 k5 m5 u5 va5 vc5 _ sub5 _ aa.out (HM5.out.node K.out (by omega) (by omega) (qe _ _ _ _ _ _ _ _ _ _)) (qC (w0:=w.heap.size) (g:=w.heap.size) HO5.out (by omega) (qe _ _ _ _ _ _ _ _ _ _) (by omega)) hk5.out (by omega) (by first|omega|(simp<;>omega))
     |false=>
      rw[hb]at hr;have H40:=hid hb;clear hb
      cases hb:qj X.l p [36]with
      |true=>
       rw[hb]at hr;have H36:=hid hb;clear hb;have aa:=hid (show r=(ndL 22 (qd X.l p) ((nd 1 (qd X.l p) ⟨#[]⟩ 1 0 ⟨#[]⟩ .nil).app (nd 1 (qd X.l (qb p)) ⟨#[]⟩ 2 0 (qE X.l (qb p)).1 .nil)),(qE X.l (qb p)).2)from(Option.some.inj hr).symm);clear hr;obtain⟨N,z⟩: ∃N,N=(w).alloc (.cells #[.int .i64 0,.int .i64 0,.string ⟨#[]⟩,.int .i64 0,.int .i64 0,.string ⟨#[]⟩,.slice none 0 0,.slice none 0 0] 31):=⟨_,rfl⟩
       have R:=hid (show Mvd w N X p by rw[z];exact((Mvd.of hst).alloc _));have hsa:N.heap.size=w.heap.size+1:=by rw[z];simp
       have ad:=hid (show zN N w.heap.size by rw[z];exact(zN.new w));have ac:=hid z;clear z;go_enter Tryz.func174,Tryz.ntmps174
       go_wp2_with fail
       rw[←ac.out];refine(qO R.out.st).mono ?_;rintro e1 Y ⟨rfl,E⟩;have J:=hid (R.out.trans E);have hs1:=E.grown.size;have O:=hid (NdB.grown ad.out E.grown (show X.P<w.heap.size by omega));clear E;obtain⟨ev,M,hE⟩:=J.out.st.at_;obtain⟨g,sa,sc,hA,hg,t0,t1,t2,t3,t4,t5,t6⟩:=J.out.st.tok HT.out;have c0:=M.c0;rw[hA]at c0;have c1:=M.c1;have c3:=M.c3;rw[HE.out]at hE;obtain rfl:ev= .nilIface:=hE;have b0:(0:Int)≤(p.pos:Int):=by omega
       have b1:(p.pos:Int)<(X.l.length:Int):=by omega
       have b2: ¬(X.l.length:Int)≤(p.pos:Int):=by omega
       have b3:decide (X.l.length≤p.pos)=false:=decide_eq_false (by omega);rw[←HK.out]at t0;clear M hA;go_wp2_with fail
       go_quiet (fail)
       go_wp2_with fail
       generalize j:World.drewN _ _=wq;have H:Below Y.heap.size Y wq:=by rw[←j];exact⟨rfl,rfl,rfl,Nat.le_refl _,fun _ _=>rfl⟩
       have q0:wq.cell? ⟨X.P,0,none⟩=some (.slice (some ⟨g,0,none⟩) X.l.length X.c):=by rw[←j];exact c0
       have q1:wq.cell? ⟨X.P,1,none⟩=some (.int .i64 p.pos):=by rw[←j];exact c1
       have r0:wq.cell? ⟨g,p.pos*7,none⟩=some (.int .i64 kd):=by rw[←j];exact t0
       have r1:wq.cell? ⟨g,p.pos*7+1,none⟩=some (.int .i64 m.line):=by rw[←j];exact t1
       have r2:wq.cell? ⟨g,p.pos*7+2,none⟩=some (.string m.s):=by rw[←j];exact t2
       have r3:wq.cell? ⟨g,p.pos*7+3,none⟩=some (.int .i64 m.k):=by rw[←j];exact t3
       have r4:wq.cell? ⟨g,p.pos*7+4,none⟩=some (.int .i64 m.n):=by rw[←j];exact t4
       have r5:wq.cell? ⟨g,p.pos*7+5,none⟩=some (.string m.t):=by rw[←j];exact t5
       have r6:wq.cell? ⟨g,p.pos*7+6,none⟩=some (.slice sa 0 sc):=by rw[←j];exact t6
       clear j c0 c1 c3 t0 t1 t2 t3 t4 t5 t6
       go_region_held3 (fun W=>W.cell? ⟨X.P,0,none⟩=some (.slice (some ⟨g,0,none⟩) X.l.length X.c)∧W.cell? ⟨X.P,1,none⟩=some (.int .i64 p.pos)∧W.cell? ⟨g,p.pos*7,none⟩=some (.int .i64 kd)∧W.cell? ⟨g,p.pos*7+1,none⟩=some (.int .i64 m.line)∧W.cell? ⟨g,p.pos*7+2,none⟩=some (.string m.s)∧W.cell? ⟨g,p.pos*7+3,none⟩=some (.int .i64 m.k)∧W.cell? ⟨g,p.pos*7+4,none⟩=some (.int .i64 m.n)∧W.cell? ⟨g,p.pos*7+5,none⟩=some (.string m.t)∧W.cell? ⟨g,p.pos*7+6,none⟩=some (.slice sa 0 sc)) (first|assumption|exact⟨q0,q1,r0,r1,r2,r3,r4,r5,r6⟩|go_keep) (fail)
       clear q0 q1 r0 r1 r2 r3 r4 r5 r6;obtain⟨w2,B⟩: ∃W,W=(wq.alloc (.cells #[.int .i64 kd,.int .i64 m.line,.string m.s,.int .i64 m.k,.int .i64 m.n,.string m.t,.slice sa 0 sc] 55)).drew:=⟨_,rfl⟩
       have C:Below Y.heap.size Y w2:=by rw[B];exact(H.alloc H.size _).drew
       have hsq:=H.size;have v:=hid (show TkT w2 wq.heap.size (.int .i64 kd) (.int .i64 m.line) (.string m.s) (.int .i64 m.k) (.int .i64 m.n) (.string m.t) (.slice sa 0 sc)by rw[B];exact heap_alloc_new wq _);have hsw:w2.heap.size=wq.heap.size+1:=by rw[B];show(wq.alloc _).heap.size=_;simp
       have HW2:=hid B;clear B H b0 b1 b2 b3;have hs2:=C.size;have Q:=hid (J.out.below C);have A:=hid (O.out.below' C);clear C;rw[←HW2.out];have c1_0:=v.out.c0;have c1_1:=v.out.c1;have c1_2:=v.out.c2;have c1_3:=v.out.c3;have c1_4:=v.out.c4;have c1_5:=v.out.c5;have c1_6:=v.out.c6;go_wp2_with fail
       refine(qr Q.out.st (s:=⟨#[123]⟩) (L:= [123]) rfl H123.out).mono ?_;rintro e3 w3 ⟨rfl,I⟩;have U:=hid (Q.out.trans I);have hs3:=I.grown.size;have q:=hid (NdB.grown A.out I.grown (show X.P<w.heap.size by omega));have Z:=hid (TkT.grown v.out I.grown (show X.P<wq.heap.size by omega));clear I;go_wp2_with fail
       refine(qr U.out.st (s:=⟨#[40]⟩) (L:= [40]) rfl H40.out).mono ?_;rintro e4 w4 ⟨rfl,G⟩;have ae:=hid (U.out.trans G);have hs4:=G.grown.size;have u:=hid (NdB.grown q.out G.grown (show X.P<w.heap.size by omega));have T:=hid (TkT.grown Z.out G.grown (show X.P<wq.heap.size by omega));clear G;go_wp2_with fail
       refine(za ae.out.st (s:=⟨#[36]⟩) (L:= [36]) rfl H36.out).mono ?_;rintro e5 w5 ⟨rfl,V⟩;have HM5:=hid (ae.out.trans V);have hs5:=V.grown.size;have K:=hid (NdB.grown u.out V.grown (show X.P<w.heap.size by omega));have HBt5:=hid (TkT.grown T.out V.grown (show X.P<wq.heap.size by omega));clear V;go_wp2_with fail
       refine(qO HM5.out.st).mono ?_;rintro e6 w6 ⟨rfl,hm6⟩;have HM6:=hid (HM5.out.trans hm6);have hs6:=hm6.grown.size;have HBr6:=hid (NdB.grown K.out hm6.grown (show X.P<w.heap.size by omega));clear hm6;go_wp2_with fail
       refine(Zm X _ _ HM6.out.st).mono ?_;rintro e7 w7 ⟨rfl,hm7⟩;have HM7:=hid (HM6.out.trans hm7);have hs7:=hm7.grown.size;have y:=hid (NdB.grown HBr6.out hm7.grown (show X.P<w.heap.size by omega));clear hm7;obtain⟨nm,hnm⟩: ∃nm,nm=(qE X.l (qb p)).1:=⟨_,rfl⟩
       obtain⟨lm,hlm⟩: ∃lm,lm=qd X.l (qb p):=⟨_,rfl⟩
       rw[←hnm, ←hlm]at aa;rw[←hnm, ←hlm];clear hnm hlm;go_upto_region 21 with fail
       obtain⟨w8,hw8⟩: ∃w8,w8=(w7.alloc (.cells #[.int .i64 1,.int .i64 lm,.string ⟨#[]⟩,.int .i64 2,.int .i64 0,.string nm,.slice none 0 0,.slice none 0 0] 31)):=⟨_,rfl⟩
       have hb8:Below w7.heap.size w7 w8:=by rw[hw8];exact((Below.refl _ _).alloc (Nat.le_refl _) _)
       have ab:=hid (show NdB w8 w7.heap.size (.int .i64 1) (.int .i64 lm) (.string ⟨#[]⟩) (.int .i64 2) (.int .i64 0) (.string nm) (.slice none 0 0) (.slice none 0 0)by rw[hw8];exact NdB.new _ _ _ _ _ _ _ _ _);have hs8:w8.heap.size=w7.heap.size+1:=by rw[hw8];simp
       have HM8:=hid (HM7.out.below hb8);have S:=hid (y.out.below' hb8);have HW8:=hid hw8;clear hw8 hb8;rw[←HW8.out];have c2_0:=ab.out.c0;have c2_1:=ab.out.c1;have c2_2:=ab.out.c2;have c2_3:=ab.out.c3;have c2_4:=ab.out.c4;have c2_5:=ab.out.c5;have c2_6:=ab.out.c6;have c2_7:=ab.out.c7;have rc0:=fun o=>(NdB.alloc S.out o).c0;have rf0:=fun o=>(NdB.alloc S.out o).fr 0;have rc1:=fun o=>(NdB.alloc S.out o).c1;have rf1:=fun o=>(NdB.alloc S.out o).fr 1;have rc2:=fun o=>(NdB.alloc S.out o).c2;have rf2:=fun o=>(NdB.alloc S.out o).fr 2;have rc3:=fun o=>(NdB.alloc S.out o).c3;have rf3:=fun o=>(NdB.alloc S.out o).fr 3;have rc4:=fun o=>(NdB.alloc S.out o).c4;have rf4:=fun o=>(NdB.alloc S.out o).fr 4;have rc5:=fun o=>(NdB.alloc S.out o).c5;have rf5:=fun o=>(NdB.alloc S.out o).fr 5;have rc6:=fun o=>(NdB.alloc S.out o).c6;have rf6:=fun o=>(NdB.alloc S.out o).fr 6;have rc7:=fun o=>(NdB.alloc S.out o).c7;have rf7:=fun o=>(NdB.alloc S.out o).fr 7;go_wp2_with fail
       obtain⟨w9,hw9⟩: ∃W,W=w8.alloc (.cells #[.int .i64 1,.int .i64 (qd X.l p),.string ⟨#[]⟩,.int .i64 1,.int .i64 0,.string ⟨#[]⟩,.slice none 0 0,.slice none 0 0,.int .i64 1,.int .i64 lm,.string ⟨#[]⟩,.int .i64 2,.int .i64 0,.string nm,.slice none 0 0,.slice none 0 0] 31):=⟨_,rfl⟩
       have hb9:Below w8.heap.size w8 w9:=by rw[hw9];exact(Below.refl _ _).alloc (Nat.le_refl _) _
       have HOD:=hid (show OwnN w9 (DG N.heap.size 0) (.slice (some ⟨w7.heap.size+1,0,none⟩) 2 2) ((nd 1 (qd X.l p) ⟨#[]⟩ 1 0 ⟨#[]⟩ .nil).app (nd 1 lm ⟨#[]⟩ 2 0 nm .nil))by rw[hw9, ←hs8];exact OwnN.lit (D:=DG N.heap.size 0) (qdB w8 _ _ lm nm) ⟨by omega,by omega⟩ (by show 2≤_;decide));have HW9:=hid hw9;clear hw9;have hs9:=hb9.size;have HM9:=hid (HM8.out.below hb9);have HBr9:=hid (S.out.below' hb9);have HBnn9:=hid (ab.out.below' hb9);clear hb9;rw[←HW9.out];refine ql Tryz.results174 w.heap.size rfl rfl (HBr9.out.set8 _ _ _ _ _ _ _ _) ?_;exact PNd.mk 22 (qd X.l p) ⟨#[]⟩ 0 0 ⟨#[]⟩ none 0 (.slice (some ⟨w7.heap.size+1,0,none⟩) 2 2) ((nd 1 (qd X.l p) ⟨#[]⟩ 1 0 ⟨#[]⟩ .nil).app (nd 1 lm ⟨#[]⟩ 2 0 nm .nil)) _ aa.out (HM9.out.node HBr9.out (by omega) (by omega) (qe _ _ _ _ _ _ _ _ _ _)) (qC (w0:=w.heap.size) (g:=w.heap.size) HOD.out (by omega) (qe _ _ _ _ _ _ _ _ _ _) (by omega)) (qX (qG _ _ (zr (by decide) (by decide)) (zr (by decide) (by decide))) (fun h=>by rcases h with h|h<;>cases h)) (by rw[NL.len_app,qg,qg];omega) (show(qE X.l (qb p)).2.deep=p.deep by rw[nameS_deep];rfl)
      |false=>
       rw[hb]at hr;have H36:=hid hb;clear hb
       cases hb:qj X.l p [96]with
       |true=>
        rw[hb]at hr;have H96:=hid hb;clear hb;have HQ1:=hid (show qa X.l F (.caught (qd X.l p)) (qb p)=some r from hr);clear hr;obtain⟨n1,p1⟩:=r;obtain⟨N,z⟩: ∃N,N=(w).alloc (.cells #[.int .i64 0,.int .i64 0,.string ⟨#[]⟩,.int .i64 0,.int .i64 0,.string ⟨#[]⟩,.slice none 0 0,.slice none 0 0] 31):=⟨_,rfl⟩
        have R:=hid (show Mvd w N X p by rw[z];exact((Mvd.of hst).alloc _));have hsa:N.heap.size=w.heap.size+1:=by rw[z];simp
        have ad:=hid (show zN N w.heap.size by rw[z];exact(zN.new w));have ac:=hid z;clear z;go_enter Tryz.func174,Tryz.ntmps174
        go_wp2_with fail
        rw[←ac.out];refine(qO R.out.st).mono ?_;rintro e1 Y ⟨rfl,E⟩;have J:=hid (R.out.trans E);have hs1:=E.grown.size;have O:=hid (NdB.grown ad.out E.grown (show X.P<w.heap.size by omega));clear E;obtain⟨ev,M,hE⟩:=J.out.st.at_;obtain⟨g,sa,sc,hA,hg,t0,t1,t2,t3,t4,t5,t6⟩:=J.out.st.tok HT.out;have c0:=M.c0;rw[hA]at c0;have c1:=M.c1;have c3:=M.c3;rw[HE.out]at hE;obtain rfl:ev= .nilIface:=hE;have b0:(0:Int)≤(p.pos:Int):=by omega
        have b1:(p.pos:Int)<(X.l.length:Int):=by omega
        have b2: ¬(X.l.length:Int)≤(p.pos:Int):=by omega
        have b3:decide (X.l.length≤p.pos)=false:=decide_eq_false (by omega);rw[←HK.out]at t0;clear M hA;go_wp2_with fail
        go_quiet (fail)
        go_wp2_with fail
        generalize j:World.drewN _ _=wq;have H:Below Y.heap.size Y wq:=by rw[←j];exact⟨rfl,rfl,rfl,Nat.le_refl _,fun _ _=>rfl⟩
        have q0:wq.cell? ⟨X.P,0,none⟩=some (.slice (some ⟨g,0,none⟩) X.l.length X.c):=by rw[←j];exact c0
        have q1:wq.cell? ⟨X.P,1,none⟩=some (.int .i64 p.pos):=by rw[←j];exact c1
        have r0:wq.cell? ⟨g,p.pos*7,none⟩=some (.int .i64 kd):=by rw[←j];exact t0
        have r1:wq.cell? ⟨g,p.pos*7+1,none⟩=some (.int .i64 m.line):=by rw[←j];exact t1
        have r2:wq.cell? ⟨g,p.pos*7+2,none⟩=some (.string m.s):=by rw[←j];exact t2
        have r3:wq.cell? ⟨g,p.pos*7+3,none⟩=some (.int .i64 m.k):=by rw[←j];exact t3
        have r4:wq.cell? ⟨g,p.pos*7+4,none⟩=some (.int .i64 m.n):=by rw[←j];exact t4
        have r5:wq.cell? ⟨g,p.pos*7+5,none⟩=some (.string m.t):=by rw[←j];exact t5
        have r6:wq.cell? ⟨g,p.pos*7+6,none⟩=some (.slice sa 0 sc):=by rw[←j];exact t6
        clear j c0 c1 c3 t0 t1 t2 t3 t4 t5 t6
        go_region_held3 (fun W=>W.cell? ⟨X.P,0,none⟩=some (.slice (some ⟨g,0,none⟩) X.l.length X.c)∧W.cell? ⟨X.P,1,none⟩=some (.int .i64 p.pos)∧W.cell? ⟨g,p.pos*7,none⟩=some (.int .i64 kd)∧W.cell? ⟨g,p.pos*7+1,none⟩=some (.int .i64 m.line)∧W.cell? ⟨g,p.pos*7+2,none⟩=some (.string m.s)∧W.cell? ⟨g,p.pos*7+3,none⟩=some (.int .i64 m.k)∧W.cell? ⟨g,p.pos*7+4,none⟩=some (.int .i64 m.n)∧W.cell? ⟨g,p.pos*7+5,none⟩=some (.string m.t)∧W.cell? ⟨g,p.pos*7+6,none⟩=some (.slice sa 0 sc)) (first|assumption|exact⟨q0,q1,r0,r1,r2,r3,r4,r5,r6⟩|go_keep) (fail)
        clear q0 q1 r0 r1 r2 r3 r4 r5 r6;obtain⟨w2,B⟩: ∃W,W=(wq.alloc (.cells #[.int .i64 kd,.int .i64 m.line,.string m.s,.int .i64 m.k,.int .i64 m.n,.string m.t,.slice sa 0 sc] 55)).drew:=⟨_,rfl⟩
        have C:Below Y.heap.size Y w2:=by rw[B];exact(H.alloc H.size _).drew
        have hsq:=H.size;have v:=hid (show TkT w2 wq.heap.size (.int .i64 kd) (.int .i64 m.line) (.string m.s) (.int .i64 m.k) (.int .i64 m.n) (.string m.t) (.slice sa 0 sc)by rw[B];exact heap_alloc_new wq _);have hsw:w2.heap.size=wq.heap.size+1:=by rw[B];show(wq.alloc _).heap.size=_;simp
        have HW2:=hid B;clear B H b0 b1 b2 b3;have hs2:=C.size;have Q:=hid (J.out.below C);have A:=hid (O.out.below' C);clear C;rw[←HW2.out];have c1_0:=v.out.c0;have c1_1:=v.out.c1;have c1_2:=v.out.c2;have c1_3:=v.out.c3;have c1_4:=v.out.c4;have c1_5:=v.out.c5;have c1_6:=v.out.c6;go_wp2_with fail
        refine(qr Q.out.st (s:=⟨#[123]⟩) (L:= [123]) rfl H123.out).mono ?_;rintro e3 w3 ⟨rfl,I⟩;have U:=hid (Q.out.trans I);have hs3:=I.grown.size;have q:=hid (NdB.grown A.out I.grown (show X.P<w.heap.size by omega));have Z:=hid (TkT.grown v.out I.grown (show X.P<wq.heap.size by omega));clear I;go_wp2_with fail
        refine(qr U.out.st (s:=⟨#[40]⟩) (L:= [40]) rfl H40.out).mono ?_;rintro e4 w4 ⟨rfl,G⟩;have ae:=hid (U.out.trans G);have hs4:=G.grown.size;have u:=hid (NdB.grown q.out G.grown (show X.P<w.heap.size by omega));have T:=hid (TkT.grown Z.out G.grown (show X.P<wq.heap.size by omega));clear G;go_wp2_with fail
        refine(qr ae.out.st (s:=⟨#[36]⟩) (L:= [36]) rfl H36.out).mono ?_;rintro e5 w5 ⟨rfl,V⟩;have HM5:=hid (ae.out.trans V);have hs5:=V.grown.size;have K:=hid (NdB.grown u.out V.grown (show X.P<w.heap.size by omega));have HBt5:=hid (TkT.grown T.out V.grown (show X.P<wq.heap.size by omega));clear V;go_wp2_with fail
        refine(za HM5.out.st (s:=⟨#[96]⟩) (L:= [96]) rfl H96.out).mono ?_;rintro e6 w6 ⟨rfl,hm6⟩;have HM6:=hid (HM5.out.trans hm6);have hs6:=hm6.grown.size;have HBr6:=hid (NdB.grown K.out hm6.grown (show X.P<w.heap.size by omega));have HBt6:=hid (TkT.grown HBt5.out hm6.grown (show X.P<wq.heap.size by omega));clear hm6;go_wp2_with fail
        refine(IH.out.caught F (Nat.le_refl _) (qd X.l p) w6 _ _ HM6.out.st (by first|omega|(simp<;>omega)) (by first|omega|(simp<;>omega)) HQ1.out).mono ?_;rintro e7 w7 ⟨op7,ln7,t7,k7,m7,u7,va7,vc7,V7,sub7,hn7,rfl,hm7,ho7,hk7,hl7,hd7⟩;obtain⟨A7,cc7,rfl⟩:=ho7.form;have hn7:n1=nd op7 ln7 t7 k7 m7 u7 sub7:=hn7;subst hn7;have hk7:=hid hk7;have hd7:p1.deep=p.deep+0:=by have h:p1.deep=(qb p).deep:=hd7;(try simp at h);omega
        have HM7:=hid (HM6.out.trans hm7);have hs7:=hm7.grown.size;have y:=hid (NdB.grown HBr6.out hm7.grown (show X.P<w.heap.size by omega));have HO7:=hid (ho7.wide (D':=DG w6.heap.size 0) (fun k hk hk2=>⟨hk,by omega⟩));clear hm7 ho7;unfold qN;have c2_0:=y.out.c0;have f2_0:=y.out.fr 0;have c2_1:=y.out.c1;have f2_1:=y.out.fr 1;have c2_2:=y.out.c2;have f2_2:=y.out.fr 2;have c2_3:=y.out.c3;have f2_3:=y.out.fr 3;have c2_4:=y.out.c4;have f2_4:=y.out.fr 4;have c2_5:=y.out.c5;have f2_5:=y.out.fr 5;have c2_6:=y.out.c6;have f2_6:=y.out.fr 6;have c2_7:=y.out.c7;have f2_7:=y.out.fr 7;go_wp2_with fail
        have aa:=hid (rfl:(nd op7 ln7 t7 k7 m7 u7 sub7,p1)=(nd op7 ln7 t7 k7 m7 u7 sub7,p1));refine ql Tryz.results174 w.heap.size rfl rfl (y.out.set8 _ _ _ _ _ _ _ _) ?_;exact PNd.mk op7 ln7 t7 k7 m7 u7 va7 vc7 _ sub7 _ aa.out (HM7.out.node y.out (by omega) (by omega) (qe _ _ _ _ _ _ _ _ _ _)) (qC (w0:=w.heap.size) (g:=w.heap.size) HO7.out (by omega) (qe _ _ _ _ _ _ _ _ _ _) (by omega)) hk7.out (by omega) (by first|omega|(simp<;>omega))
       |false=>
        rw[hb]at hr;have H96:=hid hb;clear hb;replace hr:some (jw,zd X.l p)=some r:=hr;have aa:=hid (show r=(jw,zd X.l p)from(Option.some.inj hr).symm);clear hr;obtain⟨N,z⟩: ∃N,N=(w).alloc (.cells #[.int .i64 0,.int .i64 0,.string ⟨#[]⟩,.int .i64 0,.int .i64 0,.string ⟨#[]⟩,.slice none 0 0,.slice none 0 0] 31):=⟨_,rfl⟩
        have R:=hid (show Mvd w N X p by rw[z];exact((Mvd.of hst).alloc _));have hsa:N.heap.size=w.heap.size+1:=by rw[z];simp
        have ad:=hid (show zN N w.heap.size by rw[z];exact(zN.new w));have ac:=hid z;clear z;go_enter Tryz.func174,Tryz.ntmps174
        go_wp2_with fail
        rw[←ac.out];refine(qO R.out.st).mono ?_;rintro e1 Y ⟨rfl,E⟩;have J:=hid (R.out.trans E);have hs1:=E.grown.size;have O:=hid (NdB.grown ad.out E.grown (show X.P<w.heap.size by omega));clear E;obtain⟨ev,M,hE⟩:=J.out.st.at_;obtain⟨g,sa,sc,hA,hg,t0,t1,t2,t3,t4,t5,t6⟩:=J.out.st.tok HT.out;have c0:=M.c0;rw[hA]at c0;have c1:=M.c1;have c3:=M.c3;rw[HE.out]at hE;obtain rfl:ev= .nilIface:=hE;have b0:(0:Int)≤(p.pos:Int):=by omega
        have b1:(p.pos:Int)<(X.l.length:Int):=by omega
        have b2: ¬(X.l.length:Int)≤(p.pos:Int):=by omega
        have b3:decide (X.l.length≤p.pos)=false:=decide_eq_false (by omega);rw[←HK.out]at t0;clear M hA;go_wp2_with fail
        go_quiet (fail)
        go_wp2_with fail
        generalize j:World.drewN _ _=wq;have H:Below Y.heap.size Y wq:=by rw[←j];exact⟨rfl,rfl,rfl,Nat.le_refl _,fun _ _=>rfl⟩
        have q0:wq.cell? ⟨X.P,0,none⟩=some (.slice (some ⟨g,0,none⟩) X.l.length X.c):=by rw[←j];exact c0
        have q1:wq.cell? ⟨X.P,1,none⟩=some (.int .i64 p.pos):=by rw[←j];exact c1
        have r0:wq.cell? ⟨g,p.pos*7,none⟩=some (.int .i64 kd):=by rw[←j];exact t0
        have r1:wq.cell? ⟨g,p.pos*7+1,none⟩=some (.int .i64 m.line):=by rw[←j];exact t1
        have r2:wq.cell? ⟨g,p.pos*7+2,none⟩=some (.string m.s):=by rw[←j];exact t2
        have r3:wq.cell? ⟨g,p.pos*7+3,none⟩=some (.int .i64 m.k):=by rw[←j];exact t3
        have r4:wq.cell? ⟨g,p.pos*7+4,none⟩=some (.int .i64 m.n):=by rw[←j];exact t4
        have r5:wq.cell? ⟨g,p.pos*7+5,none⟩=some (.string m.t):=by rw[←j];exact t5
        have r6:wq.cell? ⟨g,p.pos*7+6,none⟩=some (.slice sa 0 sc):=by rw[←j];exact t6
        clear j c0 c1 c3 t0 t1 t2 t3 t4 t5 t6
        go_region_held3 (fun W=>W.cell? ⟨X.P,0,none⟩=some (.slice (some ⟨g,0,none⟩) X.l.length X.c)∧W.cell? ⟨X.P,1,none⟩=some (.int .i64 p.pos)∧W.cell? ⟨g,p.pos*7,none⟩=some (.int .i64 kd)∧W.cell? ⟨g,p.pos*7+1,none⟩=some (.int .i64 m.line)∧W.cell? ⟨g,p.pos*7+2,none⟩=some (.string m.s)∧W.cell? ⟨g,p.pos*7+3,none⟩=some (.int .i64 m.k)∧W.cell? ⟨g,p.pos*7+4,none⟩=some (.int .i64 m.n)∧W.cell? ⟨g,p.pos*7+5,none⟩=some (.string m.t)∧W.cell? ⟨g,p.pos*7+6,none⟩=some (.slice sa 0 sc)) (first|assumption|exact⟨q0,q1,r0,r1,r2,r3,r4,r5,r6⟩|go_keep) (fail)
        clear q0 q1 r0 r1 r2 r3 r4 r5 r6;obtain⟨w2,B⟩: ∃W,W=(wq.alloc (.cells #[.int .i64 kd,.int .i64 m.line,.string m.s,.int .i64 m.k,.int .i64 m.n,.string m.t,.slice sa 0 sc] 55)).drew:=⟨_,rfl⟩
        have C:Below Y.heap.size Y w2:=by rw[B];exact(H.alloc H.size _).drew
        have hsq:=H.size;have v:=hid (show TkT w2 wq.heap.size (.int .i64 kd) (.int .i64 m.line) (.string m.s) (.int .i64 m.k) (.int .i64 m.n) (.string m.t) (.slice sa 0 sc)by rw[B];exact heap_alloc_new wq _);have hsw:w2.heap.size=wq.heap.size+1:=by rw[B];show(wq.alloc _).heap.size=_;simp
        have HW2:=hid B;clear B H b0 b1 b2 b3;have hs2:=C.size;have Q:=hid (J.out.below C);have A:=hid (O.out.below' C);clear C;rw[←HW2.out];have c1_0:=v.out.c0;have c1_1:=v.out.c1;have c1_2:=v.out.c2;have c1_3:=v.out.c3;have c1_4:=v.out.c4;have c1_5:=v.out.c5;have c1_6:=v.out.c6;go_wp2_with fail
        refine(qr Q.out.st (s:=⟨#[123]⟩) (L:= [123]) rfl H123.out).mono ?_;rintro e3 w3 ⟨rfl,I⟩;have U:=hid (Q.out.trans I);have hs3:=I.grown.size;have q:=hid (NdB.grown A.out I.grown (show X.P<w.heap.size by omega));have Z:=hid (TkT.grown v.out I.grown (show X.P<wq.heap.size by omega));clear I;go_wp2_with fail
        refine(qr U.out.st (s:=⟨#[40]⟩) (L:= [40]) rfl H40.out).mono ?_;rintro e4 w4 ⟨rfl,G⟩;have ae:=hid (U.out.trans G);have hs4:=G.grown.size;have u:=hid (NdB.grown q.out G.grown (show X.P<w.heap.size by omega));have T:=hid (TkT.grown Z.out G.grown (show X.P<wq.heap.size by omega));clear G;go_wp2_with fail
        refine(qr ae.out.st (s:=⟨#[36]⟩) (L:= [36]) rfl H36.out).mono ?_;rintro e5 w5 ⟨rfl,V⟩;have HM5:=hid (ae.out.trans V);have hs5:=V.grown.size;have K:=hid (NdB.grown u.out V.grown (show X.P<w.heap.size by omega));have HBt5:=hid (TkT.grown T.out V.grown (show X.P<wq.heap.size by omega));clear V;go_wp2_with fail
        refine(qr HM5.out.st (s:=⟨#[96]⟩) (L:= [96]) rfl H96.out).mono ?_;rintro e6 w6 ⟨rfl,hm6⟩;have HM6:=hid (HM5.out.trans hm6);have hs6:=hm6.grown.size;have HBr6:=hid (NdB.grown K.out hm6.grown (show X.P<w.heap.size by omega));have HBt6:=hid (TkT.grown HBt5.out hm6.grown (show X.P<wq.heap.size by omega));clear hm6;go_wp2_with fail
        refine(kI X _ _ HM6.out.st).mono ?_;rintro e7 w7 ⟨rfl,hm7⟩;have HM7:=hid (HM6.out.trans hm7);have hs7:=hm7.grown.size;have y:=hid (NdB.grown HBr6.out hm7.grown (show X.P<w.heap.size by omega));clear hm7;have c2_0:=y.out.c0;have f2_0:=y.out.fr 0;have c2_1:=y.out.c1;have f2_1:=y.out.fr 1;have c2_2:=y.out.c2;have f2_2:=y.out.fr 2;have c2_3:=y.out.c3;have f2_3:=y.out.fr 3;have c2_4:=y.out.c4;have f2_4:=y.out.fr 4;have c2_5:=y.out.c5;have f2_5:=y.out.fr 5;have c2_6:=y.out.c6;have f2_6:=y.out.fr 6;have c2_7:=y.out.c7;have f2_7:=y.out.fr 7;go_wp2_with fail
        refine ql Tryz.results174 w.heap.size rfl rfl (y.out.set8 _ _ _ _ _ _ _ _) ?_;exact PNd.mk 0 0 ⟨#[]⟩ 0 0 ⟨#[]⟩ none 0 (.slice none 0 0) .nil _ aa.out (HM7.out.node y.out (by omega) (by omega) (qe _ _ _ _ _ _ _ _ _ _)) (OwnN.nil _ _) (zr (by decide) (by decide)) (Nat.zero_le _) (by first|omega|(simp<;>omega))
end
end Go.Proofs.YtggngahmafbihaaGreatDoor
