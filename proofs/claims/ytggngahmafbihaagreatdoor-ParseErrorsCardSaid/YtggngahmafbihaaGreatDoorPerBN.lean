/- Contracts, and the plain mathematics beneath. -/
import Derived.Test.YtggngahmafbihaaGreatDoorPerAL
set_option linter.unusedVariables false
set_option linter.unusedSimpArgs false
set_option maxRecDepth 100000
set_option maxHeartbeats 8000000
namespace Go.Proofs.YtggngahmafbihaaGreatDoor
open Go.RowKit Go.Lib
theorem qaj(X:PCtx)(F:Nat)(hF:F≤1000000000)(ih:EC X F):zP X 111 #[] .codes (F+1):=by
 intro w p r hst h0 h1 hr;rw[qa]at hr;have hPl:=hst.lt;have hlen:=hst.len;obtain⟨i0,hi0,hz0,hz1,hz2⟩:=info_parts qz;have IH:=hid ih;clear ih
 cases hb:qj X.l p [97,110,121]with
 |true=>
  rw[hb]at hr;have HB:=hid hb;clear hb;replace hr:some (ndL 25 (qd X.l p) .nil,qb p)=some r:=hr;have HRR:=hid (show r=(ndL 25 (qd X.l p) .nil,qb p)from(Option.some.inj hr).symm);clear hr;obtain⟨wa,y⟩: ∃wa,wa=(w).alloc (.cells #[.int .i64 0,.int .i64 0,.string ⟨#[]⟩,.int .i64 0,.int .i64 0,.string ⟨#[]⟩,.slice none 0 0,.slice none 0 0] 31):=⟨_,rfl⟩
  have ad:=hid (show Mvd w wa X p by rw[y];exact((Mvd.of hst).alloc _));have hsa:wa.heap.size=w.heap.size+1:=by rw[y];simp
  have HZr:=hid (show zN wa w.heap.size by rw[y];exact(zN.new w));have HWA:=hid y;clear y;go_enter Tryz.func111,Tryz.ntmps111
  go_wp2_with fail
  rw[←HWA.out];refine(qO ad.out.st).mono ?_;rintro e1 i ⟨rfl,B⟩;have HM1:=hid (ad.out.trans B);have hs1:=B.grown.size;have Z:=hid (NdB.grown HZr.out B.grown (show X.P<w.heap.size by omega));clear B;obtain⟨w2,v⟩: ∃w2,w2=(i.alloc (.cells #[.int .i64 25,.int .i64 (qd X.l p),.string ⟨#[]⟩,.int .i64 0,.int .i64 0,.string ⟨#[]⟩,.slice none 0 0,.slice none 0 0] 31)):=⟨_,rfl⟩
  have O:Below i.heap.size i w2:=by rw[v];exact((Below.refl _ _).alloc (Nat.le_refl _) _)
  have Y:=hid (show NdB w2 i.heap.size (.int .i64 25) (.int .i64 (qd X.l p)) (.string ⟨#[]⟩) (.int .i64 0) (.int .i64 0) (.string ⟨#[]⟩) (.slice none 0 0) (.slice none 0 0)by rw[v];exact NdB.new _ _ _ _ _ _ _ _ _);have hs2:w2.heap.size=i.heap.size+1:=by rw[v];simp
  have ab:=hid (HM1.out.below O);have aa:=hid (Z.out.below' O);have HW2:=hid v;clear v O;go_wp2_with fail
  rw[←HW2.out];refine(za ab.out.st (s:=⟨#[97,110,121]⟩) (L:= [97,110,121]) rfl HB.out).mono ?_;rintro e3 w3 ⟨rfl,j⟩;have HM3:=hid (ab.out.trans j);have hs3:=j.grown.size;have b:=hid (NdB.grown aa.out j.grown (show X.P<w.heap.size by omega));have f:=hid (NdB.grown Y.out j.grown (show X.P<i.heap.size by omega));clear j;have c1_0:=f.out.c0;have c1_1:=f.out.c1;have c1_2:=f.out.c2;have c1_3:=f.out.c3;have c1_4:=f.out.c4;have c1_5:=f.out.c5;have c1_6:=f.out.c6;have c1_7:=f.out.c7;have c2_0:=b.out.c0;have f2_0:=b.out.fr 0;have c2_1:=b.out.c1;have f2_1:=b.out.fr 1;have c2_2:=b.out.c2;have f2_2:=b.out.fr 2;have c2_3:=b.out.c3;have f2_3:=b.out.fr 3;have c2_4:=b.out.c4;have f2_4:=b.out.fr 4;have c2_5:=b.out.c5;have f2_5:=b.out.fr 5;have c2_6:=b.out.c6;have f2_6:=b.out.fr 6;have c2_7:=b.out.c7;have f2_7:=b.out.fr 7;go_wp2_with fail
  refine ql Tryz.results111 w.heap.size rfl rfl (b.out.set8 _ _ _ _ _ _ _ _) ?_;exact PNd.mk 25 (qd X.l p) ⟨#[]⟩ 0 0 ⟨#[]⟩ none 0 (.slice none 0 0) .nil _ HRR.out (HM3.out.node b.out (by omega) (by omega) (qe _ _ _ _ _ _ _ _ _ _)) (OwnN.nil _ _) (zr (by decide) (by decide)) (Nat.zero_le _) (by first|omega|(simp<;>omega))
 |false=>
  rw[hb]at hr;have HB:=hid hb;clear hb;replace hr:((qa X.l F (.codesL .nil .nil) p).bind fun(x,p1)=>some (ndL 25 (qd X.l p) x,p1))=some r:=hr
  cases hq1:qa X.l F (.codesL .nil .nil) p with
  |none=>rw[hq1]at hr;cases hr
  |some q1=>
  obtain⟨x1,p1⟩:=q1;rw[hq1]at hr;replace hr:some (ndL 25 (qd X.l p) x1,p1)=some r:=hr;have HQ1:=hid hq1;clear hq1;have HRR:=hid (show r=(ndL 25 (qd X.l p) x1,p1)from(Option.some.inj hr).symm);clear hr;obtain⟨wa,y⟩: ∃wa,wa=(w).alloc (.cells #[.int .i64 0,.int .i64 0,.string ⟨#[]⟩,.int .i64 0,.int .i64 0,.string ⟨#[]⟩,.slice none 0 0,.slice none 0 0] 31):=⟨_,rfl⟩
  have ad:=hid (show Mvd w wa X p by rw[y];exact((Mvd.of hst).alloc _));have hsa:wa.heap.size=w.heap.size+1:=by rw[y];simp
  have HZr:=hid (show zN wa w.heap.size by rw[y];exact(zN.new w));have HWA:=hid y;clear y;go_enter Tryz.func111,Tryz.ntmps111
  go_wp2_with fail
  rw[←HWA.out];refine(qO ad.out.st).mono ?_;rintro e1 i ⟨rfl,B⟩;have HM1:=hid (ad.out.trans B);have hs1:=B.grown.size;have Z:=hid (NdB.grown HZr.out B.grown (show X.P<w.heap.size by omega));clear B;obtain⟨w2,v⟩: ∃w2,w2=(i.alloc (.cells #[.int .i64 25,.int .i64 (qd X.l p),.string ⟨#[]⟩,.int .i64 0,.int .i64 0,.string ⟨#[]⟩,.slice none 0 0,.slice none 0 0] 31)):=⟨_,rfl⟩
  have O:Below i.heap.size i w2:=by rw[v];exact((Below.refl _ _).alloc (Nat.le_refl _) _)
  have Y:=hid (show NdB w2 i.heap.size (.int .i64 25) (.int .i64 (qd X.l p)) (.string ⟨#[]⟩) (.int .i64 0) (.int .i64 0) (.string ⟨#[]⟩) (.slice none 0 0) (.slice none 0 0)by rw[v];exact NdB.new _ _ _ _ _ _ _ _ _);have hs2:w2.heap.size=i.heap.size+1:=by rw[v];simp
  have ab:=hid (HM1.out.below O);have aa:=hid (Z.out.below' O);have HW2:=hid v;clear v O;go_wp2_with fail
  rw[←HW2.out];refine(qr ab.out.st (s:=⟨#[97,110,121]⟩) (L:= [97,110,121]) rfl HB.out).mono ?_;rintro e3 w3 ⟨rfl,j⟩;have HM3:=hid (ab.out.trans j);have hs3:=j.grown.size;have b:=hid (NdB.grown aa.out j.grown (show X.P<w.heap.size by omega));have f:=hid (NdB.grown Y.out j.grown (show X.P<i.heap.size by omega));clear j;have HO0:=hid (OwnN.nil w3 (DG w2.heap.size i.heap.size));go_wp2_with fail
  go_loopg [] F (fun kk wr=> ∃(V:Value)(q:PS)(acc:NL),acc.len+kk≤F∧q.deep=p.deep∧w3.heap.size≤wr.heap.size∧Hid (Mvd w wr X q)∧Hid (zN wr w.heap.size)∧Hid (NdB wr i.heap.size (.int .i64 25) (.int .i64 (qd X.l p)) (.string ⟨#[]⟩) (.int .i64 0) (.int .i64 0) (.string ⟨#[]⟩) (.slice none 0 0) V)∧Hid (OwnN wr (DG w2.heap.size i.heap.size) V acc)∧Hid (qQ acc)∧Hid (qa X.l kk (.codesL .nil acc) q=some (x1,p1)))
  case atStart=>exact⟨_,p,.nil,by show 0+F≤_;omega,rfl,Nat.le_refl _,HM3,b,f,HO0,trivial,HQ1⟩
  case round=>
   obtain⟨V,q,acc,hal,hqd,hs0,HM,A,z,I,HK,HQ⟩:=hrel;obtain⟨AV,CV,hVf⟩:=I.out.form;subst hVf
   cases gk with
   |zero=>have h:=HQ.out;rw[qa]at h;cases h
   |succ k=>
   have hr:=HQ.out;rw[qa]at hr;obtain⟨ev,hP,hE⟩:=HM.out.st.at_;have c3:=hP.c3;clear HQ
   cases he:q.err with
   |some x=>
    rw[he]at hE;obtain⟨ty,ve,rfl⟩:=jb hE;replace hr:some (acc,q)=some (x1,p1):=by rw[←hr];simp only[he];rfl
    have hx:=Option.some.inj hr;have hx1:acc=x1:=congrArg Prod.fst hx;have hx2:q=p1:=congrArg Prod.snd hx;subst hx1;subst hx2;clear hP hE he hr hx;have c1_0:=z.out.c0;have c1_1:=z.out.c1;have c1_2:=z.out.c2;have c1_3:=z.out.c3;have c1_4:=z.out.c4;have c1_5:=z.out.c5;have c1_6:=z.out.c6;have c1_7:=z.out.c7;have c2_0:=A.out.c0;have f2_0:=A.out.fr 0;have c2_1:=A.out.c1;have f2_1:=A.out.fr 1;have c2_2:=A.out.c2;have f2_2:=A.out.fr 2;have c2_3:=A.out.c3;have f2_3:=A.out.fr 3;have c2_4:=A.out.c4;have f2_4:=A.out.fr 4;have c2_5:=A.out.c5;have f2_5:=A.out.fr 5;have c2_6:=A.out.c6;have f2_6:=A.out.fr 6;have c2_7:=A.out.c7;have f2_7:=A.out.fr 7;go_wp2_with fail
    refine ql Tryz.results111 w.heap.size rfl rfl (A.out.set8 _ _ _ _ _ _ _ _) ?_;exact PNd.mk 25 (qd X.l p) ⟨#[]⟩ 0 0 ⟨#[]⟩ none 0 _ acc _ HRR.out (HM.out.node A.out (by omega) (by omega) (qe _ _ _ _ _ _ _ _ _ _)) (qC (w0:=w.heap.size) (g:=w.heap.size) I.out (by omega) (qe _ _ _ _ _ _ _ _ _ _) (by omega)) (qX HK.out (fun h=>by rcases h with h|h<;>cases h)) (by omega) (by first|omega|(simp<;>omega))
   |none=>
    rw[he]at hE;obtain rfl:ev= .nilIface:=hE;replace hr:((qa X.l k .expr q).bind fun(x,p)=>if qj X.l p [44]then qa X.l k (.codesL .nil (acc.app x)) (qb p)else some (acc.app x,p))=some (x1,p1):=by rw[←hr];simp only[he];rfl
    clear hP he
    cases hq5:qa X.l k .expr q with
    |none=>rw[hq5]at hr;cases hr
    |some q5=>
    obtain⟨S,T⟩:=q5;rw[hq5]at hr;replace hr:(if qj X.l T [44]then qa X.l k (.codesL .nil (acc.app S)) (qb T)else some (acc.app S,T))=some (x1,p1):=hr;have HQ5:=hid hq5;clear hq5
    cases hc:qj X.l T [44]with
    |true=>
     rw[hc]at hr;have HC:=hid hc;clear hc;have HQ2:=hid (show qa X.l k (.codesL .nil (acc.app S)) (qb T)=some (x1,p1)from hr);clear hr;go_wp2_with fail
     go_upto_region 5 with fail
     go_cut [] (fun wx21=>zC X w wr T w2.heap.size i.heap.size (.int .i64 25) (.int .i64 (qd X.l p)) (.string ⟨#[]⟩) (.int .i64 0) (.int .i64 0) (.string ⟨#[]⟩) (.slice none 0 0) acc S 1 (p.deep+0) wx21)
     case first=>
      have c7:=z.out.c7;have vlt:=hid (fun g (hg:(.slice AV acc.len CV:Value).ownBlock=some g)=>(I.out.ge g hg).2);have EXC:=hid (fun W (hW:PSt W X q)=>IH.out.expr k (by omega) W _ _ hW (by first|omega|(simp<;>omega)) (by first|omega|(simp<;>omega)) HQ5.out);have HSD:=hid (show PSt wr.drew X q from HM.out.st.below (Below.drew (Below.refl _ _)));have HMD:=hid (show Mvd w wr.drew X q from HM.out.drew)
      go_region_law
       (first
        |(refine qy (by rfl) (.tmp 16) (.tmp 19) 29 (by rfl) Tryz.underlying29 hi0 hz0 hz1 hz2 (by rfl) (by rfl) U.out.1 (by rfl) (by rfl) U.out.2 (fun e=>by cases e) (by first|(simp only[qg];omega)|(simp only[NL.len_app,qg];omega)|(simp only[qg,NL.len];omega)|(simp only[NL.len_app,qg,NL.len];omega)) (by refine⟨?_,?_⟩<;>(rw[World.size_alloc];omega)) ?_
          intro A9 c9 w9 R Q hob9;have k7:w9.cell? ⟨i.heap.size,7,none⟩=some (.slice AV acc.len CV):=((z.out.alloc _).app Q (fun e=>(I.out.ge _ e).1.2 rfl)).c7
          have j7:w9.frozen? ⟨i.heap.size,7,none⟩=false:=((z.out.alloc _).app Q (fun e=>(I.out.ge _ e).1.2 rfl)).fr 7)
        |(go_simp;go_at_call 26;refine(EXC.out _ HSD.out).mono ?_
          rintro e9 w8 ⟨op,ln,t,k,m,u,va,vc,V,sub,hn,rfl,hm,ho,hk,hl,hd⟩;obtain⟨A8,c8,rfl⟩:=ho.form;have hn':S=nd op ln t k m u sub:=hn;have HK:=hid (show qQ S∧(S).len≤1 from⟨hk,by rw[hn',qg];exact Nat.le_refl _⟩);have HNN:=hid hn';have HDD:=hid (show T.deep=p.deep+0 by have h:T.deep=q.deep:=hd;(try simp at h);omega);have HG:=hid (show wr.grownBy w8 (some X.P)from⟨hm.grown.os,hm.grown.tape,hm.grown.output,hm.grown.size,hm.grown.block⟩);have HM:=hid (HMD.out.trans hm);have hs8:wr.heap.size≤w8.heap.size:=hm.grown.size;have z:=hid (NdB.grown (w:=wr) z.out HG.out (show X.P<i.heap.size by omega));have I:=hid (OwnN.grown (w:=wr) I.out HG.out (DG.not (by omega)));have U:=hid (jH I.out ho op ln t k m u va vc (by show _≤wr.heap.size;omega) (by show _<wr.heap.size;omega) (by show wr.heap.size≤_;omega) vlt.out);have af:=z.out.c7;have c7_9:=fun o=>qq af o;clear hn hn' hm ho hk hl hd
          unfold qN))
      all_goals
       go_wp2_with fail
       go_meet
       exact jq HG.out HM.out z.out I.out (by omega) (by omega) (by omega) (by omega) (by rw[HNN.out];exact R) Q HK.out.2 HK.out.1 HDD.out
     case rest=>
      obtain⟨V21,G,hd21,H,n,hx21,E,hs21,D⟩:=hcut;obtain⟨A21,c21,rfl⟩:=n.form;have C:=hid G;have J:=hid H;have M:=hid n;have ae:=hid E;have K:=hid (D _ _ _ _ _ _ _ _ _ (by omega) (by omega) (by omega) A.out);clear G H n E D;go_wp2_with fail
      refine(za C.out.st (s:=⟨#[44]⟩) (L:= [44]) rfl HC.out).mono ?_;rintro e22 w22 ⟨rfl,d⟩;have ac:=hid (C.out.trans d);have hs22:=d.grown.size;have a:=hid (NdB.grown K.out d.grown (show X.P<w.heap.size by omega));have c:=hid (NdB.grown J.out d.grown (show X.P<i.heap.size by omega));have N:=hid (OwnN.grown M.out d.grown (DG.not (by omega)));clear d;go_wp2_with fail
      go_roundg k
      case measure=>omega
      case rel=>exact⟨_,(qb T),(acc.app S),by rw[NL.len_app];omega,by(first|omega|(simp<;>omega)),by omega,ac,a,c,N,hid (qG _ _ HK.out ae.out),HQ2⟩
    |false=>
     rw[hc]at hr;have HC:=hid hc;clear hc;have hx:=Option.some.inj (show some (acc.app S,T)=some (x1,p1)from hr);have hx1:acc.app S=x1:=congrArg Prod.fst hx;have hx2:T=p1:=congrArg Prod.snd hx;subst hx1;subst hx2;clear hr hx;go_wp2_with fail
     go_upto_region 5 with fail
     go_cut [] (fun wx21=>zC X w wr T w2.heap.size i.heap.size (.int .i64 25) (.int .i64 (qd X.l p)) (.string ⟨#[]⟩) (.int .i64 0) (.int .i64 0) (.string ⟨#[]⟩) (.slice none 0 0) acc S 1 (p.deep+0) wx21)
     case first=>
      have c7:=z.out.c7;have vlt:=hid (fun g (hg:(.slice AV acc.len CV:Value).ownBlock=some g)=>(I.out.ge g hg).2);have EXC:=hid (fun W (hW:PSt W X q)=>IH.out.expr k (by omega) W _ _ hW (by first|omega|(simp<;>omega)) (by first|omega|(simp<;>omega)) HQ5.out);have HSD:=hid (show PSt wr.drew X q from HM.out.st.below (Below.drew (Below.refl _ _)));have HMD:=hid (show Mvd w wr.drew X q from HM.out.drew)
      go_region_law
       (first
        |(refine qy (by rfl) (.tmp 16) (.tmp 19) 29 (by rfl) Tryz.underlying29 hi0 hz0 hz1 hz2 (by rfl) (by rfl) U.out.1 (by rfl) (by rfl) U.out.2 (fun e=>by cases e) (by first|(simp only[qg];omega)|(simp only[NL.len_app,qg];omega)|(simp only[qg,NL.len];omega)|(simp only[NL.len_app,qg,NL.len];omega)) (by refine⟨?_,?_⟩<;>(rw[World.size_alloc];omega)) ?_
          intro A9 c9 w9 R Q hob9;have k7:w9.cell? ⟨i.heap.size,7,none⟩=some (.slice AV acc.len CV):=((z.out.alloc _).app Q (fun e=>(I.out.ge _ e).1.2 rfl)).c7
          have j7:w9.frozen? ⟨i.heap.size,7,none⟩=false:=((z.out.alloc _).app Q (fun e=>(I.out.ge _ e).1.2 rfl)).fr 7)
        |(go_simp;go_at_call 26;refine(EXC.out _ HSD.out).mono ?_
          rintro e9 w8 ⟨op,ln,t,k,m,u,va,vc,V,sub,hn,rfl,hm,ho,hk,hl,hd⟩;obtain⟨A8,c8,rfl⟩:=ho.form;have hn':S=nd op ln t k m u sub:=hn;have HK:=hid (show qQ S∧(S).len≤1 from⟨hk,by rw[hn',qg];exact Nat.le_refl _⟩);have HNN:=hid hn';have HDD:=hid (show T.deep=p.deep+0 by have h:T.deep=q.deep:=hd;(try simp at h);omega);have HG:=hid (show wr.grownBy w8 (some X.P)from⟨hm.grown.os,hm.grown.tape,hm.grown.output,hm.grown.size,hm.grown.block⟩);have HM:=hid (HMD.out.trans hm);have hs8:wr.heap.size≤w8.heap.size:=hm.grown.size;have z:=hid (NdB.grown (w:=wr) z.out HG.out (show X.P<i.heap.size by omega));have I:=hid (OwnN.grown (w:=wr) I.out HG.out (DG.not (by omega)));have U:=hid (jH I.out ho op ln t k m u va vc (by show _≤wr.heap.size;omega) (by show _<wr.heap.size;omega) (by show wr.heap.size≤_;omega) vlt.out);have af:=z.out.c7;have c7_9:=fun o=>qq af o;clear hn hn' hm ho hk hl hd
          unfold qN))
      all_goals
       go_wp2_with fail
       go_meet
       exact jq HG.out HM.out z.out I.out (by omega) (by omega) (by omega) (by omega) (by rw[HNN.out];exact R) Q HK.out.2 HK.out.1 HDD.out
     case rest=>
      obtain⟨V21,G,hd21,H,n,hx21,E,hs21,D⟩:=hcut;obtain⟨A21,c21,rfl⟩:=n.form;have C:=hid G;have J:=hid H;have M:=hid n;have ae:=hid E;have K:=hid (D _ _ _ _ _ _ _ _ _ (by omega) (by omega) (by omega) A.out);clear G H n E D;go_wp2_with fail
      refine(qr C.out.st (s:=⟨#[44]⟩) (L:= [44]) rfl HC.out).mono ?_;rintro e22 w22 ⟨rfl,d⟩;have ac:=hid (C.out.trans d);have hs22:=d.grown.size;have a:=hid (NdB.grown K.out d.grown (show X.P<w.heap.size by omega));have c:=hid (NdB.grown J.out d.grown (show X.P<i.heap.size by omega));have N:=hid (OwnN.grown M.out d.grown (DG.not (by omega)));clear d;have c1_0:=c.out.c0;have c1_1:=c.out.c1;have c1_2:=c.out.c2;have c1_3:=c.out.c3;have c1_4:=c.out.c4;have c1_5:=c.out.c5;have c1_6:=c.out.c6;have c1_7:=c.out.c7;have c2_0:=a.out.c0;have f2_0:=a.out.fr 0;have c2_1:=a.out.c1;have f2_1:=a.out.fr 1;have c2_2:=a.out.c2;have f2_2:=a.out.fr 2;have c2_3:=a.out.c3;have f2_3:=a.out.fr 3;have c2_4:=a.out.c4;have f2_4:=a.out.fr 4;have c2_5:=a.out.c5;have f2_5:=a.out.fr 5;have c2_6:=a.out.c6;have f2_6:=a.out.fr 6;have c2_7:=a.out.c7;have f2_7:=a.out.fr 7;go_wp2_with fail
      refine ql Tryz.results111 w.heap.size rfl rfl (a.out.set8 _ _ _ _ _ _ _ _) ?_;exact PNd.mk 25 (qd X.l p) ⟨#[]⟩ 0 0 ⟨#[]⟩ none 0 _ (acc.app S) _ HRR.out (ac.out.node a.out (by omega) (by omega) (qe _ _ _ _ _ _ _ _ _ _)) (qC (w0:=w.heap.size) (g:=w.heap.size) N.out (by omega) (qe _ _ _ _ _ _ _ _ _ _) (by omega)) (qX (qG _ _ HK.out ae.out) (fun h=>by rcases h with h|h<;>cases h)) (by rw[NL.len_app];omega) (by first|omega|(simp<;>omega))
end Go.Proofs.YtggngahmafbihaaGreatDoor
