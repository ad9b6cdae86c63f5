/- Contracts, and the plain mathematics beneath. -/
import Derived.Test.YtggngahmafbihaaGreatDoorPerAL
set_option linter.unusedVariables false
set_option linter.unusedSimpArgs false
set_option maxRecDepth 100000
set_option maxHeartbeats 8000000
namespace Go.Proofs.YtggngahmafbihaaGreatDoor
open Go.RowKit Go.Lib
theorem qa1(X:PCtx)(F:Nat)(hF:F≤1000000000)(ih:EC X F):zP X 56 #[] .cond (F+1):=by
 intro w p r hst h0 h1 hr;rw[qa]at hr;have hPl:=hst.lt;obtain⟨i0,hi0,hz0,hz1,hz2⟩:=info_parts qz
 cases hq1:qa X.l F (.two 0) p with
 |none=>rw[hq1]at hr;cases hr
 |some q1=>
 obtain⟨n1,U⟩:=q1;rw[hq1]at hr;replace hr:(if !qj X.l U [63]then some (n1,U)else if(qh (qb U)).err.isNone then(qa X.l F .expr (qh (qb U))).bind fun(x,p)=>(qa X.l F .cond (qf X.l p [124])).bind fun(y,p)=>some (ndL 19 n1.line ((n1.app x).app y),qu p)else some (ndL 19 n1.line n1,qu (qh (qb U))))=some r:=hr;have HQ1:=hid hq1;have IH:=hid ih;clear hq1 ih
 cases hb:qj X.l U [63]with
 |false=>
  have HRR:=hid (show r=(n1,U)by rw[hb]at hr;exact(Option.some.inj hr).symm);have HB:=hid hb;clear hr hb;obtain⟨z,q⟩: ∃z,z=(w).alloc (.cells #[.int .i64 0,.int .i64 0,.string ⟨#[]⟩,.int .i64 0,.int .i64 0,.string ⟨#[]⟩,.slice none 0 0,.slice none 0 0] 31):=⟨_,rfl⟩
  have ad:=hid (show Mvd w z X p by rw[q];exact((Mvd.of hst).alloc _));have hsa:z.heap.size=w.heap.size+1:=by rw[q];simp
  have HZr:=hid (show zN z w.heap.size by rw[q];exact(zN.new w));have HWA:=hid q;clear q;go_enter Tryz.func56,Tryz.ntmps56
  go_wp2_with fail
  rw[←HWA.out];refine(IH.out.two F (Nat.le_refl _) 0 (by omega) z _ _ ad.out.st h0 h1 HQ1.out).mono ?_;rintro e1 O ⟨i,d,T,R,S,u1,E,G,V1,sub1,M,rfl,B,N,K,hl1,ae⟩;obtain⟨A1,Q,rfl⟩:=N.form;have M:n1=nd i d T R S u1 sub1:=M;subst M;have K:=hid K;have ae:U.deep=p.deep+0:=by have h:U.deep=p.deep:=ae;(try simp at h);omega
  have HM1:=hid (ad.out.trans B);have hs1:=B.grown.size;have aa:=hid (NdB.grown HZr.out B.grown (show X.P<w.heap.size by omega));have HO1:=hid (N.wide (D':=DG z.heap.size 0) (fun k hk ag=>⟨hk,by omega⟩));clear B N;unfold qN;obtain⟨w2,n⟩: ∃w2,w2=O.alloc (.cells #[.int .i64 i,.int .i64 d,.string T,.int .i64 R,.int .i64 S,.string u1,.slice E 0 G,.slice A1 sub1.len Q] 31):=⟨_,rfl⟩
  have A:Below O.heap.size O w2:=by rw[n];exact(Below.refl _ _).alloc (Nat.le_refl _) _
  have Z:=hid (show NdB w2 O.heap.size (.int .i64 i) (.int .i64 d) (.string T) (.int .i64 R) (.int .i64 S) (.string u1) (.slice E 0 G) (.slice A1 sub1.len Q)by rw[n];exact NdB.new _ _ _ _ _ _ _ _ _);have hs2:w2.heap.size=O.heap.size+1:=by rw[n];simp
  have ac:=hid (HM1.out.below A);have ab:=hid (aa.out.below' A);have I:=hid ((HO1.out.wide (D':=DG z.heap.size O.heap.size) (fun k hk ag=>⟨hk.1,by omega⟩)).below A);have HW2:=hid n;clear n A;go_wp2_with fail
  rw[←HW2.out];refine(qr ac.out.st (s:=⟨#[63]⟩) (L:= [63]) rfl HB.out).mono ?_;rintro e3 w3 ⟨rfl,j⟩;have HM3:=hid (ac.out.trans j);have hs3:=j.grown.size;have b:=hid (NdB.grown ab.out j.grown (show X.P<w.heap.size by omega));have a:=hid (NdB.grown Z.out j.grown (show X.P<O.heap.size by omega));have J:=hid (OwnN.grown I.out j.grown (DG.not (by omega)));clear j;have c1_0:=a.out.c0;have c1_1:=a.out.c1;have c1_2:=a.out.c2;have c1_3:=a.out.c3;have c1_4:=a.out.c4;have c1_5:=a.out.c5;have c1_6:=a.out.c6;have c1_7:=a.out.c7;have c2_0:=b.out.c0;have f2_0:=b.out.fr 0;have c2_1:=b.out.c1;have f2_1:=b.out.fr 1;have c2_2:=b.out.c2;have f2_2:=b.out.fr 2;have c2_3:=b.out.c3;have f2_3:=b.out.fr 3;have c2_4:=b.out.c4;have f2_4:=b.out.fr 4;have c2_5:=b.out.c5;have f2_5:=b.out.fr 5;have c2_6:=b.out.c6;have f2_6:=b.out.fr 6;have c2_7:=b.out.c7;have f2_7:=b.out.fr 7;go_wp2_with fail
  refine ql Tryz.results56 w.heap.size rfl rfl (b.out.set8 _ _ _ _ _ _ _ _) ?_;exact PNd.mk i d T R S u1 E G _ sub1 _ HRR.out (HM3.out.node b.out (by omega) (by omega) (qe _ _ _ _ _ _ _ _ _ _)) (qC J.out (by omega) (qe _ _ _ _ _ _ _ _ _ _) (by omega)) K.out (by omega) (by first|omega|(simp<;>omega))
 |true=>
  rw[hb]at hr;have HB:=hid hb;clear hb
  cases hd:(qh (qb U)).err.isNone with
  |false=>
   have HRR:=hid (show r=(ndL 19 n1.line n1,qu (qh (qb U)))by rw[if_neg (by decide),if_neg (by rw[hd];decide)]at hr;exact(Option.some.inj hr).symm);have HD:=hid hd;clear hr hd;obtain⟨z,q⟩: ∃z,z=(w).alloc (.cells #[.int .i64 0,.int .i64 0,.string ⟨#[]⟩,.int .i64 0,.int .i64 0,.string ⟨#[]⟩,.slice none 0 0,.slice none 0 0] 31):=⟨_,rfl⟩
   have ad:=hid (show Mvd w z X p by rw[q];exact((Mvd.of hst).alloc _));have hsa:z.heap.size=w.heap.size+1:=by rw[q];simp
   have HZr:=hid (show zN z w.heap.size by rw[q];exact(zN.new w));have HWA:=hid q;clear q;go_enter Tryz.func56,Tryz.ntmps56
   go_wp2_with fail
   rw[←HWA.out];refine(IH.out.two F (Nat.le_refl _) 0 (by omega) z _ _ ad.out.st h0 h1 HQ1.out).mono ?_;rintro e1 O ⟨i,d,T,R,S,u1,E,G,V1,sub1,M,rfl,B,N,K,hl1,ae⟩;obtain⟨A1,Q,rfl⟩:=N.form;have M:n1=nd i d T R S u1 sub1:=M;subst M;have K:=hid K;have ae:U.deep=p.deep+0:=by have h:U.deep=p.deep:=ae;(try simp at h);omega
   have HM1:=hid (ad.out.trans B);have hs1:=B.grown.size;have aa:=hid (NdB.grown HZr.out B.grown (show X.P<w.heap.size by omega));have HO1:=hid (N.wide (D':=DG z.heap.size 0) (fun k hk ag=>⟨hk,by omega⟩));clear B N;unfold qN;obtain⟨w2,n⟩: ∃w2,w2=O.alloc (.cells #[.int .i64 i,.int .i64 d,.string T,.int .i64 R,.int .i64 S,.string u1,.slice E 0 G,.slice A1 sub1.len Q] 31):=⟨_,rfl⟩
   have A:Below O.heap.size O w2:=by rw[n];exact(Below.refl _ _).alloc (Nat.le_refl _) _
   have Z:=hid (show NdB w2 O.heap.size (.int .i64 i) (.int .i64 d) (.string T) (.int .i64 R) (.int .i64 S) (.string u1) (.slice E 0 G) (.slice A1 sub1.len Q)by rw[n];exact NdB.new _ _ _ _ _ _ _ _ _);have hs2:w2.heap.size=O.heap.size+1:=by rw[n];simp
   have ac:=hid (HM1.out.below A);have ab:=hid (aa.out.below' A);have I:=hid ((HO1.out.wide (D':=DG z.heap.size O.heap.size) (fun k hk ag=>⟨hk.1,by omega⟩)).below A);have HW2:=hid n;clear n A;go_wp2_with fail
   rw[←HW2.out];refine(za ac.out.st (s:=⟨#[63]⟩) (L:= [63]) rfl HB.out).mono ?_;rintro e3 w3 ⟨rfl,j⟩;have HM3:=hid (ac.out.trans j);have hs3:=j.grown.size;have b:=hid (NdB.grown ab.out j.grown (show X.P<w.heap.size by omega));have a:=hid (NdB.grown Z.out j.grown (show X.P<O.heap.size by omega));have J:=hid (OwnN.grown I.out j.grown (DG.not (by omega)));clear j;have c1_0:=a.out.c0;have c1_1:=a.out.c1;have c1_2:=a.out.c2;have c1_3:=a.out.c3;have c1_4:=a.out.c4;have c1_5:=a.out.c5;have c1_6:=a.out.c6;have c1_7:=a.out.c7;obtain⟨w4,ai⟩: ∃W,W=(w3.alloc (.cells #[.int .i64 i,.int .i64 d,.string T,.int .i64 R,.int .i64 S,.string u1,.slice E 0 G,.slice A1 sub1.len Q] 31)).alloc (.cells #[.int .i64 19,.int .i64 d,.string ⟨#[]⟩,.int .i64 0,.int .i64 0,.string ⟨#[]⟩,.slice none 0 0,.slice (some ⟨w3.heap.size,0,none⟩) 1 1] 31):=⟨_,rfl⟩
   have C:=xN HM3.out ((J.out.wide (D':=DG z.heap.size (w3.heap.size+1)) (fun k hk ag=>⟨by have:=hk.1;omega,by omega⟩))) i d T R S u1 E G 19 d (by exact⟨by omega,by omega⟩) ai;have HM4:=hid C.1;have HBo4:=hid C.2.1;have HOo4:=hid C.2.2.1;have hs4:=C.2.2.2.1;have HBr4:=hid (b.out.below' C.2.2.2.2);have HW4:=hid ai;clear ai C;go_wp2_with fail
   rw[←HW4.out];refine(xr HM4.out.st (by first|omega|(simp<;>omega)) (by first|omega|(simp<;>omega)) HD.out).mono ?_;rintro e5 w5 ⟨rfl,D⟩;have HM5:=hid (HM4.out.trans D);have hs5:=D.grown.size;have HBr5:=hid (NdB.grown HBr4.out D.grown (show X.P<w.heap.size by omega));have HBo5:=hid (NdB.grown HBo4.out D.grown (show X.P<(w3.heap.size+1)by omega));have HOo5:=hid (OwnN.grown HOo4.out D.grown (DG.not (by omega)));clear D;go_wp2_with fail
   refine(je X _ _ HM5.out.st (by first|omega|(simp<;>omega)) (by first|omega|(simp<;>omega))).mono ?_;rintro e6 w6 ⟨rfl,Y⟩;have HM6:=hid (HM5.out.trans Y);have hs6:=Y.grown.size;have c:=hid (NdB.grown HBr5.out Y.grown (show X.P<w.heap.size by omega));have v:=hid (NdB.grown HBo5.out Y.grown (show X.P<(w3.heap.size+1)by omega));have HOo6:=hid (OwnN.grown HOo5.out Y.grown (DG.not (by omega)));clear Y;have c2_0:=v.out.c0;have c2_1:=v.out.c1;have c2_2:=v.out.c2;have c2_3:=v.out.c3;have c2_4:=v.out.c4;have c2_5:=v.out.c5;have c2_6:=v.out.c6;have c2_7:=v.out.c7;have c3_0:=c.out.c0;have f3_0:=c.out.fr 0;have c3_1:=c.out.c1;have f3_1:=c.out.fr 1;have c3_2:=c.out.c2;have f3_2:=c.out.fr 2;have c3_3:=c.out.c3;have f3_3:=c.out.fr 3;have c3_4:=c.out.c4;have f3_4:=c.out.fr 4;have c3_5:=c.out.c5;have f3_5:=c.out.fr 5;have c3_6:=c.out.c6;have f3_6:=c.out.fr 6;have c3_7:=c.out.c7;have f3_7:=c.out.fr 7;go_wp2_with fail
   refine ql Tryz.results56 w.heap.size rfl rfl (c.out.set8 _ _ _ _ _ _ _ _) ?_;exact PNd.mk 19 d ⟨#[]⟩ 0 0 ⟨#[]⟩ none 0 _ (nd i d T R S u1 sub1) _ HRR.out (HM6.out.node c.out (by omega) (by omega) (qe _ _ _ _ _ _ _ _ _ _)) (qC HOo6.out (by omega) (qe _ _ _ _ _ _ _ _ _ _) (by omega)) (qX K.out (fun h=>by rcases h with h|h<;>cases h)) (by rw[qg];omega) (by first|omega|(simp<;>omega))
  |true=>
   rw[if_neg (by decide),if_pos hd]at hr;have hle:=js hd;simp only[nextS_deep]at hle;have HD:=hid hd;clear hd
   cases hq2:qa X.l F .expr (qh (qb U))with
   |none=>rw[hq2]at hr;cases hr
   |some q2=>
   obtain⟨n2,p2⟩:=q2;rw[hq2]at hr;replace hr:((qa X.l F .cond (qf X.l p2 [124])).bind fun(y,p)=>some (ndL 19 n1.line ((n1.app n2).app y),qu p))=some r:=hr;have HQ2:=hid hq2;clear hq2
   cases hq3:qa X.l F .cond (qf X.l p2 [124])with
   |none=>rw[hq3]at hr;cases hr
   |some q3=>
   obtain⟨n3,p3⟩:=q3;rw[hq3]at hr;have HRR:=hid (show r=(ndL 19 n1.line ((n1.app n2).app n3),qu p3)from(Option.some.inj hr).symm);have HQ3:=hid hq3;clear hq3 hr;obtain⟨z,q⟩: ∃z,z=(w).alloc (.cells #[.int .i64 0,.int .i64 0,.string ⟨#[]⟩,.int .i64 0,.int .i64 0,.string ⟨#[]⟩,.slice none 0 0,.slice none 0 0] 31):=⟨_,rfl⟩
   have ad:=hid (show Mvd w z X p by rw[q];exact((Mvd.of hst).alloc _));have hsa:z.heap.size=w.heap.size+1:=by rw[q];simp
   have HZr:=hid (show zN z w.heap.size by rw[q];exact(zN.new w));have HWA:=hid q;clear q;go_enter Tryz.func56,Tryz.ntmps56
   go_wp2_with fail
   rw[←HWA.out];refine(IH.out.two F (Nat.le_refl _) 0 (by omega) z _ _ ad.out.st h0 h1 HQ1.out).mono ?_;rintro e1 O ⟨i,d,T,R,S,u1,E,G,V1,sub1,M,rfl,B,N,K,hl1,ae⟩;obtain⟨A1,Q,rfl⟩:=N.form;have M:n1=nd i d T R S u1 sub1:=M;subst M;have K:=hid K;have ae:U.deep=p.deep+0:=by have h:U.deep=p.deep:=ae;(try simp at h);omega
   have HM1:=hid (ad.out.trans B);have hs1:=B.grown.size;have aa:=hid (NdB.grown HZr.out B.grown (show X.P<w.heap.size by omega));have HO1:=hid (N.wide (D':=DG z.heap.size 0) (fun k hk ag=>⟨hk,by omega⟩));clear B N;unfold qN;obtain⟨w2,n⟩: ∃w2,w2=O.alloc (.cells #[.int .i64 i,.int .i64 d,.string T,.int .i64 R,.int .i64 S,.string u1,.slice E 0 G,.slice A1 sub1.len Q] 31):=⟨_,rfl⟩
   have A:Below O.heap.size O w2:=by rw[n];exact(Below.refl _ _).alloc (Nat.le_refl _) _
   have Z:=hid (show NdB w2 O.heap.size (.int .i64 i) (.int .i64 d) (.string T) (.int .i64 R) (.int .i64 S) (.string u1) (.slice E 0 G) (.slice A1 sub1.len Q)by rw[n];exact NdB.new _ _ _ _ _ _ _ _ _);have hs2:w2.heap.size=O.heap.size+1:=by rw[n];simp
   have ac:=hid (HM1.out.below A);have ab:=hid (aa.out.below' A);have I:=hid ((HO1.out.wide (D':=DG z.heap.size O.heap.size) (fun k hk ag=>⟨hk.1,by omega⟩)).below A);have HW2:=hid n;clear n A;go_wp2_with fail
   rw[←HW2.out];refine(za ac.out.st (s:=⟨#[63]⟩) (L:= [63]) rfl HB.out).mono ?_;rintro e3 w3 ⟨rfl,j⟩;have HM3:=hid (ac.out.trans j);have hs3:=j.grown.size;have b:=hid (NdB.grown ab.out j.grown (show X.P<w.heap.size by omega));have a:=hid (NdB.grown Z.out j.grown (show X.P<O.heap.size by omega));have J:=hid (OwnN.grown I.out j.grown (DG.not (by omega)));clear j;have c1_0:=a.out.c0;have c1_1:=a.out.c1;have c1_2:=a.out.c2;have c1_3:=a.out.c3;have c1_4:=a.out.c4;have c1_5:=a.out.c5;have c1_6:=a.out.c6;have c1_7:=a.out.c7;obtain⟨w4,ai⟩: ∃W,W=(w3.alloc (.cells #[.int .i64 i,.int .i64 d,.string T,.int .i64 R,.int .i64 S,.string u1,.slice E 0 G,.slice A1 sub1.len Q] 31)).alloc (.cells #[.int .i64 19,.int .i64 d,.string ⟨#[]⟩,.int .i64 0,.int .i64 0,.string ⟨#[]⟩,.slice none 0 0,.slice (some ⟨w3.heap.size,0,none⟩) 1 1] 31):=⟨_,rfl⟩
   have C:=xN HM3.out ((J.out.wide (D':=DG z.heap.size (w3.heap.size+1)) (fun k hk ag=>⟨by have:=hk.1;omega,by omega⟩))) i d T R S u1 E G 19 d (by exact⟨by omega,by omega⟩) ai;have HM4:=hid C.1;have HBo4:=hid C.2.1;have HOo4:=hid C.2.2.1;have hs4:=C.2.2.2.1;have HBr4:=hid (b.out.below' C.2.2.2.2);have HW4:=hid ai;clear ai C;go_wp2_with fail
   rw[←HW4.out];refine(jJ HM4.out.st (by first|omega|(simp<;>omega)) (by first|omega|(simp<;>omega)) HD.out).mono ?_;rintro e5 w5 ⟨rfl,D⟩;have HM5:=hid (HM4.out.trans D);have hs5:=D.grown.size;have HBr5:=hid (NdB.grown HBr4.out D.grown (show X.P<w.heap.size by omega));have HBo5:=hid (NdB.grown HBo4.out D.grown (show X.P<(w3.heap.size+1)by omega));have HOo5:=hid (OwnN.grown HOo4.out D.grown (DG.not (by omega)));clear D;go_upto_region 6 with fail
   go_cut [] (fun wx6=>zC X w w5 p2 z.heap.size (w3.heap.size+1) (.int .i64 19) (.int .i64 d) (.string ⟨#[]⟩) (.int .i64 0) (.int .i64 0) (.string ⟨#[]⟩) (.slice none 0 0) (nd i d T R S u1 sub1) n2 1 (p.deep+1) wx6)
   case first=>
    have c7:=HBo5.out.c7;have vlt:=hid (fun g (hg:(.slice (some ⟨w3.heap.size,0,none⟩) 1 1:Value).ownBlock=some g)=>(HOo5.out.ge g hg).2);have EXC:=hid (fun W (hW:PSt W X (qh (qb U)))=>IH.out.expr F (Nat.le_refl _) W _ _ hW (by first|omega|(simp<;>omega)) (by first|omega|(simp<;>omega)) HQ2.out);have HSD:=hid (show PSt w5.drew X (qh (qb U))from HM5.out.st.below (Below.drew (Below.refl _ _)));have HMD:=hid (show Mvd w w5.drew X (qh (qb U))from HM5.out.drew)
    go_region_law
     (first
      |(refine qy (by rfl) (.tmp 19) (.tmp 22) 29 (by rfl) Tryz.underlying29 hi0 hz0 hz1 hz2 (by rfl) (by rfl) APP.out.1 (by rfl) (by rfl) APP.out.2 (fun e=>by cases e) (by first|(simp only[qg];omega)|(simp only[NL.len_app,qg];omega)|(simp only[qg,NL.len];omega)|(simp only[NL.len_app,qg,NL.len];omega)) (by refine⟨?_,?_⟩<;>(rw[World.size_alloc];omega)) ?_
        intro A9 c9 w9 ah af hob9;have k7:w9.cell? ⟨(w3.heap.size+1),7,none⟩=some (.slice (some ⟨w3.heap.size,0,none⟩) 1 1):=((HN.out.alloc _).app af (fun e=>(HO.out.ge _ e).1.2 rfl)).c7
        have j7:w9.frozen? ⟨(w3.heap.size+1),7,none⟩=false:=((HN.out.alloc _).app af (fun e=>(HO.out.ge _ e).1.2 rfl)).fr 7)
      |(go_simp;go_at_call 26;refine(EXC.out _ HSD.out).mono ?_
        rintro e9 w8 ⟨op,ln,t,k,m,u,va,vc,V,sub,hn,rfl,hm,ho,hk,hl,hd⟩;obtain⟨A8,c8,rfl⟩:=ho.form;have hn':n2=nd op ln t k m u sub:=hn;have HK:=hid (show qQ n2∧(n2).len≤1 from⟨hk,by rw[hn',qg];exact Nat.le_refl _⟩);have HNN:=hid hn';have HDD:=hid (show p2.deep=p.deep+1 by have h:p2.deep=(qh (qb U)).deep:=hd;(try simp at h);omega);have HG:=hid (show w5.grownBy w8 (some X.P)from⟨hm.grown.os,hm.grown.tape,hm.grown.output,hm.grown.size,hm.grown.block⟩);have HM:=hid (HMD.out.trans hm);have hs8:w5.heap.size≤w8.heap.size:=hm.grown.size;have HN:=hid (NdB.grown (w:=w5) HBo5.out HG.out (show X.P<(w3.heap.size+1)by omega));have HO:=hid (OwnN.grown (w:=w5) HOo5.out HG.out (DG.not (by omega)));have APP:=hid (jH HO.out ho op ln t k m u va vc (by show _≤w5.heap.size;omega) (by show _<w5.heap.size;omega) (by show w5.heap.size≤_;omega) vlt.out);have c7_8:=HN.out.c7;have c7_9:=fun o=>qq c7_8 o;clear hn hn' hm ho hk hl hd
        unfold qN))
    all_goals
     go_wp2_with fail
     go_meet
     exact jq HG.out HM.out HN.out HO.out (by omega) (by omega) (by omega) (by omega) (by rw[HNN.out];exact ah) af HK.out.2 HK.out.1 HDD.out
   case rest=>
    obtain⟨V6,Y,hd6,hn6,ho6,hx6,hk6,hs6,hf6⟩:=hcut;obtain⟨A6,c6,rfl⟩:=ho6.form;have HM6:=hid Y;have v:=hid hn6;have HOo6:=hid ho6;have HX6:=hid hk6;have c:=hid (hf6 _ _ _ _ _ _ _ _ _ (by omega) (by omega) (by omega) HBr5.out);clear Y hn6 ho6 hk6 hf6;go_wp2_with fail
    refine(qT HM6.out.st (s:=⟨#[124]⟩) (L:= [124]) rfl).mono ?_;rintro e7 w7 ⟨rfl,hm7⟩;have HM7:=hid (HM6.out.trans hm7);have hs7:=hm7.grown.size;have HBr7:=hid (NdB.grown c.out hm7.grown (show X.P<w.heap.size by omega));have HBo7:=hid (NdB.grown v.out hm7.grown (show X.P<(w3.heap.size+1)by omega));have HOo7:=hid (OwnN.grown HOo6.out hm7.grown (DG.not (by omega)));clear hm7;go_upto_region 8 with fail
    go_cut [] (fun wx8=>zC X w w7 p3 z.heap.size (w3.heap.size+1) (.int .i64 19) (.int .i64 d) (.string ⟨#[]⟩) (.int .i64 0) (.int .i64 0) (.string ⟨#[]⟩) (.slice none 0 0) ((nd i d T R S u1 sub1).app n2) n3 1 (p.deep+1) wx8)
    case first=>
     have c7:=HBo7.out.c7;have vlt:=hid (fun g (hg:(.slice A6 ((nd i d T R S u1 sub1).app n2).len c6:Value).ownBlock=some g)=>(HOo7.out.ge g hg).2);have EXC:=hid (fun W (hW:PSt W X (qf X.l p2 [124]))=>IH.out.cond F (Nat.le_refl _) W _ _ hW (by first|omega|(simp<;>omega)) (by first|omega|(simp<;>omega)) HQ3.out);have HSD:=hid (show PSt w7.drew X (qf X.l p2 [124])from HM7.out.st.below (Below.drew (Below.refl _ _)));have HMD:=hid (show Mvd w w7.drew X (qf X.l p2 [124])from HM7.out.drew)
     go_region_law
      (first
       |(refine qy (by rfl) (.tmp 28) (.tmp 31) 29 (by rfl) Tryz.underlying29 hi0 hz0 hz1 hz2 (by rfl) (by rfl) APP.out.1 (by rfl) (by rfl) APP.out.2 (fun e=>by cases e) (by first|(simp only[qg];omega)|(simp only[NL.len_app,qg];omega)|(simp only[qg,NL.len];omega)|(simp only[NL.len_app,qg,NL.len];omega)) (by refine⟨?_,?_⟩<;>(rw[World.size_alloc];omega)) ?_
         intro A9 c9 w9 ah af hob9;have k7:w9.cell? ⟨(w3.heap.size+1),7,none⟩=some (.slice A6 ((nd i d T R S u1 sub1).app n2).len c6):=((HN.out.alloc _).app af (fun e=>(HO.out.ge _ e).1.2 rfl)).c7
         have j7:w9.frozen? ⟨(w3.heap.size+1),7,none⟩=false:=((HN.out.alloc _).app af (fun e=>(HO.out.ge _ e).1.2 rfl)).fr 7)
       |(go_simp;go_at_call 56;refine(EXC.out _ HSD.out).mono ?_
         rintro e9 w8 ⟨op,ln,t,k,m,u,va,vc,V,sub,hn,rfl,hm,ho,hk,hl,hd⟩;obtain⟨A8,c8,rfl⟩:=ho.form;have hn':n3=nd op ln t k m u sub:=hn;have HK:=hid (show qQ n3∧(n3).len≤1 from⟨hk,by rw[hn',qg];exact Nat.le_refl _⟩);have HNN:=hid hn';have HDD:=hid (show p3.deep=p.deep+1 by have h:p3.deep=(qf X.l p2 [124]).deep:=hd;(try simp at h);omega);have HG:=hid (show w7.grownBy w8 (some X.P)from⟨hm.grown.os,hm.grown.tape,hm.grown.output,hm.grown.size,hm.grown.block⟩);have HM:=hid (HMD.out.trans hm);have hs8:w7.heap.size≤w8.heap.size:=hm.grown.size;have HN:=hid (NdB.grown (w:=w7) HBo7.out HG.out (show X.P<(w3.heap.size+1)by omega));have HO:=hid (OwnN.grown (w:=w7) HOo7.out HG.out (DG.not (by omega)));have APP:=hid (jH HO.out ho op ln t k m u va vc (by show _≤w7.heap.size;omega) (by show _<w7.heap.size;omega) (by show w7.heap.size≤_;omega) vlt.out);have c7_8:=HN.out.c7;have c7_9:=fun o=>qq c7_8 o;clear hn hn' hm ho hk hl hd
         unfold qN))
     all_goals
      go_wp2_with fail
      go_meet
      exact jq HG.out HM.out HN.out HO.out (by omega) (by omega) (by omega) (by omega) (by rw[HNN.out];exact ah) af HK.out.2 HK.out.1 HDD.out
    case rest=>
     obtain⟨V8,hm8,hd8,hn8,ho8,hx8,hk8,hs8,hf8⟩:=hcut;obtain⟨A8,c8,rfl⟩:=ho8.form;have HM8:=hid hm8;have HBo8:=hid hn8;have HOo8:=hid ho8;have HX8:=hid hk8;have HBr8:=hid (hf8 _ _ _ _ _ _ _ _ _ (by omega) (by omega) (by omega) HBr7.out);clear hm8 hn8 ho8 hk8 hf8;go_wp2_with fail
     refine(je X _ _ HM8.out.st (by first|omega|(simp<;>omega)) (by first|omega|(simp<;>omega))).mono ?_;rintro e9 w9 ⟨rfl,hm9⟩;have HM9:=hid (HM8.out.trans hm9);have hs9:=hm9.grown.size;have f:=hid (NdB.grown HBr8.out hm9.grown (show X.P<w.heap.size by omega));have H:=hid (NdB.grown HBo8.out hm9.grown (show X.P<(w3.heap.size+1)by omega));have HOo9:=hid (OwnN.grown HOo8.out hm9.grown (DG.not (by omega)));clear hm9;have c2_0:=H.out.c0;have c2_1:=H.out.c1;have c2_2:=H.out.c2;have c2_3:=H.out.c3;have c2_4:=H.out.c4;have c2_5:=H.out.c5;have c2_6:=H.out.c6;have c2_7:=H.out.c7;have c3_0:=f.out.c0;have f3_0:=f.out.fr 0;have c3_1:=f.out.c1;have f3_1:=f.out.fr 1;have c3_2:=f.out.c2;have f3_2:=f.out.fr 2;have c3_3:=f.out.c3;have f3_3:=f.out.fr 3;have c3_4:=f.out.c4;have f3_4:=f.out.fr 4;have c3_5:=f.out.c5;have f3_5:=f.out.fr 5;have c3_6:=f.out.c6;have f3_6:=f.out.fr 6;have c3_7:=f.out.c7;have f3_7:=f.out.fr 7;go_wp2_with fail
     refine ql Tryz.results56 w.heap.size rfl rfl (f.out.set8 _ _ _ _ _ _ _ _) ?_;exact PNd.mk 19 d ⟨#[]⟩ 0 0 ⟨#[]⟩ none 0 _ _ _ HRR.out (HM9.out.node f.out (by omega) (by omega) (qe _ _ _ _ _ _ _ _ _ _)) (qC HOo9.out (by omega) (qe _ _ _ _ _ _ _ _ _ _) (by omega)) (qX (qG _ _ (qG _ _ K.out HX6.out) HX8.out) (fun h=>by rcases h with h|h<;>cases h)) (by rw[NL.len_app,NL.len_app,qg];omega) (by first|omega|(simp<;>omega))
end Go.Proofs.YtggngahmafbihaaGreatDoor
