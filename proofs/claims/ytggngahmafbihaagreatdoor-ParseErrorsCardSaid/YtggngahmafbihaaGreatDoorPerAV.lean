/- Contracts, and the plain mathematics beneath. -/
import Derived.Test.YtggngahmafbihaaGreatDoorPerAL
import Derived.Test.YtggngahmafbihaaGreatDoorPerAM
set_option linter.unusedVariables false
set_option linter.unusedSimpArgs false
set_option maxRecDepth 100000
set_option maxHeartbeats 8000000
namespace Go.Proofs.YtggngahmafbihaaGreatDoor
open Go.RowKit Go.Lib
theorem QD{X:PCtx}{p:PS}{w:World}{b:Bool}(i:Nat)(h:PSt w X p)(hb:xQ X.l i=b){v:Int}(hv:v=(i:Int)):
 Calls Tryz.prog 172 #[.pointer (some ⟨X.P,0,none⟩),.int .i64 v] w fun e w'=>e= .returned (.bool b)∧w=w':=by
 have:=qas X p i w h;rw[hb, ←hv]at this;exact this
theorem NdB.set4{w:World}{g:Nat}{a b c d e f h i:Value}(H:NdB w g a b c d e f h i)(u:Value):NdB (w.setCell ⟨g,4,none⟩ u) g a b c d u f h i:=by unfold NdB at H⊢;simp[World.setCell,Array.getElem?_modify,H]
theorem Mvd.jump{a w:World}{X:PCtx}{p:PS}(h:Mvd a w X p)(k:Nat)(hp:p.pos+k≤X.l.length):Mvd a (w.setCell ⟨X.P,1,none⟩ (.int .i64 ((p.pos:Int)+(k:Int)))) X {p with pos:=p.pos+k}:=by
 obtain⟨e,d,c⟩:=h.st.at_;have hs:=d.set1 (p.pos+k);rw[show((p.pos+k:Nat):Int)=(p.pos:Int)+(k:Int)from by omega]at hs;exact⟨h.st.moved (fun b hb=>Below.heap_setCell _ _ _ _ (by show b≠X.P;omega)) (by rw[ji];exact Nat.le_refl _) hs (c.keep (fun b hb _=>Below.heap_setCell _ _ _ _ (by show b≠X.P;omega))) hp,qJ h.grown (.inl rfl) _⟩
theorem qcB(X:PCtx)(F:Nat)(hF:F≤1000000000)(ih:EC X F):zP X 146 #[] .one (F+1):=by
 intro w p r hst h0 h1 hr;rw[qa]at hr;have hPl:=hst.lt;have hlen:=hst.len;obtain⟨i0,hi0,hz0,hz1,hz2⟩:=info_parts qz;have IH:=hid ih;clear ih;have hlt0:qj X.l p [45]=true→p.pos<X.l.length:=Qs
 cases hb:qj X.l p [45]with
 |true=>
  rw[hb]at hr;have hlt:=Qs hb;clear hlt0;have HB:=hid hb;clear hb
  cases hi:xQ X.l (p.pos+1)with
  |true=>
   rw[hi]at hr;have HI:=hid hi
   cases ht:X.l[p.pos+1]? with
   |none=>rw[JK ht]at hi;cases hi
   |some tk=>
   rw[ht]at hr;have hlt2:p.pos+1<X.l.length:=(List.getElem?_eq_some_iff.1 ht).1;have HT:=hid ht;clear ht hi;have HQ1:=hid (show qa X.l F (.behind (nd 1 (qd X.l p) ⟨#[]⟩ tk.k (wrap64 (-tk.n)) tk.t .nil)) (qb (qb p))=some r from hr);clear hr;obtain⟨n1,Z⟩:=r;obtain⟨E,f⟩: ∃E,E=(w).alloc (.cells #[.int .i64 0,.int .i64 0,.string ⟨#[]⟩,.int .i64 0,.int .i64 0,.string ⟨#[]⟩,.slice none 0 0,.slice none 0 0] 31):=⟨_,rfl⟩
   have M:=hid (show Mvd w E X p by rw[f];exact((Mvd.of hst).alloc _));have hsa:E.heap.size=w.heap.size+1:=by rw[f];simp
   have HZr:=hid (show zN E w.heap.size by rw[f];exact(zN.new w));have HWA:=hid f;clear f;go_enter Tryz.func146,Tryz.ntmps146
   go_wp2_with fail
   rw[←HWA.out];refine(qO M.out.st).mono ?_;rintro e1 w1 ⟨rfl,q⟩;have K:=hid (M.out.trans q);have hs1:=q.grown.size;have G:=hid (NdB.grown HZr.out q.grown (show X.P<w.heap.size by omega));clear q;go_wp2_with fail
   refine(QF K.out.st (s:=⟨#[45]⟩) (L:= [45]) rfl HB.out).mono ?_;rintro e2 w2 ⟨rfl,v⟩;have C:=hid (K.out.trans v);have hs2:=v.grown.size;have H:=hid (NdB.grown G.out v.grown (show X.P<w.heap.size by omega));clear v;obtain⟨ev,hP,hE⟩:=C.out.st.at_;have c1:=hP.c1;clear hP hE;go_wp2_with fail
   refine(QD (p.pos+1) C.out.st HI.out (by omega)).mono ?_;rintro e3 w3 ⟨rfl,rfl⟩;clear c1;obtain⟨ev,hP,hE⟩:=C.out.st.at_;obtain⟨g,sa,sc,hA,hg,_,_,_,t3,t4,t5,t6⟩:=C.out.st.tok HT.out;have c0:=hP.c0;rw[hA]at c0;have c1:=hP.c1;have q1:IntKind.i64.wrap ((p.pos:Int)+1)=(p.pos:Int)+1:=IntWalk.i64_in _ ⟨by omega,by omega⟩;have q2:(0:Int)≤(p.pos:Int)+1:=by omega
   have q3:(p.pos:Int)+1<(X.l.length:Int):=by omega
   have q4:((p.pos:Int)+1).toNat=p.pos+1:=by omega
   clear hP hE hA;go_wp2_with fail
   go_region_held3 (fun W'=>W'.cell? ⟨X.P,0,none⟩=some (.slice (some ⟨g,0,none⟩) X.l.length X.c)∧W'.cell? ⟨X.P,1,none⟩=some (.int .i64 p.pos)∧W'.cell? ⟨g,(p.pos+1)*7+3,none⟩=some (.int .i64 tk.k)∧W'.cell? ⟨g,(p.pos+1)*7+4,none⟩=some (.int .i64 tk.n)∧W'.cell? ⟨g,(p.pos+1)*7+5,none⟩=some (.string tk.t)∧W'.cell? ⟨g,(p.pos+1)*7+6,none⟩=some (.slice sa 0 sc)) (first|assumption|exact⟨c0,c1,t3,t4,t5,t6⟩|go_keep) (fail)
   clear c0 c1 t3 t4 t5 t6 q1 q2 q3 q4;obtain⟨w4,hw4⟩: ∃w4,w4=(w2.alloc (.cells #[.int .i64 1,.int .i64 (qd X.l p),.string ⟨#[]⟩,.int .i64 tk.k,.int .i64 tk.n,.string tk.t,.slice sa 0 sc,.slice none 0 0] 31)).drew:=⟨_,rfl⟩
   have hb4:Below w2.heap.size w2 w4:=by rw[hw4];exact((Below.refl _ _).alloc (Nat.le_refl _) _).drew
   have z:=hid (show NdB w4 w2.heap.size (.int .i64 1) (.int .i64 (qd X.l p)) (.string ⟨#[]⟩) (.int .i64 tk.k) (.int .i64 tk.n) (.string tk.t) (.slice sa 0 sc) (.slice none 0 0)by rw[hw4];exact NdB.new _ _ _ _ _ _ _ _ _);have hs4:w4.heap.size=w2.heap.size+1:=by rw[hw4];show(w2.alloc _).heap.size=_;simp
   have HM4:=hid (C.out.below hb4);have I:=hid (H.out.below' hb4);have HW4:=hid hw4;clear hw4 hb4;rw[←HW4.out];have c1_0:=z.out.c0;have f1_0:=z.out.fr 0;have c1_1:=z.out.c1;have f1_1:=z.out.fr 1;have c1_2:=z.out.c2;have f1_2:=z.out.fr 2;have c1_3:=z.out.c3;have f1_3:=z.out.fr 3;have c1_4:=z.out.c4;have f1_4:=z.out.fr 4;have c1_5:=z.out.c5;have f1_5:=z.out.fr 5;have c1_6:=z.out.c6;have f1_6:=z.out.fr 6;have c1_7:=z.out.c7;have f1_7:=z.out.fr 7;obtain⟨ev,hP,hE⟩:=HM4.out.st.at_;have c1:=hP.c1;have f1:=hP.fr 1;clear hP hE;have hne1:X.P≠w2.heap.size:=by omega
   have hne2:w2.heap.size≠X.P:=by omega
   go_wp2_with fail
   obtain⟨w5,y⟩: ∃W,W=(w4.setCell ⟨w2.heap.size,4,none⟩ (.int .i64 (wrap64 (-tk.n)))):=⟨_,rfl⟩
   have hg5:w4.grownBy w5 (some w2.heap.size):=by rw[y];exact qv _ _ _ _
   have hs5:=hg5.size;have N:=hid (HM4.out.node z.out (by omega) (by omega) hg5);have J:=hid (I.out.apart hg5 (by omega));have HBn5:=hid (show NdB w5 w2.heap.size (.int .i64 1) (.int .i64 (qd X.l p)) (.string ⟨#[]⟩) (.int .i64 tk.k) (.int .i64 (wrap64 (-tk.n))) (.string tk.t) (.slice sa 0 sc) (.slice none 0 0)by rw[y];exact z.out.set4 _);have HW5:=hid y;clear y hg5;have HMn6:=hid (N.out.jump 2 (by omega));obtain⟨w6,hw6⟩: ∃W,W=w5.setCell ⟨X.P,1,none⟩ (.int .i64 ((p.pos:Int)+2)):=⟨_,rfl⟩
   have hg6:w5.grownBy w6 (some X.P):=by rw[hw6];exact qv _ _ _ _
   have O:=hid (show Mvd w w6 X (qb (qb p))by rw[hw6];exact HMn6.out);have hs6:=hg6.size;have d:=hid (NdB.grown J.out hg6 (show X.P<w.heap.size by omega));have HBn6:=hid (NdB.grown HBn5.out hg6 (show X.P<w2.heap.size by omega));have HW6:=hid hw6;clear hw6 hg6 HMn6;rw[←HW5.out, ←HW6.out];have HOn0:=hid (OwnN.nil w6 (DG E.heap.size 0));have HKL:=hid (zr (op:=1) (ln:=qd X.l p) (s:=⟨#[]⟩) (k:=tk.k) (n:=wrap64 (-tk.n)) (t:=tk.t) (by decide) (by decide));refine(IH.out.behind F (Nat.le_refl _) 1 (qd X.l p) ⟨#[]⟩ tk.k (wrap64 (-tk.n)) tk.t sa sc (.slice none 0 0) .nil (DG E.heap.size 0) w6 _ _ O.out.st (by first|omega|(simp<;>omega)) (by first|omega|(simp<;>omega)) HOn0.out (fun k hk=>by have:=hk.1;omega) (fun k hk=>⟨by omega,by omega⟩) HKL.out (Nat.zero_le _) HQ1.out).mono ?_;rintro e7 w7 ⟨op7,ln7,t7,k7,m7,u7,va7,vc7,V7,sub7,hn7,rfl,B,R,hk7,hl7,hd7⟩;obtain⟨A7,cc7,rfl⟩:=R.form;have hn7:n1=nd op7 ln7 t7 k7 m7 u7 sub7:=hn7;subst hn7;have hk7:=hid hk7;have hd7:Z.deep=p.deep+0:=by have h:Z.deep=(qb (qb p)).deep:=hd7;(try simp at h);omega
   have HM7:=hid (O.out.trans B);have hs7:=B.grown.size;have a:=hid (NdB.grown d.out B.grown (show X.P<w.heap.size by omega));have HBn7:=hid (NdB.grown HBn6.out B.grown (show X.P<w2.heap.size by omega));have HO7:=hid R;clear B R;unfold qN;have c2_0:=a.out.c0;have f2_0:=a.out.fr 0;have c2_1:=a.out.c1;have f2_1:=a.out.fr 1;have c2_2:=a.out.c2;have f2_2:=a.out.fr 2;have c2_3:=a.out.c3;have f2_3:=a.out.fr 3;have c2_4:=a.out.c4;have f2_4:=a.out.fr 4;have c2_5:=a.out.c5;have f2_5:=a.out.fr 5;have c2_6:=a.out.c6;have f2_6:=a.out.fr 6;have c2_7:=a.out.c7;have f2_7:=a.out.fr 7;go_wp2_with fail
   have HRR:=hid (rfl:(nd op7 ln7 t7 k7 m7 u7 sub7,Z)=(nd op7 ln7 t7 k7 m7 u7 sub7,Z));refine ql Tryz.results146 w.heap.size rfl rfl (a.out.set8 _ _ _ _ _ _ _ _) ?_;exact PNd.mk op7 ln7 t7 k7 m7 u7 va7 vc7 _ sub7 _ HRR.out (HM7.out.node a.out (by omega) (by omega) (qe _ _ _ _ _ _ _ _ _ _)) (qC HO7.out (by omega) (qe _ _ _ _ _ _ _ _ _ _) (by omega)) hk7.out (by omega) (by first|omega|(simp<;>omega))
  |false=>
   rw[hi]at hr;have HI:=hid hi;clear hi;replace hr:(if(qh (qb p)).err.isNone then(qa X.l F .one (qh (qb p))).bind fun(x,Z)=>some (ndL 3 (qd X.l p) x,qu Z)else some (ndL 3 (qd X.l p) .nil,qu (qh (qb p))))=some r:=hr
   cases hd:(qh (qb p)).err.isNone with
   |false=>
    rw[hd]at hr;have HD:=hid hd;clear hd;replace hr:some (ndL 3 (qd X.l p) .nil,qu (qh (qb p)))=some r:=hr;have HRR:=hid (show r=(ndL 3 (qd X.l p) .nil,qu (qh (qb p)))from(Option.some.inj hr).symm);clear hr;obtain⟨E,f⟩: ∃E,E=(w).alloc (.cells #[.int .i64 0,.int .i64 0,.string ⟨#[]⟩,.int .i64 0,.int .i64 0,.string ⟨#[]⟩,.slice none 0 0,.slice none 0 0] 31):=⟨_,rfl⟩
    have M:=hid (show Mvd w E X p by rw[f];exact((Mvd.of hst).alloc _));have hsa:E.heap.size=w.heap.size+1:=by rw[f];simp
    have HZr:=hid (show zN E w.heap.size by rw[f];exact(zN.new w));have HWA:=hid f;clear f;go_enter Tryz.func146,Tryz.ntmps146
    go_wp2_with fail
    rw[←HWA.out];refine(qO M.out.st).mono ?_;rintro e1 w1 ⟨rfl,q⟩;have K:=hid (M.out.trans q);have hs1:=q.grown.size;have G:=hid (NdB.grown HZr.out q.grown (show X.P<w.heap.size by omega));clear q;go_wp2_with fail
    refine(QF K.out.st (s:=⟨#[45]⟩) (L:= [45]) rfl HB.out).mono ?_;rintro e2 w2 ⟨rfl,v⟩;have C:=hid (K.out.trans v);have hs2:=v.grown.size;have H:=hid (NdB.grown G.out v.grown (show X.P<w.heap.size by omega));clear v;obtain⟨ev,hP,hE⟩:=C.out.st.at_;have c1:=hP.c1;clear hP hE;go_wp2_with fail
    refine(QD (p.pos+1) C.out.st HI.out (by omega)).mono ?_;rintro e3 w3 ⟨rfl,rfl⟩;clear c1;go_wp2_with fail
    refine(za C.out.st (s:=⟨#[45]⟩) (L:= [45]) rfl HB.out).mono ?_;rintro e4 w4 ⟨rfl,D⟩;have HM4:=hid (C.out.trans D);have hs4:=D.grown.size;have I:=hid (NdB.grown H.out D.grown (show X.P<w.heap.size by omega));clear D;obtain⟨w5,y⟩: ∃w5,w5=(w4.alloc (.cells #[.int .i64 3,.int .i64 (qd X.l p),.string ⟨#[]⟩,.int .i64 0,.int .i64 0,.string ⟨#[]⟩,.slice none 0 0,.slice none 0 0] 31)):=⟨_,rfl⟩
    have Q:Below w4.heap.size w4 w5:=by rw[y];exact((Below.refl _ _).alloc (Nat.le_refl _) _)
    have HBo5:=hid (show NdB w5 w4.heap.size (.int .i64 3) (.int .i64 (qd X.l p)) (.string ⟨#[]⟩) (.int .i64 0) (.int .i64 0) (.string ⟨#[]⟩) (.slice none 0 0) (.slice none 0 0)by rw[y];exact NdB.new _ _ _ _ _ _ _ _ _);have hs5:w5.heap.size=w4.heap.size+1:=by rw[y];simp
    have N:=hid (HM4.out.below Q);have J:=hid (I.out.below' Q);have HW5:=hid y;clear y Q;go_wp2_with fail
    rw[←HW5.out];have HOo0:=hid (OwnN.nil w5 (DG w5.heap.size w4.heap.size));refine(xr N.out.st (by first|omega|(simp<;>omega)) (by first|omega|(simp<;>omega)) HD.out).mono ?_;rintro e6 w6 ⟨rfl,i⟩;have O:=hid (N.out.trans i);have hs6:=i.grown.size;have d:=hid (NdB.grown J.out i.grown (show X.P<w.heap.size by omega));have S:=hid (NdB.grown HBo5.out i.grown (show X.P<w4.heap.size by omega));have T:=hid (OwnN.grown HOo0.out i.grown (DG.not (by omega)));clear i;go_wp2_with fail
    refine(je X _ _ O.out.st (by first|omega|(simp<;>omega)) (by first|omega|(simp<;>omega))).mono ?_;rintro e7 w7 ⟨rfl,B⟩;have HM7:=hid (O.out.trans B);have hs7:=B.grown.size;have a:=hid (NdB.grown d.out B.grown (show X.P<w.heap.size by omega));have j:=hid (NdB.grown S.out B.grown (show X.P<w4.heap.size by omega));have HOo7:=hid (OwnN.grown T.out B.grown (DG.not (by omega)));clear B;have c1_0:=j.out.c0;have c1_1:=j.out.c1;have c1_2:=j.out.c2;have c1_3:=j.out.c3;have c1_4:=j.out.c4;have c1_5:=j.out.c5;have c1_6:=j.out.c6;have c1_7:=j.out.c7;have c2_0:=a.out.c0;have f2_0:=a.out.fr 0;have c2_1:=a.out.c1;have f2_1:=a.out.fr 1;have c2_2:=a.out.c2;have f2_2:=a.out.fr 2;have c2_3:=a.out.c3;have f2_3:=a.out.fr 3;have c2_4:=a.out.c4;have f2_4:=a.out.fr 4;have c2_5:=a.out.c5;have f2_5:=a.out.fr 5;have c2_6:=a.out.c6;have f2_6:=a.out.fr 6;have c2_7:=a.out.c7;have f2_7:=a.out.fr 7;go_wp2_with fail
    refine ql Tryz.results146 w.heap.size rfl rfl (a.out.set8 _ _ _ _ _ _ _ _) ?_;exact PNd.mk 3 (qd X.l p) ⟨#[]⟩ 0 0 ⟨#[]⟩ none 0 _ NL.nil _ HRR.out (HM7.out.node a.out (by omega) (by omega) (qe _ _ _ _ _ _ _ _ _ _)) (qC HOo7.out (by omega) (qe _ _ _ _ _ _ _ _ _ _) (by omega)) (zr (by decide) (by decide)) (Nat.zero_le _) (by first|omega|(simp<;>omega))
   |true=>
    rw[hd]at hr;have HD:=hid hd;have hle:=js hd;simp only[nextS_deep]at hle;clear hd;replace hr:((qa X.l F .one (qh (qb p))).bind fun(x,Z)=>some (ndL 3 (qd X.l p) x,qu Z))=some r:=hr
    cases Y:qa X.l F .one (qh (qb p))with
    |none=>rw[Y]at hr;cases hr
    |some q1=>
    obtain⟨n1,Z⟩:=q1;rw[Y]at hr;replace hr:some (ndL 3 (qd X.l p) n1,qu Z)=some r:=hr;have HQ1:=hid Y;clear Y;have HRR:=hid (show r=(ndL 3 (qd X.l p) n1,qu Z)from(Option.some.inj hr).symm);clear hr;obtain⟨E,f⟩: ∃E,E=(w).alloc (.cells #[.int .i64 0,.int .i64 0,.string ⟨#[]⟩,.int .i64 0,.int .i64 0,.string ⟨#[]⟩,.slice none 0 0,.slice none 0 0] 31):=⟨_,rfl⟩
    have M:=hid (show Mvd w E X p by rw[f];exact((Mvd.of hst).alloc _));have hsa:E.heap.size=w.heap.size+1:=by rw[f];simp
    have HZr:=hid (show zN E w.heap.size by rw[f];exact(zN.new w));have HWA:=hid f;clear f;go_enter Tryz.func146,Tryz.ntmps146
    go_wp2_with fail
    rw[←HWA.out];refine(qO M.out.st).mono ?_;rintro e1 w1 ⟨rfl,q⟩;have K:=hid (M.out.trans q);have hs1:=q.grown.size;have G:=hid (NdB.grown HZr.out q.grown (show X.P<w.heap.size by omega));clear q;go_wp2_with fail
    refine(QF K.out.st (s:=⟨#[45]⟩) (L:= [45]) rfl HB.out).mono ?_;rintro e2 w2 ⟨rfl,v⟩;have C:=hid (K.out.trans v);have hs2:=v.grown.size;have H:=hid (NdB.grown G.out v.grown (show X.P<w.heap.size by omega));clear v;obtain⟨ev,hP,hE⟩:=C.out.st.at_;have c1:=hP.c1;clear hP hE;go_wp2_with fail
    refine(QD (p.pos+1) C.out.st HI.out (by omega)).mono ?_;rintro e3 w3 ⟨rfl,rfl⟩;clear c1;go_wp2_with fail
    refine(za C.out.st (s:=⟨#[45]⟩) (L:= [45]) rfl HB.out).mono ?_;rintro e4 w4 ⟨rfl,D⟩;have HM4:=hid (C.out.trans D);have hs4:=D.grown.size;have I:=hid (NdB.grown H.out D.grown (show X.P<w.heap.size by omega));clear D;obtain⟨w5,y⟩: ∃w5,w5=(w4.alloc (.cells #[.int .i64 3,.int .i64 (qd X.l p),.string ⟨#[]⟩,.int .i64 0,.int .i64 0,.string ⟨#[]⟩,.slice none 0 0,.slice none 0 0] 31)):=⟨_,rfl⟩
    have Q:Below w4.heap.size w4 w5:=by rw[y];exact((Below.refl _ _).alloc (Nat.le_refl _) _)
    have HBo5:=hid (show NdB w5 w4.heap.size (.int .i64 3) (.int .i64 (qd X.l p)) (.string ⟨#[]⟩) (.int .i64 0) (.int .i64 0) (.string ⟨#[]⟩) (.slice none 0 0) (.slice none 0 0)by rw[y];exact NdB.new _ _ _ _ _ _ _ _ _);have hs5:w5.heap.size=w4.heap.size+1:=by rw[y];simp
    have N:=hid (HM4.out.below Q);have J:=hid (I.out.below' Q);have HW5:=hid y;clear y Q;go_wp2_with fail
    rw[←HW5.out];have HOo0:=hid (OwnN.nil w5 (DG w5.heap.size w4.heap.size));refine(jJ N.out.st (by first|omega|(simp<;>omega)) (by first|omega|(simp<;>omega)) HD.out).mono ?_;rintro e6 w6 ⟨rfl,i⟩;have O:=hid (N.out.trans i);have hs6:=i.grown.size;have d:=hid (NdB.grown J.out i.grown (show X.P<w.heap.size by omega));have S:=hid (NdB.grown HBo5.out i.grown (show X.P<w4.heap.size by omega));have T:=hid (OwnN.grown HOo0.out i.grown (DG.not (by omega)));clear i;go_upto_region 15 with fail
    go_cut [] (fun wx7=>zC X w w6 Z w5.heap.size w4.heap.size (.int .i64 3) (.int .i64 (qd X.l p)) (.string ⟨#[]⟩) (.int .i64 0) (.int .i64 0) (.string ⟨#[]⟩) (.slice none 0 0) NL.nil n1 1 (p.deep+1) wx7)
    case first=>
     have c7:=S.out.c7;have vlt:=hid (fun g (hg:(.slice none 0 0:Value).ownBlock=some g)=>(T.out.ge g hg).2);have EXC:=hid (fun W (hW:PSt W X (qh (qb p)))=>IH.out.one F (Nat.le_refl _) W _ _ hW (by first|omega|(simp<;>omega)) (by first|omega|(simp<;>omega)) HQ1.out);have HSD:=hid (show PSt w6.drew X (qh (qb p))from O.out.st.below (Below.drew (Below.refl _ _)));have HMD:=hid (show Mvd w w6.drew X (qh (qb p))from O.out.drew)
     go_region_law
      (first
       |(refine qy (by rfl) (.tmp 67) (.tmp 70) 29 (by rfl) Tryz.underlying29 hi0 hz0 hz1 hz2 (by rfl) (by rfl) APP.out.1 (by rfl) (by rfl) APP.out.2 (fun e=>by cases e) (by first|(simp only[qg];omega)|(simp only[NL.len_app,qg];omega)|(simp only[qg,NL.len];omega)|(simp only[NL.len_app,qg,NL.len];omega)) (by refine⟨?_,?_⟩<;>(rw[World.size_alloc];omega)) ?_
         intro A9 c9 w9 hown9 hg9 hob9;have k7:w9.cell? ⟨w4.heap.size,7,none⟩=some (.slice none 0 0):=((HN.out.alloc _).app hg9 (fun e=>(HO.out.ge _ e).1.2 rfl)).c7
         have j7:w9.frozen? ⟨w4.heap.size,7,none⟩=false:=((HN.out.alloc _).app hg9 (fun e=>(HO.out.ge _ e).1.2 rfl)).fr 7)
       |(go_simp;go_at_call 146;refine(EXC.out _ HSD.out).mono ?_
         rintro e9 w8 ⟨op,ln,t,k,m,u,va,vc,V,sub,hn,rfl,hm,ho,hk,hl,hd⟩;obtain⟨A8,c8,rfl⟩:=ho.form;have hn':n1=nd op ln t k m u sub:=hn;have HK:=hid (show qQ n1∧(n1).len≤1 from⟨hk,by rw[hn',qg];exact Nat.le_refl _⟩);have HNN:=hid hn';have HDD:=hid (show Z.deep=p.deep+1 by have h:Z.deep=(qh (qb p)).deep:=hd;(try simp at h);omega);have HG:=hid (show w6.grownBy w8 (some X.P)from⟨hm.grown.os,hm.grown.tape,hm.grown.output,hm.grown.size,hm.grown.block⟩);have HM:=hid (HMD.out.trans hm);have hs8:w6.heap.size≤w8.heap.size:=hm.grown.size;have HN:=hid (NdB.grown (w:=w6) S.out HG.out (show X.P<w4.heap.size by omega));have HO:=hid (OwnN.grown (w:=w6) T.out HG.out (DG.not (by omega)));have APP:=hid (jH HO.out ho op ln t k m u va vc (by show _≤w6.heap.size;omega) (by show _<w6.heap.size;omega) (by show w6.heap.size≤_;omega) vlt.out);have c7_8:=HN.out.c7;have c7_9:=fun o=>qq c7_8 o;clear hn hn' hm ho hk hl hd
         unfold qN))
     all_goals
      go_wp2_with fail
      go_meet
      exact jq HG.out HM.out HN.out HO.out (by omega) (by omega) (by omega) (by omega) (by rw[HNN.out];exact hown9) hg9 HK.out.2 HK.out.1 HDD.out
    case rest=>
     obtain⟨V7,B,hd7,hn7,R,hx7,hk7,hs7,hf7⟩:=hcut;replace R:OwnN wc (DG w5.heap.size w4.heap.size) V7 n1:=R;obtain⟨A7,c7,rfl⟩:=R.form;have HM7:=hid B;have j:=hid hn7;have HOo7:=hid R;have HX7:=hid hk7;have a:=hid (hf7 _ _ _ _ _ _ _ _ _ (by omega) (by omega) (by omega) d.out);clear B hn7 R hk7 hf7;go_wp2_with fail
     refine(je X _ _ HM7.out.st (by first|omega|(simp<;>omega)) (by first|omega|(simp<;>omega))).mono ?_;rintro e8 w8 ⟨rfl,hm8⟩;have HM8:=hid (HM7.out.trans hm8);have hs8:=hm8.grown.size;have b:=hid (NdB.grown a.out hm8.grown (show X.P<w.heap.size by omega));have A:=hid (NdB.grown j.out hm8.grown (show X.P<w4.heap.size by omega));have HOo8:=hid (OwnN.grown HOo7.out hm8.grown (DG.not (by omega)));clear hm8;have c1_0:=A.out.c0;have c1_1:=A.out.c1;have c1_2:=A.out.c2;have c1_3:=A.out.c3;have c1_4:=A.out.c4;have c1_5:=A.out.c5;have c1_6:=A.out.c6;have c1_7:=A.out.c7;have c2_0:=b.out.c0;have f2_0:=b.out.fr 0;have c2_1:=b.out.c1;have f2_1:=b.out.fr 1;have c2_2:=b.out.c2;have f2_2:=b.out.fr 2;have c2_3:=b.out.c3;have f2_3:=b.out.fr 3;have c2_4:=b.out.c4;have f2_4:=b.out.fr 4;have c2_5:=b.out.c5;have f2_5:=b.out.fr 5;have c2_6:=b.out.c6;have f2_6:=b.out.fr 6;have c2_7:=b.out.c7;have f2_7:=b.out.fr 7;go_wp2_with fail
     refine ql Tryz.results146 w.heap.size rfl rfl (b.out.set8 _ _ _ _ _ _ _ _) ?_;exact PNd.mk 3 (qd X.l p) ⟨#[]⟩ 0 0 ⟨#[]⟩ none 0 _ n1 _ HRR.out (HM8.out.node b.out (by omega) (by omega) (qe _ _ _ _ _ _ _ _ _ _)) (qC HOo8.out (by omega) (qe _ _ _ _ _ _ _ _ _ _) (by omega)) (qX HX7.out (fun h=>by rcases h with h|h<;>cases h)) (by omega) (by first|omega|(simp<;>omega))
 |false=>
  rw[hb]at hr;clear hlt0;have HB:=hid hb;clear hb
  cases hx:qj X.l p [33]with
  |true=>
   rw[hx]at hr;have HX:=hid hx;clear hx;replace hr:(if(qh (qb p)).err.isNone then(qa X.l F .one (qh (qb p))).bind fun(x,Z)=>some (ndL 4 (qd X.l p) x,qu Z)else some (ndL 4 (qd X.l p) .nil,qu (qh (qb p))))=some r:=hr
   cases hd:(qh (qb p)).err.isNone with
   |false=>
    rw[hd]at hr;have HD:=hid hd;clear hd;replace hr:some (ndL 4 (qd X.l p) .nil,qu (qh (qb p)))=some r:=hr;have HRR:=hid (show r=(ndL 4 (qd X.l p) .nil,qu (qh (qb p)))from(Option.some.inj hr).symm);clear hr;obtain⟨E,f⟩: ∃E,E=(w).alloc (.cells #[.int .i64 0,.int .i64 0,.string ⟨#[]⟩,.int .i64 0,.int .i64 0,.string ⟨#[]⟩,.slice none 0 0,.slice none 0 0] 31):=⟨_,rfl⟩
    have M:=hid (show Mvd w E X p by rw[f];exact((Mvd.of hst).alloc _));have hsa:E.heap.size=w.heap.size+1:=by rw[f];simp
    have HZr:=hid (show zN E w.heap.size by rw[f];exact(zN.new w));have HWA:=hid f;clear f;go_enter Tryz.func146,Tryz.ntmps146
    go_wp2_with fail
    rw[←HWA.out];refine(qO M.out.st).mono ?_;rintro e1 w1 ⟨rfl,q⟩;have K:=hid (M.out.trans q);have hs1:=q.grown.size;have G:=hid (NdB.grown HZr.out q.grown (show X.P<w.heap.size by omega));clear q;go_wp2_with fail
    refine(ZE K.out.st (s:=⟨#[45]⟩) (L:= [45]) rfl HB.out).mono ?_;rintro e2 w2 ⟨rfl,v⟩;have C:=hid (K.out.trans v);have hs2:=v.grown.size;have H:=hid (NdB.grown G.out v.grown (show X.P<w.heap.size by omega));clear v;go_wp2_with fail
    refine(qr C.out.st (s:=⟨#[45]⟩) (L:= [45]) rfl HB.out).mono ?_;rintro e3 w3 ⟨rfl,U⟩;have HM3:=hid (C.out.trans U);have hs3:=U.grown.size;have HBr3:=hid (NdB.grown H.out U.grown (show X.P<w.heap.size by omega));clear U;go_wp2_with fail
    refine(za HM3.out.st (s:=⟨#[33]⟩) (L:= [33]) rfl HX.out).mono ?_;rintro e4 w4 ⟨rfl,D⟩;have HM4:=hid (HM3.out.trans D);have hs4:=D.grown.size;have I:=hid (NdB.grown HBr3.out D.grown (show X.P<w.heap.size by omega));clear D;obtain⟨w5,y⟩: ∃w5,w5=(w4.alloc (.cells #[.int .i64 4,.int .i64 (qd X.l p),.string ⟨#[]⟩,.int .i64 0,.int .i64 0,.string ⟨#[]⟩,.slice none 0 0,.slice none 0 0] 31)):=⟨_,rfl⟩
    have Q:Below w4.heap.size w4 w5:=by rw[y];exact((Below.refl _ _).alloc (Nat.le_refl _) _)
    have HBo5:=hid (show NdB w5 w4.heap.size (.int .i64 4) (.int .i64 (qd X.l p)) (.string ⟨#[]⟩) (.int .i64 0) (.int .i64 0) (.string ⟨#[]⟩) (.slice none 0 0) (.slice none 0 0)by rw[y];exact NdB.new _ _ _ _ _ _ _ _ _);have hs5:w5.heap.size=w4.heap.size+1:=by rw[y];simp
    have N:=hid (HM4.out.below Q);have J:=hid (I.out.below' Q);have HW5:=hid y;clear y Q;go_wp2_with fail
    rw[←HW5.out];have HOo0:=hid (OwnN.nil w5 (DG w5.heap.size w4.heap.size));refine(xr N.out.st (by first|omega|(simp<;>omega)) (by first|omega|(simp<;>omega)) HD.out).mono ?_;rintro e6 w6 ⟨rfl,i⟩;have O:=hid (N.out.trans i);have hs6:=i.grown.size;have d:=hid (NdB.grown J.out i.grown (show X.P<w.heap.size by omega));have S:=hid (NdB.grown HBo5.out i.grown (show X.P<w4.heap.size by omega));have T:=hid (OwnN.grown HOo0.out i.grown (DG.not (by omega)));clear i;go_wp2_with fail
    refine(je X _ _ O.out.st (by first|omega|(simp<;>omega)) (by first|omega|(simp<;>omega))).mono ?_;rintro e7 w7 ⟨rfl,B⟩;have HM7:=hid (O.out.trans B);have hs7:=B.grown.size;have a:=hid (NdB.grown d.out B.grown (show X.P<w.heap.size by omega));have j:=hid (NdB.grown S.out B.grown (show X.P<w4.heap.size by omega));have HOo7:=hid (OwnN.grown T.out B.grown (DG.not (by omega)));clear B;have c1_0:=j.out.c0;have c1_1:=j.out.c1;have c1_2:=j.out.c2;have c1_3:=j.out.c3;have c1_4:=j.out.c4;have c1_5:=j.out.c5;have c1_6:=j.out.c6;have c1_7:=j.out.c7;have c2_0:=a.out.c0;have f2_0:=a.out.fr 0;have c2_1:=a.out.c1;have f2_1:=a.out.fr 1;have c2_2:=a.out.c2;have f2_2:=a.out.fr 2;have c2_3:=a.out.c3;have f2_3:=a.out.fr 3;have c2_4:=a.out.c4;have f2_4:=a.out.fr 4;have c2_5:=a.out.c5;have f2_5:=a.out.fr 5;have c2_6:=a.out.c6;have f2_6:=a.out.fr 6;have c2_7:=a.out.c7;have f2_7:=a.out.fr 7;go_wp2_with fail
    refine ql Tryz.results146 w.heap.size rfl rfl (a.out.set8 _ _ _ _ _ _ _ _) ?_;exact PNd.mk 4 (qd X.l p) ⟨#[]⟩ 0 0 ⟨#[]⟩ none 0 _ NL.nil _ HRR.out (HM7.out.node a.out (by omega) (by omega) (qe _ _ _ _ _ _ _ _ _ _)) (qC HOo7.out (by omega) (qe _ _ _ _ _ _ _ _ _ _) (by omega)) (zr (by decide) (by decide)) (Nat.zero_le _) (by first|omega|(simp<;>omega))
   |true=>
    rw[hd]at hr;have HD:=hid hd;have hle:=js hd;simp only[nextS_deep]at hle;clear hd;replace hr:((qa X.l F .one (qh (qb p))).bind fun(x,Z)=>some (ndL 4 (qd X.l p) x,qu Z))=some r:=hr
    cases Y:qa X.l F .one (qh (qb p))with
    |none=>rw[Y]at hr;cases hr
    |some q1=>
    obtain⟨n1,Z⟩:=q1;rw[Y]at hr;replace hr:some (ndL 4 (qd X.l p) n1,qu Z)=some r:=hr;have HQ1:=hid Y;clear Y;have HRR:=hid (show r=(ndL 4 (qd X.l p) n1,qu Z)from(Option.some.inj hr).symm);clear hr;obtain⟨E,f⟩: ∃E,E=(w).alloc (.cells #[.int .i64 0,.int .i64 0,.string ⟨#[]⟩,.int .i64 0,.int .i64 0,.string ⟨#[]⟩,.slice none 0 0,.slice none 0 0] 31):=⟨_,rfl⟩
    have M:=hid (show Mvd w E X p by rw[f];exact((Mvd.of hst).alloc _));have hsa:E.heap.size=w.heap.size+1:=by rw[f];simp
    have HZr:=hid (show zN E w.heap.size by rw[f];exact(zN.new w));have HWA:=hid f;clear f;go_enter Tryz.func146,Tryz.ntmps146
    go_wp2_with fail
    rw[←HWA.out];refine(qO M.out.st).mono ?_;rintro e1 w1 ⟨rfl,q⟩;have K:=hid (M.out.trans q);have hs1:=q.grown.size;have G:=hid (NdB.grown HZr.out q.grown (show X.P<w.heap.size by omega));clear q;go_wp2_with fail
    refine(ZE K.out.st (s:=⟨#[45]⟩) (L:= [45]) rfl HB.out).mono ?_;rintro e2 w2 ⟨rfl,v⟩;have C:=hid (K.out.trans v);have hs2:=v.grown.size;have H:=hid (NdB.grown G.out v.grown (show X.P<w.heap.size by omega));clear v;go_wp2_with fail
    refine(qr C.out.st (s:=⟨#[45]⟩) (L:= [45]) rfl HB.out).mono ?_;rintro e3 w3 ⟨rfl,U⟩;have HM3:=hid (C.out.trans U);have hs3:=U.grown.size;have HBr3:=hid (NdB.grown H.out U.grown (show X.P<w.heap.size by omega));clear U;go_wp2_with fail
    refine(za HM3.out.st (s:=⟨#[33]⟩) (L:= [33]) rfl HX.out).mono ?_;rintro e4 w4 ⟨rfl,D⟩;have HM4:=hid (HM3.out.trans D);have hs4:=D.grown.size;have I:=hid (NdB.grown HBr3.out D.grown (show X.P<w.heap.size by omega));clear D;obtain⟨w5,y⟩: ∃w5,w5=(w4.alloc (.cells #[.int .i64 4,.int .i64 (qd X.l p),.string ⟨#[]⟩,.int .i64 0,.int .i64 0,.string ⟨#[]⟩,.slice none 0 0,.slice none 0 0] 31)):=⟨_,rfl⟩
    have Q:Below w4.heap.size w4 w5:=by rw[y];exact((Below.refl _ _).alloc (Nat.le_refl _) _)
    have HBo5:=hid (show NdB w5 w4.heap.size (.int .i64 4) (.int .i64 (qd X.l p)) (.string ⟨#[]⟩) (.int .i64 0) (.int .i64 0) (.string ⟨#[]⟩) (.slice none 0 0) (.slice none 0 0)by rw[y];exact NdB.new _ _ _ _ _ _ _ _ _);have hs5:w5.heap.size=w4.heap.size+1:=by rw[y];simp
    have N:=hid (HM4.out.below Q);have J:=hid (I.out.below' Q);have HW5:=hid y;clear y Q;go_wp2_with fail
    rw[←HW5.out];have HOo0:=hid (OwnN.nil w5 (DG w5.heap.size w4.heap.size));refine(jJ N.out.st (by first|omega|(simp<;>omega)) (by first|omega|(simp<;>omega)) HD.out).mono ?_;rintro e6 w6 ⟨rfl,i⟩;have O:=hid (N.out.trans i);have hs6:=i.grown.size;have d:=hid (NdB.grown J.out i.grown (show X.P<w.heap.size by omega));have S:=hid (NdB.grown HBo5.out i.grown (show X.P<w4.heap.size by omega));have T:=hid (OwnN.grown HOo0.out i.grown (DG.not (by omega)));clear i;go_upto_region 15 with fail
    go_cut [] (fun wx7=>zC X w w6 Z w5.heap.size w4.heap.size (.int .i64 4) (.int .i64 (qd X.l p)) (.string ⟨#[]⟩) (.int .i64 0) (.int .i64 0) (.string ⟨#[]⟩) (.slice none 0 0) NL.nil n1 1 (p.deep+1) wx7)
    case first=>
     have c7:=S.out.c7;have vlt:=hid (fun g (hg:(.slice none 0 0:Value).ownBlock=some g)=>(T.out.ge g hg).2);have EXC:=hid (fun W (hW:PSt W X (qh (qb p)))=>IH.out.one F (Nat.le_refl _) W _ _ hW (by first|omega|(simp<;>omega)) (by first|omega|(simp<;>omega)) HQ1.out);have HSD:=hid (show PSt w6.drew X (qh (qb p))from O.out.st.below (Below.drew (Below.refl _ _)));have HMD:=hid (show Mvd w w6.drew X (qh (qb p))from O.out.drew)
     go_region_law
      (first
       |(refine qy (by rfl) (.tmp 67) (.tmp 70) 29 (by rfl) Tryz.underlying29 hi0 hz0 hz1 hz2 (by rfl) (by rfl) APP.out.1 (by rfl) (by rfl) APP.out.2 (fun e=>by cases e) (by first|(simp only[qg];omega)|(simp only[NL.len_app,qg];omega)|(simp only[qg,NL.len];omega)|(simp only[NL.len_app,qg,NL.len];omega)) (by refine⟨?_,?_⟩<;>(rw[World.size_alloc];omega)) ?_
         intro A9 c9 w9 hown9 hg9 hob9;have k7:w9.cell? ⟨w4.heap.size,7,none⟩=some (.slice none 0 0):=((HN.out.alloc _).app hg9 (fun e=>(HO.out.ge _ e).1.2 rfl)).c7
         have j7:w9.frozen? ⟨w4.heap.size,7,none⟩=false:=((HN.out.alloc _).app hg9 (fun e=>(HO.out.ge _ e).1.2 rfl)).fr 7)
       |(go_simp;go_at_call 146;refine(EXC.out _ HSD.out).mono ?_
         rintro e9 w8 ⟨op,ln,t,k,m,u,va,vc,V,sub,hn,rfl,hm,ho,hk,hl,hd⟩;obtain⟨A8,c8,rfl⟩:=ho.form;have hn':n1=nd op ln t k m u sub:=hn;have HK:=hid (show qQ n1∧(n1).len≤1 from⟨hk,by rw[hn',qg];exact Nat.le_refl _⟩);have HNN:=hid hn';have HDD:=hid (show Z.deep=p.deep+1 by have h:Z.deep=(qh (qb p)).deep:=hd;(try simp at h);omega);have HG:=hid (show w6.grownBy w8 (some X.P)from⟨hm.grown.os,hm.grown.tape,hm.grown.output,hm.grown.size,hm.grown.block⟩);have HM:=hid (HMD.out.trans hm);have hs8:w6.heap.size≤w8.heap.size:=hm.grown.size;have HN:=hid (NdB.grown (w:=w6) S.out HG.out (show X.P<w4.heap.size by omega));have HO:=hid (OwnN.grown (w:=w6) T.out HG.out (DG.not (by omega)));have APP:=hid (jH HO.out ho op ln t k m u va vc (by show _≤w6.heap.size;omega) (by show _<w6.heap.size;omega) (by show w6.heap.size≤_;omega) vlt.out);have c7_8:=HN.out.c7;have c7_9:=fun o=>qq c7_8 o;clear hn hn' hm ho hk hl hd
         unfold qN))
     all_goals
      go_wp2_with fail
      go_meet
      exact jq HG.out HM.out HN.out HO.out (by omega) (by omega) (by omega) (by omega) (by rw[HNN.out];exact hown9) hg9 HK.out.2 HK.out.1 HDD.out
    case rest=>
     obtain⟨V7,B,hd7,hn7,R,hx7,hk7,hs7,hf7⟩:=hcut;replace R:OwnN wc (DG w5.heap.size w4.heap.size) V7 n1:=R;obtain⟨A7,c7,rfl⟩:=R.form;have HM7:=hid B;have j:=hid hn7;have HOo7:=hid R;have HX7:=hid hk7;have a:=hid (hf7 _ _ _ _ _ _ _ _ _ (by omega) (by omega) (by omega) d.out);clear B hn7 R hk7 hf7;go_wp2_with fail
     refine(je X _ _ HM7.out.st (by first|omega|(simp<;>omega)) (by first|omega|(simp<;>omega))).mono ?_;rintro e8 w8 ⟨rfl,hm8⟩;have HM8:=hid (HM7.out.trans hm8);have hs8:=hm8.grown.size;have b:=hid (NdB.grown a.out hm8.grown (show X.P<w.heap.size by omega));have A:=hid (NdB.grown j.out hm8.grown (show X.P<w4.heap.size by omega));have HOo8:=hid (OwnN.grown HOo7.out hm8.grown (DG.not (by omega)));clear hm8;have c1_0:=A.out.c0;have c1_1:=A.out.c1;have c1_2:=A.out.c2;have c1_3:=A.out.c3;have c1_4:=A.out.c4;have c1_5:=A.out.c5;have c1_6:=A.out.c6;have c1_7:=A.out.c7;have c2_0:=b.out.c0;have f2_0:=b.out.fr 0;have c2_1:=b.out.c1;have f2_1:=b.out.fr 1;have c2_2:=b.out.c2;have f2_2:=b.out.fr 2;have c2_3:=b.out.c3;have f2_3:=b.out.fr 3;have c2_4:=b.out.c4;have f2_4:=b.out.fr 4;have c2_5:=b.out.c5;have f2_5:=b.out.fr 5;have c2_6:=b.out.c6;have f2_6:=b.out.fr 6;have c2_7:=b.out.c7;have f2_7:=b.out.fr 7;go_wp2_with fail
     refine ql Tryz.results146 w.heap.size rfl rfl (b.out.set8 _ _ _ _ _ _ _ _) ?_;exact PNd.mk 4 (qd X.l p) ⟨#[]⟩ 0 0 ⟨#[]⟩ none 0 _ n1 _ HRR.out (HM8.out.node b.out (by omega) (by omega) (qe _ _ _ _ _ _ _ _ _ _)) (qC HOo8.out (by omega) (qe _ _ _ _ _ _ _ _ _ _) (by omega)) (qX HX7.out (fun h=>by rcases h with h|h<;>cases h)) (by omega) (by first|omega|(simp<;>omega))
  |false=>
   rw[hx]at hr;have HX:=hid hx;clear hx;replace hr:((qa X.l F .first p).bind fun(n,p)=>qa X.l F (.behind n) p)=some r:=hr
   cases Y:qa X.l F .first p with
   |none=>rw[Y]at hr;cases hr
   |some q1=>
   obtain⟨n1,Z⟩:=q1;rw[Y]at hr;replace hr:qa X.l F (.behind n1) Z=some r:=hr;have HQ1:=hid Y;clear Y;have HQ2:=hid hr;clear hr;obtain⟨n2,p2⟩:=r;obtain⟨E,f⟩: ∃E,E=(w).alloc (.cells #[.int .i64 0,.int .i64 0,.string ⟨#[]⟩,.int .i64 0,.int .i64 0,.string ⟨#[]⟩,.slice none 0 0,.slice none 0 0] 31):=⟨_,rfl⟩
   have M:=hid (show Mvd w E X p by rw[f];exact((Mvd.of hst).alloc _));have hsa:E.heap.size=w.heap.size+1:=by rw[f];simp
   have HZr:=hid (show zN E w.heap.size by rw[f];exact(zN.new w));have HWA:=hid f;clear f;go_enter Tryz.func146,Tryz.ntmps146
   go_wp2_with fail
   rw[←HWA.out];refine(qO M.out.st).mono ?_;rintro e1 w1 ⟨rfl,q⟩;have K:=hid (M.out.trans q);have hs1:=q.grown.size;have G:=hid (NdB.grown HZr.out q.grown (show X.P<w.heap.size by omega));clear q;go_wp2_with fail
   refine(ZE K.out.st (s:=⟨#[45]⟩) (L:= [45]) rfl HB.out).mono ?_;rintro e2 w2 ⟨rfl,v⟩;have C:=hid (K.out.trans v);have hs2:=v.grown.size;have H:=hid (NdB.grown G.out v.grown (show X.P<w.heap.size by omega));clear v;go_wp2_with fail
   refine(qr C.out.st (s:=⟨#[45]⟩) (L:= [45]) rfl HB.out).mono ?_;rintro e3 w3 ⟨rfl,U⟩;have HM3:=hid (C.out.trans U);have hs3:=U.grown.size;have HBr3:=hid (NdB.grown H.out U.grown (show X.P<w.heap.size by omega));clear U;go_wp2_with fail
   refine(qr HM3.out.st (s:=⟨#[33]⟩) (L:= [33]) rfl HX.out).mono ?_;rintro e4 w4 ⟨rfl,D⟩;have HM4:=hid (HM3.out.trans D);have hs4:=D.grown.size;have I:=hid (NdB.grown HBr3.out D.grown (show X.P<w.heap.size by omega));clear D;go_wp2_with fail
   refine(IH.out.first F (Nat.le_refl _) w4 _ _ HM4.out.st (by first|omega|(simp<;>omega)) (by first|omega|(simp<;>omega)) HQ1.out).mono ?_;rintro e5 w5 ⟨op5,ln5,t5,k5,m5,u5,va5,vc5,V5,sub5,hn5,rfl,hm5,ho5,hk5,hl5,hd5⟩;obtain⟨A5,cc5,rfl⟩:=ho5.form;have hn5:n1=nd op5 ln5 t5 k5 m5 u5 sub5:=hn5;subst hn5;have hk5:=hid hk5;have hd5:Z.deep=p.deep+0:=by have h:Z.deep=p.deep:=hd5;(try simp at h);omega
   have N:=hid (HM4.out.trans hm5);have hs5:=hm5.grown.size;have J:=hid (NdB.grown I.out hm5.grown (show X.P<w.heap.size by omega));have HO5:=hid (ho5.wide (D':=DG w4.heap.size 0) (fun k hk hk2=>⟨hk,by omega⟩));clear hm5 ho5;unfold qN;go_wp2_with fail
   refine(IH.out.behind F (Nat.le_refl _) op5 ln5 t5 k5 m5 u5 va5 vc5 (.slice A5 sub5.len cc5) sub5 (DG w4.heap.size 0) w5 _ _ N.out.st (by first|omega|(simp<;>omega)) (by first|omega|(simp<;>omega)) HO5.out (fun k hk=>by have:=hk.1;omega) (fun k hk=>⟨by omega,by omega⟩) hk5.out (by omega) HQ2.out).mono ?_;rintro e6 w6 ⟨op6,ln6,t6,k6,m6,u6,va6,vc6,V6,sub6,hn6,rfl,i,ho6,hk6,hl6,hd6⟩;obtain⟨A6,cc6,rfl⟩:=ho6.form;have hn6:n2=nd op6 ln6 t6 k6 m6 u6 sub6:=hn6;subst hn6;have hk6:=hid hk6;have hd6:p2.deep=p.deep+0:=by have h:p2.deep=Z.deep:=hd6;(try simp at h);omega
   have O:=hid (N.out.trans i);have hs6:=i.grown.size;have d:=hid (NdB.grown J.out i.grown (show X.P<w.heap.size by omega));have HOx56:=hid (OwnN.grown HO5.out i.grown (DG.not (by omega)));have HO6:=hid ho6;clear i ho6;unfold qN;have c1_0:=d.out.c0;have f1_0:=d.out.fr 0;have c1_1:=d.out.c1;have f1_1:=d.out.fr 1;have c1_2:=d.out.c2;have f1_2:=d.out.fr 2;have c1_3:=d.out.c3;have f1_3:=d.out.fr 3;have c1_4:=d.out.c4;have f1_4:=d.out.fr 4;have c1_5:=d.out.c5;have f1_5:=d.out.fr 5;have c1_6:=d.out.c6;have f1_6:=d.out.fr 6;have c1_7:=d.out.c7;have f1_7:=d.out.fr 7;go_wp2_with fail
   have HRR:=hid (rfl:(nd op6 ln6 t6 k6 m6 u6 sub6,p2)=(nd op6 ln6 t6 k6 m6 u6 sub6,p2));refine ql Tryz.results146 w.heap.size rfl rfl (d.out.set8 _ _ _ _ _ _ _ _) ?_;exact PNd.mk op6 ln6 t6 k6 m6 u6 va6 vc6 _ sub6 _ HRR.out (O.out.node d.out (by omega) (by omega) (qe _ _ _ _ _ _ _ _ _ _)) (qC HO6.out (by omega) (qe _ _ _ _ _ _ _ _ _ _) (by omega)) hk6.out (by omega) (by first|omega|(simp<;>omega))
def Qx:List (List UInt8×Int)→List Value
 | []=> []
 |x::l=> [.string ⟨x.1.toArray⟩,.int .i64 x.2]++Qx l
theorem Z8: ∀(l:List (List UInt8×Int)) (j:Nat) (x:List UInt8×Int),l[j]?=some x→(Qx l)[j*2]?=some (.string ⟨x.1.toArray⟩)∧(Qx l)[j*2+1]?=some (.int .i64 x.2)
 | [],_,_,h=>by simp at h
 |y::l,0,x,h=>by simp at h;subst h;exact⟨rfl,rfl⟩
 |y::l,j+1,x,h=>by
  rw[List.getElem?_cons_succ]at h;have:=Z8 l j x h;rw[Qx,show(j+1)*2=j*2+2 by omega];exact⟨by simpa using this.1,by simpa[Nat.add_right_comm]using this.2⟩
def SgAt(w:World)(g:Nat)(l:List (List UInt8×Int)):Prop:=w.heap[g]?=some (.cells (Qx l).toArray 169 (0,0))
theorem SgAt.cells{w:World}{g:Nat}{l:List (List UInt8×Int)}(h:SgAt w g l){j:Nat}{x:List UInt8×Int}(hx:l[j]?=some x):w.cell? ⟨g,j*2,none⟩=some (.string ⟨x.1.toArray⟩)∧w.cell? ⟨g,j*2+1,none⟩=some (.int .i64 x.2):=by
 obtain⟨h1,h2⟩:=Z8 l j x hx;rw[cell_of_row w g _ _ _ _ h,cell_of_row w g _ _ _ _ h,List.getElem?_toArray,List.getElem?_toArray];exact⟨h1,h2⟩
theorem SgAt.lt{w:World}{g:Nat}{l:List (List UInt8×Int)}(h:SgAt w g l):g<w.heap.size:=zV h
def qgH(w:World)(l:List (List UInt8×Int))(e:Ending)(w':World):Prop:=e= .returned (.slice (some ⟨w.heap.size,0,none⟩) l.length l.length)∧SgAt w' w.heap.size l∧Below w.heap.size w w'
theorem qen(k:Nat)(hk:k<5)(w:World):Calls Tryz.prog 145 #[.int .i64 k] w (qgH w (xu k)):=by
 match k,hk with
 |0,_=>
  go_enter Tryz.func145,Tryz.ntmps145
  go_wp2_with fail
  go_ret
  exact⟨rfl,heap_alloc_new w _,(Below.refl _ _).alloc (Nat.le_refl _) _⟩
 |1,_=>
  go_enter Tryz.func145,Tryz.ntmps145
  go_wp2_with fail
  go_ret
  exact⟨rfl,heap_alloc_new w _,(Below.refl _ _).alloc (Nat.le_refl _) _⟩
 |2,_=>
  go_enter Tryz.func145,Tryz.ntmps145
  go_wp2_with fail
  go_ret
  exact⟨rfl,heap_alloc_new w _,(Below.refl _ _).alloc (Nat.le_refl _) _⟩
 |3,_=>
  go_enter Tryz.func145,Tryz.ntmps145
  go_wp2_with fail
  go_ret
  exact⟨rfl,heap_alloc_new w _,(Below.refl _ _).alloc (Nat.le_refl _) _⟩
 |4,_=>
  go_enter Tryz.func145,Tryz.ntmps145
  go_wp2_with fail
  go_ret
  exact⟨rfl,heap_alloc_new w _,(Below.refl _ _).alloc (Nat.le_refl _) _⟩
theorem qem(w:World):Calls Tryz.prog 145 #[.int .i64 5] w fun e w'=>e= .returned (.slice none 0 0)∧w=w':=by
 go_enter Tryz.func145,Tryz.ntmps145
 go_wp2_with fail
 go_ret
 exact⟨rfl,rfl⟩
def Qe(p:List UInt8×Int→Bool):List (List UInt8×Int)→Nat→Int
 | [],_=> -1
 |x::l,i=>if p x then(i:Int)else Qe p l (i+1)
theorem qbd(p:List UInt8×Int→Bool)(l:List (List UInt8×Int))(i:Nat)(x:List UInt8×Int)(h:l[i]?=some x):Qe p (l.drop i) i=if p x then(i:Int)else Qe p (l.drop (i+1)) (i+1):=by
 have hi:i<l.length:=by
  rcases Nat.lt_or_ge i l.length with a|hge
  ·exact a
  ·rw[List.getElem?_eq_none hge]at h;cases h
 rw[List.getElem?_eq_getElem hi]at h;injection h with h
 rw[List.drop_eq_getElem_cons hi,h,Qe]
theorem JP(p:List UInt8×Int→Bool): ∀(l:List (List UInt8×Int)) (i:Nat),(Qe p l i= -1∧l.find? p=none)∨ ∃(j:Nat)(x:List UInt8×Int),Qe p l i=((i+j:Nat):Int)∧l[j]?=some x∧l.find? p=some x∧p x=true
 | [],i=> .inl ⟨rfl,rfl⟩
 |x::l,i=>by
  rw[Qe]
  cases hp:p x with
  |true=>exact .inr ⟨0,x,by simp,rfl,by rw[List.find?_cons,hp],hp⟩
  |false=>
   rw[List.find?_cons,hp];rcases JP p l (i+1)with⟨h1,h2⟩|⟨j,y,h1,h2,h3,h4⟩
   ·exact .inl ⟨by simpa using h1,h2⟩
   ·exact .inr ⟨j+1,y,by simp;rw[h1];omega,by simpa using h2,h3,h4⟩
theorem qgM(X:PCtx)(q:PS)(s:List UInt8)(op:Int)(B:Nat)(w:World)(h:PSt w X q)(d:w.cell? ⟨B,0,none⟩=some (.pointer (some ⟨X.P,0,none⟩))):
 Calls Tryz.prog 148 #[.agg #[.string ⟨s.toArray⟩,.int .i64 op],.pointer (some ⟨B,0,none⟩)] w fun e w'=>e= .returned (.bool (qj X.l q s))∧Below w.heap.size w w':=by
 have hb:Below w.heap.size w (w.alloc (.cells #[.string ⟨s.toArray⟩,.int .i64 op] 169)):=(Below.refl _ _).alloc (Nat.le_refl _) _;have f:=hid (Jy X q ⟨s.toArray⟩ _ (h.below hb));have g:=fun o=>qq d o;have c:=hid hb;clear h hb d;go_enter Tryz.func148,Tryz.ntmps148
 go_wp2_with fail
 refine f.out.mono ?_;rintro e i ⟨rfl,a⟩;have b:=hid (c.out.trans (qc a c.out.size));clear a;go_wp2_with fail
 go_ret
 exact⟨rfl,b.out⟩
theorem qdU{w:World}{l:VL}{A:Option Addr}{S:Nat→Prop}{i:Nat}(h:RpL w S l A)(hi:i<l.len): ∃(b o:Nat)(k n:Int)(s:ByteArray)(sub:VL)(sa:Option Addr)(sc:Nat),A=some ⟨b,o,none⟩∧l.drop i= .cons k n s sub (l.drop (i+1))∧S b∧
 w.cell? ⟨b,o+i*4,none⟩=some (.int .i64 k)∧w.cell? ⟨b,o+i*4+1,none⟩=some (.int .i64 n)∧w.cell? ⟨b,o+i*4+2,none⟩=some (.string s)∧w.cell? ⟨b,o+i*4+3,none⟩=some (.slice sa sub.len sc)∧sub.len≤sc∧RpL w S sub sa∧sub.size<l.size:=by
 obtain⟨k,n,s,sub,hd⟩:=VL.drop_of_lt i l hi
 obtain⟨b,o,hA⟩: ∃b o,A=some ⟨b,o,none⟩:=by
  cases l with
  |nil=>simp[VL.len]at hi
  |cons _ _ _ _ _=>obtain⟨b,o,_,_,h,_⟩:=h;exact⟨b,o,h⟩
 subst hA;have c:=RpL.drop i l b o h;rw[hd]at c;obtain⟨b',o',g,j,hA,d,m,c1,c2,c3,e,f,_⟩:=c;injection hA with hA
 injection hA with hA1 hA2
 subst hA1;subst hA2;have a:=VL.size_drop i l;rw[hd]at a;simp only[VL.size]at a;rw[Nat.mul_comm 4 i]at m c1 c2 c3;exact⟨b,o,k,n,s,sub,g,j,rfl,hd,d,m,c1,c2,c3,e,f,by omega⟩
theorem qaJ(N:Nat)(ih: ∀K,K<N→ZQ K):ZQ N:=by
 intro f j sa sb ca cb w hN hl1 hl2 B C hc1 hc2 p r;by_cases d:f.len=j.len
 ·have E:((f.len:Int) !=(j.len:Int))=false:=by simp;omega
  have R1:=hid p;have R2:=hid r;have J:=hid d;clear p r d;go_enter Tryz.func62,Tryz.ntmps62
  go_wp2_with fail
  go_loopg [5] f.len (fun kk v wr=> ∃i:Nat,v= .int .i64 i∧i+kk=f.len∧Hid (Below w.heap.size w wr)∧Hid (jg (f.drop i) (j.drop i)=jg f j))
  case atStart=>exact⟨0,rfl,by omega,Below.refl _ _,by show jg (f.drop 0) (j.drop 0)=_;rw[VL.drop,VL.drop]⟩
  case round=>
   obtain⟨i,rfl,hik,h,s⟩:=hrel;by_cases hi:i<f.len
   ·obtain⟨g,rfl⟩: ∃g,gk=g+1:=⟨gk-1,by omega⟩
    have D:i<j.len:=by have:=J.out;omega
    have hz:=h.out.size;obtain⟨b,o,V,X,Z,x1,F,H,hA1,m,P,M,c1,c2,c3,x,k,T⟩:=qdU (R1.out.keep (w':=wr) (fun b hb=>h.out.block b hb) (fun b hb=>hb)) hi;obtain⟨b',o',W,Y,s2,x2,G,I,hA2,n,Q,O,e1,e2,e3,y,l,U⟩:=qdU (R2.out.keep (w':=wr) (fun b hb=>h.out.block b hb) (fun b hb=>hb)) D;have a:=VL.fit_drop i f B;rw[m]at a;have c:=VL.fit_drop i j C;rw[n]at c;have L:=hid (X8 V X Z x1 F H W Y s2 x2 G I wr.drew (ih _ (by omega)) ⟨a.1,a.2.1,a.2.2.1,trivial⟩ ⟨c.1,c.2.1,c.2.2.1,trivial⟩ x y (RpL.keep (w:=wr) (w':=wr.drew) (S:=fun b=>b<w.heap.size) (S':=fun b=>b<wr.drew.heap.size) (fun b hb=>rfl) (fun b hb=>Nat.lt_of_lt_of_le hb hz) _ _ k) (RpL.keep (w:=wr) (w':=wr.drew) (S:=fun b=>b<w.heap.size) (S':=fun b=>b<wr.drew.heap.size) (fun b hb=>rfl) (fun b hb=>Nat.lt_of_lt_of_le hb hz) _ _ l));have z:=hid (qaI m n);have HA1:=hid hA1;have HA2:=hid hA2;subst hA1;subst hA2;obtain⟨q,R⟩: ∃q,q=QK V X Z x1 W Y s2 x2:=⟨_,rfl⟩
    rw[←R]at L z;have d0:wr.drew.cell? ⟨b,o+i*4,none⟩=_:=M;have d1:wr.drew.cell? ⟨b,o+i*4+1,none⟩=_:=c1;have d2:wr.drew.cell? ⟨b,o+i*4+2,none⟩=_:=c2;have d3:wr.drew.cell? ⟨b,o+i*4+3,none⟩=_:=c3;have f0:wr.drew.cell? ⟨b',o'+i*4,none⟩=_:=O;have f1:wr.drew.cell? ⟨b',o'+i*4+1,none⟩=_:=e1;have f2:wr.drew.cell? ⟨b',o'+i*4+2,none⟩=_:=e2;have f3:wr.drew.cell? ⟨b',o'+i*4+3,none⟩=_:=e3;clear R m n k l a c;go_wp2_with fail
    go_still_tail 8,(by kernel_rfl)
    change wpList _ _ _ _ _ wr.drew;go_wp2_with fail
    refine L.out.mono ?_;rintro e w5 ⟨rfl,u⟩;have t:=hid (show Below w.heap.size w w5 from(h.out.drew).trans (qc u hz));clear u M c1 c2 c3 O e1 e2 e3 d0 d1 d2 d3 f0 f1 f2 f3
    cases q with
    |true=>
     go_wp2_with fail
     go_roundg g
     case measure=>omega
     case rel=>exact⟨i+1,by go_num,by omega,t,by show jg _ _=_;rw[←s.out,z.out,Bool.true_and]⟩
    |false=>
     go_wp2_with fail
     go_ret
     exact⟨qw (by rw[←s.out,z.out,Bool.false_and]),t.out⟩
   ·obtain rfl:i=f.len:=by omega
    have A:=hid (show jg f j=true by rw[←s.out,VL.drop_len,J.out,VL.drop_len];rfl);go_wp2_with fail
    go_ret
    exact⟨qw A.out.symm,h.out⟩
 ·have E:((f.len:Int) !=(j.len:Int))=true:=by simp;omega
  have A:=hid (qbM f j d);clear d p r;go_enter Tryz.func62,Tryz.ntmps62
  go_wp2_with fail
  go_ret
  exact⟨qw A.out.symm,Below.refl _ _⟩
theorem qe6(N:Nat):ZQ N:=by
 induction N using Nat.strongRecOn with
 |_ N a=>exact qaJ N a
theorem qe5(k n:Int)(s:ByteArray)(a:VL)(sa:Option Addr)(f:Nat)(k' n':Int)(s':ByteArray)(a':VL)(d:Option Addr)(c:Nat)(w:World)
 (hf:(zv k n s a).fit) (g:(zv k' n' s' a').fit) (hc:a.len≤f) (hc':a'.len≤c) (hr:RpL w (fun b=>b<w.heap.size) a sa) (h:RpL w (fun b=>b<w.heap.size) a' d):
 Calls Tryz.prog 29 #[.agg #[.int .i64 k,.int .i64 n,.string s,.slice sa a.len f],.agg #[.int .i64 k',.int .i64 n',.string s',.slice d a'.len c]] w fun e w'=>e= .returned (.bool (QK k n s a k' n' s' a'))∧Below w.heap.size w w':=
 X8 k n s a sa f k' n' s' a' d c w (qe6 _) hf g hc hc' hr h
end Go.Proofs.YtggngahmafbihaaGreatDoor
