/- Contracts, and the plain mathematics beneath. -/
import Derived.Test.YtggngahmafbihaaGreatDoorPerAL
set_option linter.unusedVariables false
set_option linter.unusedSimpArgs false
set_option maxRecDepth 100000
set_option maxHeartbeats 8000000
namespace Go.Proofs.YtggngahmafbihaaGreatDoor
open Go.RowKit Go.Lib
theorem J0{W W':World}{D b:Nat→Prop}{V c:Value}{l sub:NL}(h:OwnN W D V l)(hx:OwnN W b c sub)(op ln:Int)(s:ByteArray)(k n:Int)(t:ByteArray)(va:Option Addr)(vc:Nat)(op2 ln2:Int)(a: ∀k,W.heap.size≤k→b k)(f: ∀k,b k→D k)(d: ∀g,V.ownBlock=some g→ ¬b g)
 (i:W'=(W.alloc (.cells (qN op ln s k n t va vc c) 31)).alloc (.cells #[.int .i64 op2,.int .i64 ln2,.string ⟨#[]⟩,.int .i64 0,.int .i64 0,.string ⟨#[]⟩,.slice none 0 0,.slice (some ⟨W.heap.size,0,none⟩) 1 1] 31)):
 OwnN W' D V l∧RpN W' (SN W' D V) (nd op2 ln2 ⟨#[]⟩ 0 0 ⟨#[]⟩ (nd op ln s k n t sub)) (some ⟨W.heap.size+1,0,none⟩):=by
 have h1:=OwnN.lit (hx.row1 op ln s k n t va vc) (a _ (Nat.le_refl _)) (by show 1≤_;decide);have e:Below W.heap.size W (W.alloc (.cells (qN op ln s k n t va vc c) 31)):=(Below.refl _ _).alloc (Nat.le_refl _) _;have h2:=Zn (V:=V) (D:=D) h1 op2 ln2 ⟨#[]⟩ 0 0 ⟨#[]⟩ none 0 (a _ (by simp)) f d;rw[World.size_alloc]at h2;subst i;exact⟨(h.below e).below ((Below.refl _ _).alloc (Nat.le_refl _) _),h2⟩
theorem Xo{a W d:World}{X:PCtx}{p:PS}{b g:Nat}{V:Value}{l:NL}{o c:Obj}(hm:Mvd a W X p)(f:OwnN W (DG b g) V l)(e:X.P<b)(ha:a.heap.size≤b)(hg:((W.alloc o).alloc c).grownBy d V.ownBlock):
 Mvd a d X p∧W.heap.size+1≤d.heap.size:=by
 have hb:Below W.heap.size W ((W.alloc o).alloc c):=((Below.refl _ _).alloc (Nat.le_refl _) _).alloc (by simp) _;refine⟨((hm.alloc o).alloc c).app (f.below hb) (fun k hk=>Nat.lt_of_lt_of_le e hk.1) (fun k hk=>Nat.le_trans ha hk.1) hg,?_⟩;have:=hg.size;simp at this;omega
theorem qdg(X:PCtx)(F:Nat)(hF:F≤1000000000)(ih:EC X F):ZP X 231 #[] (.row .nil) (F+1):=by
 intro w p r hst h0 h1 hr;have hPl:=hst.lt;have hlen:=hst.len;obtain⟨i0,hi0,hz0,hz1,hz2⟩:=info_parts qz;have IH:=hid ih;clear ih;have HMw:=hid (Mvd.of hst);have HR0:=hid hr;clear hr;go_enter Tryz.func231,Tryz.ntmps231
 go_wp2_with fail
 go_loopg [3] (F+1) (fun kk ov wr=> ∃(V:Value)(q:PS)(acc:NL),V=ov∧acc.len+kk≤F+1∧q.deep=p.deep∧w.heap.size≤wr.heap.size∧Hid (Mvd w wr X q)∧Hid (OwnN wr (DG w.heap.size 0) V acc)∧Hid (qQ acc)∧Hid (qa X.l kk (.row acc) q=some r))
 case atStart=>exact⟨_,p,.nil,rfl,by show 0+(F+1)≤_;omega,rfl,Nat.le_refl _,HMw,OwnN.nil _ _,trivial,HR0⟩
 case round=>
  obtain⟨V,q,acc,rfl,hal,hqd,hs0,HM,HO,HK,HQ⟩:=hrel;obtain⟨AV,CV,hVf⟩:=HO.out.form;subst hVf
  cases gk with
  |zero=>have h:=HQ.out;rw[qa]at h;cases h
  |succ k=>
  have hr:=HQ.out;rw[qa]at hr;obtain⟨ev,hP,hE⟩:=HM.out.st.at_;have c3:=hP.c3;clear HQ
  cases he:q.err with
  |some x=>
   rw[he]at hE;obtain⟨ty,ve,rfl⟩:=jb hE;replace hr:some (acc,q)=some r:=by rw[←hr];simp only[he];rfl
   have Z:=hid (Option.some.inj hr).symm;clear hP hE he hr;go_wp2_with fail
   go_ret
   exact PNl.mk _ acc _ Z.out HM.out (HO.out.wide (fun k hk _=>by have:=hk.1;show w.heap.size≤k;omega)) HK.out (by omega) (by omega)
  |none=>
   rw[he]at hE;obtain rfl:ev= .nilIface:=hE
   replace hr:(if qj X.l q [64]then(qa X.l k .expr (qb q)).bind fun(x,p)=>if qj X.l p [44]then qa X.l k (.row (acc.app (ndL 26 (qd X.l q) x))) (qb p)else some (acc.app (ndL 26 (qd X.l q) x),p)
    else(qa X.l k .expr q).bind fun(x,p)=>if qj X.l p [44]then qa X.l k (.row (acc.app x)) (qb p)else some (acc.app x,p))=some r:=by rw[←hr];simp only[he];rfl
   clear hP he
   cases hb:qj X.l q [64]with
   |true=>
    rw[hb]at hr;have HB:=hid hb;clear hb;replace hr:((qa X.l k .expr (qb q)).bind fun(x,p)=>if qj X.l p [44]then qa X.l k (.row (acc.app (ndL 26 (qd X.l q) x))) (qb p)else some ((acc.app (ndL 26 (qd X.l q) x)),p))=some r:=hr
    cases I:qa X.l k .expr (qb q)with
    |none=>rw[I]at hr;cases hr
    |some q1=>
    obtain⟨S,u⟩:=q1;rw[I]at hr;replace hr:(if qj X.l u [44]then qa X.l k (.row (acc.app (ndL 26 (qd X.l q) S))) (qb u)else some ((acc.app (ndL 26 (qd X.l q) S)),u))=some r:=hr;have Y:=hid I;clear I
    cases hc:qj X.l u [44]with
    |true=>
     rw[hc]at hr;have HC:=hid hc;clear hc;have HQ2:=hid (show qa X.l k (.row (acc.app (ndL 26 (qd X.l q) S))) (qb u)=some r from hr);clear hr;go_wp2_with fail
     refine(qO HM.out.st).mono ?_;rintro e1 w1 ⟨rfl,b⟩;have y:=hid (HM.out.trans b);have hs1:=b.grown.size;have B:=hid (OwnN.grown HO.out b.grown (DG.not (by omega)));clear b;go_wp2_with fail
     refine(za y.out.st (s:=⟨#[64]⟩) (L:= [64]) rfl HB.out).mono ?_;rintro e2 w2 ⟨rfl,c⟩;have z:=hid (y.out.trans c);have hs2:=c.grown.size;have C:=hid (OwnN.grown B.out c.grown (DG.not (by omega)));clear c;go_wp2_with fail
     refine(IH.out.expr k (by omega) w2 _ _ z.out.st (by first|omega|(simp<;>omega)) (by first|omega|(simp<;>omega)) Y.out).mono ?_;rintro e3 w3 ⟨t,o,T,Q,R,u3,U,W,V3,sub3,m,rfl,d,n,j,hl3,E⟩;obtain⟨A3,cc3,rfl⟩:=n.form;have m:S=nd t o T Q R u3 sub3:=m;subst m;have j:=hid j;have E:u.deep=p.deep+0:=by have h:u.deep=(qb q).deep:=E;(try simp at h);omega
     have K:=hid (z.out.trans d);have hs3:=d.grown.size;have i:=hid (OwnN.grown C.out d.grown (DG.not (by omega)));have N:=hid (n.wide (D':=DG w2.heap.size 0) (fun k hk hk2=>⟨hk,by omega⟩));clear d n;unfold qN;have P:=hid (fun g (hg:(.slice AV acc.len CV:Value).ownBlock=some g)=>(HO.out.ge g hg).2);have v:=hid (J0 (op2:=26) (ln2:=qd X.l q) i.out N.out t o T Q R u3 U W (fun k hk=>⟨by omega,by omega⟩) (fun k hk=>⟨by have:=hk.1;omega,by have:=hk.1;omega⟩) (fun g hg hk=>by have:=P.out g hg;have:=hk.1;omega) rfl);go_wp2_with (at_builtin;refine zX rfl (.tmp 14) (.tmp 20) 29 rfl Tryz.underlying29 hi0 hz0 hz1 hz2 rfl rfl v.out.1 rfl rfl v.out.2 (fun e=>by cases e) (by simp only[qg];omega) (by refine⟨?_,?_⟩<;>(rw[World.size_alloc,World.size_alloc];omega)) ?_;intro A9 c9 w9 a G H;have J:=Xo K.out i.out (by omega) (by omega) G;have A:=hid J.1;have hs9:=J.2;have O:=hid a;clear J a G H)
     refine(za A.out.st (s:=⟨#[44]⟩) (L:= [44]) rfl HC.out).mono ?_;rintro e4 w4 ⟨rfl,f⟩;have M:=hid (A.out.trans f);have hs4:=f.grown.size;have D:=hid (OwnN.grown O.out f.grown (DG.not (by omega)));clear f;go_wp2_with fail
     go_roundg k
     case measure=>omega
     case rel=>exact⟨_,(qb u),(acc.app (nd 26 (qd X.l q) ⟨#[]⟩ 0 0 ⟨#[]⟩ (nd t o T Q R u3 sub3))),rfl,by rw[NL.len_app,qg];omega,by(first|omega|(simp<;>omega)),by omega,M,D,hid (qG _ _ HK.out (qX j.out (fun _=>by rw[qg];decide))),HQ2⟩
    |false=>
     rw[hc]at hr;have HC:=hid hc;clear hc;replace hr:some ((acc.app (ndL 26 (qd X.l q) S)),u)=some r:=hr;have Z:=hid (show r=((acc.app (ndL 26 (qd X.l q) S)),u)from(Option.some.inj hr).symm);clear hr;go_wp2_with fail
     refine(qO HM.out.st).mono ?_;rintro e1 w1 ⟨rfl,b⟩;have y:=hid (HM.out.trans b);have hs1:=b.grown.size;have B:=hid (OwnN.grown HO.out b.grown (DG.not (by omega)));clear b;go_wp2_with fail
     refine(za y.out.st (s:=⟨#[64]⟩) (L:= [64]) rfl HB.out).mono ?_;rintro e2 w2 ⟨rfl,c⟩;have z:=hid (y.out.trans c);have hs2:=c.grown.size;have C:=hid (OwnN.grown B.out c.grown (DG.not (by omega)));clear c;go_wp2_with fail
     refine(IH.out.expr k (by omega) w2 _ _ z.out.st (by first|omega|(simp<;>omega)) (by first|omega|(simp<;>omega)) Y.out).mono ?_;rintro e3 w3 ⟨t,o,T,Q,R,u3,U,W,V3,sub3,m,rfl,d,n,j,hl3,E⟩;obtain⟨A3,cc3,rfl⟩:=n.form;have m:S=nd t o T Q R u3 sub3:=m;subst m;have j:=hid j;have E:u.deep=p.deep+0:=by have h:u.deep=(qb q).deep:=E;(try simp at h);omega
     have K:=hid (z.out.trans d);have hs3:=d.grown.size;have i:=hid (OwnN.grown C.out d.grown (DG.not (by omega)));have N:=hid (n.wide (D':=DG w2.heap.size 0) (fun k hk hk2=>⟨hk,by omega⟩));clear d n;unfold qN;have P:=hid (fun g (hg:(.slice AV acc.len CV:Value).ownBlock=some g)=>(HO.out.ge g hg).2);have v:=hid (J0 (op2:=26) (ln2:=qd X.l q) i.out N.out t o T Q R u3 U W (fun k hk=>⟨by omega,by omega⟩) (fun k hk=>⟨by have:=hk.1;omega,by have:=hk.1;omega⟩) (fun g hg hk=>by have:=P.out g hg;have:=hk.1;omega) rfl);go_wp2_with (at_builtin;refine zX rfl (.tmp 14) (.tmp 20) 29 rfl Tryz.underlying29 hi0 hz0 hz1 hz2 rfl rfl v.out.1 rfl rfl v.out.2 (fun e=>by cases e) (by simp only[qg];omega) (by refine⟨?_,?_⟩<;>(rw[World.size_alloc,World.size_alloc];omega)) ?_;intro A9 c9 w9 a G H;have J:=Xo K.out i.out (by omega) (by omega) G;have A:=hid J.1;have hs9:=J.2;have O:=hid a;clear J a G H)
     refine(qr A.out.st (s:=⟨#[44]⟩) (L:= [44]) rfl HC.out).mono ?_;rintro e4 w4 ⟨rfl,f⟩;have M:=hid (A.out.trans f);have hs4:=f.grown.size;have D:=hid (OwnN.grown O.out f.grown (DG.not (by omega)));clear f;go_wp2_with fail
     go_ret
     exact PNl.mk _ ((acc.app (nd 26 (qd X.l q) ⟨#[]⟩ 0 0 ⟨#[]⟩ (nd t o T Q R u3 sub3)))) _ Z.out M.out (D.out.wide (fun k hk _=>by have:=hk.1;show w.heap.size≤k;omega)) (qG _ _ HK.out (qX j.out (fun _=>by rw[qg];decide))) (by rw[NL.len_app,qg];omega) (by first|omega|(simp<;>omega))
   |false=>
    rw[hb]at hr;have HB:=hid hb;clear hb;replace hr:((qa X.l k .expr q).bind fun(x,p)=>if qj X.l p [44]then qa X.l k (.row (acc.app x)) (qb p)else some ((acc.app x),p))=some r:=hr
    cases I:qa X.l k .expr q with
    |none=>rw[I]at hr;cases hr
    |some q1=>
    obtain⟨S,u⟩:=q1;rw[I]at hr;replace hr:(if qj X.l u [44]then qa X.l k (.row (acc.app S)) (qb u)else some ((acc.app S),u))=some r:=hr;have Y:=hid I;clear I
    cases hc:qj X.l u [44]with
    |true=>
     rw[hc]at hr;have HC:=hid hc;clear hc;have HQ2:=hid (show qa X.l k (.row (acc.app S)) (qb u)=some r from hr);clear hr;go_wp2_with fail
     refine(qO HM.out.st).mono ?_;rintro e1 w1 ⟨rfl,b⟩;have y:=hid (HM.out.trans b);have hs1:=b.grown.size;have B:=hid (OwnN.grown HO.out b.grown (DG.not (by omega)));clear b;go_wp2_with fail
     refine(qr y.out.st (s:=⟨#[64]⟩) (L:= [64]) rfl HB.out).mono ?_;rintro e2 w2 ⟨rfl,c⟩;have z:=hid (y.out.trans c);have hs2:=c.grown.size;have C:=hid (OwnN.grown B.out c.grown (DG.not (by omega)));clear c;go_wp2_with fail
     refine(IH.out.expr k (by omega) w2 _ _ z.out.st (by first|omega|(simp<;>omega)) (by first|omega|(simp<;>omega)) Y.out).mono ?_;rintro e3 w3 ⟨t,o,T,Q,R,u3,U,W,V3,sub3,m,rfl,d,n,j,hl3,E⟩;obtain⟨A3,cc3,rfl⟩:=n.form;have m:S=nd t o T Q R u3 sub3:=m;subst m;have j:=hid j;have E:u.deep=p.deep+0:=by have h:u.deep=q.deep:=E;(try simp at h);omega
     have K:=hid (z.out.trans d);have hs3:=d.grown.size;have i:=hid (OwnN.grown C.out d.grown (DG.not (by omega)));have N:=hid (n.wide (D':=DG w2.heap.size 0) (fun k hk hk2=>⟨hk,by omega⟩));clear d n;unfold qN;have P:=hid (fun g (hg:(.slice AV acc.len CV:Value).ownBlock=some g)=>(HO.out.ge g hg).2);have v:=hid (Zc i.out N.out t o T Q R u3 U W (by omega) (by omega) (by omega) (by omega) (fun g hg=>by have:=P.out g hg;omega));go_wp2_with (at_builtin;refine zX rfl (.tmp 22) (.tmp 25) 29 rfl Tryz.underlying29 hi0 hz0 hz1 hz2 rfl rfl v.out.1 rfl rfl v.out.2 (fun e=>by cases e) (by simp only[qg];omega) (by refine⟨?_,?_⟩<;>(rw[World.size_alloc];omega)) ?_;intro A9 c9 w9 a G H;have J:=QA K.out i.out (by omega) (by omega) G;have A:=hid J.1;have hs9:=J.2.1;have O:=hid a;clear J a G H)
     refine(za A.out.st (s:=⟨#[44]⟩) (L:= [44]) rfl HC.out).mono ?_;rintro e4 w4 ⟨rfl,f⟩;have M:=hid (A.out.trans f);have hs4:=f.grown.size;have D:=hid (OwnN.grown O.out f.grown (DG.not (by omega)));clear f;go_wp2_with fail
     go_roundg k
     case measure=>omega
     case rel=>exact⟨_,(qb u),(acc.app (nd t o T Q R u3 sub3)),rfl,by rw[NL.len_app,qg];omega,by(first|omega|(simp<;>omega)),by omega,M,D,hid (qG _ _ HK.out j.out),HQ2⟩
    |false=>
     rw[hc]at hr;have HC:=hid hc;clear hc;replace hr:some ((acc.app S),u)=some r:=hr;have Z:=hid (show r=((acc.app S),u)from(Option.some.inj hr).symm);clear hr;go_wp2_with fail
     refine(qO HM.out.st).mono ?_;rintro e1 w1 ⟨rfl,b⟩;have y:=hid (HM.out.trans b);have hs1:=b.grown.size;have B:=hid (OwnN.grown HO.out b.grown (DG.not (by omega)));clear b;go_wp2_with fail
     refine(qr y.out.st (s:=⟨#[64]⟩) (L:= [64]) rfl HB.out).mono ?_;rintro e2 w2 ⟨rfl,c⟩;have z:=hid (y.out.trans c);have hs2:=c.grown.size;have C:=hid (OwnN.grown B.out c.grown (DG.not (by omega)));clear c;go_wp2_with fail
     refine(IH.out.expr k (by omega) w2 _ _ z.out.st (by first|omega|(simp<;>omega)) (by first|omega|(simp<;>omega)) Y.out).mono ?_;rintro e3 w3 ⟨t,o,T,Q,R,u3,U,W,V3,sub3,m,rfl,d,n,j,hl3,E⟩;obtain⟨A3,cc3,rfl⟩:=n.form;have m:S=nd t o T Q R u3 sub3:=m;subst m;have j:=hid j;have E:u.deep=p.deep+0:=by have h:u.deep=q.deep:=E;(try simp at h);omega
     have K:=hid (z.out.trans d);have hs3:=d.grown.size;have i:=hid (OwnN.grown C.out d.grown (DG.not (by omega)));have N:=hid (n.wide (D':=DG w2.heap.size 0) (fun k hk hk2=>⟨hk,by omega⟩));clear d n;unfold qN;have P:=hid (fun g (hg:(.slice AV acc.len CV:Value).ownBlock=some g)=>(HO.out.ge g hg).2);have v:=hid (Zc i.out N.out t o T Q R u3 U W (by omega) (by omega) (by omega) (by omega) (fun g hg=>by have:=P.out g hg;omega));go_wp2_with (at_builtin;refine zX rfl (.tmp 22) (.tmp 25) 29 rfl Tryz.underlying29 hi0 hz0 hz1 hz2 rfl rfl v.out.1 rfl rfl v.out.2 (fun e=>by cases e) (by simp only[qg];omega) (by refine⟨?_,?_⟩<;>(rw[World.size_alloc];omega)) ?_;intro A9 c9 w9 a G H;have J:=QA K.out i.out (by omega) (by omega) G;have A:=hid J.1;have hs9:=J.2.1;have O:=hid a;clear J a G H)
     refine(qr A.out.st (s:=⟨#[44]⟩) (L:= [44]) rfl HC.out).mono ?_;rintro e4 w4 ⟨rfl,f⟩;have M:=hid (A.out.trans f);have hs4:=f.grown.size;have D:=hid (OwnN.grown O.out f.grown (DG.not (by omega)));clear f;go_wp2_with fail
     go_ret
     exact PNl.mk _ ((acc.app (nd t o T Q R u3 sub3))) _ Z.out M.out (D.out.wide (fun k hk _=>by have:=hk.1;show w.heap.size≤k;omega)) (qG _ _ HK.out j.out) (by rw[NL.len_app,qg];omega) (by first|omega|(simp<;>omega))
end Go.Proofs.YtggngahmafbihaaGreatDoor
