/- Contracts, and the plain mathematics beneath. -/
import Derived.Test.YtggngahmafbihaaGreatDoorPerAU
set_option linter.unusedVariables false
set_option linter.unusedSimpArgs false
set_option maxRecDepth 100000
set_option maxHeartbeats 16000000
namespace Go.Proofs.YtggngahmafbihaaGreatDoor
open Go.RowKit Go.Lib
def xc(l:List Tok)(f:Nat)(s:ByteArray)(o:Int)(n:NL)(p:PS):Option (NL×ByteArray×Int×PS):=(qa l f (.block [zM]) p).bind fun z=>some (n.app z.1,s,o,qf l z.2 zM)
def Zk(l:List Tok)(f:Nat)(p:PS):Option (NL×ByteArray×Int×PS):=
 let s:=(qE l p).1
 let p:=qf l (qE l p).2 [105,110]
 if qj l p [91]then
  let p:=qh (qb p)
  if p.err.isNone then(qa l f .expr p).bind fun x=>(qa l f .expr (qf l x.2 [46,46])).bind fun y=>xc l f s 43 (x.1.app y.1) (qf l (qu y.2) [93])
  else xc l f s 43 .nil (qf l (qu p) [93])
 else(qa l f .head p).bind fun x=>xc l f s 42 x.1 x.2
def LpR(X:PCtx)(a w:World)(g:Nat)(ln:Int)(F:Nat)(d:Int)(c:NL×ByteArray×Int×PS)(b:World):Prop:=
 ∃(V:Value)(s:ByteArray)(o:Int)(n:NL)(q:PS),Hid (Mvd a b X q)∧q.deep=d∧Hid (NdB b g (.int .i64 o) (.int .i64 ln) (.string s) (.int .i64 0) (.int .i64 0) (.string ⟨#[]⟩) (.slice none 0 0) V)∧Hid (OwnN b (DG w.heap.size g) V n)∧n.len≤2∧Hid (qQ n)∧Hid (Frm X g w b)∧w.heap.size≤b.heap.size∧Hid (xc X.l F s o n q=some c)
theorem qbj(X:PCtx)(F:Nat)(hF:F≤1000000000)(ec:EC X F)(ih:SC X F):Q8 X 68 F (Zk X.l F):=by
 intro a w p g ln l s o q hm hN hPg hag h0 h1 hr;obtain⟨i0,hi0,hz0,hz1,hz2⟩:=info_parts qz;have hgw:=hN.lt;have haw:=hm.grown.size;have hPl:=hm.st.lt;have hlen:=hm.st.len;have EC:=hid ec;have IH:=hid ih;have HMw:=hid hm;have HBg:=hid hN;have HF0:=hid (Frm.refl X g w);clear hm hN ih ec;have HR:=hid (show Zk X.l F p=some (l,s,o,q)from hr);clear hr;go_enter Tryz.func68,Tryz.ntmps68
 go_wp2_with fail
 refine(Zm X _ _ HMw.out.st).mono ?_;rintro e1 w1 ⟨rfl,hm1⟩;have HM1:=hid (HMw.out.trans hm1);have hs1:=hm1.grown.size;have HBg1:=hid (NdB.grown HBg.out hm1.grown (show X.P<g by omega));have HF1:=hid (HF0.out.grown hm1.grown);clear hm1;have c1_2:=HBg1.out.c2;have f1_2:=HBg1.out.fr 2;obtain⟨w2,hw2⟩: ∃W,W=(w1.setCell ⟨g,2,none⟩ (.string (qE X.l p).1)):=⟨_,rfl⟩
 have hg2:w1.grownBy w2 (some g):=by rw[hw2];exact qv _ _ _ _
 have hs2:=hg2.size;have HM2:=hid (HM1.out.node HBg1.out (by omega) (by omega) hg2);have HBg2:=hid (show NdB w2 g (.int .i64 0) (.int .i64 ln) (.string (qE X.l p).1) (.int .i64 0) (.int .i64 0) (.string ⟨#[]⟩) (.slice none 0 0) (.slice none 0 0)by rw[hw2];exact HBg1.out.set2 _);have HF2:=hid (HF1.out.filled hg2);have HW2:=hid hw2;clear hw2 hg2;go_wp2_with fail
 rw[←HW2.out];clear c1_2 f1_2;refine(qT HM2.out.st (s:=⟨#[105,110]⟩) (L:= [105,110]) rfl).mono ?_;rintro e3 w3 ⟨rfl,hm3⟩;have HM3:=hid (HM2.out.trans hm3);have hs3:=hm3.grown.size;have HBg3:=hid (NdB.grown HBg2.out hm3.grown (show X.P<g by omega));have HF3:=hid (HF2.out.grown hm3.grown);clear hm3;obtain⟨p2,hp2⟩: ∃p2,p2=qf X.l (qE X.l p).2 [105,110]:=⟨_,rfl⟩
 have hpd:p2.deep=p.deep:=by rw[hp2];simp
 obtain⟨N,hs2⟩: ∃N,N=(qE X.l p).1:=⟨_,rfl⟩
 have HMp:=hid (show Mvd a w3 X p2 by rw[hp2];exact HM3.out);have HBp:=hid (show NdB w3 g (.int .i64 0) (.int .i64 ln) (.string N) (.int .i64 0) (.int .i64 0) (.string ⟨#[]⟩) (.slice none 0 0) (.slice none 0 0)by rw[hs2];exact HBg3.out);replace HR:=hid (show(if qj X.l p2 [91]then(if(qh (qb p2)).err.isNone then(qa X.l F .expr (qh (qb p2))).bind fun x=>(qa X.l F .expr (qf X.l x.2 [46,46])).bind fun y=>xc X.l F N 43 (x.1.app y.1) (qf X.l (qu y.2) [93])else xc X.l F N 43 .nil (qf X.l (qu (qh (qb p2))) [93]))else(qa X.l F .head p2).bind fun x=>xc X.l F N 42 x.1 x.2)=some (l,s,o,q)by rw[hp2,hs2];exact HR.out);clear hp2 hs2;obtain⟨b,hb⟩: ∃b,b=qj X.l p2 [91]:=⟨_,rfl⟩
 obtain⟨p3,Y⟩: ∃p3,p3=if b then qb p2 else p2:=⟨_,rfl⟩
 have MC:=hid (show Calls Tryz.prog 65 #[.pointer (some ⟨X.P,0,none⟩),.string ⟨#[91]⟩] w3 (fun e w'=>e= .returned (.bool b)∧Mvd w3 w' X p3)from by rw[Y,hb];exact Xg X p2 ⟨#[91]⟩ _ HMp.out.st);have hpd3:p3.deep=p.deep:=by rw[Y];split<;>simp[hpd]
 have HBB:=hid hb;have HP3:=hid Y;clear hb Y;go_wp2_with fail
 refine(MC.out).mono ?_;rintro e4 w4 ⟨rfl,hm4⟩;have HM4:=hid (HMp.out.trans hm4);have hs4:=hm4.grown.size;have u:=hid (NdB.grown HBp.out hm4.grown (show X.P<g by omega));have HF4:=hid (HF3.out.grown hm4.grown);clear hm4
 go_upto_if 12 with fail
 go_cut [] (fun wx=>LpR X a w g ln F p.deep (l,s,o,q) wx)
 case first=>
  have hr:=HR.out;clear HR;have hb:=HBB.out.symm;have Y:=HP3.out;clear HBB HP3
  cases b with
  |true=>
   rw[if_pos hb]at hr;replace Y:p3=qb p2:=Y;subst Y;clear hb
   cases hd:(qh (qb p2)).err.isNone with
   |false=>
    have HD:=hid hd;rw[if_neg (by rw[hd];decide)]at hr;clear hd;have HQL:=hid hr;clear hr;have c2_0:=u.out.c0;have f2_0:=u.out.fr 0;obtain⟨v,I⟩: ∃W,W=(w4.setCell ⟨g,0,none⟩ (.int .i64 43)):=⟨_,rfl⟩
    have G:w4.grownBy v (some g):=by rw[I];exact qv _ _ _ _
    have hs5:=G.size;have HM5:=hid (HM4.out.node u.out (by omega) (by omega) G);have HBg5:=hid (show NdB v g (.int .i64 43) (.int .i64 ln) (.string N) (.int .i64 0) (.int .i64 0) (.string ⟨#[]⟩) (.slice none 0 0) (.slice none 0 0)by rw[I];exact u.out.set0 _);have HF5:=hid (HF4.out.filled G);have HW5:=hid I;clear I G;go_wp2_with fail
    rw[←HW5.out];clear c2_0 f2_0;refine(xr HM5.out.st (by first|omega|(simp<;>omega)) (by first|omega|(simp<;>omega)) HD.out).mono ?_;rintro e6 J ⟨rfl,H⟩;have HM6:=hid (HM5.out.trans H);have hs6:=H.grown.size;have HBg6:=hid (NdB.grown HBg5.out H.grown (show X.P<g by omega));have HF6:=hid (HF5.out.grown H.grown);clear H;go_wp2_with fail
    refine(je X _ _ HM6.out.st (by first|omega|(simp<;>omega)) (by first|omega|(simp<;>omega))).mono ?_;rintro e7 w7 ⟨rfl,hm7⟩;have HM7:=hid (HM6.out.trans hm7);have hs7:=hm7.grown.size;have HBg7:=hid (NdB.grown HBg6.out hm7.grown (show X.P<g by omega));have HF7:=hid (HF6.out.grown hm7.grown);clear hm7;go_wp2_with fail
    refine(qT HM7.out.st (s:=⟨#[93]⟩) (L:= [93]) rfl).mono ?_;rintro e8 A ⟨rfl,Q⟩;have HM8:=hid (HM7.out.trans Q);have hs8:=Q.grown.size;have HBg8:=hid (NdB.grown HBg7.out Q.grown (show X.P<g by omega));have HF8:=hid (HF7.out.grown Q.grown);clear Q;go_wp2_with fail
    go_meet
    exact⟨_,N,43,.nil,_,HM8,(by first|omega|(simp<;>omega)),HBg8,hid (OwnN.nil _ _),by show 0≤2;omega,hid trivial,HF8,by omega,hid (HQL.out)⟩
   |true=>
    have HD:=hid hd;rw[if_pos hd]at hr;have hle:=js hd;simp only[nextS_deep]at hle;clear hd
    cases hq5:qa X.l F .expr (qh (qb p2))with
    |none=>rw[hq5]at hr;cases hr
    |some q5=>
    obtain⟨n5,p5⟩:=q5;rw[hq5]at hr;replace hr:((qa X.l F .expr (qf X.l p5 [46,46])).bind fun y=>xc X.l F N 43 (n5.app y.1) (qf X.l (qu y.2) [93]))=some (l,s,o,q):=hr;have HQ5:=hid hq5;clear hq5
    cases hq6:qa X.l F .expr (qf X.l p5 [46,46])with
    |none=>rw[hq6]at hr;cases hr
    |some q6=>
    obtain⟨n6,p6⟩:=q6;rw[hq6]at hr;replace hr:xc X.l F N 43 (n5.app n6) (qf X.l (qu p6) [93])=some (l,s,o,q):=hr;have HQ6:=hid hq6;clear hq6;have HQL:=hid hr;clear hr;have c2_0:=u.out.c0;have f2_0:=u.out.fr 0;obtain⟨v,I⟩: ∃W,W=(w4.setCell ⟨g,0,none⟩ (.int .i64 43)):=⟨_,rfl⟩
    have G:w4.grownBy v (some g):=by rw[I];exact qv _ _ _ _
    have hs5:=G.size;have HM5:=hid (HM4.out.node u.out (by omega) (by omega) G);have HBg5:=hid (show NdB v g (.int .i64 43) (.int .i64 ln) (.string N) (.int .i64 0) (.int .i64 0) (.string ⟨#[]⟩) (.slice none 0 0) (.slice none 0 0)by rw[I];exact u.out.set0 _);have HF5:=hid (HF4.out.filled G);have HW5:=hid I;clear I G;go_wp2_with fail
    rw[←HW5.out];clear c2_0 f2_0;refine(jJ HM5.out.st (by first|omega|(simp<;>omega)) (by first|omega|(simp<;>omega)) HD.out).mono ?_;rintro e6 J ⟨rfl,H⟩;have HM6:=hid (HM5.out.trans H);have hs6:=H.grown.size;have HBg6:=hid (NdB.grown HBg5.out H.grown (show X.P<g by omega));have HF6:=hid (HF5.out.grown H.grown);clear H;obtain⟨c,C⟩: ∃acc:NL,acc= .nil:=⟨_,rfl⟩
    have HAL:=hid C;have hal0:c.len≤0:=by rw[C];exact Nat.le_refl _
    have HBe:=hid (show NdB J g (.int .i64 43) (.int .i64 ln) (.string N) (.int .i64 0) (.int .i64 0) (.string ⟨#[]⟩) (.slice none 0 0) (.slice none c.len 0)by rw[C];exact HBg6.out);have HOe:=hid (show OwnN J (DG w.heap.size g) (.slice none c.len 0) c by rw[C];exact OwnN.nil _ _);clear C;go_upto_region 5 with fail
    go_cut [] (fun wx7=>zC X a J p5 w.heap.size g (.int .i64 43) (.int .i64 ln) (.string N) (.int .i64 0) (.int .i64 0) (.string ⟨#[]⟩) (.slice none 0 0) c n5 1 (p.deep+1) wx7)
    case first=>
     have c7:=HBe.out.c7;have vlt:=hid (fun g0 (hg0:(.slice none c.len 0:Value).ownBlock=some g0)=>(HOe.out.ge g0 hg0).2);have k:=hid (show Below J.heap.size J J.drew from(Below.refl _ _).drew);have m:=hid (show Mvd a J.drew X (qh (qb p2))from HM6.out.below k.out);have Z:J.drew.heap.size=J.heap.size+0:=by show J.heap.size=_;rfl
     have i:=hid (show Below J.heap.size J (J.alloc (.cells #[.int .i64 0,.int .i64 0,.string ⟨#[]⟩,.int .i64 0,.int .i64 0,.string ⟨#[]⟩,.slice none 0 0,.slice none 0 0] 31)).drew from((Below.refl _ _).alloc (Nat.le_refl _) _).drew);have n:=hid (show Mvd a (J.alloc (.cells #[.int .i64 0,.int .i64 0,.string ⟨#[]⟩,.int .i64 0,.int .i64 0,.string ⟨#[]⟩,.slice none 0 0,.slice none 0 0] 31)).drew X (qh (qb p2))from HM6.out.below i.out);have aa:(J.alloc (.cells #[.int .i64 0,.int .i64 0,.string ⟨#[]⟩,.int .i64 0,.int .i64 0,.string ⟨#[]⟩,.slice none 0 0,.slice none 0 0] 31)).drew.heap.size=J.heap.size+1:=by show(J.alloc (.cells #[.int .i64 0,.int .i64 0,.string ⟨#[]⟩,.int .i64 0,.int .i64 0,.string ⟨#[]⟩,.slice none 0 0,.slice none 0 0] 31)).heap.size=_;simp
     have B:=hid (show zN (J.alloc (.cells #[.int .i64 0,.int .i64 0,.string ⟨#[]⟩,.int .i64 0,.int .i64 0,.string ⟨#[]⟩,.slice none 0 0,.slice none 0 0] 31)).drew J.heap.size from(show zN (J.alloc (.cells #[.int .i64 0,.int .i64 0,.string ⟨#[]⟩,.int .i64 0,.int .i64 0,.string ⟨#[]⟩,.slice none 0 0,.slice none 0 0] 31)) J.heap.size from zN.new _));have c7z1:(J.alloc (.cells #[.int .i64 0,.int .i64 0,.string ⟨#[]⟩,.int .i64 0,.int .i64 0,.string ⟨#[]⟩,.slice none 0 0,.slice none 0 0] 31)).cell? ⟨g,7,none⟩=some (.slice none c.len 0):=(HBe.out.below' i.out).c7;have S:=hid (show Calls Tryz.prog 26 #[.pointer (some ⟨X.P,0,none⟩)] J.drew (zR X a J p5 w.heap.size g (.int .i64 43) (.int .i64 ln) (.string N) (.int .i64 0) (.int .i64 0) (.string ⟨#[]⟩) (.slice none 0 0) (.slice none c.len 0) c n5 (p.deep+1) none)from qD (d:=p.deep+1) none (EC.out.expr F (Nat.le_refl _) _ _ _ m.out.st (by first|omega|(simp<;>omega)) (by first|omega|(simp<;>omega)) HQ5.out) k.out m.out HBe.out HOe.out (show X.P<w.heap.size by omega) (show X.P<g by omega) (by omega) (by omega) (by omega) (by first|omega|(simp<;>omega)) (fun z hz=>by cases hz));have T:=hid (show Calls Tryz.prog 26 #[.pointer (some ⟨X.P,0,none⟩)] (J.alloc (.cells #[.int .i64 0,.int .i64 0,.string ⟨#[]⟩,.int .i64 0,.int .i64 0,.string ⟨#[]⟩,.slice none 0 0,.slice none 0 0] 31)).drew (zR X a J p5 w.heap.size g (.int .i64 43) (.int .i64 ln) (.string N) (.int .i64 0) (.int .i64 0) (.string ⟨#[]⟩) (.slice none 0 0) (.slice none c.len 0) c n5 (p.deep+1) (some J.heap.size))from qD (d:=p.deep+1) (some J.heap.size) (EC.out.expr F (Nat.le_refl _) _ _ _ n.out.st (by first|omega|(simp<;>omega)) (by first|omega|(simp<;>omega)) HQ5.out) i.out n.out HBe.out HOe.out (show X.P<w.heap.size by omega) (show X.P<g by omega) (by omega) (by omega) (by omega) (by first|omega|(simp<;>omega)) (fun z hz=>by injection hz with hz;subst hz;exact⟨by omega,B.out⟩));have b0:(0:Int)≤((c).len:Int):=by omega
     have b1:((c).len:Int)<((c).len:Int)+1:=by omega
     have hlb:(c).len+1≤1000000000000:=by omega
     clear k m Z i n aa B
     go_region_law
      (first
       |(refine qR (by rfl) (.tmp 21) (.tmp 25) 29 (by rfl) Tryz.underlying29 hi0 hz0 hz1 hz2 (by rfl) (by rfl) R.out.own (by rfl) R.out.rp hlb R.out.dg ?_
         intro g9 c9 w9 r U D;obtain⟨u0,u1,u2,u3,u4,u5,u6,u7,k0,k1,k2,k3,k4,k5,k6,k7,f,m7,n7,ne,ne2,ap⟩:=R.out.fin g9 c9 w9 r U D;have j0:=f ((c).len*8);have j1:=f ((c).len*8+1);have j2:=f ((c).len*8+2);have j3:=f ((c).len*8+3);have j4:=f ((c).len*8+4);have j5:=f ((c).len*8+5);have j6:=f ((c).len*8+6);have j7:=f ((c).len*8+7);have AP:=hid ap
         clear f ap r U D)
       |(go_simp;go_at_call 26;with_reducible refine S.out.mono ?_
         rintro e9 A ⟨op,ln8,t,k9,m9,u9,va,vc,A8,c8,sub,rfl,hn,E⟩;have O:=hid hn;have j:=E.c7;have K:=fun o=>qq j o;have R:=hid E
         clear hn E)
       |(go_simp;go_at_call 26;with_reducible refine T.out.mono ?_
         rintro e9 A ⟨op,ln8,t,k9,m9,u9,va,vc,A8,c8,sub,rfl,hn,E⟩;have O:=hid hn;have j:=E.c7;have K:=fun o=>qq j o;have R:=hid E
         clear hn E))
     all_goals
      go_wp2_with fail
      go_meet
      rw[O.out]
      first
       |exact AP.out _ (.inl (by with_reducible rfl))
       |exact AP.out _ (.inr (by with_reducible rfl))
    case rest=>
     obtain⟨V7,hm7,hd7,hn7,ho7,hx7,hk7,hs7,hf7⟩:=hcut;obtain⟨l7,hl7⟩: ∃L,L=(c).app n5:=⟨_,rfl⟩
     rw[←hl7]at ho7;have hll7:l7.len≤(c).len+1:=by rw[hl7,NL.len_app];omega
     have HL7:=hid hl7;clear hl7;obtain⟨A7,cq7,rfl⟩:=ho7.form;have HM7:=hid hm7;have HBg7:=hid hn7;have HOg7:=hid ho7;have HX7:=hid hk7;have HF7:=hid (HF6.out.then_ (by omega) (by omega) hf7);clear hm7 hn7 ho7 hk7 hf7;go_wp2_with fail
     refine(qT HM7.out.st (s:=⟨#[46,46]⟩) (L:= [46,46]) rfl).mono ?_;rintro e8 A ⟨rfl,Q⟩;have HM8:=hid (HM7.out.trans Q);have hs8:=Q.grown.size;have HBg8:=hid (NdB.grown HBg7.out Q.grown (show X.P<g by omega));have HOg8:=hid (OwnN.grown HOg7.out Q.grown (DG.not (by omega)));have HF8:=hid (HF7.out.grown Q.grown);clear Q;go_upto_region 7 with fail
     go_cut [] (fun wx9=>zC X a A p6 w.heap.size g (.int .i64 43) (.int .i64 ln) (.string N) (.int .i64 0) (.int .i64 0) (.string ⟨#[]⟩) (.slice none 0 0) l7 n6 1 (p.deep+1) wx9)
     case first=>
      have c7:=HBg8.out.c7;have vlt:=hid (fun g0 (hg0:(.slice A7 l7.len cq7:Value).ownBlock=some g0)=>(HOg8.out.ge g0 hg0).2);have k:=hid (show Below A.heap.size A A.drew from(Below.refl _ _).drew);have m:=hid (show Mvd a A.drew X (qf X.l p5 [46,46])from HM8.out.below k.out);have Z:A.drew.heap.size=A.heap.size+0:=by show A.heap.size=_;rfl
      have i:=hid (show Below A.heap.size A (A.alloc (.cells #[.int .i64 0,.int .i64 0,.string ⟨#[]⟩,.int .i64 0,.int .i64 0,.string ⟨#[]⟩,.slice none 0 0,.slice none 0 0] 31)).drew from((Below.refl _ _).alloc (Nat.le_refl _) _).drew);have n:=hid (show Mvd a (A.alloc (.cells #[.int .i64 0,.int .i64 0,.string ⟨#[]⟩,.int .i64 0,.int .i64 0,.string ⟨#[]⟩,.slice none 0 0,.slice none 0 0] 31)).drew X (qf X.l p5 [46,46])from HM8.out.below i.out);have aa:(A.alloc (.cells #[.int .i64 0,.int .i64 0,.string ⟨#[]⟩,.int .i64 0,.int .i64 0,.string ⟨#[]⟩,.slice none 0 0,.slice none 0 0] 31)).drew.heap.size=A.heap.size+1:=by show(A.alloc (.cells #[.int .i64 0,.int .i64 0,.string ⟨#[]⟩,.int .i64 0,.int .i64 0,.string ⟨#[]⟩,.slice none 0 0,.slice none 0 0] 31)).heap.size=_;simp
      have B:=hid (show zN (A.alloc (.cells #[.int .i64 0,.int .i64 0,.string ⟨#[]⟩,.int .i64 0,.int .i64 0,.string ⟨#[]⟩,.slice none 0 0,.slice none 0 0] 31)).drew A.heap.size from(show zN (A.alloc (.cells #[.int .i64 0,.int .i64 0,.string ⟨#[]⟩,.int .i64 0,.int .i64 0,.string ⟨#[]⟩,.slice none 0 0,.slice none 0 0] 31)) A.heap.size from zN.new _));have c7z1:(A.alloc (.cells #[.int .i64 0,.int .i64 0,.string ⟨#[]⟩,.int .i64 0,.int .i64 0,.string ⟨#[]⟩,.slice none 0 0,.slice none 0 0] 31)).cell? ⟨g,7,none⟩=some (.slice A7 l7.len cq7):=(HBg8.out.below' i.out).c7;have S:=hid (show Calls Tryz.prog 26 #[.pointer (some ⟨X.P,0,none⟩)] A.drew (zR X a A p6 w.heap.size g (.int .i64 43) (.int .i64 ln) (.string N) (.int .i64 0) (.int .i64 0) (.string ⟨#[]⟩) (.slice none 0 0) (.slice A7 l7.len cq7) l7 n6 (p.deep+1) none)from qD (d:=p.deep+1) none (EC.out.expr F (Nat.le_refl _) _ _ _ m.out.st (by first|omega|(simp<;>omega)) (by first|omega|(simp<;>omega)) HQ6.out) k.out m.out HBg8.out HOg8.out (show X.P<w.heap.size by omega) (show X.P<g by omega) (by omega) (by omega) (by omega) (by first|omega|(simp<;>omega)) (fun z hz=>by cases hz));have T:=hid (show Calls Tryz.prog 26 #[.pointer (some ⟨X.P,0,none⟩)] (A.alloc (.cells #[.int .i64 0,.int .i64 0,.string ⟨#[]⟩,.int .i64 0,.int .i64 0,.string ⟨#[]⟩,.slice none 0 0,.slice none 0 0] 31)).drew (zR X a A p6 w.heap.size g (.int .i64 43) (.int .i64 ln) (.string N) (.int .i64 0) (.int .i64 0) (.string ⟨#[]⟩) (.slice none 0 0) (.slice A7 l7.len cq7) l7 n6 (p.deep+1) (some A.heap.size))from qD (d:=p.deep+1) (some A.heap.size) (EC.out.expr F (Nat.le_refl _) _ _ _ n.out.st (by first|omega|(simp<;>omega)) (by first|omega|(simp<;>omega)) HQ6.out) i.out n.out HBg8.out HOg8.out (show X.P<w.heap.size by omega) (show X.P<g by omega) (by omega) (by omega) (by omega) (by first|omega|(simp<;>omega)) (fun z hz=>by injection hz with hz;subst hz;exact⟨by omega,B.out⟩));have b0:(0:Int)≤((l7).len:Int):=by omega
      have b1:((l7).len:Int)<((l7).len:Int)+1:=by omega
      have hlb:(l7).len+1≤1000000000000:=by omega
      clear k m Z i n aa B
      go_region_law
       (first
        |(refine qR (by rfl) (.tmp 35) (.tmp 39) 29 (by rfl) Tryz.underlying29 hi0 hz0 hz1 hz2 (by rfl) (by rfl) R.out.own (by rfl) R.out.rp hlb R.out.dg ?_
          intro g9 c9 w9 r U D;obtain⟨u0,u1,u2,u3,u4,u5,u6,u7,k0,k1,k2,k3,k4,k5,k6,k7,f,m7,n7,ne,ne2,ap⟩:=R.out.fin g9 c9 w9 r U D;have j0:=f ((l7).len*8);have j1:=f ((l7).len*8+1);have j2:=f ((l7).len*8+2);have j3:=f ((l7).len*8+3);have j4:=f ((l7).len*8+4);have j5:=f ((l7).len*8+5);have j6:=f ((l7).len*8+6);have j7:=f ((l7).len*8+7);have AP:=hid ap
          clear f ap r U D)
        |(go_simp;go_at_call 26;with_reducible refine S.out.mono ?_
          rintro e9 A ⟨op,ln8,t,k9,m9,u9,va,vc,A8,c8,sub,rfl,hn,E⟩;have O:=hid hn;have j:=E.c7;have K:=fun o=>qq j o;have R:=hid E
          clear hn E)
        |(go_simp;go_at_call 26;with_reducible refine T.out.mono ?_
          rintro e9 A ⟨op,ln8,t,k9,m9,u9,va,vc,A8,c8,sub,rfl,hn,E⟩;have O:=hid hn;have j:=E.c7;have K:=fun o=>qq j o;have R:=hid E
          clear hn E))
      all_goals
       go_wp2_with fail
       go_meet
       rw[O.out]
       first
        |exact AP.out _ (.inl (by with_reducible rfl))
        |exact AP.out _ (.inr (by with_reducible rfl))
     case rest=>
      obtain⟨V9,hm9,hd9,hn9,ho9,hx9,hk9,hs9,hf9⟩:=hcut;obtain⟨l9,hl9⟩: ∃L,L=(l7).app n6:=⟨_,rfl⟩
      rw[←hl9]at ho9;have hll9:l9.len≤(l7).len+1:=by rw[hl9,NL.len_app];omega
      have HL9:=hid hl9;clear hl9;obtain⟨A9,cq9,rfl⟩:=ho9.form;have HM9:=hid hm9;have HBg9:=hid hn9;have HOg9:=hid ho9;have HX9:=hid hk9;have HF9:=hid (HF8.out.then_ (by omega) (by omega) hf9);clear hm9 hn9 ho9 hk9 hf9;go_wp2_with fail
      refine(je X _ _ HM9.out.st (by first|omega|(simp<;>omega)) (by first|omega|(simp<;>omega))).mono ?_;rintro e10 w10 ⟨rfl,hm10⟩;have HM10:=hid (HM9.out.trans hm10);have hs10:=hm10.grown.size;have HBg10:=hid (NdB.grown HBg9.out hm10.grown (show X.P<g by omega));have HOg10:=hid (OwnN.grown HOg9.out hm10.grown (DG.not (by omega)));have HF10:=hid (HF9.out.grown hm10.grown);clear hm10;go_wp2_with fail
      refine(qT HM10.out.st (s:=⟨#[93]⟩) (L:= [93]) rfl).mono ?_;rintro e11 w11 ⟨rfl,hm11⟩;have HM11:=hid (HM10.out.trans hm11);have hs11:=hm11.grown.size;have HBg11:=hid (NdB.grown HBg10.out hm11.grown (show X.P<g by omega));have HOg11:=hid (OwnN.grown HOg10.out hm11.grown (DG.not (by omega)));have HF11:=hid (HF10.out.grown hm11.grown);clear hm11;go_wp2_with fail
      go_meet
      exact⟨_,N,43,_,_,HM11,(by first|omega|(simp<;>omega)),HBg11,HOg11,by omega,hid (by rw[HL9.out,HL7.out,HAL.out];exact qG _ _ (qG _ _ trivial HX7.out) HX9.out),HF11,by omega,hid (by rw[HL9.out,HL7.out,HAL.out];exact HQL.out)⟩
  |false=>
   rw[if_neg (by rw[hb];decide)]at hr;replace Y:p3=p2:=Y;subst Y;clear hb
   cases hq5:qa X.l F .head p3 with
   |none=>rw[hq5]at hr;cases hr
   |some q5=>
   obtain⟨n5,p5⟩:=q5;rw[hq5]at hr;replace hr:xc X.l F N 42 n5 p5=some (l,s,o,q):=hr;have HQ5:=hid hq5;clear hq5;have HQL:=hid hr;clear hr;have c2_0:=u.out.c0;have f2_0:=u.out.fr 0;obtain⟨v,I⟩: ∃W,W=(w4.setCell ⟨g,0,none⟩ (.int .i64 42)):=⟨_,rfl⟩
   have G:w4.grownBy v (some g):=by rw[I];exact qv _ _ _ _
   have hs5:=G.size;have HM5:=hid (HM4.out.node u.out (by omega) (by omega) G);have HBg5:=hid (show NdB v g (.int .i64 42) (.int .i64 ln) (.string N) (.int .i64 0) (.int .i64 0) (.string ⟨#[]⟩) (.slice none 0 0) (.slice none 0 0)by rw[I];exact u.out.set0 _);have HF5:=hid (HF4.out.filled G);have HW5:=hid I;clear I G;go_wp2_with fail
   rw[←HW5.out];clear c2_0 f2_0;obtain⟨c,C⟩: ∃acc:NL,acc= .nil:=⟨_,rfl⟩
   have HAL:=hid C;have hal0:c.len≤0:=by rw[C];exact Nat.le_refl _
   have HBe:=hid (show NdB v g (.int .i64 42) (.int .i64 ln) (.string N) (.int .i64 0) (.int .i64 0) (.string ⟨#[]⟩) (.slice none 0 0) (.slice none c.len 0)by rw[C];exact HBg5.out);have HOe:=hid (show OwnN v (DG w.heap.size g) (.slice none c.len 0) c by rw[C];exact OwnN.nil _ _);clear C;go_upto_region 11 with fail
   go_cut [] (fun wx6=>zC X a v p5 w.heap.size g (.int .i64 42) (.int .i64 ln) (.string N) (.int .i64 0) (.int .i64 0) (.string ⟨#[]⟩) (.slice none 0 0) c n5 1 (p.deep+0) wx6)
   case first=>
    have c7:=HBe.out.c7;have vlt:=hid (fun g0 (hg0:(.slice none c.len 0:Value).ownBlock=some g0)=>(HOe.out.ge g0 hg0).2);have k:=hid (show Below v.heap.size v v.drew from(Below.refl _ _).drew);have m:=hid (show Mvd a v.drew X p3 from HM5.out.below k.out);have Z:v.drew.heap.size=v.heap.size+0:=by show v.heap.size=_;rfl
    have i:=hid (show Below v.heap.size v (v.alloc (.cells #[.int .i64 0,.int .i64 0,.string ⟨#[]⟩,.int .i64 0,.int .i64 0,.string ⟨#[]⟩,.slice none 0 0,.slice none 0 0] 31)).drew from((Below.refl _ _).alloc (Nat.le_refl _) _).drew);have n:=hid (show Mvd a (v.alloc (.cells #[.int .i64 0,.int .i64 0,.string ⟨#[]⟩,.int .i64 0,.int .i64 0,.string ⟨#[]⟩,.slice none 0 0,.slice none 0 0] 31)).drew X p3 from HM5.out.below i.out);have aa:(v.alloc (.cells #[.int .i64 0,.int .i64 0,.string ⟨#[]⟩,.int .i64 0,.int .i64 0,.string ⟨#[]⟩,.slice none 0 0,.slice none 0 0] 31)).drew.heap.size=v.heap.size+1:=by show(v.alloc (.cells #[.int .i64 0,.int .i64 0,.string ⟨#[]⟩,.int .i64 0,.int .i64 0,.string ⟨#[]⟩,.slice none 0 0,.slice none 0 0] 31)).heap.size=_;simp
    have B:=hid (show zN (v.alloc (.cells #[.int .i64 0,.int .i64 0,.string ⟨#[]⟩,.int .i64 0,.int .i64 0,.string ⟨#[]⟩,.slice none 0 0,.slice none 0 0] 31)).drew v.heap.size from(show zN (v.alloc (.cells #[.int .i64 0,.int .i64 0,.string ⟨#[]⟩,.int .i64 0,.int .i64 0,.string ⟨#[]⟩,.slice none 0 0,.slice none 0 0] 31)) v.heap.size from zN.new _));have c7z1:(v.alloc (.cells #[.int .i64 0,.int .i64 0,.string ⟨#[]⟩,.int .i64 0,.int .i64 0,.string ⟨#[]⟩,.slice none 0 0,.slice none 0 0] 31)).cell? ⟨g,7,none⟩=some (.slice none c.len 0):=(HBe.out.below' i.out).c7;have S:=hid (show Calls Tryz.prog 69 #[.pointer (some ⟨X.P,0,none⟩)] v.drew (zR X a v p5 w.heap.size g (.int .i64 42) (.int .i64 ln) (.string N) (.int .i64 0) (.int .i64 0) (.string ⟨#[]⟩) (.slice none 0 0) (.slice none c.len 0) c n5 (p.deep+0) none)from qD (d:=p.deep+0) none (IH.out.head F (Nat.le_refl _) _ _ _ m.out.st (by first|omega|(simp<;>omega)) (by first|omega|(simp<;>omega)) HQ5.out) k.out m.out HBe.out HOe.out (show X.P<w.heap.size by omega) (show X.P<g by omega) (by omega) (by omega) (by omega) (by first|omega|(simp<;>omega)) (fun z hz=>by cases hz));have T:=hid (show Calls Tryz.prog 69 #[.pointer (some ⟨X.P,0,none⟩)] (v.alloc (.cells #[.int .i64 0,.int .i64 0,.string ⟨#[]⟩,.int .i64 0,.int .i64 0,.string ⟨#[]⟩,.slice none 0 0,.slice none 0 0] 31)).drew (zR X a v p5 w.heap.size g (.int .i64 42) (.int .i64 ln) (.string N) (.int .i64 0) (.int .i64 0) (.string ⟨#[]⟩) (.slice none 0 0) (.slice none c.len 0) c n5 (p.deep+0) (some v.heap.size))from qD (d:=p.deep+0) (some v.heap.size) (IH.out.head F (Nat.le_refl _) _ _ _ n.out.st (by first|omega|(simp<;>omega)) (by first|omega|(simp<;>omega)) HQ5.out) i.out n.out HBe.out HOe.out (show X.P<w.heap.size by omega) (show X.P<g by omega) (by omega) (by omega) (by omega) (by first|omega|(simp<;>omega)) (fun z hz=>by injection hz with hz;subst hz;exact⟨by omega,B.out⟩));have b0:(0:Int)≤((c).len:Int):=by omega
    have b1:((c).len:Int)<((c).len:Int)+1:=by omega
    have hlb:(c).len+1≤1000000000000:=by omega
    clear k m Z i n aa B
    go_region_law
     (first
      |(refine qR (by rfl) (.tmp 54) (.tmp 58) 29 (by rfl) Tryz.underlying29 hi0 hz0 hz1 hz2 (by rfl) (by rfl) R.out.own (by rfl) R.out.rp hlb R.out.dg ?_
        intro g9 c9 w9 r U D;obtain⟨u0,u1,u2,u3,u4,u5,u6,u7,k0,k1,k2,k3,k4,k5,k6,k7,f,m7,n7,ne,ne2,ap⟩:=R.out.fin g9 c9 w9 r U D;have j0:=f ((c).len*8);have j1:=f ((c).len*8+1);have j2:=f ((c).len*8+2);have j3:=f ((c).len*8+3);have j4:=f ((c).len*8+4);have j5:=f ((c).len*8+5);have j6:=f ((c).len*8+6);have j7:=f ((c).len*8+7);have AP:=hid ap
        clear f ap r U D)
      |(go_simp;go_at_call 69;with_reducible refine S.out.mono ?_
        rintro e9 A ⟨op,ln8,t,k9,m9,u9,va,vc,A8,c8,sub,rfl,hn,E⟩;have O:=hid hn;have j:=E.c7;have K:=fun o=>qq j o;have R:=hid E
        clear hn E)
      |(go_simp;go_at_call 69;with_reducible refine T.out.mono ?_
        rintro e9 A ⟨op,ln8,t,k9,m9,u9,va,vc,A8,c8,sub,rfl,hn,E⟩;have O:=hid hn;have j:=E.c7;have K:=fun o=>qq j o;have R:=hid E
        clear hn E))
    all_goals
     go_wp2_with fail
     go_meet
     rw[O.out]
     first
      |exact AP.out _ (.inl (by with_reducible rfl))
      |exact AP.out _ (.inr (by with_reducible rfl))
   case rest=>
    obtain⟨V6,H,hd6,hn6,ho6,hx6,hk6,hs6,hf6⟩:=hcut;obtain⟨l6,hl6⟩: ∃L,L=(c).app n5:=⟨_,rfl⟩
    rw[←hl6]at ho6;have hll6:l6.len≤(c).len+1:=by rw[hl6,NL.len_app];omega
    have HL6:=hid hl6;clear hl6;obtain⟨A6,cq6,rfl⟩:=ho6.form;have HM6:=hid H;have HBg6:=hid hn6;have HOg6:=hid ho6;have HX6:=hid hk6;have HF6:=hid (HF5.out.then_ (by omega) (by omega) hf6);clear H hn6 ho6 hk6 hf6;go_wp2_with fail
    go_meet
    exact⟨_,N,42,_,_,HM6,(by first|omega|(simp<;>omega)),HBg6,HOg6,by omega,hid (by rw[HL6.out,HAL.out];exact qG _ _ trivial HX6.out),HF6,by omega,hid (by rw[HL6.out,HAL.out];exact HQL.out)⟩
 case rest=>
  obtain⟨V,s3,o3,M,q3,HM3,hqd3,HB3,HO3,hn3,HK3,HF3,hs3,HQL⟩:=hcut;clear HR;obtain⟨A3,C3,rfl⟩:=HO3.out.form;have hr:=HQL.out;unfold xc at hr
  cases hq7:qa X.l F (.block [zM]) q3 with
  |none=>rw[hq7]at hr;cases hr
  |some q7=>
  obtain⟨n7,p7⟩:=q7;rw[hq7]at hr;replace hr:some (M.app n7,s3,o3,qf X.l p7 zM)=some (l,s,o,q):=hr;have HQ7:=hid hq7;clear hq7;simp only[Option.some.injEq,Prod.mk.injEq]at hr;obtain⟨rfl,rfl,rfl,rfl⟩:=hr;go_wp2_with fail
  go_upto_region 12 with fail
  go_cut [] (fun wx41=>zC X a wc p7 w.heap.size g (.int .i64 o3) (.int .i64 ln) (.string s3) (.int .i64 0) (.int .i64 0) (.string ⟨#[]⟩) (.slice none 0 0) M n7 1 (p.deep+0) wx41)
  case first=>
   have c7:=HB3.out.c7;have vlt:=hid (fun g0 (hg0:(.slice A3 M.len C3:Value).ownBlock=some g0)=>(HO3.out.ge g0 hg0).2);have k:=hid (show Below wc.heap.size wc (wc.alloc (.cells #[.string ⟨#[101,110,100,102,111,114]⟩] 9)).drew from((Below.refl _ _).alloc (Nat.le_refl _) _).drew);have m:=hid (show Mvd a (wc.alloc (.cells #[.string ⟨#[101,110,100,102,111,114]⟩] 9)).drew X q3 from HM3.out.below k.out);have Z:(wc.alloc (.cells #[.string ⟨#[101,110,100,102,111,114]⟩] 9)).drew.heap.size=wc.heap.size+1:=by show(wc.alloc (.cells #[.string ⟨#[101,110,100,102,111,114]⟩] 9)).heap.size=_;simp
   have HSG0:=hid (show StrG (wc.alloc (.cells #[.string ⟨#[101,110,100,102,111,114]⟩] 9)).drew wc.heap.size [[101,110,100,102,111,114]]from(show StrG (wc.alloc (.cells #[.string ⟨#[101,110,100,102,111,114]⟩] 9)) wc.heap.size [[101,110,100,102,111,114]]from zg wc [[101,110,100,102,111,114]] _ rfl));have c7z0:(wc.alloc (.cells #[.string ⟨#[101,110,100,102,111,114]⟩] 9)).cell? ⟨g,7,none⟩=some (.slice A3 M.len C3):=(HB3.out.below' k.out).c7;have i:=hid (show Below wc.heap.size wc ((wc.alloc (.cells #[.string ⟨#[101,110,100,102,111,114]⟩] 9)).alloc (.cells #[.int .i64 0,.int .i64 0,.string ⟨#[]⟩,.int .i64 0,.int .i64 0,.string ⟨#[]⟩,.slice none 0 0,.slice none 0 0] 31)).drew from(((Below.refl _ _).alloc (Nat.le_refl _) _).alloc (by rw[World.size_alloc];omega) _).drew);have n:=hid (show Mvd a ((wc.alloc (.cells #[.string ⟨#[101,110,100,102,111,114]⟩] 9)).alloc (.cells #[.int .i64 0,.int .i64 0,.string ⟨#[]⟩,.int .i64 0,.int .i64 0,.string ⟨#[]⟩,.slice none 0 0,.slice none 0 0] 31)).drew X q3 from HM3.out.below i.out);have aa:((wc.alloc (.cells #[.string ⟨#[101,110,100,102,111,114]⟩] 9)).alloc (.cells #[.int .i64 0,.int .i64 0,.string ⟨#[]⟩,.int .i64 0,.int .i64 0,.string ⟨#[]⟩,.slice none 0 0,.slice none 0 0] 31)).drew.heap.size=wc.heap.size+2:=by show((wc.alloc (.cells #[.string ⟨#[101,110,100,102,111,114]⟩] 9)).alloc (.cells #[.int .i64 0,.int .i64 0,.string ⟨#[]⟩,.int .i64 0,.int .i64 0,.string ⟨#[]⟩,.slice none 0 0,.slice none 0 0] 31)).heap.size=_;simp
   have HSG1:=hid (show StrG ((wc.alloc (.cells #[.string ⟨#[101,110,100,102,111,114]⟩] 9)).alloc (.cells #[.int .i64 0,.int .i64 0,.string ⟨#[]⟩,.int .i64 0,.int .i64 0,.string ⟨#[]⟩,.slice none 0 0,.slice none 0 0] 31)).drew wc.heap.size [[101,110,100,102,111,114]]from(show StrG ((wc.alloc (.cells #[.string ⟨#[101,110,100,102,111,114]⟩] 9)).alloc (.cells #[.int .i64 0,.int .i64 0,.string ⟨#[]⟩,.int .i64 0,.int .i64 0,.string ⟨#[]⟩,.slice none 0 0,.slice none 0 0] 31)) wc.heap.size [[101,110,100,102,111,114]]from(zg wc [[101,110,100,102,111,114]] _ rfl).keep (Below.heap_alloc _ _ _ (by simp only[World.size_alloc];omega)) (by simp only[World.size_alloc];omega)));have B:=hid (show zN ((wc.alloc (.cells #[.string ⟨#[101,110,100,102,111,114]⟩] 9)).alloc (.cells #[.int .i64 0,.int .i64 0,.string ⟨#[]⟩,.int .i64 0,.int .i64 0,.string ⟨#[]⟩,.slice none 0 0,.slice none 0 0] 31)).drew (wc.heap.size+1)from(show zN ((wc.alloc (.cells #[.string ⟨#[101,110,100,102,111,114]⟩] 9)).alloc (.cells #[.int .i64 0,.int .i64 0,.string ⟨#[]⟩,.int .i64 0,.int .i64 0,.string ⟨#[]⟩,.slice none 0 0,.slice none 0 0] 31)) (wc.heap.size+1)from zN.new1 _ _));have c7z1:((wc.alloc (.cells #[.string ⟨#[101,110,100,102,111,114]⟩] 9)).alloc (.cells #[.int .i64 0,.int .i64 0,.string ⟨#[]⟩,.int .i64 0,.int .i64 0,.string ⟨#[]⟩,.slice none 0 0,.slice none 0 0] 31)).cell? ⟨g,7,none⟩=some (.slice A3 M.len C3):=(HB3.out.below' i.out).c7;have HBC2:=hid (show Below wc.heap.size wc ((wc.alloc (.cells #[.int .i64 0,.int .i64 0,.string ⟨#[]⟩,.int .i64 0,.int .i64 0,.string ⟨#[]⟩,.slice none 0 0,.slice none 0 0] 31)).alloc (.cells #[.string ⟨#[101,110,100,102,111,114]⟩] 9)).drew from(((Below.refl _ _).alloc (Nat.le_refl _) _).alloc (by rw[World.size_alloc];omega) _).drew);have HMC2:=hid (show Mvd a ((wc.alloc (.cells #[.int .i64 0,.int .i64 0,.string ⟨#[]⟩,.int .i64 0,.int .i64 0,.string ⟨#[]⟩,.slice none 0 0,.slice none 0 0] 31)).alloc (.cells #[.string ⟨#[101,110,100,102,111,114]⟩] 9)).drew X q3 from HM3.out.below HBC2.out);have hsc2:((wc.alloc (.cells #[.int .i64 0,.int .i64 0,.string ⟨#[]⟩,.int .i64 0,.int .i64 0,.string ⟨#[]⟩,.slice none 0 0,.slice none 0 0] 31)).alloc (.cells #[.string ⟨#[101,110,100,102,111,114]⟩] 9)).drew.heap.size=wc.heap.size+2:=by show((wc.alloc (.cells #[.int .i64 0,.int .i64 0,.string ⟨#[]⟩,.int .i64 0,.int .i64 0,.string ⟨#[]⟩,.slice none 0 0,.slice none 0 0] 31)).alloc (.cells #[.string ⟨#[101,110,100,102,111,114]⟩] 9)).heap.size=_;simp
   have HSG2:=hid (show StrG ((wc.alloc (.cells #[.int .i64 0,.int .i64 0,.string ⟨#[]⟩,.int .i64 0,.int .i64 0,.string ⟨#[]⟩,.slice none 0 0,.slice none 0 0] 31)).alloc (.cells #[.string ⟨#[101,110,100,102,111,114]⟩] 9)).drew (wc.heap.size+1) [[101,110,100,102,111,114]]from(show StrG ((wc.alloc (.cells #[.int .i64 0,.int .i64 0,.string ⟨#[]⟩,.int .i64 0,.int .i64 0,.string ⟨#[]⟩,.slice none 0 0,.slice none 0 0] 31)).alloc (.cells #[.string ⟨#[101,110,100,102,111,114]⟩] 9)) (wc.heap.size+1) [[101,110,100,102,111,114]]from by have h:=zg (wc.alloc (.cells #[.int .i64 0,.int .i64 0,.string ⟨#[]⟩,.int .i64 0,.int .i64 0,.string ⟨#[]⟩,.slice none 0 0,.slice none 0 0] 31)) [[101,110,100,102,111,114]] _ rfl;rw[World.size_alloc]at h;exact h));have HZC2:=hid (show zN ((wc.alloc (.cells #[.int .i64 0,.int .i64 0,.string ⟨#[]⟩,.int .i64 0,.int .i64 0,.string ⟨#[]⟩,.slice none 0 0,.slice none 0 0] 31)).alloc (.cells #[.string ⟨#[101,110,100,102,111,114]⟩] 9)).drew wc.heap.size from(show zN ((wc.alloc (.cells #[.int .i64 0,.int .i64 0,.string ⟨#[]⟩,.int .i64 0,.int .i64 0,.string ⟨#[]⟩,.slice none 0 0,.slice none 0 0] 31)).alloc (.cells #[.string ⟨#[101,110,100,102,111,114]⟩] 9)) wc.heap.size from(zN.new wc).alloc _));have c7z2:((wc.alloc (.cells #[.int .i64 0,.int .i64 0,.string ⟨#[]⟩,.int .i64 0,.int .i64 0,.string ⟨#[]⟩,.slice none 0 0,.slice none 0 0] 31)).alloc (.cells #[.string ⟨#[101,110,100,102,111,114]⟩] 9)).cell? ⟨g,7,none⟩=some (.slice A3 M.len C3):=(HB3.out.below' HBC2.out).c7;have c7zz:=(HB3.out.below' ((Below.refl _ _).alloc (Nat.le_refl _) (.cells #[.int .i64 0,.int .i64 0,.string ⟨#[]⟩,.int .i64 0,.int .i64 0,.string ⟨#[]⟩,.slice none 0 0,.slice none 0 0] 31))).c7;have S:=hid (show Calls Tryz.prog 70 #[.pointer (some ⟨X.P,0,none⟩),.slice (some ⟨wc.heap.size,0,none⟩) 1 1] (wc.alloc (.cells #[.string ⟨#[101,110,100,102,111,114]⟩] 9)).drew (zR X a wc p7 w.heap.size g (.int .i64 o3) (.int .i64 ln) (.string s3) (.int .i64 0) (.int .i64 0) (.string ⟨#[]⟩) (.slice none 0 0) (.slice A3 M.len C3) M n7 (p.deep+0) none)from qD (d:=p.deep+0) none (IH.out.block F (by omega) [[101,110,100,102,111,114]] (wc.heap.size) _ _ _ m.out.st (by first|omega|(simp<;>omega)) (by first|omega|(simp<;>omega)) (by decide) HSG0.out (by omega) HQ7.out) k.out m.out HB3.out HO3.out (show X.P<w.heap.size by omega) (show X.P<g by omega) (by omega) (by omega) (by omega) (by first|omega|(simp<;>omega)) (fun z hz=>by cases hz));have T:=hid (show Calls Tryz.prog 70 #[.pointer (some ⟨X.P,0,none⟩),.slice (some ⟨wc.heap.size,0,none⟩) 1 1] ((wc.alloc (.cells #[.string ⟨#[101,110,100,102,111,114]⟩] 9)).alloc (.cells #[.int .i64 0,.int .i64 0,.string ⟨#[]⟩,.int .i64 0,.int .i64 0,.string ⟨#[]⟩,.slice none 0 0,.slice none 0 0] 31)).drew (zR X a wc p7 w.heap.size g (.int .i64 o3) (.int .i64 ln) (.string s3) (.int .i64 0) (.int .i64 0) (.string ⟨#[]⟩) (.slice none 0 0) (.slice A3 M.len C3) M n7 (p.deep+0) (some (wc.heap.size+1)))from qD (d:=p.deep+0) (some (wc.heap.size+1)) (IH.out.block F (by omega) [[101,110,100,102,111,114]] (wc.heap.size) _ _ _ n.out.st (by first|omega|(simp<;>omega)) (by first|omega|(simp<;>omega)) (by decide) HSG1.out (by omega) HQ7.out) i.out n.out HB3.out HO3.out (show X.P<w.heap.size by omega) (show X.P<g by omega) (by omega) (by omega) (by omega) (by first|omega|(simp<;>omega)) (fun z hz=>by injection hz with hz;subst hz;exact⟨by omega,B.out⟩));have EXC2:=hid (show Calls Tryz.prog 70 #[.pointer (some ⟨X.P,0,none⟩),.slice (some ⟨(wc.heap.size+1),0,none⟩) 1 1] ((wc.alloc (.cells #[.int .i64 0,.int .i64 0,.string ⟨#[]⟩,.int .i64 0,.int .i64 0,.string ⟨#[]⟩,.slice none 0 0,.slice none 0 0] 31)).alloc (.cells #[.string ⟨#[101,110,100,102,111,114]⟩] 9)).drew (zR X a wc p7 w.heap.size g (.int .i64 o3) (.int .i64 ln) (.string s3) (.int .i64 0) (.int .i64 0) (.string ⟨#[]⟩) (.slice none 0 0) (.slice A3 M.len C3) M n7 (p.deep+0) (some wc.heap.size))from qD (d:=p.deep+0) (some wc.heap.size) (IH.out.block F (by omega) [[101,110,100,102,111,114]] ((wc.heap.size+1)) _ _ _ HMC2.out.st (by first|omega|(simp<;>omega)) (by first|omega|(simp<;>omega)) (by decide) HSG2.out (by omega) HQ7.out) HBC2.out HMC2.out HB3.out HO3.out (show X.P<w.heap.size by omega) (show X.P<g by omega) (by omega) (by omega) (by omega) (by first|omega|(simp<;>omega)) (fun z hz=>by injection hz with hz;subst hz;exact⟨by omega,HZC2.out⟩));have b0:(0:Int)≤((M).len:Int):=by omega
   have b1:((M).len:Int)<((M).len:Int)+1:=by omega
   have hlb:(M).len+1≤1000000000000:=by omega
   clear k m Z HSG0 i n aa HSG1 B HBC2 HMC2 hsc2 HSG2 HZC2
   go_region_law
    (first
     |(refine qR (by rfl) (.tmp 66) (.tmp 71) 29 (by rfl) Tryz.underlying29 hi0 hz0 hz1 hz2 (by rfl) (by rfl) R.out.own (by rfl) R.out.rp hlb R.out.dg ?_
       intro g9 c9 w9 r U D;obtain⟨u0,u1,u2,u3,u4,u5,u6,u7,k0,k1,k2,k3,k4,k5,k6,k7,f,m7,n7,ne,ne2,ap⟩:=R.out.fin g9 c9 w9 r U D;have j0:=f ((M).len*8);have j1:=f ((M).len*8+1);have j2:=f ((M).len*8+2);have j3:=f ((M).len*8+3);have j4:=f ((M).len*8+4);have j5:=f ((M).len*8+5);have j6:=f ((M).len*8+6);have j7:=f ((M).len*8+7);have AP:=hid ap
       clear f ap r U D)
     |(go_simp;go_at_call 70;with_reducible refine S.out.mono ?_
       rintro e9 A ⟨op,ln8,t,k9,m9,u9,va,vc,A8,c8,sub,rfl,hn,E⟩;have O:=hid hn;have j:=E.c7;have K:=fun o=>qq j o;have R:=hid E
       clear hn E)
     |(go_simp;go_at_call 70;with_reducible refine T.out.mono ?_
       rintro e9 A ⟨op,ln8,t,k9,m9,u9,va,vc,A8,c8,sub,rfl,hn,E⟩;have O:=hid hn;have j:=E.c7;have K:=fun o=>qq j o;have R:=hid E
       clear hn E)
     |(go_simp;go_at_call 70;with_reducible refine EXC2.out.mono ?_
       rintro e9 A ⟨op,ln8,t,k9,m9,u9,va,vc,A8,c8,sub,rfl,hn,E⟩;have O:=hid hn;have j:=E.c7;have K:=fun o=>qq j o;have R:=hid E
       clear hn E))
   all_goals
    go_wp2_with fail
    go_meet
    rw[O.out]
    first
     |exact AP.out _ (.inl (by with_reducible rfl))
     |exact AP.out _ (.inr (by with_reducible rfl))
  case rest=>
   obtain⟨V41,hm41,hd41,hn41,ho41,hx41,hk41,hs41,hf41⟩:=hcut;obtain⟨l41,hl41⟩: ∃L,L=(M).app n7:=⟨_,rfl⟩
   rw[←hl41]at ho41;have hll41:l41.len≤(M).len+1:=by rw[hl41,NL.len_app];omega
   have HL41:=hid hl41;clear hl41;obtain⟨A41,cq41,rfl⟩:=ho41.form;have HM41:=hid hm41;have HBg41:=hid hn41;have HOg41:=hid ho41;have HX41:=hid hk41;have HF41:=hid (HF3.out.then_ (by omega) (by omega) hf41);clear hm41 hn41 ho41 hk41 hf41;go_wp2_with fail
   refine(qT HM41.out.st (s:=⟨#[101,110,100,102,111,114]⟩) (L:= [101,110,100,102,111,114]) rfl).mono ?_;rintro e42 w42 ⟨rfl,hm42⟩;have HM42:=hid (HM41.out.trans hm42);have hs42:=hm42.grown.size;have HBg42:=hid (NdB.grown HBg41.out hm42.grown (show X.P<g by omega));have HOg42:=hid (OwnN.grown HOg41.out hm42.grown (DG.not (by omega)));have HF42:=hid (HF41.out.grown hm42.grown);clear hm42;go_wp2_with fail
   go_end0
   exact⟨rfl,_,HM42.out,(by first|omega|(simp<;>omega)),HBg42.out,(by rw[←HL41.out];exact HOg42.out),(by rw[←HL41.out];omega),(qG _ _ HK3.out HX41.out),HF42.out⟩
end Go.Proofs.YtggngahmafbihaaGreatDoor
