/- Contracts, and the plain mathematics beneath. -/
import Derived.Test.YtggngahmafbihaaGreatDoorPerBA
import Derived.Test.YtggngahmafbihaaGreatDoorPerAV
set_option linter.unusedVariables false
set_option linter.unusedSimpArgs false
set_option maxRecDepth 100000
set_option maxHeartbeats 32000000
namespace Go.Proofs.YtggngahmafbihaaGreatDoor
open Go.RowKit Go.Lib
def Q5(l:List Tok)(f:Nat)(p:PS):Option (NL×ByteArray×Int×PS):=(qa l f (.block [zO,z8]) p).bind fun x=>
 if qj l x.2 z8 then(qa l f (.block [zl]) (qb x.2)).bind fun y=>some (x.1.app y.1,⟨#[]⟩,51,qf l y.2 zl)
 else(qa l f (.tryL .nil) x.2).bind fun y=>some (x.1.app y.1,⟨#[]⟩,49,qf l y.2 zl)
def xW(l:List Tok)(p:PS):ByteArray×PS:=if qj l p [40]then(⟨#[]⟩,p)else qE l p
theorem qe9(l:List Tok)(k:Nat)(acc:NL)(q:PS):qa l (k+1) (.tryL acc) q=if q.err.isSome|| !qj l q zO then some (acc,q)else
 (if(qh (qf l (xW l (qb q)).2 [40])).err.isNone then
  (qa l k .codes (qh (qf l (xW l (qb q)).2 [40]))).bind fun x=>
  (qa l k (.block [zO,zl]) (qf l (qu x.2) [41])).bind fun y=>
  qa l k (.tryL (acc.app (nd 50 (qd l q) (xW l (qb q)).1 0 0 ⟨#[]⟩ (x.1.app y.1)))) y.2
  else
   (qa l k (.block [zO,zl]) (qf l (qu (qh (qf l (xW l (qb q)).2 [40]))) [41])).bind fun y=>
   qa l k (.tryL (acc.app (nd 50 (qd l q) (xW l (qb q)).1 0 0 ⟨#[]⟩ y.1))) y.2):=by rw[qa];rfl
def QR(l:List Tok)(k:Nat)(acc:NL)(ln:Int)(s:ByteArray)(n:NL)(p:PS):Option (NL×PS):=
 (qa l k (.block [zO,zl]) (qf l (qu p) [41])).bind fun y=>qa l k (.tryL (acc.app (nd 50 ln s 0 0 ⟨#[]⟩ (n.app y.1)))) y.2
theorem qa7(l:List Tok)(p:PS):(xW l p).2.deep=p.deep:=by
 unfold xW;split
 ·rfl
 ·simp
def qhi(X:PCtx)(wr:World)(b:Nat)(ln:Int)(s:ByteArray)(c:PS)(a:World):Prop:=
 Hid (Mvd wr a X c)∧Hid (NdB a b (.int .i64 50) (.int .i64 ln) (.string s) (.int .i64 0) (.int .i64 0) (.string ⟨#[]⟩) (.slice none 0 0) (.slice none 0 0))∧b<a.heap.size
def qhj(X:PCtx)(wr:World)(b:Nat)(ln:Int)(s:ByteArray)(k:Nat)(acc:NL)(d:Int)(c:NL×PS)(a:World):Prop:=
 ∃(V:Value)(n:NL)(q:PS),Hid (Mvd wr a X q)∧q.deep=d+1∧Hid (NdB a b (.int .i64 50) (.int .i64 ln) (.string s) (.int .i64 0) (.int .i64 0) (.string ⟨#[]⟩) (.slice none 0 0) V)∧Hid (OwnN a (DG (b+1) b) V n)∧n.len≤1∧Hid (qQ n)∧b<a.heap.size∧Hid (QR X.l k acc ln s n q=some c)
theorem i3{fn:Nat}{a f:World}{X:PCtx}{p q:PS}{F i c:Nat}{V J c1 c2 c3 c4 c5 L:Value}{l x:NL}{d:Int}(K:List (List UInt8))(S:Array Value)(n:Nat)(hS:S=(K.map (fun x=>Value.string ⟨x.toArray⟩)).toArray)
 (y: ∀(W:World)(G:Nat),PSt W X p→StrG W G K→X.P<G→Calls Tryz.prog fn #[.pointer (some ⟨X.P,0,none⟩),.slice (some ⟨G,0,none⟩) n n] W (PNd X (fun k=>W.heap.size≤k) W p F (x,q)))
 (hM:Mvd a f X p)(hN:NdB f c J c1 c2 c3 c4 c5 L V)(hO:OwnN f (DG i c) V l)(hP:X.P<i)(C:X.P<c)(ha:a.heap.size≤i)(N:a.heap.size≤c)(O:i≤f.heap.size)(hd:p.deep=d):
 (f.alloc (.cells S 9)).cell? ⟨c,7,none⟩=some V∧((f.alloc (.cells S 9)).alloc (.cells #[.int .i64 0,.int .i64 0,.string ⟨#[]⟩,.int .i64 0,.int .i64 0,.string ⟨#[]⟩,.slice none 0 0,.slice none 0 0] 31)).cell? ⟨c,7,none⟩=some V∧((f.alloc (.cells #[.int .i64 0,.int .i64 0,.string ⟨#[]⟩,.int .i64 0,.int .i64 0,.string ⟨#[]⟩,.slice none 0 0,.slice none 0 0] 31)).alloc (.cells S 9)).cell? ⟨c,7,none⟩=some V∧(f.alloc (.cells #[.int .i64 0,.int .i64 0,.string ⟨#[]⟩,.int .i64 0,.int .i64 0,.string ⟨#[]⟩,.slice none 0 0,.slice none 0 0] 31)).cell? ⟨c,7,none⟩=some V∧
 Hid (Calls Tryz.prog fn #[.pointer (some ⟨X.P,0,none⟩),.slice (some ⟨f.heap.size,0,none⟩) n n] (f.alloc (.cells S 9)).drew (zR X a f q i c J c1 c2 c3 c4 c5 L V l x d none))∧
 Hid (Calls Tryz.prog fn #[.pointer (some ⟨X.P,0,none⟩),.slice (some ⟨f.heap.size,0,none⟩) n n] ((f.alloc (.cells S 9)).alloc (.cells #[.int .i64 0,.int .i64 0,.string ⟨#[]⟩,.int .i64 0,.int .i64 0,.string ⟨#[]⟩,.slice none 0 0,.slice none 0 0] 31)).drew (zR X a f q i c J c1 c2 c3 c4 c5 L V l x d (some (f.heap.size+1))))∧
 Hid (Calls Tryz.prog fn #[.pointer (some ⟨X.P,0,none⟩),.slice (some ⟨(f.heap.size+1),0,none⟩) n n] ((f.alloc (.cells #[.int .i64 0,.int .i64 0,.string ⟨#[]⟩,.int .i64 0,.int .i64 0,.string ⟨#[]⟩,.slice none 0 0,.slice none 0 0] 31)).alloc (.cells S 9)).drew (zR X a f q i c J c1 c2 c3 c4 c5 L V l x d (some f.heap.size))):=by
 have hc:=hN.lt
 have A:Below f.heap.size f (f.alloc (.cells S 9)).drew:=((Below.refl _ _).alloc (Nat.le_refl _) _).drew
 have B:Below f.heap.size f ((f.alloc (.cells S 9)).alloc (.cells #[.int .i64 0,.int .i64 0,.string ⟨#[]⟩,.int .i64 0,.int .i64 0,.string ⟨#[]⟩,.slice none 0 0,.slice none 0 0] 31)).drew:=(((Below.refl _ _).alloc (Nat.le_refl _) _).alloc (by rw[World.size_alloc];omega) _).drew
 have E:Below f.heap.size f ((f.alloc (.cells #[.int .i64 0,.int .i64 0,.string ⟨#[]⟩,.int .i64 0,.int .i64 0,.string ⟨#[]⟩,.slice none 0 0,.slice none 0 0] 31)).alloc (.cells S 9)).drew:=(((Below.refl _ _).alloc (Nat.le_refl _) _).alloc (by rw[World.size_alloc];omega) _).drew
 have u:=hM.below A
 have v:=hM.below B
 have z:=hM.below E
 have g0:StrG (f.alloc (.cells S 9)).drew f.heap.size K:=(show StrG (f.alloc (.cells S 9)) f.heap.size K from zg f K S hS)
 have g1:StrG ((f.alloc (.cells S 9)).alloc (.cells #[.int .i64 0,.int .i64 0,.string ⟨#[]⟩,.int .i64 0,.int .i64 0,.string ⟨#[]⟩,.slice none 0 0,.slice none 0 0] 31)).drew f.heap.size K:=(show StrG ((f.alloc (.cells S 9)).alloc (.cells #[.int .i64 0,.int .i64 0,.string ⟨#[]⟩,.int .i64 0,.int .i64 0,.string ⟨#[]⟩,.slice none 0 0,.slice none 0 0] 31)) f.heap.size K from(zg f K S hS).keep (Below.heap_alloc _ _ _ (by simp only[World.size_alloc];omega)) (by simp only[World.size_alloc];omega))
 have g2:StrG ((f.alloc (.cells #[.int .i64 0,.int .i64 0,.string ⟨#[]⟩,.int .i64 0,.int .i64 0,.string ⟨#[]⟩,.slice none 0 0,.slice none 0 0] 31)).alloc (.cells S 9)).drew (f.heap.size+1) K:=(show StrG ((f.alloc (.cells #[.int .i64 0,.int .i64 0,.string ⟨#[]⟩,.int .i64 0,.int .i64 0,.string ⟨#[]⟩,.slice none 0 0,.slice none 0 0] 31)).alloc (.cells S 9)) (f.heap.size+1) K from by have h:=zg (f.alloc (.cells #[.int .i64 0,.int .i64 0,.string ⟨#[]⟩,.int .i64 0,.int .i64 0,.string ⟨#[]⟩,.slice none 0 0,.slice none 0 0] 31)) K S hS;rw[World.size_alloc]at h;exact h)
 have z1:zN ((f.alloc (.cells S 9)).alloc (.cells #[.int .i64 0,.int .i64 0,.string ⟨#[]⟩,.int .i64 0,.int .i64 0,.string ⟨#[]⟩,.slice none 0 0,.slice none 0 0] 31)).drew (f.heap.size+1):=(show zN ((f.alloc (.cells S 9)).alloc (.cells #[.int .i64 0,.int .i64 0,.string ⟨#[]⟩,.int .i64 0,.int .i64 0,.string ⟨#[]⟩,.slice none 0 0,.slice none 0 0] 31)) (f.heap.size+1)from zN.new1 _ _)
 have z2:zN ((f.alloc (.cells #[.int .i64 0,.int .i64 0,.string ⟨#[]⟩,.int .i64 0,.int .i64 0,.string ⟨#[]⟩,.slice none 0 0,.slice none 0 0] 31)).alloc (.cells S 9)).drew f.heap.size:=(show zN ((f.alloc (.cells #[.int .i64 0,.int .i64 0,.string ⟨#[]⟩,.int .i64 0,.int .i64 0,.string ⟨#[]⟩,.slice none 0 0,.slice none 0 0] 31)).alloc (.cells S 9)) f.heap.size from(zN.new f).alloc _)
 exact⟨(hN.below' A).c7,(hN.below' B).c7,(hN.below' E).c7,(hN.below' ((Below.refl _ _).alloc (Nat.le_refl _) (.cells #[.int .i64 0,.int .i64 0,.string ⟨#[]⟩,.int .i64 0,.int .i64 0,.string ⟨#[]⟩,.slice none 0 0,.slice none 0 0] 31))).c7,
  hid (qD none (y _ _ u.st g0 (by omega)) A u hN hO hP C ha N O hd (fun z hz=>by cases hz)),
  hid (qD (some (f.heap.size+1)) (y _ _ v.st g1 (by omega)) B v hN hO hP C ha N O hd (fun z hz=>by injection hz with hz;subst hz;exact⟨by omega,z1⟩)),
  hid (qD (some f.heap.size) (y _ _ z.st g2 (by omega)) E z hN hO hP C ha N O hd (fun z hz=>by injection hz with hz;subst hz;exact⟨by omega,z2⟩))⟩
def zzK(l:List Tok)(f:Nat)(p:PS)(b:Bool):Option (NL×ByteArray×Int×PS):=match qa l f (.block [zO,z8]) p with
 |some x=>if qj l x.2 z8=b then Q5 l f p else none
 |none=>none
theorem zzE{l:List Tok}{f:Nat}{p:PS}{b:Bool}{r:NL×ByteArray×Int×PS}(h:zzK l f p b=some r):Q5 l f p=some r∧ ∀x,qa l f (.block [zO,z8]) p=some x→qj l x.2 z8=b:=by
 unfold zzK at h
 cases hx:qa l f (.block [zO,z8]) p with
 |none=>rw[hx]at h;cases h
 |some x=>
  rw[hx]at h
  by_cases c:qj l x.2 z8=b
  ·simp only[if_pos c]at h
   exact⟨h,fun y hy=>by injection hy with hy;subst hy;exact c⟩
  ·simp only[if_neg c]at h
   cases h
theorem zzI{l:List Tok}{f:Nat}{p:PS}{r:NL×ByteArray×Int×PS}(h:Q5 l f p=some r): ∃b,zzK l f p b=some r:=by
 unfold zzK
 cases hx:qa l f (.block [zO,z8]) p with
 |none=>unfold Q5 at h;rw[hx]at h;cases h
 |some x=>exact⟨qj l x.2 z8,by simp only[if_true];exact h⟩
theorem zzT(X:PCtx)(F:Nat)(hF:F≤1000000000)(ec:EC X F)(ih:SC X F):Q8 X 71 F (fun p=>zzK X.l F p true):=by
 intro a w p g ln l s o q hm hN hPg hag h0 h1 hr0;obtain⟨hr,hsel⟩:=zzE hr0;clear hr0;have SEL:=hid hsel;clear hsel;obtain⟨i0,hi0,hz0,hz1,hz2⟩:=info_parts qz;have hgw:=hN.lt;have haw:=hm.grown.size;have hPl:=hm.st.lt;have hlen:=hm.st.len;have EC:=hid ec;have IH:=hid ih;have HMw:=hid hm;have HBg:=hid hN;have HF0:=hid (Frm.refl X g w);clear hm hN ih ec;have HR:=hid (show Q5 X.l F p=some (l,s,o,q)from hr);clear hr
 cases hq5:qa X.l F (.block [zO,z8]) p with
 |none=>have h:=HR.out;unfold Q5 at h;rw[hq5]at h;cases h
 |some q5=>
 obtain⟨n5,p5⟩:=q5
 replace HR:=hid (show(if qj X.l p5 z8 then(qa X.l F (.block [zl]) (qb p5)).bind fun y=>some (n5.app y.1,(⟨#[]⟩:ByteArray),(51:Int),qf X.l y.2 zl)
  else(qa X.l F (.tryL .nil) p5).bind fun y=>some (n5.app y.1,⟨#[]⟩,49,qf X.l y.2 zl))=some (l,s,o,q)by have h:=HR.out;unfold Q5 at h;rw[hq5]at h;exact h)
 have HQ5:=hid hq5;clear hq5;go_enter Tryz.func71,Tryz.ntmps71
 have c1_0:=HBg.out.c0;have f1_0:=HBg.out.fr 0;obtain⟨f,hw1⟩: ∃W,W=(w.setCell ⟨g,0,none⟩ (.int .i64 49)):=⟨_,rfl⟩
 have hg1:w.grownBy f (some g):=by rw[hw1];exact qv _ _ _ _
 have hs1:=hg1.size;have HM1:=hid (HMw.out.node HBg.out (by omega) (by omega) hg1);have HBg1:=hid (show NdB f g (.int .i64 49) (.int .i64 ln) (.string ⟨#[]⟩) (.int .i64 0) (.int .i64 0) (.string ⟨#[]⟩) (.slice none 0 0) (.slice none 0 0)by rw[hw1];exact HBg.out.set0 _);have HF1:=hid (HF0.out.filled hg1);have HW1:=hid hw1;clear hw1 hg1;go_wp2_with fail
 rw[←HW1.out];clear c1_0 f1_0;obtain⟨c,hacc⟩: ∃acc:NL,acc= .nil:=⟨_,rfl⟩
 have HAL:=hid hacc;have hal0:c.len≤0:=by rw[hacc];exact Nat.le_refl _
 have HBe:=hid (show NdB f g (.int .i64 49) (.int .i64 ln) (.string ⟨#[]⟩) (.int .i64 0) (.int .i64 0) (.string ⟨#[]⟩) (.slice none 0 0) (.slice none c.len 0)by rw[hacc];exact HBg1.out);have HOe:=hid (show OwnN f (DG w.heap.size g) (.slice none c.len 0) c by rw[hacc];exact OwnN.nil _ _);clear hacc;go_wp2_with fail
 go_upto_region 1 with fail
 go_cut [] (fun wx2=>zC X a f p5 w.heap.size g (.int .i64 49) (.int .i64 ln) (.string ⟨#[]⟩) (.int .i64 0) (.int .i64 0) (.string ⟨#[]⟩) (.slice none 0 0) c n5 1 (p.deep+0) wx2)
 case first=>
  have c7:=HBe.out.c7;have vlt:=hid (fun g0 (hg0:(.slice none c.len 0:Value).ownBlock=some g0)=>(HOe.out.ge g0 hg0).2);obtain⟨c7z0,c7z1,c7z2,c7zz,EXC0,EXC1,EXC2⟩:=i3 (d:=p.deep+0) [[101,120,99,101,112,116],[102,105,110,97,108,108,121]] #[.string ⟨#[101,120,99,101,112,116]⟩,.string ⟨#[102,105,110,97,108,108,121]⟩] 2 rfl (fun W G r2 r3 r4=>IH.out.block F (by omega) [[101,120,99,101,112,116],[102,105,110,97,108,108,121]] G _ _ _ r2 (by first|omega|(simp<;>omega)) (by first|omega|(simp<;>omega)) (by decide) r3 (by omega) HQ5.out) HM1.out HBe.out HOe.out (show X.P<w.heap.size by omega) (show X.P<g by omega) (by omega) (by omega) (by omega) (by first|omega|(simp<;>omega))
  have b0:(0:Int)≤((c).len:Int):=by omega
  have b1:((c).len:Int)<((c).len:Int)+1:=by omega
  have hlb:(c).len+1≤1000000000000:=by omega
  go_region_law
   (first
    |(refine qR (by rfl) (.tmp 11) (.tmp 16) 29 (by rfl) Tryz.underlying29 hi0 hz0 hz1 hz2 (by rfl) (by rfl) Y.out.own (by rfl) Y.out.rp hlb Y.out.dg ?_
      intro g9 c9 w9 m G O;obtain⟨u0,u1,u2,u3,u4,u5,u6,u7,k0,k1,k2,k3,k4,k5,k6,k7,n,m7,n7,ne,ne2,ap⟩:=Y.out.fin g9 c9 w9 m G O;have j0:=n ((c).len*8);have j1:=n ((c).len*8+1);have j2:=n ((c).len*8+2);have j3:=n ((c).len*8+3);have j4:=n ((c).len*8+4);have j5:=n ((c).len*8+5);have j6:=n ((c).len*8+6);have j7:=n ((c).len*8+7);have AP:=hid ap
      clear n ap m G O)
    |(go_simp;go_at_call 70;with_reducible refine EXC0.out.mono ?_
      rintro e9 w8 ⟨op,ln8,t,k9,m9,u9,va,vc,A8,c8,sub,rfl,hn,A⟩;have U:=hid hn;have r:=A.c7;have Z:=fun o=>qq r o;have Y:=hid A
      clear hn A)
    |(go_simp;go_at_call 70;with_reducible refine EXC1.out.mono ?_
      rintro e9 w8 ⟨op,ln8,t,k9,m9,u9,va,vc,A8,c8,sub,rfl,hn,A⟩;have U:=hid hn;have r:=A.c7;have Z:=fun o=>qq r o;have Y:=hid A
      clear hn A)
    |(go_simp;go_at_call 70;with_reducible refine EXC2.out.mono ?_
      rintro e9 w8 ⟨op,ln8,t,k9,m9,u9,va,vc,A8,c8,sub,rfl,hn,A⟩;have U:=hid hn;have r:=A.c7;have Z:=fun o=>qq r o;have Y:=hid A
      clear hn A))
  all_goals
   go_wp2_with fail
   go_meet
   rw[U.out]
   first
    |exact AP.out _ (.inl (by with_reducible rfl))
    |exact AP.out _ (.inr (by with_reducible rfl))
 case rest=>
  obtain⟨V2,hm2,hd2,hn2,ho2,hx2,hk2,hs2,hf2⟩:=hcut;obtain⟨I,hl2⟩: ∃L,L=(c).app n5:=⟨_,rfl⟩
  rw[←hl2]at ho2;have hll2:I.len≤(c).len+1:=by rw[hl2,NL.len_app];omega
  have HL2:=hid hl2;clear hl2;obtain⟨A2,cq2,rfl⟩:=ho2.form;have HM2:=hid hm2;have HBg2:=hid hn2;have HOg2:=hid ho2;have HX2:=hid hk2;have HF2:=hid (HF1.out.then_ (by omega) (by omega) hf2);clear hm2 hn2 ho2 hk2 hf2;have hr:=HR.out;clear HR
  have hb:qj X.l p5 z8=true:=SEL.out _ HQ5.out
  rw[if_pos hb]at hr;have HB:=hid hb;clear hb
  cases hq7:qa X.l F (.block [zl]) (qb p5)with
  |none=>rw[hq7]at hr;cases hr
  |some q7=>
  obtain⟨n7,p7⟩:=q7;rw[hq7]at hr;replace hr:some (n5.app n7,(⟨#[]⟩:ByteArray),(51:Int),qf X.l p7 zl)=some (l,s,o,q):=hr;have HQ7:=hid hq7;clear hq7;simp only[Option.some.injEq,Prod.mk.injEq]at hr;obtain⟨rfl,rfl,rfl,rfl⟩:=hr;go_wp2_with fail
  refine(za HM2.out.st (s:=⟨#[102,105,110,97,108,108,121]⟩) (L:= [102,105,110,97,108,108,121]) rfl HB.out).mono ?_;rintro e3 w3 ⟨rfl,K⟩;have HM3:=hid (HM2.out.trans K);have hs3:=K.grown.size;have HBg3:=hid (NdB.grown HBg2.out K.grown (show X.P<g by omega));have HOg3:=hid (OwnN.grown HOg2.out K.grown (DG.not (by omega)));have HF3:=hid (HF2.out.grown K.grown);clear K;have c2_0:=HBg3.out.c0;have f2_0:=HBg3.out.fr 0;obtain⟨j,hw4⟩: ∃W,W=(w3.setCell ⟨g,0,none⟩ (.int .i64 51)):=⟨_,rfl⟩
  have hg4:w3.grownBy j (some g):=by rw[hw4];exact qv _ _ _ _
  have hs4:=hg4.size;have HM4:=hid (HM3.out.node HBg3.out (by omega) (by omega) hg4);have M:=hid (show NdB j g (.int .i64 51) (.int .i64 ln) (.string ⟨#[]⟩) (.int .i64 0) (.int .i64 0) (.string ⟨#[]⟩) (.slice none 0 0) (.slice A2 I.len cq2)by rw[hw4];exact HBg3.out.set0 _);have HOg4:=hid (HOg3.out.apart hg4 (by omega));have HF4:=hid (HF3.out.filled hg4);have HW4:=hid hw4;clear hw4 hg4;go_wp2_with fail
  rw[←HW4.out];clear c2_0 f2_0;go_wp2_with fail
  go_upto_region 4 with fail
  go_cut [] (fun wx5=>zC X a j p7 w.heap.size g (.int .i64 51) (.int .i64 ln) (.string ⟨#[]⟩) (.int .i64 0) (.int .i64 0) (.string ⟨#[]⟩) (.slice none 0 0) I n7 1 (p.deep+0) wx5)
  case first=>
   have c7:=M.out.c7;have vlt:=hid (fun g0 (hg0:(.slice A2 I.len cq2:Value).ownBlock=some g0)=>(HOg4.out.ge g0 hg0).2);obtain⟨c7z0,c7z1,c7z2,c7zz,EXC0,EXC1,EXC2⟩:=i3 (d:=p.deep+0) [[101,110,100,116,114,121]] #[.string ⟨#[101,110,100,116,114,121]⟩] 1 rfl (fun W G r2 r3 r4=>IH.out.block F (by omega) [[101,110,100,116,114,121]] G _ _ _ r2 (by first|omega|(simp<;>omega)) (by first|omega|(simp<;>omega)) (by decide) r3 (by omega) HQ7.out) HM4.out M.out HOg4.out (show X.P<w.heap.size by omega) (show X.P<g by omega) (by omega) (by omega) (by omega) (by first|omega|(simp<;>omega))
   have b0:(0:Int)≤((I).len:Int):=by omega
   have b1:((I).len:Int)<((I).len:Int)+1:=by omega
   have hlb:(I).len+1≤1000000000000:=by omega
   go_region_law
    (first
     |(refine qR (by rfl) (.tmp 29) (.tmp 34) 29 (by rfl) Tryz.underlying29 hi0 hz0 hz1 hz2 (by rfl) (by rfl) Y.out.own (by rfl) Y.out.rp hlb Y.out.dg ?_
       intro g9 c9 w9 m G O;obtain⟨u0,u1,u2,u3,u4,u5,u6,u7,k0,k1,k2,k3,k4,k5,k6,k7,n,m7,n7,ne,ne2,ap⟩:=Y.out.fin g9 c9 w9 m G O;have j0:=n ((I).len*8);have j1:=n ((I).len*8+1);have j2:=n ((I).len*8+2);have j3:=n ((I).len*8+3);have j4:=n ((I).len*8+4);have j5:=n ((I).len*8+5);have j6:=n ((I).len*8+6);have j7:=n ((I).len*8+7);have AP:=hid ap
       clear n ap m G O)
     |(go_simp;go_at_call 70;with_reducible refine EXC0.out.mono ?_
       rintro e9 w8 ⟨op,ln8,t,k9,m9,u9,va,vc,A8,c8,sub,rfl,hn,A⟩;have U:=hid hn;have r:=A.c7;have Z:=fun o=>qq r o;have Y:=hid A
       clear hn A)
     |(go_simp;go_at_call 70;with_reducible refine EXC1.out.mono ?_
       rintro e9 w8 ⟨op,ln8,t,k9,m9,u9,va,vc,A8,c8,sub,rfl,hn,A⟩;have U:=hid hn;have r:=A.c7;have Z:=fun o=>qq r o;have Y:=hid A
       clear hn A)
     |(go_simp;go_at_call 70;with_reducible refine EXC2.out.mono ?_
       rintro e9 w8 ⟨op,ln8,t,k9,m9,u9,va,vc,A8,c8,sub,rfl,hn,A⟩;have U:=hid hn;have r:=A.c7;have Z:=fun o=>qq r o;have Y:=hid A
       clear hn A))
   all_goals
    go_wp2_with fail
    go_meet
    rw[U.out]
    first
     |exact AP.out _ (.inl (by with_reducible rfl))
     |exact AP.out _ (.inr (by with_reducible rfl))
  case rest=>
   obtain⟨V5,hm5,hd5,hn5,ho5,hx5,hk5,hs5,hf5⟩:=hcut;obtain⟨l5,hl5⟩: ∃L,L=(I).app n7:=⟨_,rfl⟩
   rw[←hl5]at ho5;have hll5:l5.len≤(I).len+1:=by rw[hl5,NL.len_app];omega
   have HL5:=hid hl5;clear hl5;obtain⟨A5,cq5,rfl⟩:=ho5.form;have HM5:=hid hm5;have HBg5:=hid hn5;have HOg5:=hid ho5;have HX5:=hid hk5;have HF5:=hid (HF4.out.then_ (by omega) (by omega) hf5);clear hm5 hn5 ho5 hk5 hf5;go_wp2_with fail
   refine(qT HM5.out.st (s:=⟨#[101,110,100,116,114,121]⟩) (L:= [101,110,100,116,114,121]) rfl).mono ?_;rintro e6 w6 ⟨rfl,hm6⟩;have HM6:=hid (HM5.out.trans hm6);have hs6:=hm6.grown.size;have HBg6:=hid (NdB.grown HBg5.out hm6.grown (show X.P<g by omega));have HOg6:=hid (OwnN.grown HOg5.out hm6.grown (DG.not (by omega)));have HF6:=hid (HF5.out.grown hm6.grown);clear hm6;go_wp2_with fail
   refine bodyPost_ret (results_none rfl _ _ _) rfl ?_;exact⟨rfl,_,HM6.out,(by first|omega|(simp<;>omega)),HBg6.out,(by rw[(show n5.app n7=l5 by rw[HL5.out,HL2.out,HAL.out];rfl)];exact HOg6.out),(by rw[show n5.app n7=l5 by rw[HL5.out,HL2.out,HAL.out];rfl];omega),(qG _ _ HX2.out HX5.out),HF6.out⟩
theorem zzF(X:PCtx)(F:Nat)(hF:F≤1000000000)(ec:EC X F)(ih:SC X F):Q8 X 71 F (fun p=>zzK X.l F p false):=by
 intro a w p g ln l s o q hm hN hPg hag h0 h1 hr0;obtain⟨hr,hsel⟩:=zzE hr0;clear hr0;have SEL:=hid hsel;clear hsel;obtain⟨i0,hi0,hz0,hz1,hz2⟩:=info_parts qz;have hgw:=hN.lt;have haw:=hm.grown.size;have hPl:=hm.st.lt;have hlen:=hm.st.len;have EC:=hid ec;have IH:=hid ih;have HMw:=hid hm;have HBg:=hid hN;have HF0:=hid (Frm.refl X g w);clear hm hN ih ec;have HR:=hid (show Q5 X.l F p=some (l,s,o,q)from hr);clear hr
 cases hq5:qa X.l F (.block [zO,z8]) p with
 |none=>have h:=HR.out;unfold Q5 at h;rw[hq5]at h;cases h
 |some q5=>
 obtain⟨n5,p5⟩:=q5
 replace HR:=hid (show(if qj X.l p5 z8 then(qa X.l F (.block [zl]) (qb p5)).bind fun y=>some (n5.app y.1,(⟨#[]⟩:ByteArray),(51:Int),qf X.l y.2 zl)
  else(qa X.l F (.tryL .nil) p5).bind fun y=>some (n5.app y.1,⟨#[]⟩,49,qf X.l y.2 zl))=some (l,s,o,q)by have h:=HR.out;unfold Q5 at h;rw[hq5]at h;exact h)
 have HQ5:=hid hq5;clear hq5;go_enter Tryz.func71,Tryz.ntmps71
 have c1_0:=HBg.out.c0;have f1_0:=HBg.out.fr 0;obtain⟨f,hw1⟩: ∃W,W=(w.setCell ⟨g,0,none⟩ (.int .i64 49)):=⟨_,rfl⟩
 have hg1:w.grownBy f (some g):=by rw[hw1];exact qv _ _ _ _
 have hs1:=hg1.size;have HM1:=hid (HMw.out.node HBg.out (by omega) (by omega) hg1);have HBg1:=hid (show NdB f g (.int .i64 49) (.int .i64 ln) (.string ⟨#[]⟩) (.int .i64 0) (.int .i64 0) (.string ⟨#[]⟩) (.slice none 0 0) (.slice none 0 0)by rw[hw1];exact HBg.out.set0 _);have HF1:=hid (HF0.out.filled hg1);have HW1:=hid hw1;clear hw1 hg1;go_wp2_with fail
 rw[←HW1.out];clear c1_0 f1_0;obtain⟨c,hacc⟩: ∃acc:NL,acc= .nil:=⟨_,rfl⟩
 have HAL:=hid hacc;have hal0:c.len≤0:=by rw[hacc];exact Nat.le_refl _
 have HBe:=hid (show NdB f g (.int .i64 49) (.int .i64 ln) (.string ⟨#[]⟩) (.int .i64 0) (.int .i64 0) (.string ⟨#[]⟩) (.slice none 0 0) (.slice none c.len 0)by rw[hacc];exact HBg1.out);have HOe:=hid (show OwnN f (DG w.heap.size g) (.slice none c.len 0) c by rw[hacc];exact OwnN.nil _ _);clear hacc;go_wp2_with fail
 go_upto_region 1 with fail
 go_cut [] (fun wx2=>zC X a f p5 w.heap.size g (.int .i64 49) (.int .i64 ln) (.string ⟨#[]⟩) (.int .i64 0) (.int .i64 0) (.string ⟨#[]⟩) (.slice none 0 0) c n5 1 (p.deep+0) wx2)
 case first=>
  have c7:=HBe.out.c7;have vlt:=hid (fun g0 (hg0:(.slice none c.len 0:Value).ownBlock=some g0)=>(HOe.out.ge g0 hg0).2);obtain⟨c7z0,c7z1,c7z2,c7zz,EXC0,EXC1,EXC2⟩:=i3 (d:=p.deep+0) [[101,120,99,101,112,116],[102,105,110,97,108,108,121]] #[.string ⟨#[101,120,99,101,112,116]⟩,.string ⟨#[102,105,110,97,108,108,121]⟩] 2 rfl (fun W G r2 r3 r4=>IH.out.block F (by omega) [[101,120,99,101,112,116],[102,105,110,97,108,108,121]] G _ _ _ r2 (by first|omega|(simp<;>omega)) (by first|omega|(simp<;>omega)) (by decide) r3 (by omega) HQ5.out) HM1.out HBe.out HOe.out (show X.P<w.heap.size by omega) (show X.P<g by omega) (by omega) (by omega) (by omega) (by first|omega|(simp<;>omega))
  have b0:(0:Int)≤((c).len:Int):=by omega
  have b1:((c).len:Int)<((c).len:Int)+1:=by omega
  have hlb:(c).len+1≤1000000000000:=by omega
  go_region_law
   (first
    |(refine qR (by rfl) (.tmp 11) (.tmp 16) 29 (by rfl) Tryz.underlying29 hi0 hz0 hz1 hz2 (by rfl) (by rfl) Y.out.own (by rfl) Y.out.rp hlb Y.out.dg ?_
      intro g9 c9 w9 m G O;obtain⟨u0,u1,u2,u3,u4,u5,u6,u7,k0,k1,k2,k3,k4,k5,k6,k7,n,m7,n7,ne,ne2,ap⟩:=Y.out.fin g9 c9 w9 m G O;have j0:=n ((c).len*8);have j1:=n ((c).len*8+1);have j2:=n ((c).len*8+2);have j3:=n ((c).len*8+3);have j4:=n ((c).len*8+4);have j5:=n ((c).len*8+5);have j6:=n ((c).len*8+6);have j7:=n ((c).len*8+7);have AP:=hid ap
      clear n ap m G O)
    |(go_simp;go_at_call 70;with_reducible refine EXC0.out.mono ?_
      rintro e9 w8 ⟨op,ln8,t,k9,m9,u9,va,vc,A8,c8,sub,rfl,hn,A⟩;have U:=hid hn;have r:=A.c7;have Z:=fun o=>qq r o;have Y:=hid A
      clear hn A)
    |(go_simp;go_at_call 70;with_reducible refine EXC1.out.mono ?_
      rintro e9 w8 ⟨op,ln8,t,k9,m9,u9,va,vc,A8,c8,sub,rfl,hn,A⟩;have U:=hid hn;have r:=A.c7;have Z:=fun o=>qq r o;have Y:=hid A
      clear hn A)
    |(go_simp;go_at_call 70;with_reducible refine EXC2.out.mono ?_
      rintro e9 w8 ⟨op,ln8,t,k9,m9,u9,va,vc,A8,c8,sub,rfl,hn,A⟩;have U:=hid hn;have r:=A.c7;have Z:=fun o=>qq r o;have Y:=hid A
      clear hn A))
  all_goals
   go_wp2_with fail
   go_meet
   rw[U.out]
   first
    |exact AP.out _ (.inl (by with_reducible rfl))
    |exact AP.out _ (.inr (by with_reducible rfl))
 case rest=>
  obtain⟨V2,hm2,hd2,hn2,ho2,hx2,hk2,hs2,hf2⟩:=hcut;obtain⟨I,hl2⟩: ∃L,L=(c).app n5:=⟨_,rfl⟩
  rw[←hl2]at ho2;have hll2:I.len≤(c).len+1:=by rw[hl2,NL.len_app];omega
  have HL2:=hid hl2;clear hl2;obtain⟨A2,cq2,rfl⟩:=ho2.form;have HM2:=hid hm2;have HBg2:=hid hn2;have HOg2:=hid ho2;have HX2:=hid hk2;have HF2:=hid (HF1.out.then_ (by omega) (by omega) hf2);clear hm2 hn2 ho2 hk2 hf2;have hr:=HR.out;clear HR
  have hb:qj X.l p5 z8=false:=SEL.out _ HQ5.out
  rw[if_neg (by rw[hb];decide)]at hr;have HB:=hid hb;clear hb
  cases hq7:qa X.l F (.tryL .nil) p5 with
  |none=>rw[hq7]at hr;cases hr
  |some q7=>
  obtain⟨y1,py⟩:=q7;rw[hq7]at hr;replace hr:some (n5.app y1,(⟨#[]⟩:ByteArray),(49:Int),qf X.l py zl)=some (l,s,o,q):=hr;have HQ7:=hid hq7;clear hq7;simp only[Option.some.injEq,Prod.mk.injEq]at hr;obtain⟨rfl,rfl,rfl,rfl⟩:=hr;go_wp2_with fail
  refine(qr HM2.out.st (s:=⟨#[102,105,110,97,108,108,121]⟩) (L:= [102,105,110,97,108,108,121]) rfl HB.out).mono ?_;rintro e3 w3 ⟨rfl,K⟩;have HM3:=hid (HM2.out.trans K);have hs3:=K.grown.size;have HBg3:=hid (NdB.grown HBg2.out K.grown (show X.P<g by omega));have HOg3:=hid (OwnN.grown HOg2.out K.grown (DG.not (by omega)));have HF3:=hid (HF2.out.grown K.grown);clear K;go_wp2_with fail
  go_loopg [] F (fun kk wr=> ∃(V:Value)(q0:PS)(acc lr:NL),acc.len+kk≤F∧lr.len≤acc.len+1∧q0.deep=p.deep∧w.heap.size≤wr.heap.size∧Hid (lr=n5.app acc)∧Hid (Mvd a wr X q0)∧Hid (NdB wr g (.int .i64 49) (.int .i64 ln) (.string ⟨#[]⟩) (.int .i64 0) (.int .i64 0) (.string ⟨#[]⟩) (.slice none 0 0) V)∧Hid (OwnN wr (DG w.heap.size g) V lr)∧Hid (qQ lr)∧Hid (Frm X g w wr)∧Hid (qa X.l kk (.tryL acc) q0=some (y1,py)))
  case atStart=>exact⟨_,p5,.nil,I,by show 0+F≤_;omega,by show _≤0+1;omega,(by first|omega|(simp<;>omega)),by omega,hid (by rw[HL2.out,HAL.out,NL.app_nil];rfl),HM3,HBg3,HOg3,hid (by rw[HL2.out,HAL.out];exact HX2.out),HF3,HQ7⟩
  case round=>
   obtain⟨V,q0,acc,lr,hal,hlr,hqd,hs0,HLR,HM,HN,HO,HK,HFr,HQ⟩:=hrel;obtain⟨AV,CV,hVf⟩:=HO.out.form;subst hVf;have hMd:=HM.out.grown.size;obtain⟨ev,hP,hE⟩:=HM.out.st.at_;have c3:=hP.c3
   cases gk with
   |zero=>have h:=HQ.out;rw[qa]at h;cases h
   |succ k=>
   have hr:=HQ.out;rw[qe9]at hr;clear HQ;have endL: ∀(y:NL×PS),y=(y1,py)→y.1=y1∧y.2=py:=fun y e=>by rw[e];exact⟨rfl,rfl⟩
   cases he:q0.err with
   |some x=>
    rw[he]at hE;obtain⟨ty,ve,rfl⟩:=jb hE;replace hr:some (acc,q0)=some (y1,py):=by rw[←hr];simp only[he];rfl
    obtain⟨hx1,hx2⟩:=endL _ (Option.some.inj hr);replace hx1:acc=y1:=hx1;replace hx2:q0=py:=hx2;subst hx1;subst hx2;clear hP hE he hr endL;go_wp2_with fail
    refine(qT HM.out.st (s:=⟨#[101,110,100,116,114,121]⟩) (L:= [101,110,100,116,114,121]) rfl).mono ?_;rintro e61 w61 ⟨rfl,u⟩;have HM61:=hid (HM.out.trans u);have hs61:=u.grown.size;have HBg61:=hid (NdB.grown HN.out u.grown (show X.P<g by omega));have HOg61:=hid (OwnN.grown HO.out u.grown (DG.not (by omega)));have HF61:=hid (HFr.out.grown u.grown);clear u;go_wp2_with fail
    go_end0
    exact⟨rfl,_,HM61.out,(by first|omega|(simp<;>omega)),HBg61.out,(by rw[←HLR.out];exact HOg61.out),(by rw[←HLR.out];omega),(by rw[←HLR.out];exact HK.out),HF61.out⟩
   |none=>
    rw[he]at hE;obtain rfl:ev= .nilIface:=hE;clear hP
    cases hb:qj X.l q0 zO with
    |false=>
     replace hr:some (acc,q0)=some (y1,py):=by rw[←hr,hb,he];rfl
     obtain⟨hx1,hx2⟩:=endL _ (Option.some.inj hr);replace hx1:acc=y1:=hx1;replace hx2:q0=py:=hx2;subst hx1;subst hx2;have HB9:=hid hb;clear hr endL hb he;go_wp2_with fail
     refine(ZE HM.out.st (s:=⟨#[101,120,99,101,112,116]⟩) (L:= [101,120,99,101,112,116]) rfl HB9.out).mono ?_;rintro e61 w61 ⟨rfl,u⟩;have HM61:=hid (HM.out.trans u);have hs61:=u.grown.size;have HBg61:=hid (NdB.grown HN.out u.grown (show X.P<g by omega));have HOg61:=hid (OwnN.grown HO.out u.grown (DG.not (by omega)));have HF61:=hid (HFr.out.grown u.grown);clear u;go_wp2_with fail
     refine(qT HM61.out.st (s:=⟨#[101,110,100,116,114,121]⟩) (L:= [101,110,100,116,114,121]) rfl).mono ?_;rintro e62 w62 ⟨rfl,hm62⟩;have HM62:=hid (HM61.out.trans hm62);have hs62:=hm62.grown.size;have HBg62:=hid (NdB.grown HBg61.out hm62.grown (show X.P<g by omega));have HOg62:=hid (OwnN.grown HOg61.out hm62.grown (DG.not (by omega)));have HF62:=hid (HF61.out.grown hm62.grown);clear hm62;go_wp2_with fail
     go_end0
     exact⟨rfl,_,HM62.out,(by first|omega|(simp<;>omega)),HBg62.out,(by rw[←HLR.out];exact HOg62.out),(by rw[←HLR.out];omega),(by rw[←HLR.out];exact HK.out),HF62.out⟩
    |true=>
     rw[if_neg (by rw[hb,he];decide)]at hr;have HB9:=hid hb;have hlt:=Qs hb;clear hb he endL;obtain⟨s2,hs2⟩: ∃s2,s2=(xW X.l (qb q0)).1:=⟨_,rfl⟩
     obtain⟨p2,hp2⟩: ∃p2,p2=(xW X.l (qb q0)).2:=⟨_,rfl⟩
     have hpd2:p2.deep=p.deep:=by rw[hp2,qa7];exact hqd
     rw[←hs2, ←hp2]at hr;have HS2:=hid hs2;have HP2:=hid hp2;have HRR:=hid hr;clear hs2 hp2 hr;have HMr:=hid (Mvd.of HM.out.st);go_wp2_with fail
     refine(QF HMr.out.st (s:=⟨#[101,120,99,101,112,116]⟩) (L:= [101,120,99,101,112,116]) rfl HB9.out).mono ?_;rintro e71 w71 ⟨rfl,hm71⟩;have HM71:=hid (HMr.out.trans hm71);have hs71:=hm71.grown.size;clear hm71;go_wp2_with fail
     refine(qO HM71.out.st).mono ?_;rintro e72 w72 ⟨rfl,hm72⟩;have HM72:=hid (HM71.out.trans hm72);have hs72:=hm72.grown.size;clear hm72;obtain⟨w73,hw73⟩: ∃w73,w73=(w72.alloc (.cells #[.int .i64 50,.int .i64 (qd X.l q0),.string ⟨#[]⟩,.int .i64 0,.int .i64 0,.string ⟨#[]⟩,.slice none 0 0,.slice none 0 0] 31)):=⟨_,rfl⟩
     have hb73:Below w72.heap.size w72 w73:=by rw[hw73];exact((Below.refl _ _).alloc (Nat.le_refl _) _)
     have HBx73:=hid (show NdB w73 w72.heap.size (.int .i64 50) (.int .i64 (qd X.l q0)) (.string ⟨#[]⟩) (.int .i64 0) (.int .i64 0) (.string ⟨#[]⟩) (.slice none 0 0) (.slice none 0 0)by rw[hw73];exact NdB.new _ _ _ _ _ _ _ _ _);have hs73:w73.heap.size=w72.heap.size+1:=by rw[hw73];simp
     have HM73:=hid (HM72.out.below hb73);have HW73:=hid hw73;clear hw73 hb73;obtain⟨ev2,hP2,hE2⟩:=HM73.out.st.at_;have c1:=hP2.c1;have f1:=hP2.fr 1;clear hP2 hE2;rw[HW73.out]at c1 f1;go_wp2_with fail
     rw[←HW73.out];have HMn74:=hid (HM73.out.jump 1 (show q0.pos+1≤X.l.length by omega));obtain⟨w74,hw74⟩: ∃W,W=w73.setCell ⟨X.P,1,none⟩ (.int .i64 ((q0.pos:Int)+1)):=⟨_,rfl⟩
     have hg74:w73.grownBy w74 (some X.P):=by rw[hw74];exact qv _ _ _ _
     have HM74:=hid (show Mvd wr w74 X (qb q0)by rw[hw74];exact HMn74.out);have hs74:=hg74.size;have HBx74:=hid (NdB.grown HBx73.out hg74 (show X.P<w72.heap.size by omega));have HW74:=hid hw74;clear hw74 hg74 HMn74;rw[←HW74.out];clear c1 f1;obtain⟨xa,hxa⟩: ∃xa,xa=w72.heap.size:=⟨_,rfl⟩
     obtain⟨ln2,hln2⟩: ∃ln2,ln2=qd X.l q0:=⟨_,rfl⟩
     obtain⟨b,hb⟩: ∃b,b=qj X.l (qb q0) [40]:=⟨_,rfl⟩
     have IC:=hid (show Calls Tryz.prog 57 #[.pointer (some ⟨X.P,0,none⟩),.string ⟨#[40]⟩] w74 (fun e w'=>e= .returned (.bool b)∧Mvd w74 w' X (qb q0))from by rw[hb];exact(Jy X (qb q0) ⟨#[40]⟩ _ HM74.out.st).mono fun e w' ⟨h1,h2⟩=>⟨h1,(Mvd.of HM74.out.st).below h2⟩);have HBB:=hid hb;clear hb;refine(IC.out).mono ?_;rintro e75 w75 ⟨rfl,hm75⟩;have HM75:=hid (HM74.out.trans hm75);have hs75:=hm75.grown.size;have HBx75:=hid (NdB.grown HBx74.out hm75.grown (show X.P<w72.heap.size by omega));clear hm75;have hxal:xa<w75.heap.size:=by rw[hxa];exact HBx75.out.lt
     have hwxa:wr.heap.size≤xa:=by omega
     have HBXa:=hid (show NdB w75 xa (.int .i64 50) (.int .i64 ln2) (.string ⟨#[]⟩) (.int .i64 0) (.int .i64 0) (.string ⟨#[]⟩) (.slice none 0 0) (.slice none 0 0)by rw[hxa,hln2];exact HBx75.out);rw[←hxa];have HXA:=hid hxa;have HLN2:=hid hln2;clear hxa hln2
     go_upto_if 62 with fail
     go_cut [] (fun wx=>qhi X wr xa ln2 s2 p2 wx)
     case first=>
      have hb:=HBB.out.symm;clear HBB
      cases b with
      |true=>
       have hs2:s2=⟨#[]⟩:=by rw[HS2.out];unfold xW;rw[if_pos hb]
       have hp2:p2=qb q0:=by rw[HP2.out];unfold xW;rw[if_pos hb]
       subst hs2;subst hp2;clear hb;go_wp2_with fail
       go_meet
       exact⟨HM75,HBXa,by omega⟩
      |false=>
       have hs2:s2=(qE X.l (qb q0)).1:=by rw[HS2.out];unfold xW;rw[if_neg (by rw[hb];decide)]
       have hp2:p2=(qE X.l (qb q0)).2:=by rw[HP2.out];unfold xW;rw[if_neg (by rw[hb];decide)]
       subst hs2;subst hp2;clear hb;go_wp2_with fail
       refine(Zm X _ _ HM75.out.st).mono ?_;rintro e76 w76 ⟨rfl,H⟩;have HM76:=hid (HM75.out.trans H);have hs76:=H.grown.size;have J:=hid (NdB.grown HBXa.out H.grown (show X.P<xa by omega));clear H;have c1_2:=J.out.c2;have f1_2:=J.out.fr 2;obtain⟨Q,hw77⟩: ∃W,W=(w76.setCell ⟨xa,2,none⟩ (.string (qE X.l (qb q0)).1)):=⟨_,rfl⟩
       have hg77:w76.grownBy Q (some xa):=by rw[hw77];exact qv _ _ _ _
       have hs77:=hg77.size;have HM77:=hid (HM76.out.node J.out (by omega) (by omega) hg77);have HBx77:=hid (show NdB Q xa (.int .i64 50) (.int .i64 ln2) (.string (qE X.l (qb q0)).1) (.int .i64 0) (.int .i64 0) (.string ⟨#[]⟩) (.slice none 0 0) (.slice none 0 0)by rw[hw77];exact J.out.set2 _);have HW77:=hid hw77;clear hw77 hg77;go_wp2_with fail
       rw[←HW77.out];clear c1_2 f1_2;go_wp2_with fail
       go_meet
       exact⟨HM77,HBx77,by omega⟩
     case rest=>
      obtain⟨HMc,HBc,hxc⟩:=hcut;clear HBB;go_wp2_with fail
      refine(qT HMc.out.st (s:=⟨#[40]⟩) (L:= [40]) rfl).mono ?_;rintro e76 w76 ⟨rfl,H⟩;have HM76:=hid (HMc.out.trans H);have hs76:=H.grown.size;have J:=hid (NdB.grown HBc.out H.grown (show X.P<xa by omega));clear H;obtain⟨p3,hp3⟩: ∃p3,p3=qf X.l p2 [40]:=⟨_,rfl⟩
      have hpd3:p3.deep=p.deep:=by rw[hp3];simp[hpd2]
      have HMq:=hid (show Mvd wr w76 X p3 by rw[hp3];exact HM76.out);replace HRR:=hid (show(if(qh p3).err.isNone then(qa X.l k .codes (qh p3)).bind fun x=>QR X.l k acc ln2 s2 x.1 x.2 else QR X.l k acc ln2 s2 .nil (qh p3))=some (y1,py)by rw[hp3,HLN2.out];exact HRR.out);clear hp3;obtain⟨b2,hb2⟩: ∃b2,b2=(qh p3).err.isNone:=⟨_,rfl⟩
      have DC:=hid (show Calls Tryz.prog 59 #[.pointer (some ⟨X.P,0,none⟩)] w76 (fun e w'=>e= .returned (.bool b2)∧Mvd w76 w' X (qh p3))from by rw[hb2];exact Xy X p3 _ HMq.out.st (by first|omega|(simp<;>omega)) (by omega));have HB2:=hid hb2;clear hb2;go_wp2_with fail
      refine(DC.out).mono ?_;rintro e77 Q ⟨rfl,hm77⟩;have HM77:=hid (HMq.out.trans hm77);have hs77:=hm77.grown.size;have HBx77:=hid (NdB.grown J.out hm77.grown (show X.P<xa by omega));clear hm77
      go_upto_if 69 with fail
      go_cut [] (fun wx=>qhj X wr xa ln2 s2 k acc p.deep (y1,py) wx)
      case first=>
       have hb2:=HB2.out.symm;have hr:=HRR.out;clear HB2 HRR
       cases b2 with
       |false=>
        rw[if_neg (by rw[hb2];decide)]at hr;go_wp2_with fail
        go_meet
        exact⟨_,.nil,(qh p3),HM77,by rw[downS_deep];omega,HBx77,hid (OwnN.nil _ _),by show 0≤1;omega,hid trivial,by omega,hid hr⟩
       |true=>
        rw[if_pos hb2]at hr;have hle:=js hb2
        cases hq8:qa X.l k .codes (qh p3)with
        |none=>rw[hq8]at hr;cases hr
        |some q8=>
        obtain⟨n8,p8⟩:=q8;rw[hq8]at hr;replace hr:QR X.l k acc ln2 s2 n8 p8=some (y1,py):=hr;have HQ8:=hid hq8;clear hq8;have HR8:=hid hr;clear hr hb2;obtain⟨v,aa⟩: ∃v:NL,v= .nil:=⟨_,rfl⟩
        have HAL1:=hid aa;have hal1:v.len≤0:=by rw[aa];exact Nat.le_refl _
        have HBe1:=hid (show NdB Q xa (.int .i64 50) (.int .i64 ln2) (.string s2) (.int .i64 0) (.int .i64 0) (.string ⟨#[]⟩) (.slice none 0 0) (.slice none v.len 0)by rw[aa];exact HBx77.out);have HOe1:=hid (show OwnN Q (DG (xa+1) xa) (.slice none v.len 0) v by rw[aa];exact OwnN.nil _ _);clear aa;go_upto_region 13 with fail
        go_cut [] (fun wx78=>zC X wr Q p8 (xa+1) xa (.int .i64 50) (.int .i64 ln2) (.string s2) (.int .i64 0) (.int .i64 0) (.string ⟨#[]⟩) (.slice none 0 0) v n8 1 (p.deep+1) wx78)
        case first=>
         have c7:=HBe1.out.c7;have HBC:=hid (show Below Q.heap.size Q Q.drew from(Below.refl _ _).drew);have HMC:=hid (show Mvd wr Q.drew X (qh p3)from HM77.out.below HBC.out);have EXC:=hid (show Calls Tryz.prog 111 #[.pointer (some ⟨X.P,0,none⟩)] Q.drew (OpC X wr Q p8 (xa+1) xa (.int .i64 50) (.int .i64 ln2) (.string s2) (.int .i64 0) (.int .i64 0) (.string ⟨#[]⟩) (.slice none 0 0) (.slice none v.len 0) v n8 (p.deep+1))from KX (d:=p.deep+1) (EC.out.codes k (by omega) _ _ _ HMC.out.st (by first|omega|(simp<;>omega)) (by first|omega|(simp<;>omega)) HQ8.out) HBC.out HMC.out HBe1.out HOe1.out (show X.P<(xa+1)by omega) (show X.P<xa by omega) (by omega) (by omega) (by omega) (by first|omega|(simp<;>omega)));have hlb:(v).len+1≤1000000000000:=by omega
         go_region_law
          (first
           |(refine Q1 (by rfl) (.tmp 71) (.tmp 74) 29 (by rfl) Tryz.underlying29 hi0 hz0 hz1 hz2 (by rfl) (by rfl) Y.out.own (by rfl) Y.out.rp hlb Y.out.dg ?_
             intro A9 c9 w9 m G;obtain⟨m7,n7,ap⟩:=Y.out.fin A9 c9 w9 m G;have AP:=hid ap
             clear ap m G)
           |(go_simp;go_at_call 111;with_reducible refine EXC.out.mono ?_
             rintro e9 w8 ⟨op,ln8,t,k9,m9,u9,va,vc,A8,c8,sub,rfl,hn,A⟩;have U:=hid hn;have r:=A.c7;have Z:=fun o=>qq r o;have Y:=hid A
             clear hn A))
         all_goals
          go_wp2_with fail
          go_meet
          rw[U.out];exact AP.out
        case rest=>
         obtain⟨V78,N,hd78,hn78,ho78,hx78,hk78,hs78,hf78⟩:=hcut;obtain⟨l78,hl78⟩: ∃L,L=(v).app n8:=⟨_,rfl⟩
         rw[←hl78]at ho78;have hll78:l78.len≤(v).len+1:=by rw[hl78,NL.len_app];omega
         have HL78:=hid hl78;clear hl78;obtain⟨A78,cq78,rfl⟩:=ho78.form;have HM78:=hid N;have HBx78:=hid hn78;have HOx78:=hid ho78;have HX78:=hid hk78;clear N hn78 ho78 hk78 hf78;go_wp2_with fail
         go_meet
         have he8:l78=n8:=by rw[HL78.out,HAL1.out];rfl
         exact⟨_,l78,p8,HM78,by omega,HBx78,HOx78,by omega,hid (by rw[he8];exact HX78.out),by omega,hid (by rw[he8];exact HR8.out)⟩
      case rest=>
       obtain⟨Vx,nx,q4,HM4,hqd4,HB4,HO4,hnx,HK4,hxa4,HQ4⟩:=hcut;clear HB2 HRR;obtain⟨Ax,Cx,rfl⟩:=HO4.out.form;have hr:=HQ4.out;unfold QR at hr;clear HQ4
       cases hq9:qa X.l k (.block [zO,zl]) (qf X.l (qu q4) [41])with
       |none=>rw[hq9]at hr;cases hr
       |some q9=>
       obtain⟨n9,p9⟩:=q9;rw[hq9]at hr;replace hr:qa X.l k (.tryL (acc.app (nd 50 ln2 s2 0 0 ⟨#[]⟩ (nx.app n9)))) p9=some (y1,py):=hr;have HQ9:=hid hq9;clear hq9;have HR9:=hid hr;clear hr;go_wp2_with fail
       refine(je X _ _ HM4.out.st (by first|omega|(simp<;>omega)) (by first|omega|(simp<;>omega))).mono ?_;rintro e78 w78 ⟨rfl,N⟩;have HM78:=hid (HM4.out.trans N);have hs78:=N.grown.size;have HBx78:=hid (NdB.grown HB4.out N.grown (show X.P<xa by omega));have HOx78:=hid (OwnN.grown HO4.out N.grown (DG.not (by omega)));clear N;go_wp2_with fail
       refine(qT HM78.out.st (s:=⟨#[41]⟩) (L:= [41]) rfl).mono ?_;rintro e79 B ⟨rfl,hm79⟩;have HM79:=hid (HM78.out.trans hm79);have hs79:=hm79.grown.size;have HBx79:=hid (NdB.grown HBx78.out hm79.grown (show X.P<xa by omega));have HOx79:=hid (OwnN.grown HOx78.out hm79.grown (DG.not (by omega)));clear hm79;go_upto_region 16 with fail
       go_cut [] (fun wx80=>zC X wr B p9 (xa+1) xa (.int .i64 50) (.int .i64 ln2) (.string s2) (.int .i64 0) (.int .i64 0) (.string ⟨#[]⟩) (.slice none 0 0) nx n9 1 (p.deep+0) wx80)
       case first=>
        have c7:=HBx79.out.c7;have HBC:=hid (show Below B.heap.size B (B.alloc (.cells #[.string ⟨#[101,120,99,101,112,116]⟩,.string ⟨#[101,110,100,116,114,121]⟩] 9)).drew from((Below.refl _ _).alloc (Nat.le_refl _) _).drew);have HMC:=hid (show Mvd wr (B.alloc (.cells #[.string ⟨#[101,120,99,101,112,116]⟩,.string ⟨#[101,110,100,116,114,121]⟩] 9)).drew X (qf X.l (qu q4) [41])from HM79.out.below HBC.out);have HSG:=hid (show StrG (B.alloc (.cells #[.string ⟨#[101,120,99,101,112,116]⟩,.string ⟨#[101,110,100,116,114,121]⟩] 9)).drew B.heap.size [[101,120,99,101,112,116],[101,110,100,116,114,121]]from(show StrG (B.alloc (.cells #[.string ⟨#[101,120,99,101,112,116]⟩,.string ⟨#[101,110,100,116,114,121]⟩] 9)) B.heap.size [[101,120,99,101,112,116],[101,110,100,116,114,121]]from zg B [[101,120,99,101,112,116],[101,110,100,116,114,121]] _ rfl));have c7z:(B.alloc (.cells #[.string ⟨#[101,120,99,101,112,116]⟩,.string ⟨#[101,110,100,116,114,121]⟩] 9)).cell? ⟨xa,7,none⟩=some (.slice Ax nx.len Cx):=(HBx79.out.below' HBC.out).c7;have EXC:=hid (show Calls Tryz.prog 70 #[.pointer (some ⟨X.P,0,none⟩),.slice (some ⟨B.heap.size,0,none⟩) 2 2] (B.alloc (.cells #[.string ⟨#[101,120,99,101,112,116]⟩,.string ⟨#[101,110,100,116,114,121]⟩] 9)).drew (OpC X wr B p9 (xa+1) xa (.int .i64 50) (.int .i64 ln2) (.string s2) (.int .i64 0) (.int .i64 0) (.string ⟨#[]⟩) (.slice none 0 0) (.slice Ax nx.len Cx) nx n9 (p.deep+0))from KX (d:=p.deep+0) (IH.out.block k (by omega) [[101,120,99,101,112,116],[101,110,100,116,114,121]] (B.heap.size) _ _ _ HMC.out.st (by first|omega|(simp<;>omega)) (by first|omega|(simp<;>omega)) (by decide) HSG.out (by omega) HQ9.out) HBC.out HMC.out HBx79.out HOx79.out (show X.P<(xa+1)by omega) (show X.P<xa by omega) (by omega) (by omega) (by omega) (by first|omega|(simp<;>omega)));have hlb:(nx).len+1≤1000000000000:=by omega
        go_region_law
         (first
          |(refine Q1 (by rfl) (.tmp 82) (.tmp 86) 29 (by rfl) Tryz.underlying29 hi0 hz0 hz1 hz2 (by rfl) (by rfl) Y.out.own (by rfl) Y.out.rp hlb Y.out.dg ?_
            intro A9 c9 w9 m G;obtain⟨m7,n7,ap⟩:=Y.out.fin A9 c9 w9 m G;have AP:=hid ap
            clear ap m G)
          |(go_simp;go_at_call 70;with_reducible refine EXC.out.mono ?_
            rintro e9 w8 ⟨op,ln8,t,k9,m9,u9,va,vc,A8,c8,sub,rfl,hn,A⟩;have U:=hid hn;have r:=A.c7;have Z:=fun o=>qq r o;have Y:=hid A
            clear hn A))
        all_goals
         go_wp2_with fail
         go_meet
         rw[U.out];exact AP.out
       case rest=>
        obtain⟨V80,hm80,hd80,hn80,ho80,hx80,hk80,hs80,hf80⟩:=hcut;obtain⟨l80,hl80⟩: ∃L,L=(nx).app n9:=⟨_,rfl⟩
        rw[←hl80]at ho80;have hll80:l80.len≤(nx).len+1:=by rw[hl80,NL.len_app];omega
        have HL80:=hid hl80;clear hl80;obtain⟨A80,cq80,rfl⟩:=ho80.form;have HM80:=hid hm80;have i:=hid hn80;have HOx80:=hid ho80;have HX80:=hid hk80;clear hm80 hn80 ho80 hk80 hf80;have HNg:=hid (NdB.grown HN.out HM80.out.grown (show X.P<g by omega));have vlt:=hid (fun g0 (hg0:(.slice AV lr.len CV:Value).ownBlock=some g0)=>(HO.out.ge g0 hg0).2);have HOg:=hid (OwnN.grown HO.out HM80.out.grown (DG.not (by omega)));have HMg:=hid (HM.out.trans HM80.out);have HFg:=hid (HFr.out.grown HM80.out.grown);have hsg:=HM80.out.grown.size;have HXo:=hid (HOx80.out.wide (D':=fun b=>wr.heap.size≤b) (fun k0 hk0 _=>by have h:=hk0.1;omega));have HXk:=hid (show qQ (nd 50 ln2 s2 0 0 ⟨#[]⟩ l80)from qX (by rw[HL80.out];exact qG _ _ HK4.out HX80.out) (fun h=>by rcases h with h|h<;>cases h));go_wp2_with fail
        go_upto_region 17 with fail
        have HBC:=hid (show Below wc.heap.size wc (wc.alloc (.cells #[.int .i64 0,.int .i64 0,.string ⟨#[]⟩,.int .i64 0,.int .i64 0,.string ⟨#[]⟩,.slice none 0 0,.slice none 0 0] 31)).drew from((Below.refl _ _).alloc (Nat.le_refl _) _).drew);have IPN:=hid (qeh (va:=none) (vc:=0) (d:=p.deep+0) HBC.out HMg.out HNg.out HOg.out (show X.P<w.heap.size by omega) (show X.P<g by omega) (by omega) (by omega) (by omega) (by omega) (show wr.heap.size≤wc.heap.size by omega) (fun g0 hg0=>by have:=vlt.out g0 hg0;omega) HXo.out HXk.out (by first|omega|(simp<;>omega)) (show zN (wc.alloc (.cells #[.int .i64 0,.int .i64 0,.string ⟨#[]⟩,.int .i64 0,.int .i64 0,.string ⟨#[]⟩,.slice none 0 0,.slice none 0 0] 31)).drew wc.heap.size from(show zN (wc.alloc (.cells #[.int .i64 0,.int .i64 0,.string ⟨#[]⟩,.int .i64 0,.int .i64 0,.string ⟨#[]⟩,.slice none 0 0,.slice none 0 0] 31)) wc.heap.size from zN.new _)) (Nat.le_refl _));have hlb:(lr).len+1≤1000000000000:=by omega
        have b0:(0:Int)≤((lr).len:Int):=by omega
        have b1:((lr).len:Int)<((lr).len:Int)+1:=by omega
        have c7:=HNg.out.c7;have c7z:=(HNg.out.below' ((Below.refl _ _).alloc (Nat.le_refl _) (.cells #[.int .i64 0,.int .i64 0,.string ⟨#[]⟩,.int .i64 0,.int .i64 0,.string ⟨#[]⟩,.slice none 0 0,.slice none 0 0] 31))).c7;have x0:=i.out.c0;have x0z:=(i.out.below' ((Below.refl _ _).alloc (Nat.le_refl _) (.cells #[.int .i64 0,.int .i64 0,.string ⟨#[]⟩,.int .i64 0,.int .i64 0,.string ⟨#[]⟩,.slice none 0 0,.slice none 0 0] 31))).c0;have x1:=i.out.c1;have x1z:=(i.out.below' ((Below.refl _ _).alloc (Nat.le_refl _) (.cells #[.int .i64 0,.int .i64 0,.string ⟨#[]⟩,.int .i64 0,.int .i64 0,.string ⟨#[]⟩,.slice none 0 0,.slice none 0 0] 31))).c1;have x2:=i.out.c2;have x2z:=(i.out.below' ((Below.refl _ _).alloc (Nat.le_refl _) (.cells #[.int .i64 0,.int .i64 0,.string ⟨#[]⟩,.int .i64 0,.int .i64 0,.string ⟨#[]⟩,.slice none 0 0,.slice none 0 0] 31))).c2;have x3:=i.out.c3;have x3z:=(i.out.below' ((Below.refl _ _).alloc (Nat.le_refl _) (.cells #[.int .i64 0,.int .i64 0,.string ⟨#[]⟩,.int .i64 0,.int .i64 0,.string ⟨#[]⟩,.slice none 0 0,.slice none 0 0] 31))).c3;have x4:=i.out.c4;have x4z:=(i.out.below' ((Below.refl _ _).alloc (Nat.le_refl _) (.cells #[.int .i64 0,.int .i64 0,.string ⟨#[]⟩,.int .i64 0,.int .i64 0,.string ⟨#[]⟩,.slice none 0 0,.slice none 0 0] 31))).c4;have x5:=i.out.c5;have x5z:=(i.out.below' ((Below.refl _ _).alloc (Nat.le_refl _) (.cells #[.int .i64 0,.int .i64 0,.string ⟨#[]⟩,.int .i64 0,.int .i64 0,.string ⟨#[]⟩,.slice none 0 0,.slice none 0 0] 31))).c5;have x6:=i.out.c6;have x6z:=(i.out.below' ((Below.refl _ _).alloc (Nat.le_refl _) (.cells #[.int .i64 0,.int .i64 0,.string ⟨#[]⟩,.int .i64 0,.int .i64 0,.string ⟨#[]⟩,.slice none 0 0,.slice none 0 0] 31))).c6;have x7:=i.out.c7;have x7z:=(i.out.below' ((Below.refl _ _).alloc (Nat.le_refl _) (.cells #[.int .i64 0,.int .i64 0,.string ⟨#[]⟩,.int .i64 0,.int .i64 0,.string ⟨#[]⟩,.slice none 0 0,.slice none 0 0] 31))).c7
        go_region_law
         (refine qR (by rfl) (.tmp 92) (.tmp 95) 29 (by rfl) Tryz.underlying29 hi0 hz0 hz1 hz2 (by rfl) (by rfl) IPN.out.own (by rfl) IPN.out.rp hlb IPN.out.dg ?_
          intro g9 c9 w9 m G O;obtain⟨u0,u1,u2,u3,u4,u5,u6,u7,k0,k1,k2,k3,k4,k5,k6,k7,n,m7,n7,ne,ne2,ap⟩:=IPN.out.fin g9 c9 w9 m G O;have j0:=n ((lr).len*8);have j1:=n ((lr).len*8+1);have j2:=n ((lr).len*8+2);have j3:=n ((lr).len*8+3);have j4:=n ((lr).len*8+4);have j5:=n ((lr).len*8+5);have j6:=n ((lr).len*8+6);have j7:=n ((lr).len*8+7);have AP:=hid ap
          clear n ap m G O)
        all_goals
         generalize hwn:World.setCell _ _ _=wn
         have hcut:zC X a wc p9 w.heap.size g (.int .i64 49) (.int .i64 ln) (.string ⟨#[]⟩) (.int .i64 0) (.int .i64 0) (.string ⟨#[]⟩) (.slice none 0 0) lr (nd 50 ln2 s2 0 0 ⟨#[]⟩ l80) 1 (p.deep+0) wn:=by
          rw[←hwn]
          first
           |exact AP.out _ (.inl (by with_reducible rfl))
           |exact AP.out _ (.inr (by with_reducible rfl))
         clear hwn AP IPN;obtain⟨V121,hm121,hd121,hn121,ho121,hx121,hk121,hs121,hf121⟩:=hcut;obtain⟨l121,hl121⟩: ∃L,L=(lr).app (nd 50 ln2 s2 0 0 ⟨#[]⟩ l80):=⟨_,rfl⟩
         rw[←hl121]at ho121;have hll121:l121.len≤(lr).len+1:=by rw[hl121,NL.len_app];omega
         have HL121:=hid hl121;clear hl121;obtain⟨A121,cq121,rfl⟩:=ho121.form;have HM121:=hid hm121;have HBg121:=hid hn121;have HOg121:=hid ho121;have HX121:=hid hk121;have HF121:=hid (HFg.out.then_ (by omega) (by omega) hf121);clear hm121 hn121 ho121 hk121 hf121;have HKN:=hid (show qQ l121 by rw[HL121.out];exact qG _ _ HK.out HXk.out);go_wp2_with fail
         go_roundg k
         case measure=>omega
         case rel=>exact⟨_,p9,acc.app (nd 50 ln2 s2 0 0 ⟨#[]⟩ l80),l121,by rw[NL.len_app,qg];omega,by rw[NL.len_app,qg];omega,(by first|omega|(simp<;>omega)),by omega,hid (by rw[HL121.out,HLR.out,NL.app_assoc]),HM121,HBg121,HOg121,HKN,HF121,hid (by rw[←HR9.out,HL80.out])⟩
theorem qdz(X:PCtx)(F:Nat)(hF:F≤1000000000)(ec:EC X F)(ih:SC X F):Q8 X 71 F (Q5 X.l F):=by
 intro a w p g ln l s o q hm hN hPg hag h0 h1 hr
 obtain⟨b,hb⟩:=zzI hr
 cases b with
 |true=>exact zzT X F hF ec ih a w p g ln l s o q hm hN hPg hag h0 h1 hb
 |false=>exact zzF X F hF ec ih a w p g ln l s o q hm hN hPg hag h0 h1 hb
end Go.Proofs.YtggngahmafbihaaGreatDoor
