/- Contracts, and the plain mathematics beneath. -/
import Derived.Deep.RegionHeld3
import Derived.Test.YtggngahmafbihaaGreatDoorPerAU
import Derived.Test.YtggngahmafbihaaGreatDoorPerAJ
import Derived.Test.YtggngahmafbihaaGreatDoorPerAV
import Derived.Test.YtggngahmafbihaaGreatDoorPerAD
import Derived.Test.YtggngahmafbihaaGreatDoorPerAI
set_option linter.unusedVariables false
set_option linter.unusedSimpArgs false
set_option maxRecDepth 100000
set_option maxHeartbeats 16000000
namespace Go.Proofs.YtggngahmafbihaaGreatDoor
open Go.RowKit Go.Lib
section
structure OpZ (X:PCtx) (a W0:World) (q:PS) (base addr:Nat) (c0 c1 c2 c3 c4 c5 c6 V:Value) (l:NL) (d:Int) (w8:World) (op ln:Int) (s:ByteArray) (k n:Int) (t:ByteArray) (va:Option Addr) (vc:Nat) (A8:Option Addr) (c8:Nat) (sub:NL):Prop where
 c7:w8.cell? ⟨addr,7,none⟩=some V
 own:OwnN (w8.alloc (.cells #[.int .i64 op,.int .i64 ln,.string s,.int .i64 k,.int .i64 n,.string t,.slice va 0 vc,.slice A8 sub.len c8] 31)) (DG base addr) V l
 rp:RpN (w8.alloc (.cells #[.int .i64 op,.int .i64 ln,.string s,.int .i64 k,.int .i64 n,.string t,.slice va 0 vc,.slice A8 sub.len c8] 31)) (SN (w8.alloc (.cells #[.int .i64 op,.int .i64 ln,.string s,.int .i64 k,.int .i64 n,.string t,.slice va 0 vc,.slice A8 sub.len c8] 31)) (DG base addr) V) (nd op ln s k n t sub) (some ⟨w8.heap.size,0,none⟩)
 dg:DG base addr (w8.alloc (.cells #[.int .i64 op,.int .i64 ln,.string s,.int .i64 k,.int .i64 n,.string t,.slice va 0 vc,.slice A8 sub.len c8] 31)).heap.size
 fin: ∀(A9:Option Addr)(c9:Nat)(w9:World),OwnN w9 (DG base addr) (.slice A9 (l.len+1) c9) (l.app (nd op ln s k n t sub))→(w8.alloc (.cells #[.int .i64 op,.int .i64 ln,.string s,.int .i64 k,.int .i64 n,.string t,.slice va 0 vc,.slice A8 sub.len c8] 31)).grownBy w9 V.ownBlock→
  w9.cell? ⟨addr,7,none⟩=some V∧w9.frozen? ⟨addr,7,none⟩=false∧zC X a W0 q base addr c0 c1 c2 c3 c4 c5 c6 l (nd op ln s k n t sub) 1 d (w9.setCell ⟨addr,7,none⟩ (.slice A9 (l.len+1) c9))
def OpC(X:PCtx)(a h:World)(q:PS)(c b:Nat)(i c1 c2 c3 c4 c5 j V:Value)(l x:NL)(d:Int)(e:Ending)(m:World):Prop:=
 ∃(op ln:Int)(s:ByteArray)(k n:Int)(t:ByteArray)(va:Option Addr)(vc:Nat)(f:Option Addr)(g:Nat)(sub:NL),e= .returned (.agg #[.int .i64 op,.int .i64 ln,.string s,.int .i64 k,.int .i64 n,.string t,.slice va 0 vc,.slice f sub.len g])∧x=nd op ln s k n t sub∧
  OpZ X a h q c b i c1 c2 c3 c4 c5 j V l d m op ln s k n t va vc f g sub
theorem KX{M:Nat}{args:Array Value}{a W r:World}{X:PCtx}{p q:PS}{f i c:Nat}{V I c1 c2 c3 c4 c5 J:Value}{l x:NL}{d:Int}(u:Calls Tryz.prog M args r (PNd X (fun k=>r.heap.size≤k) r p f (x,q)))
 (hc:Below W.heap.size W r) (U:Mvd a r X p) (N:NdB W c I c1 c2 c3 c4 c5 J V) (O:OwnN W (DG i c) V l) (R:X.P<i) (w:X.P<c) (ha:a.heap.size≤i) (C:a.heap.size≤c) (D:i≤W.heap.size) (hd:p.deep=d):
 Calls Tryz.prog M args r (OpC X a W q i c I c1 c2 c3 c4 c5 J V l x d):=by
 refine u.mono ?_;rintro e w8 ⟨op,ln,s,k,n,t,va,vc,V8,sub,hn,rfl,hm,S,hk,hl,F⟩;obtain⟨G,L,rfl⟩:=S.form;have A:=O.ge;have B:=N.lt;obtain⟨T,z,j,m,Z⟩:=Xm hc U hm N O R w;have Y:=hc.size;have H:=jH m (S.wide (D':=fun b=>W.heap.size≤b) (fun k hk _=>by have h:r.heap.size≤k:=hk;omega)) op ln s k n t va vc D B (by omega) (fun g hg=>(A g hg).2);have hk':qQ (nd op ln s k n t sub):=by have h:(x:NL)=_:=hn;rw[←h];exact hk
 refine⟨op,ln,s,k,n,t,va,vc,G,L,sub,rfl,hn,j.c7,H.1,H.2,⟨by rw[World.size_alloc];omega,by rw[World.size_alloc];omega⟩,fun A9 c9 w9 y hg=> ?_⟩;have v:=(j.alloc (.cells #[.int .i64 op,.int .i64 ln,.string s,.int .i64 k,.int .i64 n,.string t,.slice va 0 vc,.slice G sub.len L] 31)).app hg (fun e=>(m.ge _ e).1.2 rfl);exact⟨v.c7,v.fr 7,jq T z j m R ha w C y hg (Nat.le_refl 1) hk' (F.trans hd)⟩
section
variable {P : Program} {ops : Array Oper} {o : Oper} {a : Act} {K : Act → World → Prop} {Q : Exit → Act → World → Prop} {E : Prop}
theorem Q1{w:World}(p:o.guard=none)(s x:Operand)(T:TypeId)
 (u:o.op= .call {callee:= .builtin .append,args:= #[s,x],argTypes:= #[T,T]}) {i:TypeInfo} {z:Value}
 (v:P.underlying T=some (.slice 31)) (hi:P.info? 31=some i) (hz:i.zero=some z) (c:i.size=8) (j:i.bytes=112) (q:z.cells.size=8)
 {D:Nat→Prop} {V:Value} {l sub:NL} {op ln:Int} {ss:ByteArray} {k n:Int} {t:ByteArray} (hs:a.eval s=V) (r:OwnN w D V l) {g:Nat} (hx:a.eval x= .slice (some ⟨g,0,none⟩) 1 1) (hb:RpN w (SN w D V) (nd op ln ss k n t sub) (some ⟨g,0,none⟩)) (hl:l.len+1≤1000000000000) (hn:D w.heap.size)
 (h: ∀d f w',OwnN w' D (.slice d (l.len+1) f) (l.app (nd op ln ss k n t sub))→w.grownBy w' V.ownBlock→K (a.put o.dst (.slice d (l.len+1) f)) w'):
 if Region.wanted o (yielded ops a.tmps)=true then Oper.wp P o a w K Q else E:=
 qy (b:=nd op ln ss k n t sub) (m:=1) p s x T u v hi hz c j q hs r hx rfl hb (fun e=>by cases e) hl hn fun d f w' h1 h2 _=>h d f w' h1 h2
end
def qhk(x:NL):Prop:= ∃(op ln:Int)(s:ByteArray)(k n:Int)(t:ByteArray)(sub:NL),x=nd op ln s k n t sub
theorem OwnN.line0{w:World}{D:Nat→Prop}{A:Option Addr}{m c:Nat}{op ln:Int}{s:ByteArray}{k n:Int}{t:ByteArray}{sub:NL}(h:OwnN w D (.slice A m c) (nd op ln s k n t sub)): ∃g,A=some ⟨g,0,none⟩∧D g∧w.cell? ⟨g,1,none⟩=some (.int .i64 ln):=by
 obtain⟨xs,d,i,va,vc,sa,sc,ys,e,_⟩:=h;rcases d.2 with⟨h0,b⟩|⟨g,cap,f,hv,hb,hg,r⟩
 ·simp[nd,NL.len]at b
 ·have hA:=hv
  simp only[Value.slice.injEq]at hv;obtain⟨rfl,_,rfl⟩:=hv;refine⟨g,rfl,i g rfl,?_⟩;have:=d.cells (g:=g) rfl 1 (.int .i64 ln) (by rw[e];rfl)
  rwa [show(⟨g,0,none⟩:Addr).add 1=⟨g,1,none⟩from rfl]at this
theorem qeh{a W u:World}{X:PCtx}{q:PS}{f c B:Nat}{V L c1 c2 c3 c4 c5 M:Value}{l sub:NL}{d:Int}{op ln:Int}{s:ByteArray}{k n:Int}{t:ByteArray}{va:Option Addr}{vc:Nat}{J:Option Addr}{N z:Nat}
 (hc:Below W.heap.size W u) (O:Mvd a W X q) (v:NdB W c L c1 c2 c3 c4 c5 M V) (p:OwnN W (DG f c) V l) (R:X.P<f) (x:X.P<c) (ha:a.heap.size≤f) (D:a.heap.size≤c) (F:f≤B) (C:c<B) (w:B≤W.heap.size) (y: ∀g,V.ownBlock=some g→g<B)
 (hx:OwnN W (fun b=>B≤b) (.slice J sub.len N) sub) (hk:qQ (nd op ln s k n t sub)) (hd:q.deep=d) (hz:zN u z) (Y:W.heap.size≤z):
 IpZ X a W q f c L c1 c2 c3 c4 c5 M V l d u u z op ln s k n t va vc J N sub:=by
 have A:=p.ge;have S:=v.lt;have T:=hc.size;have Z:=hz.lt;refine⟨(v.below' hc).c7,p.below hc,Xq (p.below hc) hz (by omega) (by omega) (fun g hg=>by have:=(A g hg).2;omega),⟨by omega,by omega⟩,fun g9 c9 w9 j hg G=> ?_⟩;obtain⟨_,i,r,_,h,H⟩:=OwnN.slot j;injection i with i
 injection i with i
 subst i;obtain⟨u0,k0⟩:=Option.isSome_iff_exists.1 (h 0 (by decide));obtain⟨u1,k1⟩:=Option.isSome_iff_exists.1 (h 1 (by decide));obtain⟨u2,k2⟩:=Option.isSome_iff_exists.1 (h 2 (by decide));obtain⟨u3,k3⟩:=Option.isSome_iff_exists.1 (h 3 (by decide));obtain⟨u4,k4⟩:=Option.isSome_iff_exists.1 (h 4 (by decide));obtain⟨u5,k5⟩:=Option.isSome_iff_exists.1 (h 5 (by decide));obtain⟨u6,k6⟩:=Option.isSome_iff_exists.1 (h 6 (by decide));obtain⟨u7,k7⟩:=Option.isSome_iff_exists.1 (h 7 (by decide));have m:=(v.below' hc).app hg (fun e=>(p.ge _ e).1.2 rfl);have U:=hg.size
 exact⟨u0,u1,u2,u3,u4,u5,u6,u7,k0,k1,k2,k3,k4,k5,k6,k7,H,m.c7,m.fr 7,r.2,fun e=>r.2 e.symm,fun wx I=>
  Xp op ln s k n t va vc (jo W _) O v p R ha x D hc hg j G hx y F C w hk (Nat.le_refl 1) hd (by omega) I⟩
end
theorem Ke(X:PCtx)(F:Nat)(hF:F≤1000000000)(ec:EC X F)(ih:SC X F)(w:World)(p:PS)(r:NL×PS)(v:PSt w X p)(h0:0≤p.deep)(h1:p.deep≤160)(d:qj X.l p [98,114,101,97,107]=true)(hr:r=(ndL 45 (qd X.l p) .nil,qf X.l (qb p) [59])):
 Calls Tryz.prog 36 #[.pointer (some ⟨X.P,0,none⟩)] w (PNd X (fun k=>w.heap.size≤k) w p (F+1) r):=by
 have hPl:=v.lt;have hlen:=v.len;obtain⟨i0,hi0,hz0,hz1,hz2⟩:=info_parts qz;have EC:=hid ec;have IH:=hid ih;clear ec ih;have f:=hid d;clear d;obtain⟨M,j⟩: ∃M,M=(w).alloc (.cells #[.int .i64 0,.int .i64 0,.string ⟨#[]⟩,.int .i64 0,.int .i64 0,.string ⟨#[]⟩,.slice none 0 0,.slice none 0 0] 31):=⟨_,rfl⟩
 have H:=hid (show Mvd w M X p by rw[j];exact((Mvd.of v).alloc _));have hsa:M.heap.size=w.heap.size+1:=by rw[j];simp
 have Y:=hid (show zN M w.heap.size by rw[j];exact(zN.new w));have V:=hid j;clear j;go_enter Tryz.func36,Tryz.ntmps36
 go_wp2_with fail
 rw[←V.out];refine(qO H.out.st).mono ?_;rintro e1 m ⟨rfl,q⟩;have N:=hid (H.out.trans q);have hs1:=q.grown.size;have z:=hid (NdB.grown Y.out q.grown (show X.P<w.heap.size by omega));clear q;obtain⟨w2,i⟩: ∃w2,w2=(m.alloc (.cells #[.int .i64 0,.int .i64 (qd X.l p),.string ⟨#[]⟩,.int .i64 0,.int .i64 0,.string ⟨#[]⟩,.slice none 0 0,.slice none 0 0] 31)):=⟨_,rfl⟩
 have u:Below m.heap.size m w2:=by rw[i];exact((Below.refl _ _).alloc (Nat.le_refl _) _)
 have x:=hid (show NdB w2 m.heap.size (.int .i64 0) (.int .i64 (qd X.l p)) (.string ⟨#[]⟩) (.int .i64 0) (.int .i64 0) (.string ⟨#[]⟩) (.slice none 0 0) (.slice none 0 0)by rw[i];exact NdB.new _ _ _ _ _ _ _ _ _);have hs2:w2.heap.size=m.heap.size+1:=by rw[i];simp
 have D:=hid (N.out.below u);have A:=hid (z.out.below' u);have T:=hid i;clear i u;go_wp2_with fail
 rw[←T.out];refine(za D.out.st (s:=⟨#[98,114,101,97,107]⟩) (L:= [98,114,101,97,107]) rfl f.out).mono ?_;rintro e3 w3 ⟨rfl,g⟩;have O:=hid (D.out.trans g);have hs3:=g.grown.size;have B:=hid (NdB.grown A.out g.grown (show X.P<w.heap.size by omega));have e:=hid (NdB.grown x.out g.grown (show X.P<m.heap.size by omega));clear g;have S:=hid hr;have I:=e.out.c0;have J:=e.out.fr 0;obtain⟨w4,t⟩: ∃W,W=(w3.setCell ⟨m.heap.size,0,none⟩ (.int .i64 45)):=⟨_,rfl⟩
 have n:w3.grownBy w4 (some m.heap.size):=by rw[t];exact qv _ _ _ _
 have hs4:=n.size;have G:=hid (O.out.node e.out (by omega) (by omega) n);have C:=hid (B.out.apart n (by omega));have y:=hid (show NdB w4 m.heap.size (.int .i64 45) (.int .i64 (qd X.l p)) (.string ⟨#[]⟩) (.int .i64 0) (.int .i64 0) (.string ⟨#[]⟩) (.slice none 0 0) (.slice none 0 0)by rw[t];exact e.out.set0 _);have U:=hid t;clear t n;go_wp2_with fail
 rw[←U.out];clear I J;refine(qT G.out.st (s:=⟨#[59]⟩) (L:= [59]) rfl).mono ?_;rintro e5 w5 ⟨rfl,h⟩;have R:=hid (G.out.trans h);have hs5:=h.grown.size;have b:=hid (NdB.grown C.out h.grown (show X.P<w.heap.size by omega));have c:=hid (NdB.grown y.out h.grown (show X.P<m.heap.size by omega));clear h;have Z:=c.out.c0;have aa:=c.out.c1;have ab:=c.out.c2;have ac:=c.out.c3;have ad:=c.out.c4;have ae:=c.out.c5;have af:=c.out.c6;have ag:=c.out.c7;have ah:=b.out.c0;have f3_0:=b.out.fr 0;have ai:=b.out.c1;have f3_1:=b.out.fr 1;have aj:=b.out.c2;have f3_2:=b.out.fr 2;have ak:=b.out.c3;have f3_3:=b.out.fr 3;have al:=b.out.c4;have f3_4:=b.out.fr 4;have am:=b.out.c5;have f3_5:=b.out.fr 5;have an:=b.out.c6;have f3_6:=b.out.fr 6;have ao:=b.out.c7;have f3_7:=b.out.fr 7;go_wp2_with fail
 refine ql Tryz.results36 w.heap.size rfl rfl (b.out.set8 _ _ _ _ _ _ _ _) ?_;exact PNd.mk 45 (qd X.l p) ⟨#[]⟩ 0 0 ⟨#[]⟩ none 0 (.slice none 0 0) .nil _ S.out (R.out.node b.out (by omega) (by omega) (qe _ _ _ _ _ _ _ _ _ _)) (OwnN.nil _ _) (zr (by decide) (by decide)) (Nat.zero_le _) (by first|omega|(simp<;>omega))
theorem Jb(X:PCtx)(F:Nat)(hF:F≤1000000000)(ec:EC X F)(ih:SC X F)(w:World)(p:PS)(r:NL×PS)(z:PSt w X p)(h0:0≤p.deep)(h1:p.deep≤160)(e:qj X.l p [98,114,101,97,107]=false)(c:qj X.l p [99,111,110,116,105,110,117,101]=true)(hr:r=(ndL 46 (qd X.l p) .nil,qf X.l (qb p) [59])):
 Calls Tryz.prog 36 #[.pointer (some ⟨X.P,0,none⟩)] w (PNd X (fun k=>w.heap.size≤k) w p (F+1) r):=by
 have hPl:=z.lt;have hlen:=z.len;obtain⟨i0,hi0,hz0,hz1,hz2⟩:=info_parts qz;have EC:=hid ec;have IH:=hid ih;clear ec ih;have h:=hid e;have f:=hid c;clear e c;obtain⟨U,q⟩: ∃U,U=(w).alloc (.cells #[.int .i64 0,.int .i64 0,.string ⟨#[]⟩,.int .i64 0,.int .i64 0,.string ⟨#[]⟩,.slice none 0 0,.slice none 0 0] 31):=⟨_,rfl⟩
 have R:=hid (show Mvd w U X p by rw[q];exact((Mvd.of z).alloc _));have hsa:U.heap.size=w.heap.size+1:=by rw[q];simp
 have ae:=hid (show zN U w.heap.size by rw[q];exact(zN.new w));have ad:=hid q;clear q;go_enter Tryz.func36,Tryz.ntmps36
 go_wp2_with fail
 rw[←ad.out];refine(qO R.out.st).mono ?_;rintro e1 t ⟨rfl,v⟩;have V:=hid (R.out.trans v);have hs1:=v.grown.size;have D:=hid (NdB.grown ae.out v.grown (show X.P<w.heap.size by omega));clear v;obtain⟨w2,n⟩: ∃w2,w2=(t.alloc (.cells #[.int .i64 0,.int .i64 (qd X.l p),.string ⟨#[]⟩,.int .i64 0,.int .i64 0,.string ⟨#[]⟩,.slice none 0 0,.slice none 0 0] 31)):=⟨_,rfl⟩
 have y:Below t.heap.size t w2:=by rw[n];exact((Below.refl _ _).alloc (Nat.le_refl _) _)
 have A:=hid (show NdB w2 t.heap.size (.int .i64 0) (.int .i64 (qd X.l p)) (.string ⟨#[]⟩) (.int .i64 0) (.int .i64 0) (.string ⟨#[]⟩) (.slice none 0 0) (.slice none 0 0)by rw[n];exact NdB.new _ _ _ _ _ _ _ _ _);have hs2:w2.heap.size=t.heap.size+1:=by rw[n];simp
 have M:=hid (V.out.below y);have G:=hid (D.out.below' y);have ab:=hid n;clear n y;go_wp2_with fail
 rw[←ab.out];refine(qr M.out.st (s:=⟨#[98,114,101,97,107]⟩) (L:= [98,114,101,97,107]) rfl h.out).mono ?_;rintro e3 w3 ⟨rfl,i⟩;have N:=hid (M.out.trans i);have hs3:=i.grown.size;have H:=hid (NdB.grown G.out i.grown (show X.P<w.heap.size by omega));have B:=hid (NdB.grown A.out i.grown (show X.P<t.heap.size by omega));clear i;go_wp2_with fail
 refine(za N.out.st (s:=⟨#[99,111,110,116,105,110,117,101]⟩) (L:= [99,111,110,116,105,110,117,101]) rfl f.out).mono ?_;rintro e4 w4 ⟨rfl,j⟩;have Y:=hid (N.out.trans j);have hs4:=j.grown.size;have I:=hid (NdB.grown H.out j.grown (show X.P<w.heap.size by omega));have g:=hid (NdB.grown B.out j.grown (show X.P<t.heap.size by omega));clear j;have aa:=hid hr;have S:=g.out.c0;have T:=g.out.fr 0;obtain⟨w5,x⟩: ∃W,W=(w4.setCell ⟨t.heap.size,0,none⟩ (.int .i64 46)):=⟨_,rfl⟩
 have u:w4.grownBy w5 (some t.heap.size):=by rw[x];exact qv _ _ _ _
 have hs5:=u.size;have O:=hid (Y.out.node g.out (by omega) (by omega) u);have J:=hid (I.out.apart u (by omega));have C:=hid (show NdB w5 t.heap.size (.int .i64 46) (.int .i64 (qd X.l p)) (.string ⟨#[]⟩) (.int .i64 0) (.int .i64 0) (.string ⟨#[]⟩) (.slice none 0 0) (.slice none 0 0)by rw[x];exact g.out.set0 _);have ac:=hid x;clear x u;go_wp2_with fail
 rw[←ac.out];clear S T;refine(qT O.out.st (s:=⟨#[59]⟩) (L:= [59]) rfl).mono ?_;rintro e6 w6 ⟨rfl,m⟩;have Z:=hid (O.out.trans m);have hs6:=m.grown.size;have b:=hid (NdB.grown J.out m.grown (show X.P<w.heap.size by omega));have d:=hid (NdB.grown C.out m.grown (show X.P<t.heap.size by omega));clear m;have af:=d.out.c0;have ag:=d.out.c1;have ah:=d.out.c2;have ai:=d.out.c3;have aj:=d.out.c4;have ak:=d.out.c5;have al:=d.out.c6;have am:=d.out.c7;have an:=b.out.c0;have f3_0:=b.out.fr 0;have ao:=b.out.c1;have f3_1:=b.out.fr 1;have ap:=b.out.c2;have f3_2:=b.out.fr 2;have aq:=b.out.c3;have f3_3:=b.out.fr 3;have ar:=b.out.c4;have f3_4:=b.out.fr 4;have au:=b.out.c5;have f3_5:=b.out.fr 5;have av:=b.out.c6;have f3_6:=b.out.fr 6;have aw:=b.out.c7;have f3_7:=b.out.fr 7;go_wp2_with fail
 refine ql Tryz.results36 w.heap.size rfl rfl (b.out.set8 _ _ _ _ _ _ _ _) ?_;exact PNd.mk 46 (qd X.l p) ⟨#[]⟩ 0 0 ⟨#[]⟩ none 0 (.slice none 0 0) .nil _ aa.out (Z.out.node b.out (by omega) (by omega) (qe _ _ _ _ _ _ _ _ _ _)) (OwnN.nil _ _) (zr (by decide) (by decide)) (Nat.zero_le _) (by first|omega|(simp<;>omega))
theorem KD(X:PCtx)(F:Nat)(hF:F≤1000000000)(ec:EC X F)(ih:SC X F)(w:World)(p:PS)(r:NL×PS)(D:PSt w X p)(h0:0≤p.deep)(h1:p.deep≤160)(f:qj X.l p [98,114,101,97,107]=false)(c:qj X.l p [99,111,110,116,105,110,117,101]=false)(e:qj X.l p [114,101,116,117,114,110]=true)(hs:qj X.l (qb p) [59]=true)(hr:r=(ndL 47 (qd X.l p) .nil,qf X.l (qb p) [59])):
 Calls Tryz.prog 36 #[.pointer (some ⟨X.P,0,none⟩)] w (PNd X (fun k=>w.heap.size≤k) w p (F+1) r):=by
 have hPl:=D.lt;have hlen:=D.len;obtain⟨i0,hi0,hz0,hz1,hz2⟩:=info_parts qz;have EC:=hid ec;have IH:=hid ih;clear ec ih;have j:=hid f;have g:=hid c;have h:=hid e;clear f c e;obtain⟨wa,y⟩: ∃wa,wa=(w).alloc (.cells #[.int .i64 0,.int .i64 0,.string ⟨#[]⟩,.int .i64 0,.int .i64 0,.string ⟨#[]⟩,.slice none 0 0,.slice none 0 0] 31):=⟨_,rfl⟩
 have ad:=hid (show Mvd w wa X p by rw[y];exact((Mvd.of D).alloc _));have hsa:wa.heap.size=w.heap.size+1:=by rw[y];simp
 have HZr:=hid (show zN wa w.heap.size by rw[y];exact(zN.new w));have HWA:=hid y;clear y;go_enter Tryz.func36,Tryz.ntmps36
 go_wp2_with fail
 rw[←HWA.out];refine(qO ad.out.st).mono ?_;rintro e1 m ⟨rfl,A⟩;have HM1:=hid (ad.out.trans A);have hs1:=A.grown.size;have N:=hid (NdB.grown HZr.out A.grown (show X.P<w.heap.size by omega));clear A;obtain⟨w2,x⟩: ∃w2,w2=(m.alloc (.cells #[.int .i64 0,.int .i64 (qd X.l p),.string ⟨#[]⟩,.int .i64 0,.int .i64 0,.string ⟨#[]⟩,.slice none 0 0,.slice none 0 0] 31)):=⟨_,rfl⟩
 have C:Below m.heap.size m w2:=by rw[x];exact((Below.refl _ _).alloc (Nat.le_refl _) _)
 have G:=hid (show NdB w2 m.heap.size (.int .i64 0) (.int .i64 (qd X.l p)) (.string ⟨#[]⟩) (.int .i64 0) (.int .i64 0) (.string ⟨#[]⟩) (.slice none 0 0) (.slice none 0 0)by rw[x];exact NdB.new _ _ _ _ _ _ _ _ _);have hs2:w2.heap.size=m.heap.size+1:=by rw[x];simp
 have Y:=hid (HM1.out.below C);have O:=hid (N.out.below' C);have HW2:=hid x;clear x C;go_wp2_with fail
 rw[←HW2.out];refine(qr Y.out.st (s:=⟨#[98,114,101,97,107]⟩) (L:= [98,114,101,97,107]) rfl j.out).mono ?_;rintro e3 w3 ⟨rfl,n⟩;have Z:=hid (Y.out.trans n);have hs3:=n.grown.size;have R:=hid (NdB.grown O.out n.grown (show X.P<w.heap.size by omega));have H:=hid (NdB.grown G.out n.grown (show X.P<m.heap.size by omega));clear n;go_wp2_with fail
 refine(qr Z.out.st (s:=⟨#[99,111,110,116,105,110,117,101]⟩) (L:= [99,111,110,116,105,110,117,101]) rfl g.out).mono ?_;rintro e4 w4 ⟨rfl,q⟩;have aa:=hid (Z.out.trans q);have hs4:=q.grown.size;have S:=hid (NdB.grown R.out q.grown (show X.P<w.heap.size by omega));have I:=hid (NdB.grown H.out q.grown (show X.P<m.heap.size by omega));clear q;go_wp2_with fail
 refine(za aa.out.st (s:=⟨#[114,101,116,117,114,110]⟩) (L:= [114,101,116,117,114,110]) rfl h.out).mono ?_;rintro e5 w5 ⟨rfl,t⟩;have HM5:=hid (aa.out.trans t);have hs5:=t.grown.size;have T:=hid (NdB.grown S.out t.grown (show X.P<w.heap.size by omega));have i:=hid (NdB.grown I.out t.grown (show X.P<m.heap.size by omega));clear t;have HRR:=hid hr;have HS:=hid hs;clear hs;have ae:=i.out.c0;have af:=i.out.fr 0;obtain⟨w6,B⟩: ∃W,W=(w5.setCell ⟨m.heap.size,0,none⟩ (.int .i64 47)):=⟨_,rfl⟩
 have z:w5.grownBy w6 (some m.heap.size):=by rw[B];exact qv _ _ _ _
 have hs6:=z.size;have ab:=hid (HM5.out.node i.out (by omega) (by omega) z);have U:=hid (T.out.apart z (by omega));have J:=hid (show NdB w6 m.heap.size (.int .i64 47) (.int .i64 (qd X.l p)) (.string ⟨#[]⟩) (.int .i64 0) (.int .i64 0) (.string ⟨#[]⟩) (.slice none 0 0) (.slice none 0 0)by rw[B];exact i.out.set0 _);have HW6:=hid B;clear B z;go_wp2_with fail
 rw[←HW6.out];clear ae af;refine(QF ab.out.st (s:=⟨#[59]⟩) (L:= [59]) rfl HS.out).mono ?_;rintro e7 w7 ⟨rfl,u⟩;have ac:=hid (ab.out.trans u);have hs7:=u.grown.size;have V:=hid (NdB.grown U.out u.grown (show X.P<w.heap.size by omega));have M:=hid (NdB.grown J.out u.grown (show X.P<m.heap.size by omega));clear u;go_wp2_with fail
 refine(qT ac.out.st (s:=⟨#[59]⟩) (L:= [59]) rfl).mono ?_;rintro e8 w8 ⟨rfl,v⟩;have HM8:=hid (ac.out.trans v);have hs8:=v.grown.size;have b:=hid (NdB.grown V.out v.grown (show X.P<w.heap.size by omega));have d:=hid (NdB.grown M.out v.grown (show X.P<m.heap.size by omega));clear v;have c2_0:=d.out.c0;have c2_1:=d.out.c1;have c2_2:=d.out.c2;have c2_3:=d.out.c3;have c2_4:=d.out.c4;have c2_5:=d.out.c5;have c2_6:=d.out.c6;have c2_7:=d.out.c7;have c3_0:=b.out.c0;have f3_0:=b.out.fr 0;have c3_1:=b.out.c1;have f3_1:=b.out.fr 1;have c3_2:=b.out.c2;have f3_2:=b.out.fr 2;have c3_3:=b.out.c3;have f3_3:=b.out.fr 3;have c3_4:=b.out.c4;have f3_4:=b.out.fr 4;have c3_5:=b.out.c5;have f3_5:=b.out.fr 5;have c3_6:=b.out.c6;have f3_6:=b.out.fr 6;have c3_7:=b.out.c7;have f3_7:=b.out.fr 7;go_wp2_with fail
 refine ql Tryz.results36 w.heap.size rfl rfl (b.out.set8 _ _ _ _ _ _ _ _) ?_;exact PNd.mk 47 (qd X.l p) ⟨#[]⟩ 0 0 ⟨#[]⟩ none 0 (.slice none 0 0) .nil _ HRR.out (HM8.out.node b.out (by omega) (by omega) (qe _ _ _ _ _ _ _ _ _ _)) (OwnN.nil _ _) (zr (by decide) (by decide)) (Nat.zero_le _) (by first|omega|(simp<;>omega))
theorem KE(X:PCtx)(F:Nat)(hF:F≤1000000000)(ec:EC X F)(ih:SC X F)(w:World)(p:PS)(r:NL×PS)(ah:PSt w X p)(h0:0≤p.deep)(h1:p.deep≤160)(n:qj X.l p [98,114,101,97,107]=false)(e:qj X.l p [99,111,110,116,105,110,117,101]=false)(m:qj X.l p [114,101,116,117,114,110]=true)(hs:qj X.l (qb p) [59]=false)(n5:NL)(p5:PS)(hq:qa X.l F .expr (qb p)=some (n5,p5))(hr:r=(ndL 47 (qd X.l p) n5,qf X.l p5 [59])):
 Calls Tryz.prog 36 #[.pointer (some ⟨X.P,0,none⟩)] w (PNd X (fun k=>w.heap.size≤k) w p (F+1) r):=by
 have hPl:=ah.lt;have hlen:=ah.len;obtain⟨i0,hi0,hz0,hz1,hz2⟩:=info_parts qz;have EC:=hid ec;have IH:=hid ih;clear ec ih;have B:=hid n;have q:=hid e;have x:=hid m;clear n e m;obtain⟨wa,U⟩: ∃wa,wa=(w).alloc (.cells #[.int .i64 0,.int .i64 0,.string ⟨#[]⟩,.int .i64 0,.int .i64 0,.string ⟨#[]⟩,.slice none 0 0,.slice none 0 0] 31):=⟨_,rfl⟩
 have HMa:=hid (show Mvd w wa X p by rw[U];exact((Mvd.of ah).alloc _));have hsa:wa.heap.size=w.heap.size+1:=by rw[U];simp
 have HZr:=hid (show zN wa w.heap.size by rw[U];exact(zN.new w));have HWA:=hid U;clear U;go_enter Tryz.func36,Tryz.ntmps36
 go_wp2_with fail
 rw[←HWA.out];refine(qO HMa.out.st).mono ?_;rintro e1 i ⟨rfl,aa⟩;have HM1:=hid (HMa.out.trans aa);have hs1:=aa.grown.size;have HBr1:=hid (NdB.grown HZr.out aa.grown (show X.P<w.heap.size by omega));clear aa;obtain⟨w2,T⟩: ∃w2,w2=(i.alloc (.cells #[.int .i64 0,.int .i64 (qd X.l p),.string ⟨#[]⟩,.int .i64 0,.int .i64 0,.string ⟨#[]⟩,.slice none 0 0,.slice none 0 0] 31)):=⟨_,rfl⟩
 have ag:Below i.heap.size i w2:=by rw[T];exact((Below.refl _ _).alloc (Nat.le_refl _) _)
 have HBn2:=hid (show NdB w2 i.heap.size (.int .i64 0) (.int .i64 (qd X.l p)) (.string ⟨#[]⟩) (.int .i64 0) (.int .i64 0) (.string ⟨#[]⟩) (.slice none 0 0) (.slice none 0 0)by rw[T];exact NdB.new _ _ _ _ _ _ _ _ _);have hs2:w2.heap.size=i.heap.size+1:=by rw[T];simp
 have HM2:=hid (HM1.out.below ag);have HBr2:=hid (HBr1.out.below' ag);have HW2:=hid T;clear T ag;go_wp2_with fail
 rw[←HW2.out];refine(qr HM2.out.st (s:=⟨#[98,114,101,97,107]⟩) (L:= [98,114,101,97,107]) rfl B.out).mono ?_;rintro e3 w3 ⟨rfl,M⟩;have HM3:=hid (HM2.out.trans M);have hs3:=M.grown.size;have HBr3:=hid (NdB.grown HBr2.out M.grown (show X.P<w.heap.size by omega));have HBn3:=hid (NdB.grown HBn2.out M.grown (show X.P<i.heap.size by omega));clear M;go_wp2_with fail
 refine(qr HM3.out.st (s:=⟨#[99,111,110,116,105,110,117,101]⟩) (L:= [99,111,110,116,105,110,117,101]) rfl q.out).mono ?_;rintro e4 w4 ⟨rfl,N⟩;have HM4:=hid (HM3.out.trans N);have hs4:=N.grown.size;have HBr4:=hid (NdB.grown HBr3.out N.grown (show X.P<w.heap.size by omega));have HBn4:=hid (NdB.grown HBn3.out N.grown (show X.P<i.heap.size by omega));clear N;go_wp2_with fail
 refine(za HM4.out.st (s:=⟨#[114,101,116,117,114,110]⟩) (L:= [114,101,116,117,114,110]) rfl x.out).mono ?_;rintro e5 w5 ⟨rfl,O⟩;have HM5:=hid (HM4.out.trans O);have hs5:=O.grown.size;have HBr5:=hid (NdB.grown HBr4.out O.grown (show X.P<w.heap.size by omega));have A:=hid (NdB.grown HBn4.out O.grown (show X.P<i.heap.size by omega));clear O;have HRR:=hid hr;have HS:=hid hs;have HQ5:=hid hq;clear hs hq;have c1_0:=A.out.c0;have f1_0:=A.out.fr 0;obtain⟨w6,ac⟩: ∃W,W=(w5.setCell ⟨i.heap.size,0,none⟩ (.int .i64 47)):=⟨_,rfl⟩
 have Y:w5.grownBy w6 (some i.heap.size):=by rw[ac];exact qv _ _ _ _
 have hs6:=Y.size;have HM6:=hid (HM5.out.node A.out (by omega) (by omega) Y);have HBr6:=hid (HBr5.out.apart Y (by omega));have HBn6:=hid (show NdB w6 i.heap.size (.int .i64 47) (.int .i64 (qd X.l p)) (.string ⟨#[]⟩) (.int .i64 0) (.int .i64 0) (.string ⟨#[]⟩) (.slice none 0 0) (.slice none 0 0)by rw[ac];exact A.out.set0 _);have HW6:=hid ac;clear ac Y;go_wp2_with fail
 rw[←HW6.out];clear c1_0 f1_0;refine(ZE HM6.out.st (s:=⟨#[59]⟩) (L:= [59]) rfl HS.out).mono ?_;rintro e7 f ⟨rfl,R⟩;have HM7:=hid (HM6.out.trans R);have hs7:=R.grown.size;have HBr7:=hid (NdB.grown HBr6.out R.grown (show X.P<w.heap.size by omega));have HBn7:=hid (NdB.grown HBn6.out R.grown (show X.P<i.heap.size by omega));clear R;obtain⟨b,v⟩: ∃acc:NL,acc= .nil:=⟨_,rfl⟩
 have HAL:=hid v;have hal0:b.len≤0:=by rw[v];exact Nat.le_refl _
 have V:=hid (show NdB f i.heap.size (.int .i64 47) (.int .i64 (qd X.l p)) (.string ⟨#[]⟩) (.int .i64 0) (.int .i64 0) (.string ⟨#[]⟩) (.slice none 0 0) (.slice none b.len 0)by rw[v];exact HBn7.out);have af:=hid (show OwnN f (DG (i.heap.size+1) i.heap.size) (.slice none b.len 0) b by rw[v];exact OwnN.nil _ _);clear v;go_upto_region 15 with fail
 go_cut [] (fun wx8=>zC X w f p5 (i.heap.size+1) i.heap.size (.int .i64 47) (.int .i64 (qd X.l p)) (.string ⟨#[]⟩) (.int .i64 0) (.int .i64 0) (.string ⟨#[]⟩) (.slice none 0 0) b n5 1 (p.deep+0) wx8)
 case first=>
  have c7:=V.out.c7;have vlt:=hid (fun g0 (hg0:(.slice none b.len 0:Value).ownBlock=some g0)=>(af.out.ge g0 hg0).2);have D:=hid (show Below f.heap.size f f.drew from(Below.refl _ _).drew);have G:=hid (show Mvd w f.drew X (qb p)from HM7.out.below D.out);have hsc0:f.drew.heap.size=f.heap.size+0:=by show f.heap.size=_;rfl
  have y:=hid (show Below f.heap.size f (f.alloc (.cells #[.int .i64 0,.int .i64 0,.string ⟨#[]⟩,.int .i64 0,.int .i64 0,.string ⟨#[]⟩,.slice none 0 0,.slice none 0 0] 31)).drew from((Below.refl _ _).alloc (Nat.le_refl _) _).drew);have H:=hid (show Mvd w (f.alloc (.cells #[.int .i64 0,.int .i64 0,.string ⟨#[]⟩,.int .i64 0,.int .i64 0,.string ⟨#[]⟩,.slice none 0 0,.slice none 0 0] 31)).drew X (qb p)from HM7.out.below y.out);have hsc1:(f.alloc (.cells #[.int .i64 0,.int .i64 0,.string ⟨#[]⟩,.int .i64 0,.int .i64 0,.string ⟨#[]⟩,.slice none 0 0,.slice none 0 0] 31)).drew.heap.size=f.heap.size+1:=by show(f.alloc (.cells #[.int .i64 0,.int .i64 0,.string ⟨#[]⟩,.int .i64 0,.int .i64 0,.string ⟨#[]⟩,.slice none 0 0,.slice none 0 0] 31)).heap.size=_;simp
  have ad:=hid (show zN (f.alloc (.cells #[.int .i64 0,.int .i64 0,.string ⟨#[]⟩,.int .i64 0,.int .i64 0,.string ⟨#[]⟩,.slice none 0 0,.slice none 0 0] 31)).drew f.heap.size from(show zN (f.alloc (.cells #[.int .i64 0,.int .i64 0,.string ⟨#[]⟩,.int .i64 0,.int .i64 0,.string ⟨#[]⟩,.slice none 0 0,.slice none 0 0] 31)) f.heap.size from zN.new _));have c7z1:(f.alloc (.cells #[.int .i64 0,.int .i64 0,.string ⟨#[]⟩,.int .i64 0,.int .i64 0,.string ⟨#[]⟩,.slice none 0 0,.slice none 0 0] 31)).cell? ⟨i.heap.size,7,none⟩=some (.slice none b.len 0):=(V.out.below' y.out).c7;have EXC0:=hid (show Calls Tryz.prog 26 #[.pointer (some ⟨X.P,0,none⟩)] f.drew (zR X w f p5 (i.heap.size+1) i.heap.size (.int .i64 47) (.int .i64 (qd X.l p)) (.string ⟨#[]⟩) (.int .i64 0) (.int .i64 0) (.string ⟨#[]⟩) (.slice none 0 0) (.slice none b.len 0) b n5 (p.deep+0) none)from qD (d:=p.deep+0) none (EC.out.expr F (Nat.le_refl _) _ _ _ G.out.st (by first|omega|(simp<;>omega)) (by first|omega|(simp<;>omega)) HQ5.out) D.out G.out V.out af.out (show X.P<(i.heap.size+1)by omega) (show X.P<i.heap.size by omega) (by omega) (by omega) (by omega) (by first|omega|(simp<;>omega)) (fun z hz=>by cases hz));have EXC1:=hid (show Calls Tryz.prog 26 #[.pointer (some ⟨X.P,0,none⟩)] (f.alloc (.cells #[.int .i64 0,.int .i64 0,.string ⟨#[]⟩,.int .i64 0,.int .i64 0,.string ⟨#[]⟩,.slice none 0 0,.slice none 0 0] 31)).drew (zR X w f p5 (i.heap.size+1) i.heap.size (.int .i64 47) (.int .i64 (qd X.l p)) (.string ⟨#[]⟩) (.int .i64 0) (.int .i64 0) (.string ⟨#[]⟩) (.slice none 0 0) (.slice none b.len 0) b n5 (p.deep+0) (some f.heap.size))from qD (d:=p.deep+0) (some f.heap.size) (EC.out.expr F (Nat.le_refl _) _ _ _ H.out.st (by first|omega|(simp<;>omega)) (by first|omega|(simp<;>omega)) HQ5.out) y.out H.out V.out af.out (show X.P<(i.heap.size+1)by omega) (show X.P<i.heap.size by omega) (by omega) (by omega) (by omega) (by first|omega|(simp<;>omega)) (fun z hz=>by injection hz with hz;subst hz;exact⟨by omega,ad.out⟩));have b0:(0:Int)≤((b).len:Int):=by omega
  have b1:((b).len:Int)<((b).len:Int)+1:=by omega
  have hlb:(b).len+1≤1000000000000:=by omega
  clear D G hsc0 y H hsc1 ad
  go_region_law
   (first
    |(refine qR (by rfl) (.tmp 45) (.tmp 49) 29 (by rfl) Tryz.underlying29 hi0 hz0 hz1 hz2 (by rfl) (by rfl) IP.out.own (by rfl) IP.out.rp hlb IP.out.dg ?_
      intro g9 c9 w9 S hg9 ae;obtain⟨u0,u1,u2,u3,u4,u5,u6,u7,k0,k1,k2,k3,k4,k5,k6,k7,u,m7,n7,ne,ne2,ap⟩:=IP.out.fin g9 c9 w9 S hg9 ae;have j0:=u ((b).len*8);have j1:=u ((b).len*8+1);have j2:=u ((b).len*8+2);have j3:=u ((b).len*8+3);have j4:=u ((b).len*8+4);have j5:=u ((b).len*8+5);have j6:=u ((b).len*8+6);have j7:=u ((b).len*8+7);have AP:=hid ap
      clear u ap S hg9 ae)
    |(go_simp;go_at_call 26;with_reducible refine EXC0.out.mono ?_
      rintro e9 w8 ⟨op,ln8,t,k9,m9,u9,va,vc,A8,c8,sub,rfl,hn,ip⟩;have HNN:=hid hn;have I:=ip.c7;have c7_9:=fun o=>qq I o;have IP:=hid ip
      clear hn ip)
    |(go_simp;go_at_call 26;with_reducible refine EXC1.out.mono ?_
      rintro e9 w8 ⟨op,ln8,t,k9,m9,u9,va,vc,A8,c8,sub,rfl,hn,ip⟩;have HNN:=hid hn;have I:=ip.c7;have c7_9:=fun o=>qq I o;have IP:=hid ip
      clear hn ip))
  all_goals
   go_wp2_with fail
   go_meet
   rw[HNN.out]
   first
    |exact AP.out _ (.inl (by with_reducible rfl))
    |exact AP.out _ (.inr (by with_reducible rfl))
 case rest=>
  obtain⟨V8,hm8,hd8,hn8,ab,hx8,hk8,hs8,hf8⟩:=hcut;obtain⟨l8,Z⟩: ∃L,L=(b).app n5:=⟨_,rfl⟩
  rw[←Z]at ab;have hll8:l8.len≤(b).len+1:=by rw[Z,NL.len_app];omega
  have HL8:=hid Z;clear Z;obtain⟨A8,cq8,rfl⟩:=ab.form;have HM8:=hid hm8;have HBn8:=hid hn8;have HOn8:=hid ab;have HX8:=hid hk8;have HBr8:=hid (hf8 _ _ _ _ _ _ _ _ _ (by omega) (by omega) (by omega) HBr7.out);clear hm8 hn8 ab hk8 hf8;have J:l8=n5:=by rw[HL8.out,HAL.out];rfl
  have HRS:=hid (show r=(ndL 47 (qd X.l p) l8,qf X.l p5 [59])by rw[J];exact HRR.out);have HKS:=hid (show qQ l8 by rw[J];exact HX8.out);clear J;go_wp2_with fail
  refine(qT HM8.out.st (s:=⟨#[59]⟩) (L:= [59]) rfl).mono ?_;rintro e9 w9 ⟨rfl,C⟩;have HM9:=hid (HM8.out.trans C);have hs9:=C.grown.size;have c:=hid (NdB.grown HBr8.out C.grown (show X.P<w.heap.size by omega));have j:=hid (NdB.grown HBn8.out C.grown (show X.P<i.heap.size by omega));have HOn9:=hid (OwnN.grown HOn8.out C.grown (DG.not (by omega)));clear C;have c2_0:=j.out.c0;have c2_1:=j.out.c1;have c2_2:=j.out.c2;have c2_3:=j.out.c3;have c2_4:=j.out.c4;have c2_5:=j.out.c5;have c2_6:=j.out.c6;have c2_7:=j.out.c7;have c3_0:=c.out.c0;have f3_0:=c.out.fr 0;have c3_1:=c.out.c1;have f3_1:=c.out.fr 1;have c3_2:=c.out.c2;have f3_2:=c.out.fr 2;have c3_3:=c.out.c3;have f3_3:=c.out.fr 3;have c3_4:=c.out.c4;have f3_4:=c.out.fr 4;have c3_5:=c.out.c5;have f3_5:=c.out.fr 5;have c3_6:=c.out.c6;have f3_6:=c.out.fr 6;have c3_7:=c.out.c7;have f3_7:=c.out.fr 7;go_wp2_with fail
  refine ql Tryz.results36 w.heap.size rfl rfl (c.out.set8 _ _ _ _ _ _ _ _) ?_;exact PNd.mk 47 (qd X.l p) ⟨#[]⟩ 0 0 ⟨#[]⟩ none 0 _ _ _ HRS.out (HM9.out.node c.out (by omega) (by omega) (qe _ _ _ _ _ _ _ _ _ _)) (qC (w0:=w.heap.size) (g:=w.heap.size) HOn9.out (by omega) (qe _ _ _ _ _ _ _ _ _ _) (by omega)) (qX HKS.out (fun h=>by rcases h with h|h<;>cases h)) (by omega) (by first|omega|(simp<;>omega))
theorem Kv(c:Int)(p:Bool)(pos:Int)(w:World):
 Calls Tryz.prog 38 #[jL c p pos,jL c p pos] w fun e w'=>e= .returned (.bool true)∧Below w.heap.size w w':=by
 obtain⟨w1,d⟩: ∃w1,w1=(w.alloc (.cells #[.int .i64 c,.bool p,.int .i64 pos,.int .i64 0,.int .i64 0,.string ⟨#[]⟩,.slice none 0 0] 41)).alloc (.cells #[.int .i64 c,.bool p,.int .i64 pos,.int .i64 0,.int .i64 0,.string ⟨#[]⟩,.slice none 0 0] 41):=⟨_,rfl⟩
 have g:Below w.heap.size w w1:=by rw[d];exact((Below.refl _ _).alloc (Nat.le_refl _) _).alloc (by simp) _
 have k:StF w1 w.heap.size (.int .i64 c) (.bool p) (.int .i64 pos) (.int .i64 0) (.int .i64 0) (.string ⟨#[]⟩) (.slice none 0 0):=by
  rw[d];exact(Below.heap_alloc _ _ _ (by simp)).trans (StF.new w _ _ _ _ _ _ _)
 have l:StF w1 (w.heap.size+1) (.int .i64 c) (.bool p) (.int .i64 pos) (.int .i64 0) (.int .i64 0) (.string ⟨#[]⟩) (.slice none 0 0):=by
  rw[d];have:=StF.new (w.alloc (.cells #[.int .i64 c,.bool p,.int .i64 pos,.int .i64 0,.int .i64 0,.string ⟨#[]⟩,.slice none 0 0] 41)) (.int .i64 c) (.bool p) (.int .i64 pos) (.int .i64 0) (.int .i64 0) (.string ⟨#[]⟩) (.slice none 0 0);rw[World.size_alloc]at this;exact this
 have b:(zv 0 0 ⟨#[]⟩ .nil).fit:=⟨by decide,by decide,trivial,trivial⟩
 have j:=hid (qe5 0 0 ⟨#[]⟩ .nil none 0 0 0 ⟨#[]⟩ .nil none 0 w1 b b (Nat.le_refl _) (Nat.le_refl _) trivial trivial);rw[qbL.2 ⟨rfl,rfl,rfl,rfl⟩,show VL.nil.len=0 from rfl]at j;have q:=hid d;have m:=hid k;have n:=hid l;have i:=hid g;unfold jL;clear g k l d b;go_enter Tryz.func38,Tryz.ntmps38
 go_wp2_with fail
 rw[←q.out];refine j.out.mono ?_;rintro e w2 ⟨rfl,f⟩;obtain⟨r,c1,c2,c3,c4,c5,s⟩:=(m.out.below f).cells;obtain⟨t,d1,d2,d3,d4,d5,u⟩:=(n.out.below f).cells;have h:=hid (i.out.trans (xJ f i.out.size));clear f;go_wp2_with fail
 go_returns
 exact⟨by simp,h.out⟩
theorem qbN(v:Value)(c:Int)(p:Bool)(pos:Int)(w:World)(H: ∀W,Below w.heap.size w W→Calls Tryz.prog 13 #[v] W fun e w'=>e= .returned (jL c p pos)∧Below W.heap.size W w'):
 Calls Tryz.prog 16 #[v,jL c p pos] w fun e w'=>e= .returned (.bool true)∧Below w.heap.size w w':=by
 obtain⟨w1,d⟩: ∃w1,w1=w.alloc (.cells #[.int .i64 c,.bool p,.int .i64 pos,.int .i64 0,.int .i64 0,.string ⟨#[]⟩,.slice none 0 0] 41):=⟨_,rfl⟩
 have b:Below w.heap.size w w1:=by rw[d];exact(Below.refl _ _).alloc (Nat.le_refl _) _
 have m:StF w1 w.heap.size (.int .i64 c) (.bool p) (.int .i64 pos) (.int .i64 0) (.int .i64 0) (.string ⟨#[]⟩) (.slice none 0 0):=by rw[d];exact StF.new w _ _ _ _ _ _ _
 obtain⟨S,g⟩: ∃S:World→Prop,S=fun W=>W.cell? ⟨w.heap.size,0,none⟩=some (.int .i64 c)∧W.cell? ⟨w.heap.size,1,none⟩=some (.bool p)∧W.cell? ⟨w.heap.size,2,none⟩=some (.int .i64 pos)∧W.cell? ⟨w.heap.size,3,none⟩=some (.int .i64 0)∧
  W.cell? ⟨w.heap.size,4,none⟩=some (.int .i64 0)∧W.cell? ⟨w.heap.size,5,none⟩=some (.string ⟨#[]⟩)∧W.cell? ⟨w.heap.size,6,none⟩=some (.slice none 0 0)∧Below w1.heap.size w1 W:=⟨_,rfl⟩
 have j: ∀W,Below w1.heap.size w1 W→S W:=fun W n=>by
  obtain⟨t,c1,c2,c3,c4,c5,u⟩:=(m.below n).cells;rw[g];exact⟨t,c1,c2,c3,c4,c5,u,n⟩
 have f: ∀W,S W→Below w1.heap.size w1 W:=fun W h=>by rw[g]at h;exact h.2.2.2.2.2.2.2
 have k:=hid (fun W (h:S W)=>(H W (b.trans (xJ (f W h) b.size))).mono (R':=fun e W'=>e= .returned (jL c p pos)∧S W') fun e W' i=>⟨i.1,j _ ((f W h).trans (xJ i.2 (f W h).size))⟩);have l:=hid (fun W (h:S W)=>(Kv c p pos W).mono (R':=fun e W'=>e= .returned (.bool true)∧S W') fun e W' i=>⟨i.1,j _ ((f W h).trans (xJ i.2 (f W h).size))⟩);have s:S w1.drew:=j _ (Below.refl _ _).drew;have q:=hid (fun W (h:S W)=>b.trans (xJ (f W h) b.size));have r:=hid d;unfold jL;unfold jL at k l;clear j f m b d H;subst g;go_enter Tryz.func16,Tryz.ntmps16
 go_wp2_with fail
 rw[←r.out]
 go_region_held3 (fun W=>W.cell? ⟨w.heap.size,0,none⟩=some (.int .i64 c)∧W.cell? ⟨w.heap.size,1,none⟩=some (.bool p)∧W.cell? ⟨w.heap.size,2,none⟩=some (.int .i64 pos)∧W.cell? ⟨w.heap.size,3,none⟩=some (.int .i64 0)∧
  W.cell? ⟨w.heap.size,4,none⟩=some (.int .i64 0)∧W.cell? ⟨w.heap.size,5,none⟩=some (.string ⟨#[]⟩)∧W.cell? ⟨w.heap.size,6,none⟩=some (.slice none 0 0)∧Below w1.heap.size w1 W)
  (first|assumption|exact s)
  (first
   |(go_at_call 13;refine(k.out _ ?_).mono ?_;assumption;rintro e w' ⟨rfl,hs⟩)
   |(go_at_call 38;refine(l.out _ ?_).mono ?_;assumption;rintro e w' ⟨rfl,hs⟩))
 all_goals
  go_wp2_with fail
  go_returns
  exact⟨rfl,q.out _ (by assumption)⟩
structure CInv (base:Nat) (w0 wr:World) (V:Value) (acc:VL) (xs:List Value):Prop where
 own:wr.ownsRow base 28 4 V acc.len xs
 cells:CellsOf wr (fun b=>base≤b∧b<wr.heap.size∧V.ownBlock≠some b) acc xs
 below:Below base w0 wr
 size:base≤wr.heap.size
theorem CInv.nil(w:World):CInv w.heap.size w w (.slice none 0 0) .nil []:=⟨World.ownsRow_nil _ _ _ _,rfl,Below.refl _ _,Nat.le_refl _⟩
theorem CInv.move{d:Nat}{w0 wr w':World}{V:Value}{acc:VL}{xs:List Value}(h:CInv d w0 wr V acc xs)(hb:Below wr.heap.size wr w'):CInv d w0 w' V acc xs:=
 ⟨qbt h.own hb,h.cells.keep (fun b c=>hb.block b c.2.1) (fun b c=>⟨c.1,Nat.lt_of_lt_of_le c.2.1 hb.size,c.2.2⟩),h.below.trans (qc hb h.size),Nat.le_trans h.size hb.size⟩
theorem CInv.step{c:Nat}{w0 wr w3 q:World}{V i:Value}{acc:VL}{xs:List Value}(h:CInv c w0 wr V acc xs)(hb:Below wr.heap.size wr w3)
 {k n:Int} {t:ByteArray} {sub:VL} {sa:Option Addr} {sc:Nat} (u:sub.len≤sc) (p:RpL w3 (fun b=>wr.heap.size≤b∧b<w3.heap.size) sub sa) {r:Obj}
 (m:q.ownsRow c 28 4 i (acc.len+1) (xs++ [.int .i64 k,.int .i64 n,.string t,.slice sa sub.len sc])) (hg:(w3.alloc r).grownBy q V.ownBlock)
 (s:i.ownBlock=V.ownBlock∨i.ownBlock=some (w3.alloc r).heap.size):
 CInv c w0 q i (acc.app (zv k n t sub)) (xs++ [.int .i64 k,.int .i64 n,.string t,.slice sa sub.len sc]):=by
 have h3:=h.move hb;have l: ∀g,V.ownBlock=some g→c≤g∧g<wr.heap.size:=fun g hg=>⟨kO h.own g hg,Z5 h.own g hg⟩
 have v:(w3.alloc r).heap.size=w3.heap.size+1:=by simp
 have y:w3.heap.size+1≤q.heap.size:=by have:=hg.size;omega
 have x:=hb.size;have w:=h.size
 have j: ∀b,b<w3.heap.size→V.ownBlock≠some b→q.heap[b]?=w3.heap[b]?:=fun b hb d=>by
  have h1:=hg.block b (by omega) (fun e=>d e.symm);rw[h1,Below.heap_alloc _ _ _ hb]
 have f: ∀b,b<w3.heap.size→V.ownBlock≠some b→i.ownBlock≠some b:=fun b hb d e=>by
  rcases s with e2|e2
  ·exact d (e2.symm.trans e)
  ·rw[e]at e2
   injection e2 with e2
   omega
 refine⟨by rw[VL.len_app];exact m,?_,?_,by omega⟩
 ·refine CellsOf.app _ _ _ _ ?_ ⟨sa,sc,[],rfl,u,?_,rfl⟩
  ·exact h3.cells.keep (fun b hb=>j b hb.2.1 hb.2.2) (fun b hb=>⟨hb.1,by have:=hb.2.1;omega,f b hb.2.1 hb.2.2⟩)
  ·have d: ∀b,wr.heap.size≤b→V.ownBlock≠some b:=fun b hb e=>by have:=(l b e).2;omega
   exact p.keep (fun b hb=>j b hb.2 (d b hb.1)) (fun b hb=>⟨by have:=hb.1;omega,by have:=hb.2;omega,f b hb.2 (d b hb.1)⟩)
 ·exact Kq (h3.below.alloc h3.size r) (by simp;omega) hg (fun k hk=>(l k hk).1)
theorem CInv.rep{c:Nat}{w0 wr:World}{V:Value}{acc:VL}{xs:List Value}(h:CInv c w0 wr V acc xs): ∃(sa:Option Addr)(sc:Nat),V= .slice sa acc.len sc∧acc.len≤sc∧RpL wr (fun b=>c≤b∧b<wr.heap.size) acc sa:=
 KY h.own (h.cells.keep (fun _ _=>rfl) (fun b hb=>⟨hb.1,hb.2.1⟩)) (fun g hg=>⟨kO h.own g hg,Z5 h.own g hg⟩)
def qhl(b:Nat)(w:World)(e:Ending)(w':World):Prop:= ∃r:Nat,r<b∧e= .returned (.int .i64 r)∧w=w'
theorem J5(n:Int)(b:Nat)(w:World)(g: -9223372036854775808≤n)(i:n≤9223372036854775807)(d:0<b)(e:b≤1000000):
 Calls Tryz.prog 10 #[.int .i64 n,.int .i64 b] w (qhl b w):=by
 have k:Int.tmod n b<b:=Int.tmod_lt_of_pos n (by omega)
 have j: -(b:Int)<Int.tmod n b:=by
  by_cases h:0≤n
  ·have:=Int.tmod_nonneg (b:Int) h;omega
  ·have h1:=Int.tmod_lt_of_pos (-n) (show(0:Int)<(b:Int)by omega)
   rw[Int.neg_tmod]at h1;omega
 have f:((b:Int)==0)=false:=(qfn (by omega)).2;by_cases c:Int.tmod n b<0
 ·have hd:decide (Int.tmod n b<0)=true:=decide_eq_true c
  go_enter Tryz.func10,Tryz.ntmps10
  go_wp2_with fail
  go_ret
  exact⟨(Int.tmod n b+b).toNat,by omega,zm (by omega),rfl⟩
 ·have hd:decide (Int.tmod n b<0)=false:=decide_eq_false c
  go_enter Tryz.func10,Tryz.ntmps10
  go_wp2_with fail
  go_ret
  exact⟨(Int.tmod n b).toNat,by omega,zm (by omega),rfl⟩
end Go.Proofs.YtggngahmafbihaaGreatDoor
