/- Contracts, and the plain mathematics beneath. -/
import Derived.Deep.CutBlock
import Derived.Test.YtggngahmafbihaaGreatDoorPerAT
import Derived.Test.YtggngahmafbihaaGreatDoorPerAP
import Derived.Test.YtggngahmafbihaaGreatDoorPerAK
set_option linter.unusedVariables false
set_option linter.unusedSimpArgs false
set_option maxRecDepth 100000
set_option maxHeartbeats 4000000
namespace Go.Proofs.YtggngahmafbihaaGreatDoor
open Go.RowKit Go.Lib
def jT(op ln:Int)(s:ByteArray)(k n:Int)(t:ByteArray)(v:VL)(sub:NL)(b:Nat)(a:Bool):Option (Int×Nat):=
 if jt op s k n t v sub.len b a≠0 then some (ln,jt op s k n t v sub.len b a)else zf sub (zp op sub.len b a) 0
theorem Ji(op ln:Int)(s:ByteArray)(k n:Int)(t:ByteArray)(v:VL)(sub r:NL)(f:Nat→Nat×Bool)(i:Nat):
 zf (.cons op ln s k n t v sub r) f i=(match jT op ln s k n t v sub (f i).1 (f i).2 with|some e=>some e|none=>zf r f (i+1)):=by
 rw[zf];unfold jT;by_cases h:jt op s k n t v sub.len (f i).1 (f i).2≠0
 ·rw[if_pos h,if_pos h]
 ·rw[if_neg h,if_neg h]
  cases zf sub (zp op sub.len (f i).1 (f i).2) 0<;>rfl
def PW(w:World)(ea:Nat→Addr)(a:Option (Int×Nat))(e:Ending)(w':World):Prop:=
 Below w.heap.size w w'∧match a with
  |none=>e= .returned .nilIface
  |some (l,c)=> ∃A,w.heap.size≤A∧w'.heap[A]?=some (.cells #[.int .i64 l,qF ea (xS c)] 73 (0,0))∧e= .returned (.iface 70 (.pointer (some ⟨A,0,none⟩)))
theorem qbJ{op:Int}{m:Nat}(h:(qk op m).2=true):(qk op m).1.length=m:=by
 by_cases hk:(1≤op∧op≤29)∨(40≤op∧op≤52)
 ·have a:op=1∨op=2∨op=3∨op=4∨(5≤op∧op≤18)∨op=19∨op=20∨op=21∨op=22∨op=23∨op=24∨op=25∨op=26∨op=27∨op=28∨op=29∨op=40∨op=41∨op=42∨op=43∨op=44∨op=45∨op=46∨op=47∨op=48∨op=49∨op=50∨op=51∨op=52:=by omega
  rcases a with rfl|rfl|rfl|rfl|hb|rfl|rfl|rfl|rfl|rfl|rfl|rfl|rfl|rfl|rfl|rfl|rfl|rfl|rfl|rfl|rfl|rfl|rfl|rfl|rfl|rfl|rfl|rfl|rfl
  case inr.inr.inr.inr.inl=>
   have e:qk op m=([0,0],m==2):=by unfold qk;rw[if_neg (by omega),if_neg (by omega),if_pos (by omega)]
   rw[e]at h⊢;simp at h⊢;omega
  case inr.inr.inr.inr.inr.inr.inr.inr.inr.inr.inr.inr.inr.inr.inl=>
   have e:qk 28 m=((List.replicate (m-2) 3++(if 1<m then [4]else []))++ [0],decide (2≤m)):=rfl;rw[e]at h⊢;simp only[decide_eq_true_eq]at h;rw[if_pos (by omega)];simp;omega
  case inr.inr.inr.inr.inr.inr.inr.inr.inr.inr.inr.inr.inr.inr.inr.inl=>
   have e:qk 29 m=([0,5,0].take (min m 3),m==2||m==3):=rfl;rw[e]at h⊢;simp at h;rcases h with rfl|rfl<;>rfl
  all_goals (simp[qk]at h⊢;try omega)
 ·have e:qk op m=([],false):=by
   unfold qk
   iterate 17 rw[if_neg (by omega)]
  rw[e]at h;cases h
theorem qdf{op:Int}{m:Nat}{v:Value}{w:World}{B:Nat}(d:w.ownsRow B 3 1 v (qk op m).1.length (qY (qk op m).1)){i:Nat}(hi:i<(qk op m).1.length):
 ∃g cap,v= .slice (some ⟨g,0,none⟩) (qk op m).1.length cap∧g<w.heap.size∧w.cell? ⟨g,i,none⟩=some (.int .i64 (((qk op m).1.getD i 0:Nat):Int)):=by
 obtain⟨g,cap,a,hv,e,c,k,f,j,l⟩: ∃g cap a,v= .slice (some ⟨g,0,none⟩) (qk op m).1.length cap∧B≤g∧w.heap[g]?=some (.cells a 3 (0,0))∧(qk op m).1.length≤cap∧cap≤maxLen∧a.size=cap*1∧a.toList.take ((qk op m).1.length*1)=qY (qk op m).1:=by
  rcases d.2 with⟨_,h0⟩|h
  ·omega
  ·exact h
 refine⟨g,cap,hv,?_,?_⟩
 ·rcases Nat.lt_or_ge g w.heap.size with b|hge
  ·exact b
  ·rw[Array.getElem?_eq_none hge]at c;cases c
 ·subst hv
  rw[d.cellAt i (by omega)];unfold qY;rw[List.getElem?_map,List.getD_eq_getElem?_getD];rw[List.getElem?_eq_getElem hi];rfl
theorem qaR(op:Int)(m a:Nat)(b:Bool)(j:Nat):(zp op m a b j).1=if a=5 then 0 else if a=2∧op=20∧j=0 then 2 else if a=4∧op=26 then 3 else(qk op m).1.getD j 0:=rfl
theorem qaS(op:Int)(m b:Nat)(a:Bool)(j:Nat):(zp op m b a j).2=((a && op !=48)||(kL op && (zp op m b a j).1==6)):=rfl
theorem Zi{a b:Nat}(h:a≠b):((a:Int)==(b:Int))=false:=qm (by omega)
def Xl(N:Nat):Prop:= ∀(op ln:Int)(s:ByteArray)(k n:Int)(t:ByteArray)(v:VL)(va:Option Addr)(vc:Nat)(sub:NL)(sa:Option Addr)(sc:Nat)(a:Nat)(c:Bool)(ea:Nat→Addr)(w:World),sub.tot<N→sub.tot≤4096→ErrsAt w ea→
 s.size≤140737488351232→t.size≤140737488351232→v.len≤140737488351232→v.fit→v.len≤vc→sub.fit→sub.len≤sc→a≤8→RpL w (fun b=>b<w.heap.size) v va→RpN w (fun b=>b<w.heap.size) sub sa→
 Calls Tryz.prog 105 #[.agg #[.int .i64 op,.int .i64 ln,.string s,.int .i64 k,.int .i64 n,.string t,.slice va v.len vc,.slice sa sub.len sc],.int .i64 (a:Int),.bool c] w
  (PW w ea (jT op ln s k n t v sub a c))
theorem qaV(N:Nat)(ih: ∀N',N'<N→Xl N'):Xl N:=by
 intro op ln s k n t v va vc sub sa sc a loop ea w hN h4 he hs ht hl hf hvc hsf hsc hr hv V;have hroom:=he.room;have hsl:=NL.len_tot sub;obtain⟨wa,M⟩: ∃wa,wa=w.alloc (.cells #[.int .i64 op,.int .i64 ln,.string s,.int .i64 k,.int .i64 n,.string t,.slice va v.len vc,.slice sa sub.len sc] 31):=⟨_,rfl⟩
 have hb:Below w.heap.size w wa:=by rw[M];exact(Below.refl _ _).alloc (Nat.le_refl _) _
 have j:NdB wa w.heap.size (.int .i64 op) (.int .i64 ln) (.string s) (.int .i64 k) (.int .i64 n) (.string t) (.slice va v.len vc) (.slice sa sub.len sc):=by rw[M];exact NdB.new _ _ _ _ _ _ _ _ _
 have v0:=j.c0;have v1:=j.c1;have v2:=j.c2;have v3:=j.c3;have v4:=j.c4;have v5:=j.c5;have v6:=j.c6;have v7:=j.c7;rw[M]at v0 v1 v2 v3 v4 v5 v6 v7;have Z:=he.below hb (Nat.le_of_lt hroom);have OC:=hid (qf6 op ln s k n t v va vc sa sub.len sc a loop ea wa Z hs ht hl hf hvc (by omega) hr (hv.keep (w':=wa) (fun b d=>hb.block b d) (fun b d=>Nat.lt_of_lt_of_le d hb.size)));have HN:=hid j;have HB:=hid hb;have HWA:=hid M;have HE:=hid Z;have HS:=hid (V.keep (w':=wa) (fun b d=>hb.block b d) (fun b d=>Nat.lt_of_lt_of_le d hb.size));have hza:24<wa.heap.size:=by have:=hb.size;omega
 clear hb j M he hv V Z;go_enter Tryz.func105,Tryz.ntmps105
 go_wp2_with fail
 rw[←HWA.out];refine OC.out.mono ?_;rintro e w2 ⟨rfl,u⟩;have HB2:=hid u;have p:=hid (HN.out.below' u);have HE2:=hid (HE.out.below u (Nat.le_of_lt hza));have HS2:=hid (HS.out.keep (w':=w2) (fun b d=>u.block b d) (fun b d=>Nat.lt_of_lt_of_le d u.size));have J:=hid (HB.out.trans (qc u HB.out.size));have x0:=p.out.c0;have x1:=p.out.c1;have x2:=p.out.c2;have x3:=p.out.c3;have x4:=p.out.c4;have x5:=p.out.c5;have x6:=p.out.c6;have x7:=p.out.c7;clear u v0 v1 v2 v3 v4 v5 v6 v7 OC;by_cases ho:jt op s k n t v sub.len a loop≠0
 ·have HR:=hid (show jT op ln s k n t v sub a loop=some (ln,jt op s k n t v sub.len a loop)by unfold jT;rw[if_pos ho])
  obtain⟨c,hc⟩: ∃c,c=jt op s k n t v sub.len a loop:=⟨_,rfl⟩
  rw[←hc]at HR ho⊢
  have aa:qF ea (xS c)= .iface 270 (.pointer (some (ea (xS c)))):=by
   unfold qF xS;rw[if_neg];by_cases h1:c=1
   ·rw[if_neg ho,if_pos h1];decide
   ·rw[if_neg ho,if_neg h1];decide
  have HNE:=hid aa;rw[aa];clear hc aa ho;go_wp2_with fail
  go_ret
  rw[HR.out];refine⟨J.out.alloc J.out.size _,w2.heap.size,J.out.size,?_,rfl⟩;rw[heap_alloc_new,HNE.out]
 have ho0:jt op s k n t v sub.len a loop=0:=by omega
 have S:=hid (show jT op ln s k n t v sub a loop=zf sub (zp op sub.len a loop) 0 by unfold jT;rw[if_neg ho])
 have hrl:(qk op sub.len).2=true:=by
  obtain⟨A,B,C,D,e⟩: ∃A B C D:Bool,jt op s k n t v sub.len a loop=(if(!A|| !B||C)=true then 1 else if D=true then 2 else 0)∧B=(qk op sub.len).2:=⟨_,_,_,_,rfl,rfl⟩
  rw[e.1]at ho0;rw[←e.2]
  cases A<;>cases B<;>cases C<;>cases D<;>simp_all
 have hrlen:=qbJ hrl;rw[ho0,show qF ea (xS 0)= .nilIface from rfl];clear ho ho0;have RC:=hid (K6 op ln s k n t (.slice va v.len vc) sa sub.len sc w2 (by omega));go_wp2_with fail
 refine RC.out.mono ?_;rintro e w3 ⟨rv,rfl,hro,z⟩;have HRO:=hid hro;have X:=hid (p.out.below' z);have HE3:=hid (HE2.out.below z (Nat.le_of_lt HE2.out.room));have HS3:=hid (HS2.out.keep (w':=w3) (fun b d=>z.block b d) (fun b d=>Nat.lt_of_lt_of_le d z.size));have I:=hid (J.out.trans (qc z J.out.size));have z0:=X.out.c0;have z7:=X.out.c7;clear hro z x0 x1 x2 x3 x4 x5 x6 x7 RC;go_wp2_with fail
 go_loopg [35] sub.len (fun kk v wr=> ∃(i:Nat),v= .int .i64 i∧i+kk=sub.len∧Hid (Below w3.heap.size w3 wr)∧Hid (zf (sub.drop i) (zp op sub.len a loop) i=zf sub (zp op sub.len a loop) 0))
 case atStart=>exact⟨0,rfl,by omega,Below.refl _ _,by show zf (sub.drop 0) _ _=_;rw[NL.drop]⟩
 case round=>
  obtain⟨i,rfl,hik,E,R⟩:=hrel;by_cases hi:i<sub.len
  ·obtain⟨g,rfl⟩: ∃g,gk=g+1:=⟨gk-1,by omega⟩
   obtain⟨b,o,op',ln',s',k',n',t',v',sub',va',vc',sa',sc',hA,hSb,hd,c0,c1,c2,c3,c4,c5,c6,hvc',hv',c7,hsc',hs'⟩:=(HS3.out.below E.out (fun b hb=>hb)).nth hi;have hfd:=NL.fit_drop i sub hsf;have htd:=NL.tot_drop i sub;rw[hd]at hfd htd;simp only[NL.tot]at htd;obtain⟨hf1,hf2,hf3,hf4,hf5,hf6, -⟩:=hfd;obtain⟨wx,O⟩: ∃wx,wx=wr.alloc (.cells #[.int .i64 op',.int .i64 ln',.string s',.int .i64 k',.int .i64 n',.string t',.slice va' v'.len vc',.slice sa' sub'.len sc'] 31):=⟨_,rfl⟩
   have F:Below wr.heap.size wr wx:=by rw[O];exact(Below.refl _ _).alloc (Nat.le_refl _) _
   have m:NdB wx wr.heap.size (.int .i64 op') (.int .i64 ln') (.string s') (.int .i64 k') (.int .i64 n') (.string t') (.slice va' v'.len vc') (.slice sa' sub'.len sc'):=by rw[O];exact NdB.new _ _ _ _ _ _ _ _ _
   have hzr:=E.out.size;have r:=hid (E.out.trans (qc F hzr));have hzx:=r.out.size;have HNX:=hid (X.out.below' r.out);have HEX:=hid (HE3.out.below r.out (Nat.le_of_lt HE3.out.room));obtain⟨rg,rcap,hrv,hrg,hrc⟩:=qdf (zL HRO.out r.out) (i:=i) (by omega);rw[hrlen]at hrv;subst hrv;have y0:=m.c0;have y1:=m.c1;have y2:=m.c2;have y3:=m.c3;have y4:=m.c4;have y5:=m.c5;have y6:=m.c6;have y7:=m.c7;have p0:=HNX.out.c0;have HY:=hid m;have HWX:=hid O;have x:=hid R.out;rw[hd,Ji]at x;have U:(zp op sub.len a loop i).1≤8:=Kh _ _ _ _ _
   have Q:=hid (ih (sub'.tot+1) (by omega) op' ln' s' k' n' t' v' va' vc' sub' sa' sc' (zp op sub.len a loop i).1 (zp op sub.len a loop i).2 ea wx (by omega) (by omega) HEX.out hf1 hf2 hf3 hf4 hvc' hf6 hsc' U
    (hv'.keep (fun b hb=>F.block b (by omega)) (fun b hb=>by have:=F.size;omega)) (hs'.keep (fun b hb=>F.block b (by omega)) (fun b hb=>by have:=F.size;omega)))
   subst hA;clear E R F m hv' hs' hd;have q:=hid (qaR op sub.len a loop i);have P:=hid (qaS op sub.len a loop i);obtain⟨r0,hr0⟩: ∃r0,r0=(qk op sub.len).1.getD i 0:=⟨_,rfl⟩
   rw[←hr0]at q hrc;clear hr0;have hrc':=hrc;have p0':=p0;rw[O]at hrc' p0';clear O
   go_upto_block 2 with fail
   rw[←HWX.out];obtain⟨H,hrP⟩: ∃H,H=(zp op sub.len a loop i).1:=⟨_,rfl⟩
   obtain⟨iP,hiP⟩: ∃iP,iP=(zp op sub.len a loop i).2:=⟨_,rfl⟩
   rw[←hrP]at q P Q x U;rw[←hiP]at P Q x;clear hrP hiP
   go_cut [12] (fun c wz=>c= .int .i64 (H:Int)∧wz=wx)
   case first=>
    by_cases h5:a=5
    ·have e5:((a:Int)==5)=true:=by rw[h5];rfl
     have f:=hid (q.out.trans (if_pos h5));clear h5;go_wp2_with fail
     go_meet
     exact⟨by rw[f.out];rfl,rfl⟩
    have e5:((a:Int)==5)=false:=Zi h5;by_cases h2:a=2
    ·have e2:((a:Int)==2)=true:=by rw[h2];rfl
     have e4:((a:Int)==4)=false:=by rw[h2];rfl
     by_cases y:op=20
     ·have e20:(op==20)=true:=by rw[y];rfl
      by_cases h0:i=0
      ·have e0:((i:Int)==0)=true:=by rw[h0];rfl
       have f:=hid (show H=2 by rw[q.out,if_neg h5,if_pos ⟨h2,y,h0⟩]);clear h5 h2 y h0;go_wp2_with fail
       go_meet
       exact⟨by rw[f.out];rfl,rfl⟩
      ·have e0:((i:Int)==0)=false:=Zi h0
       have f:=hid (show H=r0 by rw[q.out,if_neg h5,if_neg (by omega),if_neg (by omega)]);clear h5 h2 y h0;go_wp2_with fail
       go_meet
       exact⟨by rw[f.out],rfl⟩
     ·have e20:=qm y
      have f:=hid (show H=r0 by rw[q.out,if_neg h5,if_neg (by omega),if_neg (by omega)]);clear h5 h2 y;go_wp2_with fail
      go_meet
      exact⟨by rw[f.out],rfl⟩
    have e2:((a:Int)==2)=false:=Zi h2;by_cases h4:a=4
    ·have e4:((a:Int)==4)=true:=by rw[h4];rfl
     by_cases K:op=26
     ·have e26:(op==26)=true:=by rw[K];rfl
      have f:=hid (show H=3 by rw[q.out,if_neg h5,if_neg (by omega),if_pos ⟨h4,K⟩]);clear h5 h2 h4 K;go_wp2_with fail
      go_meet
      exact⟨by rw[f.out];rfl,rfl⟩
     ·have e26:=qm K
      have f:=hid (show H=r0 by rw[q.out,if_neg h5,if_neg (by omega),if_neg (by omega)]);clear h5 h2 h4 K;go_wp2_with fail
      go_meet
      exact⟨by rw[f.out],rfl⟩
    ·have e4:((a:Int)==4)=false:=Zi h4
     have f:=hid (show H=r0 by rw[q.out,if_neg h5,if_neg (by omega),if_neg (by omega)]);clear h5 h2 h4;go_wp2_with fail
     go_meet
     exact⟨by rw[f.out],rfl⟩
   case rest=>
    obtain⟨rfl,rfl⟩:=hcut;go_upto_region 15 with fail
    obtain⟨wy,G⟩: ∃wy,wy=wc:=⟨_,rfl⟩
    go_cut [13] (fun c wz=>c= .bool iP∧wz=wy)
    case first=>
     have LC:=hid (fun W=>qep op W)
     have hd2:loop=true∧op≠48∨(loop && op !=48)=false:=by
      cases loop with
      |false=>exact .inr rfl
      |true=>
       by_cases h:op=48
       ·exact .inr (by rw[h];rfl)
       ·exact .inl ⟨rfl,h⟩
     rcases hd2 with⟨hl1,h48⟩|hl0
     ·subst hl1
      have Y:=qU h48;have f:=hid (show iP=true by rw[P.out,Y];rfl);clear h48;go_wp2_with fail
      go_meet
      exact⟨by rw[f.out],G.symm⟩
     ·have f:=hid (show iP=(kL op && H==6)by rw[P.out,hl0];rfl)
      have hl2:loop=false∨(loop=true∧(op !=48)=false):=by
       cases loop with
       |false=>exact .inl rfl
       |true=>exact .inr ⟨rfl,by simpa using hl0⟩
      clear hl0
      cases L:kL op with
      |false=>
       rw[L]at f LC;clear L;rcases hl2 with h|⟨h,Y⟩
       ·subst h
        go_wp2_with fail
        refine(LC.out _).mono ?_;rintro e w9 ⟨rfl,rfl⟩;go_wp2_with fail
        go_meet
        exact⟨by rw[f.out];rfl,G.symm⟩
       ·subst h
        go_wp2_with fail
        refine(LC.out _).mono ?_;rintro e w9 ⟨rfl,rfl⟩;go_wp2_with fail
        go_meet
        exact⟨by rw[f.out];rfl,G.symm⟩
      |true=>
       have HF3:=hid (show iP=((H:Int)==6)by rw[f.out,L,show(6:Int)=((6:Nat):Int)from rfl,qS];rfl);rw[L]at LC;clear L f;rcases hl2 with h|⟨h,Y⟩
       ·subst h
        go_wp2_with fail
        refine(LC.out _).mono ?_;rintro e w9 ⟨rfl,rfl⟩;go_wp2_with fail
        go_meet
        exact⟨by rw[HF3.out],G.symm⟩
       ·subst h
        go_wp2_with fail
        refine(LC.out _).mono ?_;rintro e w9 ⟨rfl,rfl⟩;go_wp2_with fail
        go_meet
        exact⟨by rw[HF3.out],G.symm⟩
    case rest=>
     obtain⟨rfl,rfl⟩:=hcut;subst G;obtain⟨res,T⟩: ∃res,res=jT op' ln' s' k' n' t' v' sub' H iP:=⟨_,rfl⟩
     rw[←T]at Q x;clear T;go_wp2_with fail
     refine Q.out.mono ?_;rintro e w5 ⟨hb5,hpw⟩;have HB5:=hid (r.out.trans (qc hb5 r.out.size));clear hb5
     cases res with
     |none=>
      subst hpw;go_wp2_with fail
      go_roundg g
      case measure=>omega
      case rel=>exact⟨i+1,by go_num,by omega,HB5.out,x.out⟩
     |some lc=>
      obtain⟨l,c⟩:=lc;obtain⟨A,hA1,hA2,rfl⟩:=hpw;go_wp2_with fail
      go_ret
      rw[S.out, ←x.out];exact⟨I.out.trans (qc HB5.out I.out.size),A,by have:=I.out.size;have:=r.out.size;omega,hA2,rfl⟩
  ·obtain rfl:i=sub.len:=by omega
   have HN9:=hid R.out;rw[NL.drop_len]at HN9;have HBR:=hid E.out;clear R E;go_wp2_with fail
   go_ret
   rw[S.out, ←HN9.out];exact⟨I.out.trans (qc HBR.out I.out.size),rfl⟩
theorem qfe(N:Nat):Xl N:=by
 induction N using Nat.strongRecOn with
 |_ N a=>exact qaV N a
def PV(w:World)(ea:Nat→Addr)(l:NL)(a:Nat)(e:Ending)(w':World):Prop:=
 if 4096<l.tot then Below w.heap.size w w'∧e= .returned (qF ea 104)
 else if 40<l.deep then Below w.heap.size w w'∧e= .returned (qF ea 112)
 else PW w ea (zf l (fun _=>(a,false)) 0) e w'
theorem PV.right{w w':World}{ea:Nat→Addr}{l:NL}{a:Nat}{e:Ending}(h:PV w ea l a e w')(hr:zG l a=true):Below w.heap.size w w'∧e= .returned .nilIface:=by
 simp only[zG,Bool.and_eq_true,decide_eq_true_eq,Option.isNone_iff_eq_none]at hr;unfold PV at h;rw[if_neg (by omega),if_neg (by omega),hr.2]at h;exact h
theorem PV.wrong{w w':World}{ea:Nat→Addr}{l:NL}{b:Nat}{e:Ending}(h:PV w ea l b e w')(hr:zG l b=false):Below w.heap.size w w'∧ ∃t a,e= .returned (.iface t (.pointer (some a))):=by
 unfold PV at h;by_cases h1:4096<l.tot
 ·rw[if_pos h1]at h;exact⟨h.1,_,_,h.2⟩
 rw[if_neg h1]at h;by_cases h2:40<l.deep
 ·rw[if_pos h2]at h;exact⟨h.1,_,_,h.2⟩
 rw[if_neg h2]at h
 cases c:zf l (fun _=>(b,false)) 0 with
 |none=>
  have:zG l b=true:=by
   simp only[zG,Bool.and_eq_true,decide_eq_true_eq,Option.isNone_iff_eq_none];exact⟨⟨by omega,by omega⟩,c⟩
  rw[this]at hr;cases hr
 |some f=>
  rw[c]at h;obtain⟨hb,A,_,_,d⟩:=h;exact⟨hb,_,_,d⟩
theorem Kl(l:NL)(A:Option Addr)(c a:Nat)(ea:Nat→Addr)(w:World)(Y:ErrsAt w ea)(s:l.fit)(B:l.len≤140737488351232)(hc:l.len≤c)(hr:a≤8)(t:RpN w (fun b=>b<w.heap.size) l A):
 Calls Tryz.prog 61 #[.slice A l.len c,.int .i64 (a:Int)] w (PV w ea l a):=by
 have k:=Y.room;have J:=hid (qd7 (l.tot+1) l A c 0 w (by omega) s B hc t (by decide) (by decide));have r:=kT l 0 (by decide) (by decide);have N:=hid t;have HE:=hid Y;have eM:=Y.many;clear t Y;by_cases h1:4096<l.tot
 ·have I:=hid (fun e w'=>show PV w ea l a e w'=(Below w.heap.size w w'∧e= .returned (qF ea 104))by unfold PV;rw[if_pos h1])
  rw[r,if_neg (by omega)]at J;clear r h1;go_enter Tryz.func61,Tryz.ntmps61
  go_wp2_with fail
  refine J.out.mono ?_;rintro e w2 ⟨rfl,h⟩;have e2:=(HE.out.below h (Nat.le_of_lt k)).many;have f:=hid h;clear h eM;go_wp2_with fail
  go_ret
  rw[I.out];exact⟨f.out,rfl⟩
 rw[r,if_pos (by omega)]at J;have q1: ¬((4096:Int)<0+(l.tot:Int)):=by omega
 have q1': ¬((4096:Int)<(l.tot:Int)):=by omega
 have h1':l.tot≤4096:=by omega
 have DC:=hid (fun W (hW:Below w.heap.size w W)=>qfu (l.tot+1) l A c W (by omega) h1' s B hc (N.out.keep (fun b hb=>hW.block b hb) (fun b hb=>Nat.lt_of_lt_of_le hb hW.size)));by_cases h2:40<l.deep
 ·have I:=hid (fun e w'=>show PV w ea l a e w'=(Below w.heap.size w w'∧e= .returned (qF ea 112))by unfold PV;rw[if_neg h1,if_pos h2])
  have q2:(40:Int)<(l.deep:Int):=by omega
  clear r h1 h2 h1';go_enter Tryz.func61,Tryz.ntmps61
  go_wp2_with fail
  refine J.out.mono ?_;rintro e w2 ⟨rfl,h⟩;have f:=hid h;clear h eM;go_wp2_with fail
  refine(DC.out w2 f.out).mono ?_;rintro e w3 ⟨rfl,q⟩;have d:=hid (f.out.trans (qc q f.out.size));have e3:=(HE.out.below d.out (Nat.le_of_lt k)).deep;clear q;go_wp2_with fail
  go_ret
  rw[I.out];exact⟨d.out,rfl⟩
 have I:=hid (fun e w'=>show PV w ea l a e w'=PW w ea (zf l (fun _=>(a,false)) 0) e w' by unfold PV;rw[if_neg h1,if_neg h2]);have q2: ¬((40:Int)<(l.deep:Int)):=by omega
 clear r h1 h2;go_enter Tryz.func61,Tryz.ntmps61
 go_wp2_with fail
 refine J.out.mono ?_;rintro e w2 ⟨rfl,h⟩;have f:=hid h;clear h eM;go_wp2_with fail
 refine(DC.out w2 f.out).mono ?_;rintro e w3 ⟨rfl,q⟩;have d:=hid (f.out.trans (qc q f.out.size));have HS3:=hid (N.out.keep (w':=w3) (fun b hb=>d.out.block b hb) (fun b hb=>Nat.lt_of_lt_of_le hb d.out.size));have L:=hid (HE.out.below d.out (Nat.le_of_lt k));clear q;go_wp2_with fail
 go_loopg [18] l.len (fun kk v wr=> ∃(i:Nat),v= .int .i64 i∧i+kk=l.len∧Hid (Below w3.heap.size w3 wr)∧Hid (zf (l.drop i) (fun _=>(a,false)) i=zf l (fun _=>(a,false)) 0))
 case atStart=>exact⟨0,rfl,by omega,Below.refl _ _,by show zf (l.drop 0) _ _=_;rw[NL.drop]⟩
 case round=>
  obtain⟨i,rfl,hik,m,y⟩:=hrel;by_cases hi:i<l.len
  ·obtain⟨g,rfl⟩: ∃g,gk=g+1:=⟨gk-1,by omega⟩
   obtain⟨b,o,op',ln',s',k',n',t',v',sub',G,H,E,F,hA,hSb,hd,c0,c1,c2,c3,c4,c5,c6,X,V,c7,T,S⟩:=(HS3.out.below m.out (fun b hb=>hb)).nth hi;have Q:=NL.fit_drop i l s;have U:=NL.tot_drop i l;rw[hd]at Q U;simp only[NL.tot]at U;obtain⟨hf1,hf2,hf3,hf4,hf5,hf6, -⟩:=Q;obtain⟨wx,x⟩: ∃wx,wx=wr.alloc (.cells #[.int .i64 op',.int .i64 ln',.string s',.int .i64 k',.int .i64 n',.string t',.slice G v'.len H,.slice E sub'.len F] 31):=⟨_,rfl⟩
   have n:Below wr.heap.size wr wx:=by rw[x];exact(Below.refl _ _).alloc (Nat.le_refl _) _
   have j:NdB wx wr.heap.size (.int .i64 op') (.int .i64 ln') (.string s') (.int .i64 k') (.int .i64 n') (.string t') (.slice G v'.len H) (.slice E sub'.len F):=by rw[x];exact NdB.new _ _ _ _ _ _ _ _ _
   have hzr:=m.out.size;have p:=hid (m.out.trans (qc n hzr));have hzx:=p.out.size;have HEX:=hid (L.out.below p.out (Nat.le_of_lt L.out.room));have y0:=j.c0;have y1:=j.c1;have y2:=j.c2;have y3:=j.c3;have y4:=j.c4;have y5:=j.c5;have y6:=j.c6;have y7:=j.c7;rw[x]at y0 y1 y2 y3 y4 y5 y6 y7;have HWX:=hid x;have u:=y.out;rw[hd,Ji]at u;dsimp only at u
   have O:=hid (qfe (sub'.tot+1) op' ln' s' k' n' t' v' G H sub' E F a false ea wx (by omega) (by omega) HEX.out hf1 hf2 hf3 hf4 X hf6 T hr
    (V.keep (fun b hb=>n.block b (by omega)) (fun b hb=>by have:=n.size;omega)) (S.keep (fun b hb=>n.block b (by omega)) (fun b hb=>by have:=n.size;omega)))
   subst hA;clear m y n j V S hd x;obtain⟨D,C⟩: ∃D,D=jT op' ln' s' k' n' t' v' sub' a false:=⟨_,rfl⟩
   rw[←C]at O u;have z:=hid u;clear C u;go_wp2_with fail
   rw[←HWX.out];refine O.out.mono ?_;rintro e w5 ⟨P,R⟩;have K:=hid (p.out.trans (qc P p.out.size));clear P
   cases D with
   |none=>
    subst R;go_wp2_with fail
    go_roundg g
    case measure=>omega
    case rel=>exact⟨i+1,by go_num,by omega,K.out,z.out⟩
   |some lc=>
    obtain⟨ll,cc⟩:=lc;obtain⟨A,hA1,hA2,rfl⟩:=R;go_wp2_with fail
    go_ret
    rw[I.out, ←z.out];exact⟨d.out.trans (qc K.out d.out.size),A,by have:=d.out.size;have:=p.out.size;omega,hA2,rfl⟩
  ·obtain rfl:i=l.len:=by omega
   have M:=hid y.out;rw[NL.drop_len]at M;have Z:=hid m.out;clear y m;go_wp2_with fail
   go_ret
   rw[I.out, ←M.out];exact⟨d.out.trans (qc Z.out d.out.size),rfl⟩
theorem qb2(l:NL)(A:Option Addr)(c:Nat)(ea:Nat→Addr)(w:World)(j:ErrsAt w ea)(d:l.fit)(f:l.len≤140737488351232)(hc:l.len≤c)(g:RpN w (fun b=>b<w.heap.size) l A):
 Calls Tryz.prog 37 #[.slice A l.len c] w (PV w ea l 7):=by
 have i:=hid (Kl l A c 7 ea w j d f hc (by decide) g);go_enter Tryz.func37,Tryz.ntmps37
 go_wp2_with fail
 refine i.out.mono ?_;intro e w2 hp;have h:=hid hp;by_cases hr:zG l 7=true
 ·obtain⟨hb,rfl⟩:=hp.right hr
  clear hp hb;go_wp2_with fail
  go_ret
  exact h.out
 ·obtain⟨hb,t,a,rfl⟩:=hp.wrong (by simpa using hr)
  clear hp hb;go_wp2_with fail
  go_ret
  exact h.out
def Z3(op ln:Int)(s:ByteArray)(k n:Int)(t:ByteArray)(v:VL)(sub:NL):NL:= .cons op ln s k n t v sub .nil
theorem PV.below{w c w':World}{ea:Nat→Addr}{l:NL}{a:Nat}{e:Ending}(h:PV c ea l a e w')(hb:Below w.heap.size w c):PV w ea l a e w':=by
 have hz:=hb.size;unfold PV at h⊢;split
 ·rename_i h1;rw[if_pos h1]at h;exact⟨hb.trans (qc h.1 hz),h.2⟩
 ·rename_i h1
  rw[if_neg h1]at h;split
  ·rename_i h2;rw[if_pos h2]at h;exact⟨hb.trans (qc h.1 hz),h.2⟩
  ·rename_i h2
   rw[if_neg h2]at h
   cases b:zf l (fun _=>(a,false)) 0 with
   |none=>rw[b]at h;exact⟨hb.trans (qc h.1 hz),h.2⟩
   |some d=>
    rw[b]at h;obtain⟨h1,A,h2,h3⟩:=h;exact⟨hb.trans (qc h1 hz),A,by omega,h3⟩
theorem qee(op ln:Int)(s:ByteArray)(k n:Int)(t:ByteArray)(v:VL)(va:Option Addr)(vc:Nat)(sub:NL)(sa:Option Addr)(sc:Nat)(ea:Nat→Addr)(w:World)(x:ErrsAt w ea)
 (o:(Z3 op ln s k n t v sub).fit) (z:v.len≤vc) (y:sub.len≤sc) (hv:RpL w (fun b=>b<w.heap.size) v va) (j:RpN w (fun b=>b<w.heap.size) sub sa):
 Calls Tryz.prog 28 #[.agg #[.int .i64 op,.int .i64 ln,.string s,.int .i64 k,.int .i64 n,.string t,.slice va v.len vc,.slice sa sub.len sc]] w (PV w ea (Z3 op ln s k n t v sub) 0):=by
 have l:=x.room;obtain⟨wa,f⟩: ∃wa,wa=w.alloc (.cells #[.int .i64 op,.int .i64 ln,.string s,.int .i64 k,.int .i64 n,.string t,.slice va v.len vc,.slice sa sub.len sc] 31):=⟨_,rfl⟩
 have hb:Below w.heap.size w wa:=by rw[f];exact(Below.refl _ _).alloc (Nat.le_refl _) _
 have c:NdB wa w.heap.size (.int .i64 op) (.int .i64 ln) (.string s) (.int .i64 k) (.int .i64 n) (.string t) (.slice va v.len vc) (.slice sa sub.len sc):=by rw[f];exact NdB.new _ _ _ _ _ _ _ _ _
 have v0:=c.c0;have D:=c.c1;have E:=c.c2;have F:=c.c3;have G:=c.c4;have H:=c.c5;have I:=c.c6;have J:=c.c7;have hz:wa.heap.size=w.heap.size+1:=by rw[f];simp
 obtain⟨wb,i⟩: ∃wb,wb=wa.alloc (.cells #[.int .i64 op,.int .i64 ln,.string s,.int .i64 k,.int .i64 n,.string t,.slice va v.len vc,.slice sa sub.len sc] 31):=⟨_,rfl⟩
 have m:Below wa.heap.size wa wb:=by rw[i];exact(Below.refl _ _).alloc (Nat.le_refl _) _
 have d:NdB wb (w.heap.size+1) (.int .i64 op) (.int .i64 ln) (.string s) (.int .i64 k) (.int .i64 n) (.string t) (.slice va v.len vc) (.slice sa sub.len sc):=by rw[i, ←hz];exact NdB.new _ _ _ _ _ _ _ _ _
 have g:=hb.trans (qc m hb.size);have C:wb.heap.size=w.heap.size+2:=by rw[i];simp[hz]
 have p:RpN wb (fun b=>b<wb.heap.size) (Z3 op ln s k n t v sub) (some ⟨w.heap.size+1,0,none⟩):=
  ⟨w.heap.size+1,0,va,vc,sa,sc,rfl,by omega,d.c0,d.c1,d.c2,d.c3,d.c4,d.c5,d.c6,z,hv.keep (fun b h=>g.block b h) (fun b h=>by omega),d.c7,y,j.keep (fun b h=>g.block b h) (fun b h=>by omega),trivial⟩
 have B:=hid (Kl (Z3 op ln s k n t v sub) (some ⟨w.heap.size+1,0,none⟩) 1 0 ea wb (x.below g (Nat.le_of_lt l)) o (show 1≤140737488351232 by decide) (Nat.le_refl 1) (by decide) p);have q:=hid g;have r:=hid f;have u:=hid i;rw[f]at v0 D E F G H I J;clear hb c f m d i g p x hv j hz;go_enter Tryz.func28,Tryz.ntmps28
 go_wp2_with fail
 rw[←r.out, ←u.out];refine B.out.mono ?_;intro e w2 hp;have A:=hid (hp.below q.out);by_cases hr:zG (Z3 op ln s k n t v sub) 0=true
 ·obtain⟨hb,rfl⟩:=hp.right hr
  clear hp hb;go_wp2_with fail
  go_ret
  exact A.out
 ·obtain⟨hb,t,a,rfl⟩:=hp.wrong (by simpa using hr)
  clear hp hb;go_wp2_with fail
  go_ret
  exact A.out
end Go.Proofs.YtggngahmafbihaaGreatDoor
