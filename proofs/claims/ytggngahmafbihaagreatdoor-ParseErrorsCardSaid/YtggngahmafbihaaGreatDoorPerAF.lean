/- Contracts, and the plain mathematics beneath. -/
import Derived.Laws.ResultCell
import Derived.Deep.AppendLies
import Derived.Maps.AppendAt
import Derived.Lib.SmallJoins
import Derived.Lib.AppendIntMem
import Derived.Lib.ReplaceLaws
import Derived.Lib.Join
import Derived.Test.YtggngahmafbihaaGreatDoorRows
import Derived.Stop.LaidErr
import Derived.Lib.LaidTab
import Derived.ProofKit
import Derived.Test.YtggngahmafbihaaGreatDoorPerAE
import Derived.Test.YtggngahmafbihaaGreatDoorPerAC
import Derived.Test.YtggngahmafbihaaGreatDoorPerAA
import Derived.Test.YtggngahmafbihaaGreatDoorShelf
set_option linter.unusedVariables false
set_option linter.unusedSimpArgs false
set_option maxRecDepth 100000
set_option maxHeartbeats 4000000
namespace Go.Proofs.YtggngahmafbihaaGreatDoor
open Go.RowKit Go.Lib
theorem VL.fit_app: ∀a b:VL,a.fit→b.fit→(a.app b).fit
 | .nil,b,_,h=>h
 | .cons _ _ _ _ r,b,h,h2=>⟨h.1,h.2.1,h.2.2.1,VL.fit_app r b h.2.2.2 h2⟩
theorem Qj(s:ByteArray): ∀(f i:Nat)(l:List UInt8),i≤s.size→l.length≤i→(qL s f i l).2.2.length≤(qL s f i l).1
 |0,i,l,_,h=>h
 |f+1,i,l,hi,h=>by
  by_cases k:pk s i=34
  ·rw[xx _ _ _ _ k];exact h
  by_cases j:pk s i=92
  ·by_cases n:pk s (i+1)=34∨pk s (i+1)=92
   ·have m:i+1<s.size:=zh (by rcases n with e|e<;>rw[e]<;>decide)
    rw[xy _ _ _ _ j n];exact Qj s f (i+2) _ (by omega) (by simp;omega)
   ·rw[xd _ _ _ _ j n];simp only;omega
  cases hp:Qa (pk s i)with
  |false=>rw[kh _ _ _ _ k j hp];exact h
  |true=>
   have m:i<s.size:=zh (fun e=>by rw[e]at hp;exact absurd hp (by decide));rw[xi _ _ _ _ k j hp];exact Qj s f (i+1) _ (by omega) (by simp;omega)
theorem qbT(s:ByteArray)(i:Nat)(h:i<s.size):(ze s i).2.2.length≤s.size:=by
 have h1:=Qj s (s.size+1) (i+1) [] (by omega) (by simp);have h2:=jX s (s.size+1) (i+1) [] (by omega);unfold ze;simp only;omega
theorem kc{k n:Int}{t:ByteArray}{sub:VL}(h1:t.size≤140737488351232)(h2:sub.len≤140737488351232)(h3:sub.fit):(zv k n t sub).fit:=⟨h1,h2,h3,trivial⟩
mutual
theorem J3(s:ByteArray)(hs:s.size≤1000000000): ∀(f i:Nat),i≤s.size→(qI s f i).2.2.fit
 |0,i,h=>by rw[qI];trivial
 |f+1,i,h=>by
  rw[qI];split
  ·exact kc (by decide) (by decide) trivial
  ·split
   ·exact kc (by decide) (by decide) trivial
   ·split
    ·rename_i e
     have:=qbT s i (zh (by rw[e];decide));refine kc ?_ (by decide) trivial;show((ze s i).2.2.toArray).size≤_
     rw[List.size_toArray];omega
    ·split
     ·rename_i e
      have hi:i<s.size:=zh (by rw[e];decide);split
      ·exact kc (by decide) (by decide) trivial
      ·have h1:=JR s hs f (i+1) .nil (by omega) trivial (Nat.zero_le _)
       have h2:=Qf s f (i+1) .nil (by omega);exact kc (by decide) (by have:=h1.2;omega) h1.1
     ·exact kc (by decide) (by decide) trivial
theorem JR(s:ByteArray)(hs:s.size≤1000000000): ∀(f i:Nat)(acc:VL),i≤s.size→acc.fit→acc.len≤i→(zy s f i acc).2.2.fit∧(zy s f i acc).2.2.len≤s.size+1
 |0,i,acc,h,ha,hl=>by rw[zy];exact⟨ha,by simp only;omega⟩
 |f+1,i,acc,h,ha,hl=>by
  have hv:=J3 s hs f i h;have hp:=Qk s f i h;have j:=qbX s f i;rw[zy];split
  ·exact⟨ha,by simp only;omega⟩
  ·rename_i l
   obtain⟨k,n,t,sub,e⟩:=j (by simpa using l);have hf:(acc.app (qI s f i).2.2).fit:=VL.fit_app _ _ ha hv;have q:(acc.app (qI s f i).2.2).len=acc.len+1:=by rw[VL.len_app,e];rfl
   split
   ·rename_i e1
    have m:(qI s f i).1<s.size:=zh (by rw[e1];decide);split
    ·rename_i e2
     have o:(qI s f i).1+1<s.size:=zh (by rw[e2];decide);exact JR s hs f _ _ (by omega) hf (by omega)
    ·exact⟨hf,by simp only;omega⟩
   ·split
    ·exact⟨hf,by simp only;omega⟩
    ·exact⟨hf,by simp only;omega⟩
end
theorem qn{a b:Value}(h:a=b):Ending.returned a= .returned b:=by rw[h]
theorem LfAt.new(W:World)(n:Int):LfAt (W.alloc (.cells #[.int .i64 n] 3)) W.heap.size n:=by unfold LfAt World.alloc;simp
theorem qab(k n:Int)(s:ByteArray)(sub:VL)(sa:Option Addr)(sc:Nat)(ea:Nat→Addr)(w:World)(C:ErrsAt w ea)(hs:s.size≤140737488351232)(hl:sub.len≤140737488351232)(hf:sub.fit)(z:sub.len≤sc)
 (hr:RpL w (fun b=>b<w.heap.size) sub sa):
 Calls Tryz.prog 130 #[.agg #[.int .i64 k,.int .i64 n,.string s,.slice sa sub.len sc]] w fun e w'=>e= .returned (qF ea (qM k n s sub 1 4096).1)∧Below w.heap.size w w':=by
 have y:=C.room;obtain⟨wa,j⟩: ∃wa,wa=(w.alloc (.cells #[.int .i64 k,.int .i64 n,.string s,.slice sa sub.len sc] 28)).alloc (.cells #[.int .i64 4096] 3):=⟨_,rfl⟩
 have hb:Below w.heap.size w wa:=by rw[j];exact((Below.refl _ _).alloc (Nat.le_refl _) _).alloc (by simp) _
 have r:StB wa w.heap.size (.int .i64 k) (.int .i64 n) (.string s) (.slice sa sub.len sc):=by rw[j];exact(StB.new w _ _ _ _).alloc _
 have B:LfAt wa (w.heap.size+1) 4096:=by rw[j];have:=LfAt.new (w.alloc (.cells #[.int .i64 k,.int .i64 n,.string s,.slice sa sub.len sc] 28)) 4096;simpa using this
 have v:wa.heap.size=w.heap.size+2:=by rw[j];simp
 have H:=hid (qgD (sub.size+1) k n s sub sa sc 1 4096 (w.heap.size+1) ea wa (by omega) (C.below hb (by omega)) B (by omega) hs hl hf z
  (hr.keep (fun b u=>hb.block b u) (fun b u=>⟨by omega,by omega⟩)) (by omega) (by omega) (by omega) (by omega))
 have v0:=r.c0;have D:=r.c1;have E:=r.c2;have F:=r.c3;have A:=hid hb;have o:=hid j;have q:=hid v;rw[j]at v0 D E F;clear hb r B j v hr;go_enter Tryz.func130,Tryz.ntmps130
 go_wp2_with fail
 rw[←o.out];refine H.out.mono ?_;rintro e I ⟨rfl,x,t⟩;have l:=hid t;clear t x o v0 D E F;by_cases hc:(qM k n s sub 1 4096).1=0
 ·have G:=hid hc
  rw[hc,show qF ea 0=Value.nilIface from rfl];clear hc;go_wp2_with fail
  go_ret
  exact⟨qn (by rw[G.out];rfl),A.out.trans ⟨l.out.os,l.out.tape,l.out.output,l.out.size,fun b hb=>l.out.block b (by have:=q.out;omega) (fun e=>by injection e with e;omega)⟩⟩
 ·have m:=hid (show qF ea (qM k n s sub 1 4096).1= .iface 270 (.pointer (some (ea (qM k n s sub 1 4096).1)))by unfold qF;rw[if_neg hc])
  clear hc;rw[m.out];go_wp2_with fail
  go_ret
  exact⟨qn m.out.symm,A.out.trans ⟨l.out.os,l.out.tape,l.out.output,l.out.size,fun b hb=>l.out.block b (by have:=q.out;omega) (fun e=>by injection e with e;omega)⟩⟩
theorem jx{l:Func}{p u:Tmp}{Q:Ending→World→Prop}{j:Act}{w:World}(h:l.results= #[.cell p 28,.tmp u])(g:Nat)(hp:j.tmps.getD p undef= .pointer (some ⟨g,0,none⟩))(hd:j.defers= [])
 {a b c d:Value} (k:StB w g a b c d) (n:Q (.returned (.tuple #[.agg #[a,b,c,d],j.tmps.getD u undef])) w):bodyPost Tryz.prog l Q .ret j w:=by
 refine bodyPost_ret (v:= .tuple #[.agg #[a,b,c,d],j.tmps.getD u undef]) ?_ hd n;have m:=k.c0;have c1:=k.c1;have c2:=k.c2;have c3:=k.c3;have hp':(j.tmps[p]?).getD undef= .pointer (some ⟨g,0,none⟩):=by simpa using hp
 simp[results,h,hp',go_sem,m,c1,c2,c3]
def Zx(s:ByteArray):Nat×Bool×VL:=qI s (2*s.size+2) 0
def Qb(s:ByteArray):Prop:= ¬((Zx s).2.1=true∧s.size≤(Zx s).1)
def RdOut(ea:Nat→Addr)(s:ByteArray)(w:World)(e:Ending)(w':World):Prop:=
 Below w.heap.size w w'∧
 ((Qb s∧ ∃A,w.heap.size≤A∧w'.heap[A]?=some (.cells #[.int .i64 (Zx s).1,qF ea 111] 73 (0,0))∧
  e= .returned (.tuple #[.agg #[.int .i64 0,.int .i64 0,.string ⟨#[]⟩,.slice none 0 0],.iface 70 (.pointer (some ⟨A,0,none⟩))]))∨
  (¬Qb s∧ ∃(k n:Int)(t:ByteArray)(sub:VL),(Zx s).2.2=zv k n t sub∧
   (((qM k n t sub 1 4096).1≠0∧e= .returned (.tuple #[.agg #[.int .i64 0,.int .i64 0,.string ⟨#[]⟩,.slice none 0 0],qF ea (qM k n t sub 1 4096).1]))∨
    ((qM k n t sub 1 4096).1=0∧ ∃(sa:Option Addr)(sc:Nat),sub.len≤sc∧RpL w' (fun b=>w.heap.size≤b∧b<w'.heap.size) sub sa∧
     e= .returned (.tuple #[.agg #[.int .i64 k,.int .i64 n,.string t,.slice sa sub.len sc],.nilIface])))))
theorem RdAt.new(W:World)(s:ByteArray)(i:Nat)(ok:Bool):RdAt (W.alloc (.cells #[.string s,.int .i64 i,.bool ok] 181)) W.heap.size s i ok:=by unfold RdAt World.alloc;simp
theorem RdBad.a{w j:World}(hb:Below w.heap.size w j)(hz:w.heap.size<j.heap.size){a b c d:Value}(H:StB j w.heap.size a b c d)(o:Obj)(a' b' k l:Value):
 let W':=(((((j.setCell ⟨w.heap.size,0,none⟩ a').setCell ⟨w.heap.size,1,none⟩ b').setCell ⟨w.heap.size,2,none⟩ k).setCell ⟨w.heap.size,3,none⟩ l).alloc o).drew
 StB W' w.heap.size a' b' k l∧Below w.heap.size w W'∧W'.heap[j.heap.size]?=some o:=by
 refine⟨(H.set4 a' b' k l).alloc o,?_,?_⟩
 ·refine Below.drew (Below.alloc (Below.setCell (Below.setCell (Below.setCell (Below.setCell hb ?_ _) ?_ _) ?_ _) ?_ _) ?_ _)
  ·exact Nat.le_refl _
  ·exact Nat.le_refl _
  ·exact Nat.le_refl _
  ·exact Nat.le_refl _
  ·rw[ko];omega
 ·have h: ∀W:World,(W.alloc o).drew.heap[W.heap.size]?=some o:=fun W=>by
   show(W.alloc o).heap[W.heap.size]?=some o
   unfold World.alloc;simp
  have:=h ((((j.setCell ⟨w.heap.size,0,none⟩ a').setCell ⟨w.heap.size,1,none⟩ b').setCell ⟨w.heap.size,2,none⟩ k).setCell ⟨w.heap.size,3,none⟩ l);rw[ko]at this;exact this
theorem RdBad.b{w j:World}(hb:Below w.heap.size w j)(hz:w.heap.size<j.heap.size){a b c d:Value}(H:StB j w.heap.size a b c d)(o:Obj)(a' b' k l:Value):
 let W':=(((((j.alloc o).setCell ⟨w.heap.size,0,none⟩ a').setCell ⟨w.heap.size,1,none⟩ b').setCell ⟨w.heap.size,2,none⟩ k).setCell ⟨w.heap.size,3,none⟩ l).drew
 StB W' w.heap.size a' b' k l∧Below w.heap.size w W'∧W'.heap[j.heap.size]?=some o:=by
 refine⟨(H.alloc o).set4 a' b' k l,?_,?_⟩
 ·refine Below.drew (Below.setCell (Below.setCell (Below.setCell (Below.setCell (Below.alloc hb (by omega) _) ?_ _) ?_ _) ?_ _) ?_ _)
  ·exact Nat.le_refl _
  ·exact Nat.le_refl _
  ·exact Nat.le_refl _
  ·exact Nat.le_refl _
 ·show((((((j.alloc o).setCell ⟨w.heap.size,0,none⟩ a').setCell ⟨w.heap.size,1,none⟩ b').setCell ⟨w.heap.size,2,none⟩ k).setCell ⟨w.heap.size,3,none⟩ l).heap[j.heap.size]?)=_
  rw[kW _ _ _ _ _ _ _ (by omega)];unfold World.alloc;simp
theorem RdOut.bad{ea:Nat→Addr}{s:ByteArray}{w W':World}{j A:Nat}{m:Bool}{v:VL}(l:(j,m,v)=Zx s)(k: ¬(m=true∧s.size≤j))(hb:Below w.heap.size w W')(hA:w.heap.size≤A)
 (h:W'.heap[A]?=some (.cells #[.int .i64 j,.iface 270 (.pointer (some (ea 111)))] 73 (0,0))):
 RdOut ea s w (.returned (.tuple #[.agg #[.int .i64 0,.int .i64 0,.string ⟨#[]⟩,.slice none 0 0],.iface 70 (.pointer (some ⟨A,0,none⟩))])) W':=by
 refine⟨hb,.inl ⟨by unfold Qb;rw[←l];exact k,A,hA,?_,rfl⟩⟩;rw[←l];exact h
theorem StB.below{w w':World}{g:Nat}{a b c d:Value}{B:Nat}(h:StB w g a b c d)(hb:Below B w w')(j:g<B):StB w' g a b c d:=(hb.block g j).trans h
theorem ZS{w w':World}{B:Nat}(h:Below B w w'){g:Nat}(hg:B≤g)(a b c d:Value):
 Below B w ((((w'.setCell ⟨g,0,none⟩ a).setCell ⟨g,1,none⟩ b).setCell ⟨g,2,none⟩ c).setCell ⟨g,3,none⟩ d):=
 Below.setCell (Below.setCell (Below.setCell (Below.setCell h hg _) hg _) hg _) hg _
theorem qc{B j:Nat}{w w':World}(h:Below B w w')(hb:j≤B):Below j w w':=⟨h.os,h.tape,h.output,h.size,fun k hk=>h.block k (by omega)⟩
theorem qgv(s:ByteArray)(ea:Nat→Addr)(w:World)(he:ErrsAt w ea)(hs:s.size≤1000000000):
 Calls Tryz.prog 123 #[.string s] w (RdOut ea s w):=by
 have hroom:=he.room;obtain⟨q,hq⟩: ∃q,q=Zx s:=⟨_,rfl⟩
 obtain⟨wa,B⟩: ∃wa,wa=(w.alloc (.cells #[.int .i64 0,.int .i64 0,.string ⟨#[]⟩,.slice none 0 0] 28)).alloc (.cells #[.string s,.int .i64 0,.bool true] 181):=⟨_,rfl⟩
 have ab:StB wa w.heap.size (.int .i64 0) (.int .i64 0) (.string ⟨#[]⟩) (.slice none 0 0):=by rw[B];exact(StB.new w _ _ _ _).alloc _
 have hb:Below w.heap.size w wa:=by rw[B];exact((Below.refl _ _).alloc (Nat.le_refl _) _).alloc (by simp) _
 have ad:wa.heap.size=w.heap.size+2:=by rw[B];simp
 have hR:RdAt wa (w.heap.size+1) s 0 true:=by
  rw[B];have h:=RdAt.new (w.alloc (.cells #[.int .i64 0,.int .i64 0,.string ⟨#[]⟩,.slice none 0 0] 28)) s 0 true;rw[World.size_alloc]at h;exact h
 have V:=hid (qfd (2*s.size+2) (w.heap.size+1) s 0 wa hR hs (by omega) (by omega));rw[show qI s (2*s.size+2) 0=q from hq.symm]at V;have HB:=hid hb;have HW:=hid B;have HZ:=hid ad;have H2:=hid ab;have HE:=hid he;have Q:=hid hq;obtain⟨l,ok,v⟩:=q;clear hb ad ab hR B hq;go_enter Tryz.func123,Tryz.ntmps123
 go_wp2_with fail
 rw[←HW.out];refine V.out.mono ?_;rintro e w2 ⟨u,x,y,va,vl,vc,rfl,R,P⟩;clear V HW;have hg:=R.grown;have hz2:w.heap.size+2≤w2.heap.size:=by have:=hg.size;have:=HZ.out;omega
 have L:=R.alloc (.cells #[.int .i64 u,.int .i64 x,.string y,.slice va vl vc] 28);have ac:=StB.new w2 (.int .i64 u) (.int .i64 x) (.string y) (.slice va vl vc);have aa:StB _ w.heap.size _ _ _ _:=(H2.out.only hg (by intro e;injection e with e;omega)).alloc (.cells #[.int .i64 u,.int .i64 x,.string y,.slice va vl vc] 28);have r1:=L.at_.c1;have r2:=L.at_.c2;have HR5:=hid L;have A:=hid ac;have k:=hid aa;have N:=hid P;clear P L ac aa R hg
 have I:Below w.heap.size w (w2.alloc (.cells #[.int .i64 u,.int .i64 x,.string y,.slice va vl vc] 28)):=by
  have D:=HR5.out.grown;exact HB.out.trans ⟨D.os,D.tape,D.output,D.size,fun b hb=>D.block b (by have:=HZ.out;omega) (fun e=>by injection e with e;omega)⟩
 have he5:=(HE.out.below I (by omega)).syn;have T:=hid (HE.out.below I (by omega));have t:=hid I;have k0:=k.out.c0;have k1:=k.out.c1;have k2:=k.out.c2;have k3:=k.out.c3;have f0:=k.out.fr 0;have f1:=k.out.fr 1;have f2:=k.out.fr 2;have f3:=k.out.fr 3;clear I;have F:w.heap.size<(w2.alloc (.cells #[.int .i64 u,.int .i64 x,.string y,.slice va vl vc] 28)).heap.size:=by simp only[World.size_alloc];omega
 by_cases o:ok=true∧s.size≤l
 ·obtain⟨rfl,K⟩:=o
  obtain⟨sub,hv,rfl,S,O⟩:=N.out rfl;clear N;replace hv:v=zv u x y sub:=hv;have r:v.fit:=by have:=J3 s (by omega) (2*s.size+2) 0 (by omega);rw[show qI s (2*s.size+2) 0=(l,true,v)from Q.out.symm]at this;exact this
  rw[hv]at r;have hd2:decide (l<s.size)=false:=by simp;exact K
  have hd:decide ((l:Int)<(s.size:Int))=false:=by simp;exact K
  have n:RpL (w2.alloc (.cells #[.int .i64 u,.int .i64 x,.string y,.slice va sub.len vc] 28)) (fun b=>wa.heap.size≤b∧b<w2.heap.size) sub va:=
   O.keep (fun b hb=>Below.heap_alloc w2 _ b hb.2) (fun b hb=>hb)
  obtain⟨w5,E⟩: ∃w5,w5=w2.alloc (.cells #[.int .i64 u,.int .i64 x,.string y,.slice va sub.len vc] 28):=⟨_,rfl⟩
  have C:=hid (show w2.heap.size<w5.heap.size by rw[E];simp);rw[←E]at A k t T n F;have Z:=hid E;have VC:=hid (qab u x y sub va vc ea w5 T.out r.1 r.2.1 r.2.2.1 S (n.keep (fun b _=>rfl) (fun b hb=>by have:=hb.2;have:=C.out;omega)));have W:=hid n;have HSC:=hid S;have U:=hid (show ¬Qb s by intro h;apply h;rw[←Q.out];exact⟨rfl,K⟩);have Y:=hid (show(Zx s).2.2=zv u x y sub by rw[←Q.out];exact hv);have v0:=A.out.c0;have v1:=A.out.c1;have v2:=A.out.c2;have v3:=A.out.c3;rw[E]at v0 v1 v2 v3;clear E O n S hv r K;go_wp2_with fail
  rw[←Z.out];refine VC.out.mono ?_;rintro e w6 ⟨rfl,J⟩;have G:=hid J;have H:=hid (A.out.below J (by have:=C.out;omega));have j:=hid (k.out.below J (by have:=C.out;omega));clear J v0 v1 v2 v3 k0 k1 k2 k3 f0 f1 f2 f3 r1 r2 he5 Z VC;have v0:=H.out.c0;have v1:=H.out.c1;have v2:=H.out.c2;have v3:=H.out.c3;have k0:=j.out.c0;have k1:=j.out.c1;have k2:=j.out.c2;have k3:=j.out.c3;have f0:=j.out.fr 0;have f1:=j.out.fr 1;have f2:=j.out.fr 2;have f3:=j.out.fr 3;by_cases hc:(qM u x y sub 1 4096).1=0
  ·have HC:=hid hc
   rw[hc,show qF ea 0=Value.nilIface from rfl];clear hc;go_wp2_with fail
   refine jx Tryz.results123 w.heap.size rfl rfl (j.out.set4 _ _ _ _) ?_;refine⟨ZS (t.out.trans (qc G.out (by omega))) (Nat.le_refl _) _ _ _ _,.inr ⟨U.out,u,x,y,sub,Y.out,.inr ⟨HC.out,va,vc,HSC.out,?_,rfl⟩⟩⟩
   exact W.out.keep (fun b hb=>by rw[kW _ _ _ _ _ _ _ (by have:=hb.1;have:=HZ.out;omega)];exact G.out.block b (by have:=hb.2;have:=C.out;omega))
    (fun b hb=>⟨by have:=hb.1;have:=HZ.out;omega,by rw[ko];have:=G.out.size;have:=hb.2;have:=C.out;omega⟩)
  ·have HC:=hid hc
   have M:=hid (show qF ea (qM u x y sub 1 4096).1= .iface 270 (.pointer (some (ea (qM u x y sub 1 4096).1)))by unfold qF;rw[if_neg hc]);clear hc;rw[M.out];go_wp2_with fail
   refine jx Tryz.results123 w.heap.size rfl rfl (j.out.set4 _ _ _ _) ?_;exact⟨ZS (t.out.trans (qc G.out (by omega))) (Nat.le_refl _) _ _ _ _,.inr ⟨U.out,u,x,y,sub,Y.out,.inl ⟨HC.out,by rw[M.out];rfl⟩⟩⟩
 have z:=hid o;have j:=hid (k.out.alloc (.cells #[.int .i64 l,.iface 270 (.pointer (some (ea 111)))] 73));have m0:=j.out.c0;have m1:=j.out.c1;have m2:=j.out.c2;have m3:=j.out.c3;have n0:=j.out.fr 0;have n1:=j.out.fr 1;have n2:=j.out.fr 2;have n3:=j.out.fr 3
 cases ok with
 |false=>
  clear o;go_wp2_with fail
  go_region
  ·go_wp2_with fail
   have hA:=RdBad.b t.out F k.out (.cells #[.int .i64 l,.iface 270 (.pointer (some (ea 111)))] 73) (.int .i64 0) (.int .i64 0) (.string ⟨#[]⟩) (.slice none 0 0);have m:=hA.2.2;rw[World.size_alloc]at m;refine jx Tryz.results123 w.heap.size rfl rfl hA.1 ?_;exact RdOut.bad Q.out z.out hA.2.1 (by omega) m
  ·go_wp2_with fail
   have hA:=RdBad.a t.out F k.out (.cells #[.int .i64 l,.iface 270 (.pointer (some (ea 111)))] 73) (.int .i64 0) (.int .i64 0) (.string ⟨#[]⟩) (.slice none 0 0);have m:=hA.2.2;rw[World.size_alloc]at m;refine jx Tryz.results123 w.heap.size rfl rfl hA.1 ?_;exact RdOut.bad Q.out z.out hA.2.1 (by omega) m
 |true=>
  have hlt:l<s.size:=by
   rcases Nat.lt_or_ge l s.size with h|h
   ·exact h
   ·exact absurd ⟨rfl,h⟩ o
  have hd:decide ((l:Int)<(s.size:Int))=true:=by simp;exact hlt
  clear o;go_wp2_with fail
  go_region
  ·go_wp2_with fail
   have hA:=RdBad.b t.out F k.out (.cells #[.int .i64 l,.iface 270 (.pointer (some (ea 111)))] 73) (.int .i64 0) (.int .i64 0) (.string ⟨#[]⟩) (.slice none 0 0);have m:=hA.2.2;rw[World.size_alloc]at m;refine jx Tryz.results123 w.heap.size rfl rfl hA.1 ?_;exact RdOut.bad Q.out (fun h=>z.out ⟨trivial,h.2⟩) hA.2.1 (by omega) m
  ·go_wp2_with fail
   have hA:=RdBad.a t.out F k.out (.cells #[.int .i64 l,.iface 270 (.pointer (some (ea 111)))] 73) (.int .i64 0) (.int .i64 0) (.string ⟨#[]⟩) (.slice none 0 0);have m:=hA.2.2;rw[World.size_alloc]at m;refine jx Tryz.results123 w.heap.size rfl rfl hA.1 ?_;exact RdOut.bad Q.out (fun h=>z.out ⟨trivial,h.2⟩) hA.2.1 (by omega) m
section
def NdB(w:World)(g:Nat)(a b c d e f h i:Value):Prop:=w.heap[g]?=some (.cells #[a,b,c,d,e,f,h,i] 31 (0,0))
section
variable {w w' : World} {g : Nat} {a b c d e f h i : Value}
theorem NdB.lt(H:NdB w g a b c d e f h i):g<w.heap.size:=by
 rcases Nat.lt_or_ge g w.heap.size with j|hge
 ·exact j
 ·unfold NdB at H;rw[Array.getElem?_eq_none hge]at H;cases H
theorem NdB.new(w:World)(a b c d e f h i:Value):NdB (w.alloc (.cells #[a,b,c,d,e,f,h,i] 31)) w.heap.size a b c d e f h i:=heap_alloc_new w _
theorem NdB.c0(H:NdB w g a b c d e f h i):w.cell? ⟨g,0,none⟩=some a:=cell_of_row w g 0 _ _ _ H
theorem NdB.c1(H:NdB w g a b c d e f h i):w.cell? ⟨g,1,none⟩=some b:=cell_of_row w g 1 _ _ _ H
theorem NdB.c2(H:NdB w g a b c d e f h i):w.cell? ⟨g,2,none⟩=some c:=cell_of_row w g 2 _ _ _ H
theorem NdB.c3(H:NdB w g a b c d e f h i):w.cell? ⟨g,3,none⟩=some d:=cell_of_row w g 3 _ _ _ H
theorem NdB.c4(H:NdB w g a b c d e f h i):w.cell? ⟨g,4,none⟩=some e:=cell_of_row w g 4 _ _ _ H
theorem NdB.c5(H:NdB w g a b c d e f h i):w.cell? ⟨g,5,none⟩=some f:=cell_of_row w g 5 _ _ _ H
theorem NdB.c6(H:NdB w g a b c d e f h i):w.cell? ⟨g,6,none⟩=some h:=cell_of_row w g 6 _ _ _ H
theorem NdB.c7(H:NdB w g a b c d e f h i):w.cell? ⟨g,7,none⟩=some i:=cell_of_row w g 7 _ _ _ H
theorem NdB.fr(H:NdB w g a b c d e f h i)(k:Nat):w.frozen? ⟨g,k,none⟩=false:=by unfold NdB at H;simp[World.frozen?,H]
theorem NdB.below{B:Nat}(H:NdB w g a b c d e f h i)(hb:Below B w w')(j:g<B):NdB w' g a b c d e f h i:=(hb.block g j).trans H
theorem NdB.below'(H:NdB w g a b c d e f h i)(hb:Below w.heap.size w w'):NdB w' g a b c d e f h i:=(hb.block g H.lt).trans H
theorem NdB.alloc(H:NdB w g a b c d e f h i)(o:Obj):NdB (w.alloc o) g a b c d e f h i:=(Below.heap_alloc w o g H.lt).trans H
end
theorem RpN.nth{w:World}{S:Nat→Prop}{l:NL}{A:Option Addr}{i:Nat}(h:RpN w S l A)(hi:i<l.len):
 ∃(b o:Nat)(op ln:Int)(s:ByteArray)(k n:Int)(t:ByteArray)(v:VL)(sub:NL)(va:Option Addr)(vc:Nat)(sa:Option Addr)(sc:Nat),
  A=some ⟨b,o,none⟩∧S b∧l.drop i= .cons op ln s k n t v sub (l.drop (i+1))∧
  w.cell? ⟨b,o+i*8,none⟩=some (.int .i64 op)∧w.cell? ⟨b,o+i*8+1,none⟩=some (.int .i64 ln)∧w.cell? ⟨b,o+i*8+2,none⟩=some (.string s)∧
  w.cell? ⟨b,o+i*8+3,none⟩=some (.int .i64 k)∧w.cell? ⟨b,o+i*8+4,none⟩=some (.int .i64 n)∧w.cell? ⟨b,o+i*8+5,none⟩=some (.string t)∧
  w.cell? ⟨b,o+i*8+6,none⟩=some (.slice va v.len vc)∧v.len≤vc∧RpL w S v va∧
  w.cell? ⟨b,o+i*8+7,none⟩=some (.slice sa sub.len sc)∧sub.len≤sc∧RpN w S sub sa:=by
 obtain⟨b,o,hA⟩: ∃b o,A=some ⟨b,o,none⟩:=by
  cases l with
  |nil=>simp[NL.len]at hi
  |cons=>obtain⟨b,o,_,_,_,_,e,_⟩:=h;exact⟨b,o,e⟩
 subst hA;obtain⟨op,ln,s,k,n,t,v,sub,hd⟩:=NL.drop_of_lt i l hi;have j:=RpN.drop i l b o h;rw[hd]at j;obtain⟨b',o',va,vc,sa,sc,e,u,m,c1,c2,c3,c4,c5,q,h6,hv,r,h7,hs,_⟩:=j;injection e with e
 injection e with e1 e2
 subst e1;subst e2;rw[Nat.mul_comm 8 i]at m c1 c2 c3 c4 c5 q r;exact⟨b,o,op,ln,s,k,n,t,v,sub,va,vc,sa,sc,rfl,u,hd,m,c1,c2,c3,c4,c5,q,h6,hv,r,h7,hs⟩
namespace NL
theorem fit_drop: ∀(i:Nat)(l:NL),l.fit→(l.drop i).fit
 |0,l,h=>by rw[NL.drop];exact h
 |i+1,.nil,h=>h
 |i+1,.cons _ _ _ _ _ _ _ _ r,h=>fit_drop i r h.2.2.2.2.2.2
theorem tot_drop: ∀(i:Nat)(l:NL),(l.drop i).tot≤l.tot
 |0,l=>by rw[NL.drop];exact Nat.le_refl _
 |i+1,.nil=>Nat.le_refl _
 |i+1,.cons _ _ _ _ _ _ _ sub r=>by have:=tot_drop i r;simp only[NL.drop,NL.tot];omega
theorem deep_tot: ∀l:NL,l.deep≤l.tot
 | .nil=>Nat.le_refl _
 | .cons _ _ _ _ _ _ _ sub r=>by
   have:=deep_tot sub;have:=deep_tot r;simp only[NL.deep,NL.tot];exact Nat.max_le.2 ⟨by omega,by omega⟩
end NL
def jr:NL→Int→Int
 | .nil,n=>n
 | .cons _ _ _ _ _ _ _ sub r,n=>if 4096<n+1 then n+1 else if 4096<jr sub (n+1)then jr sub (n+1)else jr r (jr sub (n+1))
theorem kT: ∀(l:NL)(n:Int),0≤n→n≤4096→jr l n=if n+l.tot≤4096 then n+l.tot else 4097
 | .nil,n,h0,h1=>by
   rw[jr,if_pos (by simp only[NL.tot];omega)];simp[NL.tot]
 | .cons op ln s k m t v sub r,n,h0,h1=>by
   rw[jr];obtain⟨T,j⟩: ∃T,T=(NL.cons op ln s k m t v sub r).tot:=⟨_,rfl⟩
   rw[←j];simp only[NL.tot]at j;by_cases h:4096<n+1
   ·rw[if_pos h,if_neg (by omega)];omega
   ·rw[if_neg h]
    have e1:=kT sub (n+1) (by omega) (by omega);by_cases h2:n+1+sub.tot≤4096
    ·rw[if_pos h2]at e1
     rw[e1,if_neg (by omega),kT r _ (by omega) h2];by_cases h3:n+1+sub.tot+r.tot≤4096
     ·rw[if_pos h3,if_pos (by omega)];omega
     ·rw[if_neg h3,if_neg (by omega)]
    ·rw[if_neg h2]at e1
     rw[e1,if_pos (by omega),if_neg (by omega)]
theorem Xs(l:NL)(n:Int)(h0:0≤n)(h1:n≤4096):0≤jr l n∧jr l n≤4097:=by
 rw[kT l n h0 h1];split<;>omega
end
def jG(w:World)(S:Nat→Prop):NL→List Value→Prop
 | .nil,xs=>xs= []
 | .cons op ln s k n t v sub r,xs=> ∃(va:Option Addr)(vc:Nat)(sa:Option Addr)(sc:Nat)(ys:List Value),xs= [.int .i64 op,.int .i64 ln,.string s,.int .i64 k,.int .i64 n,.string t,.slice va v.len vc,.slice sa sub.len sc]++ys∧
  v.len≤vc∧RpL w S v va∧sub.len≤sc∧RpN w S sub sa∧jG w S r ys
theorem xZ{w:World}{S:Nat→Prop}: ∀(l:NL)(xs:List Value),jG w S l xs→xs.length=l.len*8
 | .nil,xs,h=>by rw[show xs= []from h];rfl
 | .cons _ _ _ _ _ _ _ _ r,xs,⟨_,_,_,_,ys,h,_,_,_,_,hr⟩=>by
   rw[h,List.length_append,xZ r ys hr,NL.len];simp only[List.length_cons,List.length_nil];omega
theorem XM{w:World}{S:Nat→Prop}: ∀(l:NL)(xs:List Value),jG w S l xs→ ∀u∈xs,u.oneCell'=true
 | .nil,xs,h,u,hu=>by rw[show xs= []from h]at hu;cases hu
 | .cons _ _ _ _ _ _ _ _ r,xs,⟨_,_,_,_,ys,h,_,_,_,_,hr⟩,u,hu=>by
   rw[h,List.mem_append]at hu;rcases hu with hu|hu
   ·simp only[List.mem_cons,List.not_mem_nil,or_false]at hu
    rcases hu with rfl|rfl|rfl|rfl|rfl|rfl|rfl|rfl<;>rfl
   ·exact XM r ys hr u hu
theorem jP{w w':World}{S S':Nat→Prop}(k: ∀b,S b→w'.heap[b]?=w.heap[b]?)(j: ∀b,S b→S' b): ∀(l:NL)(xs:List Value),jG w S l xs→jG w' S' l xs
 | .nil,_,h=>h
 | .cons _ _ _ _ _ _ _ _ r,xs,⟨va,vc,sa,sc,ys,h,h1,h2,h3,h4,hr⟩=>⟨va,vc,sa,sc,ys,h,h1,RpL.keep k j _ _ h2,h3,RpN.keep k j _ _ h4,jP k j r ys hr⟩
theorem QI{w:World}{S:Nat→Prop}: ∀(a b:NL)(xs ys:List Value),jG w S a xs→jG w S b ys→jG w S (a.app b) (xs++ys)
 | .nil,b,xs,ys,h,hb=>by rw[show xs= []from h,NL.app];exact hb
 | .cons _ _ _ _ _ _ _ _ r,b,xs,ys,⟨va,vc,sa,sc,zs,h,h1,h2,h3,h4,hr⟩,hb=>⟨va,vc,sa,sc,zs++ys,by rw[h,List.append_assoc],h1,h2,h3,h4,QI r b zs ys hr hb⟩
theorem KV{w:World}{S:Nat→Prop}: ∀(l:NL)(A:Option Addr),RpN w S l A→ ∃xs,jG w S l xs∧ ∀b o,A=some ⟨b,o,none⟩→ ∀(j:Nat)(u:Value),xs[j]?=some u→w.cell? ⟨b,o+j,none⟩=some u
 | .nil,A,_=>⟨[],rfl,fun b o _ j u h=>by simp at h⟩
 | .cons op ln s k n t v sub r,A,⟨b',o',va,vc,sa,sc,hA,hb,h0,h1,h2,h3,h4,h5,h6,hv,hvr,h7,hc,hs,hr⟩=>by
   obtain⟨ys,x,q⟩:=KV r _ hr;refine⟨_,⟨va,vc,sa,sc,ys,rfl,hv,hvr,hc,hs,x⟩,fun b o e j u m=> ?_⟩;rw[hA]at e;injection e with e
   injection e with e1 e2
   subst e1;subst e2
   match j with
   |0=>rw[←m];exact h0
   |1=>rw[←m];exact h1
   |2=>rw[←m];exact h2
   |3=>rw[←m];exact h3
   |4=>rw[←m];exact h4
   |5=>rw[←m];exact h5
   |6=>rw[←m];exact h6
   |7=>rw[←m];exact h7
   |j+8=>
    have:=q b' (o'+8) rfl j u (by simpa using m);rw[show o'+(j+8)=o'+8+j from by omega];exact this
theorem qbK{w:World}{S:Nat→Prop}{b:Nat}(hb:S b): ∀(l:NL)(xs:List Value)(o:Nat),jG w S l xs→(∀(j:Nat)(u:Value),xs[j]?=some u→w.cell? ⟨b,o+j,none⟩=some u)→RpN w S l (some ⟨b,o,none⟩)
 | .nil,_,_,_,_=>trivial
 | .cons op ln s k n t v sub r,xs,o,⟨va,vc,sa,sc,ys,h,h1,h2,h3,h4,hr⟩,hc=>by
   subst h;refine⟨b,o,va,vc,sa,sc,rfl,hb,hc 0 _ rfl,hc 1 _ rfl,hc 2 _ rfl,hc 3 _ rfl,hc 4 _ rfl,hc 5 _ rfl,hc 6 _ rfl,h1,h2,hc 7 _ rfl,h3,h4,qbK hb r ys (o+8) hr (fun j u m=> ?_)⟩;have:=hc (j+8) u (by simpa using m);rw[show o+8+j=o+(j+8)from by omega];exact this
section
theorem qz:(Tryz.prog.info? 31).map (fun i=>(i.zero,i.size,i.bytes))=some (some (.agg #[.int .i64 0,.int .i64 0,.string ⟨#[]⟩,.int .i64 0,.int .i64 0,.string ⟨#[]⟩,.slice none 0 0,.slice none 0 0]),8,112):=by kernel_rfl
def SN(w:World)(D:Nat→Prop)(V:Value):Nat→Prop:=fun b=>D b∧b<w.heap.size∧V.ownBlock≠some b
def OwnN(w:World)(D:Nat→Prop)(V:Value)(l:NL):Prop:= ∃xs,w.ownsRow 0 31 8 V l.len xs∧(∀g,V.ownBlock=some g→D g)∧jG w (SN w D V) l xs
theorem OwnN.nil(w:World)(D:Nat→Prop):OwnN w D (.slice none 0 0) .nil:=⟨[],World.ownsRow_nil _ _ _ _,fun g e=>(by cases e),rfl⟩
theorem OwnN.form{w:World}{D:Nat→Prop}{V:Value}{l:NL}(h:OwnN w D V l): ∃(A:Option Addr)(c:Nat),V= .slice A l.len c:=by
 obtain⟨xs,h,_⟩:=h;exact xg h
theorem OwnN.ge{w:World}{D:Nat→Prop}{V:Value}{l:NL}(h:OwnN w D V l)(k:Nat)(hk:V.ownBlock=some k):D k∧k<w.heap.size:=by
 obtain⟨xs,m,j,_⟩:=h;exact⟨j k hk,(m.lt k hk).2⟩
theorem OwnN.wide{w:World}{D D':Nat→Prop}{V:Value}{l:NL}(h:OwnN w D V l)(hb: ∀k,D k→k<w.heap.size→D' k):OwnN w D' V l:=by
 have hg:=h.ge;obtain⟨xs,n,m,hx⟩:=h;exact⟨xs,n,fun g hg'=>hb g (m g hg') (hg g hg').2,jP (fun _ _=>rfl) (fun b j=>⟨hb b j.1 j.2.1,j.2⟩) l xs hx⟩
theorem OwnN.keep{w w':World}{D:Nat→Prop}{V:Value}{l:NL}(h:OwnN w D V l)(k: ∀b,D b→b<w.heap.size→w'.heap[b]?=w.heap[b]?)(hz:w.heap.size≤w'.heap.size):OwnN w' D V l:=by
 have hg:=h.ge;obtain⟨xs,o,m,hx⟩:=h;refine⟨xs,?_,m,jP (fun b hb=>k b hb.1 hb.2.1) (fun b hb=>⟨hb.1,Nat.lt_of_lt_of_le hb.2.1 hz,hb.2.2⟩) l xs hx⟩;obtain⟨h1,h2⟩:=o;refine⟨h1,?_⟩;rcases h2 with h2|⟨g,cap,j,hv,hg0,n,r⟩
 ·exact .inl h2
 ·have:=hg g (by rw[hv];rfl)
  exact .inr ⟨g,cap,j,hv,hg0,(k g this.1 this.2).trans n,r⟩
theorem OwnN.grown{w w':World}{D:Nat→Prop}{P:Nat}{V:Value}{l:NL}(h:OwnN w D V l)(hg:w.grownBy w' (some P))(j: ¬D P):OwnN w' D V l:=
 h.keep (fun b h1 h2=>hg.block b h2 (fun e=>by injection e with e;subst e;exact j h1)) hg.size
theorem OwnN.below{w w':World}{D:Nat→Prop}{V:Value}{l:NL}(h:OwnN w D V l)(hg:Below w.heap.size w w'):OwnN w' D V l:=h.keep (fun b h1 h2=>hg.block b h2) hg.size
theorem OwnN.kids{w:World}{D:Nat→Prop}{V:Value}{l:NL}(h:OwnN w D V l): ∃A c,V= .slice A l.len c∧l.len≤c∧(A=none→c=0)∧RpN w (fun k=>D k∧k<w.heap.size) l A:=by
 have hl:=h.ge;obtain⟨xs,n,v,hx⟩:=h;have hx':=jP (w':=w) (S':=fun k=>D k∧k<w.heap.size) (fun _ _=>rfl) (fun b hb=>⟨hb.1,hb.2.1⟩) l xs hx;rcases n.2 with⟨rfl,h0⟩|⟨g,cap,o,rfl,q,hg,m,r,s,x⟩
 ·have hl:l= .nil:=by
   cases l with
   |nil=>rfl
   |cons=>simp[NL.len]at h0
  subst hl;exact⟨none,0,rfl,Nat.le_refl _,fun _=>rfl,trivial⟩
 ·refine⟨some ⟨g,0,none⟩,cap,rfl,m,(fun e=>by cases e),qbK (S:=fun k=>D k∧k<w.heap.size) (hl g rfl) l xs 0 hx' (fun j u t=> ?_)⟩
  have h:=n.cells (g:=g) rfl j u t;have e:(⟨g,0,none⟩:Addr).add j=⟨g,0+j,none⟩:=by unfold Addr.add;split<;>simp_all
  rw[e]at h;exact h
def qN(op ln:Int)(s:ByteArray)(k n:Int)(t:ByteArray)(va:Option Addr)(vc:Nat)(V:Value):Array Value:= #[.int .i64 op,.int .i64 ln,.string s,.int .i64 k,.int .i64 n,.string t,.slice va 0 vc,V]
theorem OwnN.row1{w:World}{D:Nat→Prop}{V:Value}{sub:NL}(h:OwnN w D V sub)(op ln:Int)(s:ByteArray)(k n:Int)(t:ByteArray)(va:Option Addr)(vc:Nat):
 jG w (fun k=>D k∧k<w.heap.size) (nd op ln s k n t sub) (qN op ln s k n t va vc V).toList:=by
 obtain⟨A,c,rfl,hc,_,hr⟩:=h.kids;exact⟨va,vc,A,c,[],rfl,Nat.zero_le _,trivial,hc,hr,rfl⟩
theorem OwnN.lit{w:World}{D:Nat→Prop}{l:NL}{cs:Array Value}(hx:jG w (fun k=>D k∧k<w.heap.size) l cs.toList)(hb:D w.heap.size)(hl:l.len≤1000000000000):
 OwnN (w.alloc (.cells cs 31)) D (.slice (some ⟨w.heap.size,0,none⟩) l.len l.len) l:=by
 have hz:cs.size=l.len*8:=by have:=xZ l _ hx;simpa using this
 refine⟨cs.toList,World.ownsRow_lit w cs l.len (Nat.zero_le _) (by unfold maxLen;omega) hz,fun g e=> ?_,jP (fun b hb=>Below.heap_alloc _ _ _ hb.2) (fun b hb=>⟨hb.1,by simp;omega,fun e=> ?_⟩) l _ hx⟩
 ·simp[Value.ownBlock]at e
  rw[←e];exact hb
 ·simp[Value.ownBlock]at e
  omega
theorem OwnN.joined{w w':World}{D:Nat→Prop}{V j:Value}{a b:NL}{xs ys:List Value}(r:w.ownsRow 0 31 8 V a.len xs)(o: ∀g,V.ownBlock=some g→D g)(hn:D w.heap.size)(hx:jG w (SN w D V) a xs)(q:jG w (SN w D V) b ys)
 (m:w'.ownsRow 0 31 8 j (a.len+b.len) (xs++ys)) (hg:w.grownBy w' V.ownBlock) (l:j.ownBlock=V.ownBlock∨j.ownBlock=some w.heap.size):OwnN w' D j (a.app b):=by
 have hk: ∀k,SN w D V k→w'.heap[k]?=w.heap[k]?:=fun k hk=>hg.block k hk.2.1 (fun e=>hk.2.2 e.symm)
 have n: ∀k,SN w D V k→SN w' D j k:=fun k hk=>⟨hk.1,Nat.lt_of_lt_of_le hk.2.1 hg.size,fun e=>by
  rcases l with h|h
  ·exact hk.2.2 (h.symm.trans e)
  ·rw[h]at e;injection e with e;have:=hk.2.1;omega⟩
 refine⟨xs++ys,by rw[NL.len_app];exact m,fun g e=> ?_,QI a b xs ys (jP hk n a xs hx) (jP hk n b ys q)⟩;rcases l with h|h
 ·exact o g (h.symm.trans e)
 ·rw[h]at e;injection e with e;rw[←e];exact hn
theorem QN{P:Program}{T ty:TypeId}{i:TypeInfo}{z:Value}(w:World)(C:P.underlying T=some (.slice 31))(hi:P.info? 31=some i)(hz:i.zero=some z)(n:i.size=8)(t:i.bytes=112)(x:z.cells.size=8)
 {D:Nat→Prop} {V:Value} {a b:NL} (E:OwnN w D V a) {A:Option Addr} {c:Nat} (hb:RpN w (SN w D V) b A) (hA:A=none→c=0) (hl:a.len+b.len≤1000000000000) (hn:D w.heap.size):
 ∃k l w',(Builtin.append_ #[T,T] ty #[V,.slice A b.len c]).run P w= .ok (.slice k (a.len+b.len) l) w'∧OwnN w' D (.slice k (a.len+b.len) l) (a.app b)∧w.grownBy w' V.ownBlock∧
  ((Value.slice k (a.len+b.len) l).ownBlock=V.ownBlock∨(Value.slice k (a.len+b.len) l).ownBlock=some w.heap.size):=by
 obtain⟨xs,q,y,hx⟩:=E;obtain⟨ys,r,hcell⟩:=KV b A hb;by_cases B:A=none
 ·subst B
  have s:b= .nil:=by
   cases b with
   |nil=>rfl
   |cons=>obtain⟨_,_,_,_,_,_,e,_⟩:=hb;cases e
  subst s;obtain rfl:c=0:=hA rfl;obtain⟨k,l,rfl⟩:=xg q;refine⟨k,l,w,?_,?_,⟨rfl,rfl,rfl,Nat.le_refl _,fun _ _ _=>rfl⟩,.inl rfl⟩
  ·have:=run_append_owned_none (P:=P) (w:=w) 0 T ty _ i 8 C hi _ a.len xs q
   simpa[NL.len]using this
  ·rw[NL.app_nil]
   exact⟨xs,q,y,hx⟩
 ·obtain⟨ad,rfl⟩: ∃ad,A=some ad:=by
   cases A with
   |none=>exact absurd rfl B
   |some ad=>exact⟨ad,rfl⟩
  have m: ∀j u,ys[j]?=some u→w.cell? (ad.add j)=some u:=by
   intro j u v
   cases b with
   |nil=>rw[show ys= []from r]at v;simp at v
   |cons=>
    obtain⟨g,o,_,_,_,_,e,_⟩:=hb;injection e with e
    subst e;rw[show(⟨g,o,none⟩:Addr).add j=⟨g,o+j,none⟩from by unfold Addr.add;split<;>simp_all];exact hcell g o rfl j u v
  obtain⟨F,w',hr,h2,h3,_,h5⟩:=run_append_own_at (P:=P) w 0 T ty _ i z 8 112 C hi hz n t x (by decide) V a.len xs q ad b.len c ys (xZ b ys r) m (XM b ys r) (by unfold maxLen;omega) (by omega) (Nat.zero_le _);obtain⟨k,l,rfl⟩:=xg h2;exact⟨k,l,w',hr,OwnN.joined q y hn hx r h2 h3 h5,h3,h5⟩
theorem RpN.sn{w:World}{D D':Nat→Prop}{V:Value}{b:NL}{A:Option Addr}(h:RpN w (fun k=>D' k∧k<w.heap.size) b A)(j: ∀k,D' k→k<w.heap.size→D k)(l: ∀g,V.ownBlock=some g→ ¬D' g):RpN w (SN w D V) b A:=
 h.keep (fun _ _=>rfl) (fun k hk=>⟨j k hk.1 hk.2,hk.2,fun e=>l k e hk.1⟩)
structure PCtx where
 P:Nat
 A:Option Addr
 c:Nat
 l:List Tok
 ea:Nat→Addr
def qgL(w:World)(X:PCtx):Prop:= ∀(j:Nat)(t:Tok),X.l[j]?=some t→ ∃(g:Nat)(sa:Option Addr)(sc:Nat),X.A=some ⟨g,0,none⟩∧g<X.P∧TkIn w g (7*j) t sa sc
def ErrV(w:World)(X:PCtx)(j:Value):Option (Option Int)→Prop
 |none=>j= .nilIface
 |some none=>j= .iface 270 (.pointer (some (X.ea 112)))
 |some (some line)=> ∃A,X.P<A∧j= .iface 70 (.pointer (some ⟨A,0,none⟩))∧w.heap[A]?=some (.cells #[.int .i64 line,.iface 270 (.pointer (some (X.ea 111)))] 73 (0,0))
def PsAt(w:World)(X:PCtx)(pos:Nat)(deep:Int)(j:Value):Prop:=w.heap[X.P]?=some (.cells #[.slice X.A X.l.length X.c,.int .i64 pos,.int .i64 deep,j] 65 (0,0))
structure PSt (w:World) (X:PCtx) (p:PS):Prop where
 st: ∃ev,PsAt w X p.pos p.deep ev∧ErrV w X ev p.err
 tk:qgL w X
 er:ErrsAt w X.ea
 room:24<X.P
 pos:p.pos≤X.l.length
 len:X.l.length≤1000000
section
variable {w w' : World} {X : PCtx} {p : PS}
theorem zV{w:World}{g:Nat}{o:Obj}(h:w.heap[g]?=some o):g<w.heap.size:=by
 rcases Nat.lt_or_ge g w.heap.size with j|hge
 ·exact j
 ·rw[Array.getElem?_eq_none hge]at h;cases h
theorem PSt.lt(h:PSt w X p):X.P<w.heap.size:=by obtain⟨j,h,_⟩:=h.st;exact zV h
theorem PSt.keep(h:PSt w X p)(m: ∀b,b≤X.P→w'.heap[b]?=w.heap[b]?)(hA: ∀(A:Nat)(line:Int),X.P<A→w.heap[A]?=some (.cells #[.int .i64 line,.iface 270 (.pointer (some (X.ea 111)))] 73 (0,0))→w'.heap[A]?=w.heap[A]?)(hz:w.heap.size≤w'.heap.size):PSt w' X p:=by
 obtain⟨n,h1,h2⟩:=h.st;refine⟨⟨n,(m _ (Nat.le_refl _)).trans h1,?_⟩,fun j t o=> ?_,h.er.keep (fun b hb=>m b (by have:=h.room;omega)) hz,h.room,h.pos,h.len⟩
 ·revert h2
  cases p.err with
  |none=>exact fun h=>h
  |some e=>
   cases e with
   |none=>exact fun h=>h
   |some line=>exact fun⟨A,hA1,hA2,l⟩=>⟨A,hA1,hA2,(hA A line hA1 l).trans l⟩
 ·obtain⟨g,sa,sc,e1,e2,e3⟩:=h.tk j t o
  have hk: ∀k,w'.cell? ⟨g,k,none⟩=w.cell? ⟨g,k,none⟩:=fun k=>World.cell?_of_block (w:=w) (m g (Nat.le_of_lt e2));exact⟨g,sa,sc,e1,e2,⟨(hk _).trans e3.c0,(hk _).trans e3.c1,(hk _).trans e3.c2,(hk _).trans e3.c3,(hk _).trans e3.c4,(hk _).trans e3.c5,(hk _).trans e3.c6⟩⟩
theorem PSt.below(h:PSt w X p)(hb:Below w.heap.size w w'):PSt w' X p:=h.keep (fun b j=>hb.block b (by have:=h.lt;omega)) (fun A line _ hA=>hb.block A (zV hA)) hb.size
theorem PSt.app{D:Nat→Prop}{V:Value}{l:NL}(h:PSt w X p)(m:OwnN w D V l)(o: ∀k,D k→X.P<k)(hg:w.grownBy w' V.ownBlock):PSt w' X p:=by
 refine h.keep (fun b q=>hg.block b (by have:=h.lt;omega) (fun e=>by have:=o b (m.ge b e.symm).1;omega)) (fun A line _ hA=>hg.block A (zV hA) (fun e=> ?_)) hg.size;obtain⟨xs,m,_⟩:=m;rcases m.2 with⟨rfl,_⟩|⟨g,cap,n,rfl,_,j,_⟩
 ·cases e
 ·have e:A=g:=by simpa[Value.ownBlock]using e
  subst e;rw[hA]at j;injection j with j
  injection j with _ j _
  exact absurd j (by decide)
end
structure Mvd (w w':World) (X:PCtx) (p:PS):Prop where
 st:PSt w' X p
 grown:w.grownBy w' (some X.P)
theorem Mvd.of{w:World}{X:PCtx}{p:PS}(h:PSt w X p):Mvd w w X p:=⟨h,jo _ _⟩
theorem Mvd.trans{a b c:World}{X:PCtx}{p q:PS}(h:Mvd a b X p)(g:Mvd b c X q):Mvd a c X q:=⟨g.st,zt h.grown g.grown⟩
theorem Mvd.below{a b c:World}{X:PCtx}{p:PS}(h:Mvd a b X p)(g:Below b.heap.size b c):Mvd a c X p:=⟨h.st.below g,zt h.grown (xl g _)⟩
theorem Mvd.drew{a b:World}{X:PCtx}{p:PS}(h:Mvd a b X p):Mvd a b.drew X p:=h.below (Below.drew (Below.refl _ _))
theorem Mvd.alloc{a b:World}{X:PCtx}{p:PS}(h:Mvd a b X p)(o:Obj):Mvd a (b.alloc o) X p:=h.below ((Below.refl _ _).alloc (Nat.le_refl _) o)
theorem Mvd.app{a w w':World}{X:PCtx}{p:PS}{D:Nat→Prop}{V:Value}{l:NL}(h:Mvd a w X p)(m:OwnN w D V l)(n: ∀k,D k→X.P<k)(hb: ∀k,D k→a.heap.size≤k)(hg:w.grownBy w' V.ownBlock):Mvd a w' X p:=
 ⟨h.st.app m n hg,⟨hg.os.trans h.grown.os,hg.tape.trans h.grown.tape,hg.output.trans h.grown.output,Nat.le_trans h.grown.size hg.size,fun k hk j=>(hg.block k (Nat.lt_of_lt_of_le hk h.grown.size) (fun e=>by have:=hb k (m.ge k e.symm).1;omega)).trans (h.grown.block k hk j)⟩⟩
end
def XK(c:Int):ByteArray:=if 0≤c∧c≤14 then jy.getD c.toNat ByteArray.empty else⟨#[]⟩
def jI(s:ByteArray):Int:=idxOfS jy s
theorem qfq(s:ByteArray)(w:World):
 Calls Tryz.prog 122 #[.string s] w fun e w'=>e= .returned (.tuple #[.int .i64 (if jI s<0 then 0 else jI s),.bool (decide (0≤jI s))])∧Below w.heap.size w w':=by
 have m:=hid (KR w);have hb:Below w.heap.size w (w.alloc (.cells (jy.map Value.string).toArray 9)):=(Below.refl _ _).alloc (Nat.le_refl _) _
 have k:=hid (Tryz.slices_Index_string w.heap.size 0 15 15 jy s (w.alloc (.cells (jy.map Value.string).toArray 9)) (by rw[kC];exact Nat.le_refl _) (by decide)
  (fun j n=>by rw[Nat.zero_add];exact Z1 w j (by rw[kC]at n;exact n) 0))
 rw[show jy.take 15=jy from rfl,show idxOfS jy s=jI s from rfl]at k;have l:=hid hb;clear hb;by_cases hc:jI s<0
 ·rw[if_pos hc,show decide (0≤jI s)=false by simp;omega]
  go_enter Tryz.func122,Tryz.ntmps122
  go_wp2_with fail
  refine m.out.mono ?_;rintro e w2 ⟨rfl,rfl⟩;go_wp2_with fail
  refine k.out.mono ?_;rintro e w2 ⟨rfl,rfl⟩;go_wp2_with fail
  go_returns
  exact⟨rfl,l.out⟩
 ·rw[if_neg hc,show decide (0≤jI s)=true by simp;omega]
  have hd:decide (jI s<0)=false:=by simp;omega
  go_enter Tryz.func122,Tryz.ntmps122
  go_wp2_with fail
  refine m.out.mono ?_;rintro e w2 ⟨rfl,rfl⟩;go_wp2_with fail
  refine k.out.mono ?_;rintro e w2 ⟨rfl,rfl⟩;go_wp2_with fail
  go_returns
  exact⟨rfl,l.out⟩
theorem qgz{a b:ByteArray}(h: ¬a=b):(a.toList==b.toList)=false:=by
 rw[Lib.toList_data,Lib.toList_data,beq_eq_false_iff_ne];intro e;apply h
 rcases a with⟨⟨a⟩⟩;rcases b with⟨⟨b⟩⟩
 exact congrArg (fun l=>(⟨⟨l⟩⟩:ByteArray)) e
theorem qbq(j:Nat)(h:j<15):XK (j:Int)=jy.getD j ByteArray.empty:=by unfold XK;rw[if_pos (by omega)];simp
theorem qai(s:ByteArray)(k:Nat)(hk:k<15)(h:jy.getD k ByteArray.empty=s)(l: ∀j,j<k→jy.getD j ByteArray.empty≠s):jI s=k:=
 idxOfS_hit jy 15 k s hk (by rw[kC];exact Nat.le_refl _) h l
structure StrcAt (w:World):Prop where
 syn: ∃te pe,w.cell? ⟨21,0,none⟩=some (.iface te pe)
 rng: ∃te pe,w.cell? ⟨22,0,none⟩=some (.iface te pe)
 tab:TabIs Tryz.prog w "internal/strconv.uint64pow10" .u64 pow10Tab
 room:24<w.heap.size
theorem StrcAt.below{w w':World}{B:Nat}(h:StrcAt w)(hb:Below B w w')(j:w.heap.size≤B):StrcAt w':=by
 have hk: ∀p:Addr,p.block<w.heap.size→w'.cell? p=w.cell? p:=fun p hp=>World.cell?_of_block (w:=w) (hb.block p.block (by omega));have hr:=h.room;obtain⟨m,k,h1⟩:=h.syn;obtain⟨n,l,h2⟩:=h.rng;exact⟨⟨m,k,(hk ⟨21,0,none⟩ (Nat.lt_trans (by decide) hr)).trans h1⟩,⟨n,l,(hk ⟨22,0,none⟩ (Nat.lt_trans (by decide) hr)).trans h2⟩,Joins.tab_stays (g:=20) rfl h.tab hb j,by have:=hb.size;omega⟩
theorem kU(c:UInt8):qt c=QE c:=by
 cases h:QE c with
 |true=>have:=xE.1 h;unfold qt;exact decide_eq_true this
 |false=>unfold qt;refine decide_eq_false fun e=> ?_;rw[xE.2 e]at h;cases h
theorem zj{s:ByteArray}{i:Nat}{c:UInt8}{r:List UInt8}(h:s.data.toList.drop i=c::r):pk s i=c∧s.data.toList.drop (i+1)=r:=by
 constructor
 ·unfold pk
  rw[List.getD_eq_getElem?_getD, ←List.head?_drop,h];rfl
 ·rw[←List.drop_drop,h];rfl
theorem qgt{s:ByteArray}{i:Nat}(h:s.data.toList.drop i= []):pk s i=0:=by
 unfold pk;rw[List.getD_eq_getElem?_getD, ←List.head?_drop,h];rfl
def jh:List UInt8→List UInt8
 | []=> []
 |x::r=>if x=34∨x=92 then 92::x::jh r else x::jh r
theorem XE: ∀l:List UInt8,l.length≤(jh l).length∧(jh l).length≤2*l.length
 | []=>⟨Nat.le_refl _,Nat.le_refl _⟩
 |x::r=>by
  have:=XE r;rw[jh];split<;>simp only[List.length_cons]<;>omega
def j8(l:List UInt8):List UInt8:=34::(jh l++ [34])
def ZN(k n:Int)(s:ByteArray)(l:List (List UInt8)):List UInt8:=
 if k=0 then itoa n else if k=1 then 35::itoa n else if k=2 then j8 s.data.toList else if k=3 then(XK n).data.toList else 123::(join l [44,32]++ [125])
def qdD:VL→List (List UInt8)
 | .nil=> []
 | .cons k n s sub rest=>ZN k n s (qdD sub)::qdD rest
theorem qbu{k n:Int}{s:ByteArray}{len:Nat}(h:qH k n s len=0):
 (k=0∧s.data.toList= []∧len=0)∨(k=1∧ -2147483648≤n∧n≤2147483647∧s.data.toList= []∧len=0)∨(k=2∧n=0∧len=0∧zY s.data.toList=true)∨(k=3∧0≤n∧n≤14∧s.data.toList= []∧len=0)∨(k=4∧n=0∧s.data.toList= []):=by
 unfold qH at h;by_cases h1:k<0∨4<k
 ·rw[if_pos h1]at h;cases h
 rw[if_neg h1]at h;by_cases h2:k=1∧(n< -2147483648∨2147483647<n)
 ·rw[if_pos h2]at h;cases h
 rw[if_neg h2]at h;by_cases h3:k=3∧(n<0∨14<n)
 ·rw[if_pos h3]at h;cases h
 rw[if_neg h3]at h;by_cases h4:(k≠2∧s.data.toList≠ [])∨(k≠4∧0<len)∨((k=2∨k=4)∧n≠0)
 ·rw[if_pos h4]at h;cases h
 rw[if_neg h4]at h;by_cases h5:zY s.data.toList=false
 ·rw[if_pos h5]at h;cases h
 have hs:k≠2→s.data.toList= []:=fun hk=>by
  by_cases e:s.data.toList= []
  ·exact e
  ·exact absurd (.inl ⟨hk,e⟩) h4
 have hl:k≠4→len=0:=fun hk=>by
  by_cases e:0<len
  ·exact absurd (.inr (.inl ⟨hk,e⟩)) h4
  ·omega
 have hn:(k=2∨k=4)→n=0:=fun hk=>by
  by_cases e:n=0
  ·exact e
  ·exact absurd (.inr (.inr ⟨hk,e⟩)) h4
 have hk:k=0∨k=1∨k=2∨k=3∨k=4:=by omega
 rcases hk with rfl|rfl|rfl|rfl|rfl
 ·exact .inl ⟨rfl,hs (by decide),hl (by decide)⟩
 ·exact .inr (.inl ⟨rfl,by omega,by omega,hs (by decide),hl (by decide)⟩)
 ·exact .inr (.inr (.inl ⟨rfl,hn (.inl rfl),hl (by decide),by simpa using h5⟩))
 ·exact .inr (.inr (.inr (.inl ⟨rfl,by omega,by omega,hs (by decide),hl (by decide)⟩)))
 ·exact .inr (.inr (.inr (.inr ⟨rfl,hn (.inr rfl),hs (by decide)⟩)))
def VL.i64:VL→Prop
 | .nil=>True
 | .cons _ n _ sub rest=> -9223372036854775808≤n∧n≤9223372036854775807∧sub.i64∧rest.i64
theorem qcq(l:List (List UInt8)):(join l [44,32]).length≤(l.map fun x=>x.length+2).sum:=by
 cases l with
 |nil=>exact Nat.le_refl _
 |cons x r=>
  rw[join_length]
  have: ∀l:List (List UInt8),(l.map fun x=>x.length+2).sum=lens l+2*l.length:=by
   intro l
   induction l with
   |nil=>rfl
   |cons a t j=>simp only[List.map_cons,List.sum_cons,j,lens,List.length_cons];omega
  rw[this];simp only[List.length_cons,List.length_nil];omega
theorem Kd: "*" ++ "errors.errorString" = "*errors.errorString" :=by decide
theorem K7(u:TypeId)(h:Tryz.prog.typeName? 3 u=some "*errors.errorString"):u=270:=
 typeName_ptr_named (nm:= "errors.errorString") (by rw[Kd];kernel_rfl) (by kernel_rfl) (by decide) u (by rw[Kd];exact h)
theorem K9{n:String}{j:List UInt8}{r:List (String×DataW Unit)}{W:World}(g:Nat)(h:laidMet Tryz.prog ((n,.iface "*errors.errorString" (.ptr (.agg [.lit (.string j)])))::r) W)
 (hg:Tryz.prog.globalNamed n=some g) (k:(Tryz.prog.globals[g]?).map (·.type)=some 33): ∃a:Addr,W.cell? ⟨g,0,none⟩=some (.iface 270 (.pointer (some a))):=by
 obtain⟨a,s,hv,_⟩:=laid_sentinel h hg k Tryz.underlying33 K7 Tryz.underlying270 Tryz.underlying272 rfl rfl Tryz.underlying9 (by kernel_rfl) (by kernel_rfl);exact⟨a,by simpa using World.var?_cell hg hv 0⟩
end Go.Proofs.YtggngahmafbihaaGreatDoor
