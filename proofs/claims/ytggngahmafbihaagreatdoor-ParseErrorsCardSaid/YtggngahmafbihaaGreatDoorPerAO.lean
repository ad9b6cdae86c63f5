/- Contracts, and the plain mathematics beneath. -/
import Derived.Deep.RegionHeld3
import Derived.StillTailTactics
import Derived.IntWalk
import Derived.Test.YtggngahmafbihaaGreatDoorPerAH
import Derived.Test.YtggngahmafbihaaGreatDoorPerAF
import Derived.Test.YtggngahmafbihaaGreatDoorPerAI
import Derived.Test.YtggngahmafbihaaGreatDoorShelf
set_option linter.unusedVariables false
set_option linter.unusedSimpArgs false
set_option maxRecDepth 100000
set_option maxHeartbeats 4000000
namespace Go.Proofs.YtggngahmafbihaaGreatDoor
open Go.RowKit Go.Lib
section
theorem zE{P:Program}{f:FuncId}{args:Array Value}{w:World}{a n:Nat}{v:Value}
 (h:Calls P f args (w.drewN (a+n)) fun e w'=>e= .returned v∧w.drewN (a+n)=w'):
 Calls P f args (w.drewN (a+n)) fun e i=>e= .returned v∧ ∃m,i=w.drewN (a+m):=
 h.mono fun _ _ ⟨j,hm⟩=>⟨j,n,hm.symm⟩
theorem jz{P:Program}{f:FuncId}{args:Array Value}{w:World}{n:Nat}{v:Value}
 (h:Calls P f args (w.drewN n) fun e w'=>e= .returned v∧w.drewN n=w'):Calls P f args (w.drewN n) fun e i=>e= .returned v∧ ∃m,i=w.drewN m:=
 h.mono fun _ _ ⟨j,hm⟩=>⟨j,n,hm.symm⟩
theorem Ki{P:Program}{w w':World}{n:String}{g:Nat}{k:IntKind}{zs:List Int}(hg:P.globalNamed n=some g)(h:TabIs P w n k zs)(e:w'.heap[g]?=w.heap[g]?):TabIs P w' n k zs:=by
 unfold TabIs World.var? at*;rw[hg]at h⊢;simp only[Option.bind_some]at h⊢;rw[e];exact h
structure LxEnv (w:World) (ea:Nat→Addr):Prop where
 err:ErrsAt w ea
 spc:xI w
 str:StrcAt w
theorem LxEnv.below{w w':World}{ea:Nat→Addr}{B:Nat}(h:LxEnv w ea)(hb:Below B w w')(i:24≤B):LxEnv w' ea:=by
 have hk: ∀p:Addr,p.block<24→w'.cell? p=w.cell? p:=fun p hp=>World.cell?_of_block (w:=w) (hb.block p.block (by omega));obtain⟨l,j,h1⟩:=h.str.syn;obtain⟨m,k,h2⟩:=h.str.rng;refine⟨h.err.below hb i,Ki (g:=17) rfl h.spc (hb.block _ (Nat.lt_of_lt_of_le (by decide) i)),⟨⟨l,j,(hk ⟨21,0,none⟩ (by decide)).trans h1⟩,⟨m,k,(hk ⟨22,0,none⟩ (by decide)).trans h2⟩,Ki (g:=20) rfl h.str.tab (hb.block _ (Nat.lt_of_lt_of_le (by decide) i)),?_⟩⟩;have:=h.str.room;have:=hb.size;omega
def qgI(B:Nat)(line:Int)(i:Value)(e:Ending)(w':World):Prop:=
 ∃A,B≤A∧w'.heap[A]?=some (.cells #[.int .i64 line,i] 73 (0,0))∧e= .returned (.iface 70 (.pointer (some ⟨A,0,none⟩)))
def LxRes(ea:Nat→Addr)(R:Nat)(s:ByteArray)(i:Nat)(line:Int)(l:List Tok)(r:WR)(w:World)(e:Ending)(w':World):Prop:=
 Below R w w'∧match r with
 | .bad c=>qgI R line (.iface 270 (.pointer (some (ea c)))) e w'
 | .word n t=>e= .returned .nilIface∧LxSt w' R s (i+n) line (l++ [t])
theorem LxRes.mkBad{ea:Nat→Addr}{R c:Nat}{s:ByteArray}{i:Nat}{line:Int}{l:List Tok}{r:WR}{w j:World}(hr:r= .bad c)(hb:Below R w j)(k:R≤j.heap.size):
 LxRes ea R s i line l r w (.returned (.iface 70 (.pointer (some ⟨j.heap.size,0,none⟩)))) (j.alloc (.cells #[.int .i64 line,.iface 270 (.pointer (some (ea c)))] 73)):=by
 subst hr;exact⟨hb.alloc k _,_,k,heap_alloc_new j _,rfl⟩
theorem LxRes.mkWord{ea:Nat→Addr}{R n:Nat}{s:ByteArray}{i:Nat}{line:Int}{l:List Tok}{r:WR}{t:Tok}{w w1:World}(hr:r= .word n t)(hb:Below R w w1)(h:LxSt w1 R s (i+n) line (l++ [t])):
 LxRes ea R s i line l r w (.returned .nilIface) w1:=by
 subst hr;exact⟨hb,rfl,h⟩
theorem zc{B:Nat}{w w':World}(h:Below B w w')(n:Nat):Below B w (w'.drewN n):=⟨h.os,h.tape,h.output,h.size,h.block⟩
theorem xB(x:ByteArray):containsS (zi.take 19) x=zi.contains x:=by
 have i: ∀a b:ByteArray,(a==b)=true↔a=b:=fun a b=>by
  show(a.data==b.data)=true↔a=b
  rw[beq_iff_eq];exact⟨fun e=>by cases a;cases b;simp only at e;rw[e],fun e=>by rw[e]⟩
 rw[show zi.take 19=zi from rfl,Bool.eq_iff_iff,containsS_iff,List.contains_iff_exists_mem_beq]
 constructor
 ·intro h;exact⟨x,h,(i x x).2 rfl⟩
 ·rintro⟨y,h1,h2⟩;rw[(i x y).1 h2];exact h1
theorem Jf(i n:Nat)(h:i+n≤1000000000):IntKind.i64.wrap ((i:Int)+(n:Int))=(i:Int)+(n:Int)∧(0:Int)≤(i:Int)+(n:Int)∧((i:Int)+(n:Int)).toNat=i+n:=⟨IntWalk.i64_in _ (by omega),by omega,by omega⟩
def TkB(w:World)(g:Nat)(a b c d e f h:Value):Prop:=w.heap[g]?=some (.cells #[a,b,c,d,e,f,h] 55 (0,0))
section
variable {w w' : World} {g : Nat} {a b c d e f h : Value}
theorem TkB.new(w:World)(a b c d e f h:Value):TkB (w.alloc (.cells #[a,b,c,d,e,f,h] 55)) w.heap.size a b c d e f h:=heap_alloc_new w _
theorem TkB.c0(H:TkB w g a b c d e f h):w.cell? ⟨g,0,none⟩=some a:=cell_of_row w g 0 _ _ _ H
theorem TkB.c1(H:TkB w g a b c d e f h):w.cell? ⟨g,1,none⟩=some b:=cell_of_row w g 1 _ _ _ H
theorem TkB.c2(H:TkB w g a b c d e f h):w.cell? ⟨g,2,none⟩=some c:=cell_of_row w g 2 _ _ _ H
theorem TkB.c3(H:TkB w g a b c d e f h):w.cell? ⟨g,3,none⟩=some d:=cell_of_row w g 3 _ _ _ H
theorem TkB.c4(H:TkB w g a b c d e f h):w.cell? ⟨g,4,none⟩=some e:=cell_of_row w g 4 _ _ _ H
theorem TkB.c5(H:TkB w g a b c d e f h):w.cell? ⟨g,5,none⟩=some f:=cell_of_row w g 5 _ _ _ H
theorem TkB.c6(H:TkB w g a b c d e f h):w.cell? ⟨g,6,none⟩=some h:=cell_of_row w g 6 _ _ _ H
theorem TkB.fr(H:TkB w g a b c d e f h)(k:Nat):w.frozen? ⟨g,k,none⟩=false:=by unfold TkB at H;simp[World.frozen?,H]
theorem TkB.below{B:Nat}(H:TkB w g a b c d e f h)(hb:Below B w w')(i:g<B):TkB w' g a b c d e f h:=(hb.block g i).trans H
theorem TkB.set0(H:TkB w g a b c d e f h)(u:Value):TkB (w.setCell ⟨g,0,none⟩ u) g u b c d e f h:=by
 unfold TkB at H⊢;simp[World.setCell,Array.getElem?_modify,H]
end
theorem qx{B:Nat}{w w':World}(hb:Below B w w'){p:Addr}{v:Value}(h:w.cell? p=some v)(hp:p.block<B):w'.cell? p=some v:=(hb.cell hp).trans h
theorem QY(s:ByteArray)(p:UInt8→Bool)(i:Nat)(h:i≤s.size):i+run s p i≤s.size:=K8 s p _ i h
theorem Zq(s:ByteArray)(p:UInt8→Bool)(i:Nat)(h:i<s.size)(hp:p (pk s i)=true):1≤run s p i:=by
 unfold run;rw[JX h hp];omega
theorem XD: ∀(args:Array Value)(w:World),(callFunc 115 args).run Tryz.prog w= .ok (.enter 115 args) w:=enters_of Tryz.func115 (by kernel_rfl) rfl
theorem XB: ∀(args:Array Value)(w:World),(callFunc 121 args).run Tryz.prog w= .ok (.enter 121 args) w:=enters_of Tryz.func121 (by kernel_rfl) rfl
theorem XC: ∀(args:Array Value)(w:World),(callFunc 75 args).run Tryz.prog w= .ok (.enter 75 args) w:=enters_of Tryz.func75 (by kernel_rfl) rfl
def Zl(s:ByteArray)(i:Nat)(line:Int):WR:=
 let n:=run s (fun c=>zk c||qt c) i
 if 32<n∨(i+n<s.size∧zz (pk s (i+n))=true)then .bad 111
 else .word n ⟨if zi.contains (s.extract i (i+n))then 2 else 1,line,s.extract i (i+n),0,0,⟨#[]⟩⟩
theorem Jk{s:ByteArray}{i:Nat}{line:Int}(h:zk (pk s i)=true):zb s i line=Zl s i line:=by
 unfold zb Zl;simp only[h,if_true]
theorem qfL(R:Nat)(s:ByteArray)(i:Nat)(line:Int)(l:List Tok)(ea:Nat→Addr)(w:World)(h:LxSt w R s i line l)(he:LxEnv w ea)(hi:i<s.size)(hs:s.size≤1000000000)(hR:24≤R)(hsm:zk (pk s i)=true):
 Calls Tryz.prog 74 #[.pointer (some ⟨R,0,none⟩)] w (LxRes ea R s i line l (Zl s i line) w):=by
 have G:=h.lt;obtain⟨v,L,ha,_⟩:=id h;have E:=ha.c0;have F:=ha.c1;have RC:=hid (qaH _ _ XD qer R s i line v i w ha (by omega) hs);obtain⟨n,hn⟩: ∃n,n=run s (fun c=>zk c||qt c) i:=⟨_,rfl⟩
 have Z:1≤n:=by rw[hn];exact Zq s _ i hi (by simp[hsm])
 have aa:i+n≤s.size:=by rw[hn];exact QY s _ i (by omega)
 obtain⟨r,hr⟩: ∃r,r=Zl s i line:=⟨_,rfl⟩
 have X:Hid (r=if 32<n∨(i+n<s.size∧zz (pk s (i+n))=true)then .bad 111
  else .word n ⟨if zi.contains (s.extract i (i+n))then 2 else 1,line,s.extract i (i+n),0,0,⟨#[]⟩⟩):=by rw[hr,hn];rfl
 rw[←hr];rw[←hn]at RC;have HH:=hid h;have HA:=hid ha;have HE:=hid he;clear hr hn h he ha;by_cases J:32<n
 ·have V:=hid (X.out.trans (if_pos (.inl J)))
  have hd:decide ((n:Int)>32)=true:=by simp;omega
  have hd':decide (32<(n:Int))=true:=by simp;omega
  have e1:=HE.out.err.syn;clear X;go_enter Tryz.func74,Tryz.ntmps74
  go_wp2_with fail
  refine RC.out.mono ?_;rintro e w1 ⟨rfl,n1,rfl⟩;go_wp2_with fail
  go_quiet (fail)
  go_wp2_with fail
  refine(zK R s i line v _ _ (by exact HA.out)).mono ?_;rintro e w2 ⟨rfl,rfl⟩;go_wp2_with fail
  go_ret
  exact LxRes.mkBad V.out (zc (Below.refl _ _) _) (Nat.le_of_lt G)
 ·have hle:(n:Int)≤32:=by omega
  have hd:decide ((n:Int)>32)=false:=by simp;omega
  have hd':decide (32<(n:Int))=false:=by simp;omega
  by_cases q:i+n<s.size∧zz (pk s (i+n))=true
  ·have V:=hid (X.out.trans (if_pos (.inr q)))
   have hlt2:=q.1;have GC:=hid (fun W=>by have:=xL (pk s (i+n)) W;rw[q.2,qK s (i+n) hlt2]at this;exact this);have Y:decide ((i:Int)+(n:Int)<(s.size:Int))=true:=by simp;omega
   have hdy:(i:Int)+(n:Int)<(s.size:Int):=by omega
   have e1:=HE.out.err.syn;obtain⟨g1,g2,g3⟩:=Jf i n (by omega);clear X q J;go_enter Tryz.func74,Tryz.ntmps74
   go_wp2_with fail
   refine RC.out.mono ?_;rintro e w1 ⟨rfl,n1,rfl⟩;go_wp2_with fail
   go_quiet ((go_at_call 77;exact zE (GC.out _)))
   go_wp2_with fail
   refine(zK R s i line v _ _ (by exact HA.out)).mono ?_;rintro e w2 ⟨rfl,rfl⟩;go_wp2_with fail
   go_ret
   exact LxRes.mkBad V.out (zc (Below.refl _ _) _) (Nat.le_of_lt G)
  ·have V:=hid (X.out.trans (if_neg (by rintro(h|h);exact J h;exact q h)))
   obtain⟨g1,g2,g3⟩:=Jf i n (by omega);have hdz:(i:Int)+(n:Int)≤(s.size:Int):=by omega
   have hdw:(i:Int)≤(i:Int)+(n:Int):=by omega
   obtain⟨sub,D⟩: ∃sub,sub=s.extract i (i+n):=⟨_,rfl⟩
   have HS:=hid D;rw[←D]at V
   cases hk:zi.contains sub with
   |true=>
    have HK:=hid hk;have O:=hid (show r= .word n ⟨2,line,sub,0,0,⟨#[]⟩⟩by rw[V.out,hk];rfl);clear V;by_cases U:i+n<s.size
    ·have hg:zz (pk s (i+n))=false:=by
      cases hq:zz (pk s (i+n))with
      |false=>rfl
      |true=>exact absurd ⟨U,hq⟩ q
     have GC:=hid (fun W=>by have:=xL (pk s (i+n)) W;rw[hg,qK s (i+n) U]at this;exact this);have Y:decide ((i:Int)+(n:Int)<(s.size:Int))=true:=by simp;omega
     have hdy:(i:Int)+(n:Int)<(s.size:Int):=by omega
     clear hg;clear X q J hk D;go_enter Tryz.func74,Tryz.ntmps74
     go_wp2_with fail
     refine RC.out.mono ?_;rintro e w1 ⟨rfl,n1,rfl⟩;go_wp2_with fail
     go_quiet ((go_at_call 77;exact zE (GC.out _)))
     go_wp2_with fail
     generalize m:World.drewN _ _=wq;have q0:wq.cell? ⟨R,0,none⟩=some (.string s):=by rw[←m];exact E
     have q1:wq.cell? ⟨R,1,none⟩=some (.int .i64 i):=by rw[←m];exact F
     have A:Below w.heap.size w wq:=by rw[←m];exact⟨rfl,rfl,rfl,Nat.le_refl _,fun _ _=>rfl⟩
     have H:=hid A;clear m A
     go_region_held3 (fun W=>W.cell? ⟨R,0,none⟩=some (.string s)∧W.cell? ⟨R,1,none⟩=some (.int .i64 i)) (first|assumption|exact⟨E,F⟩|go_keep) (fail)
     go_wp2_with fail
     rw[←HS.out];generalize k:World.drew _=w3;have t:TkB w3 wq.heap.size (.int .i64 1) (.int .i64 0) (.string sub) (.int .i64 0) (.int .i64 0) (.string ⟨#[]⟩) (.slice none 0 0):=by rw[←k];exact TkB.new wq _ _ _ _ _ _ _
     have j:Below w.heap.size w w3:=by rw[←k];exact(H.out.alloc H.out.size _).drew
     have N:wq.heap.size<w3.heap.size:=by rw[←k];show wq.heap.size<(wq.alloc _).heap.size;simp
     have z:=t.c2
     have Q:=hid (fun W (h:W.cell? ⟨wq.heap.size,2,none⟩=some (.string sub)∧Below w3.heap.size w3 W)=>(ZY W (HE.out.below (j.trans (qc h.2 j.size)) (by omega)).spc).mono (R':=fun e W'=> ∃o,e= .returned (.slice (some ⟨o,0,none⟩) 19 19)∧StrsAt W' o zi∧(W'.cell? ⟨wq.heap.size,2,none⟩=some (.string sub)∧Below w3.heap.size w3 W')) fun e W' ⟨o,h1,h2,h3,h4⟩=>
      ⟨o,h1,h3,qx h4 h.1 (by show wq.heap.size<W.heap.size;have:=h.2.size;omega),h.2.trans (qc h4 h.2.size)⟩)
     have S:=hid (fun W (o:Nat) (h:StrsAt W o zi)=>(Tryz.slices_Contains_string o 0 19 19 zi sub W (by decide) (by decide) (by exact h)).mono (R':=fun e W'=>e= .returned (.bool true)∧W=W') fun e W' T=>⟨by rw[T.1,xB,HK.out],T.2.symm⟩);have P:w3.drew.cell? ⟨wq.heap.size,2,none⟩=some (.string sub)∧Below w3.heap.size w3 w3.drew:=⟨z,(Below.refl _ _).drew⟩
     have I:=hid t;have u:=hid j;clear k t j
     go_region_held3 (fun W=>W.cell? ⟨wq.heap.size,2,none⟩=some (.string sub)∧Below w3.heap.size w3 W)
      (first|assumption|exact P|exact⟨by assumption,by assumption⟩)
      (first
       |(go_at_call 118;refine(Q.out _ ?_).mono ?_;assumption;rintro e w5 ⟨o,rfl,B,M⟩)
       |(go_at_call 117;refine(S.out _ o B).mono ?_;rintro e w6 ⟨rfl,rfl⟩))
     clear Q S P z;obtain⟨hs2,hs3⟩:=M;have p:=I.out.below hs3 N;have d0:=p.c0;have d1:=p.c1;have d2:=p.c2;have d3:=p.c3;have d4:=p.c4;have d5:=p.c5;have d6:=p.c6;have f0:=p.fr 0;have y:=u.out.trans (qc hs3 u.out.size);have x:=hid y;clear hs2 hs3 B y p;go_wp2_with fail
     refine(xD R s i line l _ ?_ n Z aa hs ⟨2,0,sub,0,0,⟨#[]⟩⟩ 0 none 0).mono ?_
     ·exact HH.out.below_self (x.out.setCell H.out.size _)
     rintro e w7 ⟨rfl,K,C⟩;clear d0 d1 d2 d3 d4 d5 d6 f0;go_wp2_with fail
     go_ret
     exact LxRes.mkWord O.out (Below.trans ((qc x.out (Nat.le_of_lt G)).setCell (Nat.le_trans (Nat.le_of_lt G) H.out.size) _) K) C
    ·have Y:decide ((i:Int)+(n:Int)<(s.size:Int))=false:=by simp;omega
     clear X q J hk D;go_enter Tryz.func74,Tryz.ntmps74
     go_wp2_with fail
     refine RC.out.mono ?_;rintro e w1 ⟨rfl,n1,rfl⟩;go_wp2_with fail
     go_quiet (fail)
     go_wp2_with fail
     generalize m:World.drewN _ _=wq;have q0:wq.cell? ⟨R,0,none⟩=some (.string s):=by rw[←m];exact E
     have q1:wq.cell? ⟨R,1,none⟩=some (.int .i64 i):=by rw[←m];exact F
     have A:Below w.heap.size w wq:=by rw[←m];exact⟨rfl,rfl,rfl,Nat.le_refl _,fun _ _=>rfl⟩
     have H:=hid A;clear m A
     go_region_held3 (fun W=>W.cell? ⟨R,0,none⟩=some (.string s)∧W.cell? ⟨R,1,none⟩=some (.int .i64 i)) (first|assumption|exact⟨E,F⟩|go_keep) (fail)
     go_wp2_with fail
     rw[←HS.out];generalize k:World.drew _=w3;have t:TkB w3 wq.heap.size (.int .i64 1) (.int .i64 0) (.string sub) (.int .i64 0) (.int .i64 0) (.string ⟨#[]⟩) (.slice none 0 0):=by rw[←k];exact TkB.new wq _ _ _ _ _ _ _
     have j:Below w.heap.size w w3:=by rw[←k];exact(H.out.alloc H.out.size _).drew
     have N:wq.heap.size<w3.heap.size:=by rw[←k];show wq.heap.size<(wq.alloc _).heap.size;simp
     have z:=t.c2
     have Q:=hid (fun W (h:W.cell? ⟨wq.heap.size,2,none⟩=some (.string sub)∧Below w3.heap.size w3 W)=>(ZY W (HE.out.below (j.trans (qc h.2 j.size)) (by omega)).spc).mono (R':=fun e W'=> ∃o,e= .returned (.slice (some ⟨o,0,none⟩) 19 19)∧StrsAt W' o zi∧(W'.cell? ⟨wq.heap.size,2,none⟩=some (.string sub)∧Below w3.heap.size w3 W')) fun e W' ⟨o,h1,h2,h3,h4⟩=>
      ⟨o,h1,h3,qx h4 h.1 (by show wq.heap.size<W.heap.size;have:=h.2.size;omega),h.2.trans (qc h4 h.2.size)⟩)
     have S:=hid (fun W (o:Nat) (h:StrsAt W o zi)=>(Tryz.slices_Contains_string o 0 19 19 zi sub W (by decide) (by decide) (by exact h)).mono (R':=fun e W'=>e= .returned (.bool true)∧W=W') fun e W' T=>⟨by rw[T.1,xB,HK.out],T.2.symm⟩);have P:w3.drew.cell? ⟨wq.heap.size,2,none⟩=some (.string sub)∧Below w3.heap.size w3 w3.drew:=⟨z,(Below.refl _ _).drew⟩
     have I:=hid t;have u:=hid j;clear k t j
     go_region_held3 (fun W=>W.cell? ⟨wq.heap.size,2,none⟩=some (.string sub)∧Below w3.heap.size w3 W)
      (first|assumption|exact P|exact⟨by assumption,by assumption⟩)
      (first
       |(go_at_call 118;refine(Q.out _ ?_).mono ?_;assumption;rintro e w5 ⟨o,rfl,B,M⟩)
       |(go_at_call 117;refine(S.out _ o B).mono ?_;rintro e w6 ⟨rfl,rfl⟩))
     clear Q S P z;obtain⟨hs2,hs3⟩:=M;have p:=I.out.below hs3 N;have d0:=p.c0;have d1:=p.c1;have d2:=p.c2;have d3:=p.c3;have d4:=p.c4;have d5:=p.c5;have d6:=p.c6;have f0:=p.fr 0;have y:=u.out.trans (qc hs3 u.out.size);have x:=hid y;clear hs2 hs3 B y p;go_wp2_with fail
     refine(xD R s i line l _ ?_ n Z aa hs ⟨2,0,sub,0,0,⟨#[]⟩⟩ 0 none 0).mono ?_
     ·exact HH.out.below_self (x.out.setCell H.out.size _)
     rintro e w7 ⟨rfl,K,C⟩;clear d0 d1 d2 d3 d4 d5 d6 f0;go_wp2_with fail
     go_ret
     exact LxRes.mkWord O.out (Below.trans ((qc x.out (Nat.le_of_lt G)).setCell (Nat.le_trans (Nat.le_of_lt G) H.out.size) _) K) C
   |false=>
    have HK:=hid hk;have O:=hid (show r= .word n ⟨1,line,sub,0,0,⟨#[]⟩⟩by rw[V.out,hk];rfl);clear V;by_cases U:i+n<s.size
    ·have hg:zz (pk s (i+n))=false:=by
      cases hq:zz (pk s (i+n))with
      |false=>rfl
      |true=>exact absurd ⟨U,hq⟩ q
     have GC:=hid (fun W=>by have:=xL (pk s (i+n)) W;rw[hg,qK s (i+n) U]at this;exact this);have Y:decide ((i:Int)+(n:Int)<(s.size:Int))=true:=by simp;omega
     have hdy:(i:Int)+(n:Int)<(s.size:Int):=by omega
     clear hg;clear X q J hk D;go_enter Tryz.func74,Tryz.ntmps74
     go_wp2_with fail
     refine RC.out.mono ?_;rintro e w1 ⟨rfl,n1,rfl⟩;go_wp2_with fail
     go_quiet ((go_at_call 77;exact zE (GC.out _)))
     go_wp2_with fail
     generalize m:World.drewN _ _=wq;have q0:wq.cell? ⟨R,0,none⟩=some (.string s):=by rw[←m];exact E
     have q1:wq.cell? ⟨R,1,none⟩=some (.int .i64 i):=by rw[←m];exact F
     have A:Below w.heap.size w wq:=by rw[←m];exact⟨rfl,rfl,rfl,Nat.le_refl _,fun _ _=>rfl⟩
     have H:=hid A;clear m A
     go_region_held3 (fun W=>W.cell? ⟨R,0,none⟩=some (.string s)∧W.cell? ⟨R,1,none⟩=some (.int .i64 i)) (first|assumption|exact⟨E,F⟩|go_keep) (fail)
     go_wp2_with fail
     rw[←HS.out];generalize k:World.drew _=w3;have t:TkB w3 wq.heap.size (.int .i64 1) (.int .i64 0) (.string sub) (.int .i64 0) (.int .i64 0) (.string ⟨#[]⟩) (.slice none 0 0):=by rw[←k];exact TkB.new wq _ _ _ _ _ _ _
     have j:Below w.heap.size w w3:=by rw[←k];exact(H.out.alloc H.out.size _).drew
     have N:wq.heap.size<w3.heap.size:=by rw[←k];show wq.heap.size<(wq.alloc _).heap.size;simp
     have z:=t.c2
     have Q:=hid (fun W (h:W.cell? ⟨wq.heap.size,2,none⟩=some (.string sub)∧Below w3.heap.size w3 W)=>(ZY W (HE.out.below (j.trans (qc h.2 j.size)) (by omega)).spc).mono (R':=fun e W'=> ∃o,e= .returned (.slice (some ⟨o,0,none⟩) 19 19)∧StrsAt W' o zi∧(W'.cell? ⟨wq.heap.size,2,none⟩=some (.string sub)∧Below w3.heap.size w3 W')) fun e W' ⟨o,h1,h2,h3,h4⟩=>
      ⟨o,h1,h3,qx h4 h.1 (by show wq.heap.size<W.heap.size;have:=h.2.size;omega),h.2.trans (qc h4 h.2.size)⟩)
     have S:=hid (fun W (o:Nat) (h:StrsAt W o zi)=>(Tryz.slices_Contains_string o 0 19 19 zi sub W (by decide) (by decide) (by exact h)).mono (R':=fun e W'=>e= .returned (.bool false)∧W=W') fun e W' T=>⟨by rw[T.1,xB,HK.out],T.2.symm⟩);have P:w3.drew.cell? ⟨wq.heap.size,2,none⟩=some (.string sub)∧Below w3.heap.size w3 w3.drew:=⟨z,(Below.refl _ _).drew⟩
     have I:=hid t;have u:=hid j;clear k t j
     go_region_held3 (fun W=>W.cell? ⟨wq.heap.size,2,none⟩=some (.string sub)∧Below w3.heap.size w3 W)
      (first|assumption|exact P|exact⟨by assumption,by assumption⟩)
      (first
       |(go_at_call 118;refine(Q.out _ ?_).mono ?_;assumption;rintro e w5 ⟨o,rfl,B,M⟩)
       |(go_at_call 117;refine(S.out _ o B).mono ?_;rintro e w6 ⟨rfl,rfl⟩))
     clear Q S P z;obtain⟨hs2,hs3⟩:=M;have p:=I.out.below hs3 N;have d0:=p.c0;have d1:=p.c1;have d2:=p.c2;have d3:=p.c3;have d4:=p.c4;have d5:=p.c5;have d6:=p.c6;have f0:=p.fr 0;have y:=u.out.trans (qc hs3 u.out.size);have x:=hid y;clear hs2 hs3 B y p;go_wp2_with fail
     refine(xD R s i line l _ ?_ n Z aa hs ⟨1,0,sub,0,0,⟨#[]⟩⟩ 0 none 0).mono ?_
     ·exact HH.out.below_self x.out
     rintro e w7 ⟨rfl,K,C⟩;clear d0 d1 d2 d3 d4 d5 d6 f0;go_wp2_with fail
     go_ret
     exact LxRes.mkWord O.out (Below.trans (qc x.out (Nat.le_of_lt G)) K) C
    ·have Y:decide ((i:Int)+(n:Int)<(s.size:Int))=false:=by simp;omega
     clear X q J hk D;go_enter Tryz.func74,Tryz.ntmps74
     go_wp2_with fail
     refine RC.out.mono ?_;rintro e w1 ⟨rfl,n1,rfl⟩;go_wp2_with fail
     go_quiet (fail)
     go_wp2_with fail
     generalize m:World.drewN _ _=wq;have q0:wq.cell? ⟨R,0,none⟩=some (.string s):=by rw[←m];exact E
     have q1:wq.cell? ⟨R,1,none⟩=some (.int .i64 i):=by rw[←m];exact F
     have A:Below w.heap.size w wq:=by rw[←m];exact⟨rfl,rfl,rfl,Nat.le_refl _,fun _ _=>rfl⟩
     have H:=hid A;clear m A
     go_region_held3 (fun W=>W.cell? ⟨R,0,none⟩=some (.string s)∧W.cell? ⟨R,1,none⟩=some (.int .i64 i)) (first|assumption|exact⟨E,F⟩|go_keep) (fail)
     go_wp2_with fail
     rw[←HS.out];generalize k:World.drew _=w3;have t:TkB w3 wq.heap.size (.int .i64 1) (.int .i64 0) (.string sub) (.int .i64 0) (.int .i64 0) (.string ⟨#[]⟩) (.slice none 0 0):=by rw[←k];exact TkB.new wq _ _ _ _ _ _ _
     have j:Below w.heap.size w w3:=by rw[←k];exact(H.out.alloc H.out.size _).drew
     have N:wq.heap.size<w3.heap.size:=by rw[←k];show wq.heap.size<(wq.alloc _).heap.size;simp
     have z:=t.c2
     have Q:=hid (fun W (h:W.cell? ⟨wq.heap.size,2,none⟩=some (.string sub)∧Below w3.heap.size w3 W)=>(ZY W (HE.out.below (j.trans (qc h.2 j.size)) (by omega)).spc).mono (R':=fun e W'=> ∃o,e= .returned (.slice (some ⟨o,0,none⟩) 19 19)∧StrsAt W' o zi∧(W'.cell? ⟨wq.heap.size,2,none⟩=some (.string sub)∧Below w3.heap.size w3 W')) fun e W' ⟨o,h1,h2,h3,h4⟩=>
      ⟨o,h1,h3,qx h4 h.1 (by show wq.heap.size<W.heap.size;have:=h.2.size;omega),h.2.trans (qc h4 h.2.size)⟩)
     have S:=hid (fun W (o:Nat) (h:StrsAt W o zi)=>(Tryz.slices_Contains_string o 0 19 19 zi sub W (by decide) (by decide) (by exact h)).mono (R':=fun e W'=>e= .returned (.bool false)∧W=W') fun e W' T=>⟨by rw[T.1,xB,HK.out],T.2.symm⟩);have P:w3.drew.cell? ⟨wq.heap.size,2,none⟩=some (.string sub)∧Below w3.heap.size w3 w3.drew:=⟨z,(Below.refl _ _).drew⟩
     have I:=hid t;have u:=hid j;clear k t j
     go_region_held3 (fun W=>W.cell? ⟨wq.heap.size,2,none⟩=some (.string sub)∧Below w3.heap.size w3 W)
      (first|assumption|exact P|exact⟨by assumption,by assumption⟩)
      (first
       |(go_at_call 118;refine(Q.out _ ?_).mono ?_;assumption;rintro e w5 ⟨o,rfl,B,M⟩)
       |(go_at_call 117;refine(S.out _ o B).mono ?_;rintro e w6 ⟨rfl,rfl⟩))
     clear Q S P z;obtain⟨hs2,hs3⟩:=M;have p:=I.out.below hs3 N;have d0:=p.c0;have d1:=p.c1;have d2:=p.c2;have d3:=p.c3;have d4:=p.c4;have d5:=p.c5;have d6:=p.c6;have f0:=p.fr 0;have y:=u.out.trans (qc hs3 u.out.size);have x:=hid y;clear hs2 hs3 B y p;go_wp2_with fail
     refine(xD R s i line l _ ?_ n Z aa hs ⟨1,0,sub,0,0,⟨#[]⟩⟩ 0 none 0).mono ?_
     ·exact HH.out.below_self x.out
     rintro e w7 ⟨rfl,K,C⟩;clear d0 d1 d2 d3 d4 d5 d6 f0;go_wp2_with fail
     go_ret
     exact LxRes.mkWord O.out (Below.trans (qc x.out (Nat.le_of_lt G)) K) C
end
def Zr(s:ByteArray)(i:Nat)(line:Int):WR:=
 let b:=jn s i zB ⟨#[]⟩
 if b.size=0 then .bad 111 else .word b.size ⟨4,line,b,0,0,⟨#[]⟩⟩
theorem Jl{s:ByteArray}{i:Nat}{line:Int}(h0:zk (pk s i)=false)(h1:qt (pk s i)=false)(h2:zz (pk s i)=false)(h3:pk s i≠35)(h4:pk s i≠34):zb s i line=Zr s i line:=by
 unfold zb Zr;simp only[h0,h1,h2,h3,h4,Bool.false_eq_true,if_false]
theorem Ky{s:ByteArray}{i:Nat}{x:ByteArray}{l:List ByteArray}{b:ByteArray}(h:b.size<x.size∧x.data.toList.isPrefixOf (s.data.toList.drop i)=true):jn s i (x::l) b=jn s i l x:=by
 rw[jn,if_pos h]
theorem Zy{s:ByteArray}{i:Nat}{x:ByteArray}{l:List ByteArray}{b:ByteArray}(h: ¬(b.size<x.size∧x.data.toList.isPrefixOf (s.data.toList.drop i)=true)):jn s i (x::l) b=jn s i l b:=by
 rw[jn,if_neg h]
theorem qaM(j:Nat)(k:j<33):zB.drop j=zB.getD j ByteArray.empty::zB.drop (j+1):=by
 have i:zB.length=33:=rfl;rw[List.getD_eq_getElem?_getD,List.getElem?_eq_getElem (by omega)];exact(List.drop_eq_getElem_cons (by omega))
theorem qaq(s:ByteArray)(i:Nat):(s.extract i s.size).data.toList=s.data.toList.drop i:=by
 rw[ByteArray.data_extract,Array.toList_extract,List.extract_eq_take_drop];exact List.take_of_length_le (by rw[List.length_drop,Array.length_toList];exact Nat.le_refl _)
theorem Q0(s:ByteArray)(i:Nat)(hi:i≤s.size): ∀(l:List ByteArray)(b:ByteArray),i+b.size≤s.size→i+(jn s i l b).size≤s.size
 | [],b,h=>h
 |x::l,b,h=>by
  rw[jn];split
  ·rename_i hc
   refine Q0 s i hi l x ?_;obtain⟨r,hr⟩:=List.isPrefixOf_iff_prefix.1 hc.2;have:=congrArg List.length hr;have e1:x.data.toList.length=x.size:=by rw[Array.length_toList];rfl
   have e2:s.data.toList.length=s.size:=by rw[Array.length_toList];rfl
   rw[List.length_append,List.length_drop,e1,e2]at this;omega
  ·exact Q0 s i hi l b h
theorem qgy(R:Nat)(s:ByteArray)(i:Nat)(line:Int)(l:List Tok)(ea:Nat→Addr)(w:World)(h:LxSt w R s i line l)(he:LxEnv w ea)(hi:i<s.size)(hs:s.size≤1000000000)(hR:24≤R):
 Calls Tryz.prog 81 #[.pointer (some ⟨R,0,none⟩)] w (LxRes ea R s i line l (Zr s i line) w):=by
 have z:=h.lt;obtain⟨v,L,ha,_⟩:=id h;have SC:=hid (qe8 w he.spc);obtain⟨r,hr⟩: ∃r,r=Zr s i line:=⟨_,rfl⟩
 obtain⟨B,M⟩: ∃B,B=jn s i zB ⟨#[]⟩:=⟨_,rfl⟩
 have K:Hid (r=if B.size=0 then .bad 111 else .word B.size ⟨4,line,B,0,0,⟨#[]⟩⟩):=by rw[hr,M];rfl
 have P:i+B.size≤s.size:=by rw[M];exact Q0 s i (by omega) zB ⟨#[]⟩ (by show i+0≤s.size;omega)
 rw[←hr];have HH:=hid h;have HA:=hid ha;have HE:=hid he;have O:=hid M;clear hr h he ha M;go_enter Tryz.func81,Tryz.ntmps81
 go_wp2_with fail
 refine SC.out.mono ?_;rintro e w1 ⟨g,cap,rfl,hg1,hg2,A,hb⟩;have q:=hid hb;have Q:=hid A;have I:=hid (HA.out.below hb z);clear A hb;go_wp2_with fail
 go_loopg [3,8] 33 (fun k bv jv wr=> ∃(j:Nat)(b:ByteArray),bv= .string b∧jv= .int .i64 (j:Int)∧j+k=33∧b.size≤2∧Below w1.heap.size w1 wr∧Hid (jn s i (zB.drop j) b=B))
 case atStart=>exact⟨0,⟨#[]⟩,rfl,rfl,rfl,Nat.zero_le _,Below.refl _ _,O.out.symm⟩
 case round=>
  obtain⟨j,b,rfl,rfl,hk,hbs,n,H⟩:=hrel;have D:=hid n;have o:=I.out.below n I.out.lt;have c0:=o.c0;have c1:=o.c1;have N:=hid o;by_cases hj:j<33
  ·obtain⟨k,rfl⟩: ∃k,gk=k+1:=⟨gk-1,by omega⟩
   obtain⟨x,hx⟩: ∃x,x=zB.getD j ByteArray.empty:=⟨_,rfl⟩
   have X:=(Q.out.below n hg2) j hj;rw[←hx,Nat.zero_add]at X;have p:=H.out;rw[qaM j hj, ←hx]at p;have C:=fun W=>Tryz.strings_HasPrefix (s.extract i s.size) x W;rw[qaq]at C;have hib:(i:Int)≤(s.size:Int):=by omega
   have hxs:x.size≤2:=by
    rw[hx];have: ∀y∈zB,y.size≤2:=by decide+kernel
    refine this _ ?_;rw[List.getD_eq_getElem?_getD,List.getElem?_eq_getElem (show j<zB.length from hj)];exact List.getElem_mem _
   by_cases m:b.size<x.size
   ·have Y:decide (b.size<x.size)=true:=by simp;exact m
    have Z:decide ((b.size:Int)<(x.size:Int))=true:=by simp;exact m
    cases hp:Lib.hasPrefix (s.data.toList.drop i) x.data.toList with
    |true=>
     have J:=hid ((Ky ⟨m,hp⟩).symm.trans p);rw[hp]at C;have F:=hid (fun W=>(C W).mono (R':=fun e w'=>e= .returned (.bool true)∧W=w') fun e w' h=>⟨h.1,h.2.symm⟩);clear C hp H p hx n o m;go_wp2_with fail
     go_quiet ((go_at_call 83;exact jz (F.out _)))
     go_wp2_with fail
     go_roundg k
     case measure=>omega
     case rel=>exact⟨j+1,x,rfl,by go_num,by omega,by omega,zc D.out _,J.out⟩
    |false=>
     have J:=hid ((Zy (by rintro⟨_,h2⟩;rw[show List.isPrefixOf x.data.toList (s.data.toList.drop i)=false from hp]at h2;cases h2)).symm.trans p);rw[hp]at C;have F:=hid (fun W=>(C W).mono (R':=fun e w'=>e= .returned (.bool false)∧W=w') fun e w' h=>⟨h.1,h.2.symm⟩);clear C hp H p hx n o m;go_wp2_with fail
     go_quiet ((go_at_call 83;exact jz (F.out _)))
     go_wp2_with fail
     go_roundg k
     case measure=>omega
     case rel=>exact⟨j+1,b,rfl,by go_num,by omega,by omega,zc D.out _,J.out⟩
   ·have Y:decide (b.size<x.size)=false:=by simp;omega
    have Z:decide ((b.size:Int)<(x.size:Int))=false:=by simp;omega
    have J:=hid ((Zy (fun h=>m h.1)).symm.trans p);clear C H p hx n o m;go_wp2_with fail
    go_quiet (fail)
    go_wp2_with fail
    go_roundg k
    case measure=>omega
    case rel=>exact⟨j+1,b,rfl,by go_num,by omega,by omega,zc D.out _,J.out⟩
  ·obtain rfl:j=33:=by omega
   have V:b=B:=H.out;subst V;have e5:=(HE.out.below (q.out.trans (qc n q.out.size)) (by omega)).err.syn;have u:=hid (q.out.trans (qc n q.out.size));clear H n o;by_cases h0:b.size=0
   ·have E:=hid (K.out.trans (if_pos h0))
    have S:=ke (t:=b) (by rw[←List.length_eq_zero_iff,Array.length_toList];exact h0);clear K;subst S;clear h0;go_wp2_with fail
    refine(zK R s i line v _ _ (by exact N.out)).mono ?_;rintro e w3 ⟨rfl,rfl⟩;go_wp2_with fail
    go_ret
    exact LxRes.mkBad E.out (qc u.out (Nat.le_of_lt z)) (Nat.le_trans (Nat.le_of_lt z) u.out.size)
   ·have E:=hid (K.out.trans (if_neg h0))
    have G:b.data.toList≠ []:=by intro e;apply h0;rw[←List.length_eq_zero_iff,Array.length_toList]at e;exact e
    have hs1: ¬b.toList= []:=by rw[Lib.toList_data];exact G
    have hs0:b.toList.isEmpty=false:=by rw[Lib.toList_data];simpa using G
    have T:1≤b.size:=by omega
    clear K G h0;go_wp2_with fail
    refine(xD R s i line l _ ?_ b.size T P hs ⟨4,0,b,0,0,⟨#[]⟩⟩ 0 none 0).mono ?_
    ·exact HH.out.below_self u.out
    rintro e w3 ⟨rfl,U,A⟩;go_wp2_with fail
    go_ret
    exact LxRes.mkWord E.out (Below.trans (qc u.out (Nat.le_of_lt z)) U) A
theorem qm{a b:Int}(h:a≠b):(a==b)=false:=beq_eq_false_iff_ne.2 h
theorem qU{a b:Int}(h:a≠b):(a !=b)=true:=bne_iff_ne.2 h
theorem qet(op:Int)(w:World):Calls Tryz.prog 176 #[.int .i64 op] w fun e w'=>e= .returned (.tuple #[.bool (jW op).1,.bool (jW op).2])∧w=w':=by
 by_cases h:op=2∨op=24∨op=42∨op=43∨op=50
 ·rcases h with rfl|rfl|rfl|rfl|rfl
  all_goals
   go_enter Tryz.func176,Tryz.ntmps176
   go_wp2_with fail
   go_ret2
   exact⟨rfl,rfl⟩
 ·have j:=qm (show op≠2 by omega)
  have k:=qm (show op≠24 by omega);have l:=qm (show op≠42 by omega);have m:=qm (show op≠43 by omega);have n:=qm (show op≠50 by omega);have i:=hid (show jW op=(false,false)by unfold jW;rw[if_neg (by omega),if_neg (by omega)]);clear h;go_enter Tryz.func176,Tryz.ntmps176
  go_wp2_with fail
  go_ret2
  exact⟨by rw[i.out];rfl,rfl⟩
theorem qep(op:Int)(w:World):Calls Tryz.prog 151 #[.int .i64 op] w fun e w'=>e= .returned (.bool (kL op))∧w=w':=by
 by_cases h:op=42∨op=43∨op=44
 ·rcases h with rfl|rfl|rfl
  all_goals
   go_enter Tryz.func151,Tryz.ntmps151
   go_wp2_with fail
   go_ret
   exact⟨rfl,rfl⟩
 ·have j:=qm (show op≠42 by omega)
  have k:=qm (show op≠43 by omega);have l:=qm (show op≠44 by omega);have i:=hid (show kL op=false by unfold kL;rw[j,k,l];rfl);clear h;go_enter Tryz.func151,Tryz.ntmps151
  go_wp2_with fail
  go_ret
  exact⟨qn (by rw[i.out];rfl),rfl⟩
def xA:List ByteArray:= [⟨#[105,102]⟩,⟨#[101,108,115,101,105,102]⟩,⟨#[101,108,115,101]⟩,⟨#[101,110,100,105,102]⟩,⟨#[102,111,114]⟩,⟨#[105,110]⟩,⟨#[101,110,100,102,111,114]⟩,⟨#[119,104,105,108,101]⟩,⟨#[101,110,100,119,104,105,108,101]⟩,⟨#[98,114,101,97,107]⟩,⟨#[99,111,110,116,105,110,117,101]⟩,⟨#[114,101,116,117,114,110]⟩,⟨#[102,111,114,107]⟩,⟨#[101,110,100,102,111,114,107]⟩,⟨#[116,114,121]⟩,⟨#[101,120,99,101,112,116]⟩,⟨#[102,105,110,97,108,108,121]⟩,⟨#[101,110,100,116,114,121]⟩,⟨#[97,110,121]⟩]
theorem Qz(x:ByteArray):containsS (xA.take 19) x=zi.contains x:=by
 have i: ∀a b:ByteArray,(a==b)=true↔a=b:=fun a b=>by
  show(a.data==b.data)=true↔a=b
  rw[beq_iff_eq];exact⟨fun e=>by cases a;cases b;simp only at e;rw[e],fun e=>by rw[e]⟩
 have hp:(xA.map (·.data)).Perm (zi.map (·.data)):=List.isPerm_iff.1 (by decide+kernel)
 have j: ∀y,y∈xA↔y∈zi:=by
  intro y;have h1:=hp.mem_iff (a:=y.data)
  have k: ∀l:List ByteArray,y.data∈l.map (·.data)↔y∈l:=by
   intro l;rw[List.mem_map]
   constructor
   ·rintro⟨z,h,e⟩;cases z;cases y;simp only at e;rw[←e];exact h
   ·intro h;exact⟨y,h,rfl⟩
  rw[k,k]at h1;exact h1
 rw[show xA.take 19=xA from rfl,Bool.eq_iff_iff,containsS_iff,List.contains_iff_exists_mem_beq,j]
 constructor
 ·intro h;exact⟨x,h,(i x x).2 rfl⟩
 ·rintro⟨y,h1,h2⟩;rw[(i x y).1 h2];exact h1
theorem qaa(w:World):Calls Tryz.prog 206 #[] w fun e w'=>e= .returned (.slice (some ⟨w.heap.size,0,none⟩) 19 19)∧Below w.heap.size w w'∧ ∀j,j<xA.length→w'.cell? ⟨w.heap.size,0+j,none⟩=some (.string (xA.getD j ByteArray.empty)):=by
 go_enter Tryz.func206,Tryz.ntmps206
 go_wp2_with fail
 go_ret
 refine⟨rfl,(Below.refl _ _).alloc (Nat.le_refl _) _,fun j i=> ?_⟩;have hb:=heap_alloc_new w (.cells #[.string ⟨#[105,102]⟩,.string ⟨#[101,108,115,101,105,102]⟩,.string ⟨#[101,108,115,101]⟩,.string ⟨#[101,110,100,105,102]⟩,.string ⟨#[102,111,114]⟩,.string ⟨#[105,110]⟩,.string ⟨#[101,110,100,102,111,114]⟩,.string ⟨#[119,104,105,108,101]⟩,.string ⟨#[101,110,100,119,104,105,108,101]⟩,.string ⟨#[98,114,101,97,107]⟩,.string ⟨#[99,111,110,116,105,110,117,101]⟩,.string ⟨#[114,101,116,117,114,110]⟩,.string ⟨#[102,111,114,107]⟩,.string ⟨#[101,110,100,102,111,114,107]⟩,.string ⟨#[116,114,121]⟩,.string ⟨#[101,120,99,101,112,116]⟩,.string ⟨#[102,105,110,97,108,108,121]⟩,.string ⟨#[101,110,100,116,114,121]⟩,.string ⟨#[97,110,121]⟩] 9);rw[Nat.zero_add,cell_of_row _ _ j _ _ _ hb];have hj':j<19:=i
 have: ∀j:Fin 19,(#[.string ⟨#[105,102]⟩,.string ⟨#[101,108,115,101,105,102]⟩,.string ⟨#[101,108,115,101]⟩,.string ⟨#[101,110,100,105,102]⟩,.string ⟨#[102,111,114]⟩,.string ⟨#[105,110]⟩,.string ⟨#[101,110,100,102,111,114]⟩,.string ⟨#[119,104,105,108,101]⟩,.string ⟨#[101,110,100,119,104,105,108,101]⟩,.string ⟨#[98,114,101,97,107]⟩,.string ⟨#[99,111,110,116,105,110,117,101]⟩,.string ⟨#[114,101,116,117,114,110]⟩,.string ⟨#[102,111,114,107]⟩,.string ⟨#[101,110,100,102,111,114,107]⟩,.string ⟨#[116,114,121]⟩,.string ⟨#[101,120,99,101,112,116]⟩,.string ⟨#[102,105,110,97,108,108,121]⟩,.string ⟨#[101,110,100,116,114,121]⟩,.string ⟨#[97,110,121]⟩]:Array Value)[j.val]?=some (.string (xA.getD j.val ByteArray.empty)):=by
  intro j
  match j with
  |⟨0,_⟩=>rfl
  |⟨1,_⟩=>rfl
  |⟨2,_⟩=>rfl
  |⟨3,_⟩=>rfl
  |⟨4,_⟩=>rfl
  |⟨5,_⟩=>rfl
  |⟨6,_⟩=>rfl
  |⟨7,_⟩=>rfl
  |⟨8,_⟩=>rfl
  |⟨9,_⟩=>rfl
  |⟨10,_⟩=>rfl
  |⟨11,_⟩=>rfl
  |⟨12,_⟩=>rfl
  |⟨13,_⟩=>rfl
  |⟨14,_⟩=>rfl
  |⟨15,_⟩=>rfl
  |⟨16,_⟩=>rfl
  |⟨17,_⟩=>rfl
  |⟨18,_⟩=>rfl
  |⟨_+19,h⟩=>exact absurd h (by omega)
 exact this ⟨j,hj'⟩
theorem KT(c:UInt8):xn c=decide ((97≤c.toNat∧c.toNat≤122)∨(48≤c.toNat∧c.toNat≤57)∨c.toNat=95):=by
 unfold xn;rw[Bool.eq_iff_iff];simp only[Bool.or_eq_true,Bool.and_eq_true,decide_eq_true_eq,beq_iff_eq,UInt8.le_iff_toNat_le, ←UInt8.toNat_inj]
 constructor
 ·rintro((h|h)|h)
  ·exact .inl h
  ·exact .inr (.inl h)
  ·exact .inr (.inr h)
 ·rintro(h|h|h)
  ·exact .inl (.inl h)
  ·exact .inl (.inr h)
  ·exact .inr h
theorem XG(s:ByteArray)(h:0<s.size):s.data.toList.getD 0 0=s[0]:=by
 rw[List.getD_eq_getElem?_getD,List.getElem?_eq_getElem (by simpa using h)];rfl
theorem qdL(c:UInt8):(decide (48≤c) && decide (c≤57))=decide (48≤c.toNat∧c.toNat≤57):=by
 rw[Bool.eq_iff_iff];simp only[Bool.and_eq_true,decide_eq_true_eq,UInt8.le_iff_toNat_le];exact Iff.rfl
theorem Qt(s:ByteArray)(k:Nat)(hk:k<s.size)(h:xn s[k]=false):zD s=false:=by
 have:s.data.toList.all xn=false:=by
  rw[Bool.eq_false_iff];intro hn;rw[List.all_eq_true]at hn;have:=hn s[k] (by show s.data[k]∈s.data.toList;simp);rw[h]at this;cases this
 unfold zD;rw[this];simp
theorem qfP(s:ByteArray)(h0:1≤s.size)(h1:s.size≤32)(hd: ¬(48≤s[0].toNat∧s[0].toNat≤57))(ha:s.data.toList.all xn=true):zD s= !zi.contains s:=by
 unfold zD;rw[XG s (by omega),qdL,ha,decide_eq_true h0,decide_eq_true h1,decide_eq_false hd];simp
theorem qes(s:ByteArray)(w:World)(hs:s.size≤140737488351232):
 Calls Tryz.prog 177 #[.string s] w fun e w'=>e= .returned (.bool (zD s))∧Below w.heap.size w w':=by
 by_cases h0:s.size<1
 ·have A:=hid (show zD s=false by unfold zD;rw[decide_eq_false (show ¬1≤s.size by omega)];simp)
  have q:(s.size:Int)<1:=by omega
  clear h0;go_enter Tryz.func177,Tryz.ntmps177
  go_wp2_with fail
  go_ret
  exact⟨qw (by rw[A.out]),Below.refl _ _⟩
 by_cases h1:32<s.size
 ·have A:=hid (show zD s=false by unfold zD;rw[decide_eq_false (show ¬s.size≤32 by omega)];simp)
  have q:(32:Int)<s.size:=by omega
  have H: ¬((s.size:Int)<1):=by omega
  clear h0 h1;go_enter Tryz.func177,Tryz.ntmps177
  go_wp2_with fail
  go_ret
  exact⟨qw (by rw[A.out]),Below.refl _ _⟩
 have H: ¬((s.size:Int)<1):=by omega
 have K: ¬((32:Int)<s.size):=by omega
 have I:0<s.size:=by omega
 by_cases hd:48≤s[0].toNat∧s[0].toNat≤57
 ·have A:=hid (show zD s=false by unfold zD;rw[XG s I,qdL,decide_eq_true hd];simp)
  have F:(48:Int)≤(s[0].toNat:Int):=by omega
  have J:(s[0].toNat:Int)≤57:=by omega
  clear h0 h1 hd;go_enter Tryz.func177,Tryz.ntmps177
  go_wp2_with fail
  go_ret
  exact⟨qw (by rw[A.out]),Below.refl _ _⟩
 have B:=hid (qfP s (by omega) (by omega) hd);have E: ¬((48:Int)≤(s[0].toNat:Int))∨((48:Int)≤(s[0].toNat:Int)∧ ¬((s[0].toNat:Int)≤57)):=by omega
 clear h0 h1 hd;rcases E with F|⟨F,J⟩
 ·go_enter Tryz.func177,Tryz.ntmps177
  go_wp2_with fail
  go_loop [25] (fun i=> ∃k:Nat,k≤s.size∧i= .int .i64 k∧Hid ((s.data.toList.take k).all xn=true)) (fun i=>s.size-(RowKit.intOf i).toNat)
  case atStart=>exact⟨0,Nat.zero_le _,rfl,rfl⟩
  case round=>
   obtain⟨k,hk,rfl,j⟩:=hrel;by_cases m:k<s.size
   ·have o:=hid (Q3 s k m)
    have l:=hid (KT s[k]);have n:((s[k].toNat:Int)<97∧(s[k].toNat:Int)<48)∨((s[k].toNat:Int)<97∧48≤(s[k].toNat:Int)∧(s[k].toNat:Int)≤57)∨(((s[k].toNat:Int)<97∧57<(s[k].toNat:Int))∧(s[k].toNat:Int)=95)∨(((s[k].toNat:Int)<97∧57<(s[k].toNat:Int))∧(s[k].toNat:Int)≠95)∨(122<(s[k].toNat:Int))∨(97≤(s[k].toNat:Int)∧(s[k].toNat:Int)≤122):=by omega
    rcases n with⟨g1,t⟩|⟨g1,t,u⟩|⟨⟨g1,t⟩,u⟩|⟨⟨g1,t⟩,u⟩|g1|⟨g1,t⟩
    ·have v:=qU (show(s[k].toNat:Int)≠95 by omega)
     go_wp2_with fail
     go_ret
     exact⟨qw (Qt s k m (by rw[l.out];exact decide_eq_false (by omega))).symm,Below.refl _ _⟩
    ·have v: ¬((s[k].toNat:Int)<48):=by omega
     have x: ¬(57<(s[k].toNat:Int)):=by omega
     go_wp2_with fail
     refine⟨⟨k+1,by omega,by go_num,?_⟩,by simp[RowKit.intOf];omega⟩;show List.all _ xn=true
     rw[o.out,List.all_append,j.out,List.all_cons,l.out,decide_eq_true (by omega)];rfl
    ·have x: ¬((s[k].toNat:Int)<48):=by omega
     have v:((s[k].toNat:Int) !=95)=false:=by rw[u];rfl
     go_wp2_with fail
     refine⟨⟨k+1,by omega,by go_num,?_⟩,by simp[RowKit.intOf];omega⟩;show List.all _ xn=true
     rw[o.out,List.all_append,j.out,List.all_cons,l.out,decide_eq_true (by omega)];rfl
    ·have x: ¬((s[k].toNat:Int)<48):=by omega
     have v:=qU u;go_wp2_with fail
     go_ret
     exact⟨qw (Qt s k m (by rw[l.out];exact decide_eq_false (by omega))).symm,Below.refl _ _⟩
    ·have x: ¬((s[k].toNat:Int)<97):=by omega
     have D: ¬((s[k].toNat:Int)<48):=by omega
     have G:57<(s[k].toNat:Int):=by omega
     have v:=qU (show(s[k].toNat:Int)≠95 by omega);go_wp2_with fail
     go_ret
     exact⟨qw (Qt s k m (by rw[l.out];exact decide_eq_false (by omega))).symm,Below.refl _ _⟩
    ·have x: ¬((s[k].toNat:Int)<97):=by omega
     have D: ¬(122<(s[k].toNat:Int)):=by omega
     go_wp2_with fail
     refine⟨⟨k+1,by omega,by go_num,?_⟩,by simp[RowKit.intOf];omega⟩;show List.all _ xn=true
     rw[o.out,List.all_append,j.out,List.all_cons,l.out,decide_eq_true (by omega)];rfl
   ·obtain rfl:k=s.size:=by omega
    have C:=hid (show zD s= !zi.contains s from B.out (by have:=j.out;rw[List.take_of_length_le (by simp)]at this;exact this));clear B j;go_wp2_with fail
    refine(qaa w).mono ?_;rintro e w2 ⟨rfl,p,r⟩;have y:=hid p;have z:=hid (Tryz.slices_Contains_string w.heap.size 0 19 19 xA s w2 (by decide) (by decide) r);rw[Qz]at z;clear p r;go_wp2_with fail
    refine z.out.mono ?_;rintro e w3 ⟨rfl,rfl⟩;go_wp2_with fail
    go_ret
    exact⟨qw C.out.symm,y.out⟩
 ·go_enter Tryz.func177,Tryz.ntmps177
  go_wp2_with fail
  go_loop [25] (fun i=> ∃k:Nat,k≤s.size∧i= .int .i64 k∧Hid ((s.data.toList.take k).all xn=true)) (fun i=>s.size-(RowKit.intOf i).toNat)
  case atStart=>exact⟨0,Nat.zero_le _,rfl,rfl⟩
  case round=>
   obtain⟨k,hk,rfl,j⟩:=hrel;by_cases m:k<s.size
   ·have o:=hid (Q3 s k m)
    have l:=hid (KT s[k]);have n:((s[k].toNat:Int)<97∧(s[k].toNat:Int)<48)∨((s[k].toNat:Int)<97∧48≤(s[k].toNat:Int)∧(s[k].toNat:Int)≤57)∨(((s[k].toNat:Int)<97∧57<(s[k].toNat:Int))∧(s[k].toNat:Int)=95)∨(((s[k].toNat:Int)<97∧57<(s[k].toNat:Int))∧(s[k].toNat:Int)≠95)∨(122<(s[k].toNat:Int))∨(97≤(s[k].toNat:Int)∧(s[k].toNat:Int)≤122):=by omega
    rcases n with⟨g1,t⟩|⟨g1,t,u⟩|⟨⟨g1,t⟩,u⟩|⟨⟨g1,t⟩,u⟩|g1|⟨g1,t⟩
    ·have v:=qU (show(s[k].toNat:Int)≠95 by omega)
     go_wp2_with fail
     go_ret
     exact⟨qw (Qt s k m (by rw[l.out];exact decide_eq_false (by omega))).symm,Below.refl _ _⟩
    ·have v: ¬((s[k].toNat:Int)<48):=by omega
     have x: ¬(57<(s[k].toNat:Int)):=by omega
     go_wp2_with fail
     refine⟨⟨k+1,by omega,by go_num,?_⟩,by simp[RowKit.intOf];omega⟩;show List.all _ xn=true
     rw[o.out,List.all_append,j.out,List.all_cons,l.out,decide_eq_true (by omega)];rfl
    ·have x: ¬((s[k].toNat:Int)<48):=by omega
     have v:((s[k].toNat:Int) !=95)=false:=by rw[u];rfl
     go_wp2_with fail
     refine⟨⟨k+1,by omega,by go_num,?_⟩,by simp[RowKit.intOf];omega⟩;show List.all _ xn=true
     rw[o.out,List.all_append,j.out,List.all_cons,l.out,decide_eq_true (by omega)];rfl
    ·have x: ¬((s[k].toNat:Int)<48):=by omega
     have v:=qU u;go_wp2_with fail
     go_ret
     exact⟨qw (Qt s k m (by rw[l.out];exact decide_eq_false (by omega))).symm,Below.refl _ _⟩
    ·have x: ¬((s[k].toNat:Int)<97):=by omega
     have D: ¬((s[k].toNat:Int)<48):=by omega
     have G:57<(s[k].toNat:Int):=by omega
     have v:=qU (show(s[k].toNat:Int)≠95 by omega);go_wp2_with fail
     go_ret
     exact⟨qw (Qt s k m (by rw[l.out];exact decide_eq_false (by omega))).symm,Below.refl _ _⟩
    ·have x: ¬((s[k].toNat:Int)<97):=by omega
     have D: ¬(122<(s[k].toNat:Int)):=by omega
     go_wp2_with fail
     refine⟨⟨k+1,by omega,by go_num,?_⟩,by simp[RowKit.intOf];omega⟩;show List.all _ xn=true
     rw[o.out,List.all_append,j.out,List.all_cons,l.out,decide_eq_true (by omega)];rfl
   ·obtain rfl:k=s.size:=by omega
    have C:=hid (show zD s= !zi.contains s from B.out (by have:=j.out;rw[List.take_of_length_le (by simp)]at this;exact this));clear B j;go_wp2_with fail
    refine(qaa w).mono ?_;rintro e w2 ⟨rfl,p,r⟩;have y:=hid p;have z:=hid (Tryz.slices_Contains_string w.heap.size 0 19 19 xA s w2 (by decide) (by decide) r);rw[Qz]at z;clear p r;go_wp2_with fail
    refine z.out.mono ?_;rintro e w3 ⟨rfl,rfl⟩;go_wp2_with fail
    go_ret
    exact⟨qw C.out.symm,y.out⟩
def NL.i64:NL→Prop
 | .nil=>True
 | .cons _ _ _ k n t v sub r=>(zv k n t v).i64∧sub.i64∧r.i64
end Go.Proofs.YtggngahmafbihaaGreatDoor
