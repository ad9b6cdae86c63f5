/- Contracts, and the plain mathematics beneath. -/
import Derived.Stop.Asserts
import Derived.Test.YtggngahmafbihaaGreatDoorPerAY
import Derived.Test.YtggngahmafbihaaGreatDoorPerAJ
set_option linter.unusedVariables false
set_option linter.unusedSimpArgs false
set_option maxRecDepth 100000
set_option maxHeartbeats 8000000
namespace Go.Proofs.YtggngahmafbihaaGreatDoor
open Go.RowKit Go.Lib
def Jd(i j:Nat)(line:Int):Nat ⊕ ByteArray→WR
 | .inl e=> .bad e
 | .inr t=> .word (j-i) ⟨3,line,⟨#[]⟩,2,0,t⟩
def Xh(s:ByteArray)(i:Nat)(line:Int):Option Nat→WR
 |none=> .bad 111
 |some j=>Jd i j line (xH (s.extract i j))
def JG(s:ByteArray)(i:Nat)(line:Int):WR:=Xh s i line (zA s (s.size+1) (i+1))
theorem J8{s:ByteArray}{i:Nat}{line:Int}(h:pk s i=34):zb s i line=JG s i line:=by
 have h1:zk (34:UInt8)=false:=by decide
 have h2:qt (34:UInt8)=false:=by decide
 have h3:zz (34:UInt8)=false:=by decide
 have h4: ¬(34:UInt8)=35:=by decide
 unfold zb JG;simp only[h,h1,h2,h3,h4,Bool.false_eq_true,if_false,if_true]
 cases zA s (s.size+1) (i+1)with
 |none=>rfl
 |some j=>unfold Xh Jd;simp only;cases xH (s.extract i j)<;>rfl
theorem qeS{sub:ByteArray}(h:pk sub 0=34):Zx sub=((ze sub 0).1,(ze sub 0).2.1,zv 2 0 ⟨(ze sub 0).2.2.toArray⟩ .nil):=by
 have h2: ¬(34:UInt8)=35:=by decide
 have h3: ¬((34:UInt8)=45∨qt 34=true):=by decide
 unfold Zx;rw[show 2*sub.size+2=(2*sub.size+1)+1 from rfl,qI];simp only[h,h2,h3,if_false,if_true]
theorem Je{sub:ByteArray}(b:pk sub 0=34)(h0:0<sub.size):
 (Qb sub∧xH sub= .inl 111)∨ ∃t,¬Qb sub∧(Zx sub).2.2=zv 2 0 t .nil∧((qM 2 0 t .nil 1 4096).1=104∧xH sub= .inl 105∨(qM 2 0 t .nil 1 4096).1=0∧xH sub= .inr t):=by
 have hv:=qeS b;by_cases hb:(ze sub 0).2.1=true∧sub.size≤(ze sub 0).1
 ·refine .inr ⟨⟨(ze sub 0).2.2.toArray⟩,?_,by rw[hv],?_⟩
  ·unfold Qb;rw[hv];exact fun h=>h hb
  ·have hp:zY (ze sub 0).2.2=true:=by
    refine(qbS (s:=sub) (i:=0) (j:=(ze sub 0).1) (l:=(ze sub 0).2.2) h0 b ?_).2;rw[←hb.1]
   have hm:xR 2 ⟨(ze sub 0).2.2.toArray⟩=((ze sub 0).2.2.length:Int):=by
    unfold xR;rw[if_pos rfl]
    congr 1
   have c:qH 2 0 ⟨(ze sub 0).2.2.toArray⟩ VL.nil.len=0:=by
    have:VL.nil.len=0:=rfl;unfold qH;simp[hp,this]
   unfold qM xH;simp only;rw[if_pos hb,hm,if_neg (by decide)];by_cases a:4096≤(ze sub 0).2.2.length
   ·rw[if_pos (by omega),if_pos a];exact .inl ⟨rfl,rfl⟩
   ·rw[if_neg (by omega),if_neg a,if_pos c];exact .inr ⟨rfl,rfl⟩
 ·refine .inl ⟨?_,?_⟩
  ·unfold Qb;rw[hv];exact hb
  ·unfold xH;simp only;rw[if_neg hb]
def qgK(ea:Nat→Addr)(r:Nat ⊕ ByteArray)(W:World)(e:Ending)(w':World):Prop:=
 Below W.heap.size W w'∧match r with
 | .inr t=> ∃(sa:Option Addr)(sc:Nat),e= .returned (.tuple #[.agg #[.int .i64 2,.int .i64 0,.string t,.slice sa 0 sc],.nilIface])
 | .inl c=>if c=105 then e= .returned (.tuple #[.agg #[.int .i64 0,.int .i64 0,.string ⟨#[]⟩,.slice none 0 0],.iface 270 (.pointer (some (ea 104)))])
  else c=111∧ ∃A:Nat,e= .returned (.tuple #[.agg #[.int .i64 0,.int .i64 0,.string ⟨#[]⟩,.slice none 0 0],.iface 70 (.pointer (some ⟨A,0,none⟩))])
theorem qbE(sub:ByteArray)(ea:Nat→Addr)(W:World)(i:ErrsAt W ea)(hs:sub.size≤1000000000)(f:pk sub 0=34)(h0:0<sub.size):Calls Tryz.prog 123 #[.string sub] W (qgK ea (xH sub) W):=by
 refine(qgv sub ea W i hs).mono ?_;rintro e w' ⟨hb,hr⟩;refine⟨hb,?_⟩;rcases Je f h0 with⟨d,g⟩|⟨t,b,hv,g⟩
 ·rw[g]
  rcases hr with⟨_,A,_,_,h4⟩|⟨h,_⟩
  ·simp only;rw[if_neg (by decide)];exact⟨trivial,A,h4⟩
  ·exact absurd d h
 ·rcases hr with⟨h,_⟩|⟨_,k,n,t',j,h2,h3⟩
  ·exact absurd h b
  ·rw[hv]at h2
   unfold zv at h2;injection h2 with a1 a2 a3 a4 _
   subst a1;subst a2;subst a3;subst a4;rcases g with⟨a,c⟩|⟨a,c⟩
   ·rw[c]
    rcases h3 with⟨_,h5⟩|⟨h4,_⟩
    ·simp only;rw[if_pos trivial,h5,a];rfl
    ·rw[a]at h4;cases h4
   ·rw[c]
    rcases h3 with⟨h4,_⟩|⟨_,sa,sc,_,_,h5⟩
    ·exact absurd a h4
    ·exact⟨sa,sc,h5⟩
theorem LxRes.mkBad2{ea:Nat→Addr}{R c z:Nat}{s:ByteArray}{i:Nat}{line:Int}{l:List Tok}{r:WR}{w a:World}(hr:r= .bad c)(hb:Below R w a)(b:R≤z)(hz:a.heap.size=z):
 LxRes ea R s i line l r w (.returned (.iface 70 (.pointer (some ⟨z,0,none⟩)))) (a.alloc (.cells #[.int .i64 line,.iface 270 (.pointer (some (ea c)))] 73)):=by
 subst hz;exact LxRes.mkBad hr hb b
theorem ZM{wq W:World}{R:Nat}{a b:Value}(c:R<wq.heap.size)(h:W.cell? ⟨R,0,none⟩=some a∧W.cell? ⟨R,1,none⟩=some b∧Below wq.heap.size wq W)(k:Nat)(u:Value):
 (W.setCell ⟨wq.heap.size,k,none⟩ u).cell? ⟨R,0,none⟩=some a∧(W.setCell ⟨wq.heap.size,k,none⟩ u).cell? ⟨R,1,none⟩=some b∧Below wq.heap.size wq (W.setCell ⟨wq.heap.size,k,none⟩ u):=by
 have hb: ∀o,(W.setCell ⟨wq.heap.size,k,none⟩ u).cell? ⟨R,o,none⟩=W.cell? ⟨R,o,none⟩:=fun o=>World.cell?_of_block (w:=W) (Below.heap_setCell W _ u R (by show R≠wq.heap.size;omega));exact⟨(hb 0).trans h.1,(hb 1).trans h.2.1,h.2.2.setCell (Nat.le_refl _) u⟩
theorem QM{wq e:World}{a b c d:Value}(h:Below ((wq.alloc (.cells #[a,b,c,d] 28)).drew).heap.size ((wq.alloc (.cells #[a,b,c,d] 28)).drew) e):StB e wq.heap.size a b c d:=
 StB.below (w:=(wq.alloc (.cells #[a,b,c,d] 28)).drew) (StB.new wq a b c d) h (by show wq.heap.size<(wq.alloc _).heap.size;simp)
theorem qhc(R:Nat)(s:ByteArray)(i:Nat)(line:Int)(l:List Tok)(ea:Nat→Addr)(w:World)(h:LxSt w R s i line l)(he:LxEnv w ea)(hi:i<s.size)(hs:s.size≤1000000000)(hR:24≤R)(h34:pk s i=34):
 Calls Tryz.prog 80 #[.pointer (some ⟨R,0,none⟩)] w (LxRes ea R s i line l (JG s i line) w):=by
 have d:=h.lt;obtain⟨v,L,ha,_⟩:=id h;obtain⟨r,hr⟩: ∃r,r=JG s i line:=⟨_,rfl⟩
 obtain⟨Q,hQ⟩: ∃Q,Q=zA s (s.size+1) (i+1):=⟨_,rfl⟩
 have HR:Hid (r=Xh s i line Q):=by rw[hr,hQ];rfl
 rw[←hr];have hc0:=ha.c0;have hc1:=ha.c1;have HH:=hid h;have T:=hid ha;have D:=hid he;have HQ0:=hid hQ;have H34:=hid h34;have HI:=hid hi;have e1:=he.err.syn;obtain⟨ii,hii,hiic⟩:=xM (P:=Tryz.prog) (t:=270) (f:=fun i=>i.comparable) (b:=true) (by kernel_rfl);obtain⟨jj,hjj,hjjc⟩:=xM (P:=Tryz.prog) (t:=272) (f:=fun i=>i.size) (b:=1) (by kernel_rfl);have EQS:=hid (fun W=>run_eql_iface_ptr_same (P:=Tryz.prog) (ti:=33) W (ea 104) Tryz.underlying33 Tryz.underlying270 hii hiic hjj);have EQT:=hid (fun W (A:Nat)=>run_eql_iface_types (P:=Tryz.prog) (ti:=33) 70 270 (.pointer (some ⟨A,0,none⟩)) (.pointer (some (ea 104))) Tryz.underlying33 (by decide) W);clear hr h he ha hQ h34 hii hiic hjj hjjc;go_enter Tryz.func80,Tryz.ntmps80
 go_wp2_with fail
 go_loopg [3] (s.size+1) (fun k nv wr=> ∃n m:Nat,nv= .int .i64 (n:Int)∧1≤n∧i+n≤s.size+1∧s.size+2≤n+k∧wr=w.drewN m∧Hid (zA s k (i+n)=Q))
 case atStart=>exact⟨1,0,rfl,by omega,by omega,by omega,rfl,HQ0.out.symm⟩
 case round=>
  obtain⟨n,m,rfl,hn1,hn2,hk,rfl,hq⟩:=hrel;have g1:IntKind.i64.wrap ((i:Int)+(n:Int))=(i:Int)+(n:Int):=IntWalk.i64_in _ (by omega);have g2:(0:Int)≤(i:Int)+(n:Int):=by omega
  have g3:((i:Int)+(n:Int)).toNat=i+n:=by omega
  by_cases hin:i+n<s.size
  ·have hd1:decide ((s.size:Int)≤(i:Int)+(n:Int))=false:=by simp;omega
   have hdy:(i:Int)+(n:Int)<(s.size:Int):=by omega
   obtain⟨c,hc⟩: ∃c,c=s[i+n]'hin:=⟨_,rfl⟩
   have H:pk s (i+n)=c:=by rw[hc];exact qK s (i+n) hin
   obtain⟨k,rfl⟩: ∃k,gk=k+1:=⟨gk-1,by omega⟩
   by_cases G:Qa c=true
   ·have hpr2:32≤c.toNat∧c.toNat≤126:=of_decide_eq_true G
    have Z:decide (((s[i+n]'hin).toNat:Int)<32)=false:=by rw[←hc];simp;omega
    have hb2:decide ((126:Int)<((s[i+n]'hin).toNat:Int))=false:=by rw[←hc];simp;omega
    have hqs:zA s (k+1) (i+n)=if c=34 then some (i+n+1)else if c=92 then zA s k (i+n+2)else zA s k (i+n+1):=by
     rw[zA,if_pos ⟨hin,by rw[H];exact G⟩,H]
    have S:=hqs.symm.trans hq.out;by_cases F:c=34
    ·have HQ:Hid (Q=some (i+n+1)):=by rw[←S,if_pos F];rfl
     have ht1:(((s[i+n]'hin).toNat:Int)==34)=true:=by rw[←hc,F];rfl
     obtain⟨sub,I⟩: ∃sub,sub=s.extract i (i+(n+1)):=⟨_,rfl⟩
     have hr2:r=Jd i (i+(n+1)) line (xH sub):=by
      rw[HR.out,HQ.out,I,show i+n+1=i+(n+1)from by omega];rfl
     have hsz:sub.size=n+1:=by rw[I,ByteArray.size_extract];omega
     have hs34:pk sub 0=34:=by rw[I,XZ s (n+1) i (by omega) (by omega)];exact H34.out
     have V:=hid hr2;have HS:=hid I;have g4:IntKind.i64.wrap ((i:Int)+((n:Int)+1))=(i:Int)+((n:Int)+1):=IntWalk.i64_in _ (by omega);have g5:(0:Int)≤(i:Int)+((n:Int)+1):=by omega
     have g6:((i:Int)+((n:Int)+1)).toNat=i+(n+1):=by omega
     have g7:(i:Int)≤(i:Int)+((n:Int)+1):=by omega
     have g8:(i:Int)+((n:Int)+1)≤(s.size:Int):=by omega
     have RC:=fun W (hW:ErrsAt W ea)=>qbE sub ea W hW (by omega) hs34 (by omega)
     have K: ∀c,xH sub= .inl c→c=105∨c=111:=by
      intro c E;rcases Je hs34 (by omega)with⟨_,N⟩|⟨t,_,_,⟨_,N⟩|⟨_,N⟩⟩
      ·rw[N]at E;injection E with E;exact .inr E.symm
      ·rw[N]at E;injection E with E;exact .inl E.symm
      ·rw[N]at E;cases E
     clear hq hqs S G F H hc hr2 hsz hs34 I
     cases N:xH sub with
     |inl c=>
      rw[N]at RC;have U:=hid (V.out.trans (show _=WR.bad c by rw[N];rfl));rcases K c N with rfl|rfl
      ·clear K N V
       go_wp2_with fail
       go_quiet (fail)
       go_wp2_with fail
       go_quiet (fail)
       go_wp2_with fail
       generalize J:World.drewN _ _=wq;have g:Below w.heap.size w wq:=by rw[←J];exact⟨rfl,rfl,rfl,Nat.le_refl _,fun _ _=>rfl⟩
       have y:=T.out.below g d;have q0:=y.c0;have q1:=y.c1;have hqz:=g.size;have hroom:24<wq.heap.size:=by omega
       have Y:=hid (fun W (h:W.cell? ⟨R,0,none⟩=some (.string s)∧W.cell? ⟨R,1,none⟩=some (.int .i64 i)∧Below wq.heap.size wq W)=>(RC W (D.out.err.below (g.trans (qc h.2.2 g.size)) (by omega))).mono (R':=fun e W'=>(e= .returned (.tuple #[.agg #[.int .i64 0,.int .i64 0,.string ⟨#[]⟩,.slice none 0 0],.iface 270 (.pointer (some (ea 104)))]))∧Below W.heap.size W W'∧(W'.cell? ⟨R,0,none⟩=some (.string s)∧W'.cell? ⟨R,1,none⟩=some (.int .i64 i)∧Below wq.heap.size wq W')) fun e W' ⟨h1,h2⟩=>
        have hz:R<W.heap.size:=Nat.lt_of_lt_of_le (Nat.lt_of_lt_of_le d g.size) h.2.2.size
        ⟨by simpa using h2,h1,qx h1 h.1 hz,qx h1 h.2.1 hz,h.2.2.trans (qc h1 h.2.2.size)⟩)
       have KA:=hid (fun W o (h:W.cell? ⟨R,0,none⟩=some (.string s)∧W.cell? ⟨R,1,none⟩=some (.int .i64 i)∧Below wq.heap.size wq W)=>
        have hz:R<W.heap.size:=Nat.lt_of_lt_of_le (Nat.lt_of_lt_of_le d g.size) h.2.2.size
        (⟨qx ((Below.refl W.heap.size W).alloc (Nat.le_refl _) o) h.1 hz,qx ((Below.refl W.heap.size W).alloc (Nat.le_refl _) o) h.2.1 hz,h.2.2.alloc h.2.2.size o⟩:(W.alloc o).cell? ⟨R,0,none⟩=some (.string s)∧(W.alloc o).cell? ⟨R,1,none⟩=some (.int .i64 i)∧Below wq.heap.size wq (W.alloc o)))
       have K0:wq.drew.cell? ⟨R,0,none⟩=some (.string s)∧wq.drew.cell? ⟨R,1,none⟩=some (.int .i64 i)∧Below wq.heap.size wq wq.drew:=⟨q0,q1,(Below.refl _ _).drew⟩
       have X:=hid (fun o:Obj=>(have hh:=KA.out wq o ⟨q0,q1,Below.refl _ _⟩;⟨hh.1,hh.2.1,hh.2.2.drew⟩:(wq.alloc o).drew.cell? ⟨R,0,none⟩=some (.string s)∧(wq.alloc o).drew.cell? ⟨R,1,none⟩=some (.int .i64 i)∧Below wq.heap.size wq (wq.alloc o).drew));have KS:=hid (fun(W:World)(k:Nat)(u:Value) (h:W.cell? ⟨R,0,none⟩=some (.string s)∧W.cell? ⟨R,1,none⟩=some (.int .i64 i)∧Below wq.heap.size wq W)=>(ZM (show R<wq.heap.size by omega) h k u:(W.setCell ⟨wq.heap.size,k,none⟩ u).cell? ⟨R,0,none⟩=some (.string s)∧(W.setCell ⟨wq.heap.size,k,none⟩ u).cell? ⟨R,1,none⟩=some (.int .i64 i)∧Below wq.heap.size wq (W.setCell ⟨wq.heap.size,k,none⟩ u)));have j:=hid g;rw[HS.out]at Y;have HN:=hid (show 1≤n∧i+(n+1)≤s.size from⟨hn1,by omega⟩);clear J g y RC g1 Z hb2 ht1 hd1 hk e1 hc0 hc1
       go_region_held3 (fun W=>W.cell? ⟨R,0,none⟩=some (.string s)∧W.cell? ⟨R,1,none⟩=some (.int .i64 i)∧Below wq.heap.size wq W)
        (first|(with_reducible assumption)|(with_reducible exact K0)|(with_reducible exact X.out _)|((with_reducible refine KA.out _ _ ?_);with_reducible assumption)|((repeat (with_reducible refine KS.out _ _ _ ?_));with_reducible assumption))
        (first
         |(go_at_call 123;refine(Y.out _ ?_).mono ?_;(with_reducible assumption);rintro e p ⟨rfl,C,x⟩
           (with_reducible (have hz:=QM C))
           have z0:=hz.c0;have z1:=hz.c1;have z2:=hz.c2;have z3:=hz.c3;have y0:=hz.fr 0;have y1:=hz.fr 1;have y2:=hz.fr 2;have y3:=hz.fr 3)
         |(go_at_call 123;refine(Y.out _ ?_).mono ?_;(with_reducible assumption);rintro e p ⟨rfl,C,x⟩))
       all_goals
        have a:=hid (j.out.trans (qc x.2.2 j.out.size));have hz5:=x.2.2.size;have hz55:=a.out.size;have ee1:=(D.out.err.below a.out (by omega)).syn;have ee2:=(D.out.err.below a.out (by omega)).range;have ee3:=(D.out.err.below a.out (by omega)).many;have gg1:=fun o=>((D.out.err.below a.out (by omega)).below ((Below.refl p.heap.size p).alloc (Nat.le_refl _) o) (by omega)).syn;have gg2:=fun o=>((D.out.err.below a.out (by omega)).below ((Below.refl p.heap.size p).alloc (Nat.le_refl _) o) (by omega)).range;have gg3:=fun o=>((D.out.err.below a.out (by omega)).below ((Below.refl p.heap.size p).alloc (Nat.le_refl _) o) (by omega)).many;have M:24<p.heap.size:=by omega
        have q:=T.out.below a.out d;have a0:=q.c0;have a1:=q.c1;have a2:=q.c2;clear x C q K0;have eqs:=EQS.out;go_wp2_with fail
        refine(zK R s i line v _ _ ?_).mono ?_
        ·exact T.out.below (by repeat (first|exact a.out|refine Below.drew ?_|refine Below.setCell ?_ (by first|exact j.out.size|(simp;omega)) _|refine Below.alloc ?_ (by first|exact a.out.size|omega|(simp;omega)) _)) d
        rintro e w7 ⟨rfl,rfl⟩;go_wp2_with fail
        go_ret
        first
         |(refine LxRes.mkBad2 (z:=p.heap.size) U.out ?_ ?_ ?_
           ·exact qc (B:=w.heap.size) (by repeat (first|exact a.out|refine Below.drew ?_|refine Below.setCell ?_ (by first|exact j.out.size|(simp;omega)) _|refine Below.alloc ?_ (by first|exact a.out.size|omega|(simp;omega)) _)) (Nat.le_of_lt d)
           ·exact Nat.le_trans (Nat.le_of_lt d) (by omega)
           ·first|rfl|simp[World.setCell])
         |(refine LxRes.mkBad2 (z:=p.heap.size+1) U.out ?_ ?_ ?_
           ·exact qc (B:=w.heap.size) (by repeat (first|exact a.out|refine Below.drew ?_|refine Below.setCell ?_ (by first|exact j.out.size|(simp;omega)) _|refine Below.alloc ?_ (by first|exact a.out.size|omega|(simp;omega)) _)) (Nat.le_of_lt d)
           ·exact Nat.le_trans (Nat.le_of_lt d) (by omega)
           ·first|rfl|simp)
      ·clear K N V
       go_wp2_with fail
       go_quiet (fail)
       go_wp2_with fail
       go_quiet (fail)
       go_wp2_with fail
       generalize J:World.drewN _ _=wq;have g:Below w.heap.size w wq:=by rw[←J];exact⟨rfl,rfl,rfl,Nat.le_refl _,fun _ _=>rfl⟩
       have y:=T.out.below g d;have q0:=y.c0;have q1:=y.c1;have hqz:=g.size;have hroom:24<wq.heap.size:=by omega
       have Y:=hid (fun W (h:W.cell? ⟨R,0,none⟩=some (.string s)∧W.cell? ⟨R,1,none⟩=some (.int .i64 i)∧Below wq.heap.size wq W)=>(RC W (D.out.err.below (g.trans (qc h.2.2 g.size)) (by omega))).mono (R':=fun e W'=>(∃A:Nat,e= .returned (.tuple #[.agg #[.int .i64 0,.int .i64 0,.string ⟨#[]⟩,.slice none 0 0],.iface 70 (.pointer (some ⟨A,0,none⟩))]))∧Below W.heap.size W W'∧(W'.cell? ⟨R,0,none⟩=some (.string s)∧W'.cell? ⟨R,1,none⟩=some (.int .i64 i)∧Below wq.heap.size wq W')) fun e W' ⟨h1,h2⟩=>
        have hz:R<W.heap.size:=Nat.lt_of_lt_of_le (Nat.lt_of_lt_of_le d g.size) h.2.2.size
        ⟨by simpa using h2,h1,qx h1 h.1 hz,qx h1 h.2.1 hz,h.2.2.trans (qc h1 h.2.2.size)⟩)
       have KA:=hid (fun W o (h:W.cell? ⟨R,0,none⟩=some (.string s)∧W.cell? ⟨R,1,none⟩=some (.int .i64 i)∧Below wq.heap.size wq W)=>
        have hz:R<W.heap.size:=Nat.lt_of_lt_of_le (Nat.lt_of_lt_of_le d g.size) h.2.2.size
        (⟨qx ((Below.refl W.heap.size W).alloc (Nat.le_refl _) o) h.1 hz,qx ((Below.refl W.heap.size W).alloc (Nat.le_refl _) o) h.2.1 hz,h.2.2.alloc h.2.2.size o⟩:(W.alloc o).cell? ⟨R,0,none⟩=some (.string s)∧(W.alloc o).cell? ⟨R,1,none⟩=some (.int .i64 i)∧Below wq.heap.size wq (W.alloc o)))
       have K0:wq.drew.cell? ⟨R,0,none⟩=some (.string s)∧wq.drew.cell? ⟨R,1,none⟩=some (.int .i64 i)∧Below wq.heap.size wq wq.drew:=⟨q0,q1,(Below.refl _ _).drew⟩
       have X:=hid (fun o:Obj=>(have hh:=KA.out wq o ⟨q0,q1,Below.refl _ _⟩;⟨hh.1,hh.2.1,hh.2.2.drew⟩:(wq.alloc o).drew.cell? ⟨R,0,none⟩=some (.string s)∧(wq.alloc o).drew.cell? ⟨R,1,none⟩=some (.int .i64 i)∧Below wq.heap.size wq (wq.alloc o).drew));have KS:=hid (fun(W:World)(k:Nat)(u:Value) (h:W.cell? ⟨R,0,none⟩=some (.string s)∧W.cell? ⟨R,1,none⟩=some (.int .i64 i)∧Below wq.heap.size wq W)=>(ZM (show R<wq.heap.size by omega) h k u:(W.setCell ⟨wq.heap.size,k,none⟩ u).cell? ⟨R,0,none⟩=some (.string s)∧(W.setCell ⟨wq.heap.size,k,none⟩ u).cell? ⟨R,1,none⟩=some (.int .i64 i)∧Below wq.heap.size wq (W.setCell ⟨wq.heap.size,k,none⟩ u)));have j:=hid g;rw[HS.out]at Y;have HN:=hid (show 1≤n∧i+(n+1)≤s.size from⟨hn1,by omega⟩);clear J g y RC g1 Z hb2 ht1 hd1 hk e1 hc0 hc1
       go_region_held3 (fun W=>W.cell? ⟨R,0,none⟩=some (.string s)∧W.cell? ⟨R,1,none⟩=some (.int .i64 i)∧Below wq.heap.size wq W)
        (first|(with_reducible assumption)|(with_reducible exact K0)|(with_reducible exact X.out _)|((with_reducible refine KA.out _ _ ?_);with_reducible assumption)|((repeat (with_reducible refine KS.out _ _ _ ?_));with_reducible assumption))
        (first
         |(go_at_call 123;refine(Y.out _ ?_).mono ?_;(with_reducible assumption);rintro e p ⟨⟨A,rfl⟩,C,x⟩
           (with_reducible (have hz:=QM C))
           have z0:=hz.c0;have z1:=hz.c1;have z2:=hz.c2;have z3:=hz.c3;have y0:=hz.fr 0;have y1:=hz.fr 1;have y2:=hz.fr 2;have y3:=hz.fr 3)
         |(go_at_call 123;refine(Y.out _ ?_).mono ?_;(with_reducible assumption);rintro e p ⟨⟨A,rfl⟩,C,x⟩))
       all_goals
        have a:=hid (j.out.trans (qc x.2.2 j.out.size));have hz5:=x.2.2.size;have hz55:=a.out.size;have ee1:=(D.out.err.below a.out (by omega)).syn;have ee2:=(D.out.err.below a.out (by omega)).range;have ee3:=(D.out.err.below a.out (by omega)).many;have gg1:=fun o=>((D.out.err.below a.out (by omega)).below ((Below.refl p.heap.size p).alloc (Nat.le_refl _) o) (by omega)).syn;have gg2:=fun o=>((D.out.err.below a.out (by omega)).below ((Below.refl p.heap.size p).alloc (Nat.le_refl _) o) (by omega)).range;have gg3:=fun o=>((D.out.err.below a.out (by omega)).below ((Below.refl p.heap.size p).alloc (Nat.le_refl _) o) (by omega)).many;have M:24<p.heap.size:=by omega
        have q:=T.out.below a.out d;have a0:=q.c0;have a1:=q.c1;have a2:=q.c2;clear x C q K0;have eqs:=fun W=>EQT.out W A;go_wp2_with fail
        refine(zK R s i line v _ _ ?_).mono ?_
        ·exact T.out.below (by repeat (first|exact a.out|refine Below.drew ?_|refine Below.setCell ?_ (by first|exact j.out.size|(simp;omega)) _|refine Below.alloc ?_ (by first|exact a.out.size|omega|(simp;omega)) _)) d
        rintro e w7 ⟨rfl,rfl⟩;go_wp2_with fail
        go_ret
        first
         |(refine LxRes.mkBad2 (z:=p.heap.size) U.out ?_ ?_ ?_
           ·exact qc (B:=w.heap.size) (by repeat (first|exact a.out|refine Below.drew ?_|refine Below.setCell ?_ (by first|exact j.out.size|(simp;omega)) _|refine Below.alloc ?_ (by first|exact a.out.size|omega|(simp;omega)) _)) (Nat.le_of_lt d)
           ·exact Nat.le_trans (Nat.le_of_lt d) (by omega)
           ·first|rfl|simp[World.setCell])
         |(refine LxRes.mkBad2 (z:=p.heap.size+1) U.out ?_ ?_ ?_
           ·exact qc (B:=w.heap.size) (by repeat (first|exact a.out|refine Below.drew ?_|refine Below.setCell ?_ (by first|exact j.out.size|(simp;omega)) _|refine Below.alloc ?_ (by first|exact a.out.size|omega|(simp;omega)) _)) (Nat.le_of_lt d)
           ·exact Nat.le_trans (Nat.le_of_lt d) (by omega)
           ·first|rfl|simp)
     |inr tx=>
      rw[N]at RC;have U:=hid (V.out.trans (show _=WR.word (n+1) ⟨3,line,⟨#[]⟩,2,0,tx⟩by rw[N];unfold Jd;simp only;rw[show i+(n+1)-i=n+1 from by omega]));clear K N V;go_wp2_with fail
      go_quiet (fail)
      go_wp2_with fail
      go_quiet (fail)
      go_wp2_with fail
      generalize J:World.drewN _ _=wq;have g:Below w.heap.size w wq:=by rw[←J];exact⟨rfl,rfl,rfl,Nat.le_refl _,fun _ _=>rfl⟩
      have y:=T.out.below g d;have q0:=y.c0;have q1:=y.c1;have hqz:=g.size;have hroom:24<wq.heap.size:=by omega
      have Y:=hid (fun W (h:W.cell? ⟨R,0,none⟩=some (.string s)∧W.cell? ⟨R,1,none⟩=some (.int .i64 i)∧Below wq.heap.size wq W)=>(RC W (D.out.err.below (g.trans (qc h.2.2 g.size)) (by omega))).mono (R':=fun e W'=>(∃(sa:Option Addr)(sc:Nat),e= .returned (.tuple #[.agg #[.int .i64 2,.int .i64 0,.string tx,.slice sa 0 sc],.nilIface]))∧Below W.heap.size W W'∧(W'.cell? ⟨R,0,none⟩=some (.string s)∧W'.cell? ⟨R,1,none⟩=some (.int .i64 i)∧Below wq.heap.size wq W')) fun e W' ⟨h1,h2⟩=>
       have hz:R<W.heap.size:=Nat.lt_of_lt_of_le (Nat.lt_of_lt_of_le d g.size) h.2.2.size
       ⟨h2,h1,qx h1 h.1 hz,qx h1 h.2.1 hz,h.2.2.trans (qc h1 h.2.2.size)⟩)
      have KA:=hid (fun W o (h:W.cell? ⟨R,0,none⟩=some (.string s)∧W.cell? ⟨R,1,none⟩=some (.int .i64 i)∧Below wq.heap.size wq W)=>
       have hz:R<W.heap.size:=Nat.lt_of_lt_of_le (Nat.lt_of_lt_of_le d g.size) h.2.2.size
       (⟨qx ((Below.refl W.heap.size W).alloc (Nat.le_refl _) o) h.1 hz,qx ((Below.refl W.heap.size W).alloc (Nat.le_refl _) o) h.2.1 hz,h.2.2.alloc h.2.2.size o⟩:(W.alloc o).cell? ⟨R,0,none⟩=some (.string s)∧(W.alloc o).cell? ⟨R,1,none⟩=some (.int .i64 i)∧Below wq.heap.size wq (W.alloc o)))
      have K0:wq.drew.cell? ⟨R,0,none⟩=some (.string s)∧wq.drew.cell? ⟨R,1,none⟩=some (.int .i64 i)∧Below wq.heap.size wq wq.drew:=⟨q0,q1,(Below.refl _ _).drew⟩
      have X:=hid (fun o:Obj=>(have hh:=KA.out wq o ⟨q0,q1,Below.refl _ _⟩;⟨hh.1,hh.2.1,hh.2.2.drew⟩:(wq.alloc o).drew.cell? ⟨R,0,none⟩=some (.string s)∧(wq.alloc o).drew.cell? ⟨R,1,none⟩=some (.int .i64 i)∧Below wq.heap.size wq (wq.alloc o).drew));have KS:=hid (fun(W:World)(k:Nat)(u:Value) (h:W.cell? ⟨R,0,none⟩=some (.string s)∧W.cell? ⟨R,1,none⟩=some (.int .i64 i)∧Below wq.heap.size wq W)=>(ZM (show R<wq.heap.size by omega) h k u:(W.setCell ⟨wq.heap.size,k,none⟩ u).cell? ⟨R,0,none⟩=some (.string s)∧(W.setCell ⟨wq.heap.size,k,none⟩ u).cell? ⟨R,1,none⟩=some (.int .i64 i)∧Below wq.heap.size wq (W.setCell ⟨wq.heap.size,k,none⟩ u)));have j:=hid g;rw[HS.out]at Y;have HN:=hid (show 1≤n∧i+(n+1)≤s.size from⟨hn1,by omega⟩);clear J g y RC g1 Z hb2 ht1 hd1 hk e1 hc0 hc1
      go_region_held3 (fun W=>W.cell? ⟨R,0,none⟩=some (.string s)∧W.cell? ⟨R,1,none⟩=some (.int .i64 i)∧Below wq.heap.size wq W)
       (first|(with_reducible assumption)|(with_reducible exact K0)|(with_reducible exact X.out _)|((with_reducible refine KA.out _ _ ?_);with_reducible assumption)|((repeat (with_reducible refine KS.out _ _ _ ?_));with_reducible assumption))
       (first
        |(go_at_call 123;refine(Y.out _ ?_).mono ?_;(with_reducible assumption);rintro e p ⟨⟨sa,sc,rfl⟩,C,x⟩
          (with_reducible (have hz:=QM C))
          have z0:=hz.c0;have z1:=hz.c1;have z2:=hz.c2;have z3:=hz.c3;have y0:=hz.fr 0;have y1:=hz.fr 1;have y2:=hz.fr 2;have y3:=hz.fr 3)
        |(go_at_call 123;refine(Y.out _ ?_).mono ?_;(with_reducible assumption);rintro e p ⟨⟨sa,sc,rfl⟩,C,x⟩))
      all_goals
       have a:=hid (j.out.trans (qc x.2.2 j.out.size));have hz5:=x.2.2.size;have hz55:=a.out.size;have ee1:=(D.out.err.below a.out (by omega)).syn;have ee2:=(D.out.err.below a.out (by omega)).range;have ee3:=(D.out.err.below a.out (by omega)).many;have gg1:=fun o=>((D.out.err.below a.out (by omega)).below ((Below.refl p.heap.size p).alloc (Nat.le_refl _) o) (by omega)).syn;have gg2:=fun o=>((D.out.err.below a.out (by omega)).below ((Below.refl p.heap.size p).alloc (Nat.le_refl _) o) (by omega)).range;have gg3:=fun o=>((D.out.err.below a.out (by omega)).below ((Below.refl p.heap.size p).alloc (Nat.le_refl _) o) (by omega)).many;have M:24<p.heap.size:=by omega
       have q:=T.out.below a.out d;have a0:=q.c0;have a1:=q.c1;have a2:=q.c2;clear x C q K0;go_wp2_with fail
       rw[show((n:Int)+1)=((n+1:Nat):Int)from by omega];refine(xD R s i line l _ ?_ (n+1) (by omega) HN.out.2 hs ⟨3,0,⟨#[]⟩,2,0,tx⟩ 0 sa sc).mono ?_
       ·exact HH.out.below_self (by repeat (first|exact a.out|refine Below.drew ?_|refine Below.setCell ?_ (by first|exact j.out.size|(simp;omega)) _|refine Below.alloc ?_ (by first|exact a.out.size|omega|(simp;omega)) _))
       rintro e w7 ⟨rfl,hb7,hst7⟩;go_wp2_with fail
       go_ret
       refine LxRes.mkWord U.out (Below.trans ?_ hb7) hst7;exact qc (B:=w.heap.size) (by repeat (first|exact a.out|refine Below.drew ?_|refine Below.setCell ?_ (by first|exact j.out.size|(simp;omega)) _|refine Below.alloc ?_ (by first|exact a.out.size|omega|(simp;omega)) _)) (Nat.le_of_lt d)
    ·by_cases O:c=92
     ·have ht1:(((s[i+n]'hin).toNat:Int)==34)=false:=by rw[←hc,beq_eq_false_iff_ne];intro e;exact F (UInt8.toNat_inj.1 (by show c.toNat=34;omega))
      have ht2:(((s[i+n]'hin).toNat:Int)==92)=true:=by rw[←hc,O];rfl
      have HQ:Hid (zA s k (i+(n+2))=Q):=by rw[←S,if_neg F,if_pos O];rfl
      clear hq hqs S G F O H hc;go_wp2_with fail
      go_quiet (fail)
      go_wp2_with fail
      go_quiet (fail)
      go_wp2_with fail
      go_roundg k
      case measure=>omega
      case rel=>exact⟨n+2,_,by go_num,by omega,by omega,by omega,rfl,HQ.out⟩
     ·have ht1:(((s[i+n]'hin).toNat:Int)==34)=false:=by rw[←hc,beq_eq_false_iff_ne];intro e;exact F (UInt8.toNat_inj.1 (by show c.toNat=34;omega))
      have ht2:(((s[i+n]'hin).toNat:Int)==92)=false:=by rw[←hc,beq_eq_false_iff_ne];intro e;exact O (UInt8.toNat_inj.1 (by show c.toNat=92;omega))
      have HQ:Hid (zA s k (i+(n+1))=Q):=by rw[←S,if_neg F,if_neg O];rfl
      clear hq hqs S G F O H hc;go_wp2_with fail
      go_quiet (fail)
      go_wp2_with fail
      go_quiet (fail)
      go_wp2_with fail
      go_roundg k
      case measure=>omega
      case rel=>exact⟨n+1,_,by go_num,by omega,by omega,by omega,rfl,HQ.out⟩
   ·have U:Hid (r= .bad 111):=by
     rw[HR.out, ←hq.out,zA,if_neg (by rintro⟨_,h⟩;rw[H]at h;exact G h)];rfl
    by_cases hlo:c.toNat<32
    ·have Z:decide (((s[i+n]'hin).toNat:Int)<32)=true:=by rw[←hc];simp;omega
     clear hq G H hc hlo;go_wp2_with fail
     go_quiet (fail)
     go_wp2_with fail
     refine(zK R s i line v _ _ (by exact T.out)).mono ?_;rintro e w2 ⟨rfl,rfl⟩;go_wp2_with fail
     go_ret
     exact LxRes.mkBad U.out ⟨rfl,rfl,rfl,Nat.le_refl _,fun _ _=>rfl⟩ (Nat.le_of_lt d)
    ·have Z:decide (((s[i+n]'hin).toNat:Int)<32)=false:=by rw[←hc];simp;omega
     have hhi:126<c.toNat:=by
      rcases Nat.lt_or_ge 126 c.toNat with h|h
      ·exact h
      ·exact absurd (decide_eq_true (show 32≤c.toNat∧c.toNat≤126 by omega)) G
     have hb2:decide ((126:Int)<((s[i+n]'hin).toNat:Int))=true:=by rw[←hc];simp;omega
     clear hq G H hc hlo hhi;go_wp2_with fail
     go_quiet (fail)
     go_wp2_with fail
     refine(zK R s i line v _ _ (by exact T.out)).mono ?_;rintro e w2 ⟨rfl,rfl⟩;go_wp2_with fail
     go_ret
     exact LxRes.mkBad U.out ⟨rfl,rfl,rfl,Nat.le_refl _,fun _ _=>rfl⟩ (Nat.le_of_lt d)
  ·have hd1:decide ((s.size:Int)≤(i:Int)+(n:Int))=true:=by simp;omega
   have U:Hid (r= .bad 111):=by
    have hnone:zA s gk (i+n)=none:=by
     cases gk with
     |zero=>rfl
     |succ k=>rw[zA,if_neg (fun h=>hin h.1)]
    rw[HR.out, ←hq.out,hnone];rfl
   clear hq;go_wp2_with fail
   go_quiet (fail)
   go_wp2_with fail
   refine(zK R s i line v _ _ (by exact T.out)).mono ?_;rintro e w2 ⟨rfl,rfl⟩;go_wp2_with fail
   go_ret
   exact LxRes.mkBad U.out ⟨rfl,rfl,rfl,Nat.le_refl _,fun _ _=>rfl⟩ (Nat.le_of_lt d)
end Go.Proofs.YtggngahmafbihaaGreatDoor
