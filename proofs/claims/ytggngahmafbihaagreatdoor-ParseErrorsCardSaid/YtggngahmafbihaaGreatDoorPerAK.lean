/- Contracts, and the plain mathematics beneath. -/
import Derived.Test.YtggngahmafbihaaGreatDoorPerAF
set_option linter.unusedVariables false
set_option linter.unusedSimpArgs false
set_option maxRecDepth 100000
set_option maxHeartbeats 1000000
namespace Go.Proofs.YtggngahmafbihaaGreatDoor
open Go.RowKit Go.Lib
def Xj(N:Nat):Prop:= ∀(l:NL)(A:Option Addr)(c:Nat)(n:Int)(w:World),l.tot<N→l.fit→l.len≤140737488351232→l.len≤c→RpN w (fun b=>b<w.heap.size) l A→0≤n→n≤4096→
 Calls Tryz.prog 103 #[.slice A l.len c,.int .i64 n] w fun e w'=>e= .returned (.int .i64 (jr l n))∧Below w.heap.size w w'
theorem qak(N:Nat)(ih: ∀P,P<N→Xj P):Xj N:=by
 intro l A c n w hN D Q hc q K L;have H:=hid q;clear q;go_enter Tryz.func103,Tryz.ntmps103
 go_wp2_with fail
 go_loopg [1,9] l.len (fun kk m v wr=> ∃(i:Nat)(x:Int),m= .int .i64 x∧v= .int .i64 i∧i+kk=l.len∧0≤x∧x≤4096∧Below w.heap.size w wr∧Hid (jr (l.drop i) x=jr l n))
 case atStart=>exact⟨0,n,rfl,rfl,by omega,K,L,Below.refl _ _,by show jr (l.drop 0) _=_;rw[NL.drop]⟩
 case round=>
  obtain⟨i,x,rfl,rfl,Z,ab,ac,d,f⟩:=hrel;by_cases hi:i<l.len
  ·obtain⟨g,rfl⟩: ∃g,gk=g+1:=⟨gk-1,by omega⟩
   obtain⟨b,o,op,ln,s,k,R,t,v,sub,va,vc,sa,sc,hA,X,hd,U,c1,c2,c3,c4,c5,V,aa,hv,W,M,hs⟩:=(H.out.below d (fun b hb=>hb)).nth hi;have C:=NL.fit_drop i l D;have G:=NL.tot_drop i l;rw[hd]at C G;simp only[NL.tot]at G;obtain⟨-, -, -, -,I,J, -⟩:=C;obtain⟨wx,h⟩: ∃wx,wx=wr.alloc (.cells #[.int .i64 op,.int .i64 ln,.string s,.int .i64 k,.int .i64 R,.string t,.slice va v.len vc,.slice sa sub.len sc] 31):=⟨_,rfl⟩
   have p:Below wr.heap.size wr wx:=by rw[h];exact(Below.refl _ _).alloc (Nat.le_refl _) _
   have u:NdB wx wr.heap.size (.int .i64 op) (.int .i64 ln) (.string s) (.int .i64 k) (.int .i64 R) (.string t) (.slice va v.len vc) (.slice sa sub.len sc):=by rw[h];exact NdB.new _ _ _ _ _ _ _ _ _
   have S:=u.c7;rw[h]at S;have a:=hid f;rw[hd,jr]at a;have j:=hid (d.trans (qc p d.size));have O:=hid h;subst hA;by_cases hm:(4096:Int)<x+1
   ·have Y:decide (x+1>4096)=true:=by simp;omega
    rw[if_pos hm]at a;clear d f hs hv h p u;go_wp2_with fail
    rw[←O.out];go_ret
    exact⟨qn (by rw[←a.out];rfl),j.out⟩
   ·rw[if_neg hm]at a
    have hr:=Xs sub (x+1) (by omega) (by omega);have z:=hid (ih (sub.tot+1) (by omega) sub sa sc (x+1) wx (by omega) J I M (hs.keep (fun b hb=>p.block b (by have:=d.size;omega)) (fun b hb=>by have:=d.size;have:=p.size;omega)) (by omega) (by omega));obtain⟨r,F⟩: ∃r,r=jr sub (x+1):=⟨_,rfl⟩
    rw[←F]at z a hr;clear d f hs hv h p u F;go_wp2_with fail
    rw[←O.out];refine z.out.mono ?_;rintro e w2 ⟨rfl,B⟩;have y:=hid (j.out.trans (qc B j.out.size));clear B S U c1 c2 c3 c4 c5 V W;by_cases E:(4096:Int)<r
    ·rw[if_pos E]at a
     go_wp2_with fail
     go_ret
     exact⟨qn (by rw[←a.out];rfl),y.out⟩
    ·rw[if_neg E]at a
     go_wp2_with fail
     go_roundg g
     case measure=>omega
     case rel=>exact⟨i+1,r,rfl,by go_num,by omega,hr.1,by omega,y.out,a.out⟩
  ·obtain rfl:i=l.len:=by omega
   rw[NL.drop_len]at f;have T:=hid f;have j:=hid d;clear f d;go_wp2_with fail
   go_ret
   exact⟨qn (by rw[←T.out];rfl),j.out⟩
theorem qd7(N:Nat):Xj N:=by
 induction N using Nat.strongRecOn with
 |_ N a=>exact qak N a
theorem Jq{i:Nat}{l:NL}{op ln:Int}{s:ByteArray}{k n:Int}{t:ByteArray}{v:VL}{sub:NL}(hd:l.drop i= .cons op ln s k n t v sub (l.drop (i+1))):(l.take (i+1)).deep=Nat.max (l.take i).deep (1+sub.deep):=by
 rw[NL.take_succ i l op ln s k n t v sub hd,NL.deep_app];simp only[NL.deep]
 congr 1
 exact Nat.max_eq_left (Nat.zero_le _)
def qac(N:Nat):Prop:= ∀(l:NL)(A:Option Addr)(c:Nat)(w:World),l.tot<N→l.tot≤4096→l.fit→l.len≤140737488351232→l.len≤c→RpN w (fun b=>b<w.heap.size) l A→
 Calls Tryz.prog 104 #[.slice A l.len c] w fun e w'=>e= .returned (.int .i64 l.deep)∧Below w.heap.size w w'
theorem qa3(N:Nat)(ih: ∀M,M<N→qac M):qac N:=by
 intro l A c w hN h4 C O hc p;have F:=hid p;clear p;go_enter Tryz.func104,Tryz.ntmps104
 go_wp2_with fail
 go_loopg [3,8] l.len (fun kk m v wr=> ∃(i:Nat)(x:Nat),m= .int .i64 x∧v= .int .i64 i∧i+kk=l.len∧x≤4096∧Below w.heap.size w wr∧Hid (x=(l.take i).deep))
 case atStart=>exact⟨0,0,rfl,rfl,by omega,by omega,Below.refl _ _,by show 0=(l.take 0).deep;rw[NL.take];rfl⟩
 case round=>
  obtain⟨i,x,rfl,rfl,X,K,a,f⟩:=hrel;by_cases hi:i<l.len
  ·obtain⟨g,rfl⟩: ∃g,gk=g+1:=⟨gk-1,by omega⟩
   obtain⟨b,o,op,ln,s,k,P,t,v,sub,va,vc,sa,sc,hA,W,hd,T,c1,c2,c3,c4,c5,U,Z,hv,V,J,hs⟩:=(F.out.below a (fun b hb=>hb)).nth hi;have B:=NL.fit_drop i l C;have E:=NL.tot_drop i l;rw[hd]at B E;simp only[NL.tot]at E;obtain⟨-, -, -, -,H,I, -⟩:=B;obtain⟨wx,h⟩: ∃wx,wx=wr.alloc (.cells #[.int .i64 op,.int .i64 ln,.string s,.int .i64 k,.int .i64 P,.string t,.slice va v.len vc,.slice sa sub.len sc] 31):=⟨_,rfl⟩
   have n:Below wr.heap.size wr wx:=by rw[h];exact(Below.refl _ _).alloc (Nat.le_refl _) _
   have D:NdB wx wr.heap.size (.int .i64 op) (.int .i64 ln) (.string s) (.int .i64 k) (.int .i64 P) (.string t) (.slice va v.len vc) (.slice sa sub.len sc):=by rw[h];exact NdB.new _ _ _ _ _ _ _ _ _
   have Q:=D.c7;rw[h]at Q;have q:=hid (Jq hd);have G:=NL.deep_tot sub;have j:=hid (a.trans (qc n a.size));have S:=hid h;have u:=hid (ih (sub.tot+1) (by omega) sub sa sc wx (by omega) (by omega) I H J (hs.keep (fun b hb=>n.block b (by have:=a.size;omega)) (fun b hb=>by have:=a.size;have:=n.size;omega)));obtain⟨d,z⟩: ∃d,d=sub.deep:=⟨_,rfl⟩
   rw[←z]at u q G;have L:=hid f;subst hA;clear a f hs hv h n D z;have e1:IntKind.i64.wrap (1+(d:Int))=1+(d:Int):=IntWalk.i64_in _ (by omega);go_wp2_with fail
   rw[←S.out];refine u.out.mono ?_;rintro e w2 ⟨rfl,y⟩;have r:=hid (j.out.trans (qc y j.out.size));clear y Q T c1 c2 c3 c4 c5 U V;by_cases Y:x<1+d
   ·have q1:(x:Int)<1+(d:Int):=by omega
    go_wp2_with fail
    go_roundg g
    case measure=>omega
    case rel=>exact⟨i+1,1+d,by go_num,by go_num,by omega,by omega,r.out,by show 1+d=_;rw[q.out, ←L.out];exact(Nat.max_eq_right (by omega)).symm⟩
   ·have q1:1+(d:Int)≤(x:Int):=by omega
    go_wp2_with fail
    go_roundg g
    case measure=>omega
    case rel=>exact⟨i+1,x,by go_num,by go_num,by omega,K,r.out,by show x=_;rw[q.out, ←L.out];exact(Nat.max_eq_left (by omega)).symm⟩
  ·obtain rfl:i=l.len:=by omega
   rw[NL.take_len]at f;have R:=hid f;have j:=hid a;clear f a;go_wp2_with fail
   go_ret
   exact⟨qn (by rw[←R.out.out];rfl),j.out⟩
theorem qfu(N:Nat):qac N:=by
 induction N using Nat.strongRecOn with
 |_ N a=>exact qa3 N a
end Go.Proofs.YtggngahmafbihaaGreatDoor
