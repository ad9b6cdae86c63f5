/- Contracts, and the plain mathematics beneath. -/
import Derived.Test.YtggngahmafbihaaGreatDoorPerAY
set_option linter.unusedVariables false
set_option linter.unusedSimpArgs false
set_option maxRecDepth 100000
set_option maxHeartbeats 4000000
namespace Go.Proofs.YtggngahmafbihaaGreatDoor
open Go.RowKit Go.Lib
theorem Qr{s:ByteArray}{i n:Nat}{v:Int}(h:jF s i= .inr (v,n))(hi:i≤s.size):1≤n∧i+n≤s.size∧0≤v∧v≤9223372036854775807:=by
 unfold jF at h;simp only at h;split at h
 ·cases h
 ·rename_i hc
  split at h
  ·cases h
  ·rename_i hv
   injection h with h
   injection h with h1 h2
   subst h1;subst h2;refine⟨?_,QY s qt i hi,by omega,by omega⟩;rcases Nat.eq_zero_or_pos (run s qt i)with h0|h0
   ·exact absurd (.inl h0) hc
   ·exact h0
def Jx(s:ByteArray)(i:Nat)(line:Int):WR:=match jF s i with
 | .inl e=> .bad e
 | .inr (v,n)=> .word n ⟨3,line,⟨#[]⟩,0,v,⟨#[]⟩⟩
theorem J6{s:ByteArray}{i:Nat}{line:Int}(h0:zk (pk s i)=false)(h:qt (pk s i)=true):zb s i line=Jx s i line:=by
 unfold zb Jx;simp only[h0,h,Bool.false_eq_true,if_false,if_true]
 cases jF s i with
 |inl e=>rfl
 |inr p=>rfl
def xo(s:ByteArray)(i:Nat)(line:Int):WR:=
 let neg:=pk s (i+1)==45
 let j:=if neg then i+2 else i+1
 match jF s j with
 | .inl e=> .bad e
 | .inr (v,n)=>
   if neg=true∧v=0 then .bad 111
   else
    let v:=if neg then-v else v
    if v< -2147483648∨2147483647<v then .bad 105 else .word (j+n-i) ⟨3,line,⟨#[]⟩,1,v,⟨#[]⟩⟩
theorem J7{s:ByteArray}{i:Nat}{line:Int}(h:pk s i=35):zb s i line=xo s i line:=by
 have h1:zk (35:UInt8)=false:=by decide
 have h2:qt (35:UInt8)=false:=by decide
 have h3:zz (35:UInt8)=false:=by decide
 unfold zb xo;simp only[h,h1,h2,h3,Bool.false_eq_true,if_false,if_true]
 cases jF s (if(pk s (i+1)==45)=true then i+2 else i+1)with
 |inl e=>rfl
 |inr p=>rfl
theorem qbf(R:Nat)(s:ByteArray)(i:Nat)(line:Int)(l:List Tok)(ea:Nat→Addr)(w:World)(h:LxSt w R s i line l)(r:LxEnv w ea)(hi:i<s.size)(hs:s.size≤1000000000)(B:24≤R):
 Calls Tryz.prog 76 #[.pointer (some ⟨R,0,none⟩)] w (LxRes ea R s i line l (Jx s i line) w):=by
 have a:=h.lt;obtain⟨v,L,ha,_⟩:=id h;have C:=ha.c1;have b:=QB R s i line v i ea w ha r (by omega) hs B;have u:=hid h;unfold Jx;clear h r ha
 cases f:jF s i with
 |inl c=>
  rw[f]at b;have j:=hid b;clear f b;go_enter Tryz.func76,Tryz.ntmps76
  go_wp2_with fail
  refine j.out.mono ?_;rintro e w2 ⟨⟨A,hA,t,rfl⟩,hb⟩;have y:=hid hA;have z:=hid t;have g:=hid hb;clear hA t hb;go_wp2_with fail
  go_ret
  exact⟨qc g.out (Nat.le_of_lt a),_,Nat.le_trans (Nat.le_of_lt a) y.out,z.out,rfl⟩
 |inr p=>
  obtain⟨x,n⟩:=p;obtain⟨m,o,D,E⟩:=Qr f (by omega);rw[f]at b;have j:=hid b;clear f b;go_enter Tryz.func76,Tryz.ntmps76
  go_wp2_with fail
  refine j.out.mono ?_;rintro e w2 ⟨d,hb⟩;have he2':e= .returned (.tuple #[.int .i64 x,.int .i64 n,.nilIface]):=d;subst he2';have g:=hid hb;clear hb d;go_wp2_with fail
  refine(xD R s i line l _ (u.out.below_self g.out) n m o hs ⟨3,0,⟨#[]⟩,0,x,⟨#[]⟩⟩ 0 none 0).mono ?_;rintro e w3 ⟨rfl,k,q⟩;go_wp2_with fail
  go_ret
  exact LxRes.mkWord rfl ((qc g.out (Nat.le_of_lt a)).trans k) q
theorem qcz(R:Nat)(s:ByteArray)(i:Nat)(line:Int)(l:List Tok)(ea:Nat→Addr)(w:World)(h:LxSt w R s i line l)(V:LxEnv w ea)(hi:i<s.size)(hs:s.size≤1000000000)(P:24≤R):
 Calls Tryz.prog 79 #[.pointer (some ⟨R,0,none⟩)] w (LxRes ea R s i line l (xo s i line) w):=by
 have a:=h.lt;obtain⟨v,L,ha,_⟩:=id h;have W:=ha.c0;have X:=ha.c1;have O:=hid h;have C:=hid ha;have o:=hid V;obtain⟨r,hr⟩: ∃r,r=xo s i line:=⟨_,rfl⟩
 rw[←hr];have T:(i:Int)+1≤(s.size:Int):=by omega
 have Y:(i:Int)≤1000000000:=by omega
 clear h V ha;by_cases y:i+1<s.size
 ·by_cases u:pk s (i+1)=45
  ·have j:=QB R s i line v (i+2) ea w C.out o.out (by omega) hs P
   rw[show(((i+2:Nat)):Int)=((i:Int)+1+1)from by omega]at j;have hp:(pk s (i+1)==45)=true:=by rw[u];rfl
   have I:(i:Int)+1<(s.size:Int):=by omega
   have H:decide ((i:Int)+1<(s.size:Int))=true:=by simp;omega
   have S:(((s[i+1]'y).toNat:Int)==45)=true:=by rw[←qK s (i+1) y,u];rfl
   clear u
   cases g:jF s (i+2)with
   |inl c=>
    have d:=hid (show r= .bad c by rw[hr];unfold xo;simp only[hp,if_true,g]);rw[g]at j;have q:=hid j;clear g j hr hp;go_enter Tryz.func79,Tryz.ntmps79
    go_wp2_with fail
    refine q.out.mono ?_;rintro e w2 ⟨⟨A,hA,D,rfl⟩,hb⟩;have F:=hid hA;have G:=hid D;have k:=hid hb;clear hA D hb;go_wp2_with fail
    go_ret
    rw[d.out];exact⟨qc k.out (Nat.le_of_lt a),_,Nat.le_trans (Nat.le_of_lt a) F.out,G.out,rfl⟩
   |inr p=>
    obtain⟨x,n⟩:=p;obtain⟨J,K,M,N⟩:=Qr g (by omega);rw[g]at j;have q:=hid j;by_cases h0:x=0
    ·have d:=hid (show r= .bad 111 by rw[hr];unfold xo;simp only[hp,if_true,g];rw[if_pos ⟨trivial,h0⟩])
     have U:(x==0)=true:=by rw[h0];rfl
     clear g j hr hp h0;go_enter Tryz.func79,Tryz.ntmps79
     go_wp2_with fail
     refine q.out.mono ?_;rintro e w2 ⟨b,hb⟩;have he2':e= .returned (.tuple #[.int .i64 x,.int .i64 n,.nilIface]):=b;subst he2';have k:=hid hb;have f:=hid (C.out.below hb a);have t:=f.out.c1;have e1:=(o.out.below hb (by omega)).err.syn;have e2:=(o.out.below hb (by omega)).err.range;clear hb b;go_wp2_with fail
     refine(zK R s i line v _ _ (by exact f.out)).mono ?_;rintro e w3 ⟨rfl,rfl⟩;go_wp2_with fail
     go_ret
     exact LxRes.mkBad d.out (qc k.out (Nat.le_of_lt a)) (Nat.le_trans (Nat.le_of_lt a) k.out.size)
    ·have U:(x==0)=false:=by rw[beq_eq_false_iff_ne];exact h0
     have Z:1≤x:=by omega
     by_cases Q: -x< -2147483648
     ·have d:=hid (show r= .bad 105 by rw[hr];unfold xo;simp only[hp,if_true,g];rw[if_neg (by rintro⟨_,h⟩;omega),if_pos (.inl Q)])
      clear g j hr hp;go_enter Tryz.func79,Tryz.ntmps79
      go_wp2_with fail
      refine q.out.mono ?_;rintro e w2 ⟨b,hb⟩;have he2':e= .returned (.tuple #[.int .i64 x,.int .i64 n,.nilIface]):=b;subst he2';have k:=hid hb;have f:=hid (C.out.below hb a);have t:=f.out.c1;have e1:=(o.out.below hb (by omega)).err.syn;have e2:=(o.out.below hb (by omega)).err.range;clear hb b;go_wp2_with fail
      refine(zK R s i line v _ _ (by exact f.out)).mono ?_;rintro e w3 ⟨rfl,rfl⟩;go_wp2_with fail
      go_ret
      exact LxRes.mkBad d.out (qc k.out (Nat.le_of_lt a)) (Nat.le_trans (Nat.le_of_lt a) k.out.size)
     ·have d:=hid (show r= .word (2+n) ⟨3,line,⟨#[]⟩,1, -x,⟨#[]⟩⟩by rw[hr];unfold xo;simp only[hp,if_true,g];rw[if_neg (by rintro⟨_,h⟩;omega),if_neg (by omega),show i+2+n-i=2+n from by omega])
      have hlo': -2147483648≤ -x:=by omega
      have hhi': -x≤2147483647:=by omega
      clear g j hr hp;go_enter Tryz.func79,Tryz.ntmps79
      go_wp2_with fail
      refine q.out.mono ?_;rintro e w2 ⟨b,hb⟩;have he2':e= .returned (.tuple #[.int .i64 x,.int .i64 n,.nilIface]):=b;subst he2';have k:=hid hb;have f:=hid (C.out.below hb a);have t:=f.out.c1;have e1:=(o.out.below hb (by omega)).err.syn;have e2:=(o.out.below hb (by omega)).err.range;clear hb b;go_wp2_with fail
      obtain⟨m,hm⟩: ∃m:Nat,m=(2+n):=⟨_,rfl⟩
      rw[show(((i:Int)+1+1)+(n:Int)-(i:Int))=(m:Int)from by omega];refine(xD R s i line l _ (O.out.below_self k.out) m (by omega) (by omega) hs ⟨3,0,⟨#[]⟩,1, -x,⟨#[]⟩⟩ 0 none 0).mono ?_;rintro e w3 ⟨rfl,z,B⟩;go_wp2_with fail
      go_ret
      exact LxRes.mkWord (by rw[d.out,hm]) ((qc k.out (Nat.le_of_lt a)).trans z) B
  ·have j:=QB R s i line v (i+1) ea w C.out o.out (by omega) hs P
   rw[show(((i+1:Nat)):Int)=((i:Int)+1)from by omega]at j;have hp:(pk s (i+1)==45)=false:=by rw[beq_eq_false_iff_ne];exact u
   have I:(i:Int)+1<(s.size:Int):=by omega
   have H:decide ((i:Int)+1<(s.size:Int))=true:=by simp;omega
   have S:(((s[i+1]'y).toNat:Int)==45)=false:=by rw[beq_eq_false_iff_ne, ←qK s (i+1) y];intro e;exact u (UInt8.toNat_inj.1 (by show(pk s (i+1)).toNat=45;omega))
   clear u
   cases g:jF s (i+1)with
   |inl c=>
    have d:=hid (show r= .bad c by rw[hr];unfold xo;simp only[hp,Bool.false_eq_true,if_false,g]);rw[g]at j;have q:=hid j;clear g j hr hp;go_enter Tryz.func79,Tryz.ntmps79
    go_wp2_with fail
    refine q.out.mono ?_;rintro e w2 ⟨⟨A,hA,D,rfl⟩,hb⟩;have F:=hid hA;have G:=hid D;have k:=hid hb;clear hA D hb;go_wp2_with fail
    go_ret
    rw[d.out];exact⟨qc k.out (Nat.le_of_lt a),_,Nat.le_trans (Nat.le_of_lt a) F.out,G.out,rfl⟩
   |inr p=>
    obtain⟨x,n⟩:=p;obtain⟨J,K,M,N⟩:=Qr g (by omega);rw[g]at j;have q:=hid j;by_cases E:2147483647<x
    ·have d:=hid (show r= .bad 105 by rw[hr];unfold xo;simp only[hp,Bool.false_eq_true,if_false,g];rw[if_neg (by rintro⟨h,_⟩;exact h),if_pos (.inr E)])
     clear g j hr hp;go_enter Tryz.func79,Tryz.ntmps79
     go_wp2_with fail
     refine q.out.mono ?_;rintro e w2 ⟨b,hb⟩;have he2':e= .returned (.tuple #[.int .i64 x,.int .i64 n,.nilIface]):=b;subst he2';have k:=hid hb;have f:=hid (C.out.below hb a);have t:=f.out.c1;have e1:=(o.out.below hb (by omega)).err.syn;have e2:=(o.out.below hb (by omega)).err.range;clear hb b;go_wp2_with fail
     refine(zK R s i line v _ _ (by exact f.out)).mono ?_;rintro e w3 ⟨rfl,rfl⟩;go_wp2_with fail
     go_ret
     exact LxRes.mkBad d.out (qc k.out (Nat.le_of_lt a)) (Nat.le_trans (Nat.le_of_lt a) k.out.size)
    ·have d:=hid (show r= .word (1+n) ⟨3,line,⟨#[]⟩,1,x,⟨#[]⟩⟩by rw[hr];unfold xo;simp only[hp,Bool.false_eq_true,if_false,g];rw[if_neg (by rintro⟨h,_⟩;exact h),if_neg (by omega),show i+1+n-i=1+n from by omega])
     have hhi':x≤2147483647:=by omega
     clear g j hr hp;go_enter Tryz.func79,Tryz.ntmps79
     go_wp2_with fail
     refine q.out.mono ?_;rintro e w2 ⟨b,hb⟩;have he2':e= .returned (.tuple #[.int .i64 x,.int .i64 n,.nilIface]):=b;subst he2';have k:=hid hb;have f:=hid (C.out.below hb a);have t:=f.out.c1;have e1:=(o.out.below hb (by omega)).err.syn;have e2:=(o.out.below hb (by omega)).err.range;clear hb b;go_wp2_with fail
     obtain⟨m,hm⟩: ∃m:Nat,m=(1+n):=⟨_,rfl⟩
     rw[show(((i:Int)+1)+(n:Int)-(i:Int))=(m:Int)from by omega];refine(xD R s i line l _ (O.out.below_self k.out) m (by omega) (by omega) hs ⟨3,0,⟨#[]⟩,1,x,⟨#[]⟩⟩ 0 none 0).mono ?_;rintro e w3 ⟨rfl,z,B⟩;go_wp2_with fail
     go_ret
     exact LxRes.mkWord (by rw[d.out,hm]) ((qc k.out (Nat.le_of_lt a)).trans z) B
 ·have j:=QB R s i line v (i+1) ea w C.out o.out (by omega) hs P
  rw[show(((i+1:Nat)):Int)=((i:Int)+1)from by omega]at j;have hp:(pk s (i+1)==45)=false:=by rw[Qv s (i+1) y];rfl
  have H:decide ((i:Int)+1<(s.size:Int))=false:=by simp;omega
  clear T
  cases g:jF s (i+1)with
  |inl c=>
   have d:=hid (show r= .bad c by rw[hr];unfold xo;simp only[hp,Bool.false_eq_true,if_false,g]);rw[g]at j;have q:=hid j;clear g j hr hp y;go_enter Tryz.func79,Tryz.ntmps79
   go_wp2_with fail
   refine q.out.mono ?_;rintro e w2 ⟨⟨A,hA,D,rfl⟩,hb⟩;have F:=hid hA;have G:=hid D;have k:=hid hb;clear hA D hb;go_wp2_with fail
   go_ret
   rw[d.out];exact⟨qc k.out (Nat.le_of_lt a),_,Nat.le_trans (Nat.le_of_lt a) F.out,G.out,rfl⟩
  |inr p=>
   obtain⟨x,n⟩:=p;obtain⟨J,K,M,N⟩:=Qr g (by omega);rw[g]at j;have q:=hid j;by_cases E:2147483647<x
   ·have d:=hid (show r= .bad 105 by rw[hr];unfold xo;simp only[hp,Bool.false_eq_true,if_false,g];rw[if_neg (by rintro⟨h,_⟩;exact h),if_pos (.inr E)])
    clear g j hr hp;clear y;go_enter Tryz.func79,Tryz.ntmps79
    go_wp2_with fail
    refine q.out.mono ?_;rintro e w2 ⟨b,hb⟩;have he2':e= .returned (.tuple #[.int .i64 x,.int .i64 n,.nilIface]):=b;subst he2';have k:=hid hb;have f:=hid (C.out.below hb a);have t:=f.out.c1;have e1:=(o.out.below hb (by omega)).err.syn;have e2:=(o.out.below hb (by omega)).err.range;clear hb b;go_wp2_with fail
    refine(zK R s i line v _ _ (by exact f.out)).mono ?_;rintro e w3 ⟨rfl,rfl⟩;go_wp2_with fail
    go_ret
    exact LxRes.mkBad d.out (qc k.out (Nat.le_of_lt a)) (Nat.le_trans (Nat.le_of_lt a) k.out.size)
   ·have d:=hid (show r= .word (1+n) ⟨3,line,⟨#[]⟩,1,x,⟨#[]⟩⟩by rw[hr];unfold xo;simp only[hp,Bool.false_eq_true,if_false,g];rw[if_neg (by rintro⟨h,_⟩;exact h),if_neg (by omega),show i+1+n-i=1+n from by omega])
    have hhi':x≤2147483647:=by omega
    clear g j hr hp;clear y;go_enter Tryz.func79,Tryz.ntmps79
    go_wp2_with fail
    refine q.out.mono ?_;rintro e w2 ⟨b,hb⟩;have he2':e= .returned (.tuple #[.int .i64 x,.int .i64 n,.nilIface]):=b;subst he2';have k:=hid hb;have f:=hid (C.out.below hb a);have t:=f.out.c1;have e1:=(o.out.below hb (by omega)).err.syn;have e2:=(o.out.below hb (by omega)).err.range;clear hb b;go_wp2_with fail
    obtain⟨m,hm⟩: ∃m:Nat,m=(1+n):=⟨_,rfl⟩
    rw[show(((i:Int)+1)+(n:Int)-(i:Int))=(m:Int)from by omega];refine(xD R s i line l _ (O.out.below_self k.out) m (by omega) (by omega) hs ⟨3,0,⟨#[]⟩,1,x,⟨#[]⟩⟩ 0 none 0).mono ?_;rintro e w3 ⟨rfl,z,B⟩;go_wp2_with fail
    go_ret
    exact LxRes.mkWord (by rw[d.out,hm]) ((qc k.out (Nat.le_of_lt a)).trans z) B
def Ze(s:ByteArray)(i:Nat)(line:Int):WR:=
 let n:=run s (fun c=>zz c||c==95) i
 let k:=jI (s.extract i (i+n))
 if k<0∨(i+n<s.size∧(zk (pk s (i+n))=true∨qt (pk s (i+n))=true))then .bad 111
 else .word n ⟨3,line,⟨#[]⟩,3,k,⟨#[]⟩⟩
theorem Jj{s:ByteArray}{i:Nat}{line:Int}(h0:zk (pk s i)=false)(h1:qt (pk s i)=false)(h:zz (pk s i)=true):zb s i line=Ze s i line:=by
 unfold zb Ze;simp only[h0,h1,h,Bool.false_eq_true,if_false,if_true]
theorem qel(R:Nat)(s:ByteArray)(i:Nat)(line:Int)(l:List Tok)(ea:Nat→Addr)(w:World)(h:LxSt w R s i line l)(he:LxEnv w ea)(hi:i<s.size)(hs:s.size≤1000000000)(hR:24≤R)(Y:zz (pk s i)=true):
 Calls Tryz.prog 78 #[.pointer (some ⟨R,0,none⟩)] w (LxRes ea R s i line l (Ze s i line) w):=by
 have f:=h.lt;obtain⟨v,L,ha,_⟩:=id h;have hc1:=ha.c1;have M:=hid (qaH _ _ XB qd6 R s i line v i w ha (by omega) hs);obtain⟨n,hn⟩: ∃n,n=run s (fun c=>zz c||c==95) i:=⟨_,rfl⟩
 have O:1≤n:=by rw[hn];exact Zq s _ i hi (by simp[Y])
 have P:i+n≤s.size:=by rw[hn];exact QY s _ i (by omega)
 obtain⟨r,hr⟩: ∃r,r=Ze s i line:=⟨_,rfl⟩
 obtain⟨k,hk⟩: ∃k,k=jI (s.extract i (i+n)):=⟨_,rfl⟩
 have Q:Hid (r=if k<0∨(i+n<s.size∧(zk (pk s (i+n))=true∨qt (pk s (i+n))=true))then .bad 111 else .word n ⟨3,line,⟨#[]⟩,3,k,⟨#[]⟩⟩):=by rw[hr,hk,hn];rfl
 rw[←hr];rw[←hn]at M;have K:=fun W=>qfq (s.extract i (i+n)) W;rw[←hk]at K;have Z:=hid h;have F:=hid ha;have N:=hid he;obtain⟨g1,g2,g3⟩:=Jf i n (by omega);have hdz:(i:Int)+(n:Int)≤(s.size:Int):=by omega
 have hdw:(i:Int)≤(i:Int)+(n:Int):=by omega
 clear hr hn h he ha hk;by_cases D:k<0
 ·have H:=hid (Q.out.trans (if_pos (.inl D)))
  clear Q;go_enter Tryz.func78,Tryz.ntmps78
  go_wp2_with fail
  refine M.out.mono ?_;rintro e V ⟨rfl,U,rfl⟩;go_wp2_with fail
  generalize o:World.drewN _ _=wq;have d:Below w.heap.size w wq:=by rw[←o];exact⟨rfl,rfl,rfl,Nat.le_refl _,fun _ _=>rfl⟩
  have g:=F.out.below d f;have A:=g.c0;have B:=g.c1
  have z:=hid (fun W (h:W.cell? ⟨R,0,none⟩=some (.string s)∧W.cell? ⟨R,1,none⟩=some (.int .i64 i)∧Below wq.heap.size wq W)=>(K W).mono (R':=fun e W'=>e= .returned (.tuple #[.int .i64 0,.bool false])∧(W'.cell? ⟨R,0,none⟩=some (.string s)∧W'.cell? ⟨R,1,none⟩=some (.int .i64 i)∧Below wq.heap.size wq W')) fun e W' ⟨h1,h2⟩=>
   have hz:R<W.heap.size:=Nat.lt_of_lt_of_le (Nat.lt_of_lt_of_le f d.size) h.2.2.size
   ⟨by rw[h1,if_pos D,show decide (0≤k)=false by simp;omega],qx h2 h.1 hz,qx h2 h.2.1 hz,h.2.2.trans (qc h2 h.2.2.size)⟩)
  have y:wq.drew.cell? ⟨R,0,none⟩=some (.string s)∧wq.drew.cell? ⟨R,1,none⟩=some (.int .i64 i)∧Below wq.heap.size wq wq.drew:=⟨A,B,(Below.refl _ _).drew⟩
  have x:=hid d;clear o d g
  go_region_held3 (fun W=>W.cell? ⟨R,0,none⟩=some (.string s)∧W.cell? ⟨R,1,none⟩=some (.int .i64 i)∧Below wq.heap.size wq W)
   (first|assumption|exact y|exact⟨by assumption,by assumption,by assumption⟩)
   (first
    |(go_at_call 122;refine(z.out _ ?_).mono ?_;assumption;rintro e w5 ⟨rfl,m⟩))
  have b:Below w.heap.size w w5:=x.out.trans (qc m.2.2 x.out.size);have j:=hid b;have a:=F.out.below b f;have S:=a.c0;have a1:=a.c1;have T:=(N.out.below b (by omega)).err.syn;have t:=hid a;clear m b a z y A B;go_wp2_with fail
  go_quiet (fail)
  go_wp2_with fail
  refine(zK R s i line v _ _ (by exact t.out)).mono ?_;rintro e w2 ⟨rfl,rfl⟩;go_wp2_with fail
  go_ret
  exact LxRes.mkBad H.out (Below.trans (qc j.out (Nat.le_of_lt f)) ⟨rfl,rfl,rfl,Nat.le_refl _,fun _ _=>rfl⟩) (Nat.le_trans (Nat.le_of_lt f) j.out.size)
 have E:r=if i+n<s.size∧(zk (pk s (i+n))=true∨qt (pk s (i+n))=true)then .bad 111 else .word n ⟨3,line,⟨#[]⟩,3,k,⟨#[]⟩⟩:=by
  rw[Q.out];by_cases hc:i+n<s.size∧(zk (pk s (i+n))=true∨qt (pk s (i+n))=true)
  ·rw[if_pos hc,if_pos (.inr hc)]
  ·rw[if_neg hc,if_neg (by rintro(h|h);exact D h;exact hc h)]
 have q:=hid E;have hk0:0≤k:=by omega
 clear Q E;by_cases p:i+n<s.size
 ·have X:decide ((i:Int)+(n:Int)<(s.size:Int))=true:=by simp;omega
  have hdy:(i:Int)+(n:Int)<(s.size:Int):=by omega
  have SC:=hid (fun W=>by have:=kD (pk s (i+n)) W;rw[qK s (i+n) p]at this;exact this);have G:=hid (fun W=>by have:=QG (pk s (i+n)) W;rw[qK s (i+n) p]at this;exact this)
  cases u:zk (pk s (i+n))with
  |true=>
   have H:=hid (q.out.trans (if_pos ⟨p,.inl u⟩));rw[←qK s (i+n) p,u,qK s (i+n) p]at SC;clear q u G;go_enter Tryz.func78,Tryz.ntmps78
   go_wp2_with fail
   refine M.out.mono ?_;rintro e V ⟨rfl,U,rfl⟩;go_wp2_with fail
   generalize o:World.drewN _ _=wq;have d:Below w.heap.size w wq:=by rw[←o];exact⟨rfl,rfl,rfl,Nat.le_refl _,fun _ _=>rfl⟩
   have g:=F.out.below d f;have A:=g.c0;have B:=g.c1
   have z:=hid (fun W (h:W.cell? ⟨R,0,none⟩=some (.string s)∧W.cell? ⟨R,1,none⟩=some (.int .i64 i)∧Below wq.heap.size wq W)=>(K W).mono (R':=fun e W'=>e= .returned (.tuple #[.int .i64 k,.bool true])∧(W'.cell? ⟨R,0,none⟩=some (.string s)∧W'.cell? ⟨R,1,none⟩=some (.int .i64 i)∧Below wq.heap.size wq W')) fun e W' ⟨h1,h2⟩=>
    have hz:R<W.heap.size:=Nat.lt_of_lt_of_le (Nat.lt_of_lt_of_le f d.size) h.2.2.size
    ⟨by rw[h1,if_neg (show ¬k<0 by omega),show decide (0≤k)=true by simp;omega],qx h2 h.1 hz,qx h2 h.2.1 hz,h.2.2.trans (qc h2 h.2.2.size)⟩)
   have y:wq.drew.cell? ⟨R,0,none⟩=some (.string s)∧wq.drew.cell? ⟨R,1,none⟩=some (.int .i64 i)∧Below wq.heap.size wq wq.drew:=⟨A,B,(Below.refl _ _).drew⟩
   have x:=hid d;clear o d g
   go_region_held3 (fun W=>W.cell? ⟨R,0,none⟩=some (.string s)∧W.cell? ⟨R,1,none⟩=some (.int .i64 i)∧Below wq.heap.size wq W)
    (first|assumption|exact y|exact⟨by assumption,by assumption,by assumption⟩)
    (first
     |(go_at_call 122;refine(z.out _ ?_).mono ?_;assumption;rintro e w5 ⟨rfl,m⟩))
   have b:Below w.heap.size w w5:=x.out.trans (qc m.2.2 x.out.size);have j:=hid b;have a:=F.out.below b f;have S:=a.c0;have a1:=a.c1;have T:=(N.out.below b (by omega)).err.syn;have t:=hid a;clear m b a z y A B;go_wp2_with fail
   go_quiet ((first|(go_at_call 73;exact zE (SC.out _))|(go_at_call 75;exact zE (G.out _))|(go_at_call 73;exact jz (SC.out _))|(go_at_call 75;exact jz (G.out _))))
   go_wp2_with fail
   refine(zK R s i line v _ _ (by exact t.out)).mono ?_;rintro e w2 ⟨rfl,rfl⟩;go_wp2_with fail
   go_ret
   exact LxRes.mkBad H.out (Below.trans (qc j.out (Nat.le_of_lt f)) ⟨rfl,rfl,rfl,Nat.le_refl _,fun _ _=>rfl⟩) (Nat.le_trans (Nat.le_of_lt f) j.out.size)
  |false=>
   rw[←qK s (i+n) p,u,qK s (i+n) p]at SC
   cases C:qt (pk s (i+n))with
   |true=>
    have H:=hid (q.out.trans (if_pos ⟨p,.inr C⟩));rw[←qK s (i+n) p,C,qK s (i+n) p]at G;clear q u C;go_enter Tryz.func78,Tryz.ntmps78
    go_wp2_with fail
    refine M.out.mono ?_;rintro e V ⟨rfl,U,rfl⟩;go_wp2_with fail
    generalize o:World.drewN _ _=wq;have d:Below w.heap.size w wq:=by rw[←o];exact⟨rfl,rfl,rfl,Nat.le_refl _,fun _ _=>rfl⟩
    have g:=F.out.below d f;have A:=g.c0;have B:=g.c1
    have z:=hid (fun W (h:W.cell? ⟨R,0,none⟩=some (.string s)∧W.cell? ⟨R,1,none⟩=some (.int .i64 i)∧Below wq.heap.size wq W)=>(K W).mono (R':=fun e W'=>e= .returned (.tuple #[.int .i64 k,.bool true])∧(W'.cell? ⟨R,0,none⟩=some (.string s)∧W'.cell? ⟨R,1,none⟩=some (.int .i64 i)∧Below wq.heap.size wq W')) fun e W' ⟨h1,h2⟩=>
     have hz:R<W.heap.size:=Nat.lt_of_lt_of_le (Nat.lt_of_lt_of_le f d.size) h.2.2.size
     ⟨by rw[h1,if_neg (show ¬k<0 by omega),show decide (0≤k)=true by simp;omega],qx h2 h.1 hz,qx h2 h.2.1 hz,h.2.2.trans (qc h2 h.2.2.size)⟩)
    have y:wq.drew.cell? ⟨R,0,none⟩=some (.string s)∧wq.drew.cell? ⟨R,1,none⟩=some (.int .i64 i)∧Below wq.heap.size wq wq.drew:=⟨A,B,(Below.refl _ _).drew⟩
    have x:=hid d;clear o d g
    go_region_held3 (fun W=>W.cell? ⟨R,0,none⟩=some (.string s)∧W.cell? ⟨R,1,none⟩=some (.int .i64 i)∧Below wq.heap.size wq W)
     (first|assumption|exact y|exact⟨by assumption,by assumption,by assumption⟩)
     (first
      |(go_at_call 122;refine(z.out _ ?_).mono ?_;assumption;rintro e w5 ⟨rfl,m⟩))
    have b:Below w.heap.size w w5:=x.out.trans (qc m.2.2 x.out.size);have j:=hid b;have a:=F.out.below b f;have S:=a.c0;have a1:=a.c1;have T:=(N.out.below b (by omega)).err.syn;have t:=hid a;clear m b a z y A B;go_wp2_with fail
    go_quiet ((first|(go_at_call 73;exact zE (SC.out _))|(go_at_call 75;exact zE (G.out _))|(go_at_call 73;exact jz (SC.out _))|(go_at_call 75;exact jz (G.out _))))
    go_wp2_with fail
    refine(zK R s i line v _ _ (by exact t.out)).mono ?_;rintro e w2 ⟨rfl,rfl⟩;go_wp2_with fail
    go_ret
    exact LxRes.mkBad H.out (Below.trans (qc j.out (Nat.le_of_lt f)) ⟨rfl,rfl,rfl,Nat.le_refl _,fun _ _=>rfl⟩) (Nat.le_trans (Nat.le_of_lt f) j.out.size)
   |false=>
    have H:=hid (q.out.trans (if_neg (by rintro⟨_,h|h⟩;rw[u]at h;cases h;rw[C]at h;cases h)));rw[←qK s (i+n) p,C,qK s (i+n) p]at G;clear q u C;go_enter Tryz.func78,Tryz.ntmps78
    go_wp2_with fail
    refine M.out.mono ?_;rintro e V ⟨rfl,U,rfl⟩;go_wp2_with fail
    generalize o:World.drewN _ _=wq;have d:Below w.heap.size w wq:=by rw[←o];exact⟨rfl,rfl,rfl,Nat.le_refl _,fun _ _=>rfl⟩
    have g:=F.out.below d f;have A:=g.c0;have B:=g.c1
    have z:=hid (fun W (h:W.cell? ⟨R,0,none⟩=some (.string s)∧W.cell? ⟨R,1,none⟩=some (.int .i64 i)∧Below wq.heap.size wq W)=>(K W).mono (R':=fun e W'=>e= .returned (.tuple #[.int .i64 k,.bool true])∧(W'.cell? ⟨R,0,none⟩=some (.string s)∧W'.cell? ⟨R,1,none⟩=some (.int .i64 i)∧Below wq.heap.size wq W')) fun e W' ⟨h1,h2⟩=>
     have hz:R<W.heap.size:=Nat.lt_of_lt_of_le (Nat.lt_of_lt_of_le f d.size) h.2.2.size
     ⟨by rw[h1,if_neg (show ¬k<0 by omega),show decide (0≤k)=true by simp;omega],qx h2 h.1 hz,qx h2 h.2.1 hz,h.2.2.trans (qc h2 h.2.2.size)⟩)
    have y:wq.drew.cell? ⟨R,0,none⟩=some (.string s)∧wq.drew.cell? ⟨R,1,none⟩=some (.int .i64 i)∧Below wq.heap.size wq wq.drew:=⟨A,B,(Below.refl _ _).drew⟩
    have x:=hid d;clear o d g
    go_region_held3 (fun W=>W.cell? ⟨R,0,none⟩=some (.string s)∧W.cell? ⟨R,1,none⟩=some (.int .i64 i)∧Below wq.heap.size wq W)
     (first|assumption|exact y|exact⟨by assumption,by assumption,by assumption⟩)
     (first
      |(go_at_call 122;refine(z.out _ ?_).mono ?_;assumption;rintro e w5 ⟨rfl,m⟩))
    have b:Below w.heap.size w w5:=x.out.trans (qc m.2.2 x.out.size);have j:=hid b;have a:=F.out.below b f;have S:=a.c0;have a1:=a.c1;have T:=(N.out.below b (by omega)).err.syn;have t:=hid a;clear m b a z y A B;go_wp2_with fail
    go_quiet ((first|(go_at_call 73;exact zE (SC.out _))|(go_at_call 75;exact zE (G.out _))|(go_at_call 73;exact jz (SC.out _))|(go_at_call 75;exact jz (G.out _))))
    go_wp2_with fail
    refine(xD R s i line l _ ?_ n O P hs ⟨3,0,⟨#[]⟩,3,k,⟨#[]⟩⟩ 0 none 0).mono ?_
    ·exact Z.out.below_self (j.out.trans ⟨rfl,rfl,rfl,Nat.le_refl _,fun _ _=>rfl⟩)
    rintro e w3 ⟨rfl,I,J⟩;go_wp2_with fail
    go_ret
    exact LxRes.mkWord H.out (Below.trans (qc j.out (Nat.le_of_lt f)) (Below.trans (zc (Below.refl _ _) _) I)) J
 ·have X:decide ((i:Int)+(n:Int)<(s.size:Int))=false:=by simp;omega
  have H:=hid (q.out.trans (if_neg (fun h=>p h.1)));clear q;go_enter Tryz.func78,Tryz.ntmps78
  go_wp2_with fail
  refine M.out.mono ?_;rintro e V ⟨rfl,U,rfl⟩;go_wp2_with fail
  generalize o:World.drewN _ _=wq;have d:Below w.heap.size w wq:=by rw[←o];exact⟨rfl,rfl,rfl,Nat.le_refl _,fun _ _=>rfl⟩
  have g:=F.out.below d f;have A:=g.c0;have B:=g.c1
  have z:=hid (fun W (h:W.cell? ⟨R,0,none⟩=some (.string s)∧W.cell? ⟨R,1,none⟩=some (.int .i64 i)∧Below wq.heap.size wq W)=>(K W).mono (R':=fun e W'=>e= .returned (.tuple #[.int .i64 k,.bool true])∧(W'.cell? ⟨R,0,none⟩=some (.string s)∧W'.cell? ⟨R,1,none⟩=some (.int .i64 i)∧Below wq.heap.size wq W')) fun e W' ⟨h1,h2⟩=>
   have hz:R<W.heap.size:=Nat.lt_of_lt_of_le (Nat.lt_of_lt_of_le f d.size) h.2.2.size
   ⟨by rw[h1,if_neg (show ¬k<0 by omega),show decide (0≤k)=true by simp;omega],qx h2 h.1 hz,qx h2 h.2.1 hz,h.2.2.trans (qc h2 h.2.2.size)⟩)
  have y:wq.drew.cell? ⟨R,0,none⟩=some (.string s)∧wq.drew.cell? ⟨R,1,none⟩=some (.int .i64 i)∧Below wq.heap.size wq wq.drew:=⟨A,B,(Below.refl _ _).drew⟩
  have x:=hid d;clear o d g
  go_region_held3 (fun W=>W.cell? ⟨R,0,none⟩=some (.string s)∧W.cell? ⟨R,1,none⟩=some (.int .i64 i)∧Below wq.heap.size wq W)
   (first|assumption|exact y|exact⟨by assumption,by assumption,by assumption⟩)
   (first
    |(go_at_call 122;refine(z.out _ ?_).mono ?_;assumption;rintro e w5 ⟨rfl,m⟩))
  have b:Below w.heap.size w w5:=x.out.trans (qc m.2.2 x.out.size);have j:=hid b;have a:=F.out.below b f;have S:=a.c0;have a1:=a.c1;have T:=(N.out.below b (by omega)).err.syn;have t:=hid a;clear m b a z y A B;go_wp2_with fail
  go_quiet (fail)
  go_wp2_with fail
  refine(xD R s i line l _ ?_ n O P hs ⟨3,0,⟨#[]⟩,3,k,⟨#[]⟩⟩ 0 none 0).mono ?_
  ·exact Z.out.below_self (j.out.trans ⟨rfl,rfl,rfl,Nat.le_refl _,fun _ _=>rfl⟩)
  rintro e w3 ⟨rfl,I,J⟩;go_wp2_with fail
  go_ret
  exact LxRes.mkWord H.out (Below.trans (qc j.out (Nat.le_of_lt f)) (Below.trans (zc (Below.refl _ _) _) I)) J
end Go.Proofs.YtggngahmafbihaaGreatDoor
