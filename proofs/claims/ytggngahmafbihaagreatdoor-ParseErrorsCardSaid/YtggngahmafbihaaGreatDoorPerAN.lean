/- Contracts, and the plain mathematics beneath. -/
import Derived.Test.YtggngahmafbihaaGreatDoorPerAI
set_option linter.unusedVariables false
set_option linter.unusedSimpArgs false
set_option maxRecDepth 100000
set_option maxHeartbeats 2000000
namespace Go.Proofs.YtggngahmafbihaaGreatDoor
open Go.RowKit Go.Lib
theorem Qu{w:World}{a e n j cap:Nat}{A:Option Addr}{xs:List Value}(h:w.ownsRow a e 1 (.slice A n cap) n xs)(k:j≤n):w.ownsRow a e 1 (.slice A j cap) j (xs.take j):=by
 refine⟨by rw[List.length_take,h.1];omega,?_⟩;rcases h.2 with⟨h0,h1⟩|⟨g,d,b,hv,c,f,hn,hm,hc,i⟩
 ·injection h0 with e1 e2 e3
  subst e1;subst e3;obtain rfl:j=0:=by omega
  exact .inl ⟨rfl,rfl⟩
 ·injection hv with e1 e2 e3
  subst e1;subst e3;exact .inr ⟨g,cap,b,rfl,c,f,by omega,hm,hc,by rw[←i,List.take_take,Nat.min_eq_left (by omega),Nat.mul_one]⟩
theorem qc1(ln:Int)(s:ByteArray)(k n:Int)(t:ByteArray)(j:Value)(sa:Option Addr)(m sc:Nat)(w:World)(hm:m≤4096):
 Calls Tryz.prog 150 #[.agg #[.int .i64 29,.int .i64 ln,.string s,.int .i64 k,.int .i64 n,.string t,j,.slice sa m sc]] w (qp w 29 m):=by
 obtain⟨wa,d⟩: ∃wa,wa=w.alloc (.cells #[.int .i64 29,.int .i64 ln,.string s,.int .i64 k,.int .i64 n,.string t,j,.slice sa m sc] 31):=⟨_,rfl⟩
 have hb:Below w.heap.size w wa:=by rw[d];exact(Below.refl _ _).alloc (Nat.le_refl _) _
 have i:NdB wa w.heap.size (.int .i64 29) (.int .i64 ln) (.string s) (.int .i64 k) (.int .i64 n) (.string t) j (.slice sa m sc):=by rw[d];exact NdB.new _ _ _ _ _ _ _ _ _
 have v0:=i.c0;have o:=i.c7;rw[d]at v0 o;have a:=hid hb;have b:=hid d;clear hb i d;have hz:wa.heap.size=w.heap.size+1:=by rw[b.out];simp
 have e:=hid hz;clear hz;by_cases h0:m=0
 ·subst h0
  go_enter Tryz.func150,Tryz.ntmps150
  go_wp2_with fail
  rw[←b.out];go_ret2
  refine⟨_,qo (c:= .nilIface) (by rfl),?_,a.out.alloc a.out.size _⟩;have h:=jf (cs:= #[.int .i64 0,.int .i64 5,.int .i64 0]) (n:=3) wa a.out.size (by decide) rfl;rw[e.out]at h;exact Qu h (by decide:0≤3)
 by_cases h1:m=1
 ·subst h1
  go_enter Tryz.func150,Tryz.ntmps150
  go_wp2_with fail
  rw[←b.out];go_ret2
  refine⟨_,qo (c:= .nilIface) (by rfl),?_,a.out.alloc a.out.size _⟩;have h:=jf (cs:= #[.int .i64 0,.int .i64 5,.int .i64 0]) (n:=3) wa a.out.size (by decide) rfl;rw[e.out]at h;exact Qu h (by decide:1≤3)
 by_cases h2:m=2
 ·subst h2
  go_enter Tryz.func150,Tryz.ntmps150
  go_wp2_with fail
  rw[←b.out];go_ret2
  refine⟨_,qo (c:= .nilIface) (by rfl),?_,a.out.alloc a.out.size _⟩;have h:=jf (cs:= #[.int .i64 0,.int .i64 5,.int .i64 0]) (n:=3) wa a.out.size (by decide) rfl;rw[e.out]at h;exact Qu h (by decide:2≤3)
 by_cases h3:m=3
 ·subst h3
  go_enter Tryz.func150,Tryz.ntmps150
  go_wp2_with fail
  rw[←b.out];go_ret2
  refine⟨_,qo (c:= .nilIface) (by rfl),?_,a.out.alloc a.out.size _⟩;have h:=jf (cs:= #[.int .i64 0,.int .i64 5,.int .i64 0]) (n:=3) wa a.out.size (by decide) rfl;rw[e.out]at h;exact Qu h (by decide:3≤3)
 have p:(3:Int)<(m:Int):=by omega
 have l:min (m:Int) 3=3:=by omega
 have q:((m:Int)==2)=false:=by rw[beq_eq_false_iff_ne];omega
 have r:((m:Int)==3)=false:=by rw[beq_eq_false_iff_ne];omega
 have f:=hid (show(false:Bool)=(qk 29 m).2 by rw[show(qk 29 m).2=(m==2||m==3)from rfl];simp[h2,h3]);have g:=hid (show(qk 29 m).1= [0,5,0]by rw[show(qk 29 m).1= [0,5,0].take (min m 3)from rfl,Nat.min_eq_right (by omega)];rfl);clear h0 h1 h2 h3;go_enter Tryz.func150,Tryz.ntmps150
 go_wp2_with fail
 rw[←b.out];go_ret2
 refine⟨_,qo (c:= .nilIface) (by exact f.out),?_,a.out.alloc a.out.size _⟩;rw[g.out];have h:=jf (cs:= #[.int .i64 0,.int .i64 5,.int .i64 0]) (n:=3) wa a.out.size (by decide) rfl;rw[e.out]at h;exact Qu h (by decide:3≤3)
theorem qaG(ln:Int)(s:ByteArray)(k n:Int)(t:ByteArray)(g:Value)(sa:Option Addr)(m sc:Nat)(w:World)(hm:m≤4096)(op:Int)(a: ¬((1≤op∧op≤29)∨(40≤op∧op≤52))):
 Calls Tryz.prog 150 #[.agg #[.int .i64 op,.int .i64 ln,.string s,.int .i64 k,.int .i64 n,.string t,g,.slice sa m sc]] w (qp w op m):=by
 obtain⟨wa,b⟩: ∃wa,wa=w.alloc (.cells #[.int .i64 op,.int .i64 ln,.string s,.int .i64 k,.int .i64 n,.string t,g,.slice sa m sc] 31):=⟨_,rfl⟩
 have hb:Below w.heap.size w wa:=by rw[b];exact(Below.refl _ _).alloc (Nat.le_refl _) _
 have f:NdB wa w.heap.size (.int .i64 op) (.int .i64 ln) (.string s) (.int .i64 k) (.int .i64 n) (.string t) g (.slice sa m sc):=by rw[b];exact NdB.new _ _ _ _ _ _ _ _ _
 have v0:=f.c0;have W:=f.c7;rw[b]at v0 W;have i:=hid hb;have d:=hid b;clear hb f b;have X:(op==1)=false:=by rw[beq_eq_false_iff_ne];intro e;subst e;exact a (by decide)
 have Y:(op==2)=false:=by rw[beq_eq_false_iff_ne];intro e;subst e;exact a (by decide)
 have Z:(op==3)=false:=by rw[beq_eq_false_iff_ne];intro e;subst e;exact a (by decide)
 have n4:(op==4)=false:=by rw[beq_eq_false_iff_ne];intro e;subst e;exact a (by decide)
 have n5:(op==5)=false:=by rw[beq_eq_false_iff_ne];intro e;subst e;exact a (by decide)
 have n6:(op==6)=false:=by rw[beq_eq_false_iff_ne];intro e;subst e;exact a (by decide)
 have n7:(op==7)=false:=by rw[beq_eq_false_iff_ne];intro e;subst e;exact a (by decide)
 have n8:(op==8)=false:=by rw[beq_eq_false_iff_ne];intro e;subst e;exact a (by decide)
 have n9:(op==9)=false:=by rw[beq_eq_false_iff_ne];intro e;subst e;exact a (by decide)
 have j:(op==10)=false:=by rw[beq_eq_false_iff_ne];intro e;subst e;exact a (by decide)
 have l:(op==11)=false:=by rw[beq_eq_false_iff_ne];intro e;subst e;exact a (by decide)
 have o:(op==12)=false:=by rw[beq_eq_false_iff_ne];intro e;subst e;exact a (by decide)
 have p:(op==13)=false:=by rw[beq_eq_false_iff_ne];intro e;subst e;exact a (by decide)
 have q:(op==14)=false:=by rw[beq_eq_false_iff_ne];intro e;subst e;exact a (by decide)
 have r:(op==15)=false:=by rw[beq_eq_false_iff_ne];intro e;subst e;exact a (by decide)
 have u:(op==16)=false:=by rw[beq_eq_false_iff_ne];intro e;subst e;exact a (by decide)
 have v:(op==17)=false:=by rw[beq_eq_false_iff_ne];intro e;subst e;exact a (by decide)
 have x:(op==18)=false:=by rw[beq_eq_false_iff_ne];intro e;subst e;exact a (by decide)
 have y:(op==19)=false:=by rw[beq_eq_false_iff_ne];intro e;subst e;exact a (by decide)
 have z:(op==20)=false:=by rw[beq_eq_false_iff_ne];intro e;subst e;exact a (by decide)
 have A:(op==21)=false:=by rw[beq_eq_false_iff_ne];intro e;subst e;exact a (by decide)
 have B:(op==22)=false:=by rw[beq_eq_false_iff_ne];intro e;subst e;exact a (by decide)
 have C:(op==23)=false:=by rw[beq_eq_false_iff_ne];intro e;subst e;exact a (by decide)
 have D:(op==24)=false:=by rw[beq_eq_false_iff_ne];intro e;subst e;exact a (by decide)
 have E:(op==25)=false:=by rw[beq_eq_false_iff_ne];intro e;subst e;exact a (by decide)
 have F:(op==26)=false:=by rw[beq_eq_false_iff_ne];intro e;subst e;exact a (by decide)
 have G:(op==27)=false:=by rw[beq_eq_false_iff_ne];intro e;subst e;exact a (by decide)
 have H:(op==28)=false:=by rw[beq_eq_false_iff_ne];intro e;subst e;exact a (by decide)
 have I:(op==29)=false:=by rw[beq_eq_false_iff_ne];intro e;subst e;exact a (by decide)
 have J:(op==40)=false:=by rw[beq_eq_false_iff_ne];intro e;subst e;exact a (by decide)
 have K:(op==41)=false:=by rw[beq_eq_false_iff_ne];intro e;subst e;exact a (by decide)
 have L:(op==42)=false:=by rw[beq_eq_false_iff_ne];intro e;subst e;exact a (by decide)
 have M:(op==43)=false:=by rw[beq_eq_false_iff_ne];intro e;subst e;exact a (by decide)
 have N:(op==44)=false:=by rw[beq_eq_false_iff_ne];intro e;subst e;exact a (by decide)
 have O:(op==45)=false:=by rw[beq_eq_false_iff_ne];intro e;subst e;exact a (by decide)
 have P:(op==46)=false:=by rw[beq_eq_false_iff_ne];intro e;subst e;exact a (by decide)
 have Q:(op==47)=false:=by rw[beq_eq_false_iff_ne];intro e;subst e;exact a (by decide)
 have R:(op==48)=false:=by rw[beq_eq_false_iff_ne];intro e;subst e;exact a (by decide)
 have S:(op==49)=false:=by rw[beq_eq_false_iff_ne];intro e;subst e;exact a (by decide)
 have T:(op==50)=false:=by rw[beq_eq_false_iff_ne];intro e;subst e;exact a (by decide)
 have U:(op==51)=false:=by rw[beq_eq_false_iff_ne];intro e;subst e;exact a (by decide)
 have V:(op==52)=false:=by rw[beq_eq_false_iff_ne];intro e;subst e;exact a (by decide)
 have h:=hid (show qk op m=([],false)by
  unfold qk;have hx: ¬((1≤op∧op≤29)∨(40≤op∧op≤52)):=a
  iterate 17 rw[if_neg (by omega)])
 clear a;go_enter Tryz.func150,Tryz.ntmps150
 go_wp2_with fail
 rw[←d.out];go_ret2
 exact⟨_,qo (c:= .nilIface) (by rw[h.out]),by rw[h.out];exact World.ownsRow_nil _ _ _ _,i.out⟩
end Go.Proofs.YtggngahmafbihaaGreatDoor
