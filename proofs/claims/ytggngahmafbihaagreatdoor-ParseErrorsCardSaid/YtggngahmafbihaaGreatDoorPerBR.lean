/- Contracts, and the plain mathematics beneath. -/
import Derived.Test.YtggngahmafbihaaGreatDoorPerBF
import Derived.Test.YtggngahmafbihaaGreatDoorPerBD
import Derived.Test.YtggngahmafbihaaGreatDoorPerBE
set_option linter.unusedVariables false
set_option linter.unusedSimpArgs false
namespace Go.Proofs.YtggngahmafbihaaGreatDoor
open Go.RowKit Go.Lib
section
def mkS(ln:Int)(x:NL×ByteArray×Int×PS):Option (NL×PS):=some (nd x.2.2.1 ln x.2.1 0 0 ⟨#[]⟩ x.1,x.2.2.2)
section
variable {l : List Tok} {f : Nat} {p : PS}
theorem qgu(h1:qj l p [98,114,101,97,107]=false)(h2:qj l p [99,111,110,116,105,110,117,101]=false)(h3:qj l p [114,101,116,117,114,110]=false)(h4:qj l p [105,102]=true):
 qa l (f+1) .stmt p=(Jw l f (qb p)).bind (mkS (qd l p)):=by
 rw[qa];simp only[h1,h2,h3,h4,Bool.false_eq_true,if_false,if_true];unfold Jw
 cases qa l f (.ifsL .nil) (qb p)with
 |none=>rfl
 |some a=>
  obtain⟨x,c⟩:=a;simp only[Option.bind]
  cases qj l c xq with
  |true=>
   simp only[if_true]
   cases qa l f (.block [zI]) (qb c)with
   |none=>rfl
   |some b=>rfl
  |false=>rfl
theorem qgR{x:NL}{s:ByteArray}{o:Int}{q:PS}(h:Jw l f p=some (x,s,o,q)):o=41:=by
 unfold Jw at h
 cases h1:qa l f (.ifsL .nil) p with
 |none=>rw[h1]at h;cases h
 |some a=>
  obtain⟨x,c⟩:=a;rw[h1]at h;simp only[Option.bind]at h
  cases h2:qj l c xq with
  |true=>
   rw[h2,if_pos rfl]at h
   cases h3:qa l f (.block [zI]) (qb c)with
   |none=>rw[h3]at h;cases h
   |some b=>
    rw[h3]at h;simp only[Option.some.injEq,Prod.mk.injEq]at h;exact h.2.2.1.symm
  |false=>
   rw[h2,if_neg (by decide)]at h;simp only[Option.some.injEq,Prod.mk.injEq]at h;exact h.2.2.1.symm
theorem qeP(h1:qj l p [98,114,101,97,107]=false)(h2:qj l p [99,111,110,116,105,110,117,101]=false)(h3:qj l p [114,101,116,117,114,110]=false)(h4:qj l p [105,102]=false)(h5:qj l p [102,111,114]=true):
 qa l (f+1) .stmt p=(Zk l f (qb p)).bind (mkS (qd l p)):=by
 rw[qa];simp only[h1,h2,h3,h4,h5,Bool.false_eq_true,if_false,if_true];unfold Zk xc;obtain⟨s,d⟩:=qE l (qb p);dsimp only
 cases qj l (qf l d [105,110]) [91]with
 |true=>
  simp only[if_true]
  cases(qh (qb (qf l d [105,110]))).err.isNone with
  |true=>
   simp only[if_true]
   cases qa l f .expr (qh (qb (qf l d [105,110])))with
   |none=>rfl
   |some a=>
    obtain⟨x,e⟩:=a;simp only[Option.bind]
    cases qa l f .expr (qf l e [46,46])with
    |none=>rfl
    |some b=>
     obtain⟨y,g⟩:=b;simp only[]
     cases qa l f (.block [zM]) (qf l (qu g) [93])with
     |none=>rfl
     |some c=>rfl
  |false=>
   simp only[Bool.false_eq_true,if_false]
   cases qa l f (.block [zM]) (qf l (qu (qh (qb (qf l d [105,110])))) [93])with
   |none=>rfl
   |some c=>rfl
 |false=>
  simp only[Bool.false_eq_true,if_false]
  cases qa l f .head (qf l d [105,110])with
  |none=>rfl
  |some a=>
   obtain⟨x,e⟩:=a;simp only[Option.bind]
   cases qa l f (.block [zM]) e with
   |none=>rfl
   |some c=>rfl
theorem Jz{s s':ByteArray}{o o':Int}{n x:NL}{q:PS}(h:xc l f s o n p=some (x,s',o',q)):o'=o:=by
 unfold xc at h
 cases h3:qa l f (.block [zM]) p with
 |none=>rw[h3]at h;cases h
 |some b=>
  rw[h3]at h;simp only[Option.bind,Option.some.injEq,Prod.mk.injEq]at h;exact h.2.2.1.symm
theorem qfJ{x:NL}{s:ByteArray}{o:Int}{q:PS}(h:Zk l f p=some (x,s,o,q)):o=42∨o=43:=by
 unfold Zk at h;dsimp only at h
 cases h2:qj l (qf l (qE l p).2 [105,110]) [91]with
 |true=>
  rw[h2,if_pos rfl]at h
  cases h3:(qh (qb (qf l (qE l p).2 [105,110]))).err.isNone with
  |true=>
   rw[h3,if_pos rfl]at h
   cases h4:qa l f .expr (qh (qb (qf l (qE l p).2 [105,110])))with
   |none=>rw[h4]at h;cases h
   |some a=>
    rw[h4]at h;simp only[Option.bind]at h
    cases h5:qa l f .expr (qf l a.2 [46,46])with
    |none=>rw[h5]at h;cases h
    |some b=>rw[h5]at h;exact .inr (Jz h)
  |false=>
   rw[h3,if_neg (by decide)]at h;exact .inr (Jz h)
 |false=>
  rw[h2,if_neg (by decide)]at h
  cases h4:qa l f .head (qf l (qE l p).2 [105,110])with
  |none=>rw[h4]at h;cases h
  |some a=>rw[h4]at h;exact .inl (Jz h)
theorem qeQ(h1:qj l p [98,114,101,97,107]=false)(h2:qj l p [99,111,110,116,105,110,117,101]=false)(h3:qj l p [114,101,116,117,114,110]=false)(h4:qj l p [105,102]=false)(h5:qj l p [102,111,114]=false)(h6:qj l p [119,104,105,108,101]=false)(h7:qj l p [102,111,114,107]=false)(h8:qj l p [116,114,121]=true):
 qa l (f+1) .stmt p=(Q5 l f (qb p)).bind (mkS (qd l p)):=by
 rw[qa];simp only[h1,h2,h3,h4,h5,h6,h7,h8,Bool.false_eq_true,if_false,if_true];unfold Q5
 cases qa l f (.block [zO,z8]) (qb p)with
 |none=>rfl
 |some a=>
  obtain⟨x,c⟩:=a;simp only[Option.bind]
  cases qj l c z8 with
  |true=>
   simp only[if_true]
   cases qa l f (.block [zl]) (qb c)with
   |none=>rfl
   |some b=>rfl
  |false=>
   simp only[Bool.false_eq_true,if_false]
   cases qa l f (.tryL .nil) c with
   |none=>rfl
   |some b=>rfl
theorem qhd{x:NL}{s:ByteArray}{o:Int}{q:PS}(h:Q5 l f p=some (x,s,o,q)):o=49∨o=51:=by
 unfold Q5 at h
 cases h1:qa l f (.block [zO,z8]) p with
 |none=>rw[h1]at h;cases h
 |some a=>
  rw[h1]at h;simp only[Option.bind]at h
  cases h2:qj l a.2 z8 with
  |true=>
   rw[h2,if_pos rfl]at h
   cases h3:qa l f (.block [zl]) (qb a.2)with
   |none=>rw[h3]at h;cases h
   |some b=>
    rw[h3]at h;simp only[Option.some.injEq,Prod.mk.injEq]at h;exact .inr h.2.2.1.symm
  |false=>
   rw[h2,if_neg (by decide)]at h
   cases h3:qa l f (.tryL .nil) a.2 with
   |none=>rw[h3]at h;cases h
   |some b=>
    rw[h3]at h;simp only[Option.some.injEq,Prod.mk.injEq]at h;exact .inl h.2.2.1.symm
theorem ZF{a:Option (NL×ByteArray×Int×PS)}{ln:Int}{r:NL×PS}(h:a.bind (mkS ln)=some r): ∃x s o q,a=some (x,s,o,q)∧r=(nd o ln s 0 0 ⟨#[]⟩ x,q):=by
 cases a with
 |none=>cases h
 |some y=>
  obtain⟨x,s,o,q⟩:=y;exact⟨x,s,o,q,rfl,(Option.some.inj h).symm⟩
end
end
end Go.Proofs.YtggngahmafbihaaGreatDoor
