/- Contracts of the functions that the statement reaches, and the plain mathematics beneath: several texts joined. -/
import Derived.Test.YtggngahmafbihaaGreatDoorPbiBD
import Derived.Test.YtggngahmafbihaaGreatDoorPbiAU
import Derived.Test.YtggngahmafbihaaGreatDoorPbiAW
import Derived.Test.YtggngahmafbihaaGreatDoorPbiBF
import Derived.Test.YtggngahmafbihaaGreatDoorPbiBE
import Derived.Test.YtggngahmafbihaaGreatDoorPbiBC
import Derived.Test.YtggngahmafbihaaGreatDoorPbiAS
namespace Go.Proofs.YtggngahmafbihaaGreatDoor
open Go.RowKit Go.Lib
set_option linter.unusedVariables false

theorem node_zero {X : PCtx} {fn : Nat} {args : Array Value} {rq : Req} {f : Nat} (h : f ≤ 0) : NodeC X fn args rq f := fun w p r _ _ _ hr => by
  obtain rfl : f = 0 := by omega
  rw [prsR] at hr; cases hr
theorem list_zero {X : PCtx} {fn : Nat} {args : Array Value} {rq : Req} {f : Nat} (h : f ≤ 0) : ListC X fn args rq f := fun w p r _ _ _ hr => by
  obtain rfl : f = 0 := by omega
  rw [prsR] at hr; cases hr
theorem beh_zero {X : PCtx} {f : Nat} (h : f ≤ 0) : BehC X f := fun op ln s k n t va vc V sub D w p r _ _ _ _ _ _ _ _ hr => by
  obtain rfl : f = 0 := by omega
  rw [prsR] at hr; cases hr
theorem ec_zero (X : PCtx) : EC X 0 :=
  ⟨fun f h => node_zero h, fun f h => node_zero h, fun f h k _ => node_zero h, fun f h => node_zero h, fun f h => node_zero h, fun f h => beh_zero h, fun f h e => list_zero h, fun f h => list_zero h, fun f h => node_zero h, fun f h => node_zero h, fun f h e => node_zero h, fun f h l => node_zero h⟩
theorem le_or {f F : Nat} (h : f ≤ F + 1) : f ≤ F ∨ f = F + 1 := by omega
theorem ec_succ (X : PCtx) (F : Nat) (hF : F ≤ 1000000000) (ih : EC X F) : EC X (F + 1) where
  expr f h := by rcases le_or h with h | rfl; exact ih.expr f h; exact expr_step X F hF ih
  cond f h := by rcases le_or h with h | rfl; exact ih.cond f h; exact cond_step X F hF ih
  two f h k hk := by rcases le_or h with h | rfl; exact ih.two f h k hk; exact two_step X F hF ih k hk
  one f h := by rcases le_or h with h | rfl; exact ih.one f h; exact one_step X F hF ih
  part f h := by rcases le_or h with h | rfl; exact ih.part f h; exact part_step X F hF ih
  behind f h := by rcases le_or h with h | rfl; exact ih.behind f h; exact behind_step X F hF ih
  items f h e := by rcases le_or h with h | rfl; exact ih.items f h e; exact items_step X F hF ih e
  row f h := by rcases le_or h with h | rfl; exact ih.row f h; exact row_step X F hF ih
  codes f h := by rcases le_or h with h | rfl; exact ih.codes f h; exact codes_step X F hF ih
  first f h := by rcases le_or h with h | rfl; exact ih.first f h; exact first_step X F hF ih
  within f h e := by rcases le_or h with h | rfl; exact ih.within f h e; exact within_step X F hF ih e
  caught f h ln := by rcases le_or h with h | rfl; exact ih.caught f h ln; exact caught_step X F hF ih ln
theorem ec_all (X : PCtx) : ∀ F, F ≤ 1000000001 → EC X F
  | 0, _ => ec_zero X
  | F + 1, h => ec_succ X F (by omega) (ec_all X F (by omega))
/-- The parser's expr, whatever the fuel. -/
theorem expr_all (X : PCtx) (f : Nat) (hf : f ≤ 1000000000) (w : World) (p : PS) (r : NL × PS) (h : PSt w X p) (h0 : 0 ≤ p.deep) (h1 : p.deep ≤ 160) (hr : prsR X.l f .expr p = some r) :
    Calls Tryz.prog 26 #[.pointer (some ⟨X.P, 0, none⟩)] w (PNd X (fun k => w.heap.size ≤ k) w p f r) :=
  (ec_all X f (by omega)).expr f (Nat.le_refl _) w p r h h0 h1 hr
end Go.Proofs.YtggngahmafbihaaGreatDoor
