/- What the handle of the type error in a row's list gives a walk. -/
import Derived.Test.YtpeidlcjlfkpcaaGreatDoorB41
import Derived.Test.YtpeidlcjlfkpcaaGreatDoorRows
set_option linter.all false
namespace Go.Ab
open Go.Proofs
variable [Base]
theorem Jp:((List.range (Tryz.prog).types.size).filter fun t=>(Tryz.prog).rowNamed t [101,114,114,111,114])=[39]:=by kernel_rfl
theorem Jq {W:World}(h:handlesMet Tryz.prog [("errors.errorType",Go.Proofs.YtpeidlcjlfkpcaaGreatDoor.Rows.laid_errors_errorType)] W):∃(T:TypeId) (fz:Nat×Nat),W.heap[1]? = some (.cells #[errT] T fz):=by
 obtain⟨name,u,ty,e1,e2,e3,e4,e5⟩:=h _ (ar.2 rfl);have en:name=[101,114,114,111,114]:=(bZ e1).symm;subst en;obtain rfl:=bZ ((show _=some 205 by kernel_rfl).symm.trans e2);have hm:ty∈(List.range (Tryz.prog).types.size).filter fun t=>(Tryz.prog).rowNamed t [101,114,114,111,114]:=cW.2 ⟨dE.2 e3,e4⟩
 rw [Jp]at hm;obtain rfl:=ar.1 hm;have hG:(Tryz.prog).globalNamed "errors.errorType" = some 1:=by kernel_rfl
 unfold World.var? at e5;rw [hG]at e5;simp only [vF]at e5;cases hh:W.heap[1]? with
 |none=>rw [hh]at e5;cases e5
 |some o =>
  rw [hh]at e5;cases o with
  |cells cs T fz =>
   simp only [bM]at e5;subst e5;exact⟨T,fz,rfl⟩
  |_=>cases e5
end Go.Ab
