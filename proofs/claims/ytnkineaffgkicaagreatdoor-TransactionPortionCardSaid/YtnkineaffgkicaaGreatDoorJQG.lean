/- A part of the proof. -/
import Derived.Test.YtnkineaffgkicaaGreatDoorRows
import Derived.Test.YtnkineaffgkicaaGreatDoorCards
import GoSem.ClaimSeven
import Derived.KernelRfl
set_option maxHeartbeats 0
set_option maxRecDepth 100000
namespace Go.Proofs.YtnkineaffgkicaaGreatDoor
open Go
theorem Wm:(Tryz.prog.funcs.toList.all λ f=> !f.goes)=true:=by kernel_rfl
theorem Tr (f:FuncId):Tryz.prog.goes f=false:=by
 have h:∀g:FuncId,(Tryz.prog.funcs[g]?).any Func.goes=false:=by
  intro g;cases b:Tryz.prog.funcs[g]? with
  | none=>rfl
  | some d=>
   have:=List.all_eq_true.1 Wm d (Array.mem_toList_iff.2 (Array.mem_of_getElem? b));simpa using this
 have c:Tryz.prog.funcs.any Func.goes=false:=by
  rw[Bool.eq_false_iff];intro a;rw[Array.any_eq_true]at a;obtain⟨i,e,a⟩:=a;have:=List.all_eq_true.1 Wm Tryz.prog.funcs[i] (by simp);simp[a]at this
 unfold Program.goes;rw[c,Bool.and_false,Bool.or_false,Bool.eq_false_iff];intro a;rw[List.any_eq_true]at a;obtain⟨g,_,b⟩:=a;rw[h g]at b;cases b
end Go.Proofs.YtnkineaffgkicaaGreatDoor
