/- A part of the proof. -/
import Derived.Test.YtnkineaffgkicaaGreatDoorH24
import Derived.Test.YtnkineaffgkicaaGreatDoorH31
import Derived.Test.YtnkineaffgkicaaGreatDoorRows
import Derived.ProofKit
import Derived.LaidMore
import Derived.Stop.Joined
import Derived.Lib.LaidTab
import Derived.MakeChecks
set_option maxHeartbeats 0
set_option maxRecDepth 100000
set_option linter.unusedVariables false
set_option linter.defProp false
namespace Go.Vc
open Go Go.Proofs
abbrev Ip:List (String×DataW Unit):=[("math/bits.deBruijn32tab",YtnkineaffgkicaaGreatDoor.Rows.laid_math_bits_deBruijn32tab),("math/bits.deBruijn64tab",YtnkineaffgkicaaGreatDoor.Rows.laid_math_bits_deBruijn64tab),("internal/strconv.uint64pow10",YtnkineaffgkicaaGreatDoor.Rows.laid_internal_strconv_uint64pow10)]
def Rp (b:Os)(a:Array Value):laidMetH Tryz.prog Ip ((World.doorLaid Tryz.prog 400 b).forCall (λ _ _=>0) ⟨#[],a,[]⟩).memory:=
 laidMetH_of_parts3 (fuel:=80) (laidMet_of_run' 80 (by kernel_rfl) (by kernel_rfl)) (by rfl) (by rfl)
def SX {W:World}(h:laidMetH Tryz.prog Ip W):xE W:=by
 rw[MakeChecks.laidMetH_plain _ _ _ (by kernel_rfl)]at h;obtain⟨y,⟨A,C,l,w,H,u,q,r,n,s,⟨E,F,p,z,D,B,k,o,g,m,⟨x,t,f,G,v,I,c,d,b,a,_,_⟩,_⟩,_⟩,_,_⟩:=h;have j:Tryz.prog.globalNamed "internal/strconv.uint64pow10"=some 1:=by kernel_rfl
 have i:(Tryz.prog.globals[1]?).map (·.type)=some 495:=by kernel_rfl
 obtain rfl:=abC (j.symm.trans c);obtain rfl:=abC (i.symm.trans d);unfold xE Lib.TabIs;rw[b];have e:YtnkineaffgkicaaGreatDoor.Rows.laid_internal_strconv_uint64pow10=(Lib.tabData .u64 Lib.pow10Tab:DataW Unit):=rfl;rw[e]at a;rw[<-Lib.cells_of_tab Tryz.underlying495 Tryz.underlying406 (by kernel_rfl) (by kernel_rfl) a]
def SY {W:World}(h:xE W):mr (mw W):=by
 unfold xE Lib.TabIs World.var? at h;rcases b:Tryz.prog.globalNamed "internal/strconv.uint64pow10" with _ | g
 .grind
 .rw[b]at h;simp at h;split at h
  .rename_i d t c a;refine⟨g,b,λ i f=>?_,Wk,rfl,?_⟩
   .refine xe ?_ (by rfl);rw[Lib.cell_of_heap a];grind
   .have e:W.cell? ⟨g,Lib.pow10Tab.length,none⟩=none:=by
     rw[Lib.cell_of_heap a];grind
    unfold mw;grind
  grind
end Go.Vc
