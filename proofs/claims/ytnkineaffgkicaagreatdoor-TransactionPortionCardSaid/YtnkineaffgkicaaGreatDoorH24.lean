/- A part of the proof. -/
import Derived.Test.YtnkineaffgkicaaGreatDoorH22
import Derived.Test.YtnkineaffgkicaaGreatDoorH23
import Derived.Test.YtnkineaffgkicaaGreatDoorH11
import Derived.Shelf.Strconv.Itoa4
set_option maxHeartbeats 0
set_option maxRecDepth 100000
set_option linter.unusedVariables false
set_option linter.defProp false
namespace Go.Vc
open Go Go.Shelf Go.Proofs Go.RowKit
def QE:Go.Shelf.Ren:=⟨λ | 171=>179 | 243=>243 | 246=>244 | 283=>319 | 284=>320 | 285=>321 | 286=>322 | 129=>316 | 317=>411 | 318=>412 | 319=>413 | 320=>414 | 337=>480 | 338=>481 | n=>n,λ | 3=>3 | 9=>9 | 2=>2 | 4=>4 | 171=>410 | 0=>0 | 53=>406 | 37=>257 | 5=>5 | 173=>412 | 212=>495 | 51=>404 | 20=>20 | 213=>496 | 46=>310 | 232=>597 | 233=>598 | n=>n,λ | 17=>1 | 18=>2 | 19=>3 | n=>n⟩
def WQ:LaysM.n171 Tryz.prog QE:=by
 constructor<;>first | kernel_rfl |(constructor<;>first | kernel_rfl | exact λ _=>by kernel_rfl | exact ab3 (by kernel_rfl) (by kernel_rfl))
def QF:Go.Shelf.Ren:=⟨λ | 173=>180 | 246=>244 | 283=>319 | 284=>320 | 285=>321 | 286=>322 | 129=>316 | 317=>411 | 318=>412 | 319=>413 | 320=>414 | 337=>480 | 338=>481 | n=>n,λ | 2=>2 | 3=>3 | 9=>9 | 4=>4 | 171=>410 | 0=>0 | 53=>406 | 37=>257 | 5=>5 | 173=>412 | 212=>495 | 51=>404 | 20=>20 | 213=>496 | 46=>310 | 232=>597 | 233=>598 | n=>n,λ | 17=>1 | 18=>2 | 19=>3 | n=>n⟩
def WR:LaysM.n173 Tryz.prog QF:=by
 constructor<;>first | kernel_rfl |(constructor<;>first | kernel_rfl | exact λ _=>by kernel_rfl | exact ab3 (by kernel_rfl) (by kernel_rfl))
def mr (H:Heap):Prop:=∃g,Tryz.prog.globalNamed "internal/strconv.uint64pow10"=some g/\(∀i (h:i<Lib.pow10Tab.length),H g i=some (.int .u64 Lib.pow10Tab[i]))/\∃v,yl v=true/\H g Lib.pow10Tab.length=some v
def mr.mono {H b:Heap}(h:mr H)(a:Heap.le H b):mr b:=by
 obtain⟨g,e,c,v,f,d⟩:=h;exact⟨g,e,λ i j=>a _ _ _ (c i _),v,f,a _ _ _ d⟩
abbrev xE (w:World):Prop:=Lib.TabIs Tryz.prog w "internal/strconv.uint64pow10" .u64 Lib.pow10Tab
def mr.tab {H:Heap}{w:World}(h:mr H)(b:ct H w):xE w:=by
 obtain⟨g,k,e,v,m,j⟩:=h;have d:=b _ _ _ j;rw[seen,m]at d;obtain⟨o,t,n,c,p⟩:=d;unfold xE Lib.TabIs World.var?;rw[k];simp[c];apply Array.ext
 .grind
 .intro i q f;have a:i<Lib.pow10Tab.length:=by grind
  have l:=(b _ _ _ (e i a)).cell (by rfl);rw[Lib.cell_of_heap c]at l;grind
def NS (n:Int)(h:ae .i64 n)(w:World)(c:xE w):Calls Tryz.prog 179 #[Φi n] w λ e a=>e= .returned (.string ⟨(Lib.itoa n).toArray⟩)/\Below w.heap.size w a/\w.drawn<=a.drawn:=by
 refine(Any.strconv_Itoa WQ n (by omega) (by omega) w c).mono ?_;rintro e a ⟨rfl,k,d,rfl⟩;exact⟨rfl,⟨rfl,rfl,rfl,by simp,λ j b=>by simp[Sort.grow,acn,b]⟩,acp _ _⟩
def QG (n:Int)(h:ae .i64 n)(w:World)(c:xE w):Calls Tryz.prog 180 #[Φi n,Φi 10] w λ e a=>e= .returned (.string ⟨(Lib.itoa n).toArray⟩)/\Below w.heap.size w a/\w.drawn<=a.drawn:=by
 refine(Any.strconv_FormatInt_10 WR n (by omega) (by omega) w c).mono ?_;rintro e a ⟨rfl,k,d,rfl⟩;exact⟨rfl,⟨rfl,rfl,rfl,by simp,λ j b=>by simp[Sort.grow,acn,b]⟩,acp _ _⟩
end Go.Vc
