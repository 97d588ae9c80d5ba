/- A part of the proof. -/
import Derived.Test.YtnkineaffgkicaaGreatDoorH1
import Derived.Sort.Grow
set_option maxHeartbeats 0
set_option maxRecDepth 100000
set_option linter.unusedVariables false
set_option linter.defProp false
namespace Go.Vc
open Go Go.RowKit
section
variable {a:Program}
def LV {d:Type}:∀(k:Ask d) (w:World),w.drawn<=(w.ask k).2.drawn:=by
 intro k;induction k with
 | done a=>exact λ w=>aaB _
 | ask c b k e=>
  simp only[World.ask];grind
def LW (w:World)(c:Sys):w.drawn<=(w.sys c).2.drawn:=by
 have h:=LV (Kernel.perform c w.os) w;unfold World.sys;grind
def xh {w w2:World}{at_:Addr}{u:TypeId}{c:Addr}{v:Value}{b:Bool}{l:List Addr}(h:w.viewStore a at_ u c v b= .ok (w2,l)):w.drawn<=w2.drawn:=by
 unfold World.viewStore at h;simp[bind,Except.bind,pure,Except.pure]at h;repeat' (split at h)
 all_goals first
  |(cases h;done)
  | grind
def yk {w w2:World}{c:Addr}{v:Value}{b:Bool}{l:List Addr}(h:w.farStore a c v b= .ok (w2,l)):w.drawn<=w2.drawn:=by
 unfold World.farStore at h;split at h
 .split at h
  .rename_i d;simp at h;rw[h]at d;exact xh d
  grind
 grind
def qK {j:Type}{r:j}:∀{s:Sem j} {w f:World},s.run a w= .ok r f->w.drawn<=f.drawn:=by
 intro s;induction s with
 | pure d=>simp
 | load m d k e=>
  intro w f h;simp[Sem.run]at h;grind
 | store m d v k e=>
  intro w f h;have i:∀{g:World},(match w.cell? d with
   | some _=>if w.frozen? d then Result.halt (.unsupported (.unsafePointer "a write to bytes that a string shares")) w else k.run a (w.setCell d v)
   | none=>match w.farStore a d v (m==Mode.atomic)with
    | .ok (w,_)=>k.run a w
    | .error h=> .halt h w)= .ok r g->w.drawn<=g.drawn:=by
   intro g h;split at h
   .split at h
    .grind
    .exact e (w:=w.setCell d v) h
   .split at h
    .rename_i w2 l p;exact aax (yk p) (e h)
    grind
  cases v;case agg=>simp only[Sem.run]at h;grind
  case tuple=>simp only[Sem.run]at h;grind
  all_goals exact i h
 | new o k e=>intro w f h;exact e _ (w:={w with heap:=w.heap.push o}) h
 | shape r k e=>intro w f h;exact e _ h
 | freeze d n k e=>
  intro w f h;have:=e (w:=w.freeze d n) h;unfold World.freeze at this;grind
 | frozen d k e=>intro w f h;exact e _ h
 | getObj r k e=>
  intro w f h;simp[Sem.run]at h;grind
 | setObj b o k e=>
  intro w f h;simp[Sem.run]at h;grind
 | choose q k e=>
  intro w f h;simp only[Sem.run]at h;grind
 | sys c k e=>intro w f h;exact aax (LW w c) (e _ h)
 | program k e=>intro w f h;exact e _ h
 | mark m k e=>intro w f h;exact e h
 | halt t=>simp
structure lC (w w':World)(row:Option Nat):Prop extends World.grownBy w w' row where
 drawn:w.drawn<=w'.drawn
def lC.refl (w:World)(a:Option Nat):lC w w a:=⟨World.grownBy.refl w a,aaB _⟩
def lC.alloc (w:World)(o:Obj)(a:Option Nat):lC w (w.alloc o) a:=⟨World.grownBy_alloc w o a,aaB _⟩
end
end Go.Vc
