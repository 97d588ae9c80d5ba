/- A part of the proof. -/
import Derived.Test.YtnkineaffgkicaaGreatDoorH10
import Derived.Shelf.Strings.BuilderK
import Derived.BigCall
set_option maxHeartbeats 0
set_option maxRecDepth 100000
set_option linter.unusedVariables false
set_option linter.defProp false
namespace Go.Vc
open Go Go.Shelf Go.Proofs Go.RowKit
def HG:Go.Shelf.Ren:=⟨λ | 240=>242 | 276=>318 | n=>n,λ | 0=>0 | 4=>4 | 9=>9 | 20=>20 | 37=>257 | 5=>5 | 70=>256 | 72=>259 | 164=>408 | n=>n,λ n=>n⟩
def VO:Lays.n240 Tryz.prog HG:=by
 constructor<;>first | kernel_rfl | exact λ _=>by kernel_rfl | exact ab3 (by kernel_rfl) (by kernel_rfl)
def VP:Builder.X72 Tryz.prog HG where
 sizeBuilder:=by kernel_rfl
 liesBuilder:=by kernel_rfl
def SF {P:Program}{k:Array Oper}{c:List Oper}{o:Oper}{a:Act}{w:World}{Q:Exit->Act->World->Prop}(l:o.guard=none)(r x:Operand)(t u:TypeId)
  (G:o.op= .call {callee:= .builtin .append,args:=#[r,x],argTypes:=#[t,u]}) (b:Nat) (e:TypeId) (i:TypeInfo) (C:P.underlying t=some (.slice e)) (H:P.underlying u=some .string)
  (L:P.info? e=some i) (F:i.zero=some (.int .u8 0)) (d:i.size=1) (q:i.bytes=1) (v:Value) (n:Nat) (z:G') (J:a.eval r=v) (g:w.ownsRowF b e 1 v n z) (s:ByteArray)
  (M:a.eval x= .string s) (p:n+s.size<=maxLen) (D:n+s.size<=140737488355328) (f:b<=w.heap.size)
  (h:∀m j,j.ownsRowF b e 1 m (n+s.size) (z++Lib.strCells s)->w.grownBy j v.ownBlock->w.drawn<=j.drawn->wpList P k Q c (a.put o.dst m) j):wpList P k Q (o::c) a w:=by
 refine wpList_plain l λ K E=>?_;obtain⟨m,j,y,B,I,-⟩:=Lib.run_append_own_stringF (P:=P) w _ t u o.type e i C H L F d q v n _ g s p D f;have A:=qK y;unfold Oper.wp execOp;simp[G,resolve,invoke,builtin,J,M,y];exact E _ _ (h _ _ B I A)
abbrev TB:TypeId:=259
abbrev T8:TypeId:=5
def NP (B b:Nat)(c:G')(w:World)(h:Lib.IsBuilderF TB T8 B b c w):
  Calls Tryz.prog 242 #[.pointer (some ⟨b,0,none⟩)] w λ e a=>e= .returned (.tuple #[])/\Lib.BuilderAtF TB T8 B b (.pointer (some ⟨b,0,none⟩)) c a/\Below B w a/\Lib.OthersKept T8 (some b) w a/\w.drawn<=a.drawn:=by
 rcases h with h | h
 .refine(Any.Builder_copyCheck_fresh VO VP b w h.cell0 h.shape h.frozen0).mono ?_;rintro e a ⟨rfl,rfl⟩;exact⟨rfl,h.used _,(adI B w).setCell (p:=⟨b,0,none⟩) h.1 _,(Lib.OthersKept.refl _ _ w).setCell ⟨b,0,none⟩ rfl _,aaB _⟩
 .refine(Any.Builder_copyCheck_used VO VP b w h.cell0).mono ?_;rintro e a ⟨rfl,rfl⟩;exact⟨rfl,h,adI B _,Lib.OthersKept.refl _ _ _,aaB _⟩
def NQ:(Tryz.prog.info? T8).map (λ i=>(i.zero,i.size,i.bytes))=some (some (.int .u8 0),1,1):=by kernel_rfl
def NR (B b:Nat)(m:G')(s:ByteArray)(w:World)(h:Lib.IsBuilderF TB T8 B b m w)(E:m.length+s.size<=140737488355328)(R:B<=w.heap.size):
  Calls Tryz.prog 178 #[.pointer (some ⟨b,0,none⟩),ΦT s] w λ e l=>e= .returned (.tuple #[Φi s.size,.nilIface])/\Lib.BuilderAtF TB T8 B b (.pointer (some ⟨b,0,none⟩)) (m++Lib.strCells s) l/\Below B w l/\Lib.OthersKept T8 (some b) w l/\w.drawn<=l.drawn:=by
 obtain⟨i0,T,t,u,x⟩:=info_parts NQ;go_enter Tryz.func178,Tryz.ntmps178;go_wp2_with (go_at_call 242;refine(NP B b _ _ h).mono ?_);rintro e G ⟨rfl,P,z,r,y⟩;obtain⟨F,v,i,c,q⟩:=P;have c1:G.cell? ⟨b,1,none⟩=some v:=by rw[Lib.cell_of_heap i];rfl
 go_wp2_with (at_builtin;refine SF rfl _ _ _ 9 rfl B T8 _ Tryz.underlying257 Tryz.underlying9 T t u x _ _ _ rfl c s rfl ?c3 ?c4 ?c5 ?_);case c3=>unfold maxLen;omega
 case c4=>omega
 case c5=>grind
 intro H w2 d a n;have o:=(aaA.1 i).1;have j:=(a.block b o (λ e=>q e.symm)).trans i;have d1:w2.cell? ⟨b,1,none⟩=some v:=by rw[Lib.cell_of_heap j];rfl
 have Z:=Lib.frozen_of_heap j 1;obtain⟨D,A,f,rfl⟩:∃D A f,H= .slice D A f:=by
  rcases d.2 with⟨X,_⟩ |⟨g,f,Q,Y,X,_⟩
  .grind
  grind
 go_wp2;go_ret2;refine⟨rfl,Lib.BuilderAtF.put F j (bs':=m++Lib.strCells s) (by simpa[Lib.strCells_length]using d) (by grind),?_,(r.grown a (Lib.ownsRowF_kind c)).setCell _ rfl _,aax y n⟩;exact(z.grown a (by grind) (λ k K=>(c.lt k K).1)).setCell (p:=⟨b,1,none⟩) F _
def SG (b:Nat)(p:Value)(w:World)(a:w.heap[b]?=some (.cells #[p,.slice none 0 0] TB (0,0))):
  Calls Tryz.prog 181 #[.pointer (some ⟨b,0,none⟩)] w λ e c=>e= .returned (.string ⟨#[]⟩)/\Below b w c/\w.drawn<=c.drawn:=by
 have d:∀(W:World) (q:Option _),(Builtin.unsafeString_ #[324,3] 9 _).run Tryz.prog W= .ok _ W:=λ W q=>Lib.run_unsafeString_none W _ _ _ q;have g:w.drew.cell? ⟨b,1,none⟩=some (.slice none 0 0):=by
  have:w.drew.heap[b]?=some _:=a;rw[Lib.cell_of_heap this];rfl
 have f:(Builtin.unsafeSliceData_ #[257] 324 #[.slice none 0 0]).run Tryz.prog _= .ok _ w.drew:=rfl;go_wp2;go_region;all_goals (go_wp2;go_ret;exact⟨rfl,Below.drew (adI b w),ads _⟩)
end Go.Vc
