/- A part of the proof. -/
import Derived.Test.YtnkineaffgkicaaGreatDoorH24
import Derived.Test.YtnkineaffgkicaaGreatDoorH13
import Derived.Deep.RegionHeld3
import Derived.Deep.DeepCutAuto
set_option maxHeartbeats 0
set_option maxRecDepth 100000
set_option linter.unusedVariables false
set_option linter.defProp false
namespace Go.Vc
open Go Go.Shelf Go.Proofs Go.RowKit
section
variable {a:Nat}{b:World}{c:az}{d:List UInt8}
def NT {f:G'}{w:World}(h:Lib.IsBuilderF TB T8 a a f w)(l:Below w.heap.size w b):Lib.IsBuilderF TB T8 a a f b:=by
 have c:∀p,Lib.BuilderAtF TB T8 a a p f w->Lib.BuilderAtF TB T8 a a p f b:=by
  rintro p ⟨q,v,k,m,o⟩;refine⟨q,v,(l.block _ (aaA.1 k).1).trans k,⟨m.1,?_⟩,o⟩;rcases m.2 with h |⟨g,j,i,n,e,s,d,r⟩
  .grind
  .exact .inr ⟨g,j,i,n,e,s,(l.block _ (aaA.1 d).1).trans d,r⟩
 exact h.elim (λ h=> .inl (c _ h)) (λ h=> .inr (c _ h))
abbrev TV:TypeId:=133
structure Ke (bx:Nat)(v:az)(acc:List UInt8)(w0 w:World):Prop where
 bld:Lib.IsBuilderF TB T8 w0.heap.size w0.heap.size (Lib.byteCells acc) w
 box:w.heap[bx]?=some (.cells #[.int .i64 v.kind,.int .i64 v.n,.string v.s] TV (0,0))
 ne:w0.heap.size<bx
 bel:Below w0.heap.size w0 w
 dr:w0.drawn<=w.drawn
 tab:xE w0
def Am {w:World}(h:xE w)(c:Below w.heap.size w b):xE b:=by
 unfold xE Lib.TabIs World.var? at*;rcases d:Tryz.prog.globalNamed _ with _ | g
 .grind
 .simp;rcases a:w.heap[g]? with _ | o
  .grind
  .rw[c.block g (aaA.1 a).1];grind
def Ke.cells {w:World}(h:Ke a c d b w):w.cell? ⟨a,0,none⟩=some (Φi c.kind)/\w.cell? ⟨a,1,none⟩=some (Φi c.n)/\w.cell? ⟨a,2,none⟩=some (ΦT c.s):=
 ⟨by rw[Lib.cell_of_heap h.box];rfl,by rw[Lib.cell_of_heap h.box];rfl,by rw[Lib.cell_of_heap h.box];rfl⟩
def Ke.quiet {w f:World}(h:Ke a c d b w)(e:Below w.heap.size w f)(g:w.drawn<=f.drawn):Ke a c d b f:=
 ⟨NT h.bld e,(e.block _ (aaA.1 h.box).1).trans h.box,h.ne,h.bel.trans ⟨e.os,e.tape,e.output,e.size,λ k i=>e.block k (abY i h.bel.size)⟩,aax h.dr g,h.tab⟩
def Ke.itoa {b:Nat}{v:az}{a:List UInt8}{d w:World}(h:Ke b v a d w)(n:Int)(i:ae .i64 n):
  Calls Tryz.prog 179 #[Φi n] w λ e c=>e= .returned (.string ⟨(Lib.itoa n).toArray⟩)/\Ke b v a d c:=by
 refine(NS n i w (Am h.tab h.bel)).mono ?_;rintro e c ⟨rfl,g,f⟩;exact⟨rfl,h.quiet g f⟩
def Ke.fmt {w:World}(h:Ke a c d b w)(n:Int)(j:ae .i64 n):
  Calls Tryz.prog 180 #[Φi n,Φi 10] w λ e f=>e= .returned (.string ⟨(Lib.itoa n).toArray⟩)/\Ke a c d b f:=by
 refine(QG n j w (Am h.tab h.bel)).mono ?_;rintro e f ⟨rfl,i,g⟩;exact⟨rfl,h.quiet i g⟩
def An (s:ByteArray):Lib.strCells s=Lib.byteCells s.data.toList:=by
 rfl
def Ke.write {w:World}(h:Ke a c d b w){s:ByteArray}(g:s.data.toList=bU c)(f:(d++bU c).length<=140737488355328):
  Calls Tryz.prog 178 #[.pointer (some ⟨b.heap.size,0,none⟩),ΦT s] w λ e i=>e= .returned (.tuple #[Φi s.size,.nilIface])/\Ke a c (d++bU c) b i:=by
 have m:s.size=(bU c).length:=by rw[<-g];rfl
 rw[aae]at f;refine(NR _ _ _ s w h.bld (by rw[Lib.byteCells_length];omega) h.bel.size).mono ?_;rintro e i ⟨rfl,p,j,l,k⟩;refine⟨rfl,.inr ?_,l _ _ h.box (λ e=>?_) (λ o n e=>?_),h.ne,h.bel.trans j,aax h.dr k,h.tab⟩
 .rw[Lib.byteCells_append,<-g,<-An];grind
 .have:=h.ne;grind
 grind
def rh {a b:ByteArray}(h:a.size+b.size<=9223372036854775807):∃c:ByteArray,c.data.toList=a.data.toList++b.data.toList/\c.size=a.size+b.size/\∀d,(Op.stringOp .add a b).run Tryz.prog d= .ok (ΦT c) d:=
 ⟨a++b,by rfl,N' λ d=>run_string_add_sum d a b h⟩
def sf {l:List az}(h:a<l.length):keyBytes (l.take (a+1))=keyBytes (l.take a)++bU l[a]:=by
 show List.flatMap _ _=List.flatMap _ _++_;rw[aaj h,abo,abe,List.flatMap_nil,aar]
def By (l:List az)(k:Nat):(keyBytes (l.take k)).length<=(keyBytes l).length:=by
 conv=>rhs;rw[<-aaL k l]
 simp only[keyBytes,abo];simp
def Kf (b:Nat)(l:List UInt8)(w:World)(h:Lib.IsBuilderF TB T8 b b (Lib.byteCells l) w)(y:l≠[]):
  Calls Tryz.prog 181 #[.pointer (some ⟨b,0,none⟩)] w λ e q=>e= .returned (.string ⟨l.toArray⟩)/\Below b w q/\w.drawn<=q.drawn:=by
 obtain⟨p,o⟩:∃p,Lib.BuilderAtF _ _ b b p _ w:=h.elim (λ h=>⟨_,h⟩) (λ h=>⟨_,h⟩);obtain⟨X,v,n,d,s⟩:=o;have u:l.length≠0:=by grind
 rw[Lib.byteCells_length]at d;obtain⟨g,a,c,k,rfl,m,z,F,f,H⟩:∃g a c k,v= .slice _ _ _/\b<=g/\w.heap[g]?=some (.cells c _ _)/\l.length<=a/\a<=maxLen/\c.size=a*1:=by
  rcases d.2 with⟨_,T⟩ |⟨g,a,c,k,P,B,t,_,G,A,D,_⟩
  .grind
  .exact⟨g,a,c,k,P,B,t,G,A,D⟩
 have R:w.drew.cell? ⟨b,1,none⟩=some (S (some ⟨g,0,none⟩) l.length a):=by
  have:w.drew.heap[b]?=some _:=n;rw[Lib.cell_of_heap this];rfl
 have E:(Builtin.unsafeSliceData_ #[257] 324 #[.slice (some ⟨g,0,none⟩) l.length a]).run Tryz.prog w.drew= .ok _ _:=
  Lib.run_unsafeSliceData_row _ _ _ _ _ _ (by omega)
 have r:(Builtin.unsafeString_ #[324,3] 9 #[.pointer (some ⟨g,0,none⟩),Φi l.length]).run Tryz.prog w.drew= .ok (.string ⟨l.toArray⟩) (w.drew.freeze ⟨g,0,none⟩ l.length):=by
  refine Lib.run_unsafeString_row _ _ 3 9 _ Tryz.underlying324 (by rfl) g c.size (by have i:w.drew.heap[g]?=some _:=z;simp[World.shape?,i]) l y (by omega) (by unfold maxLen at f;omega) ?_;intro j x K;exact d.cells (g:=g) rfl j _ (by simp[Lib.byteCells,K])
 have Q:(w.drew.freeze ⟨g,0,none⟩ l.length).drawn=w.drawn+1:=by
  unfold World.freeze;simp_all
 go_wp2;go_region;all_goals (go_wp2;go_ret;exact⟨rfl,Lib.below_freeze (Below.drew (adI b w)) (p:=⟨g,0,none⟩) m _,by grind⟩)
def QH {H:Heap}{A:D'}{n c:Nat}{l:List az}(hT:mr H)(hs:Sl H A n c l)(hkl:(keyBytes l).length<=140737488355328)(w:World)(hw:ct H w):
  Calls Tryz.prog 120 #[.slice A n c] w λ e w'=>e= .returned (ΦT (ee l))/\Below w.heap.size w w'/\w.drawn<=w'.drawn:=by
 have bn:=hs.bn;have hl:=hs.len;go_enter Tryz.func120,Tryz.ntmps120;go_wp2;go_loopw [8] (λ i wr=>∃k:Nat,k<=n/\i=Φi k/\Lib.IsBuilderF TB T8 w.heap.size w.heap.size (Lib.byteCells (keyBytes (l.take k))) wr/\
   (k=0->wr.heap[w.heap.size]?=some (.cells #[.pointer none,.slice none 0 0] TB (0,0)))/\Below w.heap.size w wr/\w.drawn<=wr.drawn)
  (λ i _=>n-(RowKit.intOf i).toNat)
 case atStart=>
  exact⟨0,abi _,rfl,Lib.IsBuilderF.of (Lib.fresh_isBuilder TB T8 w),λ _=>adj w _,(adI _ w).alloc (aaB _) _,aaB _⟩
 case round=>
  obtain⟨k,hk,rfl,hB,hF,hb,hd⟩:=hrel;by_cases hkn:k<n
  .obtain⟨vs,v1,rfl,v2,v3,v4⟩:=hs.get k (by omega);rcases v1 with v1 |⟨b,o,rfl,v1⟩
   .exact absurd v1 (by simp)
   have hc:∀t u,([Φi l[k].kind,Φi l[k].n,.string l[k].s]:G')[t]?=some u->wr.cell? ⟨b,o+k*3+t,none⟩=some u:=by
    intro t u hu;obtain⟨e1,e2⟩:=v1 t u hu;exact((hw _ _ _ e1).keep (hb.block _ (hw _ _ _ e1).lt)).cell e2
   have c0:wr.cell? ⟨b,o+k*3,none⟩=some (Φi l[k].kind):=hc 0 _ rfl;have c1:wr.cell? ⟨b,o+k*3+1,none⟩=some (Φi l[k].n):=hc 1 _ rfl;have c2:wr.cell? ⟨b,o+k*3+2,none⟩=some (.string l[k].s):=hc 2 _ rfl;clear hc v1;have hszB:=hb.size;have hBl:w.heap.size<wr.heap.size:=hB.elim (λ h=>h.lt) (λ h=>h.lt);have hC:Ke wr.heap.size l[k] (keyBytes (l.take k)) w (wr.alloc (.cells #[Φi l[k].kind,Φi l[k].n,.string l[k].s] TV)).drew:=⟨hB.elim (λ h=> .inl (h.alloc _)) (λ h=> .inr (h.alloc _)),adj wr _,hBl,(hb.alloc hszB _).drew,Nat.le_succ_of_le hd,hT.tab hw⟩;have v5:ae .i64 (l[k].s.size:Int):=by have:=v4;simp only[ae,str]at this⊢;omega
   have hlen:(keyBytes (l.take k)++bU l[k]).length<=140737488355328:=by
    rw[<-sf (by omega)];exact aax (By l (k+1)) hkl
   have hv:(bU l[k]).length<=140737488355328:=by rw[aae]at hlen;omega
   have hvl:(Lib.itoa l[k].kind).length+(1+((Lib.itoa l[k].n).length+(1+((Lib.itoa (l[k].s.size:Int)).length+(1+l[k].s.size)))))<=140737488355328:=by
    refine aax (Nat.le_of_eq ?_) hv;have:l[k].s.data.toList.length=l[k].s.size:=acX;simp only[bU,aae,aav];omega
   have sz:∀x:List UInt8,(⟨x.toArray⟩:ByteArray).size=x.length:=λ x=>by simp[ByteArray.size]
   have y1:=sz (Lib.itoa l[k].kind);have y2:=sz (Lib.itoa l[k].n);have y3:=sz (Lib.itoa (l[k].s.size:Int));have z44:(⟨#[44]⟩:ByteArray).size=1:=rfl;have z58:(⟨#[58]⟩:ByteArray).size=1:=rfl;obtain⟨s1,p1,z1,e1⟩:=rh (a:=⟨(Lib.itoa l[k].kind).toArray⟩) (b:=⟨#[44]⟩) (by omega);obtain⟨s2,p2,z2,e2⟩:=rh (a:=s1) (b:=⟨(Lib.itoa l[k].n).toArray⟩) (by omega);obtain⟨s3,p3,z3,e3⟩:=rh (a:=s2) (b:=⟨#[44]⟩) (by omega);obtain⟨s4,p4,z4,e4⟩:=rh (a:=s3) (b:=⟨(Lib.itoa (l[k].s.size:Int)).toArray⟩) (by omega);obtain⟨s5,p5,z5,e5⟩:=rh (a:=s4) (b:=⟨#[58]⟩) (by omega);obtain⟨s6,p6,z6,e6⟩:=rh (a:=s5) (b:=l[k].s) (by omega);have hs6:s6.data.toList=bU l[k]:=by
    rw[p6,p5,p4,p3,p2,p1];simp[bU]
   clear hvl sz z44 z58 y1 y2 y3;clear p1 p2 p3 p4 p5 p6 z1 z2 z3 z4 z5 z6;go_wp2;go_region_held3 (λ w'=>w'.cell? ⟨wr.heap.size,0,none⟩=some (Φi l[k].kind)/\w'.cell? ⟨wr.heap.size,1,none⟩=some (Φi l[k].n)/\w'.cell? ⟨wr.heap.size,2,none⟩=some (.string l[k].s)) (first | exact hC.cells)
    (first
     |(go_at_call 180;refine(hC.fmt _ (by grind)).mono ?_;rintro e W ⟨rfl,hC⟩)
     |(go_at_call 179;refine(hC.itoa _ (by grind)).mono ?_;rintro e W ⟨rfl,hC⟩)
     |(go_at_call 178;refine(hC.write hs6 hlen).mono ?_;rintro e W ⟨rfl,hC⟩))
   go_wp2;go_roundw;case rel=>
    refine⟨k+1,by omega,?_,?_,by simp,hC.bel,hC.dr⟩
    .simp
    .rw[sf _];exact hC.bld
   case measure=>simp[RowKit.intOf];omega
  .by_cases hk0:k=0
   .subst hk0;go_wp2_with (go_at_call 181;refine(SG _ _ _ (hF rfl)).mono ?_);rintro e W1 ⟨rfl,_⟩;intro h1 h2;go_wp2;go_ret;refine⟨?_,hb.trans h1,aax hd h2⟩;have:l=[]:=aal (by omega);rw[this];rfl
   .have hne:keyBytes (l.take k)≠[]:=by
     intro h;have h2:bU l[0]=[]:=by
      refine acs.2 λ x hx=>?_;have:x∈keyBytes (l.take k):=aaZ.2 ⟨l[0],ady.2 ⟨0,by omega,rfl⟩,hx⟩;grind
     exact qz _ h2
    go_wp2_with (go_at_call 181;refine(Kf _ _ _ hB hne).mono ?_);rintro e W1 ⟨rfl,h1,h2⟩;go_wp2;go_ret;refine⟨?_,hb.trans h1,aax hd h2⟩;rw[aag (by omega)];rfl
def VQ:cj:=⟨false,[(false,[.str])]⟩
def rl {H:Heap}{A:D'}{n c:Nat}{l:List az}(hT:mr H)(hs:Sl H A n c l)(hkl:(keyBytes l).length<=140737488355328):
  ZB 120 [S A n c] H VQ (λ s _=>s=ee l):=by
 refine⟨fN.xM Tryz.func120 rfl (by rfl),λ w hw=>?_⟩;refine(QH hT hs hkl w hw).mono ?_;rintro e w' ⟨rfl,h1,h2⟩;exact⟨_,H,[],rfl,⟨_,_,rfl,rfl,rfl,rfl⟩,⟨h1,Heap.le_refl _,λ _ _ _=>rfl,λ b o v hv=>(hw b o v hv).keep (h1.block b (hw b o v hv).lt),h2⟩,N' List.Pairwise.nil⟩
end
end Go.Vc
