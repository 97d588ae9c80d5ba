/- A part of the proof. -/
import Derived.Test.YtnkineaffgkicaaGreatDoorH28
set_option maxHeartbeats 0
set_option maxRecDepth 100000
set_option linter.unusedVariables false
set_option linter.defProp false
namespace Go.Vc
open Go Go.Shelf Go.Proofs
section
variable {a:Heap}{b:ByteArray}
structure VZ (nm:ByteArray)(a b c d:Int)(nm':ByteArray)(A:D')(n k:Nat)(B:D')(m e:Nat)(rn:Nat)(rxs:G')(F:D')(l f:Nat)(H:Heap):Prop where
 z:nm=nm'
 s:str nm
 vers:Sl H A n k [(⟨⟨0,1099511627776⟩,vp (2+(a.tmod 2).toNat)⟩:dh)]
 key:Sl H B m e (mkKey b)
 rn:rn=(jF c).length
 row:Row H rxs (jF c)
 cst:Sl H F l f (jR d)
def oH {H:Heap}{nm:ByteArray}{a b c d:Int}{q:Nat}(hn:str nm)(ha:ae .u16 a)(hb:ae .u16 b)(X:ae .u16 c)(hd:ae .u16 d):
  ZB 57 [ΦT nm,.agg ⟨[Φu a,Φu b,Φu c,Φu d]⟩] H ⟨false,[(true,[.str,.sl,.sl,.row q 68,.sl])]⟩
   (VZ nm a b c d):=by
 refine ΦK 1 (aj [49] [(5,[2,4,6,9,11,13,14,17,0])] [(3,[ag 6,.box 5 87 [.int .i64,.int .i64,.row 70 46]])]) (λ e=>W Xy H (λ f=>f 0 0 1099511627776 0 [] H) λ f g h i j k l m=>ΦY 0 4 (let n:=[.int .u16 a,.int .u16 b,.int .u16 c,.int .u16 d];ΦF Xz n (N 0*1) 1 λ o=>(2:Int)≠0/\∃p:Int,IntKind.wrap IntKind.i64 (Int.tmod o 2)=p/\ΦR (2+p)/\J (i<2+p) (C YD 74 [I i] h (λ q r s t=>(l+1)*32<=M/\ΦR (i+1)/\let u:=m++[Value.int .i64 r,ΦT s,I t];f (i+1) j k (l+1) u q/\g (i+1) j k (l+1) u<g i j k l m)) (U h m l (λ q r s=>ΦY 1 4 (ΦF Xz n (N 1*1) 1 (λ t=>(5:Int)≠0/\let u:=[I j,I k,S q l r];let v:=λ v (w:Nat) x y (z:Nat)=>[S v 1 w,ΦT x,S y 1 z];let w:=λ w (x:Nat)=>[I 1,S w 1 x];let x:=λ x (y:Nat)=>[I 2,S x 2 y];let y:=λ y z=>U y [I 1,I 2] 2 λ a0 a1 a2=>z a2 x a0 a1;let z:=λ z a0=>y z a0;let a0:=λ a0 a1=>U a0 [I 2] 1 λ a2 a3 a4=>a1 a4 w a2 a3;let a1:=λ a1 a2=>a0 a1 a2;let a2:=λ(a2:Int)=>[.int .u16 (Int.tdiv a2 5)];J (Int.tmod t 5=1) (ΦY 2 4 (ΦF Xz n (N 2*1) 1 (λ a3=>(5:Int)≠0/\J (Int.tmod a3 5=1) (ΦY 2 4 (ΦF Xz n (N 2*1) 1 (λ a4=>(5:Int)≠0/\ae .u16 (Int.tdiv a4 5)/\C YE 69 (a2 a4) s λ a5 a6=>U a5 [I 1] 1 λ a7 a8 a9=>U a9 [I 1] 1 λ b0 b1 b2=>ΦY 3 4 (ΦF Xz n (N 3*1) 1 (λ b3=>(6:Int)≠0/\let b4:=λ b4 b5 b6 (b7:Nat)=>U b4 u 1 λ b8 b9 c0=>U c0 [I 1] 1 λ c1 c2 c3=>U c3 (b5 b6 b7) 1 λ c4 c5 c6=>e nm b8 1 b9 c1 1 c2 1 (v a7 a8 a6 b0 b1) c4 1 c5 c6;J (Int.tmod b3 6=1) (a1 b2 b4) (J (Int.tmod b3 6=2) (z b2 b4) (U b2 u 1 (λ b5 b6 b7=>U b7 [I 1] 1 λ b8 b9 c0=>e nm b5 1 b6 b8 1 b9 1 (v a7 a8 a6 b0 b1) none 0 0 c0)))))))) (ΦY 3 4 (ΦF Xz n (N 3*1) 1 (λ a4=>(6:Int)≠0/\let a5:=λ a5 a6 a7 (a8:Nat)=>U a5 u 1 λ a9 b0 b1=>U b1 [I 1] 1 λ b2 b3 b4=>U b4 (a6 a7 a8) 1 λ b5 b6 b7=>e nm a9 1 b0 b2 1 b3 0 [] b5 1 b6 b7;J (Int.tmod a4 6=1) (a1 s a5) (J (Int.tmod a4 6=2) (z s a5) (U s u 1 (λ a6 a7 a8=>U a8 [I 1] 1 λ a9 b0 b1=>e nm a6 1 a7 a9 1 b0 0 [] none 0 0 b1))))))))) (J (Int.tmod t 5=2) (ΦY 2 4 (ΦF Xz n (N 2*1) 1 (λ a3=>(5:Int)≠0/\J (Int.tmod a3 5=1) (ΦY 2 4 (ΦF Xz n (N 2*1) 1 (λ a4=>(5:Int)≠0/\ae .u16 (Int.tdiv a4 5)/\C YE 69 (a2 a4) s λ a5 a6=>U a5 [I 1] 1 λ a7 a8 a9=>U a9 [I 1] 1 λ b0 b1 b2=>ΦY 3 4 (ΦF Xz n (N 3*1) 1 (λ b3=>(6:Int)≠0/\let b4:=λ b4 b5 b6 (b7:Nat)=>U b4 u 1 λ b8 b9 c0=>U c0 [I 2,I 1] 2 λ c1 c2 c3=>U c3 (b5 b6 b7) 1 λ c4 c5 c6=>e nm b8 1 b9 c1 2 c2 1 (v a7 a8 a6 b0 b1) c4 1 c5 c6;J (Int.tmod b3 6=1) (a1 b2 b4) (J (Int.tmod b3 6=2) (z b2 b4) (U b2 u 1 (λ b5 b6 b7=>U b7 [I 2,I 1] 2 λ b8 b9 c0=>e nm b5 1 b6 b8 2 b9 1 (v a7 a8 a6 b0 b1) none 0 0 c0)))))))) (ΦY 3 4 (ΦF Xz n (N 3*1) 1 (λ a4=>(6:Int)≠0/\let a5:=λ a5 a6 a7 (a8:Nat)=>U a5 u 1 λ a9 b0 b1=>U b1 [I 2,I 1] 2 λ b2 b3 b4=>U b4 (a6 a7 a8) 1 λ b5 b6 b7=>e nm a9 1 b0 b2 2 b3 0 [] b5 1 b6 b7;J (Int.tmod a4 6=1) (a1 s a5) (J (Int.tmod a4 6=2) (z s a5) (U s u 1 (λ a6 a7 a8=>U a8 [I 2,I 1] 2 λ a9 b0 b1=>e nm a6 1 a7 a9 2 b0 0 [] none 0 0 b1))))))))) (ΦY 2 4 (ΦF Xz n (N 2*1) 1 (λ a3=>(5:Int)≠0/\J (Int.tmod a3 5=1) (ΦY 2 4 (ΦF Xz n (N 2*1) 1 (λ a4=>(5:Int)≠0/\ae .u16 (Int.tdiv a4 5)/\C YE 69 (a2 a4) s λ a5 a6=>U a5 [I 1] 1 λ a7 a8 a9=>U a9 [I 1] 1 λ b0 b1 b2=>ΦY 3 4 (ΦF Xz n (N 3*1) 1 (λ b3=>(6:Int)≠0/\let b4:=λ b4 b5 b6 (b7:Nat)=>U b4 u 1 λ b8 b9 c0=>U c0 (b5 b6 b7) 1 λ c1 c2 c3=>e nm b8 1 b9 none 0 0 1 (v a7 a8 a6 b0 b1) c1 1 c2 c3;J (Int.tmod b3 6=1) (a0 b2 b4) (J (Int.tmod b3 6=2) (y b2 b4) (U b2 u 1 (λ b5 b6 b7=>e nm b5 1 b6 none 0 0 1 (v a7 a8 a6 b0 b1) none 0 0 b7)))))))) (ΦY 3 4 (ΦF Xz n (N 3*1) 1 (λ a4=>(6:Int)≠0/\let a5:=λ a5 a6 a7 (a8:Nat)=>U a5 u 1 λ a9 b0 b1=>U b1 (a6 a7 a8) 1 λ b2 b3 b4=>e nm a9 1 b0 none 0 0 0 [] b2 1 b3 b4;J (Int.tmod a4 6=1) (a0 s a5) (J (Int.tmod a4 6=2) (y s a5) (U s u 1 (λ a6 a7 a8=>e nm a6 1 a7 none 0 0 0 [] none 0 0 a8)))))))))))))))) ?_;dsimp only[PL,aQ,aR,aW,eQ,C,ΦF,I,M,N,ΦR,S,ΦT,U,W,ΦY,J];simp only[ae]at ha hb X hd;have e0:a.tmod 2=a%2:=acG ha.1;have hq:0<=c.tdiv 5/\c.tdiv 5<=65535:=by rw[Int.tdiv_eq_ediv_of_nonneg X.1];omega
 refine⟨λ i lo hi n xs f=>0<=i/\i<=2+a.tmod 2/\lo=0/\hi=1099511627776/\n=i.toNat/\Row f xs (vp i.toNat),λ i _ _ _ _=>(2+a.tmod 2-i).toNat,⟨by omega,by omega,rfl,rfl,rfl,rfl⟩,?_⟩;rintro H2 l2 i _ _ _ xs ⟨i0,i1,rfl,rfl,rfl,P⟩;refine⟨by decide,by decide,_,rfl,by decide,a.tmod 2,IntWalk.i64_in _ (by omega),by simp only[ae];omega,λ z=>?_,λ w=>?_⟩
 .have z:=aab z;refine⟨_,wF i0 (by omega),?_⟩;rintro O L p q r ⟨m,l,k,o⟩;refine⟨by omega,by simp only[ae];omega,⟨by omega,by omega,rfl,rfl,by omega,?_⟩,by dsimp only;omega⟩;rw[show(i+1).toNat=i.toNat+1 by omega,vp,List.range_succ,aaR];refine(P.mono L).append (Row.one ?_);show Rep.rel O _ (PJ ((i.toNat:Nat):Int));rw[show((i.toNat:Nat):Int)=i by omega,<-m];exact⟨rfl,l,k,o⟩
 have w:=aac w;have ei:i.toNat=2+(a.tmod 2).toNat:=by omega
 rw[ei]at P;rw[ei];intro V E O L g3 F;have hs:∀{f},Heap.le O f->Sl f V (2+(a.tmod 2).toNat) E (vp (2+(a.tmod 2).toNat)):=λ a1=>(P.sl L g3 (by simp[vp]) F (by show _*32<=_;omega) (by omega)).mono a1;clear w ei P L g3 F i0 i1 l2;have D:∀{f:Heap} {Q:D'} {j:Nat} {R:D'} {m1 d1:Nat} {Y:Nat} {v:G'} {F1:D'} {l1 G:Nat} {g:Heap},Cells g Q 0 [Φi 0,Φi 1099511627776,S V (2+(a.tmod 2).toNat) E]->Heap.le g f->Heap.le O f->1<=j->
   Sl f R m1 d1 (mkKey b)->(Y=(jF c).length/\Row f v (jF c))->Sl f F1 l1 G (jR d)->VZ nm a b c d nm Q 1 j R m1 d1 Y v F1 l1 G f:=by
  intro f Q j R m1 d1 Y v F1 l1 G g k l m o t s h7;exact⟨rfl,hn,qg k l o ⟨V,_,E,rfl,by simp[ae],by simp[ae],hs m⟩ (by decide),t,s.1,s.2,h7⟩
 have k1:∀{g f:Heap} {A:D'} {j:Nat},decide (b.tmod 5=1)=true->Cells g A 0 [Φi 1]->Heap.le g f->1<=j->Sl f A 1 j (mkKey b):=λ h m l k=>by
  rw[mkKey,if_pos (aab h)];exact qg m l k ⟨rfl,by simp[ae]⟩ (by decide)
 have k2:∀{g f:Heap} {A:Option _} {j:Nat},decide _=false->decide _=true->Cells _ A 0 _->Heap.le g _->2<=j->Sl f A 2 _ (mkKey b):=λ h u m l k=>by
  rw[mkKey,if_neg (aac h),if_pos (aab u)];exact Ee m l k (by simp[ae]) (by simp[ae])
 have k3:∀{f:Heap},decide _=false->decide _=false->Sl f none 0 0 (mkKey b):=λ h u=>by
  rw[mkKey,if_neg (aac h),if_neg (aac u)];exact Sl.nil
 have G:∀{y H2 f:Heap} {B e:Option _} {x E:Nat},decide _=true->Cells y B 0 _->Heap.le _ f->1<=x->
   Cells H2 e 0 _->Heap.le _ _->1<=E->str (tableName _)->1=(jF c).length/\Row _ [S B 1 _,ΦT (tableName _),S e 1 _] (jF c):=λ h o t s h7 h8 h9 Z=>by
  rw[jF,if_pos (aab h)];exact⟨rfl,Row.one ⟨_,_,_,_,_,_,rfl,qg (T:=Int) o t s ⟨rfl,by simp[ae]⟩ (by decide),Z,qg (T:=Int) h7 h8 h9 ⟨rfl,by simp[ae]⟩ (by decide)⟩⟩
 have f2:∀{f:Heap},decide _=false->0=(jF c).length/\Row f _ (jF c):=λ h=>by
  rw[jF,if_neg (aac h)];exact⟨rfl,rfl⟩
 have g1:∀{g y f:Heap} {A B:Option _} {j x:Nat},decide _=true->Cells g A 0 [.int _ 1,S B 1 _]->Heap.le _ _->1<=j->Cells _ B 0 _->Heap.le y _->1<=x->Sl f A 1 _ (jR d):=λ h m l k o t s=>by
  rw[jR,if_pos (aab h)];exact qg m l k ⟨_,_,_,rfl,by simp[ae],qg (T:=Int) o t s ⟨rfl,by simp[ae]⟩ (by decide)⟩ (by decide)
 have g2:∀{g y f:Heap} {A B:Option _} {j x:Nat},decide _=false->decide _=true->Cells _ A 0 [.int _ 2,S B 2 _]->Heap.le g _->1<=j->Cells _ B 0 _->Heap.le y _->2<=x->Sl f A 1 _ (jR d):=
  λ h u m l k o t s=>by
  rw[jR,if_neg (aac h),if_pos (aab u)];exact qg m l k ⟨_,_,_,rfl,by simp[ae],Ee o t s (by simp[ae]) (by simp[ae])⟩ (by decide)
 have g3:∀{f:Heap},decide _=false->decide _=false->Sl f none 0 0 (jR d):=λ h u=>by
  rw[jR,if_neg (aac h),if_neg (aac u)];exact Sl.nil
 clear hs ha hb X hd e0 hn;refine⟨by simp,by simp,_,rfl,by simp,λ a4=>?_,λ a4=>⟨λ a0=>?_,λ a0=>?_⟩⟩;all_goals
  refine⟨by simp,by simp,_,rfl,by simp,λ a5=>⟨by simp,by simp,_,rfl,by simp,by simp[ae];omega,_,zB hq.1,?_⟩,λ a5=>?_⟩;all_goals try rintro b0 b2 b5 ⟨rfl,ht⟩ b4 c0 b9 a7 b1 b7 a9 a6 b6 b8 a8 b3
  all_goals
   refine⟨by simp,by simp,_,rfl,by simp,λ a3=>?_,λ a3=>⟨λ a2=>?_,λ a2=>?_⟩⟩;all_goals
    intros
    refine D (by assumption) (by repeat first | assumption | exact ah _ | refine aa (by assumption) ?_) (by repeat first | assumption | exact ah _ | refine aa (by assumption) ?_) (by assumption) ?_ ?_ ?_
    .first | exact k1 (by assumption) (by omega) (by repeat first | assumption | exact ah _ | refine aa (by assumption) ?_) (by grind) | exact k2 (by assumption) (by assumption) (by omega) (by repeat first | assumption | exact ah _ | refine aa (by assumption) ?_) (by grind) | grind
    .first | exact G (by assumption) (by assumption) (by repeat first | assumption | exact ah _ | refine aa (by assumption) ?_) (by assumption) (by assumption) (by repeat first | assumption | exact ah _ | refine aa (by assumption) ?_) (by assumption) (by assumption) | exact f2 (by assumption)
    .first | exact g1 (by assumption) (by omega) (by repeat first | assumption | exact ah _ | refine aa (by assumption) ?_) (by grind) (by omega) (by repeat first | assumption | exact ah _ | refine aa (by assumption) ?_) (by grind) | exact g2 (by assumption) (by assumption) (by omega) (by repeat first | assumption | exact ah _ | refine aa (by assumption) ?_) (by grind) (by omega) (by repeat first | assumption | exact ah _ | refine aa (by assumption) ?_) (by grind) | grind
structure WV (x1 x2:Ed):Prop where
 k1:x1.kind=4
 k2:x2.kind=4
 n1:EW CU x1.sch=true
 f1:x1.sch.fks=[]
 n2:EW LN x2.sch=true
abbrev EZ (s:bp):Ed:=⟨4,mt,[],⟨0,0⟩,[],0,[],s,⟨0,mt,0⟩⟩
def KA {A B E F:D'}{n c m d k e l f:Nat}{s:bp}(h:aV a b A n c B m d E k e F l f s):
  Rep.rel a [Φi 4,.string ⟨⟨[]⟩⟩,.slice none 0 0,Φi 0,Φi 0,.slice none 0 0,Φi 0,.slice none 0 0,ΦT b,S A n c,S B m d,S E k e,S F l f,Φi 0,.string ⟨⟨[]⟩⟩,Φi 0] (EZ s):=
 ⟨⟨4,mt,none,0,0,0,0,none,0,0,0,none,0,0,b,A,n,c,B,m,d,E,k,e,F,l,f,0,mt,0⟩,rfl,rfl,rfl,Sl.nil,rfl,rfl,Sl.nil,rfl,Sl.nil,h,rfl,rfl,rfl,Rg,Rg,Rg,Rg,VY⟩
def Fa (h:b=CU\/b=LN):str b:=by rcases h with rfl | rfl<;>(unfold str;decide)
def SU {f:G'}{c:Int}(g:Row a f (jF c))(k:c.tmod 5=1)(j:str b):Row a (av f (Int.toNat 0*3+1) [ΦT b]) (EX b)/\f.length=3:=by
 rw[jF,if_pos k]at g;obtain⟨e,d,rfl,⟨q,m,s,r,p,n,rfl,l,o,i⟩,rfl⟩:=g;have h:Rep.rel a _ (⟨[1],b,[1]⟩:nz):=⟨_,_,_,_,_,_,rfl,l,j,i⟩;exact⟨Row.one h,rfl⟩
def KB {x0 x1 x2 x3 x4 x5 X x7:Int}(h0:ae .u16 x0)(h1:ae .u16 x1)(h3:ae .u16 x3)(h4:ae .u16 x4)(h5:ae .u16 x5)(h6:ae .u16 X)(h7:ae .u16 x7):
  ZB 87 [.agg ⟨[Φu x0,Φu x1,Φu x2,Φu x3,Φu x4,Φu x5,Φu X,Φu x7]⟩] a fi (λ A n c H'=>∃y1 y2,Sl H' A n c [y1,y2]/\WV y1 y2):=by
 refine ΦK 2 {aj [] [(1,[2,4,6,8,10,12,14]++ab 18 9 [17,37,39,41,43,45,0,1,1,1,41,39,43,45,0,1,1,1,1,39,37,41,43,45,0,1,1,1,41,37,43,45,0,1,1,1,1,41,37,39,43,45,0,1,1,1,39,37,43,45,0,1,1,1,1,1,39,17,37,41,43,45,0,1,1,1,41,37,43,45,0,1,1,1,1,41,17,37,43,45,0,1,1,1,1,1,41,17,37,39,43,45,0,1,1,1,39,37,43,45,0,1,1,1,1,39,17,37,43,45,0]),(3,[2,4,8,10,12,14,7,17,19,21,22,25,0])] []with res:=wj [(12,⟨false,[(true,[.str,.sl,.sl,.row 43 68,.sl])]⟩),(22,⟨false,[(true,[.str,.sl,.sl,.row 44 68,.sl])]⟩)]} (λ b=>ΦY 0 8 (let c:=[.int .u16 x0,.int .u16 x1,.int .u16 x2,.int .u16 x3,.int .u16 x4,.int .u16 x5,.int .u16 X,.int .u16 x7];ΦF Xz c (N 0*1) 1 λ d=>ΦY 1 8 (ΦF Xz c (N 1*1) 1 (λ e=>ΦY 3 8 (ΦF Xz c (N 3*1) 1 (λ f=>ΦY 4 8 (ΦF Xz c (N 4*1) 1 (λ g=>ΦY 5 8 (ΦF Xz c (N 5*1) 1 (λ h=>ΦY 6 8 (ΦF Xz c (N 6*1) 1 (λ i=>ΦY 7 8 (ΦF Xz c (N 7*1) 1 (λ j=>let k:=λ(k:Nat) l m n (o:Nat) p q (r s:Nat) t (u v:Nat) w (x y:Nat) z a0 (a1 a2:Nat) a3 (a4 a5:Nat) a6 (a7 a8:Nat)=>ΦY 6 8 (ΦF Xz c (N 6*1) 1 (λ a9=>(5:Int)≠0/\let b0:=λ b0 b1 (b2:Nat) b3 (b4:Nat)=>U b0 [I 4,ΦT ⟨⟨[]⟩⟩,S none 0 0,I 0,I 0,S none 0 0,I 0,S none 0 0,ΦT p,S q r s,S t u v,S b1 o b2,S w x y,I 0,ΦT ⟨⟨[]⟩⟩,I 0,I 4,ΦT ⟨⟨[]⟩⟩,S none 0 0,I 0,I 0,S none 0 0,I 0,S none 0 0,ΦT z,S a0 a1 a2,S a3 a4 a5,S b3 k b4,S a6 a7 a8,I 0,ΦT ⟨⟨[]⟩⟩,I 0] 2 λ b5 b6 b7=>b b5 2 b6 b7;J (Int.tmod a9 5=1) (ΦY 6 8 (ΦF Xz c (N 6*1) 1 (λ b1=>(5:Int)≠0/\ae .u16 (Int.tdiv b1 5)/\(2:Int)≠0/\ΦY (Int.tmod (Int.tdiv b1 5) 2) 2 (ΦF Xr [ΦT {data:=⟨[(116:UInt8)]⟩},ΦT {data:=⟨[(117:UInt8)]⟩}] (N (Int.tmod (Int.tdiv b1 5) 2)*1) 1 (λ b2=>ΦY 0 k (N 0*3+1+1<=L l/\U m n o (λ b3 b4 b5=>U b5 (av l (N 0*3+1) [ΦT b2]) k λ b6 b7 b8=>b0 b8 b3 b4 b6 b7))))))) (U m n o (λ b1 b2 b3=>U b3 l k λ b4 b5 b6=>b0 b6 b1 b2 b4 b5))));let l:=[ΦT {data:=⟨[(117:UInt8)]⟩},ΦG [.int .u16 g,.int .u16 h,.int .u16 i,.int .u16 j]];let m:=λ m n (o:Nat) p q (r s:Nat) t (u v:Nat) w (x y:Nat)=>C Zi 57 l m λ z a0 a1 a2 a3 a4 a5 a6 a7 a8 a9 b0 b1=>k a7 a8 z n o p q r s t u v w x y a0 a1 a2 a3 a4 a5 a6 a9 b0 b1;let n:=[ΦT {data:=⟨[(116:UInt8)]⟩},ΦG [.int .u16 d,.int .u16 e,.int .u16 0,.int .u16 f]];C Zh 57 n a (λ o p q r s t u v w x y z a0=>C Zi 57 l o (λ a1 a2 a3 a4 a5 a6 a7 a8 a9 b0 b1 b2 b3=>k a9 b0 a1 x w p q r s t u v y z a0 a2 a3 a4 a5 a6 a7 a8 b1 b2 b3/\k a9 b0 a1 x w p q r s t u v y z a0 a2 a3 a4 a5 a6 a7 a8 b1 b2 b3)/\(m o x w p q r s t u v y z a0/\m o x w p q r s t u v y z a0)/\m o x w p q r s t u v y z a0/\m o x w p q r s t u v y z a0)/\let o:=C Zh 57 n a (λ o p q r s t u v w x y z a0=>m o x w p q r s t u v y z a0/\m o x w p q r s t u v y z a0)/\C Zh 57 n a λ o p q r s t u v w x y z a0=>m o x w p q r s t u v y z a0;o/\o)))))))))))))) ?_;dsimp only[aQ,aR,eQ,C,ΦF,ΦG,I,L,N,S,ΦT,U,ΦY,J];have q5:0<=X.tdiv 5/\X.tdiv 5<=65535:=by simp[ae]at h6;grind
 have w2:=dM q5.1 (m:=2) (by simp);have a0:∀{E H2 o:Heap} {h u:ByteArray} {D A2 F B2 P F2 x Z A5:D'} {Q n2 M c2 V m2 G d2 g j W k2 R f2 v e2 c5:Nat} {k O:G'} {fs:List nz},VZ CU x0 x1 0 x3 h D Q M F V G g k P W R E->VZ LN x4 x5 X x7 u A2 n2 c2 B2 m2 d2 j O F2 k2 f2 H2->Heap.le E o->Heap.le H2 o->
   Sl o x g v ([]:List nz)->Sl o Z j e2 fs->(fs=[]\/fs=EX CU\/fs=EX LN)->
   Cells o A5 0 [Φi 4,.string ⟨⟨[]⟩⟩,.slice none 0 0,Φi 0,Φi 0,.slice none 0 0,Φi 0,.slice none 0 0,ΦT h,S D Q M,S F V G,S x g v,S P W R,Φi 0,.string ⟨⟨[]⟩⟩,Φi 0,
     Φi 4,.string ⟨⟨[]⟩⟩,.slice none 0 0,Φi 0,Φi 0,.slice none 0 0,Φi 0,.slice none 0 0,ΦT u,S A2 n2 c2,S B2 m2 d2,S Z j e2,S F2 k2 f2,Φi 0,.string ⟨⟨[]⟩⟩,Φi 0]->2<=c5->∃y1 y2,Sl o A5 2 c5 [y1,y2]/\WV y1 y2:=by
  intro E H2 o h u D A2 F B2 P F2 x Z A5 Q n2 M c2 V m2 G d2 g j W k2 R f2 v e2 c5 k O fs Y l l1 w a1 a2 hf p hn;have r1:=KA (s:=VV _ _ _ _ _) ⟨Y.z.symm,Y.s,Y.vers.mono l1,Y.key.mono l1,a1,Y.cst.mono l1⟩;have r2:=KA (s:=VV _ _ _ _ _) ⟨l.z.symm,l.s,l.vers.mono w,l.key.mono w,a2,l.cst.mono w⟩;exact⟨_,_,((Row.one r1).append (Row.one r2)).sl (ah _) p rfl hn (by decide) (by simp),rfl,rfl,Rf (.inl rfl) h0 (.inl rfl),rfl,Rf (.inr rfl) h4 hf⟩
 have a3:∃t,win [ΦT CU,ΦT LN] (Int.toNat ((X.tdiv 5).tmod 2)*1) 1=[ΦT t]/\(t=CU\/t=LN):=by
  generalize (X.tdiv 5).tmod 2=y at w2;obtain rfl | rfl:y=0\/y=1:=by omega
  .exact⟨_,rfl,.inl rfl⟩
  .exact⟨_,rfl,.inr rfl⟩
 obtain⟨t,hw,ht⟩:=a3;have fk:∀{E o:Heap} {h:ByteArray} {D F P x:Option _} {Q M V G g W R v:Nat} {k:List _} {nm:ByteArray} {f b c d:Int},VZ nm f b c d h D Q M F V G _ _ P W R _->Heap.le E _->Cells _ _ 0 k->g<=v->Sl o x _ _ _:=λ {E o h D F P x Q M V G g W R v k nm f b c d} s hl p hn=>by
  have a4:(jF c).length<=1:=by unfold jF;grind
  have:=s.rn;exact s.row.sl hl p s.rn.symm hn (by show g*64<=_;omega) (by omega)
 refine⟨by simp,by simp,_,rfl,by simp,by simp,_,rfl,by simp,by simp,_,rfl,by simp,by simp,_,rfl,by simp,by simp,_,rfl,by simp,by simp,_,rfl,by simp,by simp,_,rfl,?_⟩;repeat' first
  |(have l:=T
    refine Bu ?_)
  |(have l:=T
    refine⟨by decide,by decide,_,rfl,by decide,λ p=>⟨by decide,by decide,_,rfl,by decide,by simp only[ae];omega,by decide,w2.1,w2.2,t,hw,?_⟩,λ p=>?_⟩
    . have p:=aab p;obtain⟨p1,p2⟩:=SU l.row p (Fa ht);have B:=l.rn;rw[jF,if_pos p]at B;have B:j=1:=B;refine⟨by decide,by rw[B];decide,by rw[p2];decide,?_⟩;intro x v H3 r g3 q3;intro Z e2 H4 l4 g4 q4;intro A5 c5 o l5 g5 q5;have i:=aa l4 l5;exact a0 q l (aa w (aa r i)) (aa r i) ((fk q (aa w r) g3 q3).mono i) (((p1.mono (aa r l4)).sl (ah _) g4 (by rw[B];rfl) q4 (by rw[B];decide) (by rw[B];decide)).mono l5) (.inr (ht.imp (aak EX) (aak EX))) g5 q5
    . have p:=aac p;intro x v H3 r g3 q3;intro Z e2 H4 l4 g4 q4;intro A5 c5 o l5 g5 q5;have i:=aa l4 l5;have e:=fk l (aa r l4) g4 q4;rw[jF,if_neg p]at e;exact a0 q l (aa w (aa r i)) (aa r i) ((fk q (aa w r) g3 q3).mono i) (e.mono l5) (.inl rfl) g5 q5)
  |(fail_if_success have l:=T
    apply And.intro)
  |(have Y:=q
    refine⟨_,oH (nm:=LN) (Fa (.inr rfl)) h4 h5 h6 h7,?_⟩;rintro H2 w u A2 n2 c2 B2 m2 d2 j O F2 k2 f2 T)
  |(refine⟨_,oH (nm:=CU) (Fa (.inl rfl)) h0 h1 (by decide) h3,?_⟩
    rintro E l1 h D Q M F V G g k P W R q)
end
section
variable {a:Heap}
structure LQ where
 es:List Ed
instance:Rep LQ where
 sz:=10
 byt:=104
 rel H vs v:=∃(n:Int) (A:D') (m c:Nat) (r1 r2 r3:Int) (t:ByteArray) (h1 h2 h3:Int),vs=[.int .i64 1,.int .i64 n,.slice A m c,.int .i64 r1,.int .i64 r2,.int .i64 r3,.string t,.int .i64 h1,.int .i64 h2,.int .i64 h3]/\Sl H A m c v.es
 mono:=λ hle ⟨n,A,m,c,r1,r2,r3,t,h1,h2,h3,h,s⟩=>⟨n,A,m,c,r1,r2,r3,t,h1,h2,h3,h,s.mono hle⟩
 len:=λ ⟨n,A,m,c,r1,r2,r3,t,h1,h2,h3,h,_⟩=>by simp[h]
 pos:=by decide
 bpos:=by decide
 one:=λ ⟨n,A,m,c,r1,r2,r3,t,h1,h2,h3,h,_⟩=>by rw[h];simp[Value.oneCell']
structure GC (es:List Ed):Prop where
 len:es.length<=2
 ed:∀x∈es,GE x
structure U9 where
 a:Int
 b:Int
 c:Int
 d:Int
 e:Int
 f:Int
 g:Int
 h:Int
 i:Int
instance:Rep U9 where
 sz:=9
 byt:=18
 rel _ vs v:=vs=[.int .u16 v.a,.int .u16 v.b,.int .u16 v.c,.int .u16 v.d,.int .u16 v.e,.int .u16 v.f,.int .u16 v.g,.int .u16 v.h,.int .u16 v.i]/\ae .u16 v.a/\ae .u16 v.b/\ae .u16 v.c/\ae .u16 v.d/\ae .u16 v.e/\ae .u16 v.f/\ae .u16 v.g/\ae .u16 v.h/\ae .u16 v.i
 mono _ h:=h
 len h:=by simp[h.1]
 pos:=by decide
 bpos:=by decide
 one h:=by rw[h.1];simp[Value.oneCell']
def AL {b:Iq}{x:Ed}(h:qj a b x):Row a b.v [x]:=Row.one ⟨b,rfl,h⟩
abbrev Wa:cj:=⟨false,[(true,[.int .i64,.int .i64,.sl,.int .i64,.int .i64,.int .i64,.str,.int .i64,.int .i64,.int .i64])]⟩
def Fb {x0 Q p G s w W t r:Int}(h0:ae .u16 x0)(hs:x0<7)(R:ae .u16 Q)(D:ae .u16 p)(o:ae .u16 G)(O:ae .u16 s)(u:ae .u16 w)(V:ae .u16 W)(T:ae .u16 t)(P:ae .u16 r):
  ZB 88 [.agg ⟨[Φu x0,Φu Q,Φu p,Φu G,Φu s,Φu w,Φu W,Φu t,Φu r]⟩] a Wa
   (λ k _ A n c _ _ _ _ _ _ _ H'=>k=1/\∃v,Sl H' A n c v/\GC v):=by
 refine ΦK 0 {aj [] [(18,ab 2 19 [41,43,45,46,49,0])] []with kb:=ir [] [28,29,48,49,78,79,86,87]} (λ b=>ΦY 1 9 (let c:=[.int .u16 x0,.int .u16 Q,.int .u16 p,.int .u16 G,.int .u16 s,.int .u16 w,.int .u16 W,.int .u16 t,.int .u16 r];ΦF Xz c (N 1*1) 1 λ d=>ΦY 2 9 (ΦF Xz c (N 2*1) 1 (λ e=>ΦY 3 9 (ΦF Xz c (N 3*1) 1 (λ f=>ΦY 4 9 (ΦF Xz c (N 4*1) 1 (λ g=>ΦY 5 9 (ΦF Xz c (N 5*1) 1 (λ h=>ΦY 6 9 (ΦF Xz c (N 6*1) 1 (λ i=>ΦY 7 9 (ΦF Xz c (N 7*1) 1 (λ j=>ΦY 8 9 (ΦF Xz c (N 8*1) 1 (λ k=>L [Value.int .u16 0,.int .u16 0,.int .u16 0,.int .u16 0,.int .u16 0,.int .u16 0,.int .u16 0,.int .u16 0]=8/\ΦY 0 9 (ΦF Xz c (N 0*1) 1 (λ l=>(12:Int)≠0/\decide (Int.tmod l 12=7)=false/\decide (Int.tmod l 12=8)=false/\decide (Int.tmod l 12=9)=false/\decide (Int.tmod l 12=10)=false/\decide (Int.tmod l 12=11)=false/\let m:=λ(m n o q u v x y:Int)=>[.int .u16 m,.int .u16 n,.int .u16 o,.int .u16 q,.int .u16 u,.int .u16 v,.int .u16 x,.int .u16 y];ΦF Yq (m d e f g h i j k) 0 8 λ n o q u v x y z=>C Zj 28 [ΦG (m n o q u v x y z)] a λ a0 a1 a2 a3 a4 a5 a6 a7 a8 a9 b0 b1 b2 b3 b4 b5 b6 b7 b8 b9 c0 c1 c2 c3 c4 c5 c6 c7 c8 c9 d0=>ΦY 0 9 (ΦF Xz c (N 0*1) 1 (λ d1=>(12:Int)≠0/\let d2:=[I a1,ΦT a2,S a3 a4 a5,I a6,I a7,S a8 a9 b0,I b1,S b2 b3 b4,ΦT b5,S b6 b7 b8,S b9 c0 c1,S c2 c3 c4,S c5 c6 c7,I c8,ΦT c9,I d0];J (Int.tmod d1 12<3) (ΦY 8 9 (ΦF Xz c (N 8*1) 1 (λ d3=>ΦY 2 9 (ΦF Xz c (N 2*1) 1 (λ d4=>ΦY 4 9 (ΦF Xz c (N 4*1) 1 (λ d5=>ΦY 3 9 (ΦF Xz c (N 3*1) 1 (λ d6=>ΦY 6 9 (ΦF Xz c (N 6*1) 1 (λ d7=>ΦY 5 9 (ΦF Xz c (N 5*1) 1 (λ d8=>ΦY 1 9 (ΦF Xz c (N 1*1) 1 (λ d9=>ΦY 7 9 (ΦF Xz c (N 7*1) 1 (λ e0=>C Zj 28 [ΦG (m d3 d4 d5 d6 d7 d8 d9 e0)] a0 λ e1 e2 e3 e4 e5 e6 e7 e8 e9 f0 f1 f2 f3 f4 f5 f6 f7 f8 f9 g0 g1 g2 g3 g4 g5 g6 g7 g8 g9 h0 h1=>(1+1)*264<=M/\U e1 (d2++[Value.int .i64 e2,ΦT e3,S e4 e5 e6,I e7,I e8,S e9 f0 f1,I f2,S f3 f4 f5,ΦT f6,S f7 f8 f9,S g0 g1 g2,S g3 g4 g5,S g6 g7 g8,I g9,ΦT h0,I h1]) (1+1) λ h2 h3 h4=>b 1 0 h2 (1+1) h3 0 0 0 ⟨⟨[]⟩⟩ 0 0 0 h4))))))))))))))))) (U a0 d2 1 (λ d3 d4 d5=>b 1 0 d3 1 d4 0 0 0 ⟨⟨[]⟩⟩ 0 0 0 d5)))))))))))))))))))))) ?_;dsimp only[aQ,aR,eQ,C,ΦF,ΦG,I,L,M,N,S,ΦT,U,ΦY,J];have i:x0.tmod 12=x0:=Int.tmod_eq_of_lt h0.1 (by omega);have b:∀k:Int,7<=k->decide (x0.tmod 12=k)=false:=λ k hk=>by rw[i];exact aao (by omega)
 refine⟨by simp,by simp,_,rfl,by simp,by simp,_,rfl,by simp,by simp,_,rfl,by simp,by simp,_,rfl,by simp,by simp,_,rfl,by simp,by simp,_,rfl,by simp,by simp,_,rfl,by simp,by simp,_,rfl,by rfl,
  by simp,by simp,_,rfl,by simp,b 7 (by simp),b 8 (by simp),b 9 (by simp),b 10 (by simp),b 11 (by simp),_,_,_,_,_,_,_,_,rfl,_,CW R D o O u V T P,?_⟩
 rintro H1 l1 ek et va vn vc vf vt xa xn xc ep sa sn sc nm A n c B m d E k e F l f ci cn ck ⟨x,q,gx⟩;refine⟨by simp,by simp,_,rfl,by simp,λ _=>⟨by simp,by simp,_,rfl,by simp,by simp,_,rfl,by simp,by simp,_,rfl,by simp,by simp,_,rfl,by simp,by simp,_,rfl,by simp,by simp,_,rfl,by simp,by simp,_,rfl,by simp,by simp,_,rfl,_,CW P D O o V u R T,?_⟩,λ _=>?_⟩
 .rintro H2 l2 X a5 a8 a2 a3 a9 b0 a6 b1 b5 a7 a1 b3 a4 b4 A2 n2 c2 B2 m2 d2 E2 k2 e2 F2 b7 f2 b2 b6 a0 ⟨y,hy,gy⟩;refine⟨by simp,λ A5 c5 Y h g j=>⟨rfl,[x,y],?_,by simp,λ z Z=>?_⟩⟩
  .exact(((AL q).mono l2).append (AL hy)).sl h g rfl j (by decide) (by simp)
  grind
 .intro A5 c5 Y h g j;exact⟨rfl,[x],(AL q).sl h g rfl j (by decide) (by simp),by simp,λ z Z=>by grind⟩
def Tp (a:Nat)(l:List LQ):Prop:=∃b d r,l=⟨[b,d]⟩::r/\WV b d/\r.length<=a/\∀c∈r,GC c.es
def Fc {x0 V x2 T F R Y G:Int}{A:D'}{n c most:Nat}{l:List U9}(x:Sl a A n c l)(hm:most<=100)(h0:ae .u16 x0)(h1:ae .u16 V)(h3:ae .u16 T)(h4:ae .u16 F)(h5:ae .u16 R)(h6:ae .u16 Y)(h7:ae .u16 G):
  ZB 38 [.agg ⟨[Φu x0,Φu V,Φu x2,Φu T,Φu F,Φu R,Φu Y,Φu G]⟩,S A n c,Φi most] a fi (λ A' n' c' z=>∃l,Sl z A' n' c' l/\Tp most l):=by
 refine ΦK 1 (aj [] [] [(3,[.slot 7 false [.row 39 164],ag 8])]) (λ b=>ΦF Yq [.int .u16 x0,.int .u16 V,.int .u16 x2,.int .u16 T,.int .u16 F,.int .u16 R,.int .u16 Y,.int .u16 G] 0 8 λ c d e f g h i j=>C ZT 87 [ΦG [.int .u16 c,.int .u16 d,.int .u16 e,.int .u16 f,.int .u16 g,.int .u16 h,.int .u16 i,.int .u16 j]] a λ k l m o=>W ZG k (λ p=>p 1 [I 1,I 0,S l m o,I 0,I 0,I 0,ΦT ⟨⟨[]⟩⟩,I 0,I 0,I 0] 0 k) λ p q r s t u=>let v:=U r t s λ v w x=>b v s w x;J (u<O n) (J (u<(↑most:Int)) (ΦX A u n (ΦE Yr r A (N u*9) (λ w x y z a0 a1 a2 a3 a4=>L [Value.int .u16 0,.int .u16 0,.int .u16 0,.int .u16 0,.int .u16 0,.int .u16 0,.int .u16 0,.int .u16 0,.int .u16 0]=9/\ΦY 0 9 (let a5:=λ(a5 a6 a7 a8 a9 b0 b1 b2 b3:Int)=>[.int .u16 a5,.int .u16 a6,.int .u16 a7,.int .u16 a8,.int .u16 a9,.int .u16 b0,.int .u16 b1,.int .u16 b2,.int .u16 b3];ΦF Xz (a5 w x y z a0 a1 a2 a3 a4) (N 0*1) 1 λ a6=>(7:Int)≠0/\ΦY 0 9 (N 0*1+1<=L [Value.int .u16 w,.int .u16 x,.int .u16 y,.int .u16 z,.int .u16 a0,.int .u16 a1,.int .u16 a2,.int .u16 a3,.int .u16 a4]/\ΦF Yr (av (a5 w x y z a0 a1 a2 a3 a4) (N 0*1) [.int .u16 (Int.tmod a6 7)]) 0 9 (λ a7 a8 a9 b0 b1 b2 b3 b4 b5=>C Zk 88 [ΦG (a5 a7 a8 a9 b0 b1 b2 b3 b4 b5)] r λ b6 b7 b8 b9 c0 c1 c2 c3 c4 c5 c6 c7 c8=>(s+1)*104<=M/\ΦR (u+1)/\let c9:=t++[Value.int .i64 b7,I b8,S b9 c0 c1,I c2,I c3,I c4,ΦT c5,I c6,I c7,I c8];p (s+1) c9 (u+1) b6/\q (s+1) c9 (u+1)<q s t u)))))) v) v) ?_;dsimp only[PL,aQ,aR,aW,eQ,C,ΦE,ΦF,ΦG,I,L,M,N,ΦR,S,ΦT,U,W,ΦX,ΦY,O,J];have b1:=x.len;have b2:=x.bn;refine⟨_,_,_,_,_,_,_,_,rfl,_,KB h0 h1 h3 h4 h5 h6 h7,?_⟩;rintro H1 l1 B m d ⟨w,E,hy,y⟩;have Z:Rep.rel H1 [Φi 1,Φi 0,S B m d,Φi 0,Φi 0,Φi 0,.string ⟨⟨[]⟩⟩,Φi 0,Φi 0,Φi 0] (⟨[w,E]⟩:LQ):=⟨_,_,_,_,_,_,_,_,_,_,_,rfl,hy⟩;refine⟨λ p q i z=>0<=i/\i<=n/\i<=most/\∃r:List LQ,p=r.length+1/\Row z q (⟨[w,E]⟩::r)/\r.length=i.toNat/\∀c∈r,GC c.es,λ _ _ i=>n-i.toNat,⟨by omega,by omega,by omega,[],rfl,Row.one Z,rfl,λ c f=>by cases f⟩,?_⟩;rintro H2 l2 p q i ⟨P,i1,i2,r,rfl,X,hl,hg⟩;dsimp only;have s:∀(g:D') (h:Nat) (e:Heap),Heap.le H2 e->Cells e g 0 q->r.length+1<=h->∃l,Sl e g (r.length+1) h l/\Tp most l:=λ g h e j f v=>
  ⟨_,X.sl j f rfl v (by show(r.length+1)*104<=_;omega) (by omega),w,E,r,rfl,y,by omega,hg⟩
 refine⟨λ b=>⟨λ o=>?_,λ _=>λ g h e j f v=>s g h e j f v⟩,λ _=>λ g h e j f v=>s g h e j f v⟩;have b:=aab b;have o:=aab o;obtain⟨hi,hA,_,D,rfl,g0,g1,g2,g3,g4,g5,g6,g7,g8⟩:=x.at (aa l1 l2) P b;generalize l[i.toNat]=u at*;have d7:=dM g0.1 (m:=7) (by simp);refine⟨hA,P,b,_,_,_,_,_,_,_,_,_,D,by rfl,by simp,by simp,_,rfl,by simp,by simp,by simp,by simp,_,_,_,_,_,_,_,_,_,rfl,_,Fb (x0:=u.a.tmod 7) (by omega) d7.2 g1 g2 g3 g4 g5 g6 g7 g8,?_⟩;rintro H3 l3 k nn A3 n3 c3 r1 r2 r3 t z1 z2 z3 ⟨rfl,Q,he,ge⟩;have rc:Rep.rel _ [.int _ 1,.int _ nn,S _ _ _,.int _ r1,.int _ r2,.int _ r3,ΦT t,.int _ z1,.int _ z2,.int _ z3] (⟨Q⟩:LQ):=⟨_,_,_,_,_,_,_,_,_,_,_,rfl,he⟩;refine⟨by omega,by omega,⟨by omega,by omega,by omega,r++[(⟨Q⟩)],by simp,(by have:=(X.mono l3).append (Row.one rc);grind),by grind,λ c f=>?_⟩,by omega⟩;grind
end
section
section
variable {H:Heap}{nm nm':ByteArray}{A A' B B' E E' F F':D'}{n c m d k e l f n' c' m' d' k' e' l' f':Nat}{s:bp}
end
def Ii {H:Heap}:ZB 59 [] H Ui (λ a b A n c h B m d E k e _=>a=0/\b=1/\A=none/\n=0/\c=0/\h=0/\B=none/\m=0/\d=0/\E=none/\k=0/\e=0):=by
 refine ΦK 0 bE (λ a=>a 0 1 none 0 0 0 none 0 0 none 0 0 H) ?_;simp
def Ij {H:Heap}:ZB 85 [] H Ui (λ a b A n c h B m d E k e _=>a=0/\b=1/\A=none/\n=0/\c=0/\h=0/\B=none/\m=0/\d=0/\E=none/\k=0/\e=0):=by
 refine ΦK 0 bE (λ a=>a 0 1 none 0 0 0 none 0 0 none 0 0 H) ?_;simp
end
section
section
attribute [local irreducible] af Cells
end
end
def Ox:bp:=VV CU 2 [1] [] []
def UQ:bp:=(bt Ox 1).1
def ye:Ed:=⟨1,CU,[Ll 0,Lm 0],⟨0,9⟩,[],0,[],kr,⟨0,mt,0⟩⟩
def Ri:Db:=⟨0,1,[⟨UQ,[]⟩]⟩
def KC:Db:=mZ Ri [ye]
def WW:EW CU Ox=true:=by kernel_rfl
def Zv:VW CU Ox UQ:=by
 obtain⟨a,h⟩:=EY WW;have:a=UQ:=(aak Prod.fst h.cr).symm;grind
def Wb:GE ye:=⟨.inl rfl,λ h=>absurd h (by decide),λ _=>⟨by decide,by decide,by decide⟩,λ v a=>by
 simp[ye,or_false]at a
 rcases a with rfl | rfl<;>decide,λ y b=>by cases b⟩
def WX:DI 2 4096 Ri:=by
 have h:=Zv;refine⟨by decide,by decide,by decide,by decide,by decide,λ s a=>?_⟩;rw[aaD.1 a];exact⟨h.valid,h.sm,by rw[h.len];simp,Br.new (tc h.valid),TI.new⟩
def Wc:bJ yd [EZ Ox,ye]=bJ Ri [ye]:=by
 rfl
def RB:aO:=⟨[Ll 0,Lm 0],⟨0,9⟩,[1]⟩
def Wd:aO:=⟨[Ll 0,Lm 0],⟨0,9⟩,[2]⟩
def Ik:canon [0,9]=[0,9]:=sK (fC _) (by simp) λ y=>fD
def UB:eJ [RB] [0]=[]:=by
 have h:eJ [RB] [0]=gn [RB] (canon [0,9]) []++[]:=by rfl
 rw[h,Ik];rfl
def UC:(eJ [RB,Wd] [0]).length=1:=by
 have h:eJ [RB,Wd] [0]=gn [RB,Wd] (canon [0,9,0,9]) []++[]:=by rfl
 have e:canon [0,9,0,9]=canon [0,9]:=ng λ y=>by grind
 rw[h,e,Ik];rfl
def WY (i:Int)(x:Int):bR:=⟨i,[Ll 0,Lm 0],⟨0,9⟩,⟨x,1099511627776⟩⟩
def UD:eC:=⟨UQ,[WY 1 1]⟩
def We:eC:=⟨UQ,[WY 1 1,WY 2 2]⟩
def Rj:tb [UD]=0:=by
 have k:kB UD=false:=by
  unfold kB;rw[show dR _=[RB]by rfl,show QV _=[0]by rfl,UB];rfl
 unfold tb;rw[aaS,abJ,k,ade,if_neg (by simp)];rfl
def Wf:tb [We]=15:=by
 have k:kB We=true:=by
  unfold kB;rw[show dR _=[RB,Wd]by rfl,show QV _=[0]by rfl,UC];rfl
 unfold tb;grind
def Rk {D:Db}{a:List Ed}(d:a.length<=200)(c:(bJ D a).2=0)(b:uq (bJ D a).1=false):pd D a=tb (bJ D a).1.tabs:=by
 unfold pd Bv;grind
def AM:bJ Ri [ye]=(⟨0,2,[UD]⟩,0):=by kernel_rfl
def wkC:pd Ri [ye]=0:=by
 exact Rj
def Wg:pd yd [EZ Ox,ye]=0:=by
 exact Rj
def WZ:mZ yd [EZ Ox,ye]=KC:=by rfl
def Xc:Fg Ri [ye]/\((bJ Ri [ye]).2=0->Ow (bJ Ri [ye]).1.tabs)/\(pd Ri [ye]=0->DI 4 4096 KC):=
 WX.WT (by simp) (λ x a=>by rw[aaD.1 a];exact Wb) (by simp)
def Xd:Fg yd [EZ Ox,ye]:=by
 have h:=Zv;have b:DI 2 4096 yd:=⟨by decide,by decide,by decide,by decide,by decide,λ s a=>by cases a⟩;refine⟨b.ok (by simp) (by simp),⟨by simp,by simp,λ _=>?_,λ h=>absurd h (by simp)⟩,λ _=>by exact tc h.valid,λ _=>by exact Xc.1⟩;exact⟨h.cr,by decide,λ s a=>(by cases a),λ f c=>(by cases c)⟩
def Wh:DI 4 4096 KC:=Xc.2.2 wkC
def Wi:Fg KC [ye]/\((bJ KC [ye]).2=0->Ow (bJ KC [ye]).1.tabs)/\(pd KC [ye]=0->DI 6 4096 (mZ KC [ye])):=
 Wh.WT (by simp) (λ x a=>by rw[aaD.1 a];exact Wb) (by simp)
def UE:KC=⟨1,2,[UD]⟩:=by rfl
def KD:bJ KC [ye]=(⟨1,3,[We]⟩,0):=by rfl
def Xe:pd KC [ye]=15:=by
 exact Wf
def wkK:Ow KC.tabs:=Wh.UP (by simp) (by simp)
def Wj:tb KC.tabs=0:=by exact Rj
end Go.Vc
