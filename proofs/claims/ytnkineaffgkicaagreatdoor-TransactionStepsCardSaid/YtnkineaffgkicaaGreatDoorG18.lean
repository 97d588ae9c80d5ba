/- A part of the proof of TransactionSteps. -/
import Derived.Test.YtnkineaffgkicaaGreatDoorG17
set_option maxHeartbeats 16000000
set_option maxRecDepth 100000
set_option linter.unusedVariables false
set_option linter.defProp false
set_option linter.unusedSectionVars false
set_option linter.unusedSimpArgs false
namespace Go.Vc
open Go Go.Shelf Go.Proofs
section
variable {a:Heap}{b:D'}{c d e:Nat}{f:List az}{g h:Int}
def Jp (j:Sl a b c d f):
  ZB 82 [.slice b c d] a ⟨false,[(false,[.row e 133])]⟩ (λ m s t=>m=f.length/\Row t s f):=by
 refine ΦK 0 bE (λ d=>ΦQ (Option.isNone b) (d 0 [] a) (∃e:G',Cells a b 0 e/\L e=c*3/\(0+c)*32<=M/\d (0+c) ([]++e) a)) ?_;dsimp only[L,M,ΦQ];refine⟨λ u=>?_,λ u=>?_⟩
 .have:c=0:=by
   rcases abl c with h | h
   .grind
   .obtain⟨g,o,i⟩:=j.cD h;grind
  subst this;rw[aal j.len];exact⟨rfl,rfl⟩
 .obtain⟨k,q,p⟩:=j.row;refine⟨k,q,by rw[p.length,j.len];rfl,by have:=j.bnd;rw[aaT];omega,by rw[j.len];simp,by grind⟩
def pc (a:List az)(f t id:Int):List aO:=if f<t then[⟨a,⟨f,t⟩,[id]⟩]else[]
def fK (p:bc)(a:Option (List az))(v:bR):List aO:=
 pc v.vals v.vd.lo (cv v.vd p).lo v.id++(match a with
  | some l=>pc l (cv v.vd p).lo (cv v.vd p).hi v.id
  | none=>[])++pc v.vals (cv v.vd p).hi v.vd.hi v.id
def fS (p:bc)(a:bR->Option (List az))(l:List bR):List aO:=l.flatMap λ v=>fK p (a v) v
def vh {vals:List az}{f t id:Int}:(pc vals f t id).length<=1:=by unfold pc;grind
def Jq {p:bc}{ch:Option (List az)}{v:bR}:(fK p ch v).length<=3:=by
 unfold fK;have a:=vh (vals:=v.vals) (f:=v.vd.lo) (t:=(cv v.vd p).lo) (id:=v.id);have b:=vh (vals:=v.vals) (f:=(cv v.vd p).hi) (t:=v.vd.hi) (id:=v.id);cases ch with
 | none=>grind
 | some l=>
  have c:=vh (vals:=l) (f:=(cv v.vd p).lo) (t:=(cv v.vd p).hi) (id:=v.id);grind
def vi {p:bc}{a:bR->Option (List az)}{l:List bR}{v:bR}:fS p a (l++[v])=fS p a l++fK p (a v) v:=by simp[fS]
def jB {p:bc}{ch:bR->Option (List az)}{l:List bR}:(fS p ch l).length<=3*l.length:=by
 induction l with
 | nil=>simp[fS]
 | cons v l a=>
  have:fS p ch (v::l)=fK p (ch v) v++fS p ch l:=by rfl
  have b:=Jq (p:=p) (ch:=ch v) (v:=v);grind
def vj {p q:bc}(a:ae .i64 p.lo)(b:ae .i64 p.hi)(d:ae .i64 q.lo)(c:ae .i64 q.hi):ae .i64 (cv p q).lo/\ae .i64 (cv p q).hi:=by
 unfold cv;grind
def nY {B:D'}{i:List az}{id:Int}(o:Sl a b c d i)(m:ae .i64 g)(l:ae .i64 h)(k:ae .i64 id)(p:Cells a B 0 [.int .i64 id])(j:1<=e):
  Rep.rel a [.slice b c d,Φi g,Φi h,.slice B 1 e] (⟨i,⟨g,h⟩,[id]⟩:aO):=
 ⟨b,c,d,B,1,e,rfl,o,m,l,(Row.one (show Rep.rel a [Value.int .i64 id] id from⟨rfl,k⟩)).sl (ah _) p rfl j (by decide) (by simp)⟩
abbrev vo (d:Nat)(b:G')(c:Nat)(a:G'):List BC:=[.row 3 d b,.row 107 c a]
def zr {O:aU}{q o s r:Nat}{m k:G'}{j:List az}{id:Int}{l:List aO}(E:Sl a b c d j)(z:ae .i64 g)(w:ae .i64 h)(G:ae .i64 id)
  (y:Cells a (some ⟨e,0,none⟩) (0+0) [.int .i64 id]) (D:Row a k l) (C:o=l.length) (x:(o+1)*64<=140737488355328):
  ZD 340 [.v (.slice b c d),.v (Φi g),.v (Φi h),.me,.v (.pointer (some ⟨e,0,none⟩))] 176 (vo q m o k) a O [.row s 3,.row r 107] ⟨true,[]⟩
   (λ B u L P N T=>B=q/\u=m/\L=(l++pc j g h id).length/\Row N P (l++pc j g h id)):=by
 refine uL 3 0 bE (λ f=>∀i:Nat,J (g<h) (ΦE ZE a (some ⟨e,0,none⟩) (0+0) (λ j=>U a [I j] 1 λ l n p=>(o+1)*64<=M/\i=i/\f q m (o+1) (k++[Value.slice b c d,I g,I h,S l 1 n]) p O)) (i=i/\f q m o k a O)) trivial ?_;dsimp only[eQ,ΦE,M,J];intro W;simp only[aad];refine⟨λ i=>⟨id,y,λ X V R p Q F=>⟨x,trivial,trivial,trivial,?_,?_⟩⟩,λ i=>⟨trivial,trivial,trivial,?_,?_⟩⟩
 .rw[pc,if_pos i,aae,C];rfl
 .rw[pc,if_pos i];exact(D.mono p).append (Row.one (nY (E.mono p) z w G Q F))
 .rw[pc];grind
 .rw[pc];grind
def Py {B:D'}{l:Nat}{Y:List bR}{Q:List Xp}{r:Int}(hs:Sl a b c d Y)(ha:nk Y)(he:Sl a B e l Q)(hw:AP Q)(r0:0<=r)(r1:r<Q.length)(hb:Q.length<=1000000)(hn:c<=100000000)(ra:ae .i64 g)(rb:ae .i64 h):
  ZB 262 [.slice b c d,.agg ⟨[Φi g,Φi h]⟩,.slice B e l,Φi r,.nilFunc] a Sg
   (λ A1 n1 c1 A2 n2 c2 H'=>Sl H' A1 n1 c1 ((cW Y ⟨g,h⟩ Q r).map bR.id)/\Sl H' A2 n2 c2 (fS ⟨g,h⟩ (λ _=>none) (cW Y ⟨g,h⟩ Q r))):=by
 refine ΦK 8 {aj [] [(8,[2,4,6,10,12,14,16,18,9,21,0]),(10,[2,4,6,8,12,14,16,18,11,21,0]),(11,[2,4,6,10,12,14,16,18,9,21,0])] [(3,[ag 23,.box 11 176 [.row 82 3,.row 83 107]])]with pa:=lI [] [(4,[13])],bxr:=λ | 8=>some (λ | 340=>some [.row 76 3,.row 77 107] | _=>none) | 10=>some (λ | 340=>some [.row 78 3,.row 79 107] | _=>none) | 11=>some (λ | 340=>some [.row 80 3,.row 81 107] | _=>none) | _=>none,bxt:=lI [] [(8,[11]),(10,[11]),(11,[11])]} (λ f=>C ZT 339 [S b c d,ΦG [I g,I h],S B e l,I r] a λ i j k m=>W ZL i (λ n=>n 0 0 [] 0 [] i) λ n o p q s t u v=>J (q<O k) (ΦX j q k (ΦE ZH p j (N q*6) (λ w x y z a0 a1 a2 a3=>∀(a4:Nat)(a5:Heap),Heap.le p a5->Cells a5 (some ⟨a4,0,none⟩) 0 [I w,S x y z,I a0,I a1,I a2,I a3]->ΦE ZE a5 (some ⟨a4,0,none⟩) (0+0) λ a6=>(s+1)*8<=M/\ΦE ZK a5 (some ⟨a4,0,none⟩) (0+2) λ a7 a8=>C ZW 250 [ΦG [I a7,I a8],ΦG [I g,I h]] a5 λ a9 b0 b1 b2=>ΦE ZM a9 (some ⟨a4,0,none⟩) (0+1) λ b3 b4 b5=>ΦE ZE a9 (some ⟨a4,0,none⟩) (0+2+0) λ b6=>C ZT 82 [S b3 b4 b5] a9 λ b7 b8 b9 c0=>let c1:=λ c1 (c2 c3:Nat)(c4 c5:Int)=>[BA.v (S c1 c2 c3),BA.v (I c4),BA.v (I c5),BA.me,BA.v (.pointer (some ⟨a4,0,none⟩))];tS Xl ZV 340 (c1 b8 b9 c0 b6 b0) 176 [BC.row 3 (s+1) (t++[Value.int .i64 a6]),BC.row 107 u v] b7 ux λ c2 c3 c4 c5 c6 c7=>ΦQ (!true) (ΦE ZM c2 (some ⟨a4,0,none⟩) (0+1) (λ c8 c9 d0=>False)) (ΦE ZM c2 (some ⟨a4,0,none⟩) (0+1) (λ c8 c9 d0=>ΦE ZE c2 (some ⟨a4,0,none⟩) (0+2+1) λ d1=>C ZT 82 [S c8 c9 d0] c2 λ d2 d3 d4 d5=>tS ZN ZV 340 (c1 d3 d4 d5 b1 d1) 176 [BC.row 3 c4 c5,BC.row 107 c6 c7] d2 c3 λ d6 d7 d8 d9 e0 e1=>ΦR (q+1)/\n (q+1) d8 d9 e0 e1 d6/\o (q+1) d8 d9 e0 e1<o q s t u v))))) (U p t s (λ w x y=>U y v u λ z a0 a1=>f w s x z u a0 a1))) ?_;dsimp only[PL,aQ,aR,aW,eQ,C,tS,ΦE,M,N,ΦQ,ΦR,W,ΦX,O,J];refine⟨_,wz hs ha he hw r0 r1 hb,?_⟩;rintro H1 c0 A3 n4 c5 hA;have hL:(cW Y ⟨g,h⟩ Q r).length<=c:=by rw[<-hs.len];exact jz
 generalize cW Y ⟨g,h⟩ Q r=L at*;have s2:=hA.len;refine⟨λ i q0 a9 q1 a6 H'=>0<=i/\i<=n4/\q0=i.toNat/\Row H' a9 ((L.take i.toNat).map bR.id)/\q1=(fS ⟨g,h⟩ (λ _=>none) (L.take i.toNat)).length/\Row H' a6 (fS ⟨g,h⟩ (λ _=>none) (L.take i.toNat)),λ i _ _ _ _=>n4-i.toNat,y' ⟨rfl,rfl,rfl,rfl⟩,?_⟩;rintro H9 a7 i q0 a9 q1 a6 ⟨h0,h1,d2,V,P,R⟩;have b6:q1<=3*i.toNat:=by rw[P];refine aax jB ?_;simp;omega
 simp only[aad,aaf];refine⟨λ a3=>?_,λ f0=>?_⟩
 .obtain⟨hi,b1,_,b0,A9,n9,c9,rfl,v1,v2,v3,v4,v5,v6⟩:=hA.at a7 h0 a3;refine⟨b1,h0,a3,_,_,_,_,_,_,_,_,b0,?_⟩;rintro f4 d9 z hg;refine⟨_,hg.cy (k:=0) rfl,by omega,_,_,hg.TH (k:=2) rfl rfl,_,iK,?_⟩;rintro e7 u x y e5 ⟨e1,-⟩;have hm:=vj (p:=⟨L[i.toNat].vd.lo,L[i.toNat].vd.hi⟩) (q:=⟨g,h⟩) v3 v4 ra rb;rw[<-e1]at hm;have G:=hg.mono u;refine⟨_,_,_,G.cy (k:=1) rfl,_,G.cy (k:=2) rfl,_,fx (v2.mono (aa z u)),?_⟩;rintro e2 w d4 e9 d6 b2;have F:=aa z (aa u w);refine⟨_,zr b2 v3 hm.1 v1 ((G.mono w).cy (k:=0) rfl) (R.mono F) P (by omega),?_⟩;rintro e6 s e8 d1 b3 f1 b5 ⟨rfl,rfl,a5,a1⟩;have X:=(G.mono w).mono s;refine⟨λ o=>(by grind),λ _=>⟨_,_,_,X.cy (k:=1) rfl,_,X.cy (k:=3) rfl,_,fx (v2.mono (aa F s)),?_⟩⟩;rintro c4 v d3 e0 d7 a0;have f2:=vh (vals:=L[i.toNat].vals) (f:=L[i.toNat].vd.lo) (t:=x) (id:=L[i.toNat].id);refine⟨_,zr a0 hm.2 v4 v1 ((X.mono v).cy (k:=0) rfl) (a1.mono v) a5 (by grind),?_⟩;rintro d5 T e3 d0 b8 f3 b7 ⟨rfl,rfl,b9,b4⟩;have ep:fS ⟨g,h⟩ (λ _=>none) (L.take (i+1).toNat)=fS ⟨g,h⟩ (λ _=>none) (L.take i.toNat)++pc L[i.toNat].vals L[i.toNat].vd.lo x L[i.toNat].id++pc L[i.toNat].vals y L[i.toNat].vd.hi L[i.toNat].id:=by
   rw[bu h0 hi,vi,fK];have e1:cv L[i.toNat].vd _=⟨x,y⟩:=e1.symm;grind
  refine u' ⟨J' ⟨?_,?_,?_⟩,by omega⟩
  .rw[bu h0 hi,aaR];exact(V.mono (aa F (aa s (aa v T)))).append (Row.one (⟨rfl,v1⟩))
  .grind
  grind
 .have j:L.take i.toNat=L:=aag (by omega);rw[j]at V P R;intro e4 c3 c6 E a8 Z d8 c8 c7 D a2 a4;exact⟨(V.sl E a8 (by grind) Z (by show q0*8<=_;omega) (by omega)).mono D,R.sl (aa E D) a2 P.symm a4 (by show q1*64<=_;omega) (by omega)⟩
end
section
variable {a:Heap}{b c i:D'}{d e f g j k:Nat}{h:List Xp}{l:List xP}{m:List bR}{n o p:Int}
def Sk {Y Z:Nat}{p:List az}(v:Sl a b d e p)(h0:Cells a (some ⟨Y,0,none⟩) 0 [.slice i j k])(h1:Cells a (some ⟨Z,0,none⟩) 0 [.slice c f g])
  (he:Sl a c f g h) (Q:Sl a i j k l) (hw:AP h) (hb:h.length<=1000000) (ho:Rx h l):
  ZB 263 [.slice b d e,.pointer (some ⟨Y,0,none⟩),.pointer (some ⟨Z,0,none⟩)] a fi (λ A' n' c' X=>Sl X A' n' c' (iw h p l)):=by
 refine ΦK 2 {aj [] [(6,[2,4,6,8,10,12,14,17,19,21,0])] [(3,[.slot 5 false [.row 38 133],ag 12])]with res:=wj [(9,⟨false,[(false,[.row 37 133])]⟩)]} (λ c=>C ZX 82 [S b d e] a λ f g h=>ΦE ZM f (some ⟨Y,0,none⟩) 0 λ i j k=>W ZG f (λ l=>l g h 0 f) λ l m n o p q=>J (q<O j) (ΦX i q j (ΦE ZK n i (N q*2) (λ r s=>let t:=ΦR (q+1)/\l o p (q+1) n/\m o p (q+1)<m o p q;J (0<=r) (J (r<O o) (ΦE ZM n (some ⟨Z,0,none⟩) 0 (λ u v w=>C ZU 264 [S u v w,I s,S b d e] n λ x y z a0=>ΦY r o (N r*3+3<=L p/\ΦR (q+1)/\(let a1:=av p (N r*3) [I y,I z,ΦT a0];l o a1 (q+1) x/\m o a1 (q+1)<m o p q)))) t) t))) (U n p o (λ r s t=>c r o s t))) ?_;dsimp only[PL,aQ,aR,aW,eQ,C,ΦE,L,N,ΦR,W,ΦX,ΦY,O,J];have s1:=v.len;have t1:=Q.len;have t2:=Q.bn;refine⟨_,Jp v,?_⟩;rintro H1 s n3 a6 ⟨z,D⟩;have z:d=n3:=by omega
 subst z;refine⟨_,_,_,h0.mono s,λ q M o X=>0<=o/\o<=j/\q=d/\Row X M (iw h p (l.take o.toNat)),λ _ _ o=>j-o.toNat,y' ⟨rfl,D⟩,?_⟩;rintro H3 V q M o ⟨F,i1,rfl,P⟩;have G:=aa s V;simp only[aad,aaf];refine⟨λ x=>?_,λ a2=>?_⟩
 .obtain⟨hi,hA,_,R,rfl,r1,r2⟩:=Q.at G F x;have a8:(iw h p (l.take o.toNat)).length=q:=by rw[tV,s1]
  have r:=ho _ (aan hi);have w:¬(0<=l[o.toNat].col/\l[o.toNat].col<q)->ae .i64 (o+1)/\(0<=o+1/\o+1<=j/\True/\Row H3 M (iw h p (l.take (o+1).toNat)))/\j-(o+1).toNat<j-o.toNat:=by
   rw[bu F hi,qU,zq];grind
  refine⟨hA,F,x,_,_,R,λ T=>⟨λ a1=>?_,λ a1=>w (by omega)⟩,λ T=>w (by omega)⟩;refine⟨_,_,_,h1.mono G,_,Cj (he.mono G) (v.mono G) hw r.1 r.2 hb,?_⟩;rintro a7 u k1 k2 k3 hv;have a3:M.length=(iw _ _ _).length*3:=P.length;refine⟨T,a1,y' ⟨y' ⟨trivial,?_⟩,by omega⟩⟩;rw[bu F _,qU];exact P.Zm u he.Vz v.Wr T (by omega) hv
 .have k:l.take o.toNat=l:=aag (by omega);rw[k]at P;intro a9 a4 a5 t y hn;exact P.sl t y (by rw[tV,s1]) hn v.bnd v.bn
def Pz {w k g0 g1:Nat}{r:Int}(hs:Sl a b d e m)(ha:nk m)(he:Sl a c w g h)(hw:AP h)(r0:0<=r)(r1:r<h.length)(hb:h.length<=1000000)(hn:d<=100000000)(ra:ae .i64 n)(rb:ae .i64 o)
  (c0:Cells a (some ⟨g0,0,none⟩) 0 [.slice i k j]) (c1:Cells a (some ⟨g1,0,none⟩) 0 [.slice c w g]) (ht:Sl a i k j l) (ho:Rx h l):
  ZB 262 [.slice b d e,.agg ⟨[Φi n,Φi o]⟩,.slice c w g,Φi r,.func (.func 263) #[] #[.pointer (some ⟨g0,0,none⟩),.pointer (some ⟨g1,0,none⟩)]] a Sg
   (λ A1 n1 c1 A2 n2 c2 H'=>Sl H' A1 n1 c1 ((cW m ⟨n,o⟩ h r).map bR.id)/\Sl H' A2 n2 c2 (fS ⟨n,o⟩ (λ v=>some (iw h v.vals l)) (cW m ⟨n,o⟩ h r))):=by
 refine ΦK 8 {aj [] [(8,[2,4,6,10,12,14,16,18,9,21,0]),(10,[2,4,6,8,12,14,16,18,11,21,0]),(11,[2,4,6,10,12,14,16,18,9,21,0])] [(3,[ag 23,.box 11 176 [.row 82 3,.row 83 107]])]with pa:=lI [] [(4,[13])],bxr:=λ | 8=>some (λ | 340=>some [.row 76 3,.row 77 107] | _=>none) | 10=>some (λ | 340=>some [.row 78 3,.row 79 107] | _=>none) | 11=>some (λ | 340=>some [.row 80 3,.row 81 107] | _=>none) | _=>none,bxt:=lI [] [(8,[11]),(10,[11]),(11,[11])]} (λ f=>C ZT 339 [S b d e,ΦG [I n,I o],S c w g,I r] a λ h i j k=>W ZL h (λ l=>l 0 0 [] 0 [] h) λ l m p q s t u v=>J (q<O j) (ΦX i q j (ΦE ZH p i (N q*6) (λ x y z a0 a1 a2 a3 a4=>∀(a5:Nat)(a6:Heap),Heap.le p a6->Cells a6 (some ⟨a5,0,none⟩) 0 [I x,S y z a0,I a1,I a2,I a3,I a4]->ΦE ZE a6 (some ⟨a5,0,none⟩) (0+0) λ a7=>(s+1)*8<=M/\ΦE ZK a6 (some ⟨a5,0,none⟩) (0+2) λ a8 a9=>C ZW 250 [ΦG [I a8,I a9],ΦG [I n,I o]] a6 λ b0 b1 b2 b3=>ΦE ZM b0 (some ⟨a5,0,none⟩) (0+1) λ b4 b5 b6=>ΦE ZE b0 (some ⟨a5,0,none⟩) (0+2+0) λ b7=>C ZT 82 [S b4 b5 b6] b0 λ b8 b9 c0 c1=>let c2:=λ c2 (c3 c4:Nat)(c5 c6:Int)=>[BA.v (S c2 c3 c4),BA.v (I c5),BA.v (I c6),BA.me,BA.v (.pointer (some ⟨a5,0,none⟩))];tS Xl ZV 340 (c2 b9 c0 c1 b7 b1) 176 [BC.row 3 (s+1) (t++[Value.int .i64 a7]),BC.row 107 u v] b8 ux λ c3 c4 c5 c6 c7 c8=>let c9:=λ c9 (d0:Nat) d1 (d2:Nat) d3 d4=>ΦE ZM c9 (some ⟨a5,0,none⟩) (0+1) λ d5 d6 d7=>ΦE ZE c9 (some ⟨a5,0,none⟩) (0+2+1) λ d8=>C ZT 82 [S d5 d6 d7] c9 λ d9 e0 e1 e2=>tS ZN ZV 340 (c2 e0 e1 e2 b2 d8) 176 [BC.row 3 d0 d1,BC.row 107 d2 d3] d9 d4 λ e3 e4 e5 e6 e7 e8=>ΦR (q+1)/\l (q+1) e5 e6 e7 e8 e3/\m (q+1) e5 e6 e7 e8<m q s t u v;ΦQ (!false) (ΦE ZM c3 (some ⟨a5,0,none⟩) (0+1) (λ d0 d1 d2=>C ZT 263 [S d0 d1 d2,.pointer (some ⟨g0,0,none⟩),.pointer (some ⟨g1,0,none⟩)] c3 λ d3 d4 d5 d6=>tS Xm ZV 340 (c2 d4 d5 d6 b1 b2) 176 [BC.row 3 c5 c6,BC.row 107 c7 c8] d3 c4 λ d7 d8 d9 e0 e1 e2=>c9 d7 d9 e0 e1 e2 d8)) (c9 c3 c5 c6 c7 c8 c4)))) (U p t s (λ x y z=>U z v u λ a0 a1 a2=>f x s y a0 u a1 a2))) ?_;dsimp only[PL,aQ,aR,aW,eQ,C,tS,ΦE,M,N,ΦQ,ΦR,W,ΦX,O,J];refine⟨_,wz hs ha he hw r0 r1 hb,?_⟩;rintro H1 b8 A3 n4 c5 hA;have hL:(cW m ⟨n,o⟩ h r).length<=d:=by rw[<-hs.len];exact jz
 generalize cW m ⟨n,o⟩ h r=L at*;have s2:=hA.len;refine⟨λ u q0 c4 q1 b9 H'=>0<=u/\u<=n4/\q0=u.toNat/\Row H' c4 ((L.take u.toNat).map bR.id)/\q1=(fS ⟨n,o⟩ (λ v=>some (iw h v.vals l)) (L.take u.toNat)).length/\Row H' b9 (fS ⟨n,o⟩ (λ v=>some (iw h v.vals l)) (L.take u.toNat)),λ u _ _ _ _=>n4-u.toNat,y' ⟨rfl,rfl,rfl,rfl⟩,?_⟩;rintro H9 a4 u q0 c4 q1 b9 ⟨h0,h1,f4,a8,Y,a5⟩;have d5:q1<=3*u.toNat:=by rw[Y];refine aax jB ?_;simp;omega
 simp only[aad,aaf];refine⟨λ b4=>?_,λ h6=>?_⟩
 .obtain⟨hi,c8,_,c6,A9,n9,c9,rfl,v1,v2,v3,v4,v5,v6⟩:=hA.at a4 h0 b4;have a0:=aa b8 a4;refine⟨c8,h0,b4,_,_,_,_,_,_,_,_,c6,?_⟩;rintro i1 f9 Q hg;refine⟨_,hg.cy (k:=0) rfl,by omega,_,_,hg.TH (k:=2) rfl rfl,_,iK,?_⟩;rintro h2 F x y g8 ⟨e1,-⟩;have hm:=vj (p:=⟨L[u.toNat].vd.lo,L[u.toNat].vd.hi⟩) (q:=⟨n,o⟩) v3 v4 ra rb;rw[<-e1]at hm;have Z:=hg.mono F;refine⟨_,_,_,Z.cy (k:=1) rfl,_,Z.cy (k:=2) rfl,_,fx (v2.mono (aa Q F)),?_⟩;rintro g4 G f5 h5 f7 d0;have a3:=aa Q (aa F G);refine⟨_,zr d0 v3 hm.1 v1 ((Z.mono G).cy (k:=0) rfl) (a5.mono a3) Y (by omega),?_⟩;rintro g9 R h3 f2 d1 h7 d2 ⟨rfl,rfl,a2,b2⟩;have a9:=(Z.mono G).mono R;have z:=aa a3 R;have h8:=vh (vals:=L[u.toNat].vals) (f:=L[u.toNat].vd.lo) (t:=x) (id:=L[u.toNat].id);refine⟨λ _=>⟨_,_,_,a9.cy (k:=1) rfl,_,Sk (v2.mono z) (c0.mono (aa a0 z)) (c1.mono (aa a0 z)) (he.mono (aa a0 z)) (ht.mono (aa a0 z)) hw hb ho,?_⟩,λ s=>(by cases s)⟩;rintro i2 D f3 h4 e8 c7;refine⟨_,zr c7 hm.1 hm.2 v1 ((a9.mono D).cy (k:=0) rfl) (b2.mono D) a2 (by rw[a2,aae,<-Y];omega),?_⟩;rintro h9 X e2 e0 d3 g2 d8 ⟨rfl,rfl,b7,b6⟩;have a6:=(a9.mono D).mono X;have a1:=aa z (aa D X);have g6:=vh (vals:=iw h L[u.toNat].vals l) (f:=x) (t:=y) (id:=L[u.toNat].id);refine⟨_,_,_,a6.cy (k:=1) rfl,_,a6.cy (k:=3) rfl,_,fx (v2.mono a1),?_⟩;rintro i0 P e6 e4 e3 b1;refine⟨_,zr b1 hm.2 v4 v1 ((a6.mono P).cy (k:=0) rfl) (b6.mono P) b7 (by grind),?_⟩;rintro f6 a7 g3 g5 d4 e7 d6 ⟨rfl,rfl,d7,d9⟩;have ep:fS ⟨n,o⟩ (λ v=>some (iw h v.vals l)) (L.take (u+1).toNat)=fS ⟨n,o⟩ (λ v=>some (iw h v.vals l)) (L.take u.toNat)++pc L[u.toNat].vals L[u.toNat].vd.lo x L[u.toNat].id++pc (iw h L[u.toNat].vals l) x y L[u.toNat].id++pc L[u.toNat].vals y L[u.toNat].vd.hi L[u.toNat].id:=by
   rw[bu h0 hi,vi,fK];have e1:cv L[u.toNat].vd _=⟨x,y⟩:=e1.symm;grind
  refine u' ⟨J' ⟨?_,?_,?_⟩,by omega⟩
  .rw[bu h0 hi,aaR];exact(a8.mono (aa a1 (aa P a7))).append (Row.one (⟨rfl,v1⟩))
  .grind
  grind
 .have j:L.take u.toNat=L:=aag (by omega);rw[j]at a8 Y a5;intro g7 e5 e9 V c3 b0 f8 f1 f0 T b3 b5;exact⟨(a8.sl V c3 (by grind) b0 (by show q0*8<=_;omega) (by omega)).mono T,a5.sl (aa V T) b3 Y.symm b5 (by show q1*64<=_;omega) (by omega)⟩
def oV (b:List bR)(p:bc)(a:List Xp)(r:Int):List Int:=(cW b p a r).map bR.id
def PA (a:List bR)(p:bc)(b:List Xp)(r:Int):List aO:=fS p (λ _=>none) (cW a p b r)
def PB (c:List bR)(p:bc)(b:List Xp)(r:Int)(a:List xP):List aO:=fS p (λ v=>some (iw b v.vals a)) (cW c p b r)
def MJ (y:Sl a b d e m)(E:nk m)(D:Sl a c f g h)(w:AP h)(t:0<=p)(l:p<h.length)(q:h.length<=1000000)(z:d<=100000000)(k:ae .i64 n)(x:ae .i64 o):
  ZB 203 [.slice b d e,.agg ⟨[Φi n,Φi o]⟩,.slice c f g,Φi p] a Sg (λ s G u F J v j=>Sl j s G u (oV m ⟨n,o⟩ h p)/\Sl j F J v (PA m ⟨n,o⟩ h p)):=by
 refine ΦK 0 bE (λ h=>C ZY 262 [S b d e,ΦG [I n,I o],S c f g,I p,Value.nilFunc] a λ i j k l m q r=>h j k l m q r i) ?_;dsimp only[aQ,aR,C];exact⟨_,Py y E D w t l q z k x,λ _ _ _ _ _ _ _ _ i=>i⟩
def MK (Q:Sl a b d e m)(U:nk m)(T:Sl a c f g h)(N:AP h)(L:0<=p)(z:p<h.length)(G:h.length<=1000000)(R:d<=100000000)(D:ae .i64 n)(P:ae .i64 o)
  (F:Sl a i j k l) (O:Rx h l):
  ZB 206 [.slice b d e,.agg ⟨[Φi n,Φi o]⟩,.slice c f g,Φi p,.slice i j k] a Sg (λ J W x V X M y=>Sl y J W x (oV m ⟨n,o⟩ h p)/\Sl y V X M (PB m ⟨n,o⟩ h p l)):=by
 refine ΦK 0 {bE with pbx:=mem [7,9]} (λ h=>∀(l m:Nat)(q:Heap),Heap.le a q->Cells q (some ⟨l,0,none⟩) 0 [S c f g]->1<=m->∀(r s:Nat)(t:Heap),Heap.le q t->Cells t (some ⟨r,0,none⟩) 0 [S i j k]->1<=s->ΦE ZM t (some ⟨l,0,none⟩) 0 λ u v w=>C ZY 262 [S b d e,ΦG [I n,I o],S u v w,I p,.func (.func 263) ⟨[]⟩ ⟨[.pointer (some ⟨r,0,none⟩),.pointer (some ⟨l,0,none⟩)]⟩] t λ x y z a0 a1 a2 a3=>h y z a0 a1 a2 a3 x) ?_;dsimp only[aQ,aR,eQ,C,ΦE];intro Z x H2 u t _ Y c7 H8 s w _;have v:=aa u s;exact⟨_,_,_,t.mono s,_,Pz (Q.mono v) U (T.mono v) N L z G R D P w (t.mono s) (F.mono v) O,λ _ _ _ _ _ _ _ _ q=>q⟩
end
section
variable {a b:Int}{c:List az}{d:Heap}{e f:D'}{g h i j:Nat}
def jO {id:Int}(h:a<b):pc c a b id=[⟨c,⟨a,b⟩,[id]⟩]:=if_pos h
def rR {id:Int}(h:¬a<b):pc c a b id=[]:=if_neg h
def pW {p:bc}{v:bR}:fK p (some c) v=pc v.vals v.vd.lo (cv v.vd p).lo v.id++pc c (cv v.vd p).lo (cv v.vd p).hi v.id++pc v.vals (cv v.vd p).hi v.vd.hi v.id:=rfl
def pX {p:bc}{v:bR}:fK p none v=pc v.vals v.vd.lo (cv v.vd p).lo v.id++[]++pc v.vals (cv v.vd p).hi v.vd.hi v.id:=rfl
def Sm {vs:List bR}{p:bc}{es:List Xp}{r:Int}{v:bR}(h:v∈cW vs p es r):(cv v.vd p).lo<(cv v.vd p).hi:=by
 have h:=(abc.1 h).2;unfold nX at h;simp at h;have a:=h.1.2;rw[cv];unfold gi at a;grind
def zt {E:D'}{k l:Nat}{vs:List bR}{es:List Xp}{set:List xP}{r:Int}{a0:Bool}(hs:Sl d e g h vs)(ha:nk vs)(he:Sl d f i j es)(hw:AP es)(r0:0<=r)(r1:r<es.length)(hb:es.length<=1000000)(hn:g<=100000000)(ra:ae .i64 a)(rb:ae .i64 b)
  (ht:Sl d E k l set) (ho:Rx es set):
  ZB 154 [.slice e g h,.agg ⟨[Φi a,Φi b]⟩,.slice f i j,Φi r,.bool a0,.slice E k l] d Sg
   (λ A1 n1 c1 A2 n2 c2 H'=>Sl H' A1 n1 c1 (oV vs ⟨a,b⟩ es r)/\Sl H' A2 n2 c2 (fS ⟨a,b⟩ (λ v=>if a0 then some (iw es v.vals set)else none) (cW vs ⟨a,b⟩ es r))):=by
 refine ΦK 2 (aj [] [(11,[2,4,6,8,10,12,16,18,15,20,23,25,26,29,0])] [(3,[ag 25,.box 13 176 [.row 104 3,.row 105 107]])]) (λ c=>C ZT 225 [S e g h,ΦG [I a,I b],S f i j,I r] d λ m n o p=>W ZL m (λ q=>q 0 0 [] 0 [] m) λ q s t u v w x y=>J (u<O o) (ΦX n u o (ΦE ZH t n (N u*6) (λ z a1 a2 a3 a4 a5 a6 a7=>(v+1)*8<=M/\C ZW 226 [ΦG [I a4,I a5],ΦG [I a,I b]] t λ a8 a9 b0 b1=>let b2:=λ b2 (b3 b4:Nat)(b5 b6:Int) b7 (b8:Nat)=>[Value.slice b2 b3 b4,I b5,I b6,S b7 1 b8];let b3:=λ b3 (b4 b5:Nat)(b6 b7:Int) b8 (b9:Nat) c0=>ΦR (u+1)/\q (u+1) (v+1) (w++[Value.int .i64 z]) (x+1) (y++b2 b3 b4 b5 b6 b7 b8 b9) c0/\s (u+1) (v+1) (w++[Value.int .i64 z]) (x+1) (y++b2 b3 b4 b5 b6 b7 b8 b9)<s u v w x y;let b4:=λ b4 (b5 b6:Nat)(b7 b8:Int) b9 (c0:Nat) c1 (c2 c3:Nat)(c4:Int) c5=>ΦR (u+1)/\q (u+1) (v+1) (w++[Value.int .i64 z]) (x+1+1) (y++b2 b4 b5 b6 b7 b8 b9 c0++b2 c1 c2 c3 b8 c4 b9 c0) c5/\s (u+1) (v+1) (w++[Value.int .i64 z]) (x+1+1) (y++b2 b4 b5 b6 b7 b8 b9 c0++b2 c1 c2 c3 b8 c4 b9 c0)<s u v w x y;let b5:=[S a1 a2 a3,S f i j,S E k l];J (a4<a9) (U a8 [I z] 1 (λ b6 b7 b8=>(x+1)*64<=M/\ΦQ a0 (C ZT 227 b5 b8 (λ b9 c0 c1 c2=>(x+1+1)*64<=M/\J (b0<a5) ((x+1+1+1)*64<=M/\ΦR (u+1)/\(let c3:=y++b2 a1 a2 a3 a4 a9 b6 b7++b2 c0 c1 c2 a9 b0 b6 b7++b2 a1 a2 a3 b0 a5 b6 b7;q (u+1) (v+1) (w++[Value.int .i64 z]) (x+1+1+1) c3 b9/\s (u+1) (v+1) (w++[Value.int .i64 z]) (x+1+1+1) c3<s u v w x y)) (b4 a1 a2 a3 a4 a9 b6 b7 c0 c1 c2 b0 b9))) (J (b0<a5) ((x+1+1)*64<=M/\ΦR (u+1)/\(let b9:=y++b2 a1 a2 a3 a4 a9 b6 b7++b2 a1 a2 a3 b0 a5 b6 b7;q (u+1) (v+1) (w++[Value.int .i64 z]) (x+1+1) b9 b8/\s (u+1) (v+1) (w++[Value.int .i64 z]) (x+1+1) b9<s u v w x y)) (b3 a1 a2 a3 a4 a9 b6 b7 b8)))) (ΦQ a0 (C ZT 227 b5 a8 (λ b6 b7 b8 b9=>U b6 [I z] 1 λ c0 c1 c2=>(x+1)*64<=M/\J (b0<a5) ((x+1+1)*64<=M/\b4 b7 b8 b9 a9 b0 c0 c1 a1 a2 a3 a5 c2) (b3 b7 b8 b9 a9 b0 c0 c1 c2))) (J (b0<a5) (U a8 [I z] 1 (λ b6 b7 b8=>(x+1)*64<=M/\b3 a1 a2 a3 b0 a5 b6 b7 b8)) (ΦR (u+1)/\q (u+1) (v+1) (w++[Value.int .i64 z]) x y a8/\s (u+1) (v+1) (w++[Value.int .i64 z]) x y<s u v w x y)))))) (U t w v (λ z a1 a2=>U a2 y x λ a3 a4 a5=>c z v a1 a3 x a4 a5))) ?_;dsimp only[PL,aQ,aR,aW,eQ,C,ΦE,M,N,ΦQ,ΦR,W,ΦX,O,J];refine⟨_,zp hs ha he hw r0 r1 hb,?_⟩;rintro H1 c7 A3 n4 c5 hA;have hL:(cW vs ⟨a,b⟩ es r).length<=g:=by rw[<-hs.len];exact jz
 have d2:=λ v o=>Sm (vs:=vs) (p:=⟨a,b⟩) (es:=es) (r:=r) (v:=v) o;unfold oV;generalize cW vs ⟨a,b⟩ es r=L at*;have s2:=hA.len;obtain⟨Y,b3⟩:∃Y:bR->Option (List az),Y=λ v=>if a0 then some (iw es v.vals set)else none:=⟨_,rfl⟩;rw[<-b3];refine⟨λ s q0 b5 q1 d0 H'=>0<=s/\s<=n4/\q0=s.toNat/\Row H' b5 ((L.take s.toNat).map bR.id)/\q1=(fS ⟨a,b⟩ Y (L.take s.toNat)).length/\Row H' d0 (fS ⟨a,b⟩ Y (L.take s.toNat)),λ s _ _ _ _=>n4-s.toNat,y' ⟨rfl,rfl,rfl,rfl⟩,?_⟩;rintro H9 a9 s q0 b5 q1 d0 ⟨h0,h1,e8,b2,D,T⟩;have d5:q1<=3*s.toNat:=by rw[D];refine aax jB ?_;simp;omega
 simp only[aad,aaf];refine⟨λ c0=>?_,λ g4=>?_⟩
 .obtain⟨hi,d4,_,d3,A9,n9,c9,rfl,v1,v2,v3,v4,v5,v6⟩:=hA.at a9 h0 c0;have a7:=aa c7 a9;have a8:=d2 _ (aan hi);refine⟨d4,h0,c0,_,_,_,_,_,_,_,_,d3,by omega,_,pV,?_⟩;rintro f6 t x y e6 ⟨e1,-⟩;have hm:=vj (p:=⟨L[s.toNat].vd.lo,L[s.toNat].vd.hi⟩) (q:=⟨a,b⟩) v3 v4 ra rb;rw[<-e1]at hm;have e1:cv L[s.toNat].vd ⟨a,b⟩=⟨x,y⟩:=e1.symm;rw[e1]at a8;have c4:x<y:=a8;have w:fS ⟨a,b⟩ Y (L.take (s+1).toNat)=fS ⟨a,b⟩ Y (L.take s.toNat)++fK ⟨a,b⟩ (Y L[s.toNat]) L[s.toNat]:=by rw[bu h0 hi,vi]
  have R:∀H',Heap.le H9 H'->Row H' (b5++[Φi L[s.toNat].id]) ((L.take (s+1).toNat).map bR.id):=by
   intro H' b8;rw[bu h0 hi,aaR];exact(b2.mono b8).append (Row.one (show Rep.rel H' [Φi L[s.toNat].id] L[s.toNat].id from⟨rfl,v1⟩))
  have hg:ae .i64 (s+1):=by omega
  have G:n4-(s+1).toNat<n4-s.toNat:=by omega
  have i0:0<=s+1:=by omega
  have i1:s+1<=n4:=by omega
  have iq:q0+1=(s+1).toNat:=by omega
  refine⟨λ f1 e3 g5 d6 Z a1 P=>u' ⟨λ f2=>?_,λ f2=>?_⟩,λ f1=>⟨λ f2=>?_,λ f2=>?_⟩⟩
  .have u:=aa t Z;refine⟨_,tW (v2.mono u) (he.mono (aa a7 u)) (ht.mono (aa a7 u)) hw hb ho,?_⟩;rintro g6 a5 f4 g2 e0 b6;have a6:=a1.mono a5;have Q:=aa u a5;have z:Y L[s.toNat]=some (iw es L[s.toNat].vals set):=by rw[b3,f2];rfl
   rw[z,pW,e1]at w;dsimp only at w;rw[jO f1,jO c4]at w;have R2:=((T.mono Q).append (Row.one (nY (v2.mono Q) v3 hm.1 v1 a6 P))).append (Row.one (nY b6 hm.1 hm.2 v1 a6 P));refine u' ⟨λ F=>u' ⟨hg,⟨i0,i1,iq,R _ Q,?_,?_⟩,G⟩,λ F=>⟨hg,⟨i0,i1,iq,R _ Q,?_,?_⟩,G⟩⟩
   .rw[w,jO F,aae,<-D];rfl
   .rw[w,jO F];simpa only[aat]using R2.append (Row.one (nY (v2.mono Q) hm.2 v4 v1 a6 P))
   .rw[w,rR F,aae,<-D];rfl
   .rw[w,rR F];simpa only[aat,aar]using R2
  .have u:=aa t Z;have z:Y L[s.toNat]=none:=by rw[b3,f2];rfl
   rw[z,pX,e1]at w;dsimp only at w;rw[jO f1]at w;have R2:=(T.mono u).append (Row.one (nY (v2.mono u) v3 hm.1 v1 a1 P));refine⟨λ F=>u' ⟨hg,⟨i0,i1,iq,R _ u,?_,?_⟩,G⟩,λ F=>⟨hg,⟨i0,i1,iq,R _ u,?_,?_⟩,G⟩⟩
   .rw[w,jO F,aae,<-D];rfl
   .rw[w,jO F];simpa only[aat,aar]using R2.append (Row.one (nY (v2.mono u) hm.2 v4 v1 a1 P))
   .rw[w,rR F,aae,<-D];rfl
   .rw[w,rR F];grind
  .refine⟨_,tW (v2.mono t) (he.mono (aa a7 t)) (ht.mono (aa a7 t)) hw hb ho,?_⟩;rintro d9 b4 f8 f7 d8 b6 g0 f0 e4 a2 b1 b0;have X:=aa t (aa b4 a2);have z:Y L[s.toNat]=some (iw es L[s.toNat].vals set):=by grind
   rw[z,pW,e1]at w;rw[rR f1,jO c4]at w;have R2:=(T.mono X).append (Row.one (nY (b6.mono a2) hm.1 hm.2 v1 b1 b0));refine u' ⟨λ F=>u' ⟨hg,⟨i0,i1,iq,R _ X,?_,?_⟩,G⟩,λ F=>⟨hg,⟨i0,i1,iq,R _ X,?_,?_⟩,G⟩⟩
   .rw[w,jO F,aae,<-D];rfl
   .rw[w,jO F];simpa only[aat,abO]using R2.append (Row.one (nY (v2.mono X) hm.2 v4 v1 b1 b0))
   .rw[w,rR F,aae,<-D];rfl
   .rw[w,rR F];grind
  .have z:Y L[s.toNat]=none:=by grind
   rw[z,pX,e1]at w;rw[rR f1]at w;refine⟨λ F e9 g3 f9 V c6 c8=>u' ⟨hg,⟨i0,i1,iq,R _ (aa t V),?_,?_⟩,G⟩,λ F=>⟨hg,⟨i0,i1,iq,R _ t,?_,?_⟩,G⟩⟩
   .rw[w,jO F,aae,<-D];rfl
   .rw[w,jO F];exact(T.mono (aa t V)).append (Row.one (nY (v2.mono (aa t V)) hm.2 v4 v1 c6 c8))
   .rw[w,rR F,aae,<-D];rfl
   .rw[w,rR F];simpa only[aar]using T.mono t
 .have l:L.take s.toNat=L:=aag (by omega);rw[l]at b2 D T;intro g1 d7 e2 a4 d1 b7 f5 e7 e5 a3 b9 c3;exact⟨(b2.sl a4 d1 (by grind) b7 (by show q0*8<=_;omega) (by omega)).mono a3,T.sl (aa a4 a3) b9 D.symm c3 (by show q1*64<=_;omega) (by omega)⟩
def tX {o:List bR}{l:List Xp}{r:Int}(D:Sl d e g h o)(G:nk o)(F:Sl d f i j l)(y:AP l)(v:0<=r)(q:r<l.length)(t:l.length<=1000000)(E:g<=100000000)(s:ae .i64 a)(z:ae .i64 b):
  ZB 102 [.slice e g h,.agg ⟨[Φi a,Φi b]⟩,.slice f i j,Φi r] d Sg (λ u L w J M x p=>Sl p u L w (oV o ⟨a,b⟩ l r)/\Sl p J M x (PA o ⟨a,b⟩ l r)):=by
 refine ΦK 0 bE (λ c=>C ZY 154 [S e g h,ΦG [I a,I b],S f i j,I r,ΦB false,S none 0 0] d λ k l m n o p q=>c l m n o p q k) ?_;dsimp only[aQ,aR,C];exact⟨_,zt (set:=[]) D G F y v q t E s z Sl.nil (λ _ k=>by grind),λ _ _ _ _ _ _ _ _ k=>k⟩
def tY {E:D'}{k o:Nat}{s:List bR}{q:List Xp}{p:List xP}{r:Int}(M:Sl d e g h s)(P:nk s)(O:Sl d f i j q)(G:AP q)(z:0<=r)(u:r<q.length)(x:q.length<=1000000)(N:g<=100000000)(v:ae .i64 a)(L:ae .i64 b)
  (w:Sl d E k o p) (J:Rx q p):
  ZB 103 [.slice e g h,.agg ⟨[Φi a,Φi b]⟩,.slice f i j,Φi r,.slice E k o] d Sg (λ y R D Q T F t=>Sl t y R D (oV s ⟨a,b⟩ q r)/\Sl t Q T F (PB s ⟨a,b⟩ q r p)):=by
 refine ΦK 0 bE (λ c=>C ZY 154 [S e g h,ΦG [I a,I b],S f i j,I r,ΦB true,S E k o] d λ l m n p q s t=>c m n p q s t l) ?_;dsimp only[aQ,aR,C];exact⟨_,zt M P O G z u x N v L w J,λ _ _ _ _ _ _ _ _ l=>l⟩
end
section
variable {a c e:Nat}{b:D'}{d:List Kd}{f:Heap}
def bZ (l:List aO)(a:List Int):List Kd:=(l.filter λ t=>dm t.p).map λ t=>⟨aJ t.vals a,t⟩
def jC {l:List aO}{cols:List Int}(b:a<l.length):bZ (l.take (a+1)) cols=bZ (l.take a) cols++(if dm l[a].p then[⟨aJ l[a].vals cols,l[a]⟩]else[]):=by
 rw[aaj b];simp only[bZ];grind
def kU (l:List aO)(a:List Int):(bZ l a).length<=l.length:=by
 simp[bZ];grind
def Jt {H:Heap}{B:D'}{d:Nat}{l:List aO}{cols:List Int}(T:Sl H b a c l)(ht:Sl H B e d cols)(hb:e*32<=140737488355328)(hn:a<=5000):
  ZB 115 [.slice b a c,.slice B e d] H fi (λ A' Y c' y=>∃g:List Kd,Sl y A' Y c' g/\g.Perm (bZ l cols)/\g.Pairwise (λ f h=>¬qa h f<0)):=by
 refine ΦK 1 {aj [16] [(6,[2,4,6,8,12,11,14,17,19,20,0])] [(3,[.slot 5 false [.row 30 198],ag 10])]with mt:=ir [165] []} (λ c=>W ZG H (λ f=>f 0 [] 0 H) λ f g h i j k=>J (k<O a) (ΦX b k a (ΦE ZI h b (N k*4) (λ l m n o p q r s=>C ZO 139 [ΦG [I o,I p]] h λ t u=>ΦQ u (C ZT 164 [S l m n,S B e d] t (λ v w x y=>(i+1)*88<=M/\ΦR (k+1)/\let z:=j++[Value.slice w x y,S l m n,I o,I p,S q r s];f (i+1) z (k+1) v/\g (i+1) z (k+1)<g i j k)) (ΦR (k+1)/\f i j (k+1) t/\g i j (k+1)<g i j k)))) (ZZ ZV 165 [S none 0 0,.func (.func 166) ⟨[]⟩ ⟨[]⟩] 0 198 i j true h (λ l m=>U l m i λ n o p=>c n i o p))) ?_;dsimp only[PL,aQ,aR,aW,eQ,C,ZZ,ΦE,M,N,ΦQ,ΦR,W,ΦX,O,J];have hl:=T.len;refine⟨λ k R i y=>0<=i/\i<=a/\k=(bZ (l.take i.toNat) cols).length/\Row y R (bZ (l.take i.toNat) cols),λ _ _ i=>a-i.toNat,P' ⟨rfl,rfl⟩,?_⟩;rintro H2 u k R i ⟨F,P,D,x⟩;have o:=kU (l.take i.toNat) cols;rw[aaE]at o;have V:(i+1).toNat=i.toNat+1:=by omega
 refine ΦD (λ v=>?_) λ X=>?_
 .obtain⟨hi,hA,_,hc,⟨A9,n9,c9,a1,a0,a2,rfl,L,q2,q3,q4⟩⟩:=T.at u F v;refine⟨hA,F,v,_,_,_,_,_,_,_,_,hc,_,bX,?_⟩;rintro H3 r _ rfl;have j:=jC (cols:=cols) hi;refine⟨λ Q=>?_,λ Q=>?_⟩
  .refine⟨_,jy (L.mono r) (ht.mono (aa u r)) hb,?_⟩;intro H4 w A4 n4 c4 h4;have q:=Q;rw[if_pos q]at j;refine y' ⟨y' (T' ?_),by grind⟩;rw[V,j];refine(x.mono (aa r w)).append ⟨_,[],by rfl,⟨_,_,_,_,_,_,_,_,_,rfl,h4,L.mono (aa r w),q2,q3,q4.mono (aa r w)⟩,rfl⟩
  .have q:¬dm l[i.toNat].p=true:=by
    simp_all
   rw[if_neg q,aar]at j;exact u' ⟨y' (T' (by rw[V,j];exact x.mono r)),by grind⟩
 .rw[aag (by omega)]at D x;have o:=kU l cols;refine⟨_,Bg x D.symm (by omega) ⟨_,Tryz.func166,rfl,by rfl⟩ MN (λ y vs us s t P Z h3=>GW (H:=H) _ _ _ s t (aa u P) Z h3),?_⟩;rintro H3 r ys ⟨g,g1,G,g3⟩ A4 c4 H4 w E z;exact⟨g,g1.sl w E (by rw[G.length_eq,D]) z (by show k*88<=_;omega) (by omega),G,g3⟩
def fT (l:List Int):List Int:=l.mergeSort λ x y=>decide (x<=y)
def ends (l:List Kd):List Int:=l.flatMap λ k=>[k.t.p.lo,k.t.p.hi]
def points (l:List Kd):List Int:=Lib.compact (fT (ends l))
def MS (b:a<d.length):ends (d.take (a+1))=ends (d.take a)++[d[a].t.p.lo,d[a].t.p.hi]:=by
 rw[aaj _,ends,abo];rfl
def qd:∀l:List Kd,(ends l).length=2*l.length
 |[]=>rfl
 | k::l=>by
  have:=qd l;simp[ends,abH]at*;omega
def dU (l:List Int):(Lib.compact l).length<=l.length:=(wm l).length_le
def dw (l:List Int):(fT l).length=l.length:=by simp[fT]
def xw (q:Sl f b a c d):ZB 170 [.slice b a c] f fi (λ P x z t=>Sl t P x z (points d)):=by
 refine ΦK 2 {aj [] [] [(3,[.slot 3 false [.row 29 3],ag 8])]with res:=wj [(27,⟨false,[(false,[.row 28 3])]⟩)],mt:=ir [234] [235]} (λ c=>W ZG f (λ d=>d 0 [] 0 f) λ d e g h i j=>J (j<O a) (ΦX b j a (ΦE Xn g b (N j*5) (λ k l m n o p q r s t u=>(h+2)*8<=M/\ΦR (j+1)/\d (h+2) (i++[Value.int .i64 q,I r]) (j+1) g/\e (h+2) (i++[Value.int .i64 q,I r]) (j+1)<e h i j))) (ZZ ZV 234 [S none 0 0] 0 3 h i true g (λ k l=>ZZ Yt 235 [S none 0 0] 0 3 h l false k λ m n o p=>U m p o λ q r s=>c q o r s))) ?_;dsimp only[PL,aQ,aR,aW,eQ,ZZ,ΦE,M,N,ΦR,W,ΦX,O,J];have hl:=q.len;have Z:a*88<=140737488355328:=q.bnd;refine⟨λ k v i t=>0<=i/\i<=a/\k=(ends (d.take i.toNat)).length/\Row t v (ends (d.take i.toNat)),λ _ _ i=>a-i.toNat,P' ⟨rfl,rfl⟩,?_⟩;rintro H2 s k v i ⟨u,h1,m,o⟩;have e:=qd (d.take i.toNat);rw[aaE]at e;have V:(i+1).toNat=i.toNat+1:=by omega
 refine ΦD (λ g=>?_) λ w=>?_
 .obtain⟨T,L,_,hc,⟨E9,n9,c9,B,X,C,Y,F,R,rfl,q0,q1,q2,G,q4⟩⟩:=q.at s u g;have r:=MS T;refine⟨L,u,g,_,_,_,_,_,_,_,_,_,_,_,hc,y' ⟨y' (T' ?_),by grind⟩⟩;rw[V,r];exact o.append ⟨[_],[_],rfl,⟨rfl,q2⟩,[_],[],rfl,⟨rfl,G⟩,rfl⟩
 .rw[aag (by omega)]at m o;have e:=qd d;refine⟨_,tP o m.symm (by omega),?_⟩;intro H3 l3 ys p;have p:Row _ _ (fT _):=p;refine⟨_,lJ p (by rw[dw,m]) (by omega),?_⟩;rintro H4 l4 zs n4 Q ⟨rfl,E⟩ A5 c5 H5 D j h;have y:=dU (fT (ends d));rw[dw]at y;exact E.sl D j rfl h (by show(Lib.compact _).length*8<=_;omega) (by omega)
def Bh:Go.Shelf.Ren:=⟨λ | 4=>397 | n=>n,λ | 22=>40 | 25=>3 | 3=>3 | 4=>4 | 9=>9 | 20=>20 | 0=>0 | n=>n,λ n=>n⟩
def MT:Lays8.n4 Tryz.prog Bh:=by
 constructor<;>first | kernel_rfl | exact λ _=>by kernel_rfl | exact ab3 (by kernel_rfl) (by kernel_rfl)
def PF {n:Int}{r:Nat}{H:Heap}(b:0<=n)(c:n*8<=140737488355328):
  ZB 397 [.slice none 0 0,Φi n] H ⟨false,[(false,[.row r 3])]⟩ (λ m a _=>m=0/\a=[]):=by
 have h:=Pq (Γ:=tab) tO MT (j:=(tab 3).get rfl) rfl (by decide) (by decide) (n:=n.toNat) (r:=r) (H:=H) (by show n.toNat*8<=_;omega);rw[Int.toNat_of_nonneg b]at h;exact h
def Ju {d:List (List Int)}(u:Sl f b a c d)(hb:d.flatten.length*8<=140737488355328):
  ZB 306 [.slice b a c] f ⟨false,[(false,[.row e 3])]⟩ (λ m t z=>m=d.flatten.length/\Row z t d.flatten):=by
 refine ΦK 2 {aj [] [] [(3,[ag 3,ag 11]),(11,[.slot 6 false [.row 37 3],ag 27])]with res:=wj [(24,⟨false,[(false,[.row 36 3])]⟩)]} (λ c=>W ZK f (λ d=>d 0 0 f) λ d e g h i=>J (i<O a) (ΦX b i a (ΦE ZM g b (N i*1) (λ j k l=>ΦR (h+O k)/\J (h+O k<0) False (ΦR (i+1)/\d (h+O k) (i+1) g/\e (h+O k) (i+1)<e h i)))) (C Yu 397 [S none 0 0,I h] g (λ j k l=>W ZG j (λ m=>m k l 0 j) λ m n o p q r=>J (r<O a) (ΦX b r a (ΦE ZM o b (N r*1) (λ s t u=>∃v:G',Cells o s 0 v/\L v=t*1/\(p+t)*8<=M/\ΦR (r+1)/\m (p+t) (q++v) (r+1) o/\n (p+t) (q++v) (r+1)<n p q r))) (c p q o)))) ?_;dsimp only[PL,aQ,aR,aW,eQ,C,ΦE,L,M,N,ΦR,W,ΦX,O,J];have Z:=u.bn;have b2:=u.len;have o:∀k,(d.take k).flatten.length<=d.flatten.length:=λ k=>by
  have:d.flatten.length=(d.take k).flatten.length+(d.drop k).flatten.length:=by rw[<-aae,<-List.flatten_append,aaL]
  omega
 have h:∀{i:Int} (q:0<=i) (p:i.toNat<d.length),(d.take (i+1).toNat).flatten=(d.take i.toNat).flatten++d[i.toNat]:=λ {i} q p=>by
  rw[show(i+1).toNat=i.toNat+1 by omega,aaj p,List.flatten_append];simp
 refine⟨λ m i _=>0<=i/\i<=a/\m=(d.take i.toNat).flatten.length,λ _ i=>a-i.toNat,y' (by simp),?_⟩;rintro H2 E m i ⟨q,h1,rfl⟩;refine ΦD (λ g=>?_) λ w=>?_
 .obtain⟨p,x,_,B,⟨X,P,U,rfl,l⟩⟩:=u.at E q g;have D:=l.len;have G:=o (i+1).toNat;have y:=aak List.length (h q p);rw[aae]at y;refine⟨x,q,g,_,_,_,B,by omega,λ hf=>?_,λ _=>u' ⟨y' (by omega),by grind⟩⟩;grind
 .have s:(d.take i.toNat).flatten=d.flatten:=by rw[aag (by omega)]
  rw[s];refine⟨_,PF (by simp) (by omega),?_⟩;rintro H3 R _ _ ⟨rfl,rfl⟩;refine⟨λ m t i z=>0<=i/\i<=a/\m=(d.take i.toNat).flatten.length/\Row z t (d.take i.toNat).flatten,λ _ _ i=>a-i.toNat,P' ⟨by rfl,by rfl⟩,?_⟩;rintro H4 T _ t j ⟨v,j1,rfl,V⟩;refine⟨λ g=>?_,λ w=>?_⟩
  .have g:=aab g;obtain⟨p,x,_,B,⟨X,P,U,rfl,l⟩⟩:=u.at (aa E (aa R T)) v g;have D:=l.len;have G:=o (j+1).toNat;have y:=aak List.length (h v p);rw[aae]at y;obtain⟨Y,Q,F⟩:=l.row;refine⟨x,v,g,_,_,_,B,Y,Q,by rw[F.length,D];rfl,y' ⟨J' ?_,by grind⟩⟩;rw[h v p];exact V.append F
  grind
def cx (a b:List Int):List Int:=Lib.compact (fT (a++b))
def iL {H:Heap}{B:D'}{d r:Nat}{f g:List Int}(q:Sl H b a c f)(o:Sl H B e d g)(u:(a+e)*8<=140737488355328):
  ZB 237 [.slice b a c,.slice B e d] H ⟨false,[(false,[.row r 3])]⟩ (λ k p I=>k=(cx f g).length/\Row I p (cx f g)):=by
 refine ΦK 2 {bE with res:=wj [(9,⟨false,[(false,[.row 14 3])]⟩),(13,⟨false,[(false,[.row 15 3])]⟩)],mt:=ir [234] [235]} (λ f=>U H [S b a c,S B e d] 2 λ g h i=>C Yv 306 [S g 2 h] i λ j k l=>ZZ ZV 234 [S none 0 0] 0 3 k l true j λ m n=>ZZ Yw 235 [S none 0 0] 0 3 k n false m λ o p q r=>f q r o) ?_;dsimp only[aQ,aR,C,ZZ];intro y x j s J F;have t:Sl j y 2 x [f,g]:=Row.sl (H:=j) (T:=List Int) (l:=[f,g]) ⟨[_],[_],rfl,⟨b,a,c,rfl,q.mono s⟩,[_],[],rfl,⟨B,e,d,rfl,o.mono s⟩,rfl⟩ (ah j) J rfl F (by decide) (by decide);have z:=q.len;have G:=o.len;have h:[f,g].flatten=f++g:=by simp
 have i:(f++g).length=a+e:=by rw[aae,z,G]
 refine⟨_,Ju t (by rw[h,i];exact u),?_⟩;rw[h];rintro O R k p ⟨rfl,E⟩;refine⟨_,tP E rfl (by omega),?_⟩;intro P V W v;refine⟨_,lJ v (dw _) (by omega),?_⟩;rintro N M L Q D w;exact w
def di (l:List Kd):List Int:=l.flatMap λ k=>k.t.lin
def MU (b:a<d.length):di (d.take (a+1))=di (d.take a)++d[a].t.lin:=by
 rw[aaj b,di,abo];simp[di]
def MV (l:List Kd)(i:Nat):(di (l.take i)).length<=(di l).length:=by
 have:di l=di (l.take i)++di (l.drop i):=by rw[di,di,di,<-abo,aaL]
 grind
def cN (l:List Kd):List Int:=cx (di l) []
def wC {r:Nat}(s:Sl f b a c d)(hb:(di d).length*8<=140737488355328):
  ZB 174 [.slice b a c] f ⟨false,[(false,[.row r 3])]⟩ (λ k j u=>k=(cN d).length/\Row u j (cN d)):=by
 refine ΦK 2 {aj [] [] [(3,[.slot 3 false [.row 21 3],ag 8])]with res:=wj [(19,⟨false,[(false,[.row 20 3])]⟩)]} (λ c=>W ZG f (λ d=>d 0 [] 0 f) λ d e g h i j=>J (j<O a) (ΦX b j a (ΦE Xn g b (N j*5) (λ k l m n o p q r s t u=>∃v:G',Cells g s 0 v/\L v=t*1/\(h+t)*8<=M/\ΦR (j+1)/\d (h+t) (i++v) (j+1) g/\e (h+t) (i++v) (j+1)<e h i j))) (U g i h (λ k l m=>C Yx 237 [S k h l,S none 0 0] m λ n o p=>c o p n))) ?_;dsimp only[PL,aQ,aR,aW,eQ,C,ΦE,L,M,N,ΦR,W,ΦX,O,J];have hl:=s.len;have a0:=s.bn;refine⟨λ k j i u=>0<=i/\i<=a/\k=(di (d.take i.toNat)).length/\Row u j (di (d.take i.toNat)),λ _ _ i=>a-i.toNat,P' ⟨rfl,rfl⟩,?_⟩;rintro H2 t k j i ⟨v,h1,w,q⟩;have V:(i+1).toNat=i.toNat+1:=by omega
 refine ΦD (λ e=>?_) λ y=>?_
 .obtain⟨R,G,_,hc,⟨E9,n9,c9,z,X,D,Z,E,Q,rfl,q0,q1,q2,q3,o⟩⟩:=s.at t v e;have h:=MU R;have g:=aak List.length h;rw[aae,o.len]at g;have ht:=MV d (i.toNat+1);obtain⟨Y,B,x⟩:=o.row;refine⟨G,v,e,_,_,_,_,_,_,_,_,_,_,_,hc,Y,B,by rw[x.length,o.len];rfl,y' ⟨y' (T' ?_),by grind⟩⟩;rw[V,h];exact q.append x
 .rw[aag (by omega)]at w q;intro A4 c4 H4 I p m;refine⟨_,iL (r:=20) (q.sl I p w.symm m (by show k*8<=_;omega) (by omega)) (Sl.nil (T:=Int)) (by omega),?_⟩;rintro H5 l5 k5 P F;exact F
end
section
variable {a c:Nat}{b:Heap}{d:D'}{e:Type}{f:G'}
def Cr {B:D'}{m f:Nat}{e g:List Int}(p:Sl b d a c e)(t:Sl b B m f g):
  ZB 185 [.slice d a c,.slice B m f] b fg (λ r _=>r=decide (e=g)):=by
 refine ΦK 0 (aj [] [(6,[2,4,6,8,10,12,14,16,18,0])] [(4,[ag 13])]) (λ c=>V (O a=O m) (c false b) (W ZE b (λ e=>e 0 b) (λ e f g h=>J (h<O a) (ΦX d h a (ΦE ZE g d (N h*1) (λ i=>ΦX B h m (ΦE ZE g B (N h*1) (λ j=>V (i=j) (c false g) (ΦR (h+1)/\e (h+1) g/\f (h+1)<f h)))))) (c true g)))) ?_;dsimp only[PL,aW,eQ,ΦE,N,ΦR,W,ΦX,O,V,J];have x:=p.len;have I:=t.len;have F:=p.bn;refine⟨λ o=>?_,λ z=>?_⟩
 .grind
 have u:(a:Int)=m:=by grind
 refine⟨λ i _=>0<=i/\i<=a/\(e=g↔e.drop i.toNat=g.drop i.toNat),λ i=>a-i.toNat,P' (by rfl),?_⟩;rintro L k i ⟨h,G,s⟩;refine ΦD (λ j=>?_) λ l=>?_
 .obtain⟨y,w,_,E,⟨rfl,q⟩⟩:=p.at k h j;obtain⟨C,D,_,v,⟨rfl,M⟩⟩:=t.at k h (by omega);rw[ak h y,ak h C]at s;refine⟨w,h,j,_,E,D,h,by omega,_,v,λ o=>?_,λ z=>u' ⟨y' ?_,by grind⟩⟩
  .grind
  grind
 .rw[ai l x,aaN (by omega)]at s;grind
def zy {l:List e}{x:e}(h:0<l.length):l.set (l.length-1) x=l.dropLast++[x]:=by
 rw[acj,if_pos (by omega),adn,show l.length-1+1=l.length by omega,List.drop_length]
def cG (l:List cT)(v:cT):List cT:=match l.getLast? with
 | some u=>if u.p.hi=v.p.lo/\u.ids=v.ids then l.dropLast++[⟨⟨u.p.lo,v.p.hi⟩,u.ids⟩]else l++[v]
 | none=>l++[v]
def wD {r:Nat}{l:List cT}{v:cT}{e:Nat}(w:Row b f l)(hl:l.length=a)(X:(a+1)*40<=140737488355328)(P:ae .i64 v.p.lo)(z:ae .i64 v.p.hi)(E:Sl b d c e v.ids):
  ZC 173 [.slice none 0 0,.agg ⟨[Φi v.p.lo,Φi v.p.hi,.slice d c e]⟩] 0 241 a f false b ⟨false,[(false,[.row r 241])]⟩
   (λ _=>λ k V t=>k=(cG l v).length/\Row t V (cG l v)):=by
 refine RY 0 (aj [32] [(2,[2,4,6,8,10,12,22,24,26,15,16,18,21,28,30,32,34,36,38,46,48,41,42,45,51,52,0])] []) (λ g=>let h:=f++[Value.int .i64 v.p.lo,I v.p.hi,S d c e];J (0<O a) (ΦR (O a-1)/\ΦY (O a-1) a (ΦF ZE f (N (O a-1)*3+0+1) 1 (λ i=>J (i=v.p.lo) (ΦR (O a-1)/\ΦY (O a-1) a (ΦF ZM f (N (O a-1)*3+2) 1 (λ j k l=>C ZO 185 [S j k l,S d c e] b λ m n=>ΦQ n (ΦR (O a-1)/\ΦY (O a-1) a (N (O a-1)*3+0+1+1<=L f/\g a (av f (N (O a-1)*3+0+1) [I v.p.hi]) m)) ((a+1)*40<=M/\g (a+1) h m)))) ((a+1)*40<=M/\g (a+1) h b)))) ((a+1)*40<=M/\g (a+1) h b)) ?_;dsimp only[aQ,aR,eQ,C,ΦF,L,M,N,ΦQ,ΦR,ΦY,O,J];have h:∀{t:Heap},Heap.le b t->Row t (f++[Φi v.p.lo,Φi v.p.hi,.slice d c e]) (l++[v]):=λ o=>(w.mono o).append ⟨_,[],by simp,⟨_,_,_,rfl,P,z,E.mono o⟩,rfl⟩;have j:=w.length;refine ΦD (λ U=>?_) λ U=>?_
 .have T:((a:Int)-1).toNat<l.length:=by omega
  obtain⟨Z,⟨F,W,Q,rfl,G,q2,D⟩,B,y⟩:=w.mg T;have i:l.getLast?=some l[((a:Int)-1).toNat]:=by
   rw[abK,aai (by omega)];congr 2;omega
  have x:=B 1 1 (by decide);have u:=B 2 1 (by decide);refine J' ⟨_,x,λ s=>J' ⟨_,_,_,u,_,Cr D E,?_⟩,λ s=>u' ?_⟩
  .have s:=aab s;rintro Y R _ rfl;refine⟨λ q=>?_,λ q=>u' ?_⟩
   .have q:=aab q;have g:cG l v=l.set ((a:Int)-1).toNat ⟨⟨l[((a:Int)-1).toNat].p.lo,v.p.hi⟩,l[((a:Int)-1).toNat].ids⟩:=by
     unfold cG;rw[i];simp only;rw[if_pos ⟨s,q⟩,<-zy (by omega),show l.length-1=((a:Int)-1).toNat by omega]
    refine J' ⟨?_,?_⟩
    .rw[j];show _<=l.length*3;omega
    .rw[g];refine T' ?_;exact(y 1 _ ⟨⟨l[((a:Int)-1).toNat].p.lo,v.p.hi⟩,l[((a:Int)-1).toNat].ids⟩ (by show 1+1<=3;simp) ⟨F,W,Q,rfl,G,z,D⟩).mono R
   .have g:cG l v=l++[v]:=by
     unfold cG;grind
    grind
  .have g:cG l v=l++[v]:=by
    unfold cG;grind
   rw[g];exact T' (h (ah b))
 .have:l=[]:=aal (by omega);subst this;exact u' ⟨by simp[cG];omega,h (ah b)⟩
def DZ {l:List Kd}{f:FuncId}{q:Value}{p:Kd->Bool}(o:Sl b d a c l)(w:kP Tryz.prog Kd b f q p):
  ZB 236 [.slice d a c,.func (.func f) #[] #[q]] b gL (λ r _=>r=idxOf p 0 l):=by
 refine ΦK 0 (aj [16] [] [(2,[ag 8])]) (λ c=>W ZE b (λ e=>e 0 b) λ e g h i=>J (i<O a) (ΦX d i a (ΦE Xn h d (N i*5) (λ j k l m n o p r s t u=>C ZO f [ΦG [S j k l,S m n o,I p,I r,S s t u],q] h λ v w=>ΦQ w (c i v) (ΦR (i+1)/\e (i+1) v/\g (i+1)<g i)))) (c (-1) h)) ?_;dsimp only[PL,aQ,aR,aW,eQ,C,ΦE,N,ΦQ,ΦR,W,ΦX,O,J];refine⟨λ a _=>0<=a/\a<=l.length/\idxOf p 0 l=idxOf p a (l.drop a.toNat),λ a=>l.length-a.toNat,P' rfl,?_⟩;rintro R j i ⟨m,G,s⟩;simp only[aad,aaf];refine⟨λ g=>?_,λ k=>?_⟩
 .obtain⟨x,u,_,y,t⟩:=o.at j m g;have h:=w _ _ _ j t;obtain⟨Q,E,z,P,L,F,M,D,T,rfl,-⟩:=t;refine⟨u,m,g,_,_,_,_,_,_,_,_,_,_,_,y,_,h,?_⟩;rintro B _ e rfl;rw[ak m x,idxOf]at s;refine⟨λ v=>?_,λ v=>⟨?_,y' ?_,by omega⟩⟩
  .grind
  .have:=o.bn;omega
  grind
 .rw[ai k o.len,idxOf]at s;grind
def sH {T:Type}(p:T->Bool):∀(l:List T) (i:Int),0<=i->(idxOf p i l= -1/\l.filter (λ x=> !p x)=l)\/(∃k:Nat,idxOf p i l=i+k/\k<l.length/\(l.take (k+1)).filter (λ x=> !p x)=l.take k)
 |[],i,h=> .inl ⟨rfl,rfl⟩
 | x::r,i,h=>by
  by_cases b:p x=true
  .exact .inr ⟨0,by simp[idxOf,b],N' (by simp[b])⟩
  .have a:p x=false:=by simpa using b
   rcases sH p r (i+1) (by omega)with⟨c,d⟩ |⟨k,c,d,e⟩
   .exact .inl ⟨by simp[idxOf,a,c],by simp[a,d]⟩
   .refine .inr ⟨k+1,by simp[idxOf,a,c];omega,by simp;omega,?_⟩;rw[acy,aba,if_pos (by simp[a]),e,acy]
def Row.take {T:Type}[Rep T]{H:Heap}:∀{a:G'} {l:List T} (i:Nat),Row H a l->Row H (a.take (i*Rep.sz T)) (l.take i)
 | a,[],i,h=>by rw[h];simp[Row]
 | a,t::l,0,h=>by simp[Row]
 | a,t::l,i+1,⟨vs,ys,h1,h2,h3⟩=>by
  have b:=Rep.len h2;refine⟨vs,ys.take _,?_,h2,Row.take i h3⟩;rw[h1,abf,aco,aag (by omega),b,aep]
def zz [Rep e]{Z:G'}{c:List e}{i:Nat}(h:Row b f c)(l:c.length=a)(p:i<=a)(q:Z.length=(a-i)*Rep.sz e):
  Row b (List.take (List.length (av f (i*Rep.sz e) Z)/a*(i-0)) (av f (i*Rep.sz e) Z)) (c.take i):=by
 have m:=h.length;rw[l]at m;have o:i*Rep.sz e<=a*Rep.sz e:=aaC _ p;have g:(a-i)*Rep.sz e=a*Rep.sz e-i*Rep.sz e:=adM _ _ _;have d:(av f (i*Rep.sz e) Z).length=a*Rep.sz e:=by
  simp[av,aaE];omega
 have k:(av f (i*Rep.sz e) Z).length/a*(i-0)=i*Rep.sz e:=by
  rw[d,aeG];rcases abl a with j | j
  .grind
  .rw[Nat.mul_div_cancel_left _ j,adX]
 rw[k];have:List.take (i*Rep.sz e) (av f (i*Rep.sz e) Z)=f.take (i*Rep.sz e):=by
  simp[av];grind
 rw[this];exact h.take i
def mO (p:e->Bool){l:List e}(b:a<l.length):(l.take (a+1)).filter (λ x=> !p x)=(l.take a).filter (λ x=> !p x)++(if p l[a]then[]else[l[a]]):=by
 rw[aaj b];grind
def Bi {H0:Heap}{l:List Kd}{d:FuncId}{q:Value}{p:Kd->Bool}(g:Heap.le H0 b)(T:Row H0 f l)(R:l.length=a)(hb:a*88<=140737488355328)(hf:kP Tryz.prog Kd b d q p):
  ZC 171 [.slice none 0 0,.func (.func d) #[] #[q]] 0 198 a f false b ⟨false,[(false,[.row c 198])]⟩
   (λ _=>λ k B _=>k=(l.filter λ x=> !p x).length/\Row H0 B (l.filter λ x=> !p x)):=by
 refine RY 1 (aj [10,28] [] [(5,[.slot 0 false [.row 42 198],ag 5,ag 6])]) (λ c=>∃e:Int->Heap->Prop,U b f a (λ g h i=>af Tryz.prog 236 [S g a h,.func (.func d) ⟨[]⟩ ⟨[q]⟩] i ⟨false,[(false,[.int .i64])]⟩ e)/\∀(g:Heap)(h:Int),e h g->J (h=-1) (c a f b) (ΦR (h+1)/\W Xo b (λ i=>i a f h (h+1) b) (λ i j k l m n o=>J (o<O l) (ΦY o l (ΦF Xn m (N o*5) 5 (λ p r s t u v w x y z a0=>let a1:=[S p r s,S t u v,I w,I x,S y z a0];C ZO d [ΦG a1,q] k λ a2 a3=>ΦQ (!a3) (ΦY n l (N n*5+5<=L m/\ΦR (n+1)/\ΦR (o+1)/\i l (av m (N n*5) a1) (n+1) (o+1) a2/\j l (av m (N n*5) a1) (n+1) (o+1)<j l m n o)) (ΦR (o+1)/\i l m n (o+1) a2/\j l m n (o+1)<j l m n o)))) (0<=n/\n<=O l/\O l<=O l/\(0:Int)<=0/\0<=n/\n<=O l/\(let p:=av m (N n*5) (dE [S none 0 0,S none 0 0,I 0,I 0,S none 0 0] (N (O l)-N n));c (N n-0) (List.take (L p/l*(N n-0)) p) k))))) ?_;dsimp only[PL,aQ,aR,aW,eQ,C,ΦF,L,N,ΦQ,ΦR,W,ΦY,O,J];refine⟨_,λ A1 c1 H3 l3 o hn=>DZ (T.sl (aa g l3) o R hn hb (by omega)) (λ H' vs t v s=>hf H' vs t (aa l3 v) s),?_⟩;rintro H7 y rfl;rcases sH p l 0 (by omega)with⟨v,s⟩ |⟨k0,v,s,h3⟩
 .refine⟨λ _=>⟨by rw[s,R],by rw[s];exact T⟩,λ E=>?_⟩;have:=aac E;exact absurd v this
 rw[v];refine⟨λ E=>by have:=aab E;omega,λ E=>u' ?_⟩;refine⟨λ k B i j _=>k=a/\0<=i/\i<j/\j<=a/\∃e:List Kd,Row H0 B e/\e.length=a/\e.take i.toNat=(l.take j.toNat).filter (λ x=> !p x)/\e.drop j.toNat=l.drop j.toNat,
  λ _ _ _ j=>a-j.toNat,⟨rfl,J' ⟨l,T,R,by rw[show((0:Int)+k0+1).toNat=k0+1 by omega,h3];congr 1;omega,rfl⟩⟩,?_⟩
 rintro V u k B i j ⟨rfl,y,a2,a5,e,o,D,G,Y⟩;have M:=o.length;refine ΦD (λ F=>?_) λ a1=>?_
 .have hj:j.toNat<e.length:=by omega
  have z:j.toNat<l.length:=by omega
  have P:e[j.toNat]=l[j.toNat]:=by
   have:=aak (λ x=>x[0]?) Y;simp only[acq,adW]at this;rw[aai hj,aai z]at this;simpa using this
  have w:=o.dO hj;rw[P]at w;have m:=o.dV (i:=i.toNat) (by omega) w;have h:=hf V _ _ u (Rep.mono (aa g u) w);have A:=mO p z;have e1:(j+1).toNat=j.toNat+1:=by omega
  have X:e.drop (j.toNat+1)=l.drop (j.toNat+1):=by
   rw[<-abT,<-abT,Y]
  generalize a3:win B (j.toNat*Rep.sz Kd) (Rep.sz Kd)=wv at w m h;obtain⟨E9,k9,e9,A9,n9,c9,B9,m9,d9,rfl,-⟩:=w;refine u' ⟨F,_,_,_,_,_,_,_,_,_,_,_,rfl,_,h,?_⟩;rintro a6 a4 _ rfl;refine⟨λ Q=>?_,λ Q=>?_⟩
  .have Q:p l[j.toNat]=false:=by simpa using Q
   rw[if_neg (by grind)]at A;refine⟨y,by omega,?_,y' ⟨⟨rfl,J' ⟨e.set i.toNat l[j.toNat],m,by grind,?_,?_⟩⟩,by grind⟩⟩
   .rw[M];show i.toNat*5+5<=e.length*5;omega
   .rw[e1,A,<-G,show(i+1).toNat=i.toNat+1 by omega,aaj (by grind),aeh (by simp)];simp
   .rw[e1,aeg (by omega),X]
  .exact u' ⟨⟨rfl,y,y' ⟨e,o,D,T' (by grind)⟩⟩,by grind⟩
 .rw[aag (by omega:l.length<=j.toNat)]at G;have a7:i.toNat=(l.filter λ x=> !p x).length:=by
   grind
  have a0:=zz (Z:=dE [.slice none 0 0,.slice none 0 0,Φi 0,Φi 0,.slice none 0 0] (Int.toNat (k)-i.toNat)) o D (i:=i.toNat) (by omega) (by rw[gz];rfl);refine⟨y,u' (P' ⟨y,y' ?_⟩)⟩;rw[<-G];omega
end
def lT (f:Int)(b a:List Kd):List Kd:=b.filter (λ x=> !decide (x.t.p.hi<=f))++a.takeWhile (λ x=>decide (x.t.p.lo=f))
def wI (f:Int)(a:List Kd):List Kd:=a.dropWhile (λ x=>decide (x.t.p.lo=f))
def jS:List Int->List Kd->List Kd->List cT->List cT
 | f::t::ps,act,rest,out=>jS (t::ps) (lT f act rest) (wI f rest) (if 2<=(lT f act rest).length then cG out ⟨⟨f,t⟩,cN (lT f act rest)⟩else out)
 | _,_,_,out=>out
def oM (g:List Kd):List cT:=jS (points g) [] g []
def Hd {a b:List Kd}(h:a.Sublist b):(di a).length<=(di b).length:=by
 induction h with
 | slnil=>simp
 | cons x _ c=>simp[di,abe]at*;omega
 | cons_cons x _ c=>simp[di,abe]at*;omega
def jG (l:List cT)(v:cT):(cG l v).length<=l.length+1:=by
 unfold cG;grind
def xz {H:Heap}{g:Nat}{f:Int}(b:Cells H (some ⟨g,0,none⟩) 0 [Φi f]):
  kP Tryz.prog Kd H 172 (.pointer (some ⟨g,0,none⟩)) (λ x=>decide (x.t.p.hi<=f)):=by
 rintro i h t a ⟨E,k,e,A,n,c,B,m,d,rfl,-⟩;refine ΦK 0 bE (λ a=>ΦE ZE i (some ⟨g,0,none⟩) 0 λ b=>a (decide (t.t.p.hi<=b)) i) ?_;dsimp only[eQ,ΦE];exact⟨f,b.mono a,rfl⟩
def zF {H:Heap}{A:D'}{n c:Nat}{g:List Kd}(hs:Sl H A n c g)(hb:(di g).length*8<=140737488355328):
  ZB 117 [.slice A n c] H fi (λ A' n' c' H'=>Sl H' A' n' c' (oM g)):=by
 refine ΦK 6 {aj [24,61] [(10,[2,4,6,8,10,12,14,16,18,20,22,24,26,28,30,0]),(14,[2,4,6,8,10,12,14,16,18,21,22,25,26,0])] [(6,[.slot 3 false [.row 68 241],.slot 4 false [.row 69 198],ag 5,ag 7]),(10,[.slot 4 false [.row 70 198],ag 5])]with res:=wj [(24,⟨false,[(false,[.row 65 198])]⟩),(61,⟨false,[(false,[.row 66 3])]⟩),(63,⟨false,[(false,[.row 67 241])]⟩)],mt:=ir [] [171,173]} (λ a=>C ZT 170 [S A n c] H λ b d e f=>W XG b (λ g=>g 0 [] 0 [] 0 0 b) λ g h i j k l m o p=>ΦR (p+1)/\J (p+1<O e) (ΦX d p e (ΦE ZE i d (N p*1) (λ q=>∃r:G'->Nat->G'->Heap->Prop,(∀(s:Nat)(t:Heap),Heap.le i t->Cells t (some ⟨s,0,none⟩) 0 [I q]->dJ Tryz.prog 171 [S none 0 0,.func (.func 172) ⟨[]⟩ ⟨[.pointer (some ⟨s,0,none⟩)]⟩] 0 198 l m false t ⟨false,[(false,[.row 65 198])]⟩ r)/\∀(s:Heap)(t:G')(u:Nat)(v:G'),r t u v s->W ZG i (λ w=>w u v o i) λ w x y z a0 a1=>let a2:=J (2<=O z) (ΦR (p+1)/\ΦX d (p+1) e (ΦE ZE y d (N (p+1)*1) (λ a2=>∃a3:Nat->G'->Heap->Prop,U y a0 z (λ a4 a5 a6=>af Tryz.prog 174 [S a4 z a5] a6 ⟨false,[(false,[.row 66 3])]⟩ a3)/\∀(a4:Heap)(a5:Nat)(a6:G'),a3 a5 a6 a4->U y a6 a5 λ a7 a8 a9=>ZZ YG 173 [S none 0 0,ΦG [I q,I a2,S a7 a5 a8]] 0 241 j k false a9 λ b0 b1 b2 b3=>ΦR (p+1)/\g b2 b3 z a0 a1 (p+1) b0/\h b2 b3 z a0 a1 (p+1)<h j k l m o p))) (ΦR (p+1)/\g j k z a0 a1 (p+1) y/\h j k z a0 a1 (p+1)<h j k l m o p);J (a1<O n) (ΦX A a1 n (ΦE ZE y A (N a1*5+1+1+0) (λ a3=>J (a3=q) (ΦX A a1 n (ΦE Xn y A (N a1*5) (λ a4 a5 a6 a7 a8 a9 b0 b1 b2 b3 b4=>(z+1)*88<=M/\ΦR (a1+1)/\let b5:=a0++[Value.slice a4 a5 a6,S a7 a8 a9,I b0,I b1,S b2 b3 b4];w (z+1) b5 (a1+1) y/\x (z+1) b5 (a1+1)<x z a0 a1))) a2))) a2))) (U i k j (λ q r s=>a q j r s))) ?_;dsimp only[PL,aQ,aR,aW,eQ,C,ZZ,ΦE,M,N,ΦR,W,ΦX,O,J];have hl:=hs.len;have f8:n*88<=140737488355328:=hs.bnd;refine⟨_,xw hs,?_⟩;intro H1 l1 A3 n4 c5 hp;have f3:=hp.len;have e6:n4<=2*n:=by
  have b1:=dU (fT (ends g));rw[dw,qd,hl]at b1;have:(points g).length<=2*n:=b1;omega
 refine⟨λ k1 c0 k2 b2 Z i H'=>0<=i/\0<=Z/\Z<=n/\∃(d:List cT) (s:List Kd),Row H' c0 d/\d.length=k1/\Row H' b2 s/\s.length=k2/\d.length<=i.toNat/\i<=n4/\s.Sublist (g.take Z.toNat)/\
   oM g=jS ((points g).drop i.toNat) s (g.drop Z.toNat) d,
  λ _ _ _ _ _ i=>n4-i.toNat,J' ⟨[],[],rfl,rfl,rfl,rfl,N' (u' (N' (by simp[oM])))⟩,?_⟩
 rintro H9 l9 k1 c0 k2 b2 Z i ⟨i0,c8,d5,d,s,ho,z,ha,d0,f2,f7,R,P⟩;have b4:=hp.mono l9;have e0:=hs.mono (aa l1 l9);refine u' ⟨λ a0=>?_,λ f6=>?_⟩
 .have a0:=aab a0;obtain⟨hi,hA,_,hc,⟨rfl,b8⟩⟩:=b4.at (ah H9) i0 (by omega);obtain⟨f1,b6,_,a5,⟨rfl,Y⟩⟩:=b4.at (ah H9) (i:=i+1) (by omega) a0;have e1:(i+1).toNat=i.toNat+1:=by omega
  have T:i.toNat+1<(points g).length:=by omega
  have b9:(points g).drop i.toNat=(points g)[i.toNat]::(points g)[i.toNat+1]::(points g).drop (i.toNat+1+1):=by
   rw[aas hi,aas T]
  have B:(points g).drop (i.toNat+1)=(points g)[i.toNat+1]::(points g).drop (i.toNat+1+1):=aas T;simp only[e1]at a5 Y;generalize hf:(points g)[i.toNat]=f at*;generalize ht:(points g)[i.toNat+1]=t at*;rw[b9,jS]at P;refine⟨hA,i0,by omega,_,hc,_,λ f0 f5 d2 c2=>Bi (H0:=H9) d2 ha d0 (by have:=R.length_le;rw[aaE]at this;omega) (xz c2),?_⟩;rintro f4 _ f9 e5 ⟨rfl,hd⟩;refine⟨λ k xs b H'=>0<=b/\b<=n/\∃a:List Kd,Row H' xs a/\a.length=k/\a.Sublist (g.take b.toNat)/\lT f s (g.drop Z.toNat)=a++(g.drop b.toNat).takeWhile (λ x=>decide (x.t.p.lo=f))/\
    wI f (g.drop Z.toNat)=(g.drop b.toNat).dropWhile (λ x=>decide (x.t.p.lo=f)),
   λ _ _ b=>n-b.toNat,⟨c8,d5,_,hd,rfl,aci.trans R,rfl,rfl⟩,?_⟩
  rintro e7 j b0 e4 b ⟨m0,m1,a,m,o,l,h,e⟩;have d7:=l.length_le;rw[aaE]at d7;have g0:(di a).length<=(di g).length:=Hd (l.trans (ach _ _));refine ΦD (λ Q=>?_) λ Q=>?_
  .obtain⟨hj,hB,_,a7,V⟩:=e0.at j m0 Q;obtain⟨E9,k9,e9,A9,n9,c9,B9,m9,d9,rfl,q⟩:=id V;have L:g.drop b.toNat=g[b.toNat]::g.drop (b.toNat+1):=aas hj;rw[L]at h e;have e2:(b+1).toNat=b.toNat+1:=by omega
   refine⟨hB,m0,Q,g[b.toNat].t.p.lo,a7.cy (k:=2) rfl,ΦD (λ b7=>?_) λ a6=>?_⟩
   .rw[abw,if_pos (by simpa using b7)]at h;rw[abx,if_pos (by simpa using b7)]at e;refine⟨hB,m0,Q,_,_,_,_,_,_,_,_,_,_,_,a7,y' ⟨y' ⟨a++[g[b.toNat]],m.append ⟨_,[],by simp,V,rfl⟩,by simp[o],?_,?_,?_⟩,by dsimp only;omega⟩⟩
    .rw[e2,aaj hj];exact l.append (aex _)
    .rw[e2,h];simp
    .rw[e2,e]
   .rw[abw,if_neg (by simpa using a6),aar]at h;rw[abx,if_neg (by simpa using a6),<-L]at e;rw[h,e]at P;refine ΦD (λ h2=>?_) λ h2=>?_
    .rw[if_pos (by omega)]at P;refine u' ⟨b6,y' ⟨t,by rw[e1];exact a5.mono j,_,λ e3 c7 d4 X D F=>wC (r:=66) (m.sl X D o F (by show b0*88<=_;omega) (by omega)) (by omega),?_⟩⟩;rintro c6 _ a8 ⟨rfl,hm⟩;intro c4 c1 G y w E;obtain⟨a4,a2⟩:=qS hm;have u:=dU (fT (di a++[]));rw[dw,aar]at u;have u:(cN a).length<=(di a).length:=by unfold cN cx;rw[aar];exact u
     have a3:Sl G c4 (cN a).length c1 (cN a):=Row.sl (H:=G) (a4▸nO a2) (ah G) w rfl E (by show _*8<=_;omega) (by omega);refine⟨_,wD (r:=67) (v:=⟨⟨f,t⟩,cN a⟩) ((ho.mono j).mono y) z (by omega) b8 Y a3,?_⟩;rintro d6 a1 _ d3 c3 ⟨rfl,hx⟩;have d1:=jG d ⟨⟨f,t⟩,cN a⟩;exact u' ⟨u' ⟨m0,m1,_,a,hx,rfl,(m.mono y).mono a1,o,y' ⟨l,by rw[e1,B];exact P⟩⟩,by dsimp only;omega⟩
    .rw[if_neg (by omega)]at P;exact u' ⟨u' ⟨m0,m1,d,a,ho.mono j,z,m,o,y' ⟨l,by rw[e1,B];exact P⟩⟩,by dsimp only;omega⟩
  .have L:g.drop b.toNat=[]:=aaN (by omega);rw[L]at h e;simp only[List.takeWhile_nil,aar,List.dropWhile_nil]at h e;rw[<-L]at e;rw[h,e]at P;refine⟨λ h2=>?_,λ h2=>?_⟩
   .have h2:=aab h2;rw[if_pos (by omega)]at P;refine u' ⟨b6,y' ⟨t,by rw[e1];exact a5.mono j,_,λ e3 c7 d4 X D F=>wC (r:=66) (m.sl X D o F (by show b0*88<=_;omega) (by omega)) (by omega),?_⟩⟩;rintro c6 _ a8 ⟨rfl,hm⟩;intro c4 c1 G y w E;obtain⟨a4,a2⟩:=qS hm;have u:=dU (fT (di a++[]));rw[dw,aar]at u;have u:(cN a).length<=(di a).length:=by unfold cN cx;grind
    have a3:=Row.sl (H:=G) (a4▸nO a2) (ah _) w rfl E (by show _*8<=_;omega) (by omega);refine⟨_,wD (r:=67) (v:=⟨⟨f,t⟩,cN _⟩) ((ho.mono j).mono y) z (by omega) b8 Y a3,?_⟩;rintro d6 a1 _ d3 c3 ⟨rfl,hx⟩;have d1:=jG d ⟨⟨f,t⟩,cN a⟩;exact u' ⟨u' ⟨m0,m1,_,a,hx,rfl,(m.mono y).mono a1,o,y' ⟨l,by grind⟩⟩,by grind⟩
   .exact u' ⟨u' ⟨m0,m1,d,a,ho.mono j,z,m,o,y' ⟨l,by grind⟩⟩,by grind⟩
 .intro A9 c9 e8 d8 b3 a9;have b5:oM g=d:=by
   rw[P];have:((points g).drop i.toNat).length<=1:=by grind
   match(points g).drop _,this with
   |[],_=>rfl
   |[x],_=>rfl
  rw[b5];exact ho.sl d8 b3 z a9 (by show k1*40<=_;omega) (by omega)
def bH (k x:Kd):Bool:=decide (bK x.key k.key=0)
def sJ:Nat->List Kd->List cT
 | 0,_=>[]
 | _+1,[]=>[]
 | f+1,k::r=>(if 2<=(k::r.takeWhile (bH k)).length then oM (k::r.takeWhile (bH k))else[])++sJ f (r.dropWhile (bH k))
def ka (g:List Kd):List cT:=sJ g.length g
def ku {T:Type}(p:T->Bool):∀l:List T,(l.dropWhile p).length<=l.length
 |[]=>aaB _
 | x::l=>by
  rw[abx];split
  .have:=ku p l;grind
  simp
def wJ:∀(f a:Nat) (g:List Kd),g.length<=f->g.length<=a->sJ f g=sJ a g
 | 0,a,g,h,_=>by
  have:g=[]:=aal (by omega);subst this;cases a<;>rfl
 | f+1,0,g,_,h=>by
  have:g=[]:=aal (by omega);subst this;rfl
 | f+1,a+1,[],_,_=>rfl
 | f+1,a+1,k::r,h,h'=>by
  have:=ku (bH k) r;simp at h h';rw[sJ,sJ,wJ f a _ (by omega) (by omega)]
def zG (k:Kd)(r:List Kd):ka (k::r)=(if 2<=(k::r.takeWhile (bH k)).length then oM (k::r.takeWhile (bH k))else[])++ka (r.dropWhile (bH k)):=by
 unfold ka;have:=ku (bH k) r;rw[aav,sJ,wJ _ _ _ this (aaB _)]
def zH:∀(d:List Int) (c a:List Kd) (b:List cT),(jS d c a b).length<=b.length+d.length
 |[],_,_,b=>by simp[jS]
 |[x],_,_,b=>by simp[jS]
 | f::t::d,c,a,b=>by
  rw[jS];have h:=zH (t::d) (lT f c a) (wI f a) (if 2<=(lT f c a).length then cG b ⟨⟨f,t⟩,cN (lT f c a)⟩else b);have e:(if 2<=(lT f c a).length then cG b ⟨⟨f,t⟩,cN (lT f c a)⟩else b).length<=b.length+1:=by
   split
   .exact jG _ _
   simp
  grind
def Nd (g:List Kd):(oM g).length<=2*g.length:=by
 have h:=zH (points g) [] g [];have a:=dU (fT (ends g));rw[dw,qd]at a;have:(points g).length<=2*g.length:=a;unfold oM;grind
def aG (l:List aO):List Int:=l.flatMap λ t=>t.lin
def zI:∀(l:List aO) (a:List Int),(di (bZ l a)).length<=(aG l).length
 |[],_=>by simp[di,bZ]
 | t::l,a=>by
  have b:=zI l a;simp[di,bZ,aG]at*;grind
def Nf {a b:List Kd}(h:a.Perm b):(di a).length=(di b).length:=(h.flatMap_right _).length_eq
def oN {H:Heap}{A B:D'}{n c m d:Nat}{l:List aO}{D:List Int}(hs:Sl H A n c l)(ht:Sl H B m d D)(hb:m*32<=140737488355328)(hn:n<=5000)(c1:(aG l).length*8<=140737488355328):
  ZB 65 [.slice A n c,.slice B m d] H fi (λ A' n' c' H'=>∃g:List Kd,g.Perm (bZ l D)/\g.Pairwise (λ a b=>¬qa b a<0)/\Sl H' A' n' c' (ka g)):=by
 refine ΦK 1 (aj [28] [(5,[2,4,6,8,10,12,14,16,18,20,22,24,26,28,31,32,34,0])] [(3,[.slot 5 false [.row 45 241],.slot 6 false [.sl]]),(5,[ag 7])]) (λ a=>C ZT 115 [S A n c,S B m d] H λ b e f g=>W XH b (λ h=>h 0 [] e f g b) λ h i j k l o p q=>J (0<O p) (W ZE j (λ r=>r 1 j) (λ r s t u=>let v:=λ v=>J (2<=u) ((0:Int)<=0/\0<=u/\u<=O q/\(∀w:D',w=eM o q (N 0) 5->C ZT 117 [S w (N u-N 0) (q-N 0)] v λ x y z a0=>∃a1:G',Cells x y 0 a1/\L a1=z*3/\(k+z)*40<=M/\0<=u/\u<=O p/\O p<=O q/\∀a2:D',a2=eM o q (N u) 5->h (k+z) (l++a1) a2 (N (O p)-N u) (q-N u) x/\i (k+z) (l++a1) a2 (N (O p)-N u) (q-N u)<i k l o p q)) (0<=u/\u<=O p/\O p<=O q/\(∀w:D',w=eM o q (N u) 5->h k l w (N (O p)-N u) (q-N u) v/\i k l w (N (O p)-N u) (q-N u)<i k l o p q));J (u<O p) (ΦX o u p (ΦE ZM t o (N u*5+0) (λ w x y=>ΦX o 0 p (ΦE ZM t o (N 0*5+0) (λ z a0 a1=>C ZP 116 [S w x y,S z a0 a1] t λ a2 a3=>J (a3=0) (ΦR (u+1)/\r (u+1) a2/\s (u+1)<s u) (v a2)))))) (v t))) (U j l k (λ r s t=>a r k s t))) ?_;dsimp only[PL,aQ,aR,aW,eQ,C,ΦE,L,M,N,ΦR,W,ΦX,O,J];refine⟨_,Jt hs ht hb hn,?_⟩;rintro H1 l1 A3 n4 c5 ⟨g,hg,a1,b9⟩;have c3:=hg.len;have c2:g.length<=n:=by rw[a1.length_eq,<-hs.len];exact kU _ _
 have d2:(di g).length*8<=140737488355328:=by have:=Nf a1;have:=zI l D;omega
 refine⟨λ k xs A n' c H'=>∃(f:List cT) (e:List Kd),Row H' xs f/\f.length=k/\Sl H' A n' c e/\e.Sublist g/\f.length+2*e.length<=2*g.length/\ka g=f++ka e,
  λ _ _ _ n' _=>n',⟨[],g,rfl,rfl,hg,aex _,N' (by simp)⟩,?_⟩
 rintro H9 l9 k xs Q h p ⟨f,e,ho,a0,hr,V,b4,X⟩;have a7:=hr.len;have c7:=hr.cap;refine ΦD (λ c4=>?_) λ d0=>?_
 .obtain⟨o,r,rfl⟩:∃o r,e=o::r:=by
   cases e with
   | nil=>simp at a7;omega
   | cons o r=>exact⟨o,r,rfl⟩
  simp only[aav]at a7 b4;rw[zG]at X;refine⟨λ j _=>1<=j/\j<=h/\r.takeWhile (bH o)=r.take (j.toNat-1)++(r.drop (j.toNat-1)).takeWhile (bH o)/\r.dropWhile (bH o)=(r.drop (j.toNat-1)).dropWhile (bH o),
   λ j=>h-j.toNat,y' (N' (by simp)),?_⟩
  rintro a4 Z j ⟨j1,jn,hT,R⟩;have w:=hr.mono Z;have T:∀{s:Heap},Heap.le a4 s->r.takeWhile (bH o)=r.take (j.toNat-1)->r.dropWhile (bH o)=r.drop (j.toNat-1)->
    (decide ((2)<=j)=true->(0:Int)<=(0)/\(0)<=j/\j<=(↑p)/\∀(a3:D'),a3=eM Q p (Int.toNat (0)) (5)->∃(u:D'->Nat->Nat->Heap->Prop),ZB 117 [.slice a3 (Int.toNat j-Int.toNat (0)) (p-Int.toNat (0))] s fi u/\∀(v:Heap),Heap.le s v->∀(a2:D') (E a5:Nat),u a2 E a5 v->∃(G:G'),Cells v a2 (0) G/\List.length G=E*(3)/\(k+E)*(40)<=(140737488355328)/\(0)<=j/\j<=(↑h)/\((h:Nat):Int)<=(↑p)/\∀(P:D'),P=eM Q p (Int.toNat j) (5)->
     (∃(f:List cT) (e:List Kd),Row v (xs++G) f/\f.length=k+E/\Sl v P (Int.toNat (↑h)-Int.toNat j) (p-Int.toNat j) e/\e.Sublist g/\f.length+2*e.length<=2*g.length/\ka g=f++ka e)/\(Int.toNat (↑h)-Int.toNat j)<h)/\
    (decide ((2)<=j)=false->(0:Int)<=j/\j<=(↑h)/\((h:Nat):Int)<=(↑p)/\∀(b0:D'),b0=eM Q p (Int.toNat j) (5)->
     (∃(f:List cT) (e:List Kd),Row s xs f/\f.length=k/\Sl s b0 (Int.toNat (↑h)-Int.toNat j) (p-Int.toNat j) e/\e.Sublist g/\f.length+2*e.length<=2*g.length/\ka g=f++ka e)/\(Int.toNat (↑h)-Int.toNat j)<h):=by
   intro s y e1 e2;have I:=w.mono y;have F:((o::r).drop j.toNat).Sublist g:=(acL _ _).trans V;have t:(o::r).drop j.toNat=r.drop (j.toNat-1):=by
    rw[show j.toNat=(j.toNat-1)+1 by omega,aef,aep]
   have a9:(o::r).take j.toNat=o::r.take (j.toNat-1):=by
    rw[show j.toNat=(j.toNat-1)+1 by omega,acy,aep]
   rw[e1,e2]at X;have a6:(o::r.take (j.toNat-1)).length=j.toNat:=by simp only[aav,aaE];omega
   refine ΦD (λ h2=>?_) λ h2=>?_
   .rw[if_pos (by omega)]at X;refine J' ?_;rintro a3 rfl;have a8:Sl s (eM Q p (Int.toNat 0) 5) (Int.toNat j-Int.toNat 0) (p-Int.toNat 0) (o::r.take (j.toNat-1)):=by
     have:=(I.take (k:=j.toNat) (by omega)).drop (k:=0) (by omega);rw[a9,abN]at this;exact this
    refine⟨_,zF a8 (by have:=Hd ((ach j.toNat (o::r)).trans V);rw[a9]at this;omega),?_⟩;intro v b1 a2 E a5 x;obtain⟨ys,y1,y2⟩:=x.row;have c0:=Nd (o::r.take (j.toNat-1));rw[x.len,a6]at c0;refine⟨ys,y1,by rw[y2.length,x.len];rfl,M' ?_⟩;rintro P rfl;refine⟨⟨f++oM (o::r.take (j.toNat-1)),(o::r).drop j.toNat,(ho.mono (aa Z (aa y b1))).append y2,by rw[aae,x.len,a0],?_,F,?_,?_⟩,by omega⟩
    .exact(I.mono b1).drop (k:=j.toNat) (by omega)
    .rw[aae,x.len,abb,aav];omega
    .rw[X,t,aat]
   .rw[if_neg (by omega),abO]at X;refine J' ?_;rintro P rfl;refine⟨⟨f,(o::r).drop j.toNat,ho.mono (aa Z y),a0,I.drop (k:=j.toNat) (by omega),F,?_,?_⟩,by omega⟩
    .rw[abb,aav];omega
    .rw[X,t]
  refine ΦD (λ Y=>?_) λ Y=>?_
  .obtain⟨hj,hA,_,hc,⟨E9,k9,e9,A9,n9,c9,B9,m9,d9,rfl,q,-⟩⟩:=w.at (ah _) (i:=j) (by omega) Y;obtain⟨d1,b5,_,b7,⟨E8,k8,e8,A8,n8,c8,B8,m8,d8,rfl,q0,-⟩⟩:=w.at (ah a4) (i:=0) (by simp) (by omega);have b3:j.toNat-1<r.length:=by omega
   have b2:(o::r)[j.toNat]=r[j.toNat-1]:=by
    grind
   have t:=aas b3;rw[t]at hT R;rw[b2]at q;refine⟨hA,by omega,Y,_,_,_,hc.cy (k:=0) rfl,b5,by simp,by omega,_,_,_,b7.cy (k:=0) rfl,_,cL q q0,?_⟩;rintro s y _ rfl;refine⟨λ hz=>?_,λ hz=>?_⟩
   .have hz:=aab hz;have z:bH o r[j.toNat-1]=true:=by
     simp[bH];grind
    rw[abw,if_pos z]at hT;rw[abx,if_pos z]at R;have e3:(j+1).toNat-1=j.toNat-1+1:=by omega
    refine⟨by simp[ae];grind,y' ⟨?_,?_⟩,by grind⟩
    .grind
    grind
   .have z:¬bH o r[j.toNat-1]=true:=by
     simp[bH];grind
    rw[abw,if_neg z,aar]at hT;rw[abx,if_neg z,<-t]at R;exact T y hT R
  .have t:r.drop (j.toNat-1)=[]:=aaN (by omega);rw[t]at hT R;simp at hT R;rw[<-t]at R;exact T (ah _) hT R
 .have:e=[]:=aal (by omega);subst this;intro A5 c6 H6 l6 b6 b8;rw[show ka []=[]from rfl,aar]at X;refine⟨g,a1,b9,?_⟩;rw[X];exact ho.sl l6 b6 a0 b8 (by show k*40<=_;omega) (by omega)
def JB {H:Heap}{A B:D'}{n c m d:Nat}{l:List aO}{e:List Int}(p:Sl H A n c l)(i:Sl H B m d e)(j:m*32<=140737488355328)(q:n<=5000)(f:(aG l).length*8<=140737488355328):
  ZB 22 [.slice A n c,.slice B m d] H fg (λ r _=>∃g:List Kd,g.Perm (bZ l e)/\g.Pairwise (λ a b=>¬qa b a<0)/\r=decide ((ka g).length=0)):=by
 refine ΦK 0 bE (λ a=>C ZT 65 [S A n c,S B m d] H λ b e f g=>a (decide (O f=0)) b) ?_;dsimp only[aQ,aR,C,O];refine⟨_,oN p i j q f,?_⟩;rintro t w v s u ⟨g,k,h,o⟩;refine⟨g,k,h,?_⟩;rw[o.len];simp
section
variable {a:Int}{b:Heap}
def Zp (r:Int):ByteArray:=if r=0 then⟨#[]⟩else if r=1 then⟨#[97]⟩else⟨#[98,39]⟩
def Ll (x:Int):az:=if x.tmod 7=6 then gg else⟨1,x.tmod 3-1,⟨#[]⟩⟩
def Lm (x:Int):az:=if x.tmod 7=6 then gg else⟨2,0,Zp (x.tmod 3)⟩
def CA (h:0<=a):a.tmod 3=0\/a.tmod 3=1\/a.tmod 3=2:=by
 grind
def rW:ZB 123 [Φi a] b uY (λ k m s _=>k=1/\m=a/\s=⟨#[]⟩):=by
 refine ΦK 0 bE (λ c=>c 1 a ⟨⟨[]⟩⟩ b) ?_;simp
def Hf (c:0<=a):ZB 70 [Φi 0,Φu a] b uY (λ k n s _=>(⟨k,n,s⟩:az)=Ll a):=by
 refine ΦK 0 bE (λ c=>(7:Int)≠0/\J (Int.tmod a 7=6) (c 0 0 ⟨⟨[]⟩⟩ b) ((2:Int)≠0/\J (Int.tmod (0:Int) 2=0) ((3:Int)≠0/\(∃d:Int,IntKind.wrap IntKind.i64 (Int.tmod a 3)=d/\ΦR (d-1)/\C ZU 123 [I (d-1)] b λ e f g h=>c f g h e)) ((3:Int)≠0/\ΦY (Int.tmod a 3) 3 (ΦF Xr [ΦT ⟨⟨[]⟩⟩,ΦT {data:=⟨[(97:UInt8)]⟩},ΦT {data:=⟨[(98:UInt8),(39:UInt8)]⟩}] (N (Int.tmod a 3)*1) 1 (λ d=>c 2 0 d b))))) ?_;dsimp only[aQ,aR,eQ,C,ΦF,N,ΦR,ΦY,J];refine N' ⟨λ h=>?_,λ h=>N' ⟨λ _=>N' ?_,λ h=>absurd h (by simp)⟩⟩
 .have h:=aab h;simp[Ll,h,gg]
 .have h:=aac h;rcases CA c with e | e | e<;>rw[e]<;>refine⟨_,rfl,by decide,_,rW,?_⟩<;>rintro d _ _ _ _ ⟨rfl,rfl,rfl⟩<;>simp[Ll,if_neg h,e]<;>rfl
def Hg (c:0<=a):ZB 70 [Φi 1,Φu a] b uY (λ k n s _=>(⟨k,n,s⟩:az)=Lm a):=by
 refine ΦK 0 bE (λ c=>(7:Int)≠0/\J (Int.tmod a 7=6) (c 0 0 ⟨⟨[]⟩⟩ b) ((2:Int)≠0/\J (Int.tmod (1:Int) 2=0) ((3:Int)≠0/\(∃d:Int,IntKind.wrap IntKind.i64 (Int.tmod a 3)=d/\ΦR (d-1)/\C ZU 123 [I (d-1)] b λ e f g h=>c f g h e)) ((3:Int)≠0/\ΦY (Int.tmod a 3) 3 (ΦF Xr [ΦT ⟨⟨[]⟩⟩,ΦT {data:=⟨[(97:UInt8)]⟩},ΦT {data:=⟨[(98:UInt8),(39:UInt8)]⟩}] (N (Int.tmod a 3)*1) 1 (λ d=>c 2 0 d b))))) ?_;dsimp only[aQ,aR,eQ,C,ΦF,N,ΦR,ΦY,J];refine N' ⟨λ h=>?_,λ h=>N' ⟨λ h=>absurd h (by simp),λ _=>N' ?_⟩⟩
 .have h:=aab h;simp[Lm,h,gg]
 .have h:=aac h;rcases CA c with e | e | e<;>rw[e]<;>refine (P' ⟨_,rfl,?_⟩)<;>simp only[Lm,if_neg h,e]<;>rfl
def Ln {n:Int}{s:ByteArray}{v:az}(h:(⟨a,n,s⟩:az)=v):a=v.kind/\n=v.n/\s=v.s:=by grind
def Ue (b:0<=a):ae .i64 (Ll a).kind/\ae .i64 (Ll a).n/\str (Ll a).s:=by
 unfold Ll;split
 .exact⟨by decide,by decide,by unfold str gg;decide⟩
 .refine⟨(by grind),?_,(by unfold str;decide:str ⟨#[]⟩)⟩;grind
def Uf (b:0<=a):ae .i64 (Lm a).kind/\ae .i64 (Lm a).n/\str (Lm a).s:=by
 unfold Lm;split
 .exact⟨by decide,by decide,by unfold str gg;decide⟩
 .rcases CA b with e | e | e<;>simp[e]<;>unfold str Zp<;>decide
def Nh {y:Int}{H:Heap}(d:0<=a)(b:0<=y):ZB 58 [Φu a,Φu y] H fi (λ A n c f=>Sl f A n c [Ll a,Lm y]):=by
 refine ΦK 0 bE (λ b=>C ZU 70 [I 0,.int .u16 a] H λ c d e f=>C ZU 70 [I 1,.int .u16 y] c λ g h i j=>U g [I d,I e,ΦT f,I h,I i,ΦT j] 2 λ k l m=>b k 2 l m) ?_;dsimp only[aQ,aR,C];refine⟨_,Hf d,?_⟩;intro m o k n s h;obtain⟨rfl,rfl,rfl⟩:=Ln h;refine⟨_,Hg b,?_⟩;intro j p k n s h;obtain⟨rfl,rfl,rfl⟩:=Ln h;intro A c e q g i;exact Row.sl (H:=e) (T:=az) (l:=[Ll a,Lm y]) ⟨[_,_,_],[_,_,_],rfl,⟨rfl,Ue d⟩,[_,_,_],[],rfl,⟨rfl,Uf b⟩,rfl⟩ (ah e) g rfl i (by decide) (by simp)
end
end Go.Vc
namespace Go.Vc
open Go Go.Proofs
section
variable {a:ByteArray}{b:Heap}
def jP (c:Int):Bool:=decide (97<=c)&&decide (c<=122)||decide (48<=c)&&decide (c<=57)||decide (c=95)
def TZ (s:ByteArray)(f:Int->Bool):Bool:=(List.range s.size).all λ i=>f (lY s i)
def bq (s:ByteArray):Bool:=decide (1<=s.size)&&decide (s.size<=20)&&decide (97<=lY s 0)&&decide (lY s 0<=122)&&TZ s jP
def GY {f:Int->Bool}:TZ a f=true↔∀i:Int,0<=i->i<a.size->f (lY a i)=true:=by
 unfold TZ;simp;exact⟨λ h i c b=>by have:=h i.toNat (by omega);grind,λ h i d=>h i (by simp) (by omega)⟩
def vk {c:Int}:ZB 423 [.int .u8 c] b ⟨false,[(false,[.bool])]⟩ (λ a _=>a=jP c):=by
 refine ΦK 0 bE (λ a=>let d:=J (48<=c) (J (c<=57) (a true b) (a (decide (c=95)) b)) (a (decide (c=95)) b);J (97<=c) (J (c<=122) (a true b) d) d) ?_;dsimp only[J];grind[jP]
def iM:ZB 325 [.string a] b ⟨false,[(false,[.bool])]⟩ (λ c _=>c=bq a):=by
 refine ΦK 0 (aj [31] [] [(4,[ag 3])]) (λ c=>J (O (ByteArray.size a)<1) (c false b) (J (20<O (ByteArray.size a)) (c false b) (ΦY 0 (ByteArray.size a) (J (lY a 0<(97:Int)) (c false b) (ΦY 0 (ByteArray.size a) (J ((122:Int)<lY a 0) (c false b) (W ZE b (λ d=>d 1 b) (λ d e f g=>J (g<O (ByteArray.size a)) (ΦY g (ByteArray.size a) (C ZO 423 [.int .u8 (lY a g)] f (λ h i=>ΦQ (!i) (c false h) (ΦR (g+1)/\d (g+1) h/\e (g+1)<e g)))) (c true f))))))))) ?_;dsimp only[PL,aQ,aR,aW,C,ΦQ,ΦR,W,ΦY,O,J];have l:= @GY a jP;simp only[aad,aaf];refine⟨λ h=>by grind[bq],λ h=>⟨λ h=>by grind[bq],λ h=>⟨by simp,by omega,λ h=>by grind[bq],λ h=>⟨by simp,by omega,λ h=>by grind[bq],λ h=>
  ⟨λ n _=>1<=n/\n<=a.size/\∀i:Int,0<=i->i<n->jP (lY a i)=true,λ n=>a.size-n.toNat,N' (u' ?_),?_⟩⟩⟩⟩⟩
 .grind[jP]
 .intro e _ n ⟨j,g,k⟩;refine⟨λ d=>u' ⟨d,_,vk,?_⟩,λ h=>by grind[bq]⟩;rintro f _ c rfl;refine⟨λ h=>?_,λ h=>⟨?_,y' ?_,by grind⟩⟩
  .grind[bq]
  .omega
  grind
def jQ:ZB 150 [.string a] b ⟨false,[(false,[.bool])]⟩ (λ c _=>c=bq a):=by
 refine ΦK 0 (aj [] [] [(4,[ag 3])]) (λ c=>J (O (ByteArray.size a)=0) (c false b) (J (20<O (ByteArray.size a)) (c false b) (ΦY 0 (ByteArray.size a) (J (lY a 0<(97:Int)) (c false b) (ΦY 0 (ByteArray.size a) (J ((122:Int)<lY a 0) (c false b) (W ZE b (λ d=>d 0 b) (λ d e f g=>J (g<O (ByteArray.size a)) (ΦY g (ByteArray.size a) (let h:=ΦR (g+1)/\d (g+1) f/\e (g+1)<e g;let i:=let i:=V (lY a g=(95:Int)) (c false f) h;J (lY a g<(48:Int)) i (J ((57:Int)<lY a g) i h);J (lY a g<(97:Int)) i (J ((122:Int)<lY a g) i h))) (c true f))))))))) ?_;dsimp only[PL,aW,ΦR,W,ΦY,O,V,J];have m:= @GY a jP;simp only[aad,aaf];refine⟨λ h=>by grind[bq],λ h=>⟨λ h=>by grind[bq],λ h=>⟨by omega,by omega,λ h=>by grind[bq],λ h=>⟨by omega,by omega,λ h=>by grind[bq],λ h=>
  ⟨λ n _=>0<=n/\n<=a.size/\∀i:Int,0<=i->i<n->jP (lY a i)=true,λ n=>a.size-n.toNat,y' (by omega),?_⟩⟩⟩⟩⟩
 .intro e _ n ⟨j,g,l⟩;refine⟨λ d=>u' ⟨d,?_⟩,λ h=>by grind[bq]⟩;have k:ae .i64 (n+1):=by omega
  have f:jP (lY a n)=false->bq a=false:=by grind[bq]
  repeat' (first | apply And.intro | intro _)
  all_goals grind[jP]
end
section
variable {a:Heap}{b d:Nat}{c:D'}{e:Int}{f:List cz}{g:ByteArray}{h:List Int}{i:cz}
def Ea (H:Heap)(f:FuncId)(q:Value)(p:cz->Bool):Prop:=∀(a:Heap) (c:cz),Heap.le H a->af Tryz.prog f [.agg ⟨[.int .i64 c.id,.string c.name,.int .i64 c.kind]⟩,q] a fg (λ b _=>b=p c)
def je {e:FuncId}{q:Value}{p:cz->Bool}(o:Sl a c b d f)(v:Ea a e q p):
  ZB 333 [.slice c b d,.func (.func e) #[] #[q]] a gL (λ r _=>r=idxOf p 0 f):=by
 refine ΦK 0 (aj [16] [] [(2,[ag 8])]) (λ d=>W ZE a (λ f=>f 0 a) λ f g h i=>J (i<O b) (ΦX c i b (ΦE Xq h c (N i*3) (λ j k l=>C ZO e [ΦG [I j,ΦT k,I l],q] h λ m n=>ΦQ n (d i m) (ΦR (i+1)/\f (i+1) m/\g (i+1)<g i)))) (d (-1) h)) ?_;dsimp only[PL,aQ,aR,aW,eQ,C,ΦE,N,ΦQ,ΦR,W,ΦX,O,J];refine⟨λ b _=>0<=b/\b<=f.length/\idxOf p 0 f=idxOf p b (f.drop b.toNat),λ b=>f.length-b.toNat,P' rfl,?_⟩;rintro B j i ⟨m,z,s⟩;simp only[aad,aaf];refine⟨λ h=>?_,λ k=>?_⟩
 .obtain⟨w,t,_,x,rfl,-⟩:=o.at j m h;refine⟨t,m,h,_,_,_,x,_,v _ _ j,?_⟩;rintro y _ g rfl;rw[ak m w,idxOf]at s;refine⟨λ u=>?_,λ u=>⟨?_,y' ?_,by omega⟩⟩
  .grind
  .have:=o.bn;grind
  grind
 .rw[ai k o.len,idxOf]at s;grind
def vl {e:FuncId}{q:Value}{p:cz->Bool}(h:Sl a c b d f)(g:Ea a e q p):
  ZB 424 [.slice c b d,.func (.func e) #[] #[q]] a fg (λ r _=>r=f.any p):=by
 refine ΦK 0 (aj [7] [] []) (λ f=>C ZP 333 [S c b d,.func (.func e) ⟨[]⟩ ⟨[q]⟩] a λ g h=>f (decide (0<=h)) g) ?_;dsimp only[aQ,aR,C];refine⟨_,je h g,?_⟩;rintro i _ r rfl;rw[aaH,aad];exact eU p f 0 (by simp)
def MW (m:Sl a c b d h):
  ZB 274 [.slice c b d,Φi e] a gL (λ r _=>r=idxOf (λ y=>decide (e=y)) 0 h):=by
 refine ΦK 0 (aj [] [] [(2,[ag 8])]) (λ d=>W ZE a (λ f=>f 0 a) λ f g h i=>J (i<O b) (ΦX c i b (ΦE ZE h c (N i*1) (λ j=>J (e=j) (d i h) (ΦR (i+1)/\f (i+1) h/\g (i+1)<g i)))) (d (-1) h)) ?_;dsimp only[PL,aW,eQ,ΦE,N,ΦR,W,ΦX,O,J];refine⟨λ b _=>0<=b/\b<=h.length/\idxOf (λ y=>decide (e=y)) 0 h=idxOf _ b (h.drop b.toNat),λ b=>h.length-b.toNat,P' rfl,?_⟩;rintro u j i ⟨k,v,o⟩;simp only[aad,aaf];refine⟨λ f=>?_,λ g=>?_⟩
 .obtain⟨t,s,_,q,rfl,-⟩:=m.at j k f;refine⟨s,k,f,_,q,?_⟩;rw[ak k t,idxOf]at o;refine⟨λ p=>?_,λ p=>⟨?_,y' ?_,by omega⟩⟩
  .grind
  .have:=m.bn;grind
  grind
 .rw[ai g m.len,idxOf]at o;grind
def hI (f:Sl a c b d h):
  ZB 209 [.slice c b d,Φi e] a fg (λ r _=>r=h.contains e):=by
 refine ΦK 0 (aj [7] [] []) (λ f=>C ZP 274 [S c b d,I e] a λ g h=>f (decide (0<=h)) g) ?_;dsimp only[aQ,aR,C];refine⟨_,MW f,?_⟩;have:=eU (λ y=>decide (e=y)) h 0 (by simp);grind
def Cs (i:Sl a c b d f):
  ZB 140 [.slice c b d] a fi (λ q s m p=>Sl p q s m f):=by
 refine ΦK 0 bE (λ d=>ΦQ (Option.isNone c) (d none 0 0 a) (∃e:G',Cells a c 0 e/\L e=b*3/\(0+b)*32<=M/\U a ([]++e) (0+b) λ f g h=>d f (0+b) g h)) ?_;dsimp only[L,M,ΦQ];refine⟨λ v=>?_,λ v=>?_⟩
 .have:b=0:=by
   rcases abl b with h | h
   .grind
   .obtain⟨g,o,e⟩:=i.cD h;grind
  subst this;rw[aal i.len];exact Sl.nil
 .obtain⟨t,u,k⟩:=i.row;refine⟨t,u,by rw[k.length,i.len];rfl,by have:=i.bnd;rw[aaT];omega,λ q m p j w r=>?_⟩;rw[aaT]at r⊢;exact k.sl j (by grind) i.len r i.bnd i.bn
def eF (i:Sl a c b d h):
  ZB 186 [.slice c b d] a fi (λ q s m p=>Sl p q s m h):=by
 refine ΦK 0 bE (λ d=>ΦQ (Option.isNone c) (d none 0 0 a) (∃e:G',Cells a c 0 e/\L e=b*1/\(0+b)*8<=M/\U a ([]++e) (0+b) λ f g h=>d f (0+b) g h)) ?_;dsimp only[L,M,ΦQ];refine⟨λ v=>?_,λ v=>?_⟩
 .have:b=0:=by
   rcases abl b with f | f
   .grind
   .obtain⟨g,o,e⟩:=i.cD f;grind
  subst this;rw[aal i.len];exact Sl.nil
 .obtain⟨t,u,k⟩:=i.row;refine⟨t,u,by rw[k.length,i.len];rfl,by have:=i.bnd;rw[aaT];omega,λ q m p j w r=>?_⟩;rw[aaT]at r⊢;exact k.sl j (by grind) i.len r i.bnd i.bn
def de (k:Int):Bool:=decide (k=1)||decide (k=2)||decide (k=3)
def hJ (k:Int):Bool:=decide (1<=k)&&decide (k<=12)
def dH (s:ByteArray):Bool:=decide (s≠⟨⟨[118,102,114,111,109]⟩⟩)&&decide (s≠⟨⟨[118,116,111]⟩⟩)&&decide (s≠⟨⟨[114,102,114,111,109]⟩⟩)&&decide (s≠⟨⟨[114,116,111]⟩⟩)&&bq s
def lP:ZB 267 [Φi e] a fg (λ b _=>b=de e):=by
 refine ΦK 0 bE (λ b=>J (e=1) (b true a) (J (e=2) (b true a) (b (decide (e=3)) a))) ?_;dsimp only[J];grind[de]
def xx:ZB 426 [Φi e] a fg (λ b _=>b=hJ e):=by
 refine ΦK 0 bE (λ b=>J (1<=e) (b (decide (e<=12)) a) (b false a)) ?_;dsimp only[J];grind[hJ]
def lQ:ZB 266 [.string g] a fg (λ b _=>b=dH g):=by
 refine ΦK 0 (aj [10] [] []) (λ b=>let c:=C ZO 325 [ΦT g] a λ c d=>b d c;J (g={data:=⟨[(118:UInt8),(102:UInt8),(114:UInt8),(111:UInt8),(109:UInt8)]⟩}) (J (g={data:=⟨[(118:UInt8),(102:UInt8),(114:UInt8),(111:UInt8),(109:UInt8)]⟩}) (b false a) c) (J (g={data:=⟨[(118:UInt8),(116:UInt8),(111:UInt8)]⟩}) (J (g={data:=⟨[(118:UInt8),(116:UInt8),(111:UInt8)]⟩}) (b false a) c) (J (g={data:=⟨[(114:UInt8),(102:UInt8),(114:UInt8),(111:UInt8),(109:UInt8)]⟩}) (J (g={data:=⟨[(114:UInt8),(102:UInt8),(114:UInt8),(111:UInt8),(109:UInt8)]⟩}) (b false a) c) (J (g={data:=⟨[(114:UInt8),(116:UInt8),(111:UInt8)]⟩}) (b false a) c)))) ?_;dsimp only[aQ,aR,C,J];have c:∀{p q r t:Prop} [Decidable p] [Decidable q] [Decidable r] [Decidable t] {v:Bool},decide p=false->decide q=false->decide r=false->decide t=false->
  v=(decide (¬p)&&decide (¬q)&&decide (¬r)&&decide (¬t)&&v):=by grind
 refine⟨λ h=>⟨λ _=>?_,λ d=>absurd h (by grind)⟩,λ i=>⟨λ h=>⟨λ _=>?_,λ d=>absurd h (by grind)⟩,λ e=>⟨λ h=>⟨λ _=>?_,λ d=>absurd h (by grind)⟩,λ j=>⟨λ h=>?_,λ f=>⟨_,iM,?_⟩⟩⟩⟩⟩
 .rw[aab h];rfl
 .rw[aab h];rfl
 .rw[aab h];rfl
 .rw[aab h];rfl
 .rintro k _ b rfl;exact c i e j f
def Eb (h:Cells a (some ⟨b,0,none⟩) 0 [Φi e]):
  ZB 345 [.agg ⟨[Φi i.id,.string i.name,Φi i.kind]⟩,.pointer (some ⟨b,0,none⟩)] a fg (λ d _=>d=decide (i.id=e)):=by
 refine ΦK 0 bE (λ c=>ΦE ZE a (some ⟨b,0,none⟩) 0 λ d=>c (decide (i.id=d)) a) ?_;dsimp only[eQ,ΦE];grind
def Bj (h:Cells a (some ⟨b,0,none⟩) 0 [.string g]):
  ZB 344 [.agg ⟨[Φi i.id,.string i.name,Φi i.kind]⟩,.pointer (some ⟨b,0,none⟩)] a fg (λ d _=>d=decide (i.name=g)):=by
 refine ΦK 0 bE (λ c=>ΦE Xr a (some ⟨b,0,none⟩) 0 λ d=>c (decide (i.name=d)) a) ?_;dsimp only[eQ,ΦE];grind
def qe {k:Int}(h:Cells a (some ⟨b,0,none⟩) 0 [Φi e,.string g,Φi k]):
  ZB 425 [.agg ⟨[Φi i.id,.string i.name,Φi i.kind]⟩,.pointer (some ⟨b,0,none⟩)] a fg (λ d _=>d=decide (i.name=g)):=by
 refine ΦK 0 bE (λ c=>ΦE Xr a (some ⟨b,0,none⟩) (0+1) λ d=>c (decide (i.name=d)) a) ?_;dsimp only[eQ,ΦE];exact⟨_,h.cy (k:=1) rfl,rfl⟩
def qf {h:Int}{x:Int}(k:Sl a c b d f):
  ZB 270 [.agg ⟨[Φi e,Φi h,.slice c b d]⟩,Φi x] a gL (λ r _=>r=idxOf (λ d=>decide (d.id=x)) 0 f):=by
 refine ΦK 0 (aj [8] [] []) (λ e=>∃f:Int->Heap->Prop,(∀(g:Nat)(h:Heap),Heap.le a h->Cells h (some ⟨g,0,none⟩) 0 [I x]->af Tryz.prog 333 [S c b d,.func (.func 345) ⟨[]⟩ ⟨[.pointer (some ⟨g,0,none⟩)]⟩] h ⟨false,[(false,[.int .i64])]⟩ f)/\∀(g:Heap)(h:Int),f h g->e h a) ?_;refine⟨_,λ g o j m=>je (k.mono j) λ p d i=>Eb (m.mono i),?_⟩;simp
def Ec {i:Int}(m:Sl a c b d f):
  ZB 268 [.agg ⟨[Φi e,Φi i,.slice c b d]⟩,.string g] a gL (λ r _=>r=idxOf (λ d=>decide (d.name=g)) 0 f):=by
 refine ΦK 0 (aj [8] [] []) (λ e=>∃f:Int->Heap->Prop,(∀(h:Nat)(i:Heap),Heap.le a i->Cells i (some ⟨h,0,none⟩) 0 [ΦT g]->af Tryz.prog 333 [S c b d,.func (.func 344) ⟨[]⟩ ⟨[.pointer (some ⟨h,0,none⟩)]⟩] i ⟨false,[(false,[.int .i64])]⟩ f)/\∀(h:Heap)(i:Int),f i h->e i a) ?_;refine⟨_,λ h p k o=>je (m.mono k) λ q d j=>Bj (o.mono j),?_⟩;simp
end
section
variable {a:Heap}{b:D'}{c d:Nat}
def dq (l:List cz)(x:Int):Bool:=l.any λ c=>decide (c.id=x)
def zA {T:Type}(p:T->Bool)(l:List T):(idxOf p 0 l<0)↔l.any p=false:=by
 rw[<-Int.not_le,eU p l 0 (by simp),abZ]
def permanent (l:List dh)(a:List Int):Bool:=l.all λ v=>a.all λ x=>dq v.cols x
def iN {B:D'}{m e:Nat}{l:List dh}{f:List Int}(w:Sl a b c d l)(p:Sl a B m e f):
  ZB 330 [.slice b c d,.slice B m e] a fg (λ r _=>r=permanent l f):=by
 refine ΦK 0 (aj [23] [] [(2,[ag 11]),(5,[ag 17])]) (λ d=>W ZE a (λ e=>e 0 a) λ e f g h=>J (h<O c) (ΦX b h c (ΦE Xs g b (N h*3) (λ i j k l n=>W ZE g (λ o=>o 0 g) λ o p q r=>J (r<O m) (ΦX B r m (ΦE ZE q B (N r*1) (λ s=>C ZP 270 [ΦG [I i,I j,S k l n],I s] q λ t u=>J (u<0) (d false t) (ΦR (r+1)/\o (r+1) t/\p (r+1)<p r)))) (ΦR (h+1)/\e (h+1) q/\f (h+1)<f h)))) (d true g)) ?_;dsimp only[PL,aQ,aR,aW,eQ,C,ΦE,N,ΦR,W,ΦX,O,J];have X:=w.bn;have G:=w.len;have b3:=p.bn;have L:=p.len;unfold permanent;refine⟨λ i _=>0<=i/\i<=c/\(l.all λ v=>f.all λ x=>dq v.cols x)=((l.drop i.toNat).all _),λ i=>c-i.toNat,P' rfl,?_⟩;rintro H2 o i ⟨s,h1,y⟩;refine⟨λ g=>?_,λ q=>?_⟩
 .have g:=aab g;obtain⟨M,F,_,T,⟨A',V,Z,rfl,Y,r2,Q⟩⟩:=w.at o s g;rw[ak s M,abr]at y;refine⟨F,s,g,_,_,_,_,_,T,λ k _=>0<=k/\k<=m/\(f.all λ x=>dq l[i.toNat].cols x)=((f.drop k.toNat).all _),λ k=>m-k.toNat,P' rfl,?_⟩;rintro H3 j k ⟨u,U,D⟩;refine⟨λ h=>?_,λ t=>?_⟩
  .have h:=aab h;obtain⟨E,R,_,P,rfl,r⟩:=p.at (aa o j) u h;rw[ak u E]at D;refine⟨R,u,h,_,P,_,qf (Q.mono j),?_⟩;rintro H4 z r rfl;have:=zA (λ d=>decide (d.id=f[k.toNat])) l[i.toNat].cols;rw[aad,aaf,this,<-dq];refine⟨λ hf=>?_,λ p=>u' ⟨y' ?_,by grind⟩⟩
   .grind
   grind
  .rw[ai (aac t) L]at D;refine u' ⟨y' ?_,by grind⟩;grind
 .rw[ai (aac q) G]at y;grind
def sI:List Bool->List Int->Bool
 | _,[]=>true
 | s,x::r=>hJ x&& !s.getD x.toNat false&&sI (s.set x.toNat true) r
def bT (l:List Int):Bool:=sI (List.replicate 13 false) l
def df {l:List Int}(m:Sl a b c d l):
  ZB 329 [.slice b c d] a fg (λ r _=>r=bT l):=by
 refine ΦK 0 (aj [13] [] [(3,[ag 8,.arr 3 506])]) (λ d=>∃(e:Int->G'->Heap->Prop)(f:Int->G'->Nat),e 0 [ΦB false,ΦB false,ΦB false,ΦB false,ΦB false,ΦB false,ΦB false,ΦB false,ΦB false,ΦB false,ΦB false,ΦB false,ΦB false] a/\∀g:Heap,Heap.le a g->∀(h:Int)(i:G'),e h i g->J (h<O c) (ΦX b h c (ΦE ZE g b (N h*1) (λ j=>C ZO 426 [I j] g λ k l=>ΦQ (!l) (d false k) (ΦY j 13 (ΦF Xt i (N j*1) 1 (λ m=>ΦQ m (d false k) (ΦY j 13 (N j*1+1<=L i/\ΦR (h+1)/\(let n:=av i (N j*1) [ΦB true];e (h+1) n k/\f (h+1) n<f h i))))))))) (d true g)) ?_;dsimp only[aQ,aR,eQ,C,ΦE,ΦF,L,N,ΦQ,ΦR,ΦX,ΦY,O,J];have F:=m.bn;have B:=m.len;unfold bT;refine⟨λ i q _=>0<=i/\i<=c/\∃s,Row a q s/\s.length=13/\sI (List.replicate 13 false) l=sI s (l.drop i.toNat),λ i _=>c-i.toNat,P' ⟨_,Row.gS (T:=Bool) rfl 13,rfl,rfl⟩,?_⟩;rintro R o i q ⟨j,P,s,k,z,h⟩;refine⟨λ f=>?_,λ g=>?_⟩
 .have f:=aab f;obtain⟨D,w,_,E,rfl,r⟩:=m.at o j f;rw[ak j D,sI]at h;refine⟨w,j,f,_,E,_,xx,?_⟩;rintro M p e rfl;refine⟨λ y=>?_,λ v=>?_⟩
  .grind
  .have G:=by simpa[hJ]using v
   have u:l[i.toNat].toNat<s.length:=by omega
   have x:=k.dO u;refine y' ⟨s[l[i.toNat].toNat],x,λ y=>?_,λ Q=>y' ⟨?_,by omega,y' ⟨_,k.dV u (us:=[.bool true]) (t:=true) rfl,T' ?_⟩,by grind⟩⟩
   .grind
   .have:=k.length;rw[this,z];show _<=13*1;omega
   grind
 .rw[ai (aac g) B]at h;rw[h];rfl
def fU:Int->List cz->List cz->Bool
 | _,_,[]=>true
 | last,pre,c::r=> !(decide (c.id<=last)||decide (12<c.id)|| !dH c.name|| !de c.kind||pre.any λ o=>decide (o.name=c.name))&&fU c.id (pre++[c]) r
def aB (l:List cz):Bool:=decide (1<=l.length)&&decide (l.length<=12)&&fU 0 [] l
def rz {l:List cz}(u:Sl a b c d l):
  ZB 327 [.slice b c d] a fg (λ r _=>r=aB l):=by
 refine ΦK 0 (aj [33,39,46] [] [(5,[ag 3,ag 16])]) (λ e=>J (O c<1) (e false a) (J (12<O c) (e false a) (W ZK a (λ f=>f 0 0 a) (λ f g h i j=>J (j<O c) (ΦX b j c (ΦE Xq h b (N j*3) (λ k l m=>J (k<=i) (e false h) (J (12<k) (e false h) (C ZO 266 [ΦT l] h (λ n o=>ΦQ (!o) (e false n) (C ZO 267 [I m] n (λ p q=>ΦQ (!q) (e false p) ((0:Int)<=0/\0<=j/\j<=O d/\(∀r:D',r=eM b d (N 0) 3->∃s:Bool->Heap->Prop,(∀(t:Nat)(u:Heap),Heap.le p u->Cells u (some ⟨t,0,none⟩) 0 [I k,ΦT l,I m]->af Tryz.prog 424 [S r (N j-N 0) (d-N 0),.func (.func 425) ⟨[]⟩ ⟨[.pointer (some ⟨t,0,none⟩)]⟩] u ⟨false,[(false,[.bool])]⟩ s)/\∀(t:Heap)(u:Bool),s u t->ΦQ u (e false p) (ΦR (j+1)/\f k (j+1) p/\g k (j+1)<g i j))))))))))) (e true h))))) ?_;dsimp only[PL,aQ,aR,aW,eQ,C,ΦE,N,ΦQ,ΦR,W,ΦX,O,J];have U:=u.bn;have B:=u.len;have Y:=u.cap;unfold aB;refine⟨λ h=>?_,λ h=>⟨λ z=>?_,λ z=>?_⟩⟩
 .have:=aab h;rw[B,aao (by omega)];rfl
 .have:=aab z;rw[B,aao (p:=c<=12) (by omega),acT];rfl
 have h:=aac h;have z:=aac z;rw[B,aau (p:=1<=c) (by omega),aau (p:=c<=12) (by omega),aaY,aaY];refine⟨λ o i _=>0<=i/\i<=c/\fU 0 [] l=fU o (l.take i.toNat) (l.drop i.toNat),λ _ i=>c-i.toNat,y' rfl,?_⟩;rintro H2 x o i ⟨y,h1,e⟩;refine⟨λ m=>?_,λ D=>?_⟩
 .have m:=aab m;obtain⟨L,Q,_,T,rfl,X,r2,V⟩:=u.at x y m;rw[ak y L,fU]at e;have e:=e.symm;refine⟨Q,y,m,_,_,_,T,λ f=>?_,λ P=>⟨λ f=>?_,λ F=>⟨_,lQ,?_⟩⟩⟩
  .rw[<-e,f];simp
  .rw[<-e,f];simp
  rintro H3 s _ rfl;refine⟨λ f=>?_,λ R=>⟨_,lP,?_⟩⟩
  .rw[<-e,f];simp
  rintro H4 q _ rfl;refine⟨λ f=>?_,λ G=>u' ⟨y,u' ?_⟩⟩
  .rw[<-e,f];simp
  rintro A' rfl;have t:=aa (aa x s) q;refine⟨_,λ g Z w E=>vl ((u.sub (j:=0) (k:=i.toNat) (by omega) (by omega)).mono (aa t w)) λ M d v=>qe (E.mono v),?_⟩;rintro M _ rfl;rw[abN];rw[P,F,R,G]at e;refine⟨λ f=>?_,λ f=>u' ⟨y' ?_,by dsimp only;omega⟩⟩
  .rw[<-e,f];simp
  .rw[<-e,f];simp only[Bool.or_self,Bool.not_false,aaY];congr 1;rw[show(i+1).toNat=i.toNat+1 by omega,aaj L]
 .rw[ai (aac D) B]at e;rw[e];rfl
def iO:Option Int->List dh->Bool
 | _,[]=>true
 | p,v::r=>dm v.rc&&(match p with | none=>true | some h=>decide (v.rc.lo=h))&&iO (some v.rc.hi) r
def wE (p:Option Int)(v:dh)(r:List dh):iO p (v::r)=(dm v.rc&&(match p with | none=>true | some h=>decide (v.rc.lo=h))&&iO (some v.rc.hi) r):=by
 rfl
def eV (l:List dh):Bool:=match l.getLast? with
 | none=>false
 | some v=>decide (v.rc.hi=1099511627776)
def fy (l:List dh):Bool:=iO none l&&eV l
def rA {l:List dh}(j:Sl a b c d l):
  ZB 326 [.slice b c d] a fg (λ r _=>r=fy l):=by
 refine ΦK 0 (aj [14] [(4,[2,4,7,8,10,12,14,16,18,20,22,24,26,28,30,32,34,36,38,40,42,0])] [(2,[ag 7])]) (λ d=>W ZE a (λ e=>e 0 a) λ e f g h=>J (h<O c) (ΦX b h c (ΦE Xs g b (N h*3) (λ i j k l m=>C ZO 139 [ΦG [I i,I j]] g λ n o=>ΦQ (!o) (d false n) (let p:=ΦR (h+1)/\e (h+1) n/\f (h+1)<f h;J (0<h) (ΦR (h-1)/\ΦX b (h-1) c (ΦE ZE n b (N (h-1)*3+0+1) (λ q=>V (i=q) (d false n) p))) p)))) (J (0<O c) (ΦR (O c-1)/\ΦX b (O c-1) c (ΦE ZE g b (N (O c-1)*3+0+1) (λ i=>d (decide (i=1099511627776)) g))) (d false g))) ?_;dsimp only[PL,aQ,aR,aW,eQ,C,ΦE,N,ΦQ,ΦR,W,ΦX,O,V,J];have P:=j.bn;have G:=j.len;unfold fy;refine⟨λ i _=>0<=i/\i<=c/\iO none l=iO (if i<=0 then none else l[(i-1).toNat]?.map (·.rc.hi)) (l.drop i.toNat),λ i=>c-i.toNat,y' rfl,?_⟩;rintro X f i ⟨q,S,m⟩;refine⟨λ e=>?_,λ o=>?_⟩
 .have e:=aab e;obtain⟨y,D,_,L,⟨x,u,v,rfl,Q,U,z⟩⟩:=j.at f q e;rw[ak q y,wE]at m;refine⟨D,q,e,_,_,_,_,_,L,_,bX,?_⟩;rintro R h _ rfl;have Y:(if i+1<=0 then none else l[(i+1-1).toNat]?.map (·.rc.hi))=some l[i.toNat].rc.hi:=by
   rw[if_neg (by omega),show(i+1-1).toNat=i.toNat by omega,aai y];rfl
  refine⟨λ F=>?_,λ w=>⟨λ g=>?_,λ g=>?_⟩⟩
  .simp_all
  .have g:=aab g;have w:dm l[i.toNat].rc=true:=by simp_all
   obtain⟨p,s,_,t,⟨x,u,v,rfl,B,M,z⟩⟩:=j.at (aa f h) (i:=i-1) (by omega) (by omega);rw[aai p]at m;refine u' ⟨s,y' ⟨_,t.cy (k:=1) rfl,λ F=>?_,λ T=>u' ⟨y' ?_,by grind⟩⟩⟩
   .grind
   grind
  .have w:dm l[i.toNat].rc=true:=by simp_all
   have E:ae .i64 (i+1)/\(0<=i+1/\i+1<=c/\iO none l=iO (if i+1<=0 then none else l[(i+1-1).toNat]?.map (·.rc.hi)) (l.drop (i+1).toNat))/\c-(i+1).toNat<c-i.toNat:=by
    refine u' ⟨y' ?_,by omega⟩;grind
   grind
 .rw[ai (aac o) G]at m;rw[m];refine ΦD (λ g=>?_) λ g=>?_
  .obtain⟨p,s,_,t,⟨x,u,v,rfl,B,M,z⟩⟩:=j.at f (i:=(c)-1) (by omega) (by omega);refine u' ⟨s,y' ⟨_,t.cy (k:=1) rfl,?_⟩⟩;rw[eV,abK,show l.length-1=((c:Int)-1).toNat by omega,aai p];rfl
  .rw[aal (by omega:l.length=0)];rfl
end
section
variable {a:Heap}{b:D'}{c d:Nat}{e:List dh}
def lB:cz:=⟨0,⟨⟨[]⟩⟩,0⟩
def GZ:Rep.rel a [Φi 0] (0:Int):=⟨rfl,by grind⟩
def PG:Rep.rel a [Φi 0,.string ⟨⟨[]⟩⟩,Φi 0] lB:=⟨rfl,by simp[ae,lB],by simp[str,lB,ByteArray.size],by simp[ae,lB]⟩
def dP (i g:Int):List Int->List Int->List cz->Int->List cz->Option (List Int×List Int×List cz×Int)
 | f,la,co,top,[]=>some (f,la,co,top)
 | f,la,co,top,c::r=>
  if f.getD c.id.toNat 0=0 then
   if 0<i/\c.id<=g then none
   else dP i g (f.set c.id.toNat (i+1)) (la.set c.id.toNat (i+1)) (co.set c.id.toNat c) (max top c.id) r
  else if la.getD c.id.toNat 0=i/\co.getD c.id.toNat lB=c then dP i g f (la.set c.id.toNat (i+1)) co (max top c.id) r
  else none
def jD:Int->Int->List Int->List Int->List cz->List dh->Bool
 | _,_,_,_,_,[]=>true
 | i,g,f,la,co,v::r=>match dP i g f la co g v.cols with
  | none=>false
  | some (f',la',co',t)=>jD (i+1) t f' la' co' r
def rT (i g:Int)(f a:List Int)(b:List cz)(v:dh)(r:List dh):jD i g f a b (v::r)=match dP i g f a b g v.cols with
 | none=>false
 | some (f',la',co',t)=>jD (i+1) t f' la' co' r:=rfl
def ic (l:List dh):Bool:=jD 0 0 (List.replicate 13 0) (List.replicate 13 0) (List.replicate 13 lB) l
def Li (l:List dh):Prop:=∀v∈l,∀c∈v.cols,1<=c.id/\c.id<=12
def rB (hs:Sl a b c d e)(a7:Li e):
  ZB 328 [.slice b c d] a fg (λ r _=>r=ic e):=by
 refine ΦK 0 (aj [] [(14,[2,4,6,8,10,12,14,17,19,21,23,0]),(15,[2,4,6,8,10,12,14,16,18,20,22,24,26,28,30,0])] [(5,[ag 6,ag 14,.arr 3 504,.arr 4 504,.arr 5 505]),(9,[ag 9,ag 23,.arr 3 504,.arr 4 504,.arr 5 505])]) (λ d=>∃(e:Int->Int->G'->G'->G'->Heap->Prop)(f:Int->Int->G'->G'->G'->Nat),(let g:=[I 0,I 0,I 0,I 0,I 0,I 0,I 0,I 0,I 0,I 0,I 0,I 0,I 0];e 0 0 g g [I 0,ΦT ⟨⟨[]⟩⟩,I 0,I 0,ΦT ⟨⟨[]⟩⟩,I 0,I 0,ΦT ⟨⟨[]⟩⟩,I 0,I 0,ΦT ⟨⟨[]⟩⟩,I 0,I 0,ΦT ⟨⟨[]⟩⟩,I 0,I 0,ΦT ⟨⟨[]⟩⟩,I 0,I 0,ΦT ⟨⟨[]⟩⟩,I 0,I 0,ΦT ⟨⟨[]⟩⟩,I 0,I 0,ΦT ⟨⟨[]⟩⟩,I 0,I 0,ΦT ⟨⟨[]⟩⟩,I 0,I 0,ΦT ⟨⟨[]⟩⟩,I 0,I 0,ΦT ⟨⟨[]⟩⟩,I 0,I 0,ΦT ⟨⟨[]⟩⟩,I 0] a)/\∀g:Heap,Heap.le a g->∀(h i:Int)(j k l:G'),e h i j k l g->J (i<O c) (ΦX b i c (ΦE Xs g b (N i*3) (λ m n o p q=>∃(r:Int->Int->G'->G'->G'->Heap->Prop)(s:Int->Int->G'->G'->G'->Nat),r h 0 j k l g/\∀t:Heap,Heap.le g t->∀(u v:Int)(w x y:G'),r u v w x y t->J (v<O p) (ΦX o v p (ΦE Xq t o (N v*3) (λ z a0 a1=>ΦY z 13 (ΦF ZE w (N z*1) 1 (λ a2=>let a3:=λ a3=>av a3 (N z*1) [I (i+1)];J (a2=0) (let a4:=ΦR (i+1)/\ΦY z 13 (N z*1+1<=L w/\ΦY z 13 (N z*3+3<=L y/\ΦR (i+1)/\ΦY z 13 (N z*1+1<=L x/\ΦR (v+1)/\(let a4:=av y (N z*3) [I z,ΦT a0,I a1];r (max u z) (v+1) (a3 w) (a3 x) a4 t/\s (max u z) (v+1) (a3 w) (a3 x) a4<s u v w x y))));J (0<i) (J (z<=h) (d false t) a4) a4) (ΦY z 13 (ΦF ZE x (N z*1) 1 (λ a4=>V (a4=i) (d false t) (ΦY z 13 (ΦF Xq y (N z*3) 3 (λ a5 a6 a7=>ΦQ (!(decide (a5=z)&&(decide (a6=a0)&&decide (a7=a1)))) (d false t) (ΦR (i+1)/\ΦY z 13 (N z*1+1<=L x/\ΦR (v+1)/\r (max u z) (v+1) w (a3 x) y t/\s (max u z) (v+1) w (a3 x) y<s u v w x y))))))))))))) (ΦR (i+1)/\e u (i+1) w x y t/\f u (i+1) w x y<f h i j k l)))) (d true g)) ?_;dsimp only[eQ,ΦE,ΦF,L,N,ΦQ,ΦR,ΦX,ΦY,O,V,J];have b1:=hs.bn;have b2:=hs.len;unfold ic;refine⟨λ g i Y W Z D=>0<=i/\i<=c/\ae .i64 g/\∃f P G,Row D Y f/\Row D W P/\Row D Z G/\f.length=13/\P.length=13/\G.length=13/\
   jD 0 0 (List.replicate 13 0) (List.replicate 13 0) (List.replicate 13 lB) e=jD i g f P G (e.drop i.toNat),λ _ i _ _ _=>c-i.toNat,
  (y' ⟨by simp[ae],_,_,_,Row.gS GZ 13,Row.gS GZ 13,Row.gS PG 13,rfl,rfl,rfl,rfl⟩),?_⟩
 rintro H2 a4 g i Y W Z ⟨h0,h1,hg,f,P,G,hf,a6,a0,lf,a2,a5,U⟩;refine⟨λ w=>?_,λ a8=>?_⟩
 .have w:=aab w;obtain⟨hi,hA,_,hc,⟨A',T,c',rfl,r1,r2,X⟩⟩:=hs.at a4 h0 w;rw[ak h0 hi,rT]at U;have d1:=X.bn;have d2:=X.len;have z:=a7 _ (aan hi);generalize b5:e[i.toNat].cols=cs at X U d2 z;refine⟨hA,h0,w,_,_,_,_,_,hc,λ u k Y W Z D=>0<=k/\k<=T/\ae .i64 u/\∃C o m,Row D Y C/\Row D W o/\Row D Z m/\C.length=13/\o.length=13/\m.length=13/\
   dP i g f P G g cs=dP i g C o m u (cs.drop k.toNat),λ _ k _ _ _=>T-k.toNat,y' ⟨hg,f,P,G,hf,a6,a0,lf,a2,a5,rfl⟩,?_⟩
  rintro H3 R u k a9 b0 a3 ⟨k0,k1,b3,C,o,m,v,s,p,S,Q,B,q⟩;refine⟨λ x=>?_,λ a1=>?_⟩
  .have x:=aab x;obtain⟨ki,kA,_,kc,rfl,q1,q2,q3⟩:=X.at R k0 x;rw[ak k0 ki,dP]at q;obtain⟨p1,p2⟩:=z _ (aan ki);generalize b4:cs[k.toNat]=j at q p1 p2 q1 q2 q3 kc;have x1:j.id.toNat<C.length:=by omega
   have x2:j.id.toNat<o.length:=by omega
   have x3:j.id.toNat<m.length:=by omega
   have w1:=(v.dO x1).1;have w2:=(s.dO x2).1;have w3:=(p.dO x3).1;have e1:C.getD j.id.toNat 0=C[j.id.toNat]:=by simp[List.getD,x1]
   have e2:o.getD j.id.toNat 0=o[j.id.toNat]:=by simp[List.getD,x2]
   have e3:m.getD j.id.toNat lB=m[j.id.toNat]:=by simp[List.getD,x3]
   rw[e1,e2,e3]at q;have z1:j.id.toNat*1+1<=a9.length:=by rw[v.length,S];show _<=13*1;omega
   have z2:j.id.toNat*1+1<=b0.length:=by rw[s.length,Q];show _<=13*1;omega
   have z3:j.id.toNat*3+3<=a3.length:=by rw[p.length,B];show _<=13*3;omega
   have F:ae .i64 (i+1):=by omega
   have rk:ae .i64 (k+1):=by omega
   have rm:ae .i64 (max u j.id):=by simp only[ae]at*;omega
   have s1:=v.dV x1 (us:=[Φi (i+1)]) (t:=i+1) ⟨rfl,F⟩;have s2:=s.dV x2 (us:=[Φi (i+1)]) (t:=i+1) ⟨rfl,F⟩;have s3:=p.dV x3 (us:=[Φi j.id,.string j.name,Φi j.kind]) (t:=j) ⟨rfl,q1,q2,q3⟩;have m1:T-(k+1).toNat<T-k.toNat:=by omega
   refine⟨kA,k0,x,_,_,_,kc,y' ⟨_,w1,λ hz=>?_,λ hz=>?_⟩⟩
   .rw[if_pos (aab hz)]at q;refine⟨λ M=>⟨λ E=>?_,λ E=>?_⟩,λ M=>?_⟩
    .grind
    .rw[if_neg (λ h=>aac E h.2)]at q;exact⟨F,y' ⟨z1,y' ⟨z3,F,y' ⟨z2,rk,y' ⟨rm,_,_,_,s1,s2,s3,T' (U' q)⟩,m1⟩⟩⟩⟩
    .rw[if_neg (λ h=>aac M h.1)]at q;exact⟨F,y' ⟨z1,y' ⟨z3,F,y' ⟨z2,rk,y' ⟨rm,_,_,_,s1,s2,s3,T' (U' q)⟩,m1⟩⟩⟩⟩
   .rw[if_neg (aac hz)]at q;refine y' ⟨_,w2,λ M=>?_,λ M=>y' ⟨_,_,_,w3,λ E=>?_,λ E=>?_⟩⟩
    .grind
    .grind
    .have M:o[j.id.toNat]=i:=by grind
     have E:m[j.id.toNat]=j:=by
      generalize m[j.id.toNat]=y at E;cases y;simp_all
     rw[if_pos ⟨M,E⟩]at q;exact⟨F,y' ⟨z2,rk,y' ⟨rm,_,_,_,v,s2,p,S,by grind,B,q⟩,m1⟩⟩
  .rw[ai (aac a1) d2,dP]at q;grind
 .rw[ai (aac a8) b2]at U;rw[U];rfl
def lR (l:List dh)(f:nz):Bool:=decide (0<f.cols.length)&&bT f.cols&&permanent l f.cols&&bq f.table&&decide (f.refs.length=f.cols.length)&&bT f.refs
def jE (l:List dh)(f:Rs):Bool:=(decide (f.kind=1)||decide (f.kind=2))&&decide (0<f.cols.length)&&bT f.cols&&permanent l f.cols
def oa {B D:D'}{m f k g:Nat}{s:ByteArray}{x y:List Int}(z:Sl a b c d e)(i:Sl a B m f x)(o:Sl a D k g y):
  ZB 331 [.slice b c d,.agg ⟨[.slice B m f,.string s,.slice D k g]⟩] a fg (λ r _=>r=lR e ⟨x,s,y⟩):=by
 refine ΦK 0 (aj [12,18,23,37] [] []) (λ e=>J (0<O m) (C ZO 329 [S B m f] a (λ h i=>ΦQ i (C ZO 330 [S b c d,S B m f] h (λ j l=>ΦQ l (C ZO 325 [ΦT s] j (λ n o=>ΦQ o (J (O k=O m) (C ZO 329 [S D k g] n (λ p q=>e q p)) (e false n)) (e false n))) (e false j))) (e false h))) (e false a)) ?_;dsimp only[aQ,aR,C,ΦQ,O,J];have p:=i.len;have I:=o.len;simp only[lR,p];refine⟨λ h=>⟨_,df i,?_⟩,λ h=>?_⟩
 .rintro G j _ rfl;refine⟨λ u=>⟨_,iN (z.mono j) (i.mono j),?_⟩,λ u=>?_⟩
  .rintro L E _ rfl;refine⟨λ q=>⟨_,iM,?_⟩,λ q=>?_⟩
   .rintro F v _ rfl;refine⟨λ w=>⟨λ t=>⟨_,df (o.mono (aa j (aa E v))),?_⟩,λ t=>?_⟩,λ w=>?_⟩
    .grind
    .grind
    grind
   grind
  grind
 grind
def od {B:D'}{m f:Nat}{s:Int}{x:List Int}(w:Sl a b c d e)(k:Sl a B m f x):
  ZB 332 [.slice b c d,.agg ⟨[Φi s,.slice B m f]⟩] a fg (λ r _=>r=jE e ⟨s,x⟩):=by
 refine ΦK 0 (aj [22,28] [] []) (λ e=>let g:=J (0<O m) (C ZO 329 [S B m f] a (λ g h=>ΦQ h (C ZO 330 [S b c d,S B m f] g (λ i j=>e j i)) (e false g))) (e false a);J (s=1) g (J (s=2) g (e false a))) ?_;dsimp only[aQ,aR,C,ΦQ,O,J];have t:=k.len;simp only[jE,t];have v:∀{j:Heap},Heap.le a j->bT x=true->(decide (0<(m)))=true->(decide (s=1)||decide (s=2))=true->
   ∃i:Bool->Heap->Prop,ZB 330 [.slice b c d,.slice B m f] j fg i/\∀p,Heap.le j p->∀g,i g p->g=((decide (s=1)||decide (s=2))&&decide (0<m)&&bT x&&permanent e x):=by
  intro j q z y D;refine⟨_,iN (w.mono q) (k.mono q),?_⟩;grind
 refine⟨λ h=>⟨λ o=>⟨_,df k,?_⟩,λ o=>?_⟩,λ h=>⟨λ u=>⟨λ o=>⟨_,df k,?_⟩,λ o=>?_⟩,λ u=>?_⟩⟩
 .grind
 .grind
 .grind
 .grind
 grind
end
section
def aw (s:bp):Bool:=bq s.name&&fy s.vers&&decide (s.fks.length<=4)&&decide (s.csts.length<=4)&&(s.vers.all λ v=>aB v.cols)&&ic s.vers&&bT s.key&&
 permanent s.vers s.key&&(s.fks.all λ f=>lR s.vers f)&&(s.csts.all λ c=>jE s.vers c)
def mP:∀(l:List cz) (a:Int) (b:List cz),0<=a->fU a b l=true->∀c∈l,1<=c.id/\c.id<=12
 |[],_,_,_,_,c,h=>by grind
 | x::r,a,b,h0,h,c,d=>by
  simp[fU,acR]at h;obtain⟨⟨⟨⟨⟨i,f⟩,k⟩,g⟩,j⟩,e⟩:=h;rcases aaw.1 d with rfl | d
  .omega
  .exact mP r _ _ (by omega) e c d
def oe {l:List dh}(h:(l.all λ v=>aB v.cols)=true):Li l:=by
 intro v a c b;have:=aaG.1 h v a;simp[aB]at this;exact mP _ _ _ (by simp) this.2 c b
structure aV (H:Heap)(nm:ByteArray)(A:D')(n c:Nat)(B:D')(m d:Nat)(E:D')(k e:Nat)(F:D')(l f:Nat)(s:bp):Prop where
 name:nm=s.name
 str:str s.name
 vers:Sl H A n c s.vers
 key:Sl H B m d s.key
 fks:Sl H E k e s.fks
 csts:Sl H F l f s.csts
section
variable {H:Heap}{nm:ByteArray}{A:D'}{n c:Nat}{B:D'}{m d:Nat}{E:D'}{k e:Nat}{F:D'}{l f:Nat}{s:bp}
def aV.mono {b:Heap}(h:aV H nm A n c B m d E k e F l f s)(a:Heap.le H b):aV b nm A n c B m d E k e F l f s:=
 ⟨h.name,h.str,h.vers.mono a,h.key.mono a,h.fks.mono a,h.csts.mono a⟩
def oK (hs:aV H nm A n c B m d E k e F l f s):
  ZB 252 [.agg ⟨[.string nm,.slice A n c,.slice B m d,.slice E k e,.slice F l f]⟩] H fg (λ r _=>r=aw s):=by
 refine ΦK 0 (aj [11,16,40,45,50,58,71,84] [] [(4,[ag 34]),(12,[ag 64]),(18,[ag 77])]) (λ a=>C ZO 325 [ΦT nm] H λ b e=>ΦQ (!e) (a false b) (C ZO 326 [S A n c] b (λ f g=>ΦQ (!g) (a false f) (J (4<O k) (a false f) (J (4<O l) (a false f) (W ZE f (λ h=>h 0 f) (λ h i j o=>let p:=λ p q (r:Int) s t=>ΦQ (!p) (a false q) (ΦR (r+1)/\s (r+1) q/\t (r+1)<t r);J (o<O n) (ΦX A o n (ΦE Xs j A (N o*3) (λ q r s t u=>C ZO 327 [S s t u] j λ v w=>p w v o h i))) (C ZO 328 [S A n c] j (λ q r=>ΦQ (!r) (a false q) (C ZO 329 [S B m d] q (λ s t=>ΦQ (!t) (a false s) (C ZO 330 [S A n c,S B m d] s (λ u v=>ΦQ (!v) (a false u) (W ZE u (λ w=>w 0 u) (λ w x y z=>J (z<O k) (ΦX E z k (ΦE Xu y E (N z*3) (λ a0 a1 a2 a3 a4 a5 a6=>C ZO 331 [S A n c,ΦG [S a0 a1 a2,ΦT a3,S a4 a5 a6]] y λ a7 a8=>p a8 a7 z w x))) (W ZE y (λ a0=>a0 0 y) (λ a0 a1 a2 a3=>J (a3<O l) (ΦX F a3 l (ΦE Xv a2 F (N a3*2) (λ a4 a5 a6 a7=>C ZO 332 [S A n c,ΦG [I a4,S a5 a6 a7]] a2 λ a8 a9=>p a9 a8 a3 a0 a1))) (a true a2)))))))))))))))))) ?_;dsimp only[PL,aQ,aR,aW,eQ,C,ΦE,N,ΦQ,ΦR,W,ΦX,O,J];obtain⟨rfl,Y,q,hk,R,U⟩:=hs;have v1:=q.bn;have v2:=q.len;have f1:=R.bn;have f2:=R.len;have c1:=U.bn;have c2:=U.len;unfold aw;refine⟨_,iM,?_⟩;rintro H1 l1 _ rfl;refine⟨λ u=>by simp only[aay]at u;simp[u],λ u=>⟨_,rA (q.mono l1),?_⟩⟩;have u:bq s.name=true:=by simpa using u
 rintro H2 l2 _ rfl;refine⟨λ t=>by simp only[aay]at t;simp[t],λ t=>⟨λ w=>?_,λ w=>⟨λ y=>?_,λ y=>?_⟩⟩⟩
 .have w:=aab w;rw[aao (p:=s.fks.length<=4) (by omega)];simp
 .have y:=aab y;rw[aao (p:=s.csts.length<=4) (by omega)];simp
 have t:fy s.vers=true:=by simpa using t
 have w:=aac w;have y:=aac y;rw[u,t,aau (p:=s.fks.length<=4) (by omega),aau (p:=s.csts.length<=4) (by omega)];have L2:=aa l1 l2;simp only[aaY];refine⟨λ i _=>0<=i/\i<=n/\(s.vers.all λ v=>aB v.cols)=((s.vers.drop i.toNat).all λ v=>aB v.cols),λ i=>n-i.toNat,y' rfl,?_⟩;rintro H3 l3 i ⟨h,h1,b⟩;have P:=aa L2 l3;refine⟨λ a=>?_,λ g=>?_⟩
 .have a:=aab a;obtain⟨z,x,_,j,⟨A',V,X,rfl,G,T,L⟩⟩:=q.at P h a;rw[ak h z,abr]at b;refine⟨x,h,a,_,_,_,_,_,j,_,rz L,?_⟩;rintro H4 l4 _ rfl;refine⟨λ o=>?_,λ o=>u' ⟨y' ?_,by dsimp only;omega⟩⟩
  .simp only[aay]at o;rw[b,o];simp
  .simp only[aaF]at o;rw[b,o,aaY]
 rw[ai (aac g) v2,ado]at b;rw[b,aaY];refine⟨_,rB (q.mono P) (oe b),?_⟩;rintro H4 l4 _ rfl;have Z:=aa P l4;refine⟨λ D=>by simp only[aay]at D;simp[D],λ D=>⟨_,df (hk.mono Z),?_⟩⟩;simp only[aaF]at D;rintro H5 l5 _ rfl;have M:=aa Z l5;refine⟨λ a6=>by grind,λ a6=>⟨_,iN (q.mono M) (hk.mono M),?_⟩⟩;rintro H6 l6 _ rfl;have L6:=aa M l6;refine⟨λ a7=>by grind,λ a7=>?_⟩;refine⟨λ i _=>0<=i/\i<=k/\(s.fks.all λ v=>lR s.vers v)=((s.fks.drop i.toNat).all _),λ i=>k-i.toNat,P' rfl,?_⟩;rintro H7 l7 i ⟨h,h1,b⟩;have Q:=aa L6 l7;refine⟨λ a=>?_,λ g=>?_⟩
 .have a:=aab a;obtain⟨z,x,_,j,⟨A',V,X,B',m',d',rfl,G,T,r3⟩⟩:=R.at Q h a;rw[ak h z]at b;refine⟨x,h,a,_,_,_,_,_,_,_,j,_,oa (q.mono Q) G r3,?_⟩;rintro H8 l8 _ rfl;refine⟨λ o=>?_,λ o=>u' ⟨y' ?_,by grind⟩⟩
  .grind
  simp_all
 rw[ai (aac g) f2,ado]at b;refine⟨λ i _=>0<=i/\i<=l/\(s.csts.all λ v=>jE s.vers v)=((s.csts.drop i.toNat).all _),λ i=>l-i.toNat,P' rfl,?_⟩;rintro H8 l8 i ⟨h,h1,b⟩;have L8:=aa Q l8;refine⟨λ a=>?_,λ g=>?_⟩
 .have a:=aab a;obtain⟨z,x,_,j,⟨A',V,X,rfl,G,T⟩⟩:=U.at L8 h a;rw[ak h z]at b;refine⟨x,h,a,_,_,_,_,j,_,od (q.mono L8) T,?_⟩;rintro H9 l9 _ rfl;refine⟨λ o=>?_,λ o=>u' ⟨y' ?_,by grind⟩⟩
  .grind
  simp_all
 rw[ai (aac g) c2]at b;grind
def jZ {a b:Int}{l:List cz}(i:Sl H A n c l):
  ZB 83 [.agg ⟨[Φi a,Φi b,.slice A n c]⟩] H ⟨false,[(true,[.int .i64,.int .i64,.sl])]⟩ (λ e g j d f h=>e=a/\g=b/\Sl h j d f l):=by
 refine ΦK 0 bE (λ d=>C ZT 140 [S A n c] H λ e f g h=>d a b f g h e) ?_;dsimp only[aQ,aR,C];refine⟨_,Cs i,?_⟩;simp
def og:dh:=⟨⟨0,0⟩,[]⟩
def cY (x:Int):List dh->Option dh
 |[]=>none
 | v::r=>if v.rc.lo<=x/\x<v.rc.hi then some v else cY x r
def kF {x:Int}(T:aV H nm A n c B m d E k e F l f s):
  ZB 33 [.agg ⟨[.string nm,.slice A n c,.slice B m d,.slice E k e,.slice F l f]⟩,Φi x] H ⟨true,[(true,[.int .i64,.int .i64,.sl]),(false,[.bool])]⟩
   (λ a b D y z Q Y=>Q=(cY x s.vers).isSome/\ae .i64 a/\ae .i64 b/\∃l,Sl Y D y z l/\(⟨⟨a,b⟩,l⟩:dh)=(cY x s.vers).getD og):=by
 refine ΦK 0 (aj [] [] [(2,[ag 11,.box 4 87 [.int .i64,.int .i64,.sl]])]) (λ a=>W Xw H (λ b=>b 0 0 0 none 0 0 H) λ b c d e f g h i j=>J (e<O n) (ΦX A e n (ΦE Xs d A (N e*3) (λ k l m o p=>let q:=ΦR (e+1)/\b (e+1) f g h i j d/\c (e+1) f g h i j<c e f g h i j;J (k<=x) (J (x<l) (C Yy 83 [ΦG [I k,I l,S m o p]] d (λ r s t u v w=>a s t u v w true r)) q) q))) (a 0 0 none 0 0 false d)) ?_;dsimp only[PL,aQ,aR,aW,eQ,C,ΦE,N,ΦR,W,ΦX,O,J];have v:=T.vers;have v1:=v.bn;have R:=v.len;refine⟨λ i _ _ _ _ _ _=>0<=i/\i<=n/\cY x s.vers=cY x (s.vers.drop i.toNat),λ i _ _ _ _ _=>n-i.toNat,P' rfl,?_⟩;rintro H2 w i _ _ _ _ _ ⟨q,h1,j⟩;refine⟨λ g=>?_,λ o=>?_⟩
 .have g:=aab g;obtain⟨U,P,_,t,⟨D,y,z,rfl,G,V,r⟩⟩:=v.at w q g;rw[ak q U,cY]at j;refine⟨P,q,g,_,_,_,_,_,t,λ p=>⟨λ u=>?_,λ u=>?_⟩,λ p=>?_⟩
  .rw[if_pos ⟨aab p,aab u⟩]at j;refine⟨_,jZ r,?_⟩;rintro Z l3 _ _ M L X ⟨rfl,rfl,h⟩;rw[j];exact⟨rfl,G,V,_,h,rfl⟩
  .rw[if_neg (λ h=>aac u h.2)]at j;exact u' ⟨y' j,by grind⟩
  .rw[if_neg (λ h=>aac p h.1)]at j;exact u' ⟨y' j,by grind⟩
 .rw[ai (aac o) R]at j;rw[j];exact⟨rfl,by simp[ae],by simp[ae],[],Sl.nil,rfl⟩
def aF:Int->List cz->Int
 | w,[]=>w
 | w,c::r=>aF (max w c.id) r
def aS:Int->List dh->Int
 | w,[]=>w
 | w,v::r=>aS (aF w v.cols) r
def width (s:bp):Int:=aS 0 s.vers
def oh (T:aV H nm A n c B m d E k e F l f s):
  ZB 106 [.agg ⟨[.string nm,.slice A n c,.slice B m d,.slice E k e,.slice F l f]⟩] H gL (λ r _=>r=width s/\ae .i64 r):=by
 refine ΦK 0 (aj [] [] [(3,[ag 3,ag 11]),(6,[ag 3,ag 18])]) (λ a=>W ZK H (λ b=>b 0 0 H) λ b c d e f=>J (f<O n) (ΦX A f n (ΦE Xs d A (N f*3) (λ g h i j k=>W ZK d (λ l=>l e 0 d) λ l m o p q=>J (q<O j) (ΦX i q j (ΦE Xq o i (N q*3) (λ r s t=>ΦR (q+1)/\l (max p r) (q+1) o/\m (max p r) (q+1)<m p q))) (ΦR (f+1)/\b p (f+1) o/\c p (f+1)<c e f)))) (a e d)) ?_;dsimp only[PL,aW,eQ,ΦE,N,ΦR,W,ΦX,O,J];have x:=T.vers;have v1:=x.bn;have R:=x.len;unfold width;refine⟨λ w i _=>0<=i/\i<=n/\ae .i64 w/\aS 0 s.vers=aS w (s.vers.drop i.toNat),λ _ i=>n-i.toNat,P' ⟨by simp[ae],rfl⟩,?_⟩;rintro H2 z w i ⟨t,h1,Q,q⟩;refine⟨λ a=>?_,λ o=>?_⟩
 .have a:=aab a;obtain⟨U,M,_,u,⟨A',D,Z,rfl,Y,r2,b⟩⟩:=x.at z t a;rw[ak t U,aS]at q;have d1:=b.bn;have G:=b.len;generalize s.vers[i.toNat].cols=L at q b G;refine⟨M,t,a,_,_,_,_,_,u,λ p j _=>0<=j/\j<=D/\ae _ p/\aF w _=aF p (L.drop j.toNat),λ _ j=>D-j.toNat,P' ⟨Q,rfl⟩,?_⟩;rintro H3 h p j ⟨y,X,P,C⟩;refine⟨λ g=>?_,λ v=>?_⟩
  .have g:=aab g;obtain⟨I,S,_,V,rfl,q1,q2,q3⟩:=b.at h y g;rw[ak y I]at C;exact⟨S,y,g,_,_,_,V,by omega,y' (T' C),by grind⟩
  .rw[ai (aac v) G,aF]at C;exact u' ⟨y' ⟨P,by grind⟩,by grind⟩
 .rw[ai (aac o) R,aS]at q;grind
end
end
end Go.Vc
