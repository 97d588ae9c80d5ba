/- A part of the proof. -/
import Derived.Test.YtnkineaffgkicaaGreatDoorH17
set_option maxHeartbeats 0
set_option maxRecDepth 100000
set_option linter.unusedVariables false
set_option linter.defProp false
set_option linter.unusedSimpArgs false
namespace Go.Vc
open Go Go.Shelf Go.Proofs
def lT (f:Int)(b a:List Kd):List Kd:=b.filter (λ x=> !decide (x.t.p.hi<=f))++a.takeWhile (λ x=>decide (x.t.p.lo=f))
def wI (f:Int)(a:List Kd):List Kd:=a.dropWhile (λ x=>decide (x.t.p.lo=f))
def jS:I'->List Kd->List Kd->List cT->List cT
 | f::t::ps,act,rest,out=>jS (t::ps) (lT f act rest) (wI f rest) (if 2<=(lT f act rest).length then cG out ⟨⟨f,t⟩,cN (lT f act rest)⟩else out)
 | _,_,_,out=>out
def oM (g:List Kd):List cT:=jS (points g) [] g []
def Hd {a b:List Kd}(h:a.Sublist b):(di a).length<=(di b).length:=by
 induction h with
 | slnil=>simp
 | cons x _ c=>simp[di,abe]at*;omega
 | cons_cons x _ c=>simp[di,abe]at*;omega
def jG (l:List cT)(v:cT):(cG l v).length<=l.length+1:=by
 unfold cG;grind
def xz {H:Heap}{g:Nat}{f:Int}(b:Cells H (some ⟨g,0,none⟩) 0 [Φi f]):
  kP Tryz.prog Kd H 172 (.pointer (some ⟨g,0,none⟩)) (λ x=>decide (x.t.p.hi<=f)):=by
 rintro i h t a ⟨E,k,e,A,n,c,B,m,d,rfl,-⟩;refine ΦK 0 bE (λ a=>ΦE ZE i (some ⟨g,0,none⟩) 0 λ b=>a (decide (t.t.p.hi<=b)) i) ?_;dsimp only[eQ,ΦE];exact⟨f,b.mono a,rfl⟩
def zF {H:Heap}{A:D'}{n c:Nat}{g:List Kd}(hs:Sl H A n c g)(hb:(di g).length*8<=140737488355328):
  ZB 117 [S A n c] H fi (λ A' n' c' H'=>Sl H' A' n' c' (oM g)):=by
 refine ΦK 6 {aj [24,61] [(10,ab 2 15 [0]),(14,ab 2 9 [21,22,25,26,0])] [(6,[.slot 3 false [.row 68 241],.slot 4 false [.row 69 198],ag 5,ag 7]),(10,[.slot 4 false [.row 70 198],ag 5])]with res:=wj [(24,⟨false,[(false,[.row 65 198])]⟩),(61,⟨false,[(false,[.row 66 3])]⟩),(63,⟨false,[(false,[.row 67 241])]⟩)],mt:=ir [] [171,173]} (λ a=>C ZT 170 [S A n c] H λ b d e f=>W XG b (λ g=>g 0 [] 0 [] 0 0 b) λ g h i j k l m o p=>ΦR (p+1)/\J (p+1<O e) (ΦX d p e (ΦE ZE i d (N p*1) (λ q=>∃r:G'->Nat->G'->Heap->Prop,(∀(s:Nat)(t:Heap),Heap.le i t->Cells t (some ⟨s,0,none⟩) 0 [I q]->dJ Tryz.prog 171 [S none 0 0,.func (.func 172) ⟨[]⟩ ⟨[.pointer (some ⟨s,0,none⟩)]⟩] 0 198 l m false t ⟨false,[(false,[.row 65 198])]⟩ r)/\∀(s:Heap)(t:G')(u:Nat)(v:G'),r t u v s->W ZG i (λ w=>w u v o i) λ w x y z a0 a1=>let a2:=J (2<=O z) (ΦR (p+1)/\ΦX d (p+1) e (ΦE ZE y d (N (p+1)*1) (λ a2=>∃a3:Nat->G'->Heap->Prop,U y a0 z (λ a4 a5 a6=>af Tryz.prog 174 [S a4 z a5] a6 ⟨false,[(false,[.row 66 3])]⟩ a3)/\∀(a4:Heap)(a5:Nat)(a6:G'),a3 a5 a6 a4->U y a6 a5 λ a7 a8 a9=>ZZ YG 173 [S none 0 0,ΦG [I q,I a2,S a7 a5 a8]] 0 241 j k false a9 λ b0 b1 b2 b3=>ΦR (p+1)/\g b2 b3 z a0 a1 (p+1) b0/\h b2 b3 z a0 a1 (p+1)<h j k l m o p))) (ΦR (p+1)/\g j k z a0 a1 (p+1) y/\h j k z a0 a1 (p+1)<h j k l m o p);J (a1<O n) (ΦX A a1 n (ΦE ZE y A (N a1*5+1+1+0) (λ a3=>J (a3=q) (ΦX A a1 n (ΦE Xn y A (N a1*5) (λ a4 a5 a6 a7 a8 a9 b0 b1 b2 b3 b4=>(z+1)*88<=M/\ΦR (a1+1)/\let b5:=a0++[Value.slice a4 a5 a6,S a7 a8 a9,I b0,I b1,S b2 b3 b4];w (z+1) b5 (a1+1) y/\x (z+1) b5 (a1+1)<x z a0 a1))) a2))) a2))) (U i k j (λ q r s=>a q j r s))) ?_;dsimp only[PL,aQ,aR,aW,eQ,C,ZZ,ΦE,M,N,ΦR,W,ΦX,O,J];have hl:=hs.len;have f8:n*88<=140737488355328:=hs.bnd;refine⟨_,xw hs,?_⟩;intro H1 l1 A3 n4 c5 hp;have f3:=hp.len;have e6:n4<=2*n:=by
  have b1:=dU (fT (ends g));rw[dw,qd,hl]at b1;have:(points g).length<=2*n:=b1;omega
 refine⟨λ k1 c0 k2 b2 Z i H'=>0<=i/\0<=Z/\Z<=n/\∃(d:List cT) (s:List Kd),Row H' c0 d/\d.length=k1/\Row H' b2 s/\s.length=k2/\d.length<=i.toNat/\i<=n4/\s.Sublist (g.take Z.toNat)/\
   oM g=jS ((points g).drop i.toNat) s (g.drop Z.toNat) d,
  λ _ _ _ _ _ i=>n4-i.toNat,J' ⟨[],[],rfl,rfl,rfl,rfl,N' (u' (N' (by simp[oM])))⟩,?_⟩
 rintro H9 l9 k1 c0 k2 b2 Z i ⟨i0,c8,d5,d,s,ho,z,ha,d0,f2,f7,R,P⟩;have b4:=hp.mono l9;have e0:=hs.mono (aa l1 l9);refine u' ⟨λ a0=>?_,λ f6=>?_⟩
 .have a0:=aab a0;obtain⟨hi,hA,_,hc,⟨rfl,b8⟩⟩:=b4.at (ah H9) i0 (by omega);obtain⟨f1,b6,_,a5,⟨rfl,Y⟩⟩:=b4.at (ah H9) (i:=i+1) (by omega) a0;have e1:(i+1).toNat=i.toNat+1:=by omega
  have T:i.toNat+1<(points g).length:=by omega
  have b9:(points g).drop i.toNat=(points g)[i.toNat]::(points g)[i.toNat+1]::(points g).drop (i.toNat+1+1):=by
   rw[aas hi,aas T]
  have B:(points g).drop (i.toNat+1)=(points g)[i.toNat+1]::(points g).drop (i.toNat+1+1):=aas T;simp only[e1]at a5 Y;generalize hf:(points g)[i.toNat]=f at*;generalize ht:(points g)[i.toNat+1]=t at*;rw[b9,jS]at P;refine⟨hA,i0,by omega,_,hc,_,λ f0 f5 d2 c2=>Bi (H0:=H9) d2 ha d0 (by have:=R.length_le;rw[aaE]at this;omega) (xz c2),?_⟩;rintro f4 _ f9 e5 ⟨rfl,hd⟩;refine⟨λ k xs b H'=>0<=b/\b<=n/\∃a:List Kd,Row H' xs a/\a.length=k/\a.Sublist (g.take b.toNat)/\lT f s (g.drop Z.toNat)=a++(g.drop b.toNat).takeWhile (λ x=>decide (x.t.p.lo=f))/\
    wI f (g.drop Z.toNat)=(g.drop b.toNat).dropWhile (λ x=>decide (x.t.p.lo=f)),
   λ _ _ b=>n-b.toNat,⟨c8,d5,_,hd,rfl,aci.trans R,rfl,rfl⟩,?_⟩
  rintro e7 j b0 e4 b ⟨m0,m1,a,m,o,l,h,e⟩;have d7:=l.length_le;rw[aaE]at d7;have g0:(di a).length<=(di g).length:=Hd (l.trans (ach _ _));refine ΦD (λ Q=>?_) λ Q=>?_
  .obtain⟨hj,hB,_,a7,V⟩:=e0.at j m0 Q;obtain⟨E9,k9,e9,A9,n9,c9,B9,m9,d9,rfl,q⟩:=id V;have L:g.drop b.toNat=g[b.toNat]::g.drop (b.toNat+1):=aas hj;rw[L]at h e;have e2:(b+1).toNat=b.toNat+1:=by omega
   refine⟨hB,m0,Q,g[b.toNat].t.p.lo,a7.cy (k:=2) rfl,ΦD (λ b7=>?_) λ a6=>?_⟩
   .rw[abw,if_pos (by simpa using b7)]at h;rw[abx,if_pos (by simpa using b7)]at e;refine⟨hB,m0,Q,_,_,_,_,_,_,_,_,_,_,_,a7,y' ⟨y' ⟨a++[g[b.toNat]],m.append ⟨_,[],by simp,V,rfl⟩,by simp[o],?_,?_,?_⟩,by dsimp only;omega⟩⟩
    .rw[e2,aaj hj];exact l.append (aex _)
    .rw[e2,h];simp
    .rw[e2,e]
   .rw[abw,if_neg (by simpa using a6),aar]at h;rw[abx,if_neg (by simpa using a6),<-L]at e;rw[h,e]at P;refine ΦD (λ h2=>?_) λ h2=>?_
    .rw[if_pos (by omega)]at P;refine u' ⟨b6,y' ⟨t,by rw[e1];exact a5.mono j,_,λ e3 c7 d4 X D F=>wC (r:=66) (m.sl X D o F (by show b0*88<=_;omega) (by omega)) (by omega),?_⟩⟩;rintro c6 _ a8 ⟨rfl,hm⟩;intro c4 c1 G y w E;obtain⟨a4,a2⟩:=qS hm;have u:=dU (fT (di a++[]));rw[dw,aar]at u;have u:(cN a).length<=(di a).length:=by unfold cN cx;rw[aar];exact u
     have a3:Sl G c4 (cN a).length c1 (cN a):=Row.sl (H:=G) (a4▸nO a2) (ah G) w rfl E (by show _*8<=_;omega) (by omega);refine⟨_,wD (r:=67) (v:=⟨⟨f,t⟩,cN a⟩) ((ho.mono j).mono y) z (by omega) b8 Y a3,?_⟩;rintro d6 a1 _ d3 c3 ⟨rfl,hx⟩;have d1:=jG d ⟨⟨f,t⟩,cN a⟩;exact u' ⟨u' ⟨m0,m1,_,a,hx,rfl,(m.mono y).mono a1,o,y' ⟨l,by rw[e1,B];exact P⟩⟩,by dsimp only;omega⟩
    .rw[if_neg (by omega)]at P;exact u' ⟨u' ⟨m0,m1,d,a,ho.mono j,z,m,o,y' ⟨l,by rw[e1,B];exact P⟩⟩,by dsimp only;omega⟩
  .have L:g.drop b.toNat=[]:=aaN (by omega);rw[L]at h e;simp only[List.takeWhile_nil,aar,List.dropWhile_nil]at h e;rw[<-L]at e;rw[h,e]at P;refine⟨λ h2=>?_,λ h2=>?_⟩
   .have h2:=aab h2;rw[if_pos (by omega)]at P;refine u' ⟨b6,y' ⟨t,by rw[e1];exact a5.mono j,_,λ e3 c7 d4 X D F=>wC (r:=66) (m.sl X D o F (by show b0*88<=_;omega) (by omega)) (by omega),?_⟩⟩;rintro c6 _ a8 ⟨rfl,hm⟩;intro c4 c1 G y w E;obtain⟨a4,a2⟩:=qS hm;have u:=dU (fT (di a++[]));rw[dw,aar]at u;have u:(cN a).length<=(di a).length:=by unfold cN cx;grind
    have a3:=Row.sl (H:=G) (a4▸nO a2) (ah _) w rfl E (by show _*8<=_;omega) (by omega);refine⟨_,wD (r:=67) (v:=⟨⟨f,t⟩,cN _⟩) ((ho.mono j).mono y) z (by omega) b8 Y a3,?_⟩;rintro d6 a1 _ d3 c3 ⟨rfl,hx⟩;have d1:=jG d ⟨⟨f,t⟩,cN a⟩;exact u' ⟨u' ⟨m0,m1,_,a,hx,rfl,(m.mono y).mono a1,o,y' ⟨l,by grind⟩⟩,by grind⟩
   .exact u' ⟨u' ⟨m0,m1,d,a,ho.mono j,z,m,o,y' ⟨l,by grind⟩⟩,by grind⟩
 .intro A9 c9 e8 d8 b3 a9;have b5:oM g=d:=by
   rw[P];have:((points g).drop i.toNat).length<=1:=by grind
   match(points g).drop _,this with
   |[],_=>rfl
   |[x],_=>rfl
  rw[b5];exact ho.sl d8 b3 z a9 (by show k1*40<=_;omega) (by omega)
def bH (k x:Kd):Bool:=decide (bK x.key k.key=0)
def sJ:Nat->List Kd->List cT
 | 0,_=>[]
 | _+1,[]=>[]
 | f+1,k::r=>(if 2<=(k::r.takeWhile (bH k)).length then oM (k::r.takeWhile (bH k))else[])++sJ f (r.dropWhile (bH k))
def ka (g:List Kd):List cT:=sJ g.length g
def ku {T:Type}(p:T->Bool):∀l:List T,(l.dropWhile p).length<=l.length
 |[]=>aaB _
 | x::l=>by
  rw[abx];split
  .have:=ku p l;grind
  simp
def wJ:∀(f a:Nat) (g:List Kd),g.length<=f->g.length<=a->sJ f g=sJ a g
 | 0,a,g,h,_=>by
  have:g=[]:=aal (by omega);subst this;cases a<;>rfl
 | f+1,0,g,_,h=>by
  have:g=[]:=aal (by omega);subst this;rfl
 | f+1,a+1,[],_,_=>rfl
 | f+1,a+1,k::r,h,h'=>by
  have:=ku (bH k) r;simp at h h';rw[sJ,sJ,wJ f a _ (by omega) (by omega)]
def zG (k:Kd)(r:List Kd):ka (k::r)=(if 2<=(k::r.takeWhile (bH k)).length then oM (k::r.takeWhile (bH k))else[])++ka (r.dropWhile (bH k)):=by
 unfold ka;have:=ku (bH k) r;rw[aav,sJ,wJ _ _ _ this (aaB _)]
def zH:∀(d:I') (c a:List Kd) (b:List cT),(jS d c a b).length<=b.length+d.length
 |[],_,_,b=>by simp[jS]
 |[x],_,_,b=>by simp[jS]
 | f::t::d,c,a,b=>by
  rw[jS];have h:=zH (t::d) (lT f c a) (wI f a) (if 2<=(lT f c a).length then cG b ⟨⟨f,t⟩,cN (lT f c a)⟩else b);have e:(if 2<=(lT f c a).length then cG b ⟨⟨f,t⟩,cN (lT f c a)⟩else b).length<=b.length+1:=by
   split
   .exact jG _ _
   simp
  grind
def Nd (g:List Kd):(oM g).length<=2*g.length:=by
 have h:=zH (points g) [] g [];have a:=dU (fT (ends g));rw[dw,qd]at a;have:(points g).length<=2*g.length:=a;unfold oM;grind
def aG (l:List aO):I':=l.flatMap λ t=>t.lin
def zI:∀(l:List aO) (a:I'),(di (bZ l a)).length<=(aG l).length
 |[],_=>by simp[di,bZ]
 | t::l,a=>by
  have b:=zI l a;simp[di,bZ,aG]at*;grind
def Nf {a b:List Kd}(h:a.Perm b):(di a).length=(di b).length:=(h.flatMap_right _).length_eq
def oN {H:Heap}{A B:D'}{n c m d:Nat}{l:List aO}{D:I'}(hs:Sl H A n c l)(ht:Sl H B m d D)(hb:m*32<=140737488355328)(hn:n<=5000)(c1:(aG l).length*8<=140737488355328):
  ZB 65 [S A n c,S B m d] H fi (λ A' n' c' H'=>∃g:List Kd,g.Perm (bZ l D)/\g.Pairwise (λ a b=>¬qa b a<0)/\Sl H' A' n' c' (ka g)):=by
 refine ΦK 1 (aj [28] [(5,ab 2 14 [31,32,34,0])] [(3,[.slot 5 false [.row 45 241],.slot 6 false [.sl]]),(5,[ag 7])]) (λ a=>C ZT 115 [S A n c,S B m d] H λ b e f g=>W XH b (λ h=>h 0 [] e f g b) λ h i j k l o p q=>J (0<O p) (W ZE j (λ r=>r 1 j) (λ r s t u=>let v:=λ v=>J (2<=u) ((0:Int)<=0/\0<=u/\u<=O q/\(∀w:D',w=eM o q (N 0) 5->C ZT 117 [S w (N u-N 0) (q-N 0)] v λ x y z a0=>∃a1:G',Cells x y 0 a1/\L a1=z*3/\(k+z)*40<=M/\0<=u/\u<=O p/\O p<=O q/\∀a2:D',a2=eM o q (N u) 5->h (k+z) (l++a1) a2 (N (O p)-N u) (q-N u) x/\i (k+z) (l++a1) a2 (N (O p)-N u) (q-N u)<i k l o p q)) (0<=u/\u<=O p/\O p<=O q/\(∀w:D',w=eM o q (N u) 5->h k l w (N (O p)-N u) (q-N u) v/\i k l w (N (O p)-N u) (q-N u)<i k l o p q));J (u<O p) (ΦX o u p (ΦE ZM t o (N u*5+0) (λ w x y=>ΦX o 0 p (ΦE ZM t o (N 0*5+0) (λ z a0 a1=>C ZP 116 [S w x y,S z a0 a1] t λ a2 a3=>J (a3=0) (ΦR (u+1)/\r (u+1) a2/\s (u+1)<s u) (v a2)))))) (v t))) (U j l k (λ r s t=>a r k s t))) ?_;dsimp only[PL,aQ,aR,aW,eQ,C,ΦE,L,M,N,ΦR,W,ΦX,O,J];refine⟨_,Jt hs ht hb hn,?_⟩;rintro H1 l1 A3 n4 c5 ⟨g,hg,a1,b9⟩;have c3:=hg.len;have c2:g.length<=n:=by rw[a1.length_eq,<-hs.len];exact kU _ _
 have d2:(di g).length*8<=140737488355328:=by have:=Nf a1;have:=zI l D;omega
 refine⟨λ k xs A n' c H'=>∃(f:List cT) (e:List Kd),Row H' xs f/\f.length=k/\Sl H' A n' c e/\e.Sublist g/\f.length+2*e.length<=2*g.length/\ka g=f++ka e,
  λ _ _ _ n' _=>n',⟨[],g,rfl,rfl,hg,aex _,N' (by simp)⟩,?_⟩
 rintro H9 l9 k xs Q h p ⟨f,e,ho,a0,hr,V,b4,X⟩;have a7:=hr.len;have c7:=hr.cap;refine ΦD (λ c4=>?_) λ d0=>?_
 .obtain⟨o,r,rfl⟩:∃o r,e=o::r:=by
   cases e with
   | nil=>simp at a7;omega
   | cons o r=>exact⟨o,r,rfl⟩
  simp only[aav]at a7 b4;rw[zG]at X;refine⟨λ j _=>1<=j/\j<=h/\r.takeWhile (bH o)=r.take (j.toNat-1)++(r.drop (j.toNat-1)).takeWhile (bH o)/\r.dropWhile (bH o)=(r.drop (j.toNat-1)).dropWhile (bH o),
   λ j=>h-j.toNat,y' (N' (by simp)),?_⟩
  rintro a4 Z j ⟨j1,jn,hT,R⟩;have w:=hr.mono Z;have T:∀{s:Heap},Heap.le a4 s->r.takeWhile (bH o)=r.take (j.toNat-1)->r.dropWhile (bH o)=r.drop (j.toNat-1)->
    (decide ((2)<=j)=true->(0:Int)<=(0)/\(0)<=j/\j<=(↑p)/\∀(a3:D'),a3=eM Q p (Int.toNat (0)) (5)->∃(u:D'->Nat->Nat->Heap->Prop),ZB 117 [S a3 (Int.toNat j-Int.toNat (0)) (p-Int.toNat (0))] s fi u/\∀(v:Heap),Heap.le s v->∀(a2:D') (E a5:Nat),u a2 E a5 v->∃(G:G'),Cells v a2 (0) G/\List.length G=E*(3)/\(k+E)*(40)<=(140737488355328)/\(0)<=j/\j<=(↑h)/\((h:Nat):Int)<=(↑p)/\∀(P:D'),P=eM Q p (Int.toNat j) (5)->
     (∃(f:List cT) (e:List Kd),Row v (xs++G) f/\f.length=k+E/\Sl v P (Int.toNat (↑h)-Int.toNat j) (p-Int.toNat j) e/\e.Sublist g/\f.length+2*e.length<=2*g.length/\ka g=f++ka e)/\(Int.toNat (↑h)-Int.toNat j)<h)/\
    (decide ((2)<=j)=false->(0:Int)<=j/\j<=(↑h)/\((h:Nat):Int)<=(↑p)/\∀(b0:D'),b0=eM Q p (Int.toNat j) (5)->
     (∃(f:List cT) (e:List Kd),Row s xs f/\f.length=k/\Sl s b0 (Int.toNat (↑h)-Int.toNat j) (p-Int.toNat j) e/\e.Sublist g/\f.length+2*e.length<=2*g.length/\ka g=f++ka e)/\(Int.toNat (↑h)-Int.toNat j)<h):=by
   intro s y e1 e2;have I:=w.mono y;have F:((o::r).drop j.toNat).Sublist g:=(acL _ _).trans V;have t:(o::r).drop j.toNat=r.drop (j.toNat-1):=by
    rw[show j.toNat=(j.toNat-1)+1 by omega,aef,aep]
   have a9:(o::r).take j.toNat=o::r.take (j.toNat-1):=by
    rw[show j.toNat=(j.toNat-1)+1 by omega,acy,aep]
   rw[e1,e2]at X;have a6:(o::r.take (j.toNat-1)).length=j.toNat:=by simp only[aav,aaE];omega
   refine ΦD (λ h2=>?_) λ h2=>?_
   .rw[if_pos (by omega)]at X;refine J' ?_;rintro a3 rfl;have a8:Sl s (eM Q p (Int.toNat 0) 5) (Int.toNat j-Int.toNat 0) (p-Int.toNat 0) (o::r.take (j.toNat-1)):=by
     have:=(I.take (k:=j.toNat) (by omega)).drop (k:=0) (by omega);rw[a9,abN]at this;exact this
    refine⟨_,zF a8 (by have:=Hd ((ach j.toNat (o::r)).trans V);rw[a9]at this;omega),?_⟩;intro v b1 a2 E a5 x;obtain⟨ys,y1,y2⟩:=x.row;have c0:=Nd (o::r.take (j.toNat-1));rw[x.len,a6]at c0;refine⟨ys,y1,by rw[y2.length,x.len];rfl,M' ?_⟩;rintro P rfl;refine⟨⟨f++oM (o::r.take (j.toNat-1)),(o::r).drop j.toNat,(ho.mono (aa Z (aa y b1))).append y2,by rw[aae,x.len,a0],?_,F,?_,?_⟩,by omega⟩
    .exact(I.mono b1).drop (k:=j.toNat) (by omega)
    .rw[aae,x.len,abb,aav];omega
    .rw[X,t,aat]
   .rw[if_neg (by omega),abO]at X;refine J' ?_;rintro P rfl;refine⟨⟨f,(o::r).drop j.toNat,ho.mono (aa Z y),a0,I.drop (k:=j.toNat) (by omega),F,?_,?_⟩,by omega⟩
    .rw[abb,aav];omega
    .rw[X,t]
  refine ΦD (λ Y=>?_) λ Y=>?_
  .obtain⟨hj,hA,_,hc,⟨E9,k9,e9,A9,n9,c9,B9,m9,d9,rfl,q,-⟩⟩:=w.at (ah _) (i:=j) (by omega) Y;obtain⟨d1,b5,_,b7,⟨E8,k8,e8,A8,n8,c8,B8,m8,d8,rfl,q0,-⟩⟩:=w.at (ah a4) (i:=0) (by simp) (by omega);have b3:j.toNat-1<r.length:=by omega
   have b2:(o::r)[j.toNat]=r[j.toNat-1]:=by
    grind
   have t:=aas b3;rw[t]at hT R;rw[b2]at q;refine⟨hA,by omega,Y,_,_,_,hc.cy (k:=0) rfl,b5,by simp,by omega,_,_,_,b7.cy (k:=0) rfl,_,cL q q0,?_⟩;rintro s y _ rfl;refine⟨λ hz=>?_,λ hz=>?_⟩
   .have hz:=aab hz;have z:bH o r[j.toNat-1]=true:=by
     simp[bH];grind
    rw[abw,if_pos z]at hT;rw[abx,if_pos z]at R;have e3:(j+1).toNat-1=j.toNat-1+1:=by omega
    refine⟨by simp[ae];grind,y' ⟨?_,?_⟩,by grind⟩
    .grind
    grind
   .have z:¬bH o r[j.toNat-1]=true:=by
     simp[bH];grind
    rw[abw,if_neg z,aar]at hT;rw[abx,if_neg z,<-t]at R;exact T y hT R
  .have t:r.drop (j.toNat-1)=[]:=aaN (by omega);rw[t]at hT R;simp at hT R;rw[<-t]at R;exact T (ah _) hT R
 .have:e=[]:=aal (by omega);subst this;intro A5 c6 H6 l6 b6 b8;rw[show ka []=[]from rfl,aar]at X;refine⟨g,a1,b9,?_⟩;rw[X];exact ho.sl l6 b6 a0 b8 (by show k*40<=_;omega) (by omega)
def JB {H:Heap}{A B:D'}{n c m d:Nat}{l:List aO}{e:I'}(p:Sl H A n c l)(i:Sl H B m d e)(j:m*32<=140737488355328)(q:n<=5000)(f:(aG l).length*8<=140737488355328):
  ZB 22 [S A n c,S B m d] H fg (λ r _=>∃g:List Kd,g.Perm (bZ l e)/\g.Pairwise (λ a b=>¬qa b a<0)/\r=decide ((ka g).length=0)):=by
 refine ΦK 0 bE (λ a=>C ZT 65 [S A n c,S B m d] H λ b e f g=>a (decide (O f=0)) b) ?_;dsimp only[aQ,aR,C,O];refine⟨_,oN p i j q f,?_⟩;rintro t w v s u ⟨g,k,h,o⟩;refine⟨g,k,h,?_⟩;rw[o.len];simp
section
variable {a:Int}{b:Heap}
def Zp (r:Int):ByteArray:=if r=0 then⟨#[]⟩else if r=1 then⟨#[97]⟩else⟨#[98,39]⟩
def Ll (x:Int):az:=if x.tmod 7=6 then gg else⟨1,x.tmod 3-1,⟨#[]⟩⟩
def Lm (x:Int):az:=if x.tmod 7=6 then gg else⟨2,0,Zp (x.tmod 3)⟩
def CA (h:0<=a):a.tmod 3=0\/a.tmod 3=1\/a.tmod 3=2:=by
 grind
def rW:ZB 123 [Φi a] b uY (λ k m s _=>k=1/\m=a/\s=⟨#[]⟩):=by
 refine ΦK 0 bE (λ c=>c 1 a ⟨⟨[]⟩⟩ b) ?_;simp
def Hf (c:0<=a):ZB 70 [Φi 0,Φu a] b uY (λ k n s _=>(⟨k,n,s⟩:az)=Ll a):=by
 refine ΦK 0 bE (λ c=>(7:Int)≠0/\J (Int.tmod a 7=6) (c 0 0 ⟨⟨[]⟩⟩ b) ((2:Int)≠0/\J (Int.tmod (0:Int) 2=0) ((3:Int)≠0/\(∃d:Int,IntKind.wrap IntKind.i64 (Int.tmod a 3)=d/\ΦR (d-1)/\C ZU 123 [I (d-1)] b λ e f g h=>c f g h e)) ((3:Int)≠0/\ΦY (Int.tmod a 3) 3 (ΦF Xr [ΦT ⟨⟨[]⟩⟩,ΦT {data:=⟨[(97:UInt8)]⟩},ΦT {data:=⟨[(98:UInt8),(39:UInt8)]⟩}] (N (Int.tmod a 3)*1) 1 (λ d=>c 2 0 d b))))) ?_;dsimp only[aQ,aR,eQ,C,ΦF,N,ΦR,ΦY,J];refine N' ⟨λ h=>?_,λ h=>N' ⟨λ _=>N' ?_,λ h=>absurd h (by simp)⟩⟩
 .have h:=aab h;simp[Ll,h,gg]
 .have h:=aac h;rcases CA c with e | e | e<;>rw[e]<;>refine⟨_,rfl,by decide,_,rW,?_⟩<;>rintro d _ _ _ _ ⟨rfl,rfl,rfl⟩<;>simp[Ll,if_neg h,e]<;>rfl
def Hg (c:0<=a):ZB 70 [Φi 1,Φu a] b uY (λ k n s _=>(⟨k,n,s⟩:az)=Lm a):=by
 refine ΦK 0 bE (λ c=>(7:Int)≠0/\J (Int.tmod a 7=6) (c 0 0 ⟨⟨[]⟩⟩ b) ((2:Int)≠0/\J (Int.tmod (1:Int) 2=0) ((3:Int)≠0/\(∃d:Int,IntKind.wrap IntKind.i64 (Int.tmod a 3)=d/\ΦR (d-1)/\C ZU 123 [I (d-1)] b λ e f g h=>c f g h e)) ((3:Int)≠0/\ΦY (Int.tmod a 3) 3 (ΦF Xr [ΦT ⟨⟨[]⟩⟩,ΦT {data:=⟨[(97:UInt8)]⟩},ΦT {data:=⟨[(98:UInt8),(39:UInt8)]⟩}] (N (Int.tmod a 3)*1) 1 (λ d=>c 2 0 d b))))) ?_;dsimp only[aQ,aR,eQ,C,ΦF,N,ΦR,ΦY,J];refine N' ⟨λ h=>?_,λ h=>N' ⟨λ h=>absurd h (by simp),λ _=>N' ?_⟩⟩
 .have h:=aab h;simp[Lm,h,gg]
 .have h:=aac h;rcases CA c with e | e | e<;>rw[e]<;>refine (P' ⟨_,rfl,?_⟩)<;>simp only[Lm,if_neg h,e]<;>rfl
def Ln {n:Int}{s:ByteArray}{v:az}(h:(⟨a,n,s⟩:az)=v):a=v.kind/\n=v.n/\s=v.s:=by grind
def Ue (b:0<=a):ae .i64 (Ll a).kind/\ae .i64 (Ll a).n/\str (Ll a).s:=by
 unfold Ll;split
 .exact⟨by decide,by decide,by unfold str gg;decide⟩
 .refine⟨(by grind),?_,(by unfold str;decide:str ⟨#[]⟩)⟩;grind
def Uf (b:0<=a):ae .i64 (Lm a).kind/\ae .i64 (Lm a).n/\str (Lm a).s:=by
 unfold Lm;split
 .exact⟨by decide,by decide,by unfold str gg;decide⟩
 .rcases CA b with e | e | e<;>simp[e]<;>unfold str Zp<;>decide
def Nh {y:Int}{H:Heap}(d:0<=a)(b:0<=y):ZB 58 [Φu a,Φu y] H fi (λ A n c f=>Sl f A n c [Ll a,Lm y]):=by
 refine ΦK 0 bE (λ b=>C ZU 70 [I 0,.int .u16 a] H λ c d e f=>C ZU 70 [I 1,.int .u16 y] c λ g h i j=>U g [I d,I e,ΦT f,I h,I i,ΦT j] 2 λ k l m=>b k 2 l m) ?_;dsimp only[aQ,aR,C];refine⟨_,Hf d,?_⟩;intro m o k n s h;obtain⟨rfl,rfl,rfl⟩:=Ln h;refine⟨_,Hg b,?_⟩;intro j p k n s h;obtain⟨rfl,rfl,rfl⟩:=Ln h;intro A c e q g i;exact Row.sl (H:=e) (T:=az) (l:=[Ll a,Lm y]) ⟨[_,_,_],[_,_,_],rfl,⟨rfl,Ue d⟩,[_,_,_],[],rfl,⟨rfl,Uf b⟩,rfl⟩ (ah e) g rfl i (by decide) (by simp)
end
end Go.Vc
namespace Go.Vc
open Go Go.Proofs
section
variable {a:ByteArray}{b:Heap}
def jP (c:Int):Bool:=decide (97<=c)&&decide (c<=122)||decide (48<=c)&&decide (c<=57)||decide (c=95)
def TZ (s:ByteArray)(f:Int->Bool):Bool:=(List.range s.size).all λ i=>f (lY s i)
def bq (s:ByteArray):Bool:=decide (1<=s.size)&&decide (s.size<=20)&&decide (97<=lY s 0)&&decide (lY s 0<=122)&&TZ s jP
def GY {f:Int->Bool}:TZ a f=true↔∀i:Int,0<=i->i<a.size->f (lY a i)=true:=by
 unfold TZ;simp;exact⟨λ h i c b=>by have:=h i.toNat (by omega);grind,λ h i d=>h i (by simp) (by omega)⟩
def vk {c:Int}:ZB 423 [.int .u8 c] b ⟨false,[(false,[.bool])]⟩ (λ a _=>a=jP c):=by
 refine ΦK 0 bE (λ a=>let d:=J (48<=c) (J (c<=57) (a true b) (a (decide (c=95)) b)) (a (decide (c=95)) b);J (97<=c) (J (c<=122) (a true b) d) d) ?_;dsimp only[J];grind[jP]
def iM:ZB 325 [ΦT a] b ⟨false,[(false,[.bool])]⟩ (λ c _=>c=bq a):=by
 refine ΦK 0 (aj [31] [] [(4,[ag 3])]) (λ c=>J (O (ByteArray.size a)<1) (c false b) (J (20<O (ByteArray.size a)) (c false b) (ΦY 0 (ByteArray.size a) (J (lY a 0<(97:Int)) (c false b) (ΦY 0 (ByteArray.size a) (J ((122:Int)<lY a 0) (c false b) (W ZE b (λ d=>d 1 b) (λ d e f g=>J (g<O (ByteArray.size a)) (ΦY g (ByteArray.size a) (C ZO 423 [.int .u8 (lY a g)] f (λ h i=>ΦQ (!i) (c false h) (ΦR (g+1)/\d (g+1) h/\e (g+1)<e g)))) (c true f))))))))) ?_;dsimp only[PL,aQ,aR,aW,C,ΦQ,ΦR,W,ΦY,O,J];have l:= @GY a jP;simp only[aad,aaf];refine⟨λ h=>by grind[bq],λ h=>⟨λ h=>by grind[bq],λ h=>⟨by simp,by omega,λ h=>by grind[bq],λ h=>⟨by simp,by omega,λ h=>by grind[bq],λ h=>
  ⟨λ n _=>1<=n/\n<=a.size/\∀i:Int,0<=i->i<n->jP (lY a i)=true,λ n=>a.size-n.toNat,N' (u' ?_),?_⟩⟩⟩⟩⟩
 .grind[jP]
 .intro e _ n ⟨j,g,k⟩;refine⟨λ d=>u' ⟨d,_,vk,?_⟩,λ h=>by grind[bq]⟩;rintro f _ c rfl;refine⟨λ h=>?_,λ h=>⟨?_,y' ?_,by grind⟩⟩
  .grind[bq]
  .omega
  grind
def jQ:ZB 150 [ΦT a] b ⟨false,[(false,[.bool])]⟩ (λ c _=>c=bq a):=by
 refine ΦK 0 (aj [] [] [(4,[ag 3])]) (λ c=>J (O (ByteArray.size a)=0) (c false b) (J (20<O (ByteArray.size a)) (c false b) (ΦY 0 (ByteArray.size a) (J (lY a 0<(97:Int)) (c false b) (ΦY 0 (ByteArray.size a) (J ((122:Int)<lY a 0) (c false b) (W ZE b (λ d=>d 0 b) (λ d e f g=>J (g<O (ByteArray.size a)) (ΦY g (ByteArray.size a) (let h:=ΦR (g+1)/\d (g+1) f/\e (g+1)<e g;let i:=let i:=V (lY a g=(95:Int)) (c false f) h;J (lY a g<(48:Int)) i (J ((57:Int)<lY a g) i h);J (lY a g<(97:Int)) i (J ((122:Int)<lY a g) i h))) (c true f))))))))) ?_;dsimp only[PL,aW,ΦR,W,ΦY,O,V,J];have m:= @GY a jP;simp only[aad,aaf];refine⟨λ h=>by grind[bq],λ h=>⟨λ h=>by grind[bq],λ h=>⟨by omega,by omega,λ h=>by grind[bq],λ h=>⟨by omega,by omega,λ h=>by grind[bq],λ h=>
  ⟨λ n _=>0<=n/\n<=a.size/\∀i:Int,0<=i->i<n->jP (lY a i)=true,λ n=>a.size-n.toNat,y' (by omega),?_⟩⟩⟩⟩⟩
 .intro e _ n ⟨j,g,l⟩;refine⟨λ d=>u' ⟨d,?_⟩,λ h=>by grind[bq]⟩;have k:ae .i64 (n+1):=by omega
  have f:jP (lY a n)=false->bq a=false:=by grind[bq]
  repeat' (first | apply And.intro | intro _)
  all_goals grind[jP]
end
section
variable {a:Heap}{b d:Nat}{c:D'}{e:Int}{f:List cz}{g:ByteArray}{h:I'}{i:cz}
def Ea (H:Heap)(f:FuncId)(q:Value)(p:cz->Bool):Prop:=∀(a:Heap) (c:cz),Heap.le H a->af Tryz.prog f [.agg ⟨[.int .i64 c.id,.string c.name,.int .i64 c.kind]⟩,q] a fg (λ b _=>b=p c)
def je {e:FuncId}{q:Value}{p:cz->Bool}(o:Sl a c b d f)(v:Ea a e q p):
  ZB 333 [S c b d,.func (.func e) #[] #[q]] a gL (λ r _=>r=idxOf p 0 f):=by
 refine ΦK 0 (aj [16] [] [(2,[ag 8])]) (λ d=>W ZE a (λ f=>f 0 a) λ f g h i=>J (i<O b) (ΦX c i b (ΦE Xq h c (N i*3) (λ j k l=>C ZO e [ΦG [I j,ΦT k,I l],q] h λ m n=>ΦQ n (d i m) (ΦR (i+1)/\f (i+1) m/\g (i+1)<g i)))) (d (-1) h)) ?_;dsimp only[PL,aQ,aR,aW,eQ,C,ΦE,N,ΦQ,ΦR,W,ΦX,O,J];refine⟨λ b _=>0<=b/\b<=f.length/\idxOf p 0 f=idxOf p b (f.drop b.toNat),λ b=>f.length-b.toNat,P' rfl,?_⟩;rintro B j i ⟨m,z,s⟩;simp only[aad,aaf];refine⟨λ h=>?_,λ k=>?_⟩
 .obtain⟨w,t,_,x,rfl,-⟩:=o.at j m h;refine⟨t,m,h,_,_,_,x,_,v _ _ j,?_⟩;rintro y _ g rfl;rw[ak m w,idxOf]at s;refine⟨λ u=>?_,λ u=>⟨?_,y' ?_,by omega⟩⟩
  .grind
  .have:=o.bn;grind
  grind
 .rw[ai k o.len,idxOf]at s;grind
def vl {e:FuncId}{q:Value}{p:cz->Bool}(h:Sl a c b d f)(g:Ea a e q p):
  ZB 424 [S c b d,.func (.func e) #[] #[q]] a fg (λ r _=>r=f.any p):=by
 refine ΦK 0 (aj [7] [] []) (λ f=>C ZP 333 [S c b d,.func (.func e) ⟨[]⟩ ⟨[q]⟩] a λ g h=>f (decide (0<=h)) g) ?_;dsimp only[aQ,aR,C];refine⟨_,je h g,?_⟩;rintro i _ r rfl;rw[aaH,aad];exact eU p f 0 (by simp)
def MW (m:Sl a c b d h):
  ZB 274 [S c b d,Φi e] a gL (λ r _=>r=idxOf (λ y=>decide (e=y)) 0 h):=by
 refine ΦK 0 (aj [] [] [(2,[ag 8])]) (λ d=>W ZE a (λ f=>f 0 a) λ f g h i=>J (i<O b) (ΦX c i b (ΦE ZE h c (N i*1) (λ j=>J (e=j) (d i h) (ΦR (i+1)/\f (i+1) h/\g (i+1)<g i)))) (d (-1) h)) ?_;dsimp only[PL,aW,eQ,ΦE,N,ΦR,W,ΦX,O,J];refine⟨λ b _=>0<=b/\b<=h.length/\idxOf (λ y=>decide (e=y)) 0 h=idxOf _ b (h.drop b.toNat),λ b=>h.length-b.toNat,P' rfl,?_⟩;rintro u j i ⟨k,v,o⟩;simp only[aad,aaf];refine⟨λ f=>?_,λ g=>?_⟩
 .obtain⟨t,s,_,q,rfl,-⟩:=m.at j k f;refine⟨s,k,f,_,q,?_⟩;rw[ak k t,idxOf]at o;refine⟨λ p=>?_,λ p=>⟨?_,y' ?_,by omega⟩⟩
  .grind
  .have:=m.bn;grind
  grind
 .rw[ai g m.len,idxOf]at o;grind
def hI (f:Sl a c b d h):
  ZB 209 [S c b d,Φi e] a fg (λ r _=>r=h.contains e):=by
 refine ΦK 0 (aj [7] [] []) (λ f=>C ZP 274 [S c b d,I e] a λ g h=>f (decide (0<=h)) g) ?_;dsimp only[aQ,aR,C];refine⟨_,MW f,?_⟩;have:=eU (λ y=>decide (e=y)) h 0 (by simp);grind
def Cs (i:Sl a c b d f):
  ZB 140 [S c b d] a fi (λ q s m p=>Sl p q s m f):=by
 refine ΦK 0 bE (λ d=>ΦQ (Option.isNone c) (d none 0 0 a) (∃e:G',Cells a c 0 e/\L e=b*3/\(0+b)*32<=M/\U a ([]++e) (0+b) λ f g h=>d f (0+b) g h)) ?_;dsimp only[L,M,ΦQ];refine⟨λ v=>?_,λ v=>?_⟩
 .have:b=0:=by
   rcases abl b with h | h
   .grind
   .obtain⟨g,o,e⟩:=i.cD h;grind
  subst this;rw[aal i.len];exact Sl.nil
 .obtain⟨t,u,k⟩:=i.row;refine⟨t,u,by rw[k.length,i.len];rfl,by have:=i.bnd;rw[aaT];omega,λ q m p j w r=>?_⟩;rw[aaT]at r⊢;exact k.sl j (by grind) i.len r i.bnd i.bn
def eF (i:Sl a c b d h):
  ZB 186 [S c b d] a fi (λ q s m p=>Sl p q s m h):=by
 refine ΦK 0 bE (λ d=>ΦQ (Option.isNone c) (d none 0 0 a) (∃e:G',Cells a c 0 e/\L e=b*1/\(0+b)*8<=M/\U a ([]++e) (0+b) λ f g h=>d f (0+b) g h)) ?_;dsimp only[L,M,ΦQ];refine⟨λ v=>?_,λ v=>?_⟩
 .have:b=0:=by
   rcases abl b with f | f
   .grind
   .obtain⟨g,o,e⟩:=i.cD f;grind
  subst this;rw[aal i.len];exact Sl.nil
 .obtain⟨t,u,k⟩:=i.row;refine⟨t,u,by rw[k.length,i.len];rfl,by have:=i.bnd;rw[aaT];omega,λ q m p j w r=>?_⟩;rw[aaT]at r⊢;exact k.sl j (by grind) i.len r i.bnd i.bn
def de (k:Int):Bool:=decide (k=1)||decide (k=2)||decide (k=3)
def hJ (k:Int):Bool:=decide (1<=k)&&decide (k<=12)
def dH (s:ByteArray):Bool:=decide (s≠⟨⟨[118,102,114,111,109]⟩⟩)&&decide (s≠⟨⟨[118,116,111]⟩⟩)&&decide (s≠⟨⟨[114,102,114,111,109]⟩⟩)&&decide (s≠⟨⟨[114,116,111]⟩⟩)&&bq s
def lP:ZB 267 [Φi e] a fg (λ b _=>b=de e):=by
 refine ΦK 0 bE (λ b=>J (e=1) (b true a) (J (e=2) (b true a) (b (decide (e=3)) a))) ?_;dsimp only[J];grind[de]
def xx:ZB 426 [Φi e] a fg (λ b _=>b=hJ e):=by
 refine ΦK 0 bE (λ b=>J (1<=e) (b (decide (e<=12)) a) (b false a)) ?_;dsimp only[J];grind[hJ]
def lQ:ZB 266 [ΦT g] a fg (λ b _=>b=dH g):=by
 refine ΦK 0 (aj [10] [] []) (λ b=>let c:=C ZO 325 [ΦT g] a λ c d=>b d c;J (g={data:=⟨[(118:UInt8),(102:UInt8),(114:UInt8),(111:UInt8),(109:UInt8)]⟩}) (J (g={data:=⟨[(118:UInt8),(102:UInt8),(114:UInt8),(111:UInt8),(109:UInt8)]⟩}) (b false a) c) (J (g={data:=⟨[(118:UInt8),(116:UInt8),(111:UInt8)]⟩}) (J (g={data:=⟨[(118:UInt8),(116:UInt8),(111:UInt8)]⟩}) (b false a) c) (J (g={data:=⟨[(114:UInt8),(102:UInt8),(114:UInt8),(111:UInt8),(109:UInt8)]⟩}) (J (g={data:=⟨[(114:UInt8),(102:UInt8),(114:UInt8),(111:UInt8),(109:UInt8)]⟩}) (b false a) c) (J (g={data:=⟨[(114:UInt8),(116:UInt8),(111:UInt8)]⟩}) (b false a) c)))) ?_;dsimp only[aQ,aR,C,J];have c:∀{p q r t:Prop} [Decidable p] [Decidable q] [Decidable r] [Decidable t] {v:Bool},decide p=false->decide q=false->decide r=false->decide t=false->
  v=(decide (¬p)&&decide (¬q)&&decide (¬r)&&decide (¬t)&&v):=by grind
 refine⟨λ h=>⟨λ _=>?_,λ d=>absurd h (by grind)⟩,λ i=>⟨λ h=>⟨λ _=>?_,λ d=>absurd h (by grind)⟩,λ e=>⟨λ h=>⟨λ _=>?_,λ d=>absurd h (by grind)⟩,λ j=>⟨λ h=>?_,λ f=>⟨_,iM,?_⟩⟩⟩⟩⟩
 .rw[aab h];rfl
 .rw[aab h];rfl
 .rw[aab h];rfl
 .rw[aab h];rfl
 .rintro k _ b rfl;exact c i e j f
def Eb (h:Cells a (some ⟨b,0,none⟩) 0 [Φi e]):
  ZB 345 [.agg ⟨[Φi i.id,ΦT i.name,Φi i.kind]⟩,.pointer (some ⟨b,0,none⟩)] a fg (λ d _=>d=decide (i.id=e)):=by
 refine ΦK 0 bE (λ c=>ΦE ZE a (some ⟨b,0,none⟩) 0 λ d=>c (decide (i.id=d)) a) ?_;dsimp only[eQ,ΦE];grind
def Bj (h:Cells a (some ⟨b,0,none⟩) 0 [ΦT g]):
  ZB 344 [.agg ⟨[Φi i.id,ΦT i.name,Φi i.kind]⟩,.pointer (some ⟨b,0,none⟩)] a fg (λ d _=>d=decide (i.name=g)):=by
 refine ΦK 0 bE (λ c=>ΦE Xr a (some ⟨b,0,none⟩) 0 λ d=>c (decide (i.name=d)) a) ?_;dsimp only[eQ,ΦE];grind
def qe {k:Int}(h:Cells a (some ⟨b,0,none⟩) 0 [Φi e,ΦT g,Φi k]):
  ZB 425 [.agg ⟨[Φi i.id,ΦT i.name,Φi i.kind]⟩,.pointer (some ⟨b,0,none⟩)] a fg (λ d _=>d=decide (i.name=g)):=by
 refine ΦK 0 bE (λ c=>ΦE Xr a (some ⟨b,0,none⟩) (0+1) λ d=>c (decide (i.name=d)) a) ?_;dsimp only[eQ,ΦE];exact⟨_,h.cy (k:=1) rfl,rfl⟩
def qf {h:Int}{x:Int}(k:Sl a c b d f):
  ZB 270 [.agg ⟨[Φi e,Φi h,S c b d]⟩,Φi x] a gL (λ r _=>r=idxOf (λ d=>decide (d.id=x)) 0 f):=by
 refine ΦK 0 (aj [8] [] []) (λ e=>∃f:Int->Heap->Prop,(∀(g:Nat)(h:Heap),Heap.le a h->Cells h (some ⟨g,0,none⟩) 0 [I x]->af Tryz.prog 333 [S c b d,.func (.func 345) ⟨[]⟩ ⟨[.pointer (some ⟨g,0,none⟩)]⟩] h ⟨false,[(false,[.int .i64])]⟩ f)/\∀(g:Heap)(h:Int),f h g->e h a) ?_;refine⟨_,λ g o j m=>je (k.mono j) λ p d i=>Eb (m.mono i),?_⟩;simp
def Ec {i:Int}(m:Sl a c b d f):
  ZB 268 [.agg ⟨[Φi e,Φi i,S c b d]⟩,ΦT g] a gL (λ r _=>r=idxOf (λ d=>decide (d.name=g)) 0 f):=by
 refine ΦK 0 (aj [8] [] []) (λ e=>∃f:Int->Heap->Prop,(∀(h:Nat)(i:Heap),Heap.le a i->Cells i (some ⟨h,0,none⟩) 0 [ΦT g]->af Tryz.prog 333 [S c b d,.func (.func 344) ⟨[]⟩ ⟨[.pointer (some ⟨h,0,none⟩)]⟩] i ⟨false,[(false,[.int .i64])]⟩ f)/\∀(h:Heap)(i:Int),f i h->e i a) ?_;refine⟨_,λ h p k o=>je (m.mono k) λ q d j=>Bj (o.mono j),?_⟩;simp
end
section
variable {a:Heap}{b:D'}{c d:Nat}
def dq (l:List cz)(x:Int):Bool:=l.any λ c=>decide (c.id=x)
def zA {T:Type}(p:T->Bool)(l:List T):(idxOf p 0 l<0)↔l.any p=false:=by
 rw[<-Int.not_le,eU p l 0 (by simp),abZ]
def permanent (l:List dh)(a:I'):Bool:=l.all λ v=>a.all λ x=>dq v.cols x
def iN {B:D'}{m e:Nat}{l:List dh}{f:I'}(w:Sl a b c d l)(p:Sl a B m e f):
  ZB 330 [S b c d,S B m e] a fg (λ r _=>r=permanent l f):=by
 refine ΦK 0 (aj [23] [] [(2,[ag 11]),(5,[ag 17])]) (λ d=>W ZE a (λ e=>e 0 a) λ e f g h=>J (h<O c) (ΦX b h c (ΦE Xs g b (N h*3) (λ i j k l n=>W ZE g (λ o=>o 0 g) λ o p q r=>J (r<O m) (ΦX B r m (ΦE ZE q B (N r*1) (λ s=>C ZP 270 [ΦG [I i,I j,S k l n],I s] q λ t u=>J (u<0) (d false t) (ΦR (r+1)/\o (r+1) t/\p (r+1)<p r)))) (ΦR (h+1)/\e (h+1) q/\f (h+1)<f h)))) (d true g)) ?_;dsimp only[PL,aQ,aR,aW,eQ,C,ΦE,N,ΦR,W,ΦX,O,J];have X:=w.bn;have G:=w.len;have b3:=p.bn;have L:=p.len;unfold permanent;refine⟨λ i _=>0<=i/\i<=c/\(l.all λ v=>f.all λ x=>dq v.cols x)=((l.drop i.toNat).all _),λ i=>c-i.toNat,P' rfl,?_⟩;rintro H2 o i ⟨s,h1,y⟩;refine⟨λ g=>?_,λ q=>?_⟩
 .have g:=aab g;obtain⟨M,F,_,T,⟨A',V,Z,rfl,Y,r2,Q⟩⟩:=w.at o s g;rw[ak s M,abr]at y;refine⟨F,s,g,_,_,_,_,_,T,λ k _=>0<=k/\k<=m/\(f.all λ x=>dq l[i.toNat].cols x)=((f.drop k.toNat).all _),λ k=>m-k.toNat,P' rfl,?_⟩;rintro H3 j k ⟨u,U,D⟩;refine⟨λ h=>?_,λ t=>?_⟩
  .have h:=aab h;obtain⟨E,R,_,P,rfl,r⟩:=p.at (aa o j) u h;rw[ak u E]at D;refine⟨R,u,h,_,P,_,qf (Q.mono j),?_⟩;rintro H4 z r rfl;have:=zA (λ d=>decide (d.id=f[k.toNat])) l[i.toNat].cols;rw[aad,aaf,this,<-dq];refine⟨λ hf=>?_,λ p=>u' ⟨y' ?_,by grind⟩⟩
   .grind
   grind
  .rw[ai (aac t) L]at D;refine u' ⟨y' ?_,by grind⟩;grind
 .rw[ai (aac q) G]at y;grind
def sI:List Bool->I'->Bool
 | _,[]=>true
 | s,x::r=>hJ x&& !s.getD x.toNat false&&sI (s.set x.toNat true) r
def bT (l:I'):Bool:=sI (List.replicate 13 false) l
def df {l:I'}(m:Sl a b c d l):
  ZB 329 [S b c d] a fg (λ r _=>r=bT l):=by
 refine ΦK 0 (aj [13] [] [(3,[ag 8,.arr 3 506])]) (λ d=>∃(e:Int->G'->Heap->Prop)(f:Int->G'->Nat),e 0 [ΦB false,ΦB false,ΦB false,ΦB false,ΦB false,ΦB false,ΦB false,ΦB false,ΦB false,ΦB false,ΦB false,ΦB false,ΦB false] a/\∀g:Heap,Heap.le a g->∀(h:Int)(i:G'),e h i g->J (h<O c) (ΦX b h c (ΦE ZE g b (N h*1) (λ j=>C ZO 426 [I j] g λ k l=>ΦQ (!l) (d false k) (ΦY j 13 (ΦF Xt i (N j*1) 1 (λ m=>ΦQ m (d false k) (ΦY j 13 (N j*1+1<=L i/\ΦR (h+1)/\(let n:=av i (N j*1) [ΦB true];e (h+1) n k/\f (h+1) n<f h i))))))))) (d true g)) ?_;dsimp only[aQ,aR,eQ,C,ΦE,ΦF,L,N,ΦQ,ΦR,ΦX,ΦY,O,J];have F:=m.bn;have B:=m.len;unfold bT;refine⟨λ i q _=>0<=i/\i<=c/\∃s,Row a q s/\s.length=13/\sI (List.replicate 13 false) l=sI s (l.drop i.toNat),λ i _=>c-i.toNat,P' ⟨_,Row.gS (T:=Bool) rfl 13,rfl,rfl⟩,?_⟩;rintro R o i q ⟨j,P,s,k,z,h⟩;refine⟨λ f=>?_,λ g=>?_⟩
 .have f:=aab f;obtain⟨D,w,_,E,rfl,r⟩:=m.at o j f;rw[ak j D,sI]at h;refine⟨w,j,f,_,E,_,xx,?_⟩;rintro M p e rfl;refine⟨λ y=>?_,λ v=>?_⟩
  .grind
  .have G:=by simpa[hJ]using v
   have u:l[i.toNat].toNat<s.length:=by omega
   have x:=k.dO u;refine y' ⟨s[l[i.toNat].toNat],x,λ y=>?_,λ Q=>y' ⟨?_,by omega,y' ⟨_,k.dV u (us:=[.bool true]) (t:=true) rfl,T' ?_⟩,by grind⟩⟩
   .grind
   .have:=k.length;rw[this,z];show _<=13*1;omega
   grind
 .rw[ai (aac g) B]at h;rw[h];rfl
def fU:Int->List cz->List cz->Bool
 | _,_,[]=>true
 | last,pre,c::r=> !(decide (c.id<=last)||decide (12<c.id)|| !dH c.name|| !de c.kind||pre.any λ o=>decide (o.name=c.name))&&fU c.id (pre++[c]) r
def aB (l:List cz):Bool:=decide (1<=l.length)&&decide (l.length<=12)&&fU 0 [] l
def rz {l:List cz}(u:Sl a b c d l):
  ZB 327 [S b c d] a fg (λ r _=>r=aB l):=by
 refine ΦK 0 (aj [33,39,46] [] [(5,[ag 3,ag 16])]) (λ e=>J (O c<1) (e false a) (J (12<O c) (e false a) (W ZK a (λ f=>f 0 0 a) (λ f g h i j=>J (j<O c) (ΦX b j c (ΦE Xq h b (N j*3) (λ k l m=>J (k<=i) (e false h) (J (12<k) (e false h) (C ZO 266 [ΦT l] h (λ n o=>ΦQ (!o) (e false n) (C ZO 267 [I m] n (λ p q=>ΦQ (!q) (e false p) ((0:Int)<=0/\0<=j/\j<=O d/\(∀r:D',r=eM b d (N 0) 3->∃s:Bool->Heap->Prop,(∀(t:Nat)(u:Heap),Heap.le p u->Cells u (some ⟨t,0,none⟩) 0 [I k,ΦT l,I m]->af Tryz.prog 424 [S r (N j-N 0) (d-N 0),.func (.func 425) ⟨[]⟩ ⟨[.pointer (some ⟨t,0,none⟩)]⟩] u ⟨false,[(false,[.bool])]⟩ s)/\∀(t:Heap)(u:Bool),s u t->ΦQ u (e false p) (ΦR (j+1)/\f k (j+1) p/\g k (j+1)<g i j))))))))))) (e true h))))) ?_;dsimp only[PL,aQ,aR,aW,eQ,C,ΦE,N,ΦQ,ΦR,W,ΦX,O,J];have U:=u.bn;have B:=u.len;have Y:=u.cap;unfold aB;refine⟨λ h=>?_,λ h=>⟨λ z=>?_,λ z=>?_⟩⟩
 .have:=aab h;rw[B,aao (by omega)];rfl
 .have:=aab z;rw[B,aao (p:=c<=12) (by omega),acT];rfl
 have h:=aac h;have z:=aac z;rw[B,aau (p:=1<=c) (by omega),aau (p:=c<=12) (by omega),aaY,aaY];refine⟨λ o i _=>0<=i/\i<=c/\fU 0 [] l=fU o (l.take i.toNat) (l.drop i.toNat),λ _ i=>c-i.toNat,y' rfl,?_⟩;rintro H2 x o i ⟨y,h1,e⟩;refine⟨λ m=>?_,λ D=>?_⟩
 .have m:=aab m;obtain⟨L,Q,_,T,rfl,X,r2,V⟩:=u.at x y m;rw[ak y L,fU]at e;have e:=e.symm;refine⟨Q,y,m,_,_,_,T,λ f=>?_,λ P=>⟨λ f=>?_,λ F=>⟨_,lQ,?_⟩⟩⟩
  .rw[<-e,f];simp
  .rw[<-e,f];simp
  rintro H3 s _ rfl;refine⟨λ f=>?_,λ R=>⟨_,lP,?_⟩⟩
  .rw[<-e,f];simp
  rintro H4 q _ rfl;refine⟨λ f=>?_,λ G=>u' ⟨y,u' ?_⟩⟩
  .rw[<-e,f];simp
  rintro A' rfl;have t:=aa (aa x s) q;refine⟨_,λ g Z w E=>vl ((u.sub (j:=0) (k:=i.toNat) (by omega) (by omega)).mono (aa t w)) λ M d v=>qe (E.mono v),?_⟩;rintro M _ rfl;rw[abN];rw[P,F,R,G]at e;refine⟨λ f=>?_,λ f=>u' ⟨y' ?_,by dsimp only;omega⟩⟩
  .rw[<-e,f];simp
  .rw[<-e,f];simp only[Bool.or_self,Bool.not_false,aaY];congr 1;rw[show(i+1).toNat=i.toNat+1 by omega,aaj L]
 .rw[ai (aac D) B]at e;rw[e];rfl
def iO:Option Int->List dh->Bool
 | _,[]=>true
 | p,v::r=>dm v.rc&&(match p with | none=>true | some h=>decide (v.rc.lo=h))&&iO (some v.rc.hi) r
def wE (p:Option Int)(v:dh)(r:List dh):iO p (v::r)=(dm v.rc&&(match p with | none=>true | some h=>decide (v.rc.lo=h))&&iO (some v.rc.hi) r):=by
 rfl
def eV (l:List dh):Bool:=match l.getLast? with
 | none=>false
 | some v=>decide (v.rc.hi=1099511627776)
def fy (l:List dh):Bool:=iO none l&&eV l
def rA {l:List dh}(j:Sl a b c d l):
  ZB 326 [S b c d] a fg (λ r _=>r=fy l):=by
 refine ΦK 0 (aj [14] [(4,[2,4,7]++ab 8 18 [0])] [(2,[ag 7])]) (λ d=>W ZE a (λ e=>e 0 a) λ e f g h=>J (h<O c) (ΦX b h c (ΦE Xs g b (N h*3) (λ i j k l m=>C ZO 139 [ΦG [I i,I j]] g λ n o=>ΦQ (!o) (d false n) (let p:=ΦR (h+1)/\e (h+1) n/\f (h+1)<f h;J (0<h) (ΦR (h-1)/\ΦX b (h-1) c (ΦE ZE n b (N (h-1)*3+0+1) (λ q=>V (i=q) (d false n) p))) p)))) (J (0<O c) (ΦR (O c-1)/\ΦX b (O c-1) c (ΦE ZE g b (N (O c-1)*3+0+1) (λ i=>d (decide (i=1099511627776)) g))) (d false g))) ?_;dsimp only[PL,aQ,aR,aW,eQ,C,ΦE,N,ΦQ,ΦR,W,ΦX,O,V,J];have P:=j.bn;have G:=j.len;unfold fy;refine⟨λ i _=>0<=i/\i<=c/\iO none l=iO (if i<=0 then none else l[(i-1).toNat]?.map (·.rc.hi)) (l.drop i.toNat),λ i=>c-i.toNat,y' rfl,?_⟩;rintro Y f i ⟨q,T,m⟩;refine⟨λ e=>?_,λ o=>?_⟩
 .have e:=aab e;obtain⟨y,D,_,L,⟨x,u,v,rfl,Q,X,z⟩⟩:=j.at f q e;rw[ak q y,wE]at m;refine⟨D,q,e,_,_,_,_,_,L,_,bX,?_⟩;rintro R h _ rfl;have Z:(if i+1<=0 then none else l[(i+1-1).toNat]?.map (·.rc.hi))=some l[i.toNat].rc.hi:=by
   rw[if_neg (by omega),show(i+1-1).toNat=i.toNat by omega,aai y];rfl
  refine⟨λ F=>?_,λ w=>⟨λ g=>?_,λ g=>?_⟩⟩
  .simp_all
  .have g:=aab g;have w:dm l[i.toNat].rc=true:=by simp_all
   obtain⟨p,s,_,t,⟨x,u,v,rfl,B,M,z⟩⟩:=j.at (aa f h) (i:=i-1) (by omega) (by omega);rw[aai p]at m;refine u' ⟨s,y' ⟨_,t.cy (k:=1) rfl,λ F=>?_,λ U=>u' ⟨y' ?_,by grind⟩⟩⟩
   .grind
   grind
  .have w:dm l[i.toNat].rc=true:=by simp_all
   have E:ae .i64 (i+1)/\(0<=i+1/\i+1<=c/\iO none l=iO (if i+1<=0 then none else l[(i+1-1).toNat]?.map (·.rc.hi)) (l.drop (i+1).toNat))/\c-(i+1).toNat<c-i.toNat:=by
    refine u' ⟨y' ?_,by omega⟩;grind
   grind
 .rw[ai (aac o) G]at m;rw[m];refine ΦD (λ g=>?_) λ g=>?_
  .obtain⟨p,s,_,t,⟨x,u,v,rfl,B,M,z⟩⟩:=j.at f (i:=(c)-1) (by omega) (by omega);refine u' ⟨s,y' ⟨_,t.cy (k:=1) rfl,?_⟩⟩;rw[eV,abK,show l.length-1=((c:Int)-1).toNat by omega,aai p];rfl
  .rw[aal (by omega:l.length=0)];rfl
end
section
variable {a:Heap}{b:D'}{c d:Nat}{e:List dh}
def lB:cz:=⟨0,⟨⟨[]⟩⟩,0⟩
def GZ:Rep.rel a [Φi 0] (0:Int):=⟨rfl,by grind⟩
def PG:Rep.rel a [Φi 0,.string ⟨⟨[]⟩⟩,Φi 0] lB:=⟨rfl,by simp[ae,lB],by simp[str,lB,ByteArray.size],by simp[ae,lB]⟩
def dP (i g:Int):I'->I'->List cz->Int->List cz->Option (I'×I'×List cz×Int)
 | f,la,co,top,[]=>some (f,la,co,top)
 | f,la,co,top,c::r=>
  if f.getD c.id.toNat 0=0 then
   if 0<i/\c.id<=g then none
   else dP i g (f.set c.id.toNat (i+1)) (la.set c.id.toNat (i+1)) (co.set c.id.toNat c) (max top c.id) r
  else if la.getD c.id.toNat 0=i/\co.getD c.id.toNat lB=c then dP i g f (la.set c.id.toNat (i+1)) co (max top c.id) r
  else none
def jD:Int->Int->I'->I'->List cz->List dh->Bool
 | _,_,_,_,_,[]=>true
 | i,g,f,la,co,v::r=>match dP i g f la co g v.cols with
  | none=>false
  | some (f',la',co',t)=>jD (i+1) t f' la' co' r
def rT (i g:Int)(f a:I')(b:List cz)(v:dh)(r:List dh):jD i g f a b (v::r)=match dP i g f a b g v.cols with
 | none=>false
 | some (f',la',co',t)=>jD (i+1) t f' la' co' r:=rfl
def ic (l:List dh):Bool:=jD 0 0 (List.replicate 13 0) (List.replicate 13 0) (List.replicate 13 lB) l
def Li (l:List dh):Prop:=∀v∈l,∀c∈v.cols,1<=c.id/\c.id<=12
def rB (hs:Sl a b c d e)(a7:Li e):
  ZB 328 [S b c d] a fg (λ r _=>r=ic e):=by
 refine ΦK 0 (aj [] [(14,ab 2 7 [17,19,21,23,0]),(15,ab 2 15 [0])] [(5,[ag 6,ag 14,.arr 3 504,.arr 4 504,.arr 5 505]),(9,[ag 9,ag 23,.arr 3 504,.arr 4 504,.arr 5 505])]) (λ d=>∃(e:Int->Int->G'->G'->G'->Heap->Prop)(f:Int->Int->G'->G'->G'->Nat),(let g:=[I 0,I 0,I 0,I 0,I 0,I 0,I 0,I 0,I 0,I 0,I 0,I 0,I 0];e 0 0 g g [I 0,ΦT ⟨⟨[]⟩⟩,I 0,I 0,ΦT ⟨⟨[]⟩⟩,I 0,I 0,ΦT ⟨⟨[]⟩⟩,I 0,I 0,ΦT ⟨⟨[]⟩⟩,I 0,I 0,ΦT ⟨⟨[]⟩⟩,I 0,I 0,ΦT ⟨⟨[]⟩⟩,I 0,I 0,ΦT ⟨⟨[]⟩⟩,I 0,I 0,ΦT ⟨⟨[]⟩⟩,I 0,I 0,ΦT ⟨⟨[]⟩⟩,I 0,I 0,ΦT ⟨⟨[]⟩⟩,I 0,I 0,ΦT ⟨⟨[]⟩⟩,I 0,I 0,ΦT ⟨⟨[]⟩⟩,I 0,I 0,ΦT ⟨⟨[]⟩⟩,I 0] a)/\∀g:Heap,Heap.le a g->∀(h i:Int)(j k l:G'),e h i j k l g->J (i<O c) (ΦX b i c (ΦE Xs g b (N i*3) (λ m n o p q=>∃(r:Int->Int->G'->G'->G'->Heap->Prop)(s:Int->Int->G'->G'->G'->Nat),r h 0 j k l g/\∀t:Heap,Heap.le g t->∀(u v:Int)(w x y:G'),r u v w x y t->J (v<O p) (ΦX o v p (ΦE Xq t o (N v*3) (λ z a0 a1=>ΦY z 13 (ΦF ZE w (N z*1) 1 (λ a2=>let a3:=λ a3=>av a3 (N z*1) [I (i+1)];J (a2=0) (let a4:=ΦR (i+1)/\ΦY z 13 (N z*1+1<=L w/\ΦY z 13 (N z*3+3<=L y/\ΦR (i+1)/\ΦY z 13 (N z*1+1<=L x/\ΦR (v+1)/\(let a4:=av y (N z*3) [I z,ΦT a0,I a1];r (max u z) (v+1) (a3 w) (a3 x) a4 t/\s (max u z) (v+1) (a3 w) (a3 x) a4<s u v w x y))));J (0<i) (J (z<=h) (d false t) a4) a4) (ΦY z 13 (ΦF ZE x (N z*1) 1 (λ a4=>V (a4=i) (d false t) (ΦY z 13 (ΦF Xq y (N z*3) 3 (λ a5 a6 a7=>ΦQ (!(decide (a5=z)&&(decide (a6=a0)&&decide (a7=a1)))) (d false t) (ΦR (i+1)/\ΦY z 13 (N z*1+1<=L x/\ΦR (v+1)/\r (max u z) (v+1) w (a3 x) y t/\s (max u z) (v+1) w (a3 x) y<s u v w x y))))))))))))) (ΦR (i+1)/\e u (i+1) w x y t/\f u (i+1) w x y<f h i j k l)))) (d true g)) ?_;dsimp only[eQ,ΦE,ΦF,L,N,ΦQ,ΦR,ΦX,ΦY,O,V,J];have b1:=hs.bn;have b2:=hs.len;unfold ic;refine⟨λ g i Z X xc D=>0<=i/\i<=c/\ae .i64 g/\∃f P G,Row D Z f/\Row D X P/\Row D xc G/\f.length=13/\P.length=13/\G.length=13/\
   jD 0 0 (List.replicate 13 0) (List.replicate 13 0) (List.replicate 13 lB) e=jD i g f P G (e.drop i.toNat),λ _ i _ _ _=>c-i.toNat,
  (y' ⟨by simp[ae],_,_,_,Row.gS GZ 13,Row.gS GZ 13,Row.gS PG 13,rfl,rfl,rfl,rfl⟩),?_⟩
 rintro H2 a4 g i Z X xc ⟨h0,h1,hg,f,P,G,hf,a6,a0,lf,a2,a5,W⟩;refine⟨λ w=>?_,λ a8=>?_⟩
 .have w:=aab w;obtain⟨hi,hA,_,hc,⟨A',U,c',rfl,r1,r2,Y⟩⟩:=hs.at a4 h0 w;rw[ak h0 hi,rT]at W;have d1:=Y.bn;have d2:=Y.len;have z:=a7 _ (aan hi);generalize b5:e[i.toNat].cols=cs at Y W d2 z;refine⟨hA,h0,w,_,_,_,_,_,hc,λ u k Z X xc D=>0<=k/\k<=U/\ae .i64 u/\∃C o m,Row D Z C/\Row D X o/\Row D xc m/\C.length=13/\o.length=13/\m.length=13/\
   dP i g f P G g cs=dP i g C o m u (cs.drop k.toNat),λ _ k _ _ _=>U-k.toNat,y' ⟨hg,f,P,G,hf,a6,a0,lf,a2,a5,rfl⟩,?_⟩
  rintro H3 R u k a9 b0 a3 ⟨k0,k1,b3,C,o,m,v,s,p,T,Q,B,q⟩;refine⟨λ x=>?_,λ a1=>?_⟩
  .have x:=aab x;obtain⟨ki,kA,_,kc,rfl,q1,q2,q3⟩:=Y.at R k0 x;rw[ak k0 ki,dP]at q;obtain⟨p1,p2⟩:=z _ (aan ki);generalize b4:cs[k.toNat]=j at q p1 p2 q1 q2 q3 kc;have x1:j.id.toNat<C.length:=by omega
   have x2:j.id.toNat<o.length:=by omega
   have x3:j.id.toNat<m.length:=by omega
   have w1:=(v.dO x1).1;have w2:=(s.dO x2).1;have w3:=(p.dO x3).1;have e1:C.getD j.id.toNat 0=C[j.id.toNat]:=by simp[List.getD,x1]
   have e2:o.getD j.id.toNat 0=o[j.id.toNat]:=by simp[List.getD,x2]
   have e3:m.getD j.id.toNat lB=m[j.id.toNat]:=by simp[List.getD,x3]
   rw[e1,e2,e3]at q;have z1:j.id.toNat*1+1<=a9.length:=by rw[v.length,T];show _<=13*1;omega
   have z2:j.id.toNat*1+1<=b0.length:=by rw[s.length,Q];show _<=13*1;omega
   have z3:j.id.toNat*3+3<=a3.length:=by rw[p.length,B];show _<=13*3;omega
   have F:ae .i64 (i+1):=by omega
   have rk:ae .i64 (k+1):=by omega
   have rm:ae .i64 (max u j.id):=by simp only[ae]at*;omega
   have s1:=v.dV x1 (us:=[Φi (i+1)]) (t:=i+1) ⟨rfl,F⟩;have s2:=s.dV x2 (us:=[Φi (i+1)]) (t:=i+1) ⟨rfl,F⟩;have s3:=p.dV x3 (us:=[Φi j.id,ΦT j.name,Φi j.kind]) (t:=j) ⟨rfl,q1,q2,q3⟩;have m1:U-(k+1).toNat<U-k.toNat:=by omega
   refine⟨kA,k0,x,_,_,_,kc,y' ⟨_,w1,λ hz=>?_,λ hz=>?_⟩⟩
   .rw[if_pos (aab hz)]at q;refine⟨λ M=>⟨λ E=>?_,λ E=>?_⟩,λ M=>?_⟩
    .grind
    .rw[if_neg (λ h=>aac E h.2)]at q;exact⟨F,y' ⟨z1,y' ⟨z3,F,y' ⟨z2,rk,y' ⟨rm,_,_,_,s1,s2,s3,T' (U' q)⟩,m1⟩⟩⟩⟩
    .rw[if_neg (λ h=>aac M h.1)]at q;exact⟨F,y' ⟨z1,y' ⟨z3,F,y' ⟨z2,rk,y' ⟨rm,_,_,_,s1,s2,s3,T' (U' q)⟩,m1⟩⟩⟩⟩
   .rw[if_neg (aac hz)]at q;refine y' ⟨_,w2,λ M=>?_,λ M=>y' ⟨_,_,_,w3,λ E=>?_,λ E=>?_⟩⟩
    .grind
    .grind
    .have M:o[j.id.toNat]=i:=by grind
     have E:m[j.id.toNat]=j:=by
      generalize m[j.id.toNat]=y at E;cases y;simp_all
     rw[if_pos ⟨M,E⟩]at q;exact⟨F,y' ⟨z2,rk,y' ⟨rm,_,_,_,v,s2,p,T,by grind,B,q⟩,m1⟩⟩
  .rw[ai (aac a1) d2,dP]at q;grind
 .rw[ai (aac a8) b2]at W;rw[W];rfl
def lR (l:List dh)(f:nz):Bool:=decide (0<f.cols.length)&&bT f.cols&&permanent l f.cols&&bq f.table&&decide (f.refs.length=f.cols.length)&&bT f.refs
def jE (l:List dh)(f:Rs):Bool:=(decide (f.kind=1)||decide (f.kind=2))&&decide (0<f.cols.length)&&bT f.cols&&permanent l f.cols
def oa {B D:D'}{m f k g:Nat}{s:ByteArray}{x y:I'}(z:Sl a b c d e)(i:Sl a B m f x)(o:Sl a D k g y):
  ZB 331 [S b c d,.agg ⟨[S B m f,ΦT s,S D k g]⟩] a fg (λ r _=>r=lR e ⟨x,s,y⟩):=by
 refine ΦK 0 (aj [12,18,23,37] [] []) (λ e=>J (0<O m) (C ZO 329 [S B m f] a (λ h i=>ΦQ i (C ZO 330 [S b c d,S B m f] h (λ j l=>ΦQ l (C ZO 325 [ΦT s] j (λ n o=>ΦQ o (J (O k=O m) (C ZO 329 [S D k g] n (λ p q=>e q p)) (e false n)) (e false n))) (e false j))) (e false h))) (e false a)) ?_;dsimp only[aQ,aR,C,ΦQ,O,J];have p:=i.len;have I:=o.len;simp only[lR,p];refine⟨λ h=>⟨_,df i,?_⟩,λ h=>?_⟩
 .rintro G j _ rfl;refine⟨λ u=>⟨_,iN (z.mono j) (i.mono j),?_⟩,λ u=>?_⟩
  .rintro L E _ rfl;refine⟨λ q=>⟨_,iM,?_⟩,λ q=>?_⟩
   .rintro F v _ rfl;refine⟨λ w=>⟨λ t=>⟨_,df (o.mono (aa j (aa E v))),?_⟩,λ t=>?_⟩,λ w=>?_⟩
    .grind
    .grind
    grind
   grind
  grind
 grind
def od {B:D'}{m f:Nat}{s:Int}{x:I'}(w:Sl a b c d e)(k:Sl a B m f x):
  ZB 332 [S b c d,.agg ⟨[Φi s,S B m f]⟩] a fg (λ r _=>r=jE e ⟨s,x⟩):=by
 refine ΦK 0 (aj [22,28] [] []) (λ e=>let g:=J (0<O m) (C ZO 329 [S B m f] a (λ g h=>ΦQ h (C ZO 330 [S b c d,S B m f] g (λ i j=>e j i)) (e false g))) (e false a);J (s=1) g (J (s=2) g (e false a))) ?_;dsimp only[aQ,aR,C,ΦQ,O,J];have t:=k.len;simp only[jE,t];have v:∀{j:Heap},Heap.le a j->bT x=true->(decide (0<(m)))=true->(decide (s=1)||decide (s=2))=true->
   ∃i:Bool->Heap->Prop,ZB 330 [S b c d,S B m f] j fg i/\∀p,Heap.le j p->∀g,i g p->g=((decide (s=1)||decide (s=2))&&decide (0<m)&&bT x&&permanent e x):=by
  intro j q z y D;refine⟨_,iN (w.mono q) (k.mono q),?_⟩;grind
 refine⟨λ h=>⟨λ o=>⟨_,df k,?_⟩,λ o=>?_⟩,λ h=>⟨λ u=>⟨λ o=>⟨_,df k,?_⟩,λ o=>?_⟩,λ u=>?_⟩⟩
 .grind
 .grind
 .grind
 .grind
 grind
end
section
def aw (s:bp):Bool:=bq s.name&&fy s.vers&&decide (s.fks.length<=4)&&decide (s.csts.length<=4)&&(s.vers.all λ v=>aB v.cols)&&ic s.vers&&bT s.key&&
 permanent s.vers s.key&&(s.fks.all λ f=>lR s.vers f)&&(s.csts.all λ c=>jE s.vers c)
def mP:∀(l:List cz) (a:Int) (b:List cz),0<=a->fU a b l=true->∀c∈l,1<=c.id/\c.id<=12
 |[],_,_,_,_,c,h=>by grind
 | x::r,a,b,h0,h,c,d=>by
  simp[fU,acR]at h;obtain⟨⟨⟨⟨⟨i,f⟩,k⟩,g⟩,j⟩,e⟩:=h;rcases aaw.1 d with rfl | d
  .omega
  .exact mP r _ _ (by omega) e c d
def oe {l:List dh}(h:(l.all λ v=>aB v.cols)=true):Li l:=by
 intro v a c b;have:=aaG.1 h v a;simp[aB]at this;exact mP _ _ _ (by simp) this.2 c b
structure aV (H:Heap)(nm:ByteArray)(A:D')(n c:Nat)(B:D')(m d:Nat)(E:D')(k e:Nat)(F:D')(l f:Nat)(s:bp):Prop where
 name:nm=s.name
 str:str s.name
 vers:Sl H A n c s.vers
 key:Sl H B m d s.key
 fks:Sl H E k e s.fks
 csts:Sl H F l f s.csts
section
variable {H:Heap}{nm:ByteArray}{A:D'}{n c:Nat}{B:D'}{m d:Nat}{E:D'}{k e:Nat}{F:D'}{l f:Nat}{s:bp}
def aV.mono {b:Heap}(h:aV H nm A n c B m d E k e F l f s)(a:Heap.le H b):aV b nm A n c B m d E k e F l f s:=
 ⟨h.name,h.str,h.vers.mono a,h.key.mono a,h.fks.mono a,h.csts.mono a⟩
def oK (hs:aV H nm A n c B m d E k e F l f s):
  ZB 252 [.agg ⟨[ΦT nm,S A n c,S B m d,S E k e,S F l f]⟩] H fg (λ r _=>r=aw s):=by
 refine ΦK 0 (aj [11,16,40,45,50,58,71,84] [] [(4,[ag 34]),(12,[ag 64]),(18,[ag 77])]) (λ a=>C ZO 325 [ΦT nm] H λ b e=>ΦQ (!e) (a false b) (C ZO 326 [S A n c] b (λ f g=>ΦQ (!g) (a false f) (J (4<O k) (a false f) (J (4<O l) (a false f) (W ZE f (λ h=>h 0 f) (λ h i j o=>let p:=λ p q (r:Int) s t=>ΦQ (!p) (a false q) (ΦR (r+1)/\s (r+1) q/\t (r+1)<t r);J (o<O n) (ΦX A o n (ΦE Xs j A (N o*3) (λ q r s t u=>C ZO 327 [S s t u] j λ v w=>p w v o h i))) (C ZO 328 [S A n c] j (λ q r=>ΦQ (!r) (a false q) (C ZO 329 [S B m d] q (λ s t=>ΦQ (!t) (a false s) (C ZO 330 [S A n c,S B m d] s (λ u v=>ΦQ (!v) (a false u) (W ZE u (λ w=>w 0 u) (λ w x y z=>J (z<O k) (ΦX E z k (ΦE Xu y E (N z*3) (λ a0 a1 a2 a3 a4 a5 a6=>C ZO 331 [S A n c,ΦG [S a0 a1 a2,ΦT a3,S a4 a5 a6]] y λ a7 a8=>p a8 a7 z w x))) (W ZE y (λ a0=>a0 0 y) (λ a0 a1 a2 a3=>J (a3<O l) (ΦX F a3 l (ΦE Xv a2 F (N a3*2) (λ a4 a5 a6 a7=>C ZO 332 [S A n c,ΦG [I a4,S a5 a6 a7]] a2 λ a8 a9=>p a9 a8 a3 a0 a1))) (a true a2)))))))))))))))))) ?_;dsimp only[PL,aQ,aR,aW,eQ,C,ΦE,N,ΦQ,ΦR,W,ΦX,O,J];obtain⟨rfl,Y,q,hk,R,U⟩:=hs;have v1:=q.bn;have v2:=q.len;have f1:=R.bn;have f2:=R.len;have c1:=U.bn;have c2:=U.len;unfold aw;refine⟨_,iM,?_⟩;rintro H1 l1 _ rfl;refine⟨λ u=>by simp only[aay]at u;simp[u],λ u=>⟨_,rA (q.mono l1),?_⟩⟩;have u:bq s.name=true:=by simpa using u
 rintro H2 l2 _ rfl;refine⟨λ t=>by simp only[aay]at t;simp[t],λ t=>⟨λ w=>?_,λ w=>⟨λ y=>?_,λ y=>?_⟩⟩⟩
 .have w:=aab w;rw[aao (p:=s.fks.length<=4) (by omega)];simp
 .have y:=aab y;rw[aao (p:=s.csts.length<=4) (by omega)];simp
 have t:fy s.vers=true:=by simpa using t
 have w:=aac w;have y:=aac y;rw[u,t,aau (p:=s.fks.length<=4) (by omega),aau (p:=s.csts.length<=4) (by omega)];have L2:=aa l1 l2;simp only[aaY];refine⟨λ i _=>0<=i/\i<=n/\(s.vers.all λ v=>aB v.cols)=((s.vers.drop i.toNat).all λ v=>aB v.cols),λ i=>n-i.toNat,y' rfl,?_⟩;rintro H3 l3 i ⟨h,h1,b⟩;have P:=aa L2 l3;refine⟨λ a=>?_,λ g=>?_⟩
 .have a:=aab a;obtain⟨z,x,_,j,⟨A',V,X,rfl,G,T,L⟩⟩:=q.at P h a;rw[ak h z,abr]at b;refine⟨x,h,a,_,_,_,_,_,j,_,rz L,?_⟩;rintro H4 l4 _ rfl;refine⟨λ o=>?_,λ o=>u' ⟨y' ?_,by dsimp only;omega⟩⟩
  .simp only[aay]at o;rw[b,o];simp
  .simp only[aaF]at o;rw[b,o,aaY]
 rw[ai (aac g) v2,ado]at b;rw[b,aaY];refine⟨_,rB (q.mono P) (oe b),?_⟩;rintro H4 l4 _ rfl;have Z:=aa P l4;refine⟨λ D=>by simp only[aay]at D;simp[D],λ D=>⟨_,df (hk.mono Z),?_⟩⟩;simp only[aaF]at D;rintro H5 l5 _ rfl;have M:=aa Z l5;refine⟨λ a6=>by grind,λ a6=>⟨_,iN (q.mono M) (hk.mono M),?_⟩⟩;rintro H6 l6 _ rfl;have L6:=aa M l6;refine⟨λ a7=>by grind,λ a7=>?_⟩;refine⟨λ i _=>0<=i/\i<=k/\(s.fks.all λ v=>lR s.vers v)=((s.fks.drop i.toNat).all _),λ i=>k-i.toNat,P' rfl,?_⟩;rintro H7 l7 i ⟨h,h1,b⟩;have Q:=aa L6 l7;refine⟨λ a=>?_,λ g=>?_⟩
 .have a:=aab a;obtain⟨z,x,_,j,⟨A',V,X,B',m',d',rfl,G,T,r3⟩⟩:=R.at Q h a;rw[ak h z]at b;refine⟨x,h,a,_,_,_,_,_,_,_,j,_,oa (q.mono Q) G r3,?_⟩;rintro H8 l8 _ rfl;refine⟨λ o=>?_,λ o=>u' ⟨y' ?_,by grind⟩⟩
  .grind
  simp_all
 rw[ai (aac g) f2,ado]at b;refine⟨λ i _=>0<=i/\i<=l/\(s.csts.all λ v=>jE s.vers v)=((s.csts.drop i.toNat).all _),λ i=>l-i.toNat,P' rfl,?_⟩;rintro H8 l8 i ⟨h,h1,b⟩;have L8:=aa Q l8;refine⟨λ a=>?_,λ g=>?_⟩
 .have a:=aab a;obtain⟨z,x,_,j,⟨A',V,X,rfl,G,T⟩⟩:=U.at L8 h a;rw[ak h z]at b;refine⟨x,h,a,_,_,_,_,j,_,od (q.mono L8) T,?_⟩;rintro H9 l9 _ rfl;refine⟨λ o=>?_,λ o=>u' ⟨y' ?_,by grind⟩⟩
  .grind
  simp_all
 rw[ai (aac g) c2]at b;grind
def jZ {a b:Int}{l:List cz}(i:Sl H A n c l):
  ZB 83 [.agg ⟨[Φi a,Φi b,S A n c]⟩] H ⟨false,[(true,[.int .i64,.int .i64,.sl])]⟩ (λ e g j d f h=>e=a/\g=b/\Sl h j d f l):=by
 refine ΦK 0 bE (λ d=>C ZT 140 [S A n c] H λ e f g h=>d a b f g h e) ?_;dsimp only[aQ,aR,C];refine⟨_,Cs i,?_⟩;simp
def og:dh:=⟨⟨0,0⟩,[]⟩
def cY (x:Int):List dh->Option dh
 |[]=>none
 | v::r=>if v.rc.lo<=x/\x<v.rc.hi then some v else cY x r
def kF {x:Int}(T:aV H nm A n c B m d E k e F l f s):
  ZB 33 [.agg ⟨[ΦT nm,S A n c,S B m d,S E k e,S F l f]⟩,Φi x] H ⟨true,[(true,[.int .i64,.int .i64,.sl]),(false,[.bool])]⟩
   (λ a b D y z Q Y=>Q=(cY x s.vers).isSome/\ae .i64 a/\ae .i64 b/\∃l,Sl Y D y z l/\(⟨⟨a,b⟩,l⟩:dh)=(cY x s.vers).getD og):=by
 refine ΦK 0 (aj [] [] [(2,[ag 11,.box 4 87 [.int .i64,.int .i64,.sl]])]) (λ a=>W Xw H (λ b=>b 0 0 0 none 0 0 H) λ b c d e f g h i j=>J (e<O n) (ΦX A e n (ΦE Xs d A (N e*3) (λ k l m o p=>let q:=ΦR (e+1)/\b (e+1) f g h i j d/\c (e+1) f g h i j<c e f g h i j;J (k<=x) (J (x<l) (C Yy 83 [ΦG [I k,I l,S m o p]] d (λ r s t u v w=>a s t u v w true r)) q) q))) (a 0 0 none 0 0 false d)) ?_;dsimp only[PL,aQ,aR,aW,eQ,C,ΦE,N,ΦR,W,ΦX,O,J];have v:=T.vers;have v1:=v.bn;have R:=v.len;refine⟨λ i _ _ _ _ _ _=>0<=i/\i<=n/\cY x s.vers=cY x (s.vers.drop i.toNat),λ i _ _ _ _ _=>n-i.toNat,P' rfl,?_⟩;rintro H2 w i _ _ _ _ _ ⟨q,h1,j⟩;refine⟨λ g=>?_,λ o=>?_⟩
 .have g:=aab g;obtain⟨U,P,_,t,⟨D,y,z,rfl,G,V,r⟩⟩:=v.at w q g;rw[ak q U,cY]at j;refine⟨P,q,g,_,_,_,_,_,t,λ p=>⟨λ u=>?_,λ u=>?_⟩,λ p=>?_⟩
  .rw[if_pos ⟨aab p,aab u⟩]at j;refine⟨_,jZ r,?_⟩;rintro Z l3 _ _ M L X ⟨rfl,rfl,h⟩;rw[j];exact⟨rfl,G,V,_,h,rfl⟩
  .rw[if_neg (λ h=>aac u h.2)]at j;exact u' ⟨y' j,by grind⟩
  .rw[if_neg (λ h=>aac p h.1)]at j;exact u' ⟨y' j,by grind⟩
 .rw[ai (aac o) R]at j;rw[j];exact⟨rfl,by simp[ae],by simp[ae],[],Sl.nil,rfl⟩
def aF:Int->List cz->Int
 | w,[]=>w
 | w,c::r=>aF (max w c.id) r
def aS:Int->List dh->Int
 | w,[]=>w
 | w,v::r=>aS (aF w v.cols) r
def width (s:bp):Int:=aS 0 s.vers
def oh (U:aV H nm A n c B m d E k e F l f s):
  ZB 106 [.agg ⟨[ΦT nm,S A n c,S B m d,S E k e,S F l f]⟩] H gL (λ r _=>r=width s/\ae .i64 r):=by
 refine ΦK 0 (aj [] [] [(3,[ag 3,ag 11]),(6,[ag 3,ag 18])]) (λ a=>W ZK H (λ b=>b 0 0 H) λ b c d e f=>J (f<O n) (ΦX A f n (ΦE Xs d A (N f*3) (λ g h i j k=>W ZK d (λ l=>l e 0 d) λ l m o p q=>J (q<O j) (ΦX i q j (ΦE Xq o i (N q*3) (λ r s t=>ΦR (q+1)/\l (max p r) (q+1) o/\m (max p r) (q+1)<m p q))) (ΦR (f+1)/\b p (f+1) o/\c p (f+1)<c e f)))) (a e d)) ?_;dsimp only[PL,aW,eQ,ΦE,N,ΦR,W,ΦX,O,J];have x:=U.vers;have v1:=x.bn;have R:=x.len;unfold width;refine⟨λ w i _=>0<=i/\i<=n/\ae .i64 w/\aS 0 s.vers=aS w (s.vers.drop i.toNat),λ _ i=>n-i.toNat,P' ⟨by simp[ae],rfl⟩,?_⟩;rintro H2 z w i ⟨t,h1,Q,q⟩;refine⟨λ a=>?_,λ o=>?_⟩
 .have a:=aab a;obtain⟨V,M,_,u,⟨A',D,c',rfl,Z,r2,b⟩⟩:=x.at z t a;rw[ak t V,aS]at q;have d1:=b.bn;have G:=b.len;generalize s.vers[i.toNat].cols=L at q b G;refine⟨M,t,a,_,_,_,_,_,u,λ p j _=>0<=j/\j<=D/\ae _ p/\aF w _=aF p (L.drop j.toNat),λ _ j=>D-j.toNat,P' ⟨Q,rfl⟩,?_⟩;rintro H3 h p j ⟨y,Y,P,C⟩;refine⟨λ g=>?_,λ v=>?_⟩
  .have g:=aab g;obtain⟨I,T,_,X,rfl,q1,q2,q3⟩:=b.at h y g;rw[ak y I]at C;exact⟨T,y,g,_,_,_,X,by omega,y' (T' C),by grind⟩
  .rw[ai (aac v) G,aF]at C;exact u' ⟨y' ⟨P,by grind⟩,by grind⟩
 .rw[ai (aac o) R,aS]at q;grind
end
end
section
variable {a:Int}{b:Nat}{g:Type}
def take_at {l:List g}(c:0<=a)(b:a.toNat<l.length):l.take (a+1).toNat=l.take a.toNat++[l[a.toNat]]:=by
 rw[show(a+1).toNat=a.toNat+1 by omega,aaj _]
def ez {l:List g}(h:¬a<b)(c:l.length=b):l.take a.toNat=l:=aag (by omega)
def empty:ByteArray:=⟨⟨[]⟩⟩
def kr:bp:=⟨empty,[],[],[],[]⟩
abbrev Jv:cj:=⟨false,[(true,[.str,.sl,.sl,.sl,.sl])]⟩
abbrev Ct:cj:=⟨true,[(true,[.str,.sl,.sl,.sl,.sl]),(false,[.int .i64])]⟩
def rU {H:Heap}{A:D'}{c i:Nat}{l:List cz}(d:Sl H A b c l):
  ZB 140 [S A b c] H ⟨false,[(false,[.row i 46])]⟩ (λ f m p=>f=b/\Row p m l):=by
 refine ΦK 0 bE (λ a=>ΦQ (Option.isNone A) (a 0 [] H) (∃c:G',Cells H A 0 c/\L c=b*3/\(0+b)*32<=M/\a (0+b) ([]++c) H)) ?_;dsimp only[L,M,ΦQ];refine⟨λ q=>?_,λ q=>?_⟩
 .have:b=0:=by
   rcases abl b with h | h
   .grind
   .obtain⟨a,o,e⟩:=d.cD h;grind
  subst this;rw[aal d.len];exact⟨rfl,rfl⟩
 .obtain⟨g,k,j⟩:=d.row;refine⟨g,k,by rw[j.length,d.len];rfl,by have:=d.bnd;rw[aaT];omega,aaT _,by grind⟩
section
variable {H:Heap}{nm:ByteArray}{A:D'}{n c:Nat}{B:D'}{m d:Nat}{E:D'}{k e:Nat}{F:D'}{l f:Nat}{s:bp}
def ba:aV H ⟨⟨[]⟩⟩ none 0 0 none 0 0 none 0 0 none 0 0 kr:=⟨rfl,by simp[str,kr,empty,ByteArray.size],Sl.nil,Sl.nil,Sl.nil,Sl.nil⟩
def ua (hs:aV H nm A n c B m d E k e F l f s):
  ZB 253 [.agg ⟨[ΦT nm,S A n c,S B m d,S E k e,S F l f]⟩] H ⟨false,[(true,[.str,.row b 87,.sl,.sl,.sl])]⟩
   (λ g n' xs B' m' d' E' k' e' F' l' f' a=>g=s.name/\n'=s.vers.length/\Row a xs s.vers/\Sl a B' m' d' s.key/\Sl a E' k' e' s.fks/\Sl a F' l' f' s.csts):=by
 refine ΦK 9 (aj [] [(1,oj),(5,[2,4,6,9,11,13,14,17,0]),(10,oi),(15,nZ)] [(3,[ag 19,.box 3 44 [.str,.row 73 87,.sl,.row 74 68,.row 75 71]]),(8,[ag 34,.box 3 44 [.str,.row 76 87,.sl,.row 77 68,.row 78 71]]),(13,[ag 56,.box 3 44 [.str,.row 79 87,.sl,.row 80 68,.row 81 71]])]) (λ a=>let b:=C ZT 186 [S B m d] H λ b c e f=>W Xx b (λ g=>g 0 nm 0 [] c e f 0 [] 0 [] b) λ g h i j o p q r s t u v w x=>J (j<O n) (ΦX A j n (ΦE Xs i A (N j*3) (λ y z a0 a1 a2=>C Yy 83 [ΦG [I y,I z,S a0 a1 a2]] i λ a3 a4 a5 a6 a7 a8=>(p+1)*40<=M/\ΦR (j+1)/\let a9:=q++[Value.int .i64 a4,I a5,S a6 a7 a8];g (j+1) o (p+1) a9 r s t u v w x a3/\h (j+1) o (p+1) a9 r s t u v w x<h j o p q r s t u v w x))) (W Xx i (λ y=>y 0 o p q r s t u v w x i) (λ y z a0 a1 a2 a3 a4 a5 a6 a7 a8 a9 b0 b1=>J (a1<O k) (ΦX E a1 k (ΦE Xu a0 E (N a1*3) (λ b2 b3 b4 b5 b6 b7 b8=>C ZT 186 [S b2 b3 b4] a0 λ b9 c0 c1 c2=>C ZT 186 [S b6 b7 b8] b9 λ c3 c4 c5 c6=>(a8+1)*64<=M/\ΦR (a1+1)/\let c7:=a9++[Value.slice c0 c1 c2,ΦT b5,S c4 c5 c6];y (a1+1) a2 a3 a4 a5 a6 a7 (a8+1) c7 b0 b1 c3/\z (a1+1) a2 a3 a4 a5 a6 a7 (a8+1) c7 b0 b1<z a1 a2 a3 a4 a5 a6 a7 a8 a9 b0 b1))) (W Xx a0 (λ b2=>b2 0 a2 a3 a4 a5 a6 a7 a8 a9 b0 b1 a0) (λ b2 b3 b4 b5 b6 b7 b8 b9 c0 c1 c2 c3 c4 c5=>J (b5<O l) (ΦX F b5 l (ΦE Xv b4 F (N b5*2) (λ c6 c7 c8 c9=>C ZT 186 [S c7 c8 c9] b4 λ d0 d1 d2 d3=>(c4+1)*32<=M/\ΦR (b5+1)/\let d4:=c5++[Value.int .i64 c6,S d1 d2 d3];b2 (b5+1) b6 b7 b8 b9 c0 c1 c2 c3 (c4+1) d4 d0/\b3 (b5+1) b6 b7 b8 b9 c0 c1 c2 c3 (c4+1) d4<b3 b5 b6 b7 b8 b9 c0 c1 c2 c3 c4 c5))) (U b4 c3 c2 (λ c6 c7 c8=>U c8 c5 c4 λ c9 d0 d1=>a b6 b7 b8 b9 c0 c1 c6 c2 c7 c9 c4 d0 d1))))));b/\b) ?_;dsimp only[PL,aQ,aR,aW,eQ,C,ΦE,M,N,ΦR,W,ΦX,O,J];obtain⟨rfl,a4,hv,hk,hf,hc⟩:=hs;have v1:=hv.bn;have v2:=hv.len;have v3:=hv.bnd;have f1:=hf.bn;have f2:=hf.len;have f3:=hf.bnd;have c1:=hc.bn;have c2:=hc.len;have cb:=hc.bnd;refine⟨⟨_,eF hk,?_⟩,⟨_,eF hk,?_⟩⟩;all_goals
  intro H1 L1 A' n' c' k1;refine⟨λ b g D y p o h G T L V a=>0<=b/\b<=n/\g=s.name/\D=b.toNat/\Row a y (s.vers.take b.toNat)/\Sl a p o h s.key/\G=0/\T=[]/\L=0/\V=[],
   λ b _ _ _ _ _ _ _ _ _ _=>n-b.toNat,y' ⟨rfl,rfl,rfl,k1,rfl,rfl,rfl,rfl⟩,?_⟩
  rintro H2 l2 b _ _ y p o h _ _ _ _ ⟨i0,i1,rfl,rfl,rv,k2,rfl,rfl,rfl,rfl⟩;have L2:=aa L1 l2;refine⟨λ t=>?_,λ a2=>?_⟩
  .have t:=aab t;obtain⟨hi,hA,_,a3,⟨A3,n3,c3,rfl,R,X,r3⟩⟩:=hv.at L2 i0 t;refine⟨hA,i0,t,_,_,_,_,_,a3,_,jZ r3,?_⟩;rintro H3 Y _ _ A4 n4 c4 ⟨rfl,rfl,r4⟩;have v4:n*40<=140737488355328:=v3;refine y' ⟨y' ⟨rfl,by omega,?_,k2.mono Y,rfl,rfl,rfl,rfl⟩,by grind⟩;rw[take_at i0 hi];exact(rv.mono Y).append (Row.one ⟨A4,n4,c4,rfl,R,X,r4⟩)
  rw[ez (aac a2) v2]at rv;have ei:b.toNat=s.vers.length:=by grind
  refine⟨λ j g D y p o h G T L V a=>0<=j/\j<=k/\g=s.name/\D=s.vers.length/\Row a y _/\Sl a p o h _/\G=j.toNat/\Row a T (s.fks.take j.toNat)/\L=0/\V=[],
   λ j _ _ _ _ _ _ _ _ _ _=>k-j.toNat,P' ⟨rfl,ei,rv,k2,rfl,rfl,rfl,rfl⟩,?_⟩
  rintro H3 Y j _ _ a9 A3 n3 c3 _ a7 _ _ ⟨j0,j1,rfl,rfl,P,k3,rfl,x,rfl,rfl⟩;have L3:=aa L2 Y;refine⟨λ u=>?_,λ a0=>?_⟩
  .have u:=aab u;obtain⟨ji,jA,_,jc,⟨A4,n4,c4,B4,m4,d4,rfl,R,X,r3⟩⟩:=hf.at L3 j0 u;refine⟨jA,j0,u,_,_,_,_,_,_,_,jc,_,eF R,?_⟩;intro H4 Z A5 n5 c5 r5;refine⟨_,eF (r3.mono Z),?_⟩;intro H5 r A6 n6 c6 r6;have L5:=aa Z r;have f4:k*64<=140737488355328:=f3;refine y' ⟨y' ⟨rfl,rfl,P.mono L5,k3.mono L5,by omega,?_,rfl,rfl⟩,by grind⟩;rw[take_at j0 ji];exact(x.mono L5).append (Row.one ⟨A5,n5,c5,A6,n6,c6,rfl,r5.mono r,X,r6⟩)
  rw[ez (aac a0) f2]at x;have ej:j.toNat=s.fks.length:=by grind
  refine⟨λ j g D y p o h G T L V a=>0<=j/\j<=l/\g=s.name/\D=s.vers.length/\Row a y _/\Sl a p o h _/\G=s.fks.length/\Row a T _/\L=j.toNat/\Row a V (s.csts.take j.toNat),
   λ j _ _ _ _ _ _ _ _ _ _=>l-j.toNat,P' ⟨rfl,rfl,P,k3,ej,x,rfl,rfl⟩,?_⟩
  rintro H4 Z q _ _ a6 A4 n4 c4 _ a8 _ a5 ⟨q0,q1,rfl,rfl,z,k4,rfl,Q,rfl,w⟩;have L4:=aa L3 Z;refine⟨λ v=>?_,λ a1=>?_⟩
  .have v:=aab v;obtain⟨qi,qA,_,qc,⟨A5,n5,c5,rfl,R,X⟩⟩:=hc.at L4 q0 v;refine⟨qA,q0,v,_,_,_,_,qc,_,eF X,?_⟩;intro H5 r A6 n6 c6 r6;have c4:l*32<=140737488355328:=cb;refine y' ⟨y' ⟨rfl,rfl,z.mono r,k4.mono r,rfl,Q.mono r,u' ?_⟩,by grind⟩;rw[take_at q0 qi];exact(w.mono r).append (Row.one ⟨A6,n6,c6,rfl,R,r6⟩)
  rw[ez (aac a1) c2]at w;have eq:q.toNat=s.csts.length:=by grind
  intro A5 c5 H5 r q5 g5 A6 c6 H6 l6 q6 g6;exact⟨rfl,rfl,z.mono (aa r l6),k4.mono (aa r l6),(Q.sl r q5 rfl g5 (by grind) (by omega)).mono l6,w.sl (aa r l6) q6 eq.symm g6 (by grind) (by omega)⟩
def bf (l:List dh)(a:List cz)(x:Int):List dh:=match l.getLast? with
 | none=>l
 | some v=>if v.rc.lo=x then l.dropLast++[⟨v.rc,a⟩]else l.dropLast++[⟨⟨v.rc.lo,x⟩,v.cols⟩,⟨⟨x,1099511627776⟩,a⟩]
def Cu (l:List g)(t:g)(h:l≠[]):l.set (l.length-1) t=l.dropLast++[t]:=by
 have:=(aek h).symm;grind
def gF (l:List g)(a:b<l.length)(e:b=l.length-1):l.getLast?=some l[b]:=by
 grind
def rV {g:D'}{q:Nat}{h:List cz}(P:aV H nm A n c B m d E k e F l f s)(hc:Sl H g b q h)(hx:ae .i64 a)(hn:s.vers≠[])(hb:s.vers.length<=3000000000000):
  ZB 269 [.agg ⟨[ΦT nm,S A n c,S B m d,S E k e,S F l f]⟩,S g b q,Φi a] H Jv
   (λ Q G y z B' m' d' E' k' e' F' l' f' H'=>aV H' Q G y z B' m' d' E' k' e' F' l' f' {s with vers:=bf s.vers h a}):=by
 refine ΦK 1 {bE with res:=wj [(11,⟨false,[(true,[.str,.row 47 87,.sl,.sl,.sl])]⟩)]} (λ h=>C Yz 253 [ΦG [ΦT nm,S A n c,S B m d,S E k e,S F l f]] H λ i j o p r s t u v w x y z=>ΦR (O o-1)/\ΦY (O o-1) o (ΦF ZE p (N (O o-1)*3+0+0) 1 (λ a0=>J (a0=a) (N (O o-1)*3+2+1<=L p/\U i (av p (N (O o-1)*3+2) [S g b q]) o (λ a1 a2 a3=>h j a1 o a2 r s t u v w x y z a3)) (N (O o-1)*3+0+1+1<=L p/\(o+1)*40<=M/\U i (av p (N (O o-1)*3+0+1) [I a]++[Value.int .i64 a,I 1099511627776,S g b q]) (o+1) (λ a1 a2 a3=>h j a1 (o+1) a2 r s t u v w x y z a3))))) ?_;dsimp only[aQ,aR,eQ,C,ΦF,L,M,N,ΦR,ΦY,O,J];refine⟨_,ua P,?_⟩;rintro H1 l1 _ _ xs B1 m1 d1 E1 k1 e1 F1 a0 f1 ⟨rfl,rfl,Y,V,R,Z⟩;have X:=aaP.2 hn;have hi:((s.vers.length:Int)-1).toNat<s.vers.length:=by omega
 have W:((s.vers.length:Int)-1).toNat=s.vers.length-1:=by simp
 have i:=gF _ hi W;obtain⟨vs,⟨G,y,z,rfl,T,r2,r3⟩,hw,w⟩:=Y.mg hi;have v:=Y.length;have v:xs.length=s.vers.length*3:=v;have o:∀t,s.vers.set ((s.vers.length:Int)-1).toNat t=s.vers.dropLast++[t]:=λ t=>by rw[W];exact Cu _ _ hn
 refine J' ⟨_,hw 0 1 (by grind),λ u=>u' ?_,λ u=>y' ?_⟩
 .intro A2 c2 H2 j D r;have u:=aab u;have:=w 2 [S g b q] ⟨s.vers[((s.vers.length:Int)-1).toNat].rc,h⟩ (acE rfl) ⟨g,b,q,rfl,T,r2,hc.mono l1⟩;rw[o]at this;refine⟨rfl,P.str,?_,V.mono j,R.mono j,Z.mono j⟩;simp only[bf,i];rw[if_pos u];exact this.sl j D (by grind) r (by show _*40<=_;omega) (by omega)
 .intro A2 c2 H2 j D r;have u:=aac u;have:=w 1 [.int _ a] ⟨⟨s.vers[((s.vers.length:Int)-1).toNat].rc.lo,a⟩,s.vers[((s.vers.length:Int)-1).toNat].cols⟩ (acE rfl) ⟨G,y,z,rfl,T,hx,r3⟩;rw[o]at this;have:=this.append (Row.one (t:=(⟨⟨a,1099511627776⟩,h⟩)) ⟨g,b,q,rfl,hx,by simp[ae],hc.mono l1⟩);refine⟨rfl,P.str,?_,V.mono j,R.mono j,Z.mono j⟩;simp only[bf,i];rw[if_neg u];rw[aat]at this;exact this.sl j D (by grind) r (by show _*40<=_;omega) (by omega)
def bt (s:bp)(x:Int):bp×Int:=
 if x<0\/1099511627776<=x then(kr,1)
 else if aw s=false then(kr,18)
 else match s.vers with
  |[v]=>if v.rc=⟨0,1099511627776⟩then({s with vers:=[⟨⟨x,v.rc.hi⟩,v.cols⟩]},0)else(kr,18)
  | _=>(kr,18)
def Bk (g:aV H nm A n c B m d E k e F l f s):
  ZB 191 [.agg ⟨[ΦT nm,S A n c,S B m d,S E k e,S F l f]⟩,Φi a] H Ct
   (λ D A' T Z X m' d' E' k' e' F' l' f' r H'=>aV H' D A' T Z X m' d' E' k' e' F' l' f' (bt s a).1/\r=(bt s a).2):=by
 refine ΦK 1 {aj [17] [(4,[2,5]++ab 6 16 [0])] []with res:=wj [(36,⟨false,[(true,[.str,.row 44 87,.sl,.sl,.sl])]⟩)]} (λ b=>let g:=b ⟨⟨[]⟩⟩ none 0 0 none 0 0 none 0 0 none 0 0 1 H;J (a<0) g (J (1099511627776<=a) g (let h:=[ΦG [ΦT nm,S A n c,S B m d,S E k e,S F l f]];C ZO 252 h H λ i j=>let o:=b ⟨⟨[]⟩⟩ none 0 0 none 0 0 none 0 0 none 0 0 18 i;ΦQ (!j) o (V (O n=1) o (ΦX A 0 n (ΦE ZK i A (N 0*3+0) (λ p q=>ΦQ (!(decide (p=0)&&decide (q=1099511627776))) o (C YA 253 h i (λ r s t u v w x y z a0 a1 a2 a3=>ΦY 0 t (N 0*3+0+0+1<=L u/\U r (av u (N 0*3+0+0) [I a]) t (λ a4 a5 a6=>b s a4 t a5 v w x y z a0 a1 a2 a3 0 a6))))))))))) ?_;dsimp only[aQ,aR,eQ,C,ΦE,L,N,ΦQ,ΦX,ΦY,O,V,J];unfold bt;have b2:=g.vers.len;refine⟨λ h=>?_,λ h=>⟨λ j=>?_,λ j=>⟨_,oK g,?_⟩⟩⟩
 .rw[if_pos (.inl (aab h))];exact⟨ba,rfl⟩
 .rw[if_pos (.inr (aab j))];exact⟨ba,rfl⟩
 have h:=aac h;have j:=aac j;rw[if_neg (by omega)];rintro H1 Q _ rfl;refine⟨λ t=>?_,λ ht=>?_⟩
 .simp at t;rw[if_pos t];exact⟨ba,rfl⟩
 rw[if_neg (by grind)];refine⟨λ u=>?_,λ u=>?_⟩
 .split
  .grind
  .exact⟨ba,rfl⟩
 have u:s.vers.length=1:=by grind
 match P:s.vers,u with
 |[v],_=>
  obtain⟨M,hA,_,p,b⟩:=g.vers.at Q (i:=0) (by simp) (by omega);have R:s.vers[(0:Int).toNat]=v:=by grind
  rw[R]at b;obtain⟨A1,n1,c1,rfl,r1,r2,r3⟩:=b;refine⟨hA,by simp,by omega,_,_,p.TH (k:=0) rfl rfl,λ t=>?_,λ q=>?_⟩
  .dsimp only;rw[if_neg (λ hh=>by grind)];exact⟨ba,rfl⟩
  .have q:v.rc=⟨0,1099511627776⟩:=by
    generalize v.rc=z at q;cases z;grind
   dsimp only;rw[if_pos q];refine⟨_,ua (g.mono Q),?_⟩;rintro H2 l2 _ _ xs B1 m1 d1 E1 k1 e1 F1 a0 f1 ⟨rfl,rfl,w,h1,Y,h3⟩;rw[P]at w;have W:xs.length=1*3:=w.length;have M:(0:Int).toNat<[v].length:=by simp
   obtain⟨vs,b,hw,y⟩:=w.mg M;obtain⟨A2,n2,c2,rfl,q1,q2,q3⟩:=b;refine N' (U' ?_);intro A3 c3 H3 o g3 G;have:=y 0 [.int _ a] ⟨⟨a,v.rc.hi⟩,v.cols⟩ (acE rfl) ⟨A2,n2,c2,rfl,by simp[ae];omega,q2,q3⟩;refine⟨⟨rfl,g.str,?_,h1.mono o,Y.mono o,h3.mono o⟩,rfl⟩;exact Row.sl (l:=[(⟨⟨a,v.rc.hi⟩,v.cols⟩:dh)]) this o g3 (by grind) G (by rw[P];show 1*40<=_;simp) (by grind)
def cg (s:bp)(x:Int):Bool:=aw s&&(match s.vers.getLast? with | none=>false | some v=>decide (v.rc.lo<=x))&&decide (x<1099511627776)
def bF {s:bp}(h:aw s=true):s.vers≠[]:=by
 intro e;simp[aw,fy,eV,e]at h
def cZ {s:bp}(h:aw s=true){v:dh}(a:v∈s.vers):v.cols.length<=12/\1<=v.cols.length:=by
 simp only[aw,aah]at h;obtain⟨⟨⟨⟨⟨⟨_,h⟩,_⟩,_⟩,_⟩,_⟩,_⟩:=h;have:=aaG.1 h v a;simp[aB,aah]at this;omega
def lS (b:aV H nm A n c B m d E k e F l f s):
  ZB 265 [.agg ⟨[ΦT nm,S A n c,S B m d,S E k e,S F l f]⟩,Φi a] H fg (λ r _=>r=cg s a):=by
 refine ΦK 0 (aj [6] [] []) (λ b=>C ZO 252 [ΦG [ΦT nm,S A n c,S B m d,S E k e,S F l f]] H λ g h=>ΦQ h (ΦR (O n-1)/\ΦX A (O n-1) n (ΦE ZE g A (N (O n-1)*3+0+0) (λ i=>J (i<=a) (b (decide (a<1099511627776)) g) (b false g)))) (b false g)) ?_;dsimp only[aQ,aR,eQ,C,ΦE,N,ΦQ,ΦR,ΦX,O,J];have u:=b.vers.bn;have G:=b.vers.len;refine⟨_,oK b,?_⟩;rintro D q _ rfl;unfold cg;refine⟨λ o=>?_,λ z=>by grind⟩;have j:=aaP.2 (bF o);obtain⟨I,p,_,g,⟨w,M,y,rfl,v,L,t⟩⟩:=b.vers.at q (i:=(n)-1) (by omega) (by omega);refine u' ⟨p,y' ⟨_,g.cy (k:=0) rfl,λ h=>?_,λ h=>?_⟩⟩
 .grind
 grind
def eW (s:bp)(c:cz)(x:Int):bp×Int:=
 if cg s x=false then(kr,1)
 else if dH c.name=false then(kr,8)
 else if de c.kind=false then(kr,7)
 else match s.vers.getLast? with
  | none=>(kr,1)
  | some v=>if(v.cols.any λ o=>decide (o.name=c.name))=true then(kr,9)
   else if width s=12 then(kr,12)
   else({s with vers:=bf s.vers (v.cols++[⟨width s+1,c.name,c.kind⟩]) x},0)
def vm {x b:Int}{u:ByteArray}(T:aV H nm A n c B m d E k e F l f s)(hu:str u)(hb:ae .i64 b)(hx:ae .i64 x)(b3:s.vers.length<=3000000000000):
  ZB 207 [.agg ⟨[ΦT nm,S A n c,S B m d,S E k e,S F l f]⟩,.agg ⟨[Φi a,ΦT u,Φi b]⟩,Φi x] H Ct
   (λ b7 A' n' c' B' m' d' E' k' e' F' l' f' r H'=>aV H' b7 A' n' c' B' m' d' E' k' e' F' l' f' (eW s ⟨a,u,b⟩ x).1/\r=(eW s ⟨a,u,b⟩ x).2):=by
 refine ΦK 1 {aj [12,24,28,34,41] [(14,nv)] []with res:=wj [(54,⟨false,[(false,[.row 60 46])]⟩)]} (λ a=>let g:=[ΦT nm,S A n c,S B m d,S E k e,S F l f];C ZO 265 [ΦG g,I x] H λ h i=>ΦQ (!i) (a ⟨⟨[]⟩⟩ none 0 0 none 0 0 none 0 0 none 0 0 1 h) (ΦR (O n-1)/\ΦX A (O n-1) n (ΦE Xs h A (N (O n-1)*3) (λ j o p q r=>C ZP 106 [ΦG g] h λ s t=>C ZO 266 [ΦT u] s λ v w=>ΦQ (!w) (a ⟨⟨[]⟩⟩ none 0 0 none 0 0 none 0 0 none 0 0 8 v) (C ZO 267 [I b] v (λ y z=>ΦQ (!z) (a ⟨⟨[]⟩⟩ none 0 0 none 0 0 none 0 0 none 0 0 7 y) (C ZP 268 [ΦG [I j,I o,S p q r],ΦT u] y (λ a0 a1=>J (0<=a1) (a ⟨⟨[]⟩⟩ none 0 0 none 0 0 none 0 0 none 0 0 9 a0) (J (t=12) (a ⟨⟨[]⟩⟩ none 0 0 none 0 0 none 0 0 none 0 0 12 a0) (ΦR (t+1)/\(let a2:=C YB 140 [S p q r] a0 λ a2 a3 a4=>(a3+1)*32<=M/\U a2 (a4++[Value.int .i64 (t+1),ΦT u,I b]) (a3+1) λ a5 a6 a7=>C YC 269 [ΦG g,S a5 (a3+1) a6,I x] a7 λ a8 a9 b0 b1 b2 b3 b4 b5 b6 b7 b8 b9 c0 c1=>a a9 b0 b1 b2 b3 b4 b5 b6 b7 b8 b9 c0 c1 0 a8;a2/\a2))))))))))) ?_;dsimp only[aQ,aR,eQ,C,ΦE,M,N,ΦQ,ΦR,ΦX,O,J];have b1:=T.vers.bn;have b2:=T.vers.len;unfold eW;refine⟨_,lS T,?_⟩;rintro H1 l1 _ rfl;refine⟨λ y=>?_,λ ht=>?_⟩
 .simp only[aay]at y;rw[if_pos y];exact⟨ba,rfl⟩
 simp only[aaF]at ht;rw[if_neg (by simp[ht])];have j:aw s=true:=by simp only[cg,aah]at ht;exact ht.1.1
 have b9:0<s.vers.length:=aaP.2 (bF j);obtain⟨hi,hA,_,a7,⟨A1,n1,c1,rfl,r1,r2,r3⟩⟩:=T.vers.at l1 (i:=(n:Int)-1) (by omega) (by omega);have o:=gF s.vers hi (by omega);have P:=cZ j (aan hi);rw[o];dsimp only;generalize s.vers[((n:Int)-1).toNat]=v at a7 r1 r2 r3 P o;have d1:=r3.len;refine u' ⟨hA,y' ⟨_,_,_,_,_,a7,_,oh (T.mono l1),?_⟩⟩;rintro H2 l2 _ ⟨rfl,z⟩;refine⟨_,lQ,?_⟩;rintro H3 l3 _ rfl;refine⟨λ y=>?_,λ h1=>⟨_,lP,?_⟩⟩
 .simp at y;rw[if_pos y];exact⟨ba,rfl⟩
 rw[if_neg (by grind)];rintro H4 l4 _ rfl;refine⟨λ y=>?_,λ h2=>?_⟩
 .simp at y;rw[if_pos y];exact⟨ba,rfl⟩
 rw[if_neg (by grind)];have L4:=aa l2 (aa l3 l4);refine⟨_,Ec (r3.mono L4),?_⟩;rintro H5 l5 _ rfl;rw[aad,aaf,eU _ _ _ (by simp)];refine⟨λ h=>?_,λ h3=>⟨λ h=>?_,λ h4=>?_⟩⟩
 .rw[if_pos h];exact⟨ba,rfl⟩
 .rw[if_neg h3,if_pos (aab h)];exact⟨ba,rfl⟩
 have a0:ae .i64 (width s+1):=by
  have c0:width s<=12:=by
   have a2:∀v∈s.vers,∀c∈v.cols,c.id<=12:=λ v hv c R=>(oe (by simp[aw]at j;grind) v hv c R).2;have w1:∀(l:List _) (w:Int),w<=12->(∀c∈l,c.id<=12)->aF w l<=12:=by
    intro l;induction l with
    | nil=>intro w z _;exact z
    | cons c r ih=>intro w z R;exact ih _ (by grind) (λ c h=>R c (by grind))
   have w2:∀(l:List _) (w:Int),w<=12->(∀v∈l,∀c∈v.cols,c.id<=12)->aS w l<=12:=by
    intro l;induction l with
    | nil=>intro w z _;exact z
    | cons v r ih=>intro w z R;exact ih _ (w1 _ _ z (R v (by simp))) (λ v h=>R v (by grind))
   exact w2 _ _ (by simp) a2
  simp[ae]at z⊢;omega
 have c2:∃D:Nat->G'->Heap->Prop,ZB 140 [S A1 n1 c1] H5 ⟨false,[(false,[.row 60 46])]⟩ D/\∀(L:Heap),Heap.le H5 L->∀(q:Nat) (G:G'),D q G L->
   (q+1)*32<=140737488355328/\∀(W:D') (a3:Nat) (p:Heap),Heap.le L p->Cells p W 0 (G++[Φi (width s+1),ΦT u,Φi b])->q+1<=a3->
    ∃(g:ByteArray->D'->Nat->Nat->D'->Nat->Nat->D'->Nat->Nat->D'->Nat->Nat->Heap->Prop),ZB 269 [.agg ⟨[ΦT nm,S A n c,S B m d,S E k e,S F l f]⟩,S W (q+1) a3,Φi x] p Jv g/\
     ∀(Q:Heap),Heap.le p Q->∀(b4:ByteArray) (b5:D') (a6 b0:Nat) (X:D') (Z a9:Nat) (a4:D') (Y a5:Nat) (V:D') (a1 a8:Nat),g b4 b5 a6 b0 X Z a9 a4 Y a5 V a1 a8 Q->
      aV Q b4 b5 a6 b0 X Z a9 a4 Y a5 V a1 a8 {s with vers:=bf s.vers (v.cols++[⟨width s+1,u,b⟩]) x}/\(0:Int)=0:=by
  refine⟨_,rU (r3.mono (aa L4 l5)),?_⟩;rintro H6 l6 n9 xs ⟨c3,hr⟩;refine u' ?_;intro A7 c7 H7 l7 g7 b6;have L7:=aa l1 (aa L4 (aa l5 (aa l6 l7)));have b8:=(hr.append (Row.one (t:=(⟨width s+1,u,b⟩)) ⟨rfl,a0,hu,hb⟩)).sl l7 g7 (by grind) b6 (by show _*32<=_;omega) (by omega);refine⟨_,rV (T.mono L7) b8 hx (bF j) b3,?_⟩;simp
 grind
end
end
end Go.Vc
namespace Go.Vc
open Go
def PZ (u v:cT):Prop:=u.p.hi<=v.p.lo/\¬(u.p.hi=v.p.lo/\u.ids=v.ids)
def jT:List cT->Prop
 |[]=>True
 |[_]=>True
 | u::v::r=>PZ u v/\jT (v::r)
def jH:∀(l:List cT) (v:cT),jT (l++[v])↔jT l/\∀u,l.getLast?=some u->PZ u v
 |[],v=>by simp[jT]
 |[u],v=>by simp[jT]
 | u::w::r,v=>by
  have a:=jH (w::r) v;simp[jT];grind
def JC {l:List cT}{v:cT}(b:jT l)(d:∀u,l.getLast?=some u->u.p.hi<=v.p.lo):jT (cG l v)/\∀u,(cG l v).getLast?=some u->u.p.hi=v.p.hi:=by
 unfold cG;split
 .rename_i u g;obtain⟨c,rfl⟩:∃c,l=c++[u]:=by
   rw[abX]at g;grind
  rw[aea];obtain⟨f,e⟩:=(jH _ u).1 b;split
  .refine⟨(jH _ _).2 ⟨f,λ w a=>?_⟩,λ w a=>?_⟩
   .have:=e w a;exact this
   grind
  .rename_i h;refine⟨(jH _ _).2 ⟨b,λ w a=>?_⟩,λ w a=>?_⟩
   .simp at a;subst a;exact⟨d u (by simp),h⟩
   grind
 .refine⟨(jH _ _).2 ⟨b,λ w a=>?_⟩,λ w a=>?_⟩
  .grind
  grind
def zJ {T:Type}{p:List T->Prop}(d:p [])(c:∀l x,p l->p (l++[x]))(l:List T):p l:=by
 have a:∀r:List T,p r.reverse:=by
  intro r;induction r with
  | nil=>grind
  | cons x r b=>grind
 have:=a l.reverse;grind
def Eg (l:I'):(Lib.compact l).getLast?=l.getLast?:=by
 refine zJ (p:=λ l=>(Lib.compact l).getLast?=l.getLast?) rfl (λ l x a=>?_) l;rw[ko];grind
def lU (l:I')(y:Int):y∈Lib.compact l↔y∈l:=by
 refine zJ (p:=λ l=>y∈Lib.compact l↔y∈l) (by rfl) (λ l x a=>?_) l;rw[ko];grind
def qh (l:I')(h:l.Pairwise (λ a b=>a<=b)):(Lib.compact l).Pairwise (λ a b=>a<b):=by
 revert h;refine zJ (p:=λ l=>l.Pairwise (λ a b=>a<=b)->(Lib.compact l).Pairwise (λ a b=>a<b)) (λ _=>by simp[show Lib.compact ([])=[]from rfl]) (λ l x f=>?_) l;intro h;obtain⟨i,-,c⟩:=aaW.1 h;have c:=λ a e=>c a e x (by simp);rw[ko];split
 .grind
 .refine aaW.2 ⟨f i,N' λ a e b n=>?_⟩;obtain⟨z,k⟩:∃z,(Lib.compact l).getLast?=some z:=by
   grind
  have d:l.getLast?=some z:=by rw[<-Eg];grind
  have j:=c z (abI d);obtain⟨m,g⟩:=abX.1 k;grind
def vr (l:I'):(fT l).Pairwise (λ a b=>a<=b):=by
 have d:=List.pairwise_mergeSort (le:=λ x y:Int=>decide (x<=y)) (λ a b c d e=>by grind) (λ a b=>by grind) l;exact d.imp λ h=>by grind
def JD (g:List Kd):(points g).Pairwise (λ a b=>a<b):=qh _ (vr _)
def Ud (v:cT)(d:Int):Prop:=v.p.lo<=d/\d<v.p.hi
section
variable {a:List Kd}
def Eh {T:Type}{p:T->Bool}:∀{l:List T} {x:T},x∈l.takeWhile p->p x=true
 |[],x,h=>by cases h
 | y::l,x,h=>by
  rw[abw]at h;split at h
  .rcases aaw.1 h with rfl | h
   .grind
   .exact Eh h
  grind
def JE (d:Int)(x:Kd):Bool:=decide (x.t.p.lo<=d)&&decide (d<x.t.p.hi)
def Ng (l:List Kd):Prop:=l.Pairwise (λ a b=>a.t.p.lo<=b.t.p.lo)
def mQ (f:Int)(l:List Kd):List Kd:=l.filter (λ x=> !decide (x.t.p.hi<=f))
def vu {f:Int}:∀{a:List Kd},Ng a->(∀x∈a,f<=x.t.p.lo/\x.t.p.lo<x.t.p.hi)->
  a.filter (JE f)=a.takeWhile (λ x=>decide (x.t.p.lo=f))/\(∀x∈wI f a,f<x.t.p.lo)
 |[],_,_=>⟨rfl,λ x h=>by cases h⟩
 | x::r,hs,h=>by
  obtain⟨l,g⟩:=aaz.1 hs;obtain⟨j,k⟩:=h x (by simp);obtain⟨d,i⟩:=vu g (λ y c=>h y (by grind));by_cases e:x.t.p.lo=f
  .have b:JE f x=true:=by simp[JE,aah];omega
   rw[aba,if_pos b,abw,if_pos (by grind),d];refine⟨rfl,?_⟩;unfold wI;rw[abx,if_pos (by grind)];exact i
  .have b:∀y∈x::r,f<y.t.p.lo:=by
    grind
   refine⟨?_,?_⟩
   .rw[abw,if_neg (by grind)];refine adh.2 λ y c=>?_;have:=b y c;simp[JE,aah];omega
   .unfold wI;simp_all
def Sq {f:Int}{c b:List Kd}(e:∀x∈a,x.t.p.lo<f)(d:mQ f c=mQ f a)(k:Ng b)(i:∀x∈b,f<=x.t.p.lo/\x.t.p.lo<x.t.p.hi):
  lT f c b=(a++b).filter (JE f)/\mQ f (lT f c b)=mQ f (a++b.takeWhile (λ x=>decide (x.t.p.lo=f))):=by
 obtain⟨j,m⟩:=vu k i;have g:mQ f a=a.filter (JE f):=by
  refine acg λ x l=>?_;have:=e x l;rw[aaH];simp[JE,aay];omega
 have h:lT f c b=(a++b).filter (JE f):=by
  rw[abB,j,<-g,<-d];rfl
 refine⟨h,?_⟩;have:lT f c _=mQ f _++b.takeWhile _:=rfl;rw[this,d];simp[mQ,Bool.and_self]
def Cy {f t:Int}(h:f<t)(l:List Kd):mQ t (mQ f l)=mQ t l:=by
 simp[mQ];grind
def kW (g:List Kd):I'->List cT->List cT
 | f::t::ps,out=>kW g (t::ps) (if 2<=(g.filter (JE f)).length then cG out ⟨⟨f,t⟩,cN (g.filter (JE f))⟩else out)
 | _,out=>out
def ub:∀(k:I') (f:Int) (d g c:List Kd) (e:List cT),(f::k).Pairwise (λ a b=>a<b)->(∀x∈d,x.t.p.lo<f)->mQ f g=mQ f d->Ng c->
  (∀x∈c,x.t.p.lo∈f::k/\x.t.p.lo<x.t.p.hi)->jS (f::k) g c e=kW (d++c) (f::k) e
 |[],f,d,g,c,e,_,_,_,_,_=>rfl
 | t::k,f,d,g,c,e,hp,h1,h2,h3,h4=>by
  obtain⟨n,o⟩:=aaz.1 hp;have m:f<t:=n t (by simp);have j:∀x∈c,f<=x.t.p.lo/\x.t.p.lo<x.t.p.hi:=by
   intro x i;obtain⟨a,b⟩:=h4 x i;rcases aaw.1 a with a | a
   .omega
   .have:=n _ a;omega
  obtain⟨r,q⟩:=Sq h1 h2 h3 j;obtain⟨-,s⟩:=vu h3 j;have l:(wI f _).Sublist c:=adi _;have h:c.takeWhile _++wI f _=c:=ada;rw[jS,kW,ub _ t _ _ _ _ o _ _ _ _,aat,h,r]
  .intro x i;rcases aam.1 i with i | i
   .grind
   .have:=Eh i;grind
  .rw[<-Cy m _,q,Cy m]
  .exact abg l h3
  grind
def Qa {x:Kd}(c:x∈a):x.t.p.lo∈points a/\x.t.p.hi∈points a:=by
 have b:∀y,y∈ends a->y∈points a:=λ y d=>by
  rw[points,lU,fT,adF];grind
 exact⟨b _ (aaZ.2 ⟨x,c,by simp⟩),b _ (aaZ.2 ⟨x,c,by simp⟩)⟩
def He (j:Ng a)(i:∀x∈a,x.t.p.lo<x.t.p.hi):oM a=kW a (points a) []:=by
 unfold oM;have d:=JD a;have c:∀x∈a,x.t.p.lo∈points a:=λ x b=>(Qa b).1;revert d c;generalize points a=e;intro d c;cases e with
 | nil=>rfl
 | cons f e=>exact ub _ f _ _ a _ d (λ x h=>by grind) rfl j λ x b=>⟨c x b,i x b⟩
end
section
variable {a b:Kd}
def jf (g:List Kd):Prop:=g.Pairwise (λ a b=>¬qa b a<0)
def cR {a b:List az}:bK a b=0↔a=b:=⟨λ h=>aD.eq _ _ h,λ h=>h▸aD.refl _⟩
def Cz:bH a b=true↔b.key=a.key:=by
 unfold bH;rw[aad];exact cR
def JF (h:a.key=b.key):qa a b=cQ a.t.p.lo b.t.p.lo:=by
 rw[zx];exact if_neg (by simp[GU,h];simp[aD.refl])
def zK (h:a.key≠b.key):qa a b=bK a.key b.key:=by
 exact if_pos (λ e=>h (cR.1 e))
def Qb {l:List Kd}{k:List az}(c:∀x∈l,x.key=k)(f:jf l):Ng l:=by
 refine List.Pairwise.imp_of_mem (λ {a b} d e h=>?_) f;rw[JF ((c b e).trans (c a d).symm)]at h;unfold cQ at h;grind
structure Zo (k:Kd)(r:List Kd):Prop where
 same:∀x∈k::r.takeWhile (bH k),x.key=k.key
 lI:Ng (k::r.takeWhile (bH k))
 rest:∀x∈r.dropWhile (bH k),bK k.key x.key= -1
 sorted:jf (r.dropWhile (bH k))
 eq:k::r=(k::r.takeWhile (bH k))++r.dropWhile (bH k)
def grp {r:List Kd}(l:jf (a::r)):Zo a r:=by
 have b:∀x∈a::r.takeWhile (bH a),x.key=a.key:=by
  intro x c;rcases aaw.1 c with rfl | c
  .rfl
  .exact Cz.1 (Eh c)
 have n:jf (a::r.takeWhile (bH a)):=abg (List.Sublist.cons_cons _ (List.takeWhile_sublist _)) l;have d:jf (r.dropWhile (bH a)):=abg (adi _) (aaz.1 l).2;refine⟨b,Qb b n,?_,d,by simp⟩;have i:∀x∈r.dropWhile (bH a),¬qa x a<0:=λ x c=>(aaz.1 l).1 x ((adi _).subset c);revert d i;cases o:r.dropWhile (bH a)with
 | nil=>simp
 | cons y s=>
  intro d i x c;have f:¬bH a y=true:=by
   have:=List.head?_dropWhile_not (bH a) r;grind
  have f:y.key≠a.key:=λ e=>f (Cz.2 e);have m:=i y (by simp);rw[zK f]at m;have p:=aD.sign y.key a.key;have t:=aD.anti y.key a.key;have:bK _ _≠0:=λ e=>f (cR.1 e);have g:bK a.key y.key= -1:=by omega
  rcases aaw.1 c with rfl | c
  .grind
  .have j:=(aaz.1 d).1 x c;by_cases e:x.key=y.key
   .grind
   .rw[zK e]at j;have u:=aD.sign x.key y.key;have q:=aD.anti x.key y.key;have:bK _ _≠0:=λ h=>e (cR.1 h);exact aD.trans _ _ _ g (by omega)
def Qc {p:List Kd->Prop}(h:p [])(e:∀k r,jf (k::r)->Zo k r->p (r.dropWhile (bH k))->p (k::r))(g:List Kd)(a:jf g):p g:=by
 have b:∀(n:Nat) (g:List _),g.length<=n->jf g->p g:=by
  intro n;induction n with
  | zero=>
   grind
  | succ n d=>
   intro g f a;cases g with
   | nil=>grind
   | cons k r=>
    have c:=grp a;refine e k r a c (d _ ?_ c.sorted);have:=ku (bH k) r;grind
 exact b _ g (aaB _) a
end
end Go.Vc
namespace Go.Vc
open Go Go.Shelf Go.Proofs
def wrap_i64 {e:Int}(b:0<=e)(a:e<100000):IntKind.wrap .i64 e=e:=by
 simp[IntKind.wrap,IntKind.bits];omega
def dM {x:Int}(h:0<=x){m:Int}(a:0<m):0<=x.tmod m/\x.tmod m<m:=by
 rw[acG h];exact⟨Int.emod_nonneg _ (by omega),Int.emod_lt_of_pos _ a⟩
def Ni (a b:Int):bc:=⟨a.tmod 40,if b.tmod 11=0 then 1000000 else a.tmod 40+1+b.tmod 15⟩
def wK {a b:Int}{H:Heap}(c:0<=a)(f:0<=b):ZB 71 [Φu a,Φu b] H ⟨false,[(true,[.int .i64,.int .i64])]⟩ (λ x y _=>(⟨x,y⟩:bc)=Ni a b):=by
 refine ΦK 0 bE (λ c=>(40:Int)≠0/\∃d:Int,IntKind.wrap IntKind.i64 (Int.tmod a 40)=d/\(11:Int)≠0/\J (Int.tmod b 11=0) (c d 1000000 H) (ΦR (d+1)/\(15:Int)≠0/\(∃e:Int,IntKind.wrap IntKind.i64 (Int.tmod b 15)=e/\ΦR (d+1+e)/\c d (d+1+e) H))) ?_;dsimp only[ΦR,J];have e:=dM c (m:=40) (by simp);have d:=dM f (m:=15) (by simp);refine N' ⟨_,wrap_i64 e.1 (by omega),by simp,λ h=>?_,λ h=>u' ⟨by simp,_,wrap_i64 d.1 (by omega),u' ?_⟩⟩
 .have h:=aab h;simp[Ni,h]
 .have h:=aac h;simp[Ni,h]
structure U5 where
 a:Int
 b:Int
 c:Int
 d:Int
 e:Int
instance:Rep U5 where
 sz:=5
 byt:=10
 rel _ vs v:=vs=[.int .u16 v.a,.int .u16 v.b,.int .u16 v.c,.int .u16 v.d,.int .u16 v.e]/\ae .u16 v.a/\ae .u16 v.b/\ae .u16 v.c/\ae .u16 v.d/\ae .u16 v.e
 mono _ h:=h
 len h:=by simp[h.1]
 pos:=by decide
 bpos:=by decide
 one h:=by rw[h.1];simp[Value.oneCell']
def vw {H:Heap}{A B:D'}{n c m d:Nat}{a b:I'}(k:Sl H A n c a)(o:Sl H B m d b):
  ZB 105 [S A n c,S B m d] H gL (λ r _=>r=gf cQ a b):=by
 refine ΦK 0 (aj [] [(4,gb),(6,gb)] [(2,[ag 5])]) (λ a=>W ZE H (λ b=>b 0 H) λ b c d e=>let f:=J (O n<O m) (a (-1) d) (J (O m<O n) (a 1 d) (a 0 d));J (e<O n) (J (e<O m) (ΦX A e n (ΦE ZE d A (N e*1) (λ g=>ΦX B e m (ΦE ZE d B (N e*1) (λ h=>J (g<h) (a (-1) d) (ΦX A e n (ΦE ZE d A (N e*1) (λ i=>ΦX B e m (ΦE ZE d B (N e*1) (λ j=>J (j<i) (a 1 d) (ΦR (e+1)/\b (e+1) d/\c (e+1)<c e))))))))))) f) f) ?_;dsimp only[PL,aW,eQ,ΦE,N,ΦR,W,ΦX,O,J];refine⟨λ i _=>0<=i/\i<=n/\i<=m/\gf _ a b=gf cQ (a.drop i.toNat) (b.drop i.toNat),λ i=>n-i.toNat,Q' rfl,?_⟩;rintro I g i ⟨f,E,w,h⟩;have D:=k.bn;have F:=k.len;have G:=o.len;refine ΦD (λ e=>?_) λ u=>?_
 .refine ΦD (λ j=>?_) λ j=>?_
  .obtain⟨x,p,_,t,⟨rfl,q⟩⟩:=k.at g f e;obtain⟨z,s,_,l,⟨rfl,L⟩⟩:=o.at g f (by omega);rw[uQ x z]at h;have C:cQ _ _=if a[i.toNat]<b[i.toNat]then-1 else if b[i.toNat]<a[i.toNat]then 1 else 0:=rfl;refine⟨p,f,e,_,t,s,f,by omega,_,l,λ y=>?_,λ y=>⟨p,f,e,_,t,s,f,by omega,_,l,λ v=>?_,λ v=>u' ⟨J' ?_,by grind⟩⟩⟩
   .grind
   .grind
   grind
  .rw[uS (by omega) (by omega)]at h;grind
 .rw[uR (by omega)]at h;grind
end Go.Vc
namespace Go.Vc
open Go Go.Proofs Go.Shelf
end Go.Vc
namespace Go.Vc
open Go Go.Proofs Go.Shelf
end Go.Vc
namespace Go.Vc
open Go Go.Shelf Go.Proofs
def iA (a b:Rw):Int:=if bK a.vals b.vals≠0 then bK a.vals b.vals else gf cQ a.lin b.lin
def Tm (a b:List az×I'):Int:=if bK a.1 b.1≠0 then bK a.1 b.1 else gf cQ a.2 b.2
def qX:gM Tm:=aD.pair fQ.lex
def ao9:Sort.SWO (ltOf iA):=DY qX λ r:Rw=>(r.vals,r.lin)
def vx {H:Heap}{A:D'}{n c:Nat}{l:I'}(e:Sl H A n c l):
 ZB 186 [S A n c] H fi (λ f a b d=>Sl d f a b l):=eF e
def aeT (t:aO):Rw:=⟨t.vals,t.lin⟩
def atT (l:List aO)(t:Int):List Rw:=(l.filter λ x=>uO x.p t).map aeT
def apd {l:List aO}{t:Int}{i:Nat}(a:i<l.length):atT (l.take (i+1)) t=atT (l.take i) t++(if uO l[i].p t then[aeT l[i]]else[]):=by
 rw[aaj a];simp only[atT,abB,aaR,aba,adZ];split<;>simp
def ao8 (l:List aO)(t:Int):(atT l t).length<=l.length:=by
 simp only[atT,aaQ];exact abm _ _
end Go.Vc
namespace Go.Vc
open Go Go.Proofs Go.Shelf
end Go.Vc
namespace Go.Vc
open Go Go.Shelf Go.Proofs
section
variable {a b:Nat}
def mR:gM iA:=
 ⟨λ a b=>qX.sign (a.vals,a.lin) (b.vals,b.lin),λ a b=>qX.anti (a.vals,a.lin) (b.vals,b.lin),λ a b h=>by
  have:=qX.eq _ _ (show Tm (a.vals,a.lin) (b.vals,b.lin)=0 from h)
  obtain⟨e,d⟩:=a;simp_all,λ a b c=>qX.trans (a.vals,a.lin) (b.vals,b.lin) (c.vals,c.lin)⟩
def xW {T:Type}(f:T->T->Int)(x y:T):Prop:=¬f y x<0
section
variable {T:Type}{f:T->T->Int}
def Nj (a:gM f){x y z:T}(j:xW f x y)(h:xW f y z):xW f x z:=by
 unfold xW at*;have c:=a.sign y x;have b:=a.sign z y;have g:=a.anti y x;have i:=a.anti z y;have k:=a.anti z x;rcases c with c | c | c
 .omega
 .have:=a.eq _ _ c;grind
 .rcases b with b | b | b
  .omega
  .have:=a.eq _ _ b;grind
  .have d:f x y= -1:=by omega
   have e:f y z= -1:=by omega
   have:=a.trans _ _ _ d e;omega
def ao0 (c:gM f){l m:List T}(i:l.Pairwise (xW f))(e:m.Pairwise (xW f))(d:l.Perm m):l=m:=by
 refine List.Perm.eq_of_pairwise (le:=xW f) (λ a b _ _ h g=>?_) i e d;have j:=c.anti a b;unfold xW at h g;exact c.eq _ _ (by omega)
structure Oq (f:T->T->Int)(a b out:List T)(i k:Nat):Prop where
 perm:out.Perm (a.take i++b.take k)
 sorted:out.Pairwise (xW f)
 le:∀x∈out,∀y∈a.drop i++b.drop k,xW f x y
def Oq.nil {a b:List T}:Oq f a b [] 0 0:=⟨by rfl,by simp,λ x h=>by grind⟩
def Oq.left (p:gM f){d c j:List T}(h:Oq f d c j a b)(n:d.Pairwise (xW f))(m:a<d.length)(o:∀y∈c.drop b,xW f d[a] y):Oq f d c (j++[d[a]]) (a+1) b:=by
 have l:=aas m;refine⟨?_,?_,?_⟩
 .rw[aaj m,aat];refine(ack _ h.perm).trans ?_;rw[aat];exact acD _ adm
 .refine aaW.2 ⟨h.sorted,N' λ x e y g=>?_⟩;simp at g;subst g;exact h.le x e _ (aeb _ (l▸acr))
 .intro x e y g;rcases aam.1 e with e | e
  .refine h.le x e y ?_;grind
  .simp at e;subst e;rcases aam.1 g with g | g
   .have:=abg (acL a d) n;rw[l]at this;exact(aaz.1 this).1 y g
   grind
def Oq.right (p:gM f){d c j:List T}(h:Oq f d c j a b)(n:c.Pairwise (xW f))(m:b<c.length)(o:∀y∈d.drop a,xW f c[b] y):Oq f d c (j++[c[b]]) a (b+1):=by
 have l:=aas m;refine⟨?_,?_,?_⟩
 .rw[aaj _,<-aat];exact ack _ h.perm
 .refine aaW.2 ⟨h.sorted,N' λ x e y g=>?_⟩;simp at g;subst g;exact h.le x e _ (adp _ (l▸acr))
 .intro x e y g;rcases aam.1 e with e | e
  .refine h.le x e y ?_;grind
  .simp at e;subst e;rcases aam.1 g with g | g
   .grind
   .have:=abg (acL b c) n;rw[l]at this;exact(aaz.1 this).1 y g
def Lo (i:gM f){b:List T}{x:T}(g:b.Pairwise (xW f))(e:a<b.length)(h:xW f x b[a]):∀y∈b.drop a,xW f x y:=by
 intro y c;have d:=aas e;rw[d]at c;rcases aaw.1 c with rfl | c
 .grind
 .have:=abg (acL a b) g;rw[d]at this;exact Nj i h ((aaz.1 this).1 y c)
end
def Nk {H:Heap}{A B k i:D'}{m d g j o l:Nat}{s t:Rw}(u:Sl H A a b s.vals)(q:Sl H B m d s.lin)(f:Sl H k g j t.vals)(e:Sl H i o l t.lin):
  ZB 385 [.agg ⟨[S A a b,S B m d]⟩,.agg ⟨[S k g j,S i o l]⟩] H fg (λ r _=>r=decide (iA s t<0)):=by
 refine ΦK 0 (aj [10,21] [] []) (λ c=>C ZP 26 [S A a b,S k g j] H λ e f=>J (f<0) (c true e) (J (f=0) (C ZP 105 [S B m d,S i o l] e (λ h n=>c (decide (n<0)) h)) (c false e))) ?_;dsimp only[aQ,aR,C,J];refine⟨_,fv u f,?_⟩;rintro w p _ rfl;refine⟨λ h=>?_,λ h=>⟨λ v=>⟨_,vw (q.mono p) (e.mono p),?_⟩,λ v=>?_⟩⟩
 .have:iA s t<0:=by unfold iA;grind
  grind
 .unfold iA;grind
 .have:¬iA s t<0:=by unfold iA;grind
  grind
def JG (n:Nat):Prop:=∀{H:Heap} {A:D'} {c:Nat} {l:List Rw},Sl H A n c l->
 af Tryz.prog 299 [.slice A n c] H fi (λ e a b d=>∃m:List Rw,Sl d e a b m/\m.Perm l/\m.Pairwise (xW iA))
def zL (ih:∀k,k<a->JG k):JG a:=by
 intro H A c l B;refine ΦK 1 (aj [53] [(3,ov),(7,ab 2 18 [39,40,42,44,0])] [(6,[.slot 5 false [.row 76 110],ag 6,ag 7])]) (λ b=>J (O a<2) (∃d:G',Cells H A 0 d/\L d=a*2/\a*48<=M/\U H d a λ e f g=>b e a f g) ((2:Int)≠0/\ΦR (Int.tdiv (O a) 2)/\(0:Int)<=0/\0<=Int.tdiv (O a) 2/\Int.tdiv (O a) 2<=O c/\(∀d:D',d=eM A c (N 0) 2->(2:Int)≠0/\ΦR (Int.tdiv (O a) 2)/\0<=Int.tdiv (O a) 2/\Int.tdiv (O a) 2<=O a/\O a<=O c/\∀e:D',e=eM A c (N (Int.tdiv (O a) 2)) 2->C ZT 299 [S d (N (Int.tdiv (O a) 2)-N 0) (c-N 0)] H λ f g h i=>C ZT 299 [S e (N (O a)-N (Int.tdiv (O a) 2)) (c-N (Int.tdiv (O a) 2))] f λ j k l m=>W Xo j (λ n=>n 0 [] 0 0 j) λ n o p q r s t=>let u:=let u:=λ u=>ΦX g s h (ΦE XI u g (N s*2) (λ v w x y z a0=>(q+1)*48<=M/\ΦR (s+1)/\n (q+1) (r++[Value.slice v w x,S y z a0]) (s+1) t u/\o (q+1) (r++[Value.slice v w x,S y z a0]) (s+1) t<o q r s t));J (t=O l) (u p) (let v:=λ v=>ΦX k t l (ΦE XI v k (N t*2) (λ w x y z a0 a1=>(q+1)*48<=M/\ΦR (t+1)/\n (q+1) (r++[Value.slice w x y,S z a0 a1]) s (t+1) v/\o (q+1) (r++[Value.slice w x y,S z a0 a1]) s (t+1)<o q r s t));J (s<O h) (ΦX k t l (ΦE XI p k (N t*2) (λ w x y z a0 a1=>ΦX g s h (ΦE XI p g (N s*2) (λ a2 a3 a4 a5 a6 a7=>C ZO 385 [ΦG [S w x y,S z a0 a1],ΦG [S a2 a3 a4,S a5 a6 a7]] p λ a8 a9=>ΦQ (!a9) (u a8) (v a8)))))) (v p));J (s<O h) u (J (t<O l) u (U p r q (λ v w x=>b v q w x)))))) ?_;dsimp only[PL,aQ,aR,aW,eQ,C,ΦE,L,M,N,ΦQ,ΦR,W,ΦX,O,J];have hl:=B.len;have b3:=B.cap;have d0:=B.bn;have c0:a*48<=140737488355328:=B.bnd;refine ΦD (λ c3=>?_) λ c7=>?_
 .obtain⟨ys,y1,y2⟩:=B.row;refine⟨ys,y1,by rw[y2.length,hl];rfl,B.bnd,λ A2 Y H2 l2 I a9=>⟨l,y2.sl l2 I hl a9 B.bnd B.bn,acA _,?_⟩⟩;match l,hl with
  |[],_=>exact List.Pairwise.nil
  |[x],_=>simp
  | x::y::r,h=>simp at h;omega
 .have a6:Int.tdiv (a:Int) 2=((a/2:Nat):Int):=rfl;rw[a6];have hh:0<a/2/\a/2<a:=by omega
  generalize a8:a/2=h2 at hh;refine⟨by decide,M' ?_⟩;rintro _ rfl;refine⟨by decide,M' ?_⟩;rintro _ rfl;simp only[aaV,Int.toNat_zero,aeG];have R:=B.sub (j:=0) (k:=h2) (by omega) (by omega);have Z:=B.sub (j:=h2) (k:=a) (by omega) (by omega);rw[abN]at R;rw[aag (by omega)]at Z;simp only[aeG]at R;refine⟨_,ih _ (by omega) R,?_⟩;rintro b7 a7 a2 g b9 ⟨d,ha,a1,a5⟩;refine⟨_,ih _ (by omega) (Z.mono a7),?_⟩;rintro b6 b1 a0 f b5 ⟨b,F,a4,V⟩;have G:=ha.mono b1;have b8:=ha.len;have c6:=F.len;have b4:d.length+b.length=a:=by
   rw[a1.length_eq,a4.length_eq,aaE,abb];omega
  refine⟨λ k xs i j H'=>0<=i/\i<=g/\0<=j/\j<=f/\∃e:List Rw,Row H' xs e/\e.length=k/\(k:Int)=i+j/\Oq iA d b e i.toNat j.toNat,λ _ _ i j=>(g-i.toNat)+(f-j.toNat),
   (M' ⟨[],rfl,rfl,rfl,Oq.nil⟩),?_⟩
  rintro T D k xs i j ⟨i0,i1,j0,j1,e,hr,P,hk,hm⟩;have left:∀{E:Heap},Heap.le T E->i<g->(∀(p:i.toNat<d.length),∀y∈b.drop j.toNat,xW iA d[i.toNat] y)->
    ∃v w t z u s,(cD a2/\0<=i/\i<g)/\Cells E a2 (i.toNat*2) [S v w t,S z u s]/\(k+1)*48<=140737488355328/\ae .i64 (i+1)/\
     (0<=i+1/\i+1<=g/\0<=j/\j<=f/\∃e:List Rw,Row E (xs++[S v w t,S z u s]) e/\e.length=k+1/\((k+1:Nat):Int)=i+1+j/\Oq iA d b e (i+1).toNat j.toNat)/\
     (g-(i+1).toNat)+(f-j.toNat)<(g-i.toNat)+(f-j.toNat):=by
   intro E lX p Q;obtain⟨X,hA,_,I,m⟩:=(G.mono D).at lX i0 p;obtain⟨A9,n9,c9,B9,m9,d9,rfl,q1,q2⟩:=id m;refine⟨_,_,_,_,_,_,⟨hA,i0,p⟩,I,y' ⟨y' ⟨j0,j1,e++[d[i.toNat]],(hr.mono lX).append (Row.one m),by simp[P],u' ?_⟩,by omega⟩⟩;rw[show(i+1).toNat=i.toNat+1 by omega];exact hm.left mR a5 X (Q X)
  have right:∀{E:Heap},Heap.le T E->j<f->(∀(o:j.toNat<b.length),∀y∈d.drop i.toNat,xW iA b[j.toNat] y)->
    ∃v w t z u s,(cD a0/\0<=j/\j<f)/\Cells E a0 (j.toNat*2) [S v w t,S z u s]/\(k+1)*48<=140737488355328/\ae .i64 (j+1)/\
     (0<=i/\i<=g/\0<=j+1/\j+1<=f/\∃e:List Rw,Row E (xs++[S v w t,S z u s]) e/\e.length=k+1/\((k+1:Nat):Int)=i+(j+1)/\Oq iA d b e i.toNat (j+1).toNat)/\
     (g-i.toNat)+(f-(j+1).toNat)<(g-i.toNat)+(f-j.toNat):=by
   intro E lX o Q;obtain⟨q,hA,_,I,m⟩:=(F.mono D).at lX j0 o;obtain⟨A9,n9,c9,B9,m9,d9,rfl,q1,q2⟩:=id m;refine⟨_,_,_,_,_,_,⟨hA,j0,o⟩,I,y' ⟨⟨i0,i1,y' ⟨e++[b[j.toNat]],(hr.mono lX).append (Row.one m),by simp[P],u' ?_⟩⟩,by omega⟩⟩;rw[show(j+1).toNat=j.toNat+1 by omega];exact hm.right mR V q (Q q)
  refine⟨λ p=>?_,λ p=>⟨λ o=>?_,λ o=>?_⟩⟩
  .have p:=aab p;refine⟨λ o=>?_,λ o=>⟨λ _=>?_,λ h=>absurd (aau p) (by rw[h];decide)⟩⟩
   .have o:=aab o;obtain⟨A1,n1,c1,A2,n2,Y,⟨p1,p2,p3⟩,p4⟩:=left (ah T) p (λ _ y hy=>by rw[aaN (by omega)]at hy;cases hy);exact⟨p1,p2,p3,A1,n1,c1,A2,n2,Y,p4⟩
   .have o:=aac o;have q:j<f:=by omega
    obtain⟨ei,hA,_,I,⟨A9,n9,c9,B9,m9,d9,rfl,q1,q2⟩⟩:=(G.mono D).at (ah _) i0 p;obtain⟨ej,hB,_,hd,⟨A8,n8,c8,B8,m8,d8,rfl,q3,q4⟩⟩:=(F.mono D).at (ah _) j0 q;refine⟨hB,j0,q,_,_,_,_,_,_,hd,hA,i0,p,_,_,_,_,_,_,I,_,Nk q3 q4 q1 q2,?_⟩;rintro c5 a3 _ rfl;refine⟨λ F=>?_,λ F=>?_⟩
    .have F:¬iA b[j.toNat] d[i.toNat]<0:=by grind
     obtain⟨A1,n1,c1,A2,n2,Y,⟨p1,p2,p3⟩,p4⟩:=left a3 p (λ _=>Lo mR V _ F);grind
    .have F:iA b[j.toNat] d[i.toNat]<0:=by grind
     obtain⟨A1,n1,c1,A2,n2,Y,⟨p1,p2,p3⟩,p4⟩:=right a3 q (λ _=>Lo mR a5 _ (by have:=mR.anti b[j.toNat] d[i.toNat];unfold xW;omega));grind
  .have p:=aac p;have o:=aab o;obtain⟨A1,n1,c1,A2,n2,Y,⟨p1,p2,p3⟩,p4⟩:=right (ah _) o (λ _ y hy=>by rw[aaN (by omega)]at hy;grind);grind
  .have p:=aac p;have o:=aac o;intro A4 c4 H4 l4 b0 b2;have hp:=hm.perm;rw[aag (by omega),aag (by omega)]at hp;refine⟨e,hr.sl l4 b0 P b2 (by show k*48<=_;omega) (by omega),hp.trans ?_,hm.sorted⟩;refine(List.Perm.append a1 a4).trans (List.Perm.of_eq ?_);simp
def Nl {H:Heap}{A:D'}{l:List Rw}(h:Sl H A a b l):
  ZB 299 [S A a b] H fi (λ i d f g=>∃m:List Rw,Sl g i d f m/\m.Perm l/\m.Pairwise (xW iA)):=
 (Nat.strongRecOn (motive:=JG) a λ _ e=>zL e) h
end
section
variable {a b:I'}{c:D'}{d e:Nat}
structure vy (out p:I'):Prop where
 lI:out.Pairwise (λ a b=>a<b)
 mem:∀y,y∈out↔y∈p
 len:out.length<=p.length
def vy.nil:vy [] []:=⟨List.Pairwise.nil,λ _=>Iff.rfl,aaB _⟩
def vy.ef {x:Int}(h:vy a b)(c:x∈a):vy a (b++[x]):=by
 refine⟨h.lI,λ y=>?_,by have:=h.len;simp;omega⟩;rw[aam,aaD,<-h.mem];exact⟨.inl,λ h=>h.elim id (λ e=>e▸c)⟩
def vy.ins {x:Int}{k:Nat}(h:vy a b)(q:k<=a.length)(i:∀y∈a.take k,y<x)(m:∀z,a[k]?=some z->x<z):
  vy (a.take k++[x]++a.drop k) (b++[x]):=by
 have g:∀y∈a.drop k,x<y:=by
  intro y f;by_cases j:k<a.length
  .have o:a.drop k=a[k]::a.drop (k+1):=aas j;have n:=abg (acL k a) h.lI;rw[o]at f n;have:=m _ (aai j);rcases aaw.1 f with rfl | f
   .exact this
   .have:=(aaz.1 n).1 y f;omega
  .rw[aaN (by omega)]at f;cases f
 refine⟨?_,λ y=>?_,?_⟩
 .refine aaW.2 ⟨aaW.2 ⟨abg (ach k a) h.lI,N' λ d e c l=>?_⟩,abg (acL k a) h.lI,λ d e c l=>?_⟩
  .simp at l;subst l;exact i d e
  .have:=g c l;rcases aam.1 e with e | e
   .have:=i d e;omega
   .simp at e;subst e;omega
 .rw[aam,aam,aam,<-h.mem y]
  conv=>rhs;rw[<-aaL k a,aam]
  constructor
  .rintro((h | h) | h)
   .exact .inl (.inl h)
   .exact .inr h
   .exact .inl (.inr h)
  .rintro((h | h) | h)
   .exact .inl (.inl h)
   .exact .inr h
   .exact .inl (.inr h)
 .have:=h.len;simp only[aae,aaE,abb,aav,abH];omega
def sK (f:a.Pairwise (λ d c=>d<c))(e:b.Pairwise (λ d c=>d<c))(h:∀y,y∈a↔y∈b):a=b:=by
 have g:a.Nodup:=f.imp (λ h=>by omega);have i:b.Nodup:=e.imp (λ h=>by omega);exact List.Perm.eq_of_pairwise (le:=λ d c:Int=>d<c) (λ d c _ _ h j=>by omega) f e ((List.perm_ext_iff_of_nodup g i).2 h)
def Ei (a b:I'):(cx a b).Pairwise (λ a b=>a<b):=qh _ (vr _)
def oo (a b:I')(y:Int):y∈cx a b↔y∈a\/y∈b:=by
 rw[cx,lU,fT,adF,aam]
def vy.eq {c:I'}(h:vy a (b++c)):a=cx b c:=
 sK h.lI (Ei b c) λ y=>by rw[h.mem,oo,aam]
def wL (p:I')(A:D')(n c:Nat)(H:Heap):Prop:=∃a,Sl H A n c a/\vy a p
def JH (f:Heap)(j i:D')(a:Int)(d:Nat)(k:Int)(R:Prop)(K:D'->Nat->Nat->Heap->Prop):Prop:=
 ∃(c:G'),Cells f j 0 c/\List.length c=(Int.toNat a-Int.toNat (0:Int))*1/\(Int.toNat a-Int.toNat (0:Int))*8<=140737488355328/\(Int.toNat a-Int.toNat (0:Int)+1)*8<=140737488355328/\
  ∃(b:G'),Cells f i 0 b/\List.length b=(Int.toNat (↑d:Int)-Int.toNat a)*1/\(Int.toNat a-Int.toNat (0:Int)+1+(Int.toNat (↑d:Int)-Int.toNat a))*8<=140737488355328/\R/\
  ∀(g:D') (h:Nat) (e:Heap),Heap.le f e->Cells e g 0 (c++[.int .i64 k]++b)->Int.toNat a-Int.toNat (0:Int)+1+(Int.toNat (↑d:Int)-Int.toNat a)<=h->
   K g (Int.toNat a-Int.toNat (0:Int)+1+(Int.toNat (↑d:Int)-Int.toNat a)) h e
def Sr (H:Heap)(A:D')(n c:Nat)(k x:Int)(R:Prop)(K:D'->Nat->Nat->Heap->Prop):Prop:=
 (0:Int)<=(0:Int)/\(0:Int)<=k/\k<=(↑c:Int)/\∀(b:D'),b=eM A c (Int.toNat (0:Int)) 1->(0:Int)<=k/\k<=(↑n:Int)/\(↑n:Int)<=(↑c:Int)/\∀(a:D'),a=eM A c (Int.toNat k) 1->
  JH H b a k n x R K/\JH H b a k n x R K
def Ss {H:Heap}{k x:Int}{R:Prop}{K:D'->Nat->Nat->Heap->Prop}(g:Sl H c d e a)(t:0<=k)(B:k<=d)(u:(d+1)*8<=140737488355328)(G:R)(F:ae .i64 x)
  (C:∀q m o h,m=d+1->Heap.le H h->Sl h q m o (a.take k.toNat++[x]++a.drop k.toNat)->K q m o h):Sr H c d e k x R K:=by
 have I:=g.len;have J:=g.cap;refine u' ⟨t,u' ?_⟩;rintro _ rfl;refine⟨t,B,u' ?_⟩;rintro _ rfl;have z:=g.sub (j:=0) (k:=k.toNat) (by omega) (by omega);have v:=g.sub (j:=k.toNat) (k:=d) (by omega) (by omega);rw[abN]at z;rw[aag (by omega)]at v;obtain⟨s,E,w⟩:=z.row;obtain⟨i,D,y⟩:=v.row;have f:Int.toNat k-Int.toNat (0:Int)+1+(Int.toNat (↑d:Int)-Int.toNat k)=d+1:=by simp;omega
 have b:JH H (eM c e (Int.toNat (0:Int)) 1) (eM c e (Int.toNat k) 1) k d x R K:=by
  refine⟨s,E,?_,?_,?_,i,D,?_,?_,G,λ q o h l p r=>C _ _ _ _ f l ?_⟩
  .rw[w.length,aaE];simp;show _*1=_;omega
  .simp;omega
  .simp;omega
  .rw[y.length,abb];simp;show _*1=_;omega
  .rw[f];exact u
  .refine Row.sl (H:=H) ((w.append (Row.one ⟨rfl,F⟩)).append y) l p ?_ r ?_ ?_
   .rw[f];simp;omega
   .rw[f];exact u
   .rw[f];omega
 exact⟨b,b⟩
def WL (f:D'->Nat->Nat->Int->Heap->Prop)(h:D'->Nat->Nat->Int->Nat)(i:Heap)(d:D')(b g:Nat)(a j e:Int):Prop:=
 (decide (e=(↑b:Int))=true->Sr i d b g e j (ae .i64 (a+1)) λ A m c l=>f A m c (a+1) l/\h A m c (a+1)<h d b g a)/\
 (decide (e=(↑b:Int))=false->cD d/\(0:Int)<=e/\e<(↑b:Int)/\∃(k:Int),Cells i d (Int.toNat e*1) [.int .i64 k]/\
  ((!decide (k=j))=true->Sr i d b g e j (ae .i64 (a+1)) λ A m c l=>f A m c (a+1) l/\h A m c (a+1)<h d b g a)/\
  ((!decide (k=j))=false->ae .i64 (a+(1:Int))/\f d b g (a+(1:Int)) i/\h d b g (a+(1:Int))<h d b g a))
def MLI (o:Heap)(p:D')(n:Nat)(r:D')(q s:Nat)(K:D'->Nat->Nat->Heap->Prop):Prop:=
 ∃(b:D'->Nat->Nat->Int->Heap->Prop),∃(m:D'->Nat->Nat->Int->Nat),b r q s (0:Int) o/\∀(h:Heap),Heap.le o h->∀(f:D') (e j:Nat) (c:Int),b f e j c h->
  (decide (c<(↑n:Int))=true->cD p/\(0:Int)<=c/\c<(↑n:Int)/\∃(i:Int),Cells h p (Int.toNat c*1) [.int .i64 i]/\∃(d:Int->Heap->Prop),∃(l:Int->Nat),d (0:Int) h/\
   ∀(g:Heap),Heap.le h g->∀(a:Int),d a g->
    (decide (a<(↑e:Int))=true->cD f/\(0:Int)<=a/\a<(↑e:Int)/\∃(k:Int),Cells g f (Int.toNat a*1) [.int .i64 k]/\
     (decide (k<i)=true->ae .i64 (a+(1:Int))/\d (a+(1:Int)) g/\l (a+(1:Int))<l a)/\(decide (k<i)=false->WL b m g f e j c i a))/\
    (decide (a<(↑e:Int))=false->WL b m g f e j c i a))/\
  (decide (c<(↑n:Int))=false->K f e j h)
def Zq {H H2:Heap}{p:I'}(hs:Sl H c d e a)(a6:Heap.le H H2)(hb:(p.length+d)*8<=140737488355328){A4:D'}{n5 c6:Nat}(h:wL p A4 n5 c6 H2)
  {K:D'->Nat->Nat->Heap->Prop} (hK:∀A n b q,Heap.le H2 q->wL (p++a) A n b q->K A n b q):MLI H2 c d A4 n5 c6 K:=by
 have a9:=hs.len;refine⟨λ A n b j q=>0<=j/\j<=d/\wL (p++a.take j.toNat) A n b q,λ _ _ _ j=>d-j.toNat,y' (by simpa using h),?_⟩;rintro b0 T Z g R j ⟨j0,j1,f,ho,hi⟩;have a7:=ho.len;have a5:=hi.len;rw[aae,aaE]at a5;refine ΦD (λ G=>?_) λ i=>?_
 .obtain⟨hj,hA,_,hc,⟨rfl,hx⟩⟩:=hs.at (aa a6 T) j0 G;have w:p++a.take (j+1).toNat=(p++a.take j.toNat)++[a[j.toNat]]:=by
   rw[show(j+1).toNat=j.toNat+1 by omega,aaj hj,aat]
  generalize a[j.toNat]=x at hc hx w;refine⟨hA,j0,G,x,hc,λ k _=>0<=k/\k<=g/\∀y∈f.take k.toNat,y<x,λ k=>g-k.toNat,y' (by simp),?_⟩;rintro a1 v k ⟨Y,k1,s⟩;have t:=ho.mono v;have Q:(∀z,f[k.toNat]?=some z->x<z)->Sr a1 Z g R k x (ae .i64 (j+1)) λ A m b q=>(0<=j+1/\j+1<=d/\wL (p++a.take (j+1).toNat) A m b q)/\d-(j+1).toNat<d-j.toNat:=by
   have o:=hi.ins (x:=x) (k:=k.toNat) (by omega) s;intro i;have o:=o i;clear i;refine Ss t Y k1 (by omega) (by omega) hx ?_;rintro A' m c' q-l' a4;refine⟨(y' ⟨_,a4,?_⟩),by omega⟩;rw[w];exact o
  have r:(∀z,f[k.toNat]?=some z->x<=z)->WL (λ A n b j q=>0<=j/\j<=d/\wL (p++a.take j.toNat) A n b q) (λ _ _ _ j=>d-j.toNat) a1 Z g R j x k:=by
   intro i;refine⟨λ he=>Q λ z l=>?_,λ he=>?_⟩
   .have he:=aab he;rw[adk (by omega)]at l;cases l
   .have he:=aac he;have F:k<g:=by omega
    obtain⟨B,hB,_,hd,⟨rfl,a2⟩⟩:=ho.at v Y F;have hg:=i _ (aai B);have a3:k<g:=by omega
    refine⟨hB,Y,a3,_,hd,λ P=>?_,λ u=>u' ⟨y' ⟨f,t,?_⟩,by dsimp only;omega⟩⟩
    .have P:¬f[k.toNat]=x:=by simpa using P
     have X:x<f[k.toNat]:=by omega
     exact Q λ z l=>by rw[aai B]at l;cases l;exact X
    .have u:f[k.toNat]=x:=by simpa using u
     rw[w];exact hi.ef (u▸aan B)
  refine ΦD (λ a0=>?_) λ a8=>?_
  .obtain⟨B,hB,_,hd,⟨rfl,a2⟩⟩:=ho.at v Y a0;refine⟨hB,Y,a0,_,hd,λ D=>u' ⟨y' ?_,by dsimp only;omega⟩,λ D=>?_⟩
   .have D:=aab D;rw[show(k+1).toNat=k.toNat+1 by omega,aaj B];intro y E;rcases aam.1 E with E | E
    .exact s y E
    .simp at E;subst E;exact D
   .have D:=aac D;have h2:x<=f[k.toNat]:=by omega
    exact r λ z l=>by rw[aai B]at l;cases l;exact h2
  .have h2:¬k.toNat<f.length:=by omega
   exact r λ z l=>by rw[adk (by omega)]at l;cases l
 .rw[aag (by omega)]at hi;exact hK _ _ _ _ T ⟨f,ho,hi⟩
def dC {H:Heap}{B:D'}{m f:Nat}(D:Sl H c d e a)(C:Sl H B m f b)(T:(d+m)*8<=140737488355328):
  ZB 161 [S c d e,S B m f] H fi (λ r o q s=>Sl s r o q (cx a b)):=by
 refine ΦK 0 (aj [] [(12,[2,4,6,10,16,18,20,9,13,15,23,24,0,1,1,1,13,9,15,23,24,0])] [(3,[.slot 5 false [.sl],ag 14]),(6,[.slot 5 false [.sl],ag 19]),(9,[ag 10])]) (λ a=>W XJ H (λ b=>b none 0 0 0 H) λ b e f g h i j=>J (j<2) (ΦY j 2 (let k:=λ(k:Int)(l:Nat) n (o:Nat) p (q r:Int) s t=>(0:Int)<=0/\0<=k/\k<=O l/\∀u:D',u=eM n l (N 0) 1->0<=k/\k<=O o/\O o<=O l/\∀v:D',v=eM n l (N k) 1->let w:=∃w:G',Cells p u 0 w/\L w=(N k-N 0)*1/\(N k-N 0)*8<=M/\(N k-N 0+1)*8<=M/\∃x:G',Cells p v 0 x/\L x=(N (O o)-N k)*1/\(N k-N 0+1+(N (O o)-N k))*8<=M/\ΦR (q+1)/\U p (w++[Value.int .i64 r]++x) (N k-N 0+1+(N (O o)-N k)) λ y z a0=>s y (N k-N 0+1+(N (O o)-N k)) z (q+1) a0/\t y (N k-N 0+1+(N (O o)-N k)) z (q+1)<t n o l q;w/\w;let l:=λ l (n:Nat) o (p:Int)(q:Nat)(r:Int) s t=>W ZE l (λ u=>u 0 l) λ u v w x=>let y:=let y:=k x q o n w r p s t;J (x=O n) y (ΦX o x n (ΦE ZE w o (N x*1) (λ z=>V (z=p) y (ΦR (r+1)/\s o n q (r+1) w/\t o n q (r+1)<t o n q r))));J (x<O n) (ΦX o x n (ΦE ZE w o (N x*1) (λ z=>J (z<p) (ΦR (x+1)/\u (x+1) w/\v (x+1)<v x) y))) y;let n:=λ n (o p:Nat) q=>ΦR (j+1)/\b n o p (j+1) q/\e n o p (j+1)<e g h i j;(j=O 0->W XJ f (λ o=>o g h i 0 f) (λ o p q r s t u=>J (u<O d) (ΦX c u d (ΦE ZE q c (N u*1) (λ v=>l q s r v t u o p))) (n r s t q)))/\(j=O 1->W XJ f (λ o=>o g h i 0 f) (λ o p q r s t u=>J (u<O m) (ΦX B u m (ΦE ZE q B (N u*1) (λ v=>l q s r v t u o p))) (n r s t q)))/\True)) (a g h i f)) ?_;dsimp only[PL,aW,eQ,ΦE,L,M,N,ΦR,W,ΦX,ΦY,O,V,J];have Q:=D.len;have F:=C.len;refine⟨λ r o q i s=>0<=i/\i<=2/\wL ([a,b].take i.toNat).flatten r o q s,λ _ _ _ i=>2-i.toNat,y' ⟨[],Sl.nil,vy.nil⟩,?_⟩;rintro Z E X R c6 i ⟨G,Y,z⟩;refine⟨λ t=>⟨G,aab t,λ u=>?_,λ x=>?_,trivial⟩,λ l=>?_⟩
 .have u:i=0:=u;subst u;refine Zq (p:=[]) D E (by simp;omega) z (K:=λ h j g k=>ae .i64 (0+(1:Int))/\(0<=(0:Int)+1/\(0:Int)+1<=2/\wL ([a,b].take ((0:Int)+1).toNat).flatten h j g k)/\2-((0:Int)+1).toNat<2-(0:Int).toNat) ?_;intro r o q s P v;exact⟨by decide,⟨by decide,by decide,by simpa using v⟩,by decide⟩
 .have x:i=1:=x;subst x;refine Zq (p:=a) C E (by omega) (by simpa using z) (K:=λ h j g k=>ae .i64 (1+(1:Int))/\(0<=(1:Int)+1/\(1:Int)+1<=2/\wL ([a,b].take ((1:Int)+1).toNat).flatten h j g k)/\2-((1:Int)+1).toNat<2-(1:Int).toNat) ?_;intro r o q s P v;exact⟨by decide,⟨by decide,by decide,by simpa using v⟩,by decide⟩
 .have l:=aac l;have:i=2:=by omega
  subst this;obtain⟨w,I,y⟩:=z;have y:vy w (a++b):=by simpa using y
  rw[<-y.eq];exact I
end
structure vN where
 vals:List az
 B:D'
 m:Nat
 d:Nat
 rows:List Rw
 lin:I'
instance:Rep vN where
 sz:=3
 byt:=72
 rel H vs r:=∃A n c C k e,vs=[.slice A n c,.slice r.B r.m r.d,.slice C k e]/\Sl H A n c r.vals/\Sl H C k e r.lin
 mono:=λ hle ⟨A,n,c,C,k,e,h1,h2,h3⟩=>⟨A,n,c,C,k,e,h1,h2.mono hle,h3.mono hle⟩
 len:=λ ⟨A,n,c,C,k,e,h1,_⟩=>by simp[h1]
 pos:=by decide
 bpos:=by decide
 one:=λ ⟨A,n,c,C,k,e,h1,_⟩=>by rw[h1];simp[Value.oneCell']
structure VM (O:aU)(H:Heap)(r:vN):Prop where
 opn:nq O r.B 110 r.m r.d
 row:∃ys,Cells H r.B 0 ys/\Row H ys r.rows
 len:r.rows.length=r.m
structure lh (O:aU)(H:Heap)(xs:G')(rs:List vN):Prop where
 row:Row H xs rs
 opn:∀j (h:j<rs.length),VM O H rs[j]
 sep:∀j k (hj:j<rs.length) (hk:k<rs.length),j≠k->rs[j].B≠none->rs[j].B≠rs[k].B
 lin:∀j (h:j<rs.length),rs[j].lin=[]
def lh.mono {O:aU}{H f:Heap}{e:G'}{d:List vN}(h:lh O H e d)(b:Heap.le H f):lh O f e d:=
 ⟨h.row.mono b,λ j k=>let⟨a,⟨i,g,l⟩,c⟩:=h.opn j k;⟨a,⟨i,g.mono b,l.mono b⟩,c⟩,h.sep,h.lin⟩
def lh.new {a:aU}{H:Heap}{i:G'}{b:List vN}(h:lh a H i b){A:D'}{n c:Nat}{v:List az}(m:Sl H A n c v):
  lh a H (i++[S A n c,.slice none 0 0,.slice none 0 0]) (b++[⟨v,none,0,0,[],[]⟩]):=by
 refine⟨h.row.append (Row.one ⟨A,n,c,none,0,0,rfl,m,Sl.nil⟩),λ j g=>?_,λ j k g o f l=>?_,λ j g=>?_⟩
 .rw[acZ];split
  .exact h.opn j _
  .simp;exact⟨.inl ⟨rfl,rfl,rfl⟩,⟨[],.inl rfl,rfl⟩,rfl⟩
 .by_cases e:j<b.length
  .rw[aaI e]at l⊢;by_cases d:k<b.length
   .rw[aaI d];exact h.sep j k _ _ f l
   grind
  grind
 .rw[acZ];split
  .exact h.lin j _
  simp
def EE:cx [] []=[]:=acs.2 λ y a=>by
 rcases(oo _ _ y).1 a with h | h<;>cases h
def SE (P:Program)(H:Heap)(O:aU)(N:Nat)(o:G')(e:Int)(x:D')(v w:Nat)(l:D')(u t:Nat)(R:G'->Heap->aU->Prop):Prop:=
 ∃(h:D'),∃(a:Nat),∃(k:Nat),win o (Int.toNat e*3+1) 1=[.slice h a k]/\∃(f:G'),nq O h 110 a k/\Cells H h 0 f/\List.length f=a*2/\(a+1)*48<=140737488355328/\
  ∀(c:D') (d:Nat) (g:Heap) (j:aU),Heap.le H g->Cells g c 0 (f++[.slice x v w,.slice l u t])->a+1<=d->nq j c 110 (a+1) d->KE O j h c->
   (0:Int)<=e/\e<(↑N:Int)/\Int.toNat e*3+1+1<=List.length o/\(0:Int)<=e/\e<(↑N:Int)/\∃(q:D'),∃(m:Nat),∃(s:Nat),win (av o (Int.toNat e*3+1) [.slice c (a+1) d]) (Int.toNat e*3+2) 1=[.slice q m s]/\
    ∃(b:D'->Nat->Nat->Heap->Prop),af P 161 [.slice q m s,.slice l u t] g ⟨false,[(false,[.sl])]⟩ b/\∀(i:Heap),Heap.le g i->∀(r:D') (n p:Nat),b r n p i->
     (0:Int)<=e/\e<(↑N:Int)/\Int.toNat e*3+2+1<=List.length (av o (Int.toNat e*3+1) [.slice c (a+1) d])/\
      R (av (av o (Int.toNat e*3+1) [.slice c (a+1) d]) (Int.toNat e*3+2) [.slice r n p]) i j
def VN (P:Program)(H:Heap)(O:aU)(N:Nat)(h:G')(e:Int)(a:D')(c b:Nat)(g:D')(f d:Nat)(R:G'->Heap->aU->Prop):Prop:=
 ((0:Int)<=e/\e<(↑N:Int)/\SE P H O N h e a c b g f d R/\SE P H O N h e a c b g f d R)/\(0:Int)<=e/\e<(↑N:Int)/\SE P H O N h e a c b g f d R
def LA {H:Heap}{f:aU}{d:Nat}{ZS:G'}{e:Int}{Y:D'}{y Q:Nat}{G:D'}{F E:Nat}{R:G'->Heap->aU->Prop}{g:List vN}{x:Rw}
  (h:lh f H ZS g) (hN:g.length=d) (h0:0<=e) (he:e<d) (d1:Sl H Y y Q x.vals) (v:Sl H G F E x.lin) (a9:x.lin=[]) (hm:∀j (t:j<g.length),(g[j].m+1)*48<=140737488355328)
  (hR:∀b4 H' O' s,Heap.le H H'->lh O' H' b4 s->s.map (·.vals)=g.map (·.vals)->(∀j (t:j<s.length) (e6:j<g.length),s[j].m<=g[j].m+1)->R b4 H' O'):VN Tryz.prog H f d ZS e Y y Q G F E R:=by
 have hi:e.toNat<g.length:=by omega
 obtain⟨o1,⟨ys,o2,o3⟩,o4⟩:=h.opn _ hi;have a5:=h.row.length;have c7:=o3.length;have X:SE Tryz.prog H f d ZS e Y y Q G F E R:=by
  obtain⟨vs,⟨A,n,c,a,k,ec,rfl,q1,q2⟩,hg,-⟩:=h.row.mg hi;refine⟨_,_,_,hg 1 1 (by decide),ys,o1,o2,by rw[c7,o4];rfl,hm _ hi,?_⟩;intro i p e5 c9 T b7 d4 d0 P;have b3:=h.row.mono T;obtain⟨d8,⟨A',n',c',C',k',c6,rfl,c1,d3⟩,e0,c5⟩:=b3.mg hi;obtain⟨r,hr⟩:∃r,r=g[e.toNat]:=⟨_,rfl⟩;have D:=c5 1 [S i (g[e.toNat].m+1) p] ⟨g[e.toNat].vals,i,g[e.toNat].m+1,p,g[e.toNat].rows++[x],g[e.toNat].lin⟩ (by show 1+1<=3;omega) ⟨A',n',c',C',k',c6,rfl,c1,d3⟩;have w:=D.length;have a8:e.toNat<(g.set e.toNat ⟨g[e.toNat].vals,i,g[e.toNat].m+1,p,g[e.toNat].rows++[x],g[e.toNat].lin⟩).length:=by simpa using hi
  obtain⟨e3,o,d2,d7⟩:=D.mg a8;rw[List.getElem_set_self]at o;obtain⟨A2,n2,c2,C2,k2,d6,rfl,p1,p2⟩:=o;have b5:=p2.len;rw[h.lin _ hi]at b5 p2;have u:=v.len;rw[a9]at u;simp at b5 u;refine⟨h0,he,?_,h0,he,_,_,_,d2 2 1 (by decide),_,dC p2 (v.mono T) (by omega),?_⟩
  .rw[a5];show _<=g.length*3;omega
  .intro e1 K a7 b8 a6 b0;rw[a9,EE]at b0;have b9:=D.mono K;obtain⟨e2,l,-,c0⟩:=b9.mg a8;rw[List.getElem_set_self]at l;obtain⟨A3,n3,c3,C3,k3,e4,rfl,r1,r2⟩:=l;have a0:=c0 2 [S a7 b8 a6] ⟨g[e.toNat].vals,i,g[e.toNat].m+1,p,g[e.toNat].rows++[x],[]⟩ (by show 2+1<=3;simp) ⟨A3,n3,c3,a7,b8,a6,rfl,r1,b0⟩;rw[List.set_set]at a0;refine⟨h0,he,?_,?_⟩
   .refine aax ?_ (Nat.le_of_eq w.symm);rw[abd];show _<=g.length*3;omega
   .have l0:=aa T K;have b6:∃zs,Cells _ _ 0 zs/\Row _ zs _:=
     ⟨_,b7.mono K,(o3.mono l0).append (Row.one ⟨_,_,_,_,_,_,rfl,d1.mono l0,v.mono l0⟩)⟩
    have d9:∀j (t:j<g.length),j≠e.toNat->∀b,g[j].B=some ⟨b,0,none⟩->(∃z,f b=some z)->i≠some ⟨b,0,none⟩/\c9 b=f b:=by
     rintro j t q b Z ⟨z,hz⟩;refine P b (by grind) ?_;rw[<-Z];exact λ e'=>h.sep j _ _ _ q (by grind) e'.symm
    refine hR _ _ _ _ l0 ⟨a0,λ j t=>?_,λ j k t hk q Z=>?_,λ j t=>?_⟩ ?_ ?_
    .rw[abF];split
     .exact⟨d0,b6,by grind⟩
     .obtain⟨a1,⟨zs,a2,a3⟩,a4⟩:=h.opn j _;refine⟨?_,⟨zs,a2.mono l0,a3.mono l0⟩,a4⟩;rcases a1 with a1 |⟨b,b1,b2⟩
      .exact .inl a1
      .exact .inr ⟨b,b1,by grind⟩
    .have d5:∀j (t:j<g.length),j≠e.toNat->g[j].B≠none->g[j].B≠i:=by
      intro j t q Z;rcases(h.opn j t).opn with⟨b1,-⟩ |⟨b,b1,b2⟩
      .grind
      grind
     rw[abF]at Z⊢;rw[abF];by_cases c8:e.toNat=j
     .grind
     .rw[if_neg c8]at Z⊢;by_cases c4:e.toNat=k
      .grind
      .rw[if_neg c4];exact h.sep j k _ _ q Z
    .rw[abF];split
     .rfl
     .exact h.lin j _
    .apply aeJ
     .simp
     grind
    grind
 exact⟨⟨h0,he,X,X⟩,h0,he,X⟩
section
variable {a:List Rw}{b:Rw}
def oz (c:List (List az)):Prop:=c.Pairwise (λ a b=>bK a b= -1)
structure xD (vs:List (List az))(p:List Rw):Prop where
 lI:oz vs
 mem:∀v,v∈vs↔∃r∈p,r.vals=v
 last:vs.getLast?=p.getLast?.map (·.vals)
def xD.nil:xD [] []:=⟨List.Pairwise.nil,λ v=>by simp,rfl⟩
def xD.ef {c:List (List az)}(h:xD c a)(e:c.getLast?=some b.vals):xD c (a++[b]):=by
 refine⟨h.lI,λ v=>?_,by grind⟩;rw[h.mem];constructor
 .grind
 .rintro⟨q,d,f⟩;rcases aam.1 d with d | d
  .grind
  .have:=(h.mem _).1 (abI e);grind
def xD.new {g:List (List az)}(h:xD g a)(o:g.getLast?≠some b.vals)(t:∀q∈a,xW bK q.vals b.vals):xD (g++[b.vals]) (a++[b]):=by
 refine⟨aaW.2 ⟨h.lI,N' λ c i d l=>?_⟩,λ v=>?_,by simp⟩
 .simp at l;subst l;cases m:g.getLast? with
  | none=>grind
  | some z=>
   obtain⟨q,n,u⟩:=(h.mem z).1 (abI m);have f:=t q n;rw[u]at f;have j:z≠b.vals:=λ e=>o (by grind);have k:bK z b.vals= -1:=by
    have s:=aD.sign z b.vals;have c:=aD.anti z b.vals;have:bK z _≠0:=λ e=>j (cR.1 e);unfold xW at f;omega
   obtain⟨w,rfl⟩:=abX.1 m;rcases aam.1 i with i | i
   .exact aD.trans _ _ _ ((aaW.1 h.lI).2.2 c i z (by simp)) k
   grind
 .rw[aam,h.mem];grind
def NG {r:Rw}(h:xW iA b r):xW bK b.vals r.vals:=by
 intro a;apply h;unfold iA;grind
def NH {H:Heap}{A:D'}{n c:Nat}(hs:Sl H A n c a)(Z:∀r∈a,r.lin=[])(hb:n*72<=140737488355328):
  ZB 229 [S A n c] H fi (λ A' n' c' w=>∃f:List vN,Sl w A' n' c' f/\(∀r∈f,r.lin=[])/\n'<=n/\oz (f.map (·.vals))/\∀v,v∈f.map (·.vals)↔∃r∈a,r.vals=v):=by
 refine ΦK 1 {aj [27] [(6,[2,4,6,8,10,18,20,13,14,17,23,24,26,0]),(9,ga),(10,[2,4,6,8,16,18,11,12,15,21,23,24,27,0])] [(3,[.slot 3 false [.row 64 314],ag 10])]with opn:=true,oap:=mem [47]} (λ a=>C ZT 299 [S A n c] H λ b d e f=>vb ZG b (λ g=>g 0 [] 0 b ux) λ g h i j k l m=>J (m<O e) (ΦX d m e (ΦE XI i d (N m*2) (λ o p q r s t=>ΦR (O k-1)/\let u:=[Value.slice o p q,S r s t];let v:=λ v=>let w:=l++[Value.slice o p q,S none 0 0,S none 0 0];ΦF ZM w (N (O k-1+1)*3+1) 1 λ x y z=>∃a0:G',nq j x 110 y z/\Cells v x 0 a0/\L a0=y*2/\(y+1)*48<=M/\∀(a1:D')(a2:Nat)(a3:Heap)(a4:Nat->Option XO),Heap.le v a3->Cells a3 a1 0 (a0++u)->y+1<=a2->nq a4 a1 110 (y+1) a2->KE j a4 x a1->ΦY (O k-1+1) (k+1) (N (O k-1+1)*3+1+1<=L w/\ΦY (O k-1+1) (k+1) (let a5:=av w (N (O k-1+1)*3+1) [S a1 (y+1) a2];ΦF ZM a5 (N (O k-1+1)*3+2) 1 λ a6 a7 a8=>C ZT 161 [S a6 a7 a8,S r s t] a3 λ a9 b0 b1 b2=>ΦY (O k-1+1) (k+1) (N (O k-1+1)*3+2+1<=L a5/\ΦR (m+1)/\(let b3:=av a5 (N (O k-1+1)*3+2) [S b0 b1 b2];g (k+1) b3 (m+1) a9 a4/\h (k+1) b3 (m+1)<h k l m))));let w:=λ w=>(k+1)*72<=M/\ΦR (O k-1+1)/\ΦY (O k-1+1) (k+1) (v w/\v w)/\ΦY (O k-1+1) (k+1) (v w);J (O k-1<0) (w i) (ΦY (O k-1) k (ΦF ZM l (N (O k-1)*3+0) 1 (λ x y z=>C ZP 26 [S x y z,S o p q] i λ a0 a1=>V (a1=0) (w a0) (let a2:=ΦF ZM l (N (O k-1)*3+1) 1 λ a2 a3 a4=>∃a5:G',nq j a2 110 a3 a4/\Cells a0 a2 0 a5/\L a5=a3*2/\(a3+1)*48<=M/\∀(a6:D')(a7:Nat)(a8:Heap)(a9:Nat->Option XO),Heap.le a0 a8->Cells a8 a6 0 (a5++u)->a3+1<=a7->nq a9 a6 110 (a3+1) a7->KE j a9 a2 a6->ΦY (O k-1) k (N (O k-1)*3+1+1<=L l/\ΦY (O k-1) k (let b0:=av l (N (O k-1)*3+1) [S a6 (a3+1) a7];ΦF ZM b0 (N (O k-1)*3+2) 1 λ b1 b2 b3=>C ZT 161 [S b1 b2 b3,S r s t] a8 λ b4 b5 b6 b7=>ΦY (O k-1) k (N (O k-1)*3+2+1<=L b0/\ΦR (m+1)/\(let b8:=av b0 (N (O k-1)*3+2) [S b5 b6 b7];g k b8 (m+1) b4 a9/\h k b8 (m+1)<h k l m))));ΦY (O k-1) k (a2/\a2)/\ΦY (O k-1) k a2))))))) (U i l k (λ o p q=>a o k p q))) ?_;dsimp only[PL,aQ,aR,aW,eQ,C,ΦE,ΦF,L,M,N,ΦR,vb,ΦX,ΦY,O,V,J];have hl:=hs.len;refine⟨_,Nl hs,?_⟩;rintro H1 l1 A3 y c5 ⟨m,hm,a2,b1⟩;have b0:=hm.len;have a9:y=n:=by rw[<-b0,a2.length_eq,hl]
 subst a9;refine⟨λ k xs i w b=>0<=i/\i<=y/\∃f:List vN,f.length=k/\k<=i.toNat/\lh b w xs f/\(∀j (g:j<f.length),f[j].m<=i.toNat)/\xD (f.map (·.vals)) (m.take i.toNat),λ _ _ i=>y-i.toNat,
  (y' ⟨[],rfl,by omega,⟨rfl,λ j h=>by simp at h,λ j k h=>by simp at h,λ j h=>by simp at h⟩,λ j h=>by simp at h,xD.nil⟩),?_⟩
 rintro H9 l9 b k xs i ⟨i0,i1,f,rfl,b5,t,E,F⟩;refine⟨λ D=>?_,λ b6=>?_⟩
 .have D:=aab D;obtain⟨hi,hA,_,hc,a3⟩:=hm.at l9 i0 D;obtain⟨a4,Y,a1,a7,a6,a5,rfl,q1,q2⟩:=a3;have I:m[i.toNat].lin=[]:=Z _ (a2.mem_iff.1 (aan hi));have T:m.take (i+1).toNat=m.take i.toNat++[m[i.toNat]]:=by rw[show(i+1).toNat=i.toNat+1 by omega,aaj hi]
  have G:∀q∈m.take i.toNat,xW bK q.vals m[i.toNat].vals:=by
   intro q hq;obtain⟨j,g,rfl⟩:=aaM hq;rw[aaE]at g;rw[acv];exact NG (aaX.1 b1 j i.toNat (by omega) hi (by omega))
  generalize m[i.toNat]=x at q1 q2 I T G;have mb:∀{i':Nat},i'<=y->∀j,j<=i'.pred->(j+1)*48<=140737488355328:=λ {i'} h j g=>by
   cases i' with
   | zero=>simp at g;omega
   | succ i'=>simp at g;omega
  have s:∀{w:Heap},Heap.le H9 w->(f.map (·.vals)).getLast?≠some x.vals->
    VN Tryz.prog w b (f.length+1) (xs++[S a4 Y a1,.slice none 0 0,.slice none 0 0]) ((f.length:Int)-1+1) a4 Y a1 a7 a6 a5
     (λ u w X=>ae .i64 (i+1)/\(0<=i+1/\i+1<=y/\∃d:List vN,d.length=f.length+1/\f.length+1<=(i+1).toNat/\lh X w u d/\(∀j (g:j<d.length),d[j].m<=(i+1).toNat)/\xD (d.map (·.vals)) (m.take (i+1).toNat))/\y-(i+1).toNat<y-i.toNat):=by
   intro w l' p;refine LA (x:=x) ((t.mono l').new (q1.mono l')) (by simp) (by omega) (by omega) (q1.mono l') (q2.mono l') I (λ j g=>?_) ?_
   .have:(f++[(⟨x.vals,none,0,0,[],[]⟩:vN)])[j].m<=i.toNat:=by
     rw[acZ];split
     .exact E j _
     .simp
    have:i.toNat<y:=by omega
    omega
   .intro u H2 X d l2 z o P;have Q:d.length=f.length+1:=by
     have:=aak List.length o;simpa using this
    refine u' ⟨y' ⟨d,Q,by omega,z,λ j g=>?_,?_⟩,by omega⟩
    .have b3:j<(f++[(⟨x.vals,none,0,0,[],[]⟩:vN)]).length:=by simp;omega
     have h1:=P j g b3;have:(f++[(⟨x.vals,none,0,0,[],[]⟩:vN)])[j].m<=i.toNat:=by
      rw[acZ];split
      .exact E j _
      .simp
     omega
    .rw[o,aaR,T];exact F.new p G
  refine⟨hA,i0,D,_,_,_,_,_,_,hc,u' (ΦD (λ hk=>?_) λ hk=>?_)⟩
  .have:f=[]:=aal (by omega);refine y' (s (ah _) ?_);rw[this];simp
  .have g:((f.length:Int)-1).toNat<f.length:=by omega
   obtain⟨vs,⟨A1,n1,c1,C1,k1,e1,rfl,p1,p2⟩,hg,-⟩:=t.row.mg g;have p:(f.map (·.vals)).getLast?=some f[((f.length:Int)-1).toNat].vals:=by
    rw[abK,aaQ,aev,aai (by omega)];simp only[acC];congr 3;omega
   refine y' ⟨_,_,_,hg 0 1 (by decide),_,fv p1 q1,?_⟩;rintro b4 B _ rfl;refine⟨λ W=>y' (s B ?_),λ a0=>?_⟩
   .rw[p];intro e;simp only[acf]at e;rw[e,aD.refl]at W;simp at W
   .have a0:f[((f.length:Int)-1).toNat].vals=x.vals:=by
     refine cR.1 ?_;simpa using a0
    refine LA (x:=x) (R:=λ u w X=>ae .i64 (i+1)/\(0<=i+1/\i+1<=y/\∃d:List vN,d.length=f.length/\f.length<=(i+1).toNat/\lh X w u d/\(∀j (g:j<d.length),d[j].m<=(i+1).toNat)/\xD (d.map (·.vals)) (m.take (i+1).toNat))/\y-(i+1).toNat<y-i.toNat)
     (t.mono B) rfl (by omega) (by omega) (q1.mono B) (q2.mono B) I (λ j g=>?_) ?_
    .have:=E j g;grind
    .intro u H2 X d l2 z o P;have Q:=by
      have:=aak List.length o;simpa using this
     refine u' ⟨y' ⟨d,Q,by omega,z,λ j g=>?_,?_⟩,by omega⟩
     .have h1:=P j g (by omega);have h2:=E j (by omega);omega
     .rw[o,T];exact F.ef (by grind)
 .intro A2 c2 H2 l2 a8 b2;refine⟨f,t.row.sl l2 a8 rfl b2 (by show f.length*72<=_;omega) (by omega),λ r hr=>?_,by omega,F.lI,λ v=>?_⟩
  .obtain⟨j,g,rfl⟩:=aaM hr;exact t.lin j _
  .rw[F.mem];grind
end
section
variable {a e g h:Nat}{b:List aO}{c:Heap}{d f:D'}{i:I'}
def Bw {l:List Rw}(I:Sl c d a e l)(h:∀r∈l,r.lin=[])(B:a*72<=140737488355328):
  ZB 160 [S d a e] c fi (λ E p z o=>∃b:List Rw,Sl o E p z b/\p<=a/\oz (b.map (·.vals))/\∀v,v∈b.map (·.vals)↔∃r∈l,r.vals=v):=by
 refine ΦK 1 (aj [] [] [(3,[.slot 3 false [.row 23 110],ag 9])]) (λ b=>C ZT 229 [S d a e] c λ f g h i=>W ZG f (λ j=>j 0 [] 0 f) λ j k l m n o=>J (o<O h) (ΦX g o h (ΦE Yl l g (N o*3) (λ p q r s t u v w x=>(m+1)*48<=M/\ΦR (o+1)/\let y:=n++[Value.slice p q r,S v w x];j (m+1) y (o+1) l/\k (m+1) y (o+1)<k m n o))) (U l n m (λ p q r=>b p m q r))) ?_;dsimp only[PL,aQ,aR,aW,eQ,C,ΦE,M,N,ΦR,W,ΦX,O,J];refine⟨_,NH I h B,?_⟩;rintro Z l1 A3 q c5 ⟨b,t,-,hn,ha,hv⟩;have hl:=t.len;have G:(b.map λ r=>(⟨r.vals,r.lin⟩:Rw)).map (·.vals)=b.map (·.vals):=by rw[List.map_map];rfl
 refine⟨λ k u i o=>0<=i/\i<=q/\k=i.toNat/\Row o u ((b.take i.toNat).map λ r=>(⟨r.vals,r.lin⟩:Rw)),λ _ _ i=>q-i.toNat,y' ⟨rfl,rfl⟩,?_⟩;rintro H9 L k u i ⟨s,i1,rfl,f⟩;refine ΦD (λ g=>?_) λ x=>?_
 .obtain⟨P,D,_,R,⟨V,n1,X,C1,T,e1,rfl,F,y⟩⟩:=t.at L s g;refine⟨D,s,g,_,_,_,_,_,_,_,_,_,R,y' ⟨J' ?_,by grind⟩⟩;rw[show(i+1).toNat=i.toNat+1 by omega,aaj P,aaR];exact f.append (Row.one ⟨_,_,_,_,_,_,rfl,F,y⟩)
 .intro A2 Y H2 Q j m;have w:b.take i.toNat=b:=aag (by omega);refine⟨_,f.sl Q j (by grind) m (by show i.toNat*48<=_;omega) (by omega),by omega,?_,?_⟩
  .grind
  grind
def oO {j:List az}(L:Sl c d a e j)(x:Sl c f g h i)(hb:g*32<=140737488355328):
  ZB 159 [S d a e,S f g h] c fi (λ V R T F=>Sl F V R T (aJ j i)):=by
 refine ΦK 1 (aj [] [] [(3,[.slot 5 false [.row 42 133],ag 6])]) (λ b=>W ZG c (λ e=>e 0 [] 0 c) λ e h i j k l=>J (l<O g) (ΦX f l g (ΦE ZE i f (N l*1) (λ m=>let n:=λ n=>e (j+1) n (l+1) i/\h (j+1) n (l+1)<h j k l;let o:=(j+1)*32<=M/\ΦR (l+1)/\let o:=k++[Value.int .i64 0,I 0,ΦT ⟨⟨[]⟩⟩];n o;J (0<=m) (ΦX f l g (ΦE ZE i f (N l*1) (λ p=>J (p<O a) (ΦX f l g (ΦE ZE i f (N l*1) (λ q=>ΦX d q a (ΦE ZF i d (N q*3) (λ r s t=>(j+1)*32<=M/\ΦR (l+1)/\let u:=k++[Value.int .i64 r,I s,ΦT t];n u))))) o))) o))) (U i k j (λ m n o=>b m j n o))) ?_;dsimp only[PL,aW,eQ,ΦE,M,N,ΦR,W,ΦX,O,J];have a0:=x.bn;have hl:=L.len;have hm:=x.len;refine⟨λ k D b F=>0<=b/\b<=g/\k=b.toNat/\Row F D (aJ j (i.take b.toNat)),λ _ _ b=>g-b.toNat,y' ⟨rfl,rfl⟩,?_⟩;rintro Z t k D b ⟨u,h1,rfl,v⟩;have e1:(b+1).toNat=b.toNat+1:=by omega
 refine ΦD (λ l=>?_) λ P=>?_
 .obtain⟨Y,y,_,G,⟨rfl,-⟩⟩:=x.at t u l;have s:aJ j (i.take (b+1).toNat)=aJ j (i.take b.toNat)++[fJ j i[b.toNat]]:=by
   rw[e1,aaj Y,aJ,aaR];rfl
  have o:fJ j i[b.toNat]=gg->(b.toNat+1)*32<=140737488355328/\ae .i64 (b+1)/\(0<=b+1/\b+1<=g/\b.toNat+1=(b+1).toNat/\Row Z (D++[Φi 0,Φi 0,.string ⟨#[]⟩]) (aJ j (i.take (b+1).toNat)))/\g-(b+1).toNat<g-b.toNat:=λ w=>
   (y' ⟨J' (by rw[s,w];exact v.append ⟨[Φi 0,Φi 0,.string ⟨#[]⟩],[],rfl,⟨rfl,by decide,by decide,by unfold str gg;decide⟩,rfl⟩),by omega⟩)
  refine⟨y,u,l,_,G,λ r=>⟨y,u,l,_,G,λ p=>⟨y,u,l,_,G,?_⟩,λ p=>?_⟩,λ r=>?_⟩
  .have r:=aab r;have p:=aab p;obtain⟨hj,hB,_,Q,w⟩:=L.at t r p;have z:fJ j i[b.toNat]=j[i[b.toNat].toNat]:=by unfold fJ;grind
   obtain⟨rfl,q⟩:=id w;exact⟨hB,r,p,_,_,_,Q,y' ⟨J' (by rw[s,z];exact v.append ⟨_,[],by rfl,w,rfl⟩),by grind⟩⟩
  .exact o (by unfold fJ;grind)
  .exact o (by unfold fJ;grind)
 .intro A2 c2 H3 X C E;rw[aag (by omega)]at v;exact v.sl X C (by simp[aJ];omega) E (by show b.toNat*32<=_;omega) (by omega)
def Bx {a b t:Int}:ZB 162 [.agg ⟨[Φi a,Φi b]⟩,Φi t] c fg (λ r _=>r=uO ⟨a,b⟩ t):=by
 refine ΦK 0 (aj [6] [] []) (λ d=>C ZO 151 [ΦG [I a,I b]] c λ e f=>ΦQ f (J (a<=t) (d (decide (t<b)) e) (d false e)) (d false e)) ?_;dsimp only[aQ,aR,C,ΦQ,J];refine⟨_,dX,?_⟩;grind[uO]
def re (l:List aO)(a:I'):List Rw:=(bZ l a).map λ k=>⟨k.key,[]⟩
def EF {cols:I'}(c:a<b.length):re (b.take (a+1)) cols=re (b.take a) cols++(if dm b[a].p then[⟨aJ b[a].vals cols,[]⟩]else[]):=by
 rw[re,jC _,aaR];split<;>rfl
def oB {cols:I'}(Z:Sl c d a e b)(ht:Sl c f g h cols)(hb:g*32<=140737488355328)(hn:a*72<=140737488355328):
  ZB 109 [S d a e,S f g h] c fi (λ A' R c' Q=>∃w:List Rw,Sl Q A' R c' w/\R<=a/\oz (w.map (·.vals))/\∀v,v∈w.map (·.vals)↔∃k∈bZ b cols,k.key=v):=by
 refine ΦK 1 (aj [18] [] [(3,[.slot 5 false [.row 32 110],ag 6])]) (λ b=>W ZG c (λ e=>e 0 [] 0 c) λ e i j k l m=>J (m<O a) (ΦX d m a (ΦE ZK j d (N m*4+1) (λ n o=>C ZO 151 [ΦG [I n,I o]] j λ p q=>ΦQ q (ΦX d m a (ΦE ZM p d (N m*4+0) (λ r s t=>C ZT 159 [S r s t,S f g h] p λ u v w x=>(k+1)*48<=M/\ΦR (m+1)/\let y:=l++[Value.slice v w x,S none 0 0];e (k+1) y (m+1) u/\i (k+1) y (m+1)<i k l m))) (ΦR (m+1)/\e k l (m+1) p/\i k l (m+1)<i k l m)))) (U j l k (λ n o p=>C ZT 160 [S n k o] p λ q r s t=>b r s t q))) ?_;dsimp only[PL,aQ,aR,aW,eQ,C,ΦE,M,N,ΦQ,ΦR,W,ΦX,O,J];have hl:=Z.len;refine⟨λ k Y i Q=>0<=i/\i<=a/\k=(re (b.take i.toNat) cols).length/\Row Q Y (re (b.take i.toNat) cols),λ _ _ i=>a-i.toNat,y' ⟨rfl,rfl⟩,?_⟩;rintro H2 z k Y i ⟨F,T,D,s⟩;have t:=kU (b.take i.toNat) cols;rw[aaE]at t;have a1:k<=i.toNat:=by rw[D,re,aaQ];omega
 have P:(i+1).toNat=i.toNat+1:=by omega
 refine ΦD (λ o=>?_) λ a0=>?_
 .obtain⟨hi,V,_,hc,⟨A9,n9,c9,a3,a2,a4,rfl,q1,q2,q3,q4⟩⟩:=Z.at z F o;have j:=EF (cols:=cols) hi;refine⟨V,F,o,_,_,hc.TH (k:=1) rfl rfl,_,dX,?_⟩;rintro H3 u _ rfl;refine⟨λ X=>?_,λ X=>?_⟩
  .have q:dm b[i.toNat].p=true:=X;rw[if_pos q]at j;refine⟨V,F,o,_,_,_,(hc.mono u).cy (k:=0) rfl,_,oO (q1.mono u) (ht.mono (aa z u)) hb,?_⟩;intro H4 G A4 n4 c4 h4;refine y' ⟨y' ⟨by rw[P,j,aae,<-D];rfl,?_⟩,by dsimp only;omega⟩;rw[P,j];exact(s.mono (aa u G)).append (Row.one ⟨_,_,_,_,_,_,rfl,h4,Sl.nil⟩)
  .have q:¬dm b[i.toNat].p=true:=by
    simp_all
   rw[if_neg q,aar]at j;exact u' ⟨y' (T' (by rw[P,j];exact s.mono u)),by grind⟩
 .have y:b.take i.toNat=b:=aag (by omega);rw[y]at D s;intro A4 c4 H4 G L E;refine⟨_,Bw (s.sl G L D.symm E (by show k*48<=_;omega) (by omega)) (λ r s=>?_) (by omega),?_⟩
  .obtain⟨x,-,rfl⟩:=aaO.1 s;rfl
  .rintro H5 l5 A5 n5 c5 ⟨w,r1,r2,r3,r4⟩;refine⟨w,r1,by omega,r3,λ v=>?_⟩;rw[r4];constructor
   .rintro⟨r,T,rfl⟩;obtain⟨x,hx,rfl⟩:=aaO.1 T;grind
   .rintro⟨x,hx,rfl⟩;exact⟨_,aaO.2 ⟨x,hx,rfl⟩,rfl⟩
def bb (l:List aO)(a:I')(b:List az):List aO:=l.filter λ t=>dm t.p&&decide (bK (aJ t.vals a) b=0)
def lj {cols:I'}{key:List az}(c:a<b.length):bb (b.take (a+1)) cols key=bb (b.take a) cols key++(if dm b[a].p&&decide (bK (aJ b[a].vals cols) key=0)then[b[a]]else[]):=by
 rw[aaj c];simp only[bb,abB,aba,adZ]
def eG (l:List aO)(a:I')(b:List az):(bb l a b).length<=l.length:=abm _ _
def jj {j:D'}{k o:Nat}{cols:I'}{key:List az}(V:Sl c d a e b)(ht:Sl c f g h cols)(hu:Sl c j k o key)(hb:g*32<=140737488355328):
  ZB 110 [S d a e,S f g h,S j k o] c fi (λ A' n' c' w=>Sl w A' n' c' (bb b cols key)):=by
 refine ΦK 1 (aj [20,30] [] [(3,[.slot 7 false [.row 41 107],ag 8])]) (λ b=>W ZG c (λ e=>e 0 [] 0 c) λ e i l m n p=>J (p<O a) (ΦX d p a (ΦE ZK l d (N p*4+1) (λ q r=>C ZO 151 [ΦG [I q,I r]] l λ s t=>let u:=λ u=>ΦR (p+1)/\e m n (p+1) u/\i m n (p+1)<i m n p;ΦQ t (ΦX d p a (ΦE ZM s d (N p*4+0) (λ v w x=>C ZT 159 [S v w x,S f g h] s λ y z a0 a1=>C ZP 26 [S z a0 a1,S j k o] y λ a2 a3=>J (a3=0) (ΦX d p a (ΦE ZI a2 d (N p*4) (λ a4 a5 a6 a7 a8 a9 b0 b1=>(m+1)*64<=M/\ΦR (p+1)/\let b2:=n++[Value.slice a4 a5 a6,I a7,I a8,S a9 b0 b1];e (m+1) b2 (p+1) a2/\i (m+1) b2 (p+1)<i m n p))) (u a2)))) (u s)))) (U l n m (λ q r s=>b q m r s))) ?_;dsimp only[PL,aQ,aR,aW,eQ,C,ΦE,M,N,ΦQ,ΦR,W,ΦX,O,J];have hl:=V.len;have a3:a*64<=140737488355328:=V.bnd;refine⟨λ k T i w=>0<=i/\i<=a/\k=(bb (b.take i.toNat) cols key).length/\Row w T (bb (b.take i.toNat) cols key),λ _ _ i=>a-i.toNat,y' ⟨rfl,rfl⟩,?_⟩;rintro H2 v k T i ⟨D,h1,L,F⟩;have t:=eG (b.take i.toNat) cols key;rw[aaE]at t;have X:(i+1).toNat=i.toNat+1:=by omega
 refine ΦD (λ r=>?_) λ a0=>?_
 .obtain⟨hi,P,_,Y,u⟩:=V.at v D r;obtain⟨A9,n9,c9,a2,a1,a4,rfl,q1,q2,q3,q4⟩:=id u;have q:=lj (cols:=cols) (key:=key) hi;have skip:(dm b[i.toNat].p&&decide (bK (aJ b[i.toNat].vals cols) key=0))=false->∀{w:Heap},Heap.le H2 w->ae .i64 (i+1)/\(0<=i+1/\i+1<=a/\k=(bb (b.take (i+1).toNat) cols key).length/\Row w T (bb (b.take (i+1).toNat) cols key))/\a-(i+1).toNat<a-i.toNat:=by
   intro hf w l';rw[if_neg (by simp[hf]),aar]at q;exact u' ⟨y' ⟨by rw[X,q];exact L,by rw[X,q];exact F.mono l'⟩,by omega⟩
  refine⟨P,D,r,_,_,Y.TH (k:=1) rfl rfl,_,dX,?_⟩;rintro H3 y _ rfl;refine⟨λ Q=>?_,λ Q=>?_⟩
  .have x:dm b[i.toNat].p=true:=Q;refine⟨P,D,r,_,_,_,(Y.mono y).cy (k:=0) rfl,_,oO (q1.mono y) (ht.mono (aa v y)) hb,?_⟩;intro H4 E A4 n4 c4 h4;refine⟨_,fv h4 (hu.mono (aa v (aa y E))),?_⟩;rintro H5 l5 _ rfl;have s:=aa y (aa E l5);refine⟨λ Z=>?_,λ Z=>skip (by rw[x,Z];rfl) s⟩;rw[if_pos (by grind)]at q;refine⟨P,D,r,_,_,_,_,_,_,_,_,Y.mono s,y' ⟨y' (T' ?_),by grind⟩⟩;rw[X,q];exact(F.mono s).append (Row.one (Rep.mono s u))
  .have x:dm b[i.toNat].p=false:=Q;grind
 .have z:b.take i.toNat=b:=aag (by omega);have t:=eG b cols key;rw[z]at L F;intro A4 c4 H4 E R G;exact F.sl E R L.symm G (by show k*64<=_;omega) (by omega)
def canon (l:I'):I':=Lib.compact (fT l)
def fC (l:I'):(canon l).Pairwise (λ a b=>a<b):=qh _ (vr _)
def fD {y:Int}:y∈canon i↔y∈i:=by rw[canon,lU,fT,adF]
def ng {m:I'}(h:∀y,y∈i↔y∈m):canon i=canon m:=sK (fC i) (fC m) λ y=>by rw[fD,fD,h]
def vO:canon []=[]:=acs.2 λ y a=>by rw[fD]at a;grind
def dS (l:I'):(canon l).length<=l.length:=by have:=dU (fT l);rw[dw]at this;exact this
def lk (p q:I'):cx (canon p) q=canon (p++q):=ng λ y=>by rw[aam,aam,fD]
def bS (l:List aO):I':=(l.filter λ t=>dm t.p).flatMap λ t=>[t.p.lo,t.p.hi]
def Kb (c:a<b.length):bS (b.take (a+1))=bS (b.take a)++(if dm b[a].p then[b[a].p.lo,b[a].p.hi]else[]):=by
 rw[aaj c];simp only[bS];grind
def iU:∀l:List aO,(bS l).length<=2*l.length
 |[]=>by simp[bS]
 | t::l=>by
  have a:=iU l;simp[bS]at a⊢;grind
def oP {H:Heap}{l:List aO}(u:Sl H d a e l):ZB 111 [S d a e] H fi (λ P m E w=>Sl w P m E (canon (bS l))):=by
 refine ΦK 0 (aj [14] [] [(3,[.slot 3 false [.sl],ag 8])]) (λ b=>W XJ H (λ c=>c none 0 0 0 H) λ c e f g h i j=>J (j<O a) (ΦX d j a (ΦE ZI f d (N j*4) (λ k l m n o p q r=>C ZO 151 [ΦG [I n,I o]] f λ s t=>ΦQ t (U s [I n,I o] 2 (λ u v w=>C ZT 161 [S g h i,S u 2 v] w λ x y z a0=>ΦR (j+1)/\c y z a0 (j+1) x/\e y z a0 (j+1)<e g h i j)) (ΦR (j+1)/\c g h i (j+1) s/\e g h i (j+1)<e g h i j)))) (b g h i f)) ?_;dsimp only[PL,aQ,aR,aW,eQ,C,ΦE,N,ΦQ,ΦR,W,ΦX,O,J];have hl:=u.len;have a1:a*64<=140737488355328:=u.bnd;refine⟨λ d m e i w=>0<=i/\i<=a/\Sl w d m e (canon (bS (l.take i.toNat))),λ _ _ _ i=>a-i.toNat,y' (by rw[show canon (bS (l.take (0:Int).toNat))=[]from vO];exact Sl.nil),?_⟩;rintro H2 v A4 n5 c6 i ⟨x,h1,r⟩;have X:=r.len;have Q:=dS (bS (l.take i.toNat));have s:=iU (l.take i.toNat);rw[aaE]at s;have e1:(i+1).toNat=i.toNat+1:=by omega
 refine⟨λ b=>?_,λ B=>?_⟩
 .have b:=aab b;obtain⟨Z,M,_,hc,⟨A9,n9,c9,Y,R,a2,rfl,q1,q2,L,q4⟩⟩:=u.at v x b;have g:=Kb Z;refine⟨M,x,b,_,_,_,_,_,_,_,_,hc,_,dX,?_⟩;rintro H3 y _ rfl;refine⟨λ z=>?_,λ z=>?_⟩
  .have f:dm l[i.toNat].p=true:=z;rw[if_pos f]at g;intro t o k q h j;have D:Sl k t 2 o [l[i.toNat].p.lo,l[i.toNat].p.hi]:=Row.sl (H:=k) (T:=Int) (l:=[l[i.toNat].p.lo,l[i.toNat].p.hi]) ⟨[_],[_],rfl,⟨rfl,q2⟩,[_],[],rfl,⟨rfl,L⟩,rfl⟩ (ah _) h rfl j (by decide) (by decide);refine⟨_,dC (r.mono (aa y q)) D (by omega),?_⟩;intro a0 V G a3 F hm;rw[lk]at hm;exact u' ⟨y' (by grind),by grind⟩
  .have f:¬dm l[i.toNat].p=true:=by
    simp_all
   rw[if_neg f,aar]at g;exact u' ⟨y' (by rw[e1,g];exact r.mono y),by grind⟩
 grind
def jV (t:Int)(x:aO):Bool:=uO x.p t
def Qx {t:Int}(c:a<b.length):(b.take (a+1)).filter (jV t)=(b.take a).filter (jV t)++(if jV t b[a]then[b[a]]else[]):=by
 rw[aaj c];grind
def kG {c:List aO}(h:b.Sublist c):(aG b).length<=(aG c).length:=by
 induction h with
 | slnil=>simp
 | cons x _ d=>simp[aG,abe]at*;omega
 | cons_cons x _ d=>simp[aG,abe]at*;omega
def oC (a b:List aO):aG (a++b)=aG a++aG b:=by simp[aG]
def mq {t:Int}(u:Sl c d a e b)(hb:(aG b).length*8<=140737488355328):
  ZB 112 [S d a e,Φi t] c ⟨true,[(false,[.int .i64]),(false,[.sl])]⟩ (λ k L p E w=>k=(b.filter (jV t)).length/\Sl w L p E (canon (aG (b.filter (jV t))))):=by
 refine ΦK 0 (aj [21] [] [(4,[ag 6,.slot 7 false [.sl],ag 8])]) (λ b=>W Ym c (λ e=>e 0 none 0 0 0 c) λ e f g h i j k l=>J (l<O a) (ΦX d l a (ΦE ZK g d (N l*4+1) (λ m n=>C ZO 162 [ΦG [I m,I n],I t] g λ o p=>ΦQ p (ΦR (h+1)/\ΦX d l a (ΦE ZM o d (N l*4+3) (λ q r s=>C ZT 161 [S i j k,S q r s] o λ u v w x=>ΦR (l+1)/\e (h+1) v w x (l+1) u/\f (h+1) v w x (l+1)<f h i j k l))) (ΦR (l+1)/\e h i j k (l+1) o/\f h i j k (l+1)<f h i j k l)))) (b h i j k g)) ?_;dsimp only[PL,aQ,aR,aW,eQ,C,ΦE,N,ΦQ,ΦR,W,ΦX,O,J];have hl:=u.len;have Y:=u.bn;refine⟨λ k d p e i w=>0<=i/\i<=a/\k=((b.take i.toNat).filter (jV t)).length/\Sl w d p e (canon (aG ((b.take i.toNat).filter (jV t)))),λ _ _ _ _ i=>a-i.toNat,y' (N' (by rw[show canon (aG ((b.take (0:Int).toNat).filter (jV t)))=[]from vO];exact Sl.nil)),?_⟩;rintro H2 v k A4 n5 c6 i ⟨q,h1,rfl,s⟩;have R:=s.len;have M:=dS (aG ((b.take i.toNat).filter (jV t)));have r:=abm (jV t) (b.take i.toNat);rw[aaE]at r;have X:(i+1).toNat=i.toNat+1:=by omega
 refine⟨λ f=>?_,λ D=>⟨?_,?_⟩⟩
 .have f:=aab f;obtain⟨U,y,_,x,⟨A9,n9,c9,T,P,a1,rfl,q1,q2,q3,z⟩⟩:=u.at v q f;have g:=Qx (t:=t) U;refine⟨y,q,f,_,_,x.TH (k:=1) rfl rfl,_,Bx,?_⟩;rintro H3 m _ rfl;refine⟨λ o=>?_,λ o=>?_⟩
  .have h:jV t b[i.toNat]=true:=o;rw[if_pos h]at g;have j:(aG ((b.take i.toNat).filter (jV t)++[b[i.toNat]])).length<=(aG b).length:=by
    rw[<-g];exact kG (aci.trans (ach _ _))
   rw[oC,aae]at j;have a0:=z.len;have B:aG [b[i.toNat]]=b[i.toNat].lin:=by simp[aG]
   rw[B]at j;refine u' ⟨y,q,f,_,_,_,(x.mono m).cy (k:=3) rfl,_,dC (s.mono m) (z.mono m) (by omega),?_⟩;intro Z Q G a2 F V;rw[lk,<-B,<-oC,<-g]at V;exact u' ⟨y' (T' (by grind)),by grind⟩
  .have h:¬jV t b[i.toNat]=true:=by
    have o:jV t _=false:=o;grind
   rw[if_neg h,aar]at g;exact u' ⟨y' (T' (by rw[X,g];exact s.mono m)),by grind⟩
 .grind
 grind
end
section
variable {a:Heap}{b:D'}{c d e:Nat}
def fV {B:D'}{g:Nat}{f h:I'}(s:Sl a b c d f)(u:Sl a B e g h):
  ZB 136 [S b c d,S B e g] a fg (λ r _=>r=decide (f=h)):=by
 refine ΦK 0 (aj [] [(6,gb)] [(4,[ag 5])]) (λ d=>V (O c=O e) (d false a) (W ZE a (λ f=>f 0 a) (λ f g h i=>J (i<O c) (ΦX b i c (ΦE ZE h b (N i*1) (λ j=>ΦX B i e (ΦE ZE h B (N i*1) (λ k=>V (j=k) (d false h) (ΦR (i+1)/\f (i+1) h/\g (i+1)<g i)))))) (d true h)))) ?_;dsimp only[PL,aW,eQ,ΦE,N,ΦR,W,ΦX,O,V,J];have y:=s.len;have L:=u.len;have G:=s.bn;refine⟨λ p=>?_,λ C=>?_⟩
 .grind
 have v:(c:Int)=e:=by grind
 refine⟨λ i _=>0<=i/\i<=c/\(f=h↔f.drop i.toNat=h.drop i.toNat),λ i=>c-i.toNat,P' (by rfl),?_⟩;rintro M l i ⟨j,I,t⟩;refine ΦD (λ k=>?_) λ o=>?_
 .obtain⟨z,x,_,F,⟨rfl,q⟩⟩:=s.at l j k;obtain⟨D,E,_,w,⟨rfl,P⟩⟩:=u.at l j (by omega);rw[ak j z,ak j D]at t;refine⟨x,j,k,_,F,E,j,by omega,_,w,λ p=>?_,λ C=>u' ⟨y' ?_,by grind⟩⟩
  .grind
  grind
 .rw[ai o y,aaN (by omega)]at t;grind
def Uj {u v:cT}:u=v↔u.p.lo=v.p.lo/\u.p.hi=v.p.hi/\u.ids=v.ids:=by
 obtain⟨⟨a,b⟩,i⟩:=u;obtain⟨⟨c,d⟩,j⟩:=v;grind
def NI (first:Int)(l:List cT)(v:cT):List cT:=if first<=(l.length:Int)-1 then cG l v else l++[v]
def ur {r:Nat}{x:G'}{l:List cT}{v:cT}{first:Int}(w:Row a x l)(V:l.length=c)(hf:0<=first)(Z:(c+1)*40<=140737488355328)(R:ae .i64 v.p.lo)(D:ae .i64 v.p.hi)(G:Sl a b d e v.ids):
  ZC 113 [.slice none 0 0,.int .i64 first,.agg ⟨[Φi v.p.lo,Φi v.p.hi]⟩,S b d e] 0 241 c x false a ⟨false,[(false,[.row r 241])]⟩
   (λ _=>λ k X t=>k=(NI first l v).length/\Row t X (NI first l v)):=by
 refine RY 0 (aj [34] [(2,ab 2 6 [22,24,15,16,18,21,26,28,30,32,34,42,37,38,41,45,46,0])] []) (λ f=>ΦR (O c-1)/\let g:=x++[Value.int .i64 v.p.lo,I v.p.hi,S b d e];J (first<=O c-1) (ΦY (O c-1) c (ΦF ZE x (N (O c-1)*3+0+1) 1 (λ h=>J (h=v.p.lo) (ΦY (O c-1) c (ΦF ZM x (N (O c-1)*3+2) 1 (λ i j k=>C ZO 136 [S i j k,S b d e] a λ l m=>ΦQ m (ΦY (O c-1) c (N (O c-1)*3+0+1+1<=L x/\f c (av x (N (O c-1)*3+0+1) [I v.p.hi]) l)) ((c+1)*40<=M/\f (c+1) g l)))) ((c+1)*40<=M/\f (c+1) g a)))) ((c+1)*40<=M/\f (c+1) g a)) ?_;dsimp only[aQ,aR,eQ,C,ΦF,L,M,N,ΦQ,ΦR,ΦY,O,J];have g:∀{t:Heap},Heap.le a t->Row t (x++[Φi v.p.lo,Φi v.p.hi,S b d e]) (l++[v]):=λ j=>(w.mono j).append ⟨_,[],by simp,⟨_,_,_,rfl,R,D,G.mono j⟩,rfl⟩;have i:=w.length;refine u' ⟨λ q=>?_,λ q=>?_⟩
 .have q:=aab q;have W:((c:Int)-1).toNat<l.length:=by omega
  have B:NI first l v=cG l v:=if_pos (by rw[V];exact q)
  obtain⟨vs,⟨P,Y,T,rfl,Q,q2,F⟩,E,z⟩:=w.mg W;have h:l.getLast?=some l[((c:Int)-1).toNat]:=by
   rw[abK,aai (by omega)];congr 2;omega
  have y:=E 1 1 (by decide);have u:=E 2 1 (by decide);rw[B];refine y' ⟨_,y,λ s=>y' ⟨_,_,_,u,_,fV F G,?_⟩,λ s=>u' ?_⟩
  .have s:=aab s;rintro H3 U _ rfl;refine⟨λ o=>?_,λ o=>u' ?_⟩
   .have o:=aab o;have f:cG l v=l.set ((c:Int)-1).toNat ⟨⟨l[((c:Int)-1).toNat].p.lo,v.p.hi⟩,l[((c:Int)-1).toNat].ids⟩:=by
     unfold cG;rw[h];simp only;rw[if_pos ⟨s,o⟩,<-zy (by omega),show l.length-1=((c:Int)-1).toNat by omega]
    refine y' ⟨?_,?_⟩
    .rw[i];show _<=l.length*3;omega
    .rw[f];refine T' ?_;exact(z 1 _ ⟨⟨l[((c:Int)-1).toNat].p.lo,v.p.hi⟩,l[((c:Int)-1).toNat].ids⟩ (by show 1+1<=3;simp) ⟨P,Y,T,rfl,Q,D,F⟩).mono U
   .have f:cG l v=l++[v]:=by
     unfold cG;grind
    grind
  .have f:cG l v=l++[v]:=by
    unfold cG;grind
   rw[f];exact T' (g (ah a))
 .have B:NI first l v=l++[v]:=if_neg (by grind)
  rw[B];exact u' (T' (g (ah a)))
def LB (l w:List cT)(v:cT):NI (l.length:Int) (l++w) v=l++cG w v:=by
 unfold NI;rcases List.eq_nil_or_concat w with rfl |⟨a,u,rfl⟩
 .rw[if_neg (by simp;omega)];simp[cG]
 .rw[if_pos (by simp;omega)];have c:(l++a.concat u).getLast?=some u:=by simp
  have b:(a.concat u).getLast?=some u:=by simp
  unfold cG;rw[c,b];grind
def gn (S:List aO):I'->List cT->List cT
 | f::t::ps,out=>gn S (t::ps) (if 2<=(S.filter (jV f)).length then cG out ⟨⟨f,t⟩,canon (aG (S.filter (jV f)))⟩else out)
 | _,out=>out
def Ae (S:List aO):∀(b:I') (a:List cT),(gn S b a).length<=a.length+b.length
 |[],a=>by simp[gn]
 |[x],a=>by simp[gn]
 | f::t::b,a=>by
  rw[gn];have h:=Ae S (t::b) (if 2<=(S.filter (jV f)).length then cG a ⟨⟨f,t⟩,canon (aG (S.filter (jV f)))⟩else a);have c:(if 2<=(S.filter (jV f)).length then cG a ⟨⟨f,t⟩,canon (aG (S.filter (jV f)))⟩else a).length<=a.length+1:=by
   split
   .exact jG _ _
   simp
  grind
def rG (l:List aO)(a:I')(v:List az):List cT:=gn (bb l a v) (canon (bS (bb l a v))) []
def Qy (l:List aO)(a:I')(v:List az):(rG l a v).length<=2*l.length:=by
 have d:=Ae (bb l a v) (canon (bS (bb l a v))) [];have b:=dS (bS (bb l a v));have e:=iU (bb l a v);have c:=eG l a v;unfold rG;grind
def kf {B:D'}{q:Nat}{l:List aO}{s:I'}(hs:Sl a b c d l)(ht:Sl a B e q s)(hb:e*32<=140737488355328)(hn:c<=5000)(b8:(aG l).length*8<=140737488355328):
  ZB 62 [S b c d,S B e q] a fi (λ A' n' c' H'=>∃u:List (List az),oz u/\(∀v,v∈u↔∃k∈bZ l s,k.key=v)/\Sl H' A' n' c' (u.flatMap (rG l s))):=by
 refine ΦK 3 {aj [] [(14,ab 2 13 [29,30,0])] [(4,[.slot 5 false [.row 69 241],ag 7]),(10,[.slot 5 false [.row 70 241],ag 11])]with res:=wj [(66,⟨false,[(false,[.row 68 241])]⟩)],mt:=ir [] [113]} (λ f=>C ZT 109 [S b c d,S B e q] a λ g h i j=>W ZG g (λ k=>k 0 [] 0 g) λ k l m n o p=>J (p<O i) (ΦX h p i (ΦE ZM m h (N p*2+0) (λ r s t=>C ZT 110 [S b c d,S B e q,S r s t] m λ u v w x=>C ZT 111 [S v w x] u λ y z a0 a1=>W ZG y (λ a2=>a2 n o 0 y) λ a2 a3 a4 a5 a6 a7=>ΦR (a7+1)/\J (a7+1<O a0) (ΦX z a7 a0 (ΦE ZE a4 z (N a7*1) (λ a8=>C YV 112 [S v w x,I a8] a4 λ a9 b0 b1 b2 b3=>J (2<=b0) (ΦX z a7 a0 (ΦE ZE a9 z (N a7*1) (λ b4=>ΦR (a7+1)/\ΦX z (a7+1) a0 (ΦE ZE a9 z (N (a7+1)*1) (λ b5=>ZZ YW 113 [S none 0 0,I (O n),ΦG [I b4,I b5],S b1 b2 b3] 0 241 a5 a6 false a9 λ b6 b7 b8 b9=>ΦR (a7+1)/\a2 b8 b9 (a7+1) b6/\a3 b8 b9 (a7+1)<a3 a5 a6 a7))))) (ΦR (a7+1)/\a2 a5 a6 (a7+1) a9/\a3 a5 a6 (a7+1)<a3 a5 a6 a7)))) (ΦR (p+1)/\k a5 a6 (p+1) a4/\l a5 a6 (p+1)<l n o p)))) (U m o n (λ r s t=>f r n s t))) ?_;dsimp only[PL,aQ,aR,aW,eQ,C,ZZ,ΦE,N,ΦR,W,ΦX,O,J];have hl:=hs.len;refine⟨_,oB hs ht hb (by omega),?_⟩;rintro H1 l1 A3 n4 c5 ⟨rs,b0,e4,L,F⟩;have b4:=b0.len;generalize Z:rs.map (·.vals)=u at L F;have e5:u.length=n4:=by rw[<-Z,aaQ,b4]
 have a7:∀i (h:i<rs.length) (h':i<u.length),u[i]=rs[i].vals:=by intro i h h';subst Z;simp
 refine⟨λ k xs i H'=>0<=i/\i<=n4/\Row H' xs ((u.take i.toNat).flatMap (rG l s))/\k=((u.take i.toNat).flatMap (rG l s)).length/\k<=i.toNat*10000,λ _ _ i=>n4-i.toNat,y' ⟨rfl,rfl,by omega⟩,?_⟩;rintro H9 l9 k xs i ⟨i0,i1,hr,hk,c8⟩;refine ΦD (λ a0=>?_) λ e3=>?_
 .obtain⟨hi,hA,_,hc,⟨A9,n9,c9,B9,m9,d9,rfl,q1,q2⟩⟩:=b0.at l9 i0 a0;have Y:i.toNat<u.length:=by omega
  rw[<-a7 _ hi Y]at q1;have e1:(i+1).toNat=i.toNat+1:=by omega
  have a4:(u.take (i+1).toNat).flatMap (rG l s)=(u.take i.toNat).flatMap (rG l s)++rG l s u[i.toNat]:=by
   rw[e1,aaj Y,abo];simp
  have b5:=Qy l s u[i.toNat];generalize u[i.toNat]=v at q1 a4 b5;have X:=aa l1 l9;refine⟨hA,i0,a0,_,_,_,hc.cy (k:=0) rfl,_,jj (hs.mono X) (ht.mono X) q1 hb,?_⟩;intro c6 b2 d6 d0 e7 hw;refine⟨_,oP hw,?_⟩;intro d5 a9 e9 E c3 R;have hF:rG l s v=gn (bb l s v) (canon (bS (bb l s v))) []:=rfl;have a5:=R.len;have c1:=R.bn;have e8:E<=2*c:=by
   have h2:=dS (bS (bb l s v));have h3:=iU (bb l s v);have h4:=eG l s v;omega
  have a8:(aG (bb l s v)).length*8<=140737488355328:=by
   have:=kG (aci (l:=l) (p:=λ t=>dm t.p&&decide (bK (aJ t.vals s) v=0)));have g:(l.filter λ t=>dm t.p&&decide (bK (aJ t.vals s) v=0))=bb l s v:=rfl;rw[g]at this;omega
  generalize hS:bb l s v=o at hw a8 hF R a5;generalize hP:canon (bS o)=y at R hF a5;generalize hO:(u.take i.toNat).flatMap (rG l s)=O0 at hr hk a4;subst hk;refine⟨λ k2 a2 j H'=>0<=j/\(j<=E\/E=0/\j=0)/\∃w:List cT,Row H' a2 (O0++w)/\k2=(O0++w).length/\w.length<=j.toNat/\rG l s v=gn o (y.drop j.toNat) w,λ _ _ j=>E-j.toNat,
   (y' ⟨[],by simpa using(hr.mono (aa b2 a9)),P' (by simpa using hF)⟩),?_⟩
  rintro d7 P k2 a2 j ⟨j0,j1,w,V,rfl,d1,he⟩;have M:ae .i64 (j+1):=by omega
  refine⟨M,λ D=>?_,λ c7=>?_⟩
  .have D:=aab D;have hj:j.toNat<y.length:=by omega
   have a1:j.toNat+1<y.length:=by omega
   obtain⟨_,hB,_,hd,⟨rfl,r1⟩⟩:=R.at P j0 (by omega);obtain⟨_,b1,_,a6,⟨rfl,r2⟩⟩:=R.at P (i:=j+1) (by omega) D;have e2:(j+1).toNat=j.toNat+1:=by omega
   simp only[e2]at a6 r2;have b7:y.drop j.toNat=y[j.toNat]::y[j.toNat+1]::y.drop (j.toNat+1+1):=by
    rw[aas hj,aas a1]
   have c0:y.drop (j.toNat+1)=y[j.toNat+1]::y.drop (j.toNat+1+1):=aas a1;generalize hf:y[j.toNat]=f at*;generalize c4:y[j.toNat+1]=t at*;rw[b7,gn]at he;have Q:=aa a9 P;refine⟨hB,j0,by omega,_,hd,_,mq (hw.mono Q) a8,?_⟩;rintro e6 z e0 d3 d8 d4 ⟨rfl,T⟩;refine⟨λ h2=>?_,λ h2=>?_⟩
   .have G:=ur (r:=68) (v:=⟨⟨f,t⟩,canon _⟩) (first:=(O0.length)) (V.mono z) rfl (by simp) (by grind) r1 r2 T;rw[LB]at G;refine⟨hB,j0,by omega,_,hd.mono z,M,b1,by omega,D,_,by rw[e2];exact a6.mono z,_,G,?_⟩;have d2:=jG w ⟨⟨f,t⟩,canon (aG (o.filter (jV f)))⟩;grind
   .exact⟨M,y' ⟨w,V.mono z,rfl,u' (by grind)⟩,by grind⟩
  .have b9:rG l s v=w:=by
    rw[he];have:(y.drop j.toNat).length<=1:=by grind
    match y.drop _,this with
    |[],_=>rfl
    |[x],_=>rfl
   refine u' ⟨y' (U' (by grind)),by grind⟩
 .have a3:u.take i.toNat=u:=aag (by omega);rw[a3]at hr hk;intro A2 c2 H2 l2 b3 b6;exact⟨u,L,F,hr.sl l2 b3 hk.symm b6 (by show k*40<=_;omega) (by omega)⟩
end
end Go.Vc
namespace Go.Vc
open Go
section
variable {a:List Kd}{b:List aO}
def Uk {x:Kd}(h:dm x.t.p=true)(f:Int):jV f x.t=JE f x:=by
 have:=fo.1 h;rw[aaH,jV,aY];simp[JE,aah];omega
def LC (d:∀x∈a,dm x.t.p=true)(c:(a.map (·.t)).Perm b)(f:Int):((a.filter (JE f)).map (·.t)).Perm (b.filter (jV f)):=by
 refine List.Perm.trans (List.Perm.of_eq ?_) (c.filter _);rw[List.filter_map];congr 1;exact acg λ x e=>(Uk (d x e) f).symm
def Qz (A:List Kd):di A=aG (A.map (·.t)):=by simp[di,aG,List.flatMap_map]
def NJ (d:∀x∈a,dm x.t.p=true)(c:(a.map (·.t)).Perm b)(f:Int):cN (a.filter (JE f))=canon (aG (b.filter (jV f))):=by
 unfold cN cx;rw[aar,Qz];exact ng λ y=>((LC d c f).flatMap_right _).mem_iff
def NK (c:∀x∈a,dm x.t.p=true)(d:(a.map (·.t)).Perm b):points a=canon (bS b):=by
 refine ng λ y=>?_;rw[ends,bS];grind
def Af {A:List Kd}{S:List aO}(d:∀x∈A,dm x.t.p=true)(b:(A.map (·.t)).Perm S):∀(c:I') (a:List cT),kW A c a=gn S c a
 |[],a=>rfl
 |[x],a=>rfl
 | f::t::c,a=>by
  have h:=(LC d b f).length_eq;rw[aaQ]at h;rw[kW,gn,Af d b _,h,NJ d b f]
def CL {A:List Kd}(h:¬2<=A.length):∀(b:I') (a:List cT),kW A b a=a
 |[],a=>rfl
 |[x],a=>rfl
 | f::t::b,a=>by
  have:=abm (JE f) A;rw[kW,if_neg (by omega),CL h _]
def filter_all {T:Type}{p:T->Bool}{l:List T}(h:∀x∈l,p x=true):l.filter p=l:=List.filter_eq_self.2 h
def filter_none {T:Type}{p:T->Bool}{l:List T}(h:∀x∈l,p x=false):l.filter p=[]:=adh.2 λ x a=>by grind
def Kc (v:List az)(x:Kd):Bool:=decide (x.key=v)
def NL {F:List az->List cT}(C:jf a):(∀x∈a,x.t.p.lo<x.t.p.hi)->∀d:List (List az),oz d->(∀v,v∈d↔∃k∈a,k.key=v)->
  (∀v∈d,F v=kW (a.filter (Kc v)) (points (a.filter (Kc v))) [])->ka a=d.flatMap F:=by
 refine Qc (p:=λ a=>(∀x∈a,x.t.p.lo<x.t.p.hi)->∀d:List _,oz d->(∀v,v∈d↔∃k∈a,k.key=v)->
  (∀v∈d,F v=kW (a.filter (Kc v)) (points (a.filter (Kc v))) _)->ka a=d.flatMap F) ?_ ?_ a C
 .intro _ d _ m _;have:d=[]:=acs.2 λ v y=>by grind
  subst this;rfl
 .intro k r C c J y d K m B;have H:=(m _).2 ⟨k,N' rfl⟩;cases d with
  | nil=>grind
  | cons z j=>
   obtain⟨D,L⟩:=aaz.1 K;have u:z=k.key:=by
    rcases aaw.1 H with h | h
    .grind
    .have A:=D _ h;obtain⟨x,b,i⟩:=(m z).1 (by simp);rw[c.eq]at b;rcases aam.1 b with b | b
     .rw[<-i];exact c.same x b
     .have G:=c.rest x b;rw[i]at G;have:=aD.anti z k.key;omega
   subst u;have E:∀x∈r.dropWhile _,x.key≠k.key:=λ x b e=>by
    have:=c.rest x b;rw[e,aD.refl]at this;grind
   have I:(k::r).filter (Kc k.key)=k::r.takeWhile (bH k):=by
    rw[c.eq,abB,filter_all (λ x b=>by simp[Kc];exact c.same x b),filter_none (λ x b=>by simp[Kc];grind),aar]
   have s:∀x∈k::r.takeWhile (bH k),x.t.p.lo<x.t.p.hi:=λ x b=>y x (by grind);have q:∀x∈r.dropWhile (bH k),x.t.p.lo<x.t.p.hi:=λ x b=>y x (by rw[c.eq];grind);have A:F k.key=if 2<=(k::r.takeWhile (bH k)).length then oM (k::r.takeWhile (bH k))else[]:=by
    rw[B _ (by simp),I];split
    .rw[He c.lI s]
    .rename_i h;exact CL h _ _
   have n:∀v,v∈j↔∃x∈r.dropWhile (bH k),x.key=v:=by
    intro v;constructor
    .intro f;obtain⟨x,b,w⟩:=(m v).1 (by grind);rw[c.eq]at b;rcases aam.1 b with b | b
     .have:=D v f;rw[<-w,c.same x b,aD.refl]at this;grind
     grind
    .rintro⟨x,b,rfl⟩;have:=(m _).2 ⟨x,by rw[c.eq];grind,rfl⟩;grind
   have o:∀v∈j,F v=kW ((r.dropWhile (bH k)).filter (Kc v)) (points ((r.dropWhile (bH k)).filter (Kc v))) []:=by
    intro v f;rw[B v (by grind),c.eq,abB,filter_none (l:=k::r.takeWhile _) (λ x b=>by simp[Kc];rw[c.same x b];grind),abO]
   rw[zG,abe,J q _ L n o,A]
def QA (l:List aO)(a:I')(v:List az):((bZ l a).filter (Kc v)).map (·.t)=bb l a v:=by
 induction l with
 | nil=>rfl
 | cons t l c=>
  simp only[bZ,bb,aba]at c⊢;by_cases d:dm t.p=true
  .rw[if_pos d,abq,aba];by_cases b:aJ t.vals a=v
   .rw[if_pos (by simpa[Kc]using b),abq,c,if_pos (by rw[d,b,aD.refl];rfl)]
   .rw[if_neg (by simpa[Kc]using b),c,if_neg (by rw[aah,aad,cR];exact λ h=>b h.2)]
  grind
def Hw {c:I'}{h:List (List az)}(j:a.Perm (bZ b c))(n:jf a)(m:oz h)(o:∀v,v∈h↔∃k∈bZ b c,k.key=v):ka a=h.flatMap (rG b c):=by
 have d:∀x∈a,dm x.t.p=true:=λ x f=>by
  have:=j.mem_iff.1 f;simp[bZ]at this;grind
 refine NL n (λ x f=>(fo.1 (d x f)).2.1) _ m (λ v=>?_) λ v _=>?_
 .grind
 .have i:∀x∈a.filter (Kc v),dm _=true:=λ x f=>d x (abc.1 f).1;have e:((a.filter (Kc v)).map (·.t)).Perm (bb b c v):=by
   rw[<-QA];grind
  rw[rG,Af i e,NK i e]
end
section
variable {a:List aO}{b:Nat}{c:List bc}
def Ah (l:List aO)(a:I')(b:List az):List aO:=l.filter λ t=>decide (bK (aJ t.vals a) b=0)
def HB (l:List aO)(a:I')(b:List az):List bc:=norm ((Ah l a b).map (·.p))
def NN {cols:I'}{key:List az}(c:b<a.length):Ah (a.take (b+1)) cols key=Ah (a.take b) cols key++(if decide (bK (aJ a[b].vals cols) key=0)then[a[b]]else[]):=by
 rw[Ah,aaj c,abB];congr 1;grind
def NO (l:List aO)(a:I')(b:List az):norm ((bb l a b).map (·.p))=HB l a b:=by
 refine Jg λ t=>?_;unfold bb Ah;induction l with
 | nil=>rfl
 | cons x r d=>
  by_cases e:bK (aJ x.vals a) b=0
  .by_cases c:dm x.p=true
   .simp[e,c,aH,d]
   .have f:uO x.p t=false:=by simp[uO,c]
    simp[e,c,aH,<-d,f,acF]
  grind
def eZ (g:bc)(t:aO):Bool:=decide (t.p.hi=g.lo)||decide (t.p.lo=g.hi)
def HC (a:List aO)(g:bc):cT:=⟨g,canon (aG (a.filter (eZ g)))⟩
def iV (c:List aO):List bc->List cT
 | a::b::r=>HC c ⟨a.hi,b.lo⟩::iV c (b::r)
 | _=>[]
def Ai (a:List aO):∀s:List bc,(iV a s).length<=s.length
 |[]=>aaB _
 |[_]=>abi _
 | _::b::r=>by
  have:=Ai a (b::r);simp[iV];omega
def gI (l:List aO)(a:I')(v:List az):List cT:=iV (bb l a v) (HB l a v)
def Aj (l:List aO)(a:I')(v:List az):(HB l a v).length<=l.length:=by
 have b:=gD ((Ah l a v).map (·.p));have c:(Ah l a v).length<=l.length:=abm _ _;rw[aaQ]at b;exact aax b c
def CM (l:List aO)(a:I')(v:List az):(gI l a v).length<=l.length:=aax (Ai _ _) (Aj l a v)
def LD (d:1<=b)(h:b<c.length):iV a (c.drop (b-1))=HC a ⟨(c[b-1]'(by omega)).hi,c[b].lo⟩::iV a (c.drop b):=by
 have e:c.drop (b-1)=(c[b-1]'(by omega))::c.drop b:=by
  have:=aas (l:=c) (i:=b-1) (by omega);grind
 rw[e,aas h,iV]
def HD (h:c.length<=b)(g:1<=b):iV a (c.drop (b-1))=[]:=by
 rcases f:c.drop _ with _ |⟨e,_ |⟨d,r⟩⟩
 .rfl
 .rfl
 .have:=aak List.length f;grind
def QC (h:c.length<2):iV a c=[]:=by
 rcases c with _ |⟨d,_ |⟨b,r⟩⟩
 .rfl
 .rfl
 grind
def wW:∀{f d:List (List az)},oz f->oz d->(∀v,v∈f↔v∈d)->f=d
 |[],[],_,_,_=>rfl
 |[],u::d,_,_,h=>absurd ((h u).2 (by simp)) (by simp)
 | v::f,[],_,_,h=>absurd ((h v).1 (by simp)) (by simp)
 | v::f,u::d,hv,hu,h=>by
  obtain⟨j,m⟩:=aaz.1 hv;obtain⟨k,l⟩:=aaz.1 hu;have e:v=u:=by
   rcases aaw.1 ((h v).1 (by simp))with c | c
   .grind
   .rcases aaw.1 ((h u).2 (by simp))with g | g
    .grind
    .have a:=j _ g;have b:=k _ c;have:=aD.anti v u;omega
  subst e;congr 1;refine wW m l λ x=>?_;have i:=h x;simp at i;constructor
  .intro c;rcases i.1 (.inr c)with e | g
   .subst e;have:=j _ c;rw[aD.refl]at this;grind
   grind
  .intro c;rcases i.2 (.inr c)with e | g
   .subst e;have:=k _ c;rw[aD.refl]at this;grind
   grind
def qy {c:List (List az)}(h:c.Pairwise (λ a b=>¬bK b a<0))(g:c.Nodup):oz c:=by
 refine(h.and g).imp λ {a b} d=>?_;obtain⟨k,f⟩:=d;have i:=aD.anti a b;have l:=aD.sign a b;have j:bK a b≠0:=λ e=>f (cR.1 e);omega
def cS (b:List (List az))(l:List aO)(a:I'):Prop:=∀v,v∈b↔∃k∈bZ l a,k.key=v
def CN {b:I'}{v:List az}:(∃k∈bZ a b,k.key=v)↔∃t∈a,dm t.p=true/\aJ t.vals b=v:=by
 simp[bZ];grind
def HE {T:Type}[DecidableEq T]:∀{vs us:List T},vs.Nodup->(∀v∈vs,v∈us)->vs.length<=us.length
 |[],_,_,_=>abi _
 | v::vs,us,hn,h=>by
  obtain⟨b,a⟩:=List.nodup_cons.1 hn;have:=HE (vs:=vs) (us:=us.erase v) a λ x c=>(List.mem_erase_of_ne (λ e=>b (by grind))).2 (h x (by grind));grind
def HF {c:List (List az)}{b:I'}(f:c.Nodup)(h:cS c a b):c.length<=a.length:=by
 have d:c.length<=((bZ a b).map (·.key)).length:=by
  refine HE f λ v e=>?_;obtain⟨k,g,rfl⟩:=(h v).1 e;grind
 rw[aaQ]at d;exact aax d (kU a _)
end
end Go.Vc
