/- A part of the proof of TransactionCommits. -/
import Derived.Test.YtnnbddmfhconiaaGreatDoorG33
import Derived.Test.YtnnbddmfhconiaaGreatDoorG34
set_option maxHeartbeats 16000000
set_option maxRecDepth 100000
set_option linter.unusedVariables false
set_option linter.defProp false
set_option linter.unusedSectionVars false
set_option linter.unusedSimpArgs false
namespace Go.Vc
open Go Go.Shelf Go.Proofs
section
variable {a:Program}{b c:TypeId}
structure W8 where
 a:Int
 b:Int
 c:Int
 d:Int
 e:Int
 f:Int
 g:Int
 h:Int
instance:Rep W8 where
 sz:=8
 byt:=16
 rel _ vs v:=vs=[.int .u16 v.a,.int .u16 v.b,.int .u16 v.c,.int .u16 v.d,.int .u16 v.e,.int .u16 v.f,.int .u16 v.g,.int .u16 v.h]/\ae .u16 v.a/\ae .u16 v.b/\ae .u16 v.c/\ae .u16 v.d/\ae .u16 v.e/\ae .u16 v.f/\ae .u16 v.g/\ae .u16 v.h
 mono _ h:=h
 len h:=by simp[h.1]
 pos:=by decide
 bpos:=by decide
 one h:=by rw[h.1];simp[Value.oneCell']
def Fe {w:World}{r:Reach}{d:Nat}{v:Value}{k:Nat}(j:a.underlying b=some (.array k c))(h:Value.okWide a w r d b v):∃f,v= .agg f/\f.size=a.cellsOf b:=by
 simp only[Value.okWide,j]at h;obtain⟨f,i,g,_⟩:=h;exact⟨f,i,g⟩
def LS {n:Nat}(r:a.underlying b=some (.array n c))(z:a.underlying c=some (.int .u16))(o:a.cellsOf c=1)(B:a.cellsOf b=n){H:Type}{l:TypeId×Value->H}{w:World}{d g:Nat}{i:G'}{x:DataW H×List MemPlace}
  (h:DataW.trod l a w d (λ _=>true) true g b i=some x):i.length=n/\∀j,j<n->∃y,i[j]?=some (Φu y)/\ae .u16 y:=by
 obtain⟨v,m,rfl,rfl,p,q,f⟩:=DataW.trod_array r h;rw[B]at p;simp only[o]at f;refine⟨p,λ j A=>?_⟩;have s:=f j A;obtain⟨y,u,-,k⟩:=DataW.trod_int z (s.trans (aai (by omega:j<v.length)));refine⟨y,?_,UF k⟩;have:((i.drop (j*1)).take 1)[0]?=some (Φu y):=by rw[u];rfl
 rw[acU (by omega),acq]at this;simpa using this
def UG (p:a.underlying b=some (.array 8 c))(s:a.underlying c=some (.int .u16))(o:a.cellsOf c=1)(u:a.cellsOf b=8)(A:a.bytesOf b=16):Tq a b W8:=by
 refine⟨u,A,Io p (Rm s),λ {H L w q r G x} h M=>?_⟩;obtain⟨O,d⟩:=LS p s o u h;obtain⟨R,g,I⟩:=d 0 (by omega);obtain⟨B,j,z⟩:=d 1 (by omega);obtain⟨T,f,S⟩:=d 2 (by omega);obtain⟨E,m,y⟩:=d 3 (by omega);obtain⟨Q,i,D⟩:=d 4 (by omega);obtain⟨K,k,J⟩:=d 5 (by omega);obtain⟨N,n,C⟩:=d 6 (by omega);obtain⟨v,l,F⟩:=d 7 (by omega);clear d h M;match G,O,g,j,f,m,i,k,n,l with
 |[c0,c1,c2,c3,c4,c5,c6,c7],_,g,j,f,m,i,k,n,l=>
  simp only[adJ,adK,acf]at g j f m i k n l;subst g j f m i k n l;exact⟨⟨R,B,T,E,Q,K,N,v⟩,rfl,I,z,S,y,D,J,C,F⟩
def UH (q:a.underlying b=some (.array 9 c))(u:a.underlying c=some (.int .u16))(p:a.cellsOf c=1)(v:a.cellsOf b=9)(B:a.bytesOf b=18):Tq a b U9:=by
 refine⟨v,B,Io q (Rm u),λ {H N w r s I x} h O=>?_⟩;obtain⟨R,d⟩:=LS q u p v h;obtain⟨T,g,J⟩:=d 0 (by omega);obtain⟨C,j,A⟩:=d 1 (by omega);obtain⟨W,f,U⟩:=d 2 (by omega);obtain⟨F,n,z⟩:=d 3 (by omega);obtain⟨S,i,E⟩:=d 4 (by omega);obtain⟨M,k,L⟩:=d 5 (by omega);obtain⟨Q,o,D⟩:=d 6 (by omega);obtain⟨y,l,G⟩:=d 7 (by omega);obtain⟨K,m,V⟩:=d 8 (by omega);clear d h O;match I,R,g,j,f,n,i,k,o,l,m with
 |[c0,c1,c2,c3,c4,c5,c6,c7,c8],_,g,j,f,n,i,k,o,l,m=>
  simp only[adJ,adK,acf]at g j f n i k o l m;subst g j f n i k o l m;exact⟨⟨T,C,W,F,S,M,Q,y,K⟩,rfl,J,A,U,z,E,L,D,G,V⟩
def Zw:Tq Tryz.prog 23 W8:=UG Tryz.underlying23 Tryz.underlying22 (by kernel_rfl) (by kernel_rfl) (by kernel_rfl)
def oU9:Tq Tryz.prog 66 U9:=UH Tryz.underlying66 Tryz.underlying22 (by kernel_rfl) (by kernel_rfl) (by kernel_rfl)
def Wl:Tq Tryz.prog 24 (List U9):=Oj Tryz.underlying24 (by kernel_rfl) (by kernel_rfl) oU9
end
end Go.Vc
