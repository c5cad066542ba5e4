/- A part. -/
import Derived.Test.YtfekcilkpafpjaaGreatF01
import Derived.Lib.SlKeysI
open Array renaming size->x
open Go.Value renaming slice->q
open Go.World renaming alloc->aY
open List renaming length->j
open Option renaming none->F,some->G
namespace Go.Proofs.YtfekcilkpafpjaaGreat
open Go.RowKit
open Tryz renaming prog->aK
set_option maxRecDepth 100000
set_option maxHeartbeats 25600000
set_option linter.all false
variable{J e:Nat}{i:a5}{L:ab}{T:bJ}
section
open Go.Maps
structure vr(D:DataW Unit)(gc:bC):Prop where
 dA:∀v:Int,D.atKey (.int .i64 v) (.lit<|.int .i64 0)= .lit (.int .i64<|dJ gc v)
 has:∀v:Int,Maps.has D (.int .i64 v)=true↔∃s∈gc,bR s=v
def lk(c:a5)(d:Nat)(a:bC)(b:DataW Unit):Prop:=c.ownsMap aK 3 (plainElem aK 3) d (j a) b/\vr b a
def mU(a:a5)(b:Nat)(c:bC):Prop:=∃d,lk a b c d
def xy:Keyed aK 3:=int_keyed sj
theorem vr.nil:vr (.map []) []:=⟨λa=>u,λa=>by simp[Maps.has]⟩
def IT(b:bC)(c:b7)(a:Int):dJ (b++[c]) a=dJ b a+fZ c a:=by rw[Ij,sf,vn,Int.add_zero]
theorem vr.put{b:DataW Unit}{c:bC}(f:vr b c)(g:IsMap b)(a:b7):vr (b.put (.int .i64<|bR a)<|.lit<|.int .i64<|dJ c (bR a)+fZ a (bR a)) (c++[a]):=by
 refine⟨λd=>?_,λd=>?_⟩;.by_cases cT:d=bR a;(.subst cT;rw[atKey_put_same (k:= .int .i64 (bR a)) g bA,IT]);.rw[atKey_put_other xn,f.dA,IT,fZ,be a3,Int.add_zero]
 .by_cases cT:d=bR a;(.subst cT;rw[has_put_same (k:= .int .i64 (bR a)) g bA];simp);.rw[has_put_other xn,f.has];constructor;(.grind);.grind
def lk.keys{a:bC}{b:DataW Unit}(f:lk i e a b)(g:L.Perm (intKeys b)):L.mergeSort (λh j=>decide<|h<=j)=di a:=by
 obtain⟨d,k⟩:=f;have l:=d.tidy xy;have m:∃c,b= .map c/\c.Pairwise (λn o=>n.1≠o.1)/\∀p∈c,∃q,p.1= .int .i64 q:=by obtain⟨y,z,_,r,_,rfl⟩:=d;refine⟨_,u,?_,λs t=>?_⟩;(.obtain⟨A,v,w⟩:=l;injection v with x;rw[x];exact w);.obtain⟨w,v⟩:=fit_keys r s ((WideShapes.sorted_perm _).mem_iff.1 t);obtain⟨r,_,s,_⟩:=Maps.keyOf_i64 sj v;exact⟨r,s⟩
 obtain⟨t,rfl,r,s⟩:=m;have b:(di a).Nodup:=(xt a).imp a3;have c:=perm_intKeys r s b λb=>by rw[k.has];exact sg
 rw[show(λb d:Int=>decide<|b<=d)=leI from u,mergeSort_of_perm_i (g.trans c.symm)];exact List.mergeSort_of_pairwise<|(xt a).imp λ{a a}a=>a3
section
variable{A bN:a5}{b:Nat}{gc:bC}{D:DataW Unit}
theorem mU.made(a:a5):mU (aY a<|.map #[] 0) (x a.heap) []:=⟨_,World.ownsMap_made _ _ _ _,.nil⟩
def lk.a9{cY:aw}(c:lk A b gc D)(d:H cY A bN)(e:b∉cY):lk bN b gc D:=by
 obtain⟨a,f⟩:=c;have c:=a.lt;obtain⟨g,h,i,j⟩:=a;exact⟨⟨g,h,(d.block b c e).trans i,j⟩,f⟩
theorem mU.a9{cY:aw}(a:mU A b gc)(c:H cY A bN)(d:b∉cY):mU bN b gc:=by
 obtain⟨e,f⟩:=a;exact⟨e,f.a9 c d⟩
theorem lk.lt(a:lk A b gc D):b<x A.heap:=a.1.lt
theorem mU.lt(a:mU A b gc):b<x A.heap:=by
 obtain⟨d,c⟩:=a;exact c.lt
def lk.hd(c:lk A b gc D)(a:b7)(d:bN.ownsMap aK 3 (plainElem aK 3) b (j gc+1) (D.put (.int .i64<|bR a)<|.lit<|.int .i64<|dJ gc (bR a)+fZ a (bR a))):mU bN b (gc++[a]):=⟨_,a3,c.2.put (c.1.isMap) a⟩
end
def Qk{a:Program}{c:Array MapEntry}{d f g:bJ}(b:i.heap[e]?=G (.map c J))(c:a.underlying T=G (.map d f)):(Builtin.clear_ #[T] g #[.map (G e)]).run a i= .ok (.tuple #[]) (ChangeMaps.setBlock i e<|.map #[] J):=by simp[Builtin.clear_,zd c,MapKept.run_getObj_map b,MapKept.run_setObj_map _ b,Result.andThen,ChangeMaps.setBlock]
def lk.clear{a:Nat}{b:bC}{c:DataW Unit}(d:lk i a b c):∃b,(Builtin.clear_ #[82] 0 #[.map (G a)]).run aK i= .ok (.tuple #[]) b/\mU b a []/\H [a] i b:=by
 obtain⟨⟨c,b,a,_⟩,_⟩:=d;exact⟨_,Qk a zF,⟨_,⟨#[],b,ChangeMaps.heap_setBlock_same a _,⟨a8,MapKept.stamped_empty b,a8⟩,cF _,u⟩,.nil⟩,⟨u,u,u,by simp[ChangeMaps.setBlock],λb _ b=>ChangeMaps.heap_setBlock_other a _ (λcT=>b nI)⟩⟩
def Dk(a:a5):(zeroValue 3).run aK a= .ok (ag 0) a:=by rfl
def Dl{a:Int}(b: -9223372036854775808<=a)(c:a<=9223372036854775807):(Lit.int .i64 a).wf=true:=by
 simp only[Lit.wf,((bi:IntKind.i64.min= -9223372036854775808)),((bi:IntKind.i64.max=9223372036854775807)),fH,xi];exact⟨b,c⟩
def zG{a:Int}(b: -9223372036854775808<=a)(c:a<=9223372036854775807):keyOf aK 3 (.int .i64 a)=G (.int .i64 a):=keyOf_int_mk sj<|Dl b c
section
variable{c2:Array Oper}{o:Oper}{a:Act}{dj:Act->a5->Prop}{dc:Exit->Act->a5->Prop}{A:a5}{nJ:Prop}{b:Nat}{gc:bC}{D:DataW Unit}
def IU(Dm:o.guard=F)(d e:Operand)(h:o.op=Op.lookup 82 d e false)(f:lk A b gc D)(c:Int)(i:a.eval d= .map (G b))(j:a.eval e=ag c)(k:keyOf aK 3 (.int .i64 c)=G (.int .i64 c))(l:dj (a.put o.dst<|.int .i64<|dJ gc c) A):if Region.wanted o (yielded c2 a.tmps)=true then Oper.wp aK o a A dj dc else nJ:=by
 have m:Region.wanted o (yielded c2 a.tmps)=true:=IV;rw[bB m];obtain⟨n,p,q,_⟩:=f.1.lookup_int xy zF sj (Dk _) k;have r:n=dJ gc c:=by have g:=f.2.dA c;rw[q]at g;simpa using g
 subst r;unfold Oper.wp;simp[execOp,h,i,j,p,Result.andThen];exact l
def IW(Dm:o.guard=F)(e f g:Operand)(i:o.op=Op.mapUpdate 82 e f g)(h:lk A b gc D)(c:b7)(d:Int)(k:d=dJ gc (bR c)+fZ c (bR c))(s:j gc<=2000000)(l:a.eval e= .map (G b))(m:a.eval f=ag (bR c))(n:a.eval g=ag d)(p:keyOf aK 3 (.int .i64<|bR c)=G (.int .i64<|bR c))(q:(Lit.int .i64 d).wf=true)(r:∀d,mU d b (gc++[c])->H [b] A d->dj (a.put o.dst undef) d):if Region.wanted o (yielded c2 a.tmps)=true then Oper.wp aK o a A dj dc else nJ:=by
 have d:Region.wanted o (yielded c2 a.tmps)=true:=IV;rw[bB d];obtain⟨g,e,d,f⟩:=h.1.update xy zF tC p (plainElem_int sj q);unfold Oper.wp;simp[execOp,i,l,m,n,e,Result.andThen];rw[k]at d;exact r _ (h.hd c d)<|ap.grown f a3
end
end
end Go.Proofs.YtfekcilkpafpjaaGreat
