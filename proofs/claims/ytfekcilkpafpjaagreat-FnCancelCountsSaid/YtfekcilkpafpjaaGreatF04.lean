/- A part. -/
import Derived.Test.YtfekcilkpafpjaaGreatF01
import Derived.Lib.SlKeysI
open Array renaming size->x
open Go.Value renaming slice->q
open Go.World renaming alloc->aX
open List renaming length->j
open Option renaming none->G,some->H
namespace Go.Proofs.YtfekcilkpafpjaaGreat
open Go.RowKit
open Tryz renaming prog->aK
set_option maxRecDepth 100000
set_option maxHeartbeats 25600000
set_option linter.all false
variable{J e:Nat}{i:a5}{L:ad}{T:bJ}
section
open Go.Maps
structure v8(D:DataW Unit)(g0:bE):Prop where
 dJ:∀v:Int,D.atKey (.int .i64 v) (.lit<|.int .i64 0)= .lit (.int .i64<|ec g0 v)
 has:∀v:Int,Maps.has D (.int .i64 v)=true↔∃s∈g0,cp s=v
def lh(c:a5)(d:Nat)(a:bE)(b:DataW Unit):Prop:=c.ownsMap aK 3 (plainElem aK 3) d (j a) b/\v8 b a
def mJ(a:a5)(b:Nat)(c:bE):Prop:=∃d,lh a b c d
def xc:Keyed aK 3:=int_keyed rO
theorem v8.nil:v8 (.map []) []:=⟨λa=>u,λa=>by simp[Maps.has]⟩
def Ij(b:bE)(c:b6)(a:Int):ec (b++[c]) a=ec b a+i5 c a:=by rw[HM,x9,CE,Int.add_zero]
theorem v8.put{b:DataW Unit}{c:bE}(e:v8 b c)(f:IsMap b)(a:b6):v8 (b.put (.int .i64<|cp a)<|.lit<|.int .i64<|ec c (cp a)+i5 a (cp a)) (c++[a]):=by
 refine⟨λd=>?_,λd=>?_⟩;.by_cases g:d=cp a;(.subst g;rw[atKey_put_same (k:= .int .i64 (cp a)) f bu,Ij]);.rw[atKey_put_other (by simpa using g),e.dJ,Ij,i5,ND a4,Int.add_zero]
 .by_cases g:d=cp a;(.subst g;rw[has_put_same (k:= .int .i64 (cp a)) f bu];simp);.rw[has_put_other (by simpa using g),e.has];constructor;(.grind);.grind
def lh.keys{a:bE}{b:DataW Unit}(f:lh i e a b)(g:L.Perm (intKeys b)):L.mergeSort (λh j=>decide<|h<=j)=dr a:=by
 obtain⟨d,k⟩:=f;have l:=d.tidy xc;have m:∃c,b= .map c/\c.Pairwise (λn o=>n.1≠o.1)/\∀p∈c,∃q,p.1= .int .i64 q:=by obtain⟨y,z,_,r,_,rfl⟩:=d;refine⟨_,u,?_,λs t=>?_⟩;(.obtain⟨A,v,w⟩:=l;injection v with x;rw[x];exact w);.obtain⟨w,v⟩:=fit_keys r s ((WideShapes.sorted_perm _).mem_iff.1 t);obtain⟨r,_,s,_⟩:=Maps.keyOf_i64 rO v;exact⟨r,s⟩
 obtain⟨t,rfl,r,s⟩:=m;have b:(dr a).Nodup:=(CG a).imp a4;have c:=perm_intKeys r s b λb=>by rw[k.has];exact zd
 rw[show(λb d:Int=>decide<|b<=d)=leI from u,mergeSort_of_perm_i (g.trans c.symm)];exact List.mergeSort_of_pairwise<|(CG a).imp λ{a a}a=>a4
section
variable{y bL:a5}{b:Nat}{g0:bE}{D:DataW Unit}
theorem mJ.made(a:a5):mJ (aX a<|.map #[] 0) (x a.heap) []:=⟨_,World.ownsMap_made _ _ _ _,.nil⟩
def lh.a9{cR:aw}(c:lh y b g0 D)(d:F cR y bL)(e:b∉cR):lh bL b g0 D:=by
 obtain⟨a,f⟩:=c;have c:=a.lt;obtain⟨g,h,i,j⟩:=a;exact⟨⟨g,h,(d.block b c e).trans i,j⟩,f⟩
theorem mJ.a9{cR:aw}(a:mJ y b g0)(c:F cR y bL)(d:b∉cR):mJ bL b g0:=by
 obtain⟨e,f⟩:=a;exact⟨e,f.a9 c d⟩
theorem lh.lt(a:lh y b g0 D):b<x y.heap:=a.1.lt
theorem mJ.lt(a:mJ y b g0):b<x y.heap:=by
 obtain⟨d,c⟩:=a;exact c.lt
def lh.h5(c:lh y b g0 D)(a:b6)(d:bL.ownsMap aK 3 (plainElem aK 3) b (j g0+1) (D.put (.int .i64<|cp a)<|.lit<|.int .i64<|ec g0 (cp a)+i5 a (cp a))):mJ bL b (g0++[a]):=⟨_,a4,c.2.put (c.1.isMap) a⟩
end
def PI{a:Program}{c:Array MapEntry}{d f g:bJ}(b:i.heap[e]?=H (.map c J))(c:a.underlying T=H (.map d f)):(Builtin.clear_ #[T] g #[.map (H e)]).run a i= .ok (.tuple #[]) (ChangeMaps.setBlock i e<|.map #[] J):=by simp[Builtin.clear_,s8 c,MapKept.run_getObj_map b,MapKept.run_setObj_map _ b,Result.andThen,ChangeMaps.setBlock]
def lh.clear{a:Nat}{b:bE}{c:DataW Unit}(d:lh i a b c):∃b,(Builtin.clear_ #[82] 0 #[.map (H a)]).run aK i= .ok (.tuple #[]) b/\mJ b a []/\F [a] i b:=by
 obtain⟨⟨c,b,a,_⟩,_⟩:=d;exact⟨_,PI a lT,⟨_,⟨#[],b,ChangeMaps.heap_setBlock_same a _,⟨a8,MapKept.stamped_empty b,a8⟩,zo _,u⟩,.nil⟩,⟨u,u,u,by simp[ChangeMaps.setBlock],λb _ b=>ChangeMaps.heap_setBlock_other a _ (λdb=>b nu)⟩⟩
def D0(a:a5):(zeroValue 3).run aK a= .ok (ah 0) a:=by rfl
def D1{a:Int}(b: -9223372036854775808<=a)(c:a<=9223372036854775807):(Lit.int .i64 a).wf=true:=by
 simp only[Lit.wf,((bf:IntKind.i64.min= -9223372036854775808)),((bf:IntKind.i64.max=9223372036854775807)),fF,ru];exact⟨b,c⟩
def zj{a:Int}(b: -9223372036854775808<=a)(c:a<=9223372036854775807):keyOf aK 3 (.int .i64 a)=H (.int .i64 a):=keyOf_int_mk rO<|D1 b c
section
variable{c2:Array Oper}{o:Oper}{a:Act}{di:Act->a5->Prop}{d8:Exit->Act->a5->Prop}{y:a5}{nv:Prop}{b:Nat}{g0:bE}{D:DataW Unit}
def Ik(D2:o.guard=G)(d e:Operand)(h:o.op=Op.lookup 82 d e false)(f:lh y b g0 D)(c:Int)(i:a.eval d= .map (H b))(j:a.eval e=ah c)(k:keyOf aK 3 (.int .i64 c)=H (.int .i64 c))(l:di (a.put o.dst<|.int .i64<|ec g0 c) y):if Region.wanted o (yielded c2 a.tmps)=true then Oper.wp aK o a y di d8 else nv:=by
 have m:Region.wanted o (yielded c2 a.tmps)=true:=Il;rw[dz m];obtain⟨n,p,q,_⟩:=f.1.lookup_int xc lT rO (D0 _) k;have r:n=ec g0 c:=by have g:=f.2.dJ c;rw[q]at g;simpa using g
 subst r;unfold Oper.wp;simp[execOp,h,i,j,p,Result.andThen];exact l
def Im(D2:o.guard=G)(e f g:Operand)(i:o.op=Op.mapUpdate 82 e f g)(h:lh y b g0 D)(c:b6)(d:Int)(k:d=ec g0 (cp c)+i5 c (cp c))(s:j g0<=2000000)(l:a.eval e= .map (H b))(m:a.eval f=ah (cp c))(n:a.eval g=ah d)(p:keyOf aK 3 (.int .i64<|cp c)=H (.int .i64<|cp c))(q:(Lit.int .i64 d).wf=true)(r:∀d,mJ d b (g0++[c])->F [b] y d->di (a.put o.dst undef) d):if Region.wanted o (yielded c2 a.tmps)=true then Oper.wp aK o a y di d8 else nv:=by
 have d:Region.wanted o (yielded c2 a.tmps)=true:=Il;rw[dz d];obtain⟨g,e,d,f⟩:=h.1.update xc lT xo p (plainElem_int rO q);unfold Oper.wp;simp[execOp,i,l,m,n,e,Result.andThen];rw[k]at d;exact r _ (h.h5 c d)<|aj.grown f a4
end
end
end Go.Proofs.YtfekcilkpafpjaaGreat
