/- A part. -/
import Derived.Test.YtfekcilkpafpjaaGreatFM
import Derived.Deep.RegionHeld3
open Array renaming size->x
open Go renaming Calls->aQ
open Go.Calls renaming mono->ab
open Go.Ending renaming returned->bd
open Go.IntKind renaming i64->B
open Go.Obj renaming cells->au
open Go.Value renaming int->C,slice->q,agg->aO
open Go.World renaming cell?->ax,drew->ed,drewN->g4,alloc->aX,setCell->bZ
open Int renaming toNat->bF
open List renaming length->j,range->aR,getD->aU
open Option renaming none->G,some->H
open Or renaming inl->aN,inr->bk
namespace Go.Proofs.YtfekcilkpafpjaaGreat
open Go.RowKit
open Tryz renaming prog->aK
open Tryz
set_option maxRecDepth 100000
set_option maxHeartbeats 25600000
set_option linter.all false
variable{M W:Int}{J Q V e:Nat}{P i:a5}{L Z:ad}{w:aw}{K:ay}{R:az}{T:bJ}
def ak(a:Prop):Prop:=a
def ak.h{a:Prop}(b:ak a):a:=b
def A{a:Prop}(b:a):ak a:=b
def aq{a b:Prop}(c:a)(d:b):ak a/\ak b:=⟨c,d⟩
def bb{a b c:Prop}(d:a)(e:b)(f:c):ak a/\ak b/\ak c:=⟨d,e,f⟩
def cd{a b c d:Prop}(e:a)(f:b)(g:c)(h:d):ak a/\ak b/\ak c/\ak d:=⟨e,f,g,h⟩
def eV{a b c d e:Prop}(f:a)(g:b)(h:c)(i:d)(j:e):ak a/\ak b/\ak c/\ak d/\ak e:=⟨f,g,h,i,j⟩
def k9{a b c d e f:Prop}(g:a)(h:b)(i:c)(j:d)(k:e)(l:f):ak a/\ak b/\ak c/\ak d/\ak e/\ak f:=⟨g,h,i,j,k,l⟩
def kD{a b c d e f g:Prop}(h:a)(i:b)(j:c)(k:d)(l:e)(m:f)(n:g):ak a/\ak b/\ak c/\ak d/\ak e/\ak f/\ak g:=⟨h,i,j,k,l,m,n⟩
def uT{a b c d e f g h:Prop}(i:a)(j:b)(k:c)(l:d)(m:e)(n:f)(o:g)(p:h):ak a/\ak b/\ak c/\ak d/\ak e/\ak f/\ak g/\ak h:=⟨i,j,k,l,m,n,o,p⟩
def H4{a b c d e f g h i:Prop}(j:a)(k:b)(l:c)(m:d)(n:e)(o:f)(p:g)(q:h)(r:i):ak a/\ak b/\ak c/\ak d/\ak e/\ak f/\ak g/\ak h/\ak i:=⟨j,k,l,m,n,o,p,q,r⟩
def oD{a b c:Prop}(d:a)(e:b)(f:c):a/\b/\c:=⟨d,e,f⟩
def fL{a b c d:Prop}(e:a)(f:b)(g:c)(h:d):a/\b/\c/\d:=⟨e,f,g,h⟩
def hV{a b c d e:Prop}(f:a)(g:b)(h:c)(i:d)(j:e):a/\b/\c/\d/\e:=⟨f,g,h,i,j⟩
def gP{a b c d e f:Prop}(g:a)(h:b)(i:c)(j:d)(k:e)(l:f):a/\b/\c/\d/\e/\f:=⟨g,h,i,j,k,l⟩
def nf{a b c d e f g:Prop}(h:a)(i:b)(j:c)(k:d)(l:e)(m:f)(n:g):a/\b/\c/\d/\e/\f/\g:=⟨h,i,j,k,l,m,n⟩
def jH{a b c d e f g h:Prop}(i:a)(j:b)(k:c)(l:d)(m:e)(n:f)(o:g)(p:h):a/\b/\c/\d/\e/\f/\g/\h:=⟨i,j,k,l,m,n,o,p⟩
def nS{a b c d e f g h i:Prop}(j:a)(k:b)(l:c)(m:d)(n:e)(o:f)(p:g)(q:h)(r:i):a/\b/\c/\d/\e/\f/\g/\h/\i:=⟨j,k,l,m,n,o,p,q,r⟩
def H5{a b c d e f g h i j:Prop}(k:a)(l:b)(m:c)(n:d)(o:e)(p:f)(q:g)(r:h)(s:i)(t:j):a/\b/\c/\d/\e/\f/\g/\h/\i/\j:=⟨k,l,m,n,o,p,q,r,s,t⟩
def Os{a b c d e f g h i j k:Prop}(l:a)(m:b)(n:c)(o:d)(p:e)(q:f)(r:g)(s:h)(t:i)(u:j)(v:k):a/\b/\c/\d/\e/\f/\g/\h/\i/\j/\k:=⟨l,m,n,o,p,q,r,s,t,u,v⟩
def H6{a b c d e f g h i j k l:Prop}(m:a)(n:b)(o:c)(p:d)(q:e)(r:f)(s:g)(t:h)(u:i)(v:j)(w:k)(x:l):a/\b/\c/\d/\e/\f/\g/\h/\i/\j/\k/\l:=⟨m,n,o,p,q,r,s,t,u,v,w,x⟩
theorem aj:F w i i:=F.refl w i
def F.a3(b:F w i P){a:Addr}(c:ax i a=H K)(d:a.block∉w:=by simp):ax P a=H K:=b.aJ c d
def bc(a:F w i P:=by repeat(first|with_reducible exact F.refl _ _|with_reducible refine F.drew ?_|with_reducible refine F.alloc ?_ _|exact F.refl _ _|refine F.drew ?_|refine F.alloc ?_ _|fail)):F w i P:=a
def cV(a:F w i P:=by repeat(first|exact F.refl _ _|refine F.drew ?_|refine F.alloc ?_ _|fail)):F w i P:=a
def nT{a:Type}(b c:a):Prop:=b=c
def nT.r{b:Type}{a:b}:nT a a:=rfl
theorem a2{l:Program}{a:Array Oper}{b:Exit ->Act ->a5 ->Prop}{c:Region.Mode}{d:a5 ->Prop}(f m:Nat){g:Oper}{j o:Array Bool}{k p:Act}(q:wpAnyH l c a b d e o p i)(v:a[f]?=H g:=by rfl)(x:g.dst=H m:=by rfl)(z:Region.noSelect a=true:=by kernel_rfl)(A:Region.free c a j f=true:=by kernel_rfl)(B:(Region.ready c a j).contains f=true:=by kernel_rfl)(C:Region.wanted g (yielded a k.tmps)=true:=by rfl)(D:∀n,d n ->nT ((execOp k.eval g).run l n) (.ok (.value K) n):=by(intro y l6;(try dsimp only at l6);go_simp;with_reducible exact nT.r))(E:k.put (H m) K=p:=by(first|(simp only[Act.put,JI,el,fW];done)|(simp only[Act.put,JI,el,fW];rfl)|rfl))(F:j.setIfInBounds f true=o:=by(first|(simp only[JI,el,fW];done)|(simp only[JI,el,fW];rfl)|rfl))(r:∀s t u,b (.panic s) (t.put (H m) K) u ->b (.panic s) t u:=by exactλ_ _ _ b7=>b7)(G:d i:=by assumption):wpAnyH l c a b d (e+1) j k i:=by
 subst E F;rw[<- x]at q r;exact wpAnyH_take v z A B r (Or.inl ⟨C,D⟩) G q
def c4{m:Program}{a:Array Oper}{b:Exit ->Act ->a5 ->Prop}{c:Region.Mode}{g:a5 ->Prop}(d j:Nat){k:Oper}{f n:Array Bool}{l o:Act}(p:wpAnyH m c a b g e n o i)(v:a[d]?=H k:=by rfl)(w:k.dst=H j:=by rfl)(x:Region.noSelect a=true:=by kernel_rfl)(y:Region.free c a f d=true:=by kernel_rfl)(z:(Region.ready c a f).contains d=true:=by kernel_rfl)(A:Region.wanted k (yielded a l.tmps)=false:=by kernel_rfl)(B:l.put (H j) undef=o:=by(first|(simp only[Act.put,JI,el,fW];done)|(simp only[Act.put,JI,el,fW];rfl)|rfl))(C:f.setIfInBounds d true=n:=by(first|(simp only[JI,el,fW];done)|(simp only[JI,el,fW];rfl)|rfl))(q:∀r s t,b (.panic r) (s.put (H j) undef) t ->b (.panic r) s t:=by exactλ_ _ _ b7=>b7)(D:g i:=by assumption):wpAnyH m c a b g (e+1) f l i:=by
 subst B C;rw[<- w]at p q;exact wpAnyH_take v x y z q (Or.inr ⟨A,u⟩) D p
def ba{g:Program}{a:Array Oper}{h:Exit ->Act ->a5 ->Prop}{j:Region.Mode}{b:a5 ->Prop}(k:Nat){c:Oper}{l:Array Bool}{d:Act}(o:∀m:Act ->a5 ->Prop,Shut (∀n f,b f ->(b f ->wpAnyH g j a h b e (l.setIfInBounds k true) n f)->m n f)->if Region.wanted c (yielded a d.tmps)=true then Oper.wp g c d i m h else m (d.put c.dst undef) i)(f:Region.ready j a l=[k]:=by kernel_rfl)(m:a[k]?=H c:=by rfl):wpAnyH g j a h b (e+1) l d i:=GA f a8<|yU m o pt
section
variable{bD:Program}{c2:Array Oper}{d8:Exit ->Act ->a5 ->Prop}{iz:Region.Mode}{jm ck:a5 ->Prop}{g5:Nat}
def SP(b c:a5 ->Prop)(d:Nat)(e:Array Bool)(a:a5):Prop:=b a/\(e.getD d true=false ->c a)
def SP.set{av:Nat}{a:Array Bool}(b:av≠g5):SP jm ck g5 (a.setIfInBounds av true) i↔SP jm ck g5 a i:=by
 unfold SP;rw[getD_set_ne true b]
def kE(f:Program)(b:Region.Mode)(a:Array Oper)(c:Exit ->Act ->a5 ->Prop)(g h:a5 ->Prop)(i:Nat):Nat ->Array Bool ->Act ->a5 ->Prop|0,d,e,k=>Region.ready b a d=[]/\c .normal e k|m+1,d,k,l=>(Region.ready b a d=[]->c .normal k l)/\∀e∈Region.ready b a d,wpOp f a c e (λn j=>SP g h i (d.setIfInBounds e true) j/\kE f b a c g h i m (d.setIfInBounds e true) n j) k l
theorem H7:∀(a:Nat)(b:Array Bool)(c:Act)(d:a5),kE bD iz c2 d8 jm ck g5 a b c d ->wpAny bD iz c2 d8 a b c d|0,_,_,_,a=>a|b+1,_,_,_,a=>⟨a.1,λc d=>wpOp_mono (λe f g=>H7 b _ e f g.2)<|a.2 c d⟩
def Ot{b:Array Bool}(c:(match c2[g5]? with|H h=>h.after.any λf=>Region.binds iz f&&f.on==e|G=>false)=true)(g:b.getD e true=false):g5∉Region.ready iz c2 b:=λi=>by obtain⟨_,j,k,l⟩:=mem_ready.1 i;rw[k]at c;simp only[Array.any_eq_true,fF,he]at c;obtain⟨m,n,o,p⟩:=c;have a:=l j.after[m] (Array.getElem_mem n) o;rw[p]at a;rcases dE e b.size with d|d;(. simp[d]at g a;rw[g]at a;cases a);. simp[Array.getElem?_eq_none d]at a
def Ou{b:Oper}(h1:c2[e]?=H b)(q:∀(I:Nat)(p:Oper)O R,c2[I]?=H p ->p.op≠.select O R)(J:∀s t u,d8 (.panic s) (t.put b.dst K) u ->d8 (.panic s) t u)(M:e≠g5)(N:(match c2[g5]? with|H S=>S.after.any λv=>Region.binds iz v&&v.on==e|G=>false)=true):∀(r:Nat)(c:Array Bool)(i:Act)(h:a5),(∀j k,c2[j]?=H k ->j≠e ->c.getD j true=false ->(∀w∈k.after,Region.binds iz w=true ->w.on≠e)->b.apart c2 k=true)->c.getD g5 true=false ->e∈Region.ready iz c2 c ->YieldsIf bD c2 (λx=>jm x/\ck x) b K i ->jm h/\ck h ->kE bD iz c2 d8 jm ck g5 r (c.setIfInBounds e true) (i.put b.dst K) h ->kE bD iz c2 d8 jm ck g5 (r+1) c i h:=by
 intro T;induction T with|zero=>intro l m n _ o a rE FV sF;refine⟨λd=>(by rw[d]at a;cases a),λf g=>?_⟩;by_cases ty:f=e;(. exact a1N);. have:=ready_mono g ty;rw[sF.1]at this;cases this|succ ai U=>intro d aj ak y V f rE FV sF;have W:=(mem_ready.1 f).1;refine⟨λX=>(by rw[X]at f;cases f),λa l=>?_⟩;by_cases ty:a=e;(. exact a1N);. (have Y:a≠g5:=by rintro rfl;exact Ot N W l);have Z:=sF.2 a<|ready_mono l ty;obtain⟨z,m,n,a0⟩:=mem_ready.1 l;(have a1:∀A∈m.after,Region.binds iz A=true ->A.on≠e:=λa2 a3 a4 a6=>by have g:=a0 a2 a3 a4;have B:=(mem_ready.1 f).1;rw[a6]at g;rcases dE e d.size with o|o;(. simp[o]at B g;rw[B]at g;cases g);. simp[Array.getElem?_eq_none o]at g);have a7:=wpOp_putIf n (y a m n ty z a1) (λa8 a9=>q e b a8 a9 h1) (λaa ab=>q a m aa ab n) J rE Z;(have ad:∀g o,c2[g]?=H o ->g≠e ->(d.setIfInBounds a true).getD g true=false ->(∀B∈o.after,Region.binds iz B=true ->B.on≠e)->b.apart c2 o=true:=λC ae af ag D ah=>by refine y C ae af ag ?_ ah;by_cases E:a=C;(. subst E;exact z);. rw[getD_set_ne true E]at D;exact D);refine wpOp_mono (λj c g=>?_) a7;(have h:SP jm ck g5 (d.setIfInBounds a true) c:=by have:=g.2.1;rw[Ov _ _ (Ne.symm ty)]at this;exact(SP.set M).1 this);(have i:(d.setIfInBounds a true).getD g5 true=false:=by rw[getD_set_ne true Y];exact V);have k:jm c/\ck c:=⟨h.1,h.2 i⟩;refine⟨h,U (d.setIfInBounds a true) j c ad i (ready_mono f<|Ne.symm ty) g.1 k ?_⟩;rw[Ov _ _ ty];exact g.2.2
def pB{id:Nat}{c:Act}(a b:a5 ->Prop)(d:Nat)(e:bD.follows .mixedOrders=true)(f:a (ed i)/\b (ed i))(g:a (ed i)/\b (ed i)->kE bD .any c2 d8 a b d c2.size (Array.replicate c2.size false) c (ed i)):(Code.region id c2 true).wp bD d8 c i:=wp_region_any e<|H7 _ _ _ _<|g f
def pD{a:Array Bool}{b:Act}(c:d8 .normal b i)(d:Region.ready iz c2 a=[]:=by kernel_rfl):kE bD iz c2 d8 jm ck g5 e a b i:=by cases e with|zero=>exact⟨d,c⟩|succ g=>exact⟨λ_=>c,λh f=>(by rw[d]at f;cases f)⟩
theorem pT(a g:Nat){d:Oper}{b j:Array Bool}{c k:Act}(l:kE bD iz c2 d8 jm ck g5 e j k i)(m:c2[a]?=H d:=by rfl)(s:d.dst=H g:=by rfl)(t:Region.noSelect c2=true:=by kernel_rfl)(u:Region.free iz c2 b a=true:=by kernel_rfl)(kb:(Region.ready iz c2 b).contains a=true:=by kernel_rfl)(v:a≠g5:=by decide)(x:(match c2[g5]? with|H I=>I.after.any λo=>Region.binds iz o&&o.on==a|G=>false)=true:=by kernel_rfl)(z:b.getD g5 true=false:=by kernel_rfl)(A:Region.wanted d (yielded c2 c.tmps)=true:=by rfl)(B:∀f,jm f/\ck f ->nT ((execOp c.eval d).run bD f) (.ok (.value K) f):=by(intro y l6;(try dsimp only at l6);go_simp;with_reducible exact nT.r))(C:c.put (H g) K=k:=by(first|(simp only[Act.put,JI,el,fW];done)|(simp only[Act.put,JI,el,fW];rfl)|rfl))(D:b.setIfInBounds a true=j:=by(first|(simp only[JI,el,fW];done)|(simp only[JI,el,fW];rfl)|rfl))(n:∀p q r,d8 (.panic p) (q.put (H g) K) r ->d8 (.panic p) q r:=by exactλ_ _ _ b7=>b7)(E:jm i/\ck i:=by assumption):kE bD iz c2 d8 jm ck g5 (e+1) b c i:=by
 subst C D;rw[<- s]at l n;exact Ou m (Region.noSelect_spec t) n v x e b c i (Region.free_spec m u) z C5 (Or.inl ⟨A,B⟩) E l
def g8(d:Nat){b:Oper}{f:Array Bool}{c:Act}(m:∀g:Act ->a5 ->Prop,Shut (∀h a,jm a/\ck a ->(jm a/\ck a ->kE bD iz c2 d8 jm ck g5 e (f.setIfInBounds d true) h a)->g h a)->if Region.wanted b (yielded c2 c.tmps)=true then Oper.wp bD b c i g d8 else g (c.put b.dst undef) i)(j:Region.ready iz c2 f=[d]:=by kernel_rfl)(n:c2[d]?=H b:=by rfl):kE bD iz c2 d8 jm ck g5 (e+1) f c i:=⟨λk=>(by rw[j]at k;cases k),λo l=>by rw[j,kC]at l;subst l;exact wpOp_step n λa b=>m a λc d a e=>b c d ⟨⟨a.1,λ_=>a.2⟩,e a⟩⟩
def pS{a:Oper}{b:Array Bool}{c:Act}(l:∀d:Act ->a5 ->Prop,Shut (∀g f,jm f ->kE bD iz c2 d8 jm ck g5 e (b.setIfInBounds g5 true) g f ->d g f)->if Region.wanted a (yielded c2 c.tmps)=true then Oper.wp bD a c i d d8 else d (c.put a.dst undef) i)(h:Region.ready iz c2 b=[g5]:=by kernel_rfl)(m:c2[g5]?=H a:=by rfl)(n:g5<b.size:=by decide):kE bD iz c2 d8 jm ck g5 (e+1) b c i:=⟨λj=>(by rw[h]at j;cases j),λo k=>by rw[h,kC]at k;subst k;exact wpOp_step m λa b=>l a λa c d e=>b a c ⟨⟨d,λa=>by simp[n]at a⟩,e⟩⟩
def aV{a:a5 ->Prop}{c:Act ->a5 ->Prop}{d:Act ->a5 ->Prop}{e f:Act}(h:Shut (∀g b,a b ->(a b ->c g b)->d g b))(j:a i)(k:a i ->c f i)(l:e=f:=by(first|(simp only[Act.put,JI,el,fW];done)|(simp only[Act.put,JI,el,fW];rfl)|rfl)):d e i:=by
 subst l;exact h _ _ j k
def ng{b:a5 ->Prop}{c:Act ->a5 ->Prop}{d:Act ->a5 ->Prop}{e f:Act}(h:Shut (∀g a,b a ->c g a ->d g a))(j:b i)(k:c f i)(l:e=f:=by(first|(simp only[Act.put,JI,el,fW];done)|(simp only[Act.put,JI,el,fW];rfl)|rfl)):d e i:=by
 subst l;exact h _ _ j k
end
section
variable{bD:Program}{c2:Array Oper}{d8:Exit ->Act ->a5 ->Prop}{mC:a5 ->Prop}
def d2{id:Nat}{b:Act}(a:a5 ->Prop)(c:a (ed i))(d:a (ed i)->wpAnyH bD .any c2 d8 a c2.size (Array.replicate c2.size false) b (ed i))(a:bD.follows .mixedOrders=true:=by kernel_rfl):(Code.region id c2 true).wp bD d8 b i:=eS a c d
def cG{a:Region.Mode}{b:Array Bool}{c:Act}(d:d8 .normal c i)(f:Region.ready a c2 b=[]:=by kernel_rfl):wpAnyH bD a c2 d8 mC e b c i:=wpAnyH_done f d e
end
def bS(b a c:Int):Bool:=decide (b<=a)&&decide (a<=c)
theorem mD{a:Int}(b:M<=W)(b:W<=a):bS M W a=true:=by grind[bS]
theorem fk{a:Int}(b:bS M W a=true):M<=W/\W<=a:=by grind[bS]
theorem gt(a b c:Int)(d:a5):aQ aK 107 #[ah a,ah b,ah c] d λe f=>e=bd (.bool<|bS b a c)/\d=f:=by
 by_cases c:b<=a;.go_enter func107,ntmps107;go_wp2;go_ret;exact⟨by simp[c,bS],u⟩
 .go_enter func107,ntmps107;go_wp2;go_ret;exact⟨by simp[c,bS];omega,u⟩
def dK(a:ad)(b:Int):Bool:=a.any λa=>a==b
def Ow(b:ad)(c a:Int):dK (b++[c]) a=(dK b a||c==a):=by simp[dK]
def Ox(a:e<j L)(a:(L[e]==M)=true):dK L M=true:=by grind[dK,List.any_eq_true]
theorem H8:dK L M=true↔M∈L:=by simp[dK]
def jn{a0:aw}(h:ay)(a:ad)(b:Int)(c:a5)(d:a7 a0 c (aI a) h):aQ aK 109 #[h,ah b] c λk l=>k=bd (.bool<|dK a b)/\c=l:=by
 have n:=A d;obtain⟨q,r,rfl,s,t⟩:=bB d;clear d;go_enter func109,ntmps109;go_wp2;go_loop [5](λo=>∃e:Nat,e<=j a/\o=ah e/\dK (a.take e) b=false)(λp=>j a -(intOf p).toNat);.grind[dK]
 obtain⟨f,v,rfl,mc:ak _⟩:=hrel;by_cases g:f<j a;(.obtain⟨w,x,rfl,_,y,z⟩:=c0 n g;cases i:(a[f]==b);(.go_wp2;go_round;(.exact⟨f+1,m,be,by rw[fE _ _ g,Ow,mc.h,i];rfl⟩);exact fi);.go_wp2;go_ret;exact⟨cP (Ox g i).symm,u⟩);. exact H9
def eT:(prog.info? 3).map (λa=>(a.zero,a.size,a.bytes))=H (H (ah 0),1,8):=cB
theorem pF(a b:ad):b5 a++b5 b=b5 (a++b):=te
def iS(a:ad):∀b∈b5 a,j b=1:=te
theorem Ha(a:aw)(b:a5):∀c:ad,cu a b (b5 c).flatten (c.map λc=>ah c)|[]=>trivial|d::c=>by have:=Ha a b c;simp only[b5,ha,lB,jo,iA]at this⊢;exact⟨u,this⟩
theorem lC{a0:aw}{y:a5}{E:bJ}(a:ad)(c:∀b,b∈a0->b<x y.heap)(d:j a<=9223372036854775807):a7 a0 (aX y<|au (a.map λb=>Value.int B b).toArray E) (aI a) (q (aZ (x y.heap) 0) (j a)<|j a):=by
 have:=a7.new (a0:=a0) (y:=y) (cg:=1) (bx:=b5 a) (cs:=(a.map λb=>Value.int .i64 b).toArray) (E:=E) (iS a) (by grind[Ha]) c oE;rwa [cN]at this
def j5{a0:aw}(d:ay)(b:ad)(a:a5)(c:a7 a0 a (aI b) d)(o:j b<=1073741824)(e:∀f,f∈a0->f<x a.heap):aQ aK 86 #[d] a λk h=>∃i,k=bd i/\F [] a h/\aS a0 (x a.heap) h 3 1 i (b5 b):=by
 obtain⟨l,cC⟩:=aq c e;obtain⟨m,n,rfl,p,r⟩:=bB c;clear c e;go_enter func86,ntmps86;go_wp2_with(at_builtin;refine k8 u _ _ 34 u a0 (x a.heap) 3 (ah 0) 1 8 vy eT u bf (q (bR a 0) 0 0) [] u (aS.made a0 _ a _ _ (zo _) cC) (a1 m b n) (b5 b) u ((l.cons<|zo _).alloc _) (iS b) oE oE a8 (λg aL=>ig) ?_;intro a a a b;obtain⟨c,d⟩:=aq a b;clear a b);go_ret;refine⟨_,u,(aj.alloc _).trans d.h.a9 λa a=>?_,by simpa using c.h⟩;simp[aF,Value.ownBlock]at a;omega
def pG{a0:aw}(f h:ay)(c b:ad)(a:a5)(d:a7 a0 a (aI c) f)(e:a7 a0 a (aI b) h)(o:j c<=1073741824)(v:j b<=1073741824)(i:∀k,k∈a0->k<x a.heap):aQ aK 200 #[f,h] a λp l=>∃n,p=bd n/\F [] a l/\aS a0 (x a.heap) l 3 1 n (b5<|c++b):=by
 obtain⟨q,r,cC⟩:=bb d e i;obtain⟨w,y,rfl,z,A⟩:=bB d;obtain⟨s,t,rfl,B,C⟩:=bB e;clear d e i;go_enter func200,ntmps200;go_wp2_with fail;refine ab (j5 _ c a q o cC) ?_;rintro h h⟨f,rfl,d:ak _,e:ak _⟩;have h:=d.size;go_wp2_with(at_builtin;refine k8 u _ _ 34 u a0 (x a.heap) 3 (ah 0) 1 8 vy eT u bf f (b5 c) u e (a1 s b t) (b5 b) u (r.aF d λa c=>(e.lt a c).1) (iS b) oE oE m (λg aL=>jI) ?_;intro a a a b;obtain⟨c,f⟩:=aq a b;clear a b);go_ret;exact⟨_,u,d.trans f.a9 λa b=>bk (e.lt a b).1,by rw[<-pF];exact c⟩
structure nh where
 cy:Int
 d1:Int
 cons:List ad
abbrev b2:=List nh
def hW(a:ad):cn:=[aI a]
def jJ(a:List ad):D:= .arr 1<|a.map hW
def gi(a:nh):cn:=[.int a.cy,.int a.d1,jJ a.cons]
def dc(a:b2):D:= .arr 3<|a.map gi
variable{N:b2}
theorem g9(b7:a7 w i (dc N) K):∃c b,K=q c (j N) b/\j N<=b/\b<=9223372036854775807:=tf
theorem iB{a:a5}(l:a7 w a (dc N) (q R e J)){av:Nat}(h1:av<j N):∃b c f g,R=H ⟨b,c,G⟩/\b<x a.heap/\ax a ⟨b,c+av*3,G⟩=H (C B N[av].cy)/\ax a ⟨b,c+av*3+1,G⟩=H (C B N[av].d1)/\ax a ⟨b,c+av*3+2,G⟩=H (q f N[av].cons.length g)/\a7 w a (jJ N[av].cons) (q f N[av].cons.length g):=by
 obtain⟨m,n,o,_,p,_,h⟩:=a7.dJ l (av:=av) uV;simp only[k7,gi,fj,a7]at h;obtain⟨⟨z,r,rfl⟩,⟨A,s,rfl⟩,⟨t,k,u⟩,_⟩:=h;have d:a7 w a (jJ N[av].cons) t:=u;obtain⟨v,y,rfl,_⟩:=a7.cq d;rw[fy]at k d;exact⟨m,n,v,y,o,p,r,s,k,d⟩
def rU{c:a5}{a:List ad}(h:a7 w c (jJ a) (q R e J))(h1:Q<j a):∃d e f g,R=H ⟨d,e,G⟩/\d<x c.heap/\ax c ⟨d,e+Q,G⟩=H (q f a[Q].length g)/\a7 w c (aI a[Q]) (q f a[Q].length g):=by
 obtain⟨b,iC,qK,_,eX,_,cS⟩:=a7.dJ h (av:=Q) uV;simp only[k7,hW,fj,xp]at cS;exact Oy
def de(a:b2)(b:Nat):Int:=((a.take b).map λa=>(j a.cons:Int)).sum
theorem C6(a:b2):de a 0=0:=by simp[de]
def mE(a:e<j N):de N (e+1)=de N e+N[e].cons.length:=by
 unfold de;rw[fE _ _ a,fz,List.sum_append];simp only[ha,mb,Nj,List.sum_nil];omega
def pH(a:b2)(b:Nat):0<=de a b:=by
 unfold de;generalize a.take b=c;induction c with|nil=>simp|cons d e f=>simp;omega
def ni(a:b2):∀(d b:Nat),d<=b->b<=j a->de a d<=de a b:=by
 intro c f i k;induction f with|zero=>(have:c=0:=m);subst this;exact Int.le_refl _|succ e g=>rcases dE c (e+1)with h|h;(.have:=g m m;rw[mE m];omega);. (have:c=e+1:=m);subst this;exact Int.le_refl _
def yV(h:ay)(a:b2)(d:Int)(e:a5)(f:a7 w e (dc a) h)(i:0<=d)(l:d<=j a)(x:de a (j a)<=1073741824):aQ aK 216 #[h,C B d] e λn o=>n=bd (C B<|de a<|bF d)/\e=o:=by
 obtain⟨c,rfl⟩:=dA i;rw[kF];have y:c<=j a:=m;have p:=A f;obtain⟨z,D,rfl,E,F⟩:=g9 f;clear f i l;go_enter func216,ntmps216;go_wp2;go_loop [5,6](λq r=>∃g:Nat,g<=c/\r=C B g/\q=C B (de a g))(λ_ s=>c -(intOf s).toNat);.exact⟨0,Nat.zero_le _,u,by rw[C6]⟩
 obtain⟨b,G,rfl,rfl⟩:=hrel;have H:=pH a b;have I:=ni a b (j a) m<|Nat.le_refl _;by_cases J:b<c;(.obtain⟨k,t,v,K,rfl,L,_,_,M,_⟩:=iB p.h (show b<j a by omega);(have k:=mE<|show b<j a by omega);have t:=ni a (b+1) (j a) m<|Nat.le_refl _;(have v:de a b+a[b].cons.length<=1073741824:=m);have v:=A k;clear k t;go_wp2;go_round;(.exact⟨b+1,m,be,by rw[v.h]⟩);exact fi);. (have k:b=c:=m);subst k;go_wp2;go_ret;exact⟨u,u⟩
def C8(a:b2)(b:Nat):Int:=match a[b]? with|H a=>(j a.cons)|G=>0
theorem tg(a:e<j N):C8 N e=N[e].cons.length:=by simp[C8,a]
def iD(a:b2)(c:Int)(b:Nat):Bool:=bS (de a b) c<|de a b+C8 a b - 1
def ev(a:b2)(b:Int):Int:=match(aR<|j a).find? (iD a b)with|H a=>a+1|G=> -1
def C9(eb:e<j N)(b:iD N M e=true)(c:∀a,a<e->iD N M a=false):ev N M=e+1:=by
 have:(aR<|j N).find? (iD N M)=H e:=by rw[List.find?_eq_some_iff_getElem];exact⟨b,e,uW,a8,λa b=>by simp[c a b]⟩
 simp[ev,this]
def Hb(b:∀a,a<j N->iD N M a=false):ev N M= -1:=by
 have:(aR<|j N).find? (iD N M)=G:=by rw[wN];intro a gQ;simp[b a qL]
 simp[ev,this]
def Hc(a:b2)(b:Int):ev a b= -1\/∃c,c<j a/\ev a b=c+1/\iD a b c=true:=by
 unfold ev;cases d:(aR<|j a).find? (iD a b)with|none=>exact aN u|some e=>exact bk ⟨e,by simpa using Hd d,u,He d⟩
def Ca(k:ay)(a:b2)(c:Int)(e:a5)(f:a7 w e (dc a) k)(l:de a (j a)<=1073741824):aQ aK 161 #[k,C B c] e λq r=>q=bd (C B<|ev a c)/\e=r:=by
 have g:=A f;obtain⟨y,z,rfl,D,E⟩:=g9 f;clear f;go_enter func161,ntmps161;go_wp2;go_loop [5](λs=>∃h:Nat,h<=j a/\s=C B h/\∀n,n<h->iD a c n=false)(λt=>j a -(intOf t).toNat);.exact⟨0,Nat.zero_le _,u,λb b=>m⟩
 obtain⟨b,F,rfl,d⟩:=hrel;have i:=A d;clear d;by_cases d:b<j a;(.obtain⟨G,H,I,J,rfl,K,_,_,L,_⟩:=iB g.h d;have M:=pH a b;have v:=mE d;have x:=ni a (b+1) (j a) m<|Nat.le_refl _;(have N:de a b+a[b].cons.length<=1073741824:=m);(have o:iD a c b=bS (de a b) c (de a b+a[b].cons.length - 1):=by rw[iD,tg d]);have p:=A o;clear v x o;cases o:bS (de a b) c (de a b+a[b].cons.length - 1);(.go_wp2_with(first|(go_at_call 216;refine ab (yV _ a _ _ g.h m m l) ?_;rintro c e⟨rfl,rfl⟩;rw[kF])|(go_at_call 107;refine ab (gt _ _ _ _) ?_;rintro c e⟨rfl,rfl⟩));go_round;(.exact⟨b+1,m,be,λc e=>by rcases Nat.lt_or_ge c b with e|e;(.exact i.h c e);.rw[show c=b by omega,p.h,o]⟩);exact fi);.go_wp2_with(first|(go_at_call 216;refine ab (yV _ a _ _ g.h m m l) ?_;rintro b c⟨rfl,rfl⟩;rw[kF])|(go_at_call 107;refine ab (gt _ _ _ _) ?_;rintro b c⟨rfl,rfl⟩));go_ret;exact⟨ew (by rw[C9 d (by rw[p.h,o]) i.h]),u⟩);.go_wp2;go_ret;exact⟨ew (by rw[Hb (λa b=>i.h a m)]),u⟩
def kc{a:Program}{b:FuncId}{c:Array ay}(d:aQ a b c (g4 i e) λf g=>f=bd K/\g4 i e=g):aQ a b c (g4 i e) λa b=>a=bd K/\∃a,b=g4 i a:=d.mono a4
def dO(a:b2)(b:Nat):nh:=a.getD b ⟨0,0,[]⟩
theorem jp(a:e<j N):dO N e=N[e]:=by simp[dO,a]
def bg(a:b2)(b:Int):ad:=if ev a b<1 then []else(dO a (ev a b - 1).toNat).cons.getD (b - de a (ev a b - 1).toNat).toNat []
def wO(c:aw)(d:a5)(e:D)(f:Ending)(a:a5):Prop:=∃b,f=bd b/\F [] d a/\a7 c a e b
def lD{a0:aw}(n:ay)(a:b2)(c:Int)(e:a5)(h:a7 a0 e (dc a) n)(i:de a (j a)<=1073741824):aQ aK 162 #[n,ah c] e (wO a0 e<|aI<|bg a c):=by
 have f:=A h;obtain⟨B,t,rfl,C,D⟩:=g9 h;clear h;rcases Hc a c with d|⟨b,k,d,v⟩;. (have g:bg a c=[]:=by simp[bg,d]);rw[g];have l:=A d;clear g d;go_enter func162,ntmps162;go_wp2_with(go_at_call 161;apply(Ca _ a _ _ f i).mono;rintro g g⟨rfl,rfl⟩;rw[l.h]);go_ret;exact⟨_,u,aj.alloc _,a7.nil _ _ _ _ _ m⟩
 .obtain⟨w,x,E,F,rfl,G,_,_,H,o⟩:=iB f k;(have p:bS (de a b) c (de a b+a[b].cons.length - 1)=true:=by grind[iD,tg]);obtain⟨I,J⟩:=fk p;have K:=pH a b;have y:=mE k;have z:=ni a (b+1) (j a) m<|zo _;obtain⟨g,l⟩:=dA (m:0<=c - de a b);(have q:g<a[b].cons.length:=m);(have r:bg a c=a[b].cons[g]:=by unfold bg;rw[ND m,d,show((b:Int)+1 - 1).toNat=b by omega,jp k,l,kF];simp[q]);obtain⟨L,M,N,O,rfl,P,Q,s⟩:=rU o q;rw[r];obtain⟨h,k,n⟩:=bb d l s;(have q:(b:Int)<j a:=m);(have q:de a b<=1073741824:=m);(have q:c<=2147483648:=m);(have q:0<=c:=m);(have q:g<=2147483648:=m);clear r d l o s v p y z;go_enter func162,ntmps162;go_wp2_with(go_at_call 161;refine ab (Ca _ a _ _ f i) ?_;rintro d d⟨rfl,rfl⟩;rw[h.h]);have h:IntKind.i64.wrap (b:Int)=b:=fl _ m;(have l:IntKind.i64.wrap ((b:Int)+1 - 1)=b:=a4);(have o:IntKind.i64.wrap (c - de a b)=g:=by rw[k.h];exact tX);(have c:∀d,aQ aK 216 #[a1 (aZ w x) a t,ah b] (g4 e d) λg k=>g=bd (ah<|de a b)/\g4 e d=k:=λd=>by have:=yV _ a b (g4 e d) (f.drewN d) m m i;rwa [kF]at this);have a:=A c;clear c;go_quiet((go_at_call 216;exact kc<|a _));clear h l o;go_wp2;go_ret;exact⟨_,u,aj.drewN _,n.drewN _⟩
def bt(a:b2)(b:Int):ad:=if bS 1 b (j a)then(aR (dO a (b - 1).toNat).cons.length).map λ(c:Nat)=>de a (b - 1).toNat+c else []
def iU(d:aw)(a:a5)(e:bJ)(f:Nat)(g:List cn)(h:Ending)(b:a5):Prop:=∃c,h=bd c/\F [] a b/\aS d (x a.heap) b e f c g
theorem iU.br{a:List cn}{b:Ending}(c:iU w i T e a b P):wO w i (.arr e a) b P:=by
 obtain⟨a,b,d,e⟩:=c;exact⟨a,b,d,e.br⟩
def Hf(a:Nat->Int)(b:Nat):(aR<|b+1).map a=(aR b).map a++[a b]:=by
 rw[th,fz];rfl
def oF{a0:aw}(k:ay)(a:b2)(c:Int)(y:a5)(h:a7 a0 y (dc a) k)(z:de a (j a)<=1073741824)(l:∀n,n∈a0->n<x y.heap):aQ aK 199 #[k,ah c] y (iU a0 y 3 1<|b5<|bt a c):=by
 obtain⟨o,cC⟩:=aq h l;obtain⟨K,L,rfl,M,N⟩:=g9 h;clear h l;cases p:bS 1 c (j a);. (have b:bt a c=[]:=by simp[bt,p]);rw[b];clear b;go_enter func199,ntmps199;go_wp2_with(go_at_call 107;apply(gt _ _ _ _).mono;rintro b b⟨rfl,rfl⟩);go_ret;exact⟨_,u,aj.alloc _,aS.made a0 _ y _ _ (Nat.le_refl _) cC⟩
 .obtain⟨O,P⟩:=fk p;obtain⟨b,e⟩:=dA (m:0<=c - 1);(obtain rfl:c=b+1:=m);(have r:b<j a:=m);(have d:bt a ((b:Int)+1)=(aR a[b].cons.length).map λ(A:Nat)=>de a b+A:=by grind[bt,jp]);rw[d];have Q:=pH a b;have f:=mE r;have i:=ni a (b+1) (j a) m<|Nat.le_refl _;(have R:de a b+a[b].cons.length<=1073741824:=m);clear d e f i;go_enter func199,ntmps199;go_wp2_with(go_at_call 107;apply(gt _ _ _ _).mono;rintro B s⟨rfl,rfl⟩);go_loopw [5,6](λC D wr=>∃i:Nat,i<=a[b].cons.length/\D=ah i/\F [] y wr/\aS a0 (x y.heap) wr 3 1 C (b5<|(aR i).map λ(E:Nat)=>de a b+E))(λ_ H _=>a[b].cons.length -(intOf H).toNat);(. exact a1O);obtain⟨d,S,rfl,e:ak _,f:ak _⟩:=hrel;have T:=e.size;obtain⟨U,V,W,X,rfl,Y,_,_,Z,_⟩:=iB (o.I e) r;by_cases a1:d<a[b].cons.length;(.go_wp2_with(first|(go_at_call 216;apply(yV _ a _ _ (o.I e) m m z).mono;rintro B s⟨rfl,rfl⟩;(first|rw[kF]|rw[show((b:Int)+1 - 1).toNat=b by omega]))|(at_builtin;refine k8 u _ _ 34 u a0 (x y.heap) 3 (ah 0) 1 8 vy eT u bf u5 _ u (f.alloc _) (q (bR wr 0) 1 1) (b5 [de a b+d]) u (a7.new (bx:=b5 [de a b+d]) (iS _) ⟨u,bu⟩ (qJ f λg aL=>jI) te) (iS _) uX uX aB (λg aL=>ig) ?_;intro t s t v;obtain⟨I,J⟩:=aq t v;clear t v));go_roundw;(.exact⟨d+1,m,be,(e.alloc _).trans J.a9 λt v=>bk (f.lt t v).1,by rw[Hf,<-pF];exact I⟩);simp[intOf];omega);. (have t:d=a[b].cons.length:=m);subst t;go_wp2;go_ret;exact⟨_,u,e,f⟩
inductive bn where|mk(af an:Int)(a6:List bn)
def bn.af:bn->Int|.mk a _ _=>a
def bn.an:bn->Int|.mk _ a _=>a
def bn.a6:bn->List bn|.mk _ _ a=>a
mutual def gj:bn->cn|.mk a b c=>[.int a,.int b,.arr 3 (yW c)]def yW:List bn->List cn|[]=>[]|a::b=>gj a::yW b end
theorem Hg:∀a:List bn,yW a=a.map gj|[]=>rfl|b::a=>by rw[yW,Hg a];rfl
def c3(a:List bn):D:= .arr 3<|a.map gj
def nU(a:bn):gj a=[.int a.af,.int a.an,c3 a.a6]:=by cases a with|mk b c d=>rw[gj,Hg];rfl
theorem yX(a:bn):j (gj a)=3:=by
 rw[nU];rfl
theorem bn.eta(a:bn):bn.mk a.af a.an a.a6=a:=by
 cases a;rfl
theorem rV{b:List bn}(b7:a7 w i (c3 b) K):∃d c,K=q d (j b) c/\j b<=c/\c<=9223372036854775807:=tf
def uY{b:a5}{a:List bn}(l:a7 w b (c3 a) (q R e J)){av:Nat}(z:av<j a):∃c d g h,R=aZ c d/\c<x b.heap/\aW b c (d+av*3) (ah a[av].af)/\aW b c (d+av*3+1) (ah a[av].an)/\aW b c (d+av*3+2) (q g a[av].a6.length h)/\a7 w b (c3 a[av].a6) (q g a[av].a6.length h):=by
 obtain⟨m,n,o,_,p,_,f⟩:=a7.dJ l (av:=av) a4;rw[k7,nU]at f;simp only[fj,a7]at f;obtain⟨⟨A,r,rfl⟩,⟨B,s,rfl⟩,⟨C,t,u⟩,_⟩:=f;have k:=u;obtain⟨v,y,rfl,_⟩:=rV k;exact⟨m,n,v,y,o,p,r,s,t,k⟩
def ht(d:aw)(e:a5)(a:bn)(f:ay):Prop:=∃b c,f=aO #[ah a.af,ah a.an,q b (j a.a6) c]/\a7 d e (c3 a.a6) (q b (j a.a6) c)
theorem ht.a9{a0:aw}{y:a5}{b:bn}{cR:aw}(c:ht a0 y b K)(d:F cR y i)(e:∀a,a∈cR->a∈a0\/x y.heap<=a):ht a0 i b K:=by
 obtain⟨a,b,f,g⟩:=c;exact⟨a,b,f,g.a9 d e⟩
def ht.I{y:a5}{a:bn}(b:ht w y a K)(c:F [] y i):ht w i a K:=b.a9 c a4
theorem ht.sub{a0 bv:aw}{b:bn}(c:ht a0 i b K)(d:∀a,a∈bv->a∈a0\/x i.heap<=a):ht bv i b K:=by
 obtain⟨a,b,e,f⟩:=c;exact⟨a,b,e,f.sub d⟩
def Cb(c:aw)(d:a5)(e:bn)(f:Ending)(a:a5):Prop:=∃b,f=bd b/\F [] d a/\ht c a e b
def Cc(c:aw)(a:Int)(b:a5):aQ aK 181 #[ah a] b (Cb c b<|.mk 0 a []):=by
 go_enter func181,ntmps181;go_wp2;exact tM (v:= .agg #[ah 0,ah a,.slice (l4 b 1 0) 0 0]) (by simp[results,Tryz.results181,go_sem]) u ⟨_,u,((aj.alloc _).alloc _),_,_,u,a7.nil _ _ _ _ _ m⟩
def Cd(c:aw)(a:Int)(b:a5):aQ aK 228 #[ah a] b (Cb c b<|.mk 12 a []):=by
 go_enter func228,ntmps228;go_wp2;exact tM (v:= .agg #[ah 12,ah a,.slice (l4 b 1 0) 0 0]) (by simp[results,Tryz.results228,go_sem]) u ⟨_,u,((aj.alloc _).alloc _),_,_,u,a7.nil _ _ _ _ _ m⟩
def rW(a b:Int)(e:ay)(c:List bn)(d:a5)(f:a7 w d (c3 c) e):aQ aK 226 #[ah a,ah b,e] d (Cb w d<|.mk a b c):=by
 obtain⟨g,h,rfl,_,_⟩:=rV f;go_enter func226,ntmps226;go_wp2;refine tM (v:= .agg #[ah a,ah b,a1 g c h]) Oz u ⟨_,u,aj.alloc _,_,_,u,(A f).alloc _⟩
mutual def hX:bn->Int->Int|.mk _ _ b,a=>if a<1 then -1 else kG b (a - 1)def kG:List bn->Int->Int|[],a=>a|a::c,b=>if hX a b<0 then -1 else kG c (hX a b)end
mutual theorem Ce:∀(b:bn)(a:Int),-1<=hX b a/\(0<=a->hX b a<=a)|.mk _ _ a,b=>by rw[hX];split;(.omega);.have:=Hh a (b - 1) m;omega theorem Hh:∀(b:List bn)(a:Int),0<=a-> -1<=kG b a/\kG b a<=a|[],a,b=>by rw[kG];omega|a::c,b,d=>by rw[kG];have d:=Ce a b;split;(.omega);.have:=Hh c (hX a b) m;omega end
def OA{a:List bn}(c:e<j a)(b:Int):kG (a.drop e) b=if hX a[e] b<0 then -1 else kG (a.drop<|e+1) (hX a[e] b):=by rw[jK c,kG]
mutual def d6:bn->Nat|.mk _ _ a=>1+gE a def gE:List bn->Nat|[]=>0|a::b=>d6 a+gE b end
theorem Hi:∀{l:List bn}{k:Nat}(a:k<j l),d6 l[k]<=gE l|[],b,a=>by simp at a|a::b,0,_=>by simp only[kH,gE];omega|c::a,b+1,eb=>by have:=Hi (l:=a) (k:=b) uW;simp only[jL,gE];omega
def OB{a:bn}(c:e<j a.a6):d6 a.a6[e]<d6 a:=by cases a with|mk d f b=>have g:=Hi (l:=b) (k:=e) c;rw[d6];show d6 b[e]<_;omega
def Hj(v:Nat):∀(E:aw)(i:bn),d6 i<v->∀(w:ay)(f:Int)(k:a5),ht E k i w->0<=f->f<=1000000->aQ aK 230 #[w,ah f] k λG H=>G=bd (ah<|hX i f)/\F [] k H:=by induction v with|zero=>grind|succ U J=>intro l a V W d n K X Y;have x:=A J;obtain⟨o,q,rfl,y⟩:=K;obtain⟨_,_,L,Z,a0⟩:=rV y;injection L with M a2 N;subst M N;by_cases z:d<1;(. (have b:hX a d= -1:=by cases a;rw[hX,dz z]);rw[b];go_enter func230,ntmps230;go_wp2;go_ret;exact⟨u,aj.alloc _⟩);. (have O:hX a d=kG a.a6 (d - 1):=by cases a;rw[hX,ND z];rfl);have a3:=A O;go_enter func230,ntmps230;go_wp2;go_loopw [1,5](λP Q wr=>∃(r:Nat)(g:Int),r<=j a.a6/\Q=ah r/\P=ah g/\0<=g/\g<=d/\kG (a.a6.drop r) g=hX a d/\F [] (aX n<|au #[ah a.af,ah a.an,a1 o a.a6 q] 155) wr)(λ_ R _=>j a.a6 -(intOf R).toNat);(.exact⟨0,d - 1,gr _,u,u,m,m,a4,aj⟩);obtain⟨b,c,a6,rfl,rfl,S,a9,s:ak _,e:ak _⟩:=hrel;have ab:bh wr n 2 (a1 o a.a6 q):=(e.cell (p:=cM n 2) a8 a8).trans fG;by_cases t:b<j a.a6;(.obtain⟨ad,ae,af,ag,rfl,ai,al,am,an,B:ak _⟩:=uY ((((A y).h.alloc _).I e:a7 l wr (c3 a.a6) (a1 o a.a6 q))) t;have C:=A<|OA t c;obtain⟨ao,T⟩:=Ce a.a6[b] c;have ap:=T S;have D:=A<|OB t;cases aq:decide (hX a.a6[b] c<0);(. (have d:0<=hX a.a6[b] c:=a4);go_wp2_with(go_at_call 230;apply(x l a.a6[b] (by have:=D.h;omega) _ c _ ⟨_,_,u,B⟩ m m).mono;rintro f f⟨rfl,d:ak _⟩);go_roundw;(.exact⟨b+1,hX a.a6[b] c,m,be,u,m,m,by rw[<-s.h,C.h,ND m],e.aa d⟩);exact fi);. (have d:hX a.a6[b] c<0:=a4);go_wp2_with(go_at_call 230;apply(x l a.a6[b] (by have:=D.h;omega) _ c _ ⟨_,_,u,B⟩ m m).mono;rintro b b⟨rfl,a:ak _⟩);go_ret;exact⟨ew (by rw[<-s.h,C.h,dz d]),(aj.alloc _).aa<|e.aa a⟩);.go_wp2;go_ret;refine⟨ew ?_,(aj.alloc _).aa e⟩;rw[<-s.h,rX m,kG]
def lE(a:bn):Int:=if hX a 30<0 then -1 else 30 - hX a 30
def pI{a0:aw}(a:bn)(c:ay)(b:a5)(d:ht a0 b a c):aQ aK 187 #[c] b λf g=>f=bd (ah<|lE a)/\F [] b g:=by
 have e:=A d;obtain⟨h,i,rfl,_⟩:=d;obtain⟨c,b⟩:=Ce a 30;have c:=b m;by_cases b:hX a 30<0;.go_enter func187,ntmps187;go_wp2_with(go_at_call 230;refine ab (Hj _ a0 a (l5 _) _ 30 _ (e.I<|aj.alloc _) m m) ?_;rintro d d⟨rfl,c:ak _⟩);go_ret;exact⟨ew (A (dz b:lE a= -1)).symm,(aj.alloc _).aa c⟩
 .have c:=A (ND b:lE a=30 - hX a 30);go_enter func187,ntmps187;go_wp2_with(go_at_call 230;refine ab (Hj _ a0 a (l5 _) _ 30 _ (e.I<|aj.alloc _) m m) ?_;rintro b b⟨rfl,a:ak _⟩);go_ret;exact⟨ew c.symm,(aj.alloc _).aa a⟩
def f5(a:b2)(c d:Int)(b:Nat):Bool:=(dO a b).cons.length==0&&(dO a b).cy==c&&(dO a b).d1==d
def gu(a:b2)(b c:Int):Int:=match(aR<|j a).find? (f5 a b c)with|H a=>a+1|G=> -1
def Hk(a:e<j N)(a:f5 N M W e=true)(a:∀a,a<e->f5 N M W a=false):gu N M W=e+1:=by
 have:(aR<|j N).find? (f5 N M W)=H e:=bq;simp[gu,this]
def Hl(a:∀a,a<j N->f5 N M W a=false):gu N M W= -1:=by grind[f5,gu]
def OC(a:b2)(b c:Int):gu a b c= -1\/∃d,d<j a/\gu a b c=d+1/\f5 a b c d=true:=by grind[gu,f5]
def Cf(d:ay)(l:b2)(f t:Int)(a:a5)(e:a7 w a (dc l) d):aQ aK 217 #[d,ah f,ah t] a λn o=>n=bd (ah<|gu l f t)/\a=o:=by
 obtain⟨v,x,rfl,y,z⟩:=g9 e;go_enter func217,ntmps217;go_wp2;go_loop [7](λp=>∃b:Nat,b<=j l/\p=ah b/\∀g,g<b->f5 l f t g=false)(λq=>j l -(intOf q).toNat);.grind
 obtain⟨k,B,rfl,mc:ak _⟩:=hrel;by_cases c:k<j l;(.obtain⟨C,D,E,F,rfl,G,H,I,J,_⟩:=iB (A e) c;(have r:f5 l f t k=(l[k].cons.length==0&&l[k].cy==f&&l[k].d1==t):=by rw[f5,jp c]);have K:=A r;(have s:f5 l f t k=false->∀h,h<k+1->f5 l f t h=false:=λL av M=>Hm);have wP:=A s;cases N:((l[k].cons.length:Int)==0);(. (have O:(l[k].cons.length==0)=false:=a4);go_wp2;go_round;(. exact a1P);exact fi);. (have O:(l[k].cons.length==0)=true:=a4);cases P:(l[k].cy==f);(. exact OD);.cases Q:(l[k].d1==t);(. exact OD);.have a:=A (a4:f5 l f t k=true);go_wp2;go_ret;exact⟨ew (by rw[Hk c a mc]),u⟩);.go_wp2;go_ret;exact⟨ew (by rw[Hl (λa b=>mc a m)]),u⟩
def e8(a:b2)(b:Int):Bool:=bS 1 b (j a)&&(dO a (b - 1).toNat).cons.length==0
def rY(e:ay)(a:b2)(b:Int)(d:a5)(f:a7 w d (dc a) e):aQ aK 165 #[e,ah b] d λh i=>h=bd (.bool<|e8 a b)/\d=i:=by
 obtain⟨n,o,rfl,p,q⟩:=g9 f;cases g:bS 1 b (j a);.go_enter func165,ntmps165;go_wp2_with(go_at_call 107;apply(gt _ _ _ _).mono;rintro c c⟨rfl,rfl⟩);go_ret;exact⟨cP (A (by rw[e8,g];rfl:e8 a b=false)).symm,u⟩
 .obtain⟨r,s⟩:=fk g;obtain⟨c,t⟩:=dA (m:0<=b - 1);(obtain rfl:b=c+1:=m);(have k:c<j a:=m);(have l:e8 a ((c:Int)+1)=((a[c].cons.length:Int)==0):=by grind[e8,jp]);obtain⟨v,x,y,z,rfl,B,_,_,C,_⟩:=iB (A f) k;go_enter func165,ntmps165;go_wp2_with(go_at_call 107;apply(gt _ _ _ _).mono;rintro a a⟨rfl,rfl⟩);go_ret;exact⟨cP (A l).symm,u⟩
def qM(a:ad)(b:Int):Int:=match(aR<|j a).find? (λc=>a.getD c 0==b)with|H a=>a|G=> -1
def OE(a:e<j L)(a:(L[e]==M)=true)(a:∀a,a<e->(L.getD a 0==M)=false):qM L M=e:=by
 have:(aR<|j L).find? (λa=>L.getD a 0==M)=H e:=bq;unfold qM;rw[this]
def OF(a:∀a,a<j L->(L.getD a 0==M)=false):qM L M= -1:=by grind[qM]
theorem OG(a:ad)(b:Int):qM a b= -1\/∃c,∃d:c<j a,qM a b=c/\a[c]=b:=by grind[qM]
def OH(e:ay)(a:ad)(b:Int)(c:a5)(f:a7 w c (aI a) e):aQ aK 180 #[e,ah b] c λl n=>l=bd (ah<|qM a b)/\c=n:=by
 obtain⟨r,s,rfl,t,v⟩:=bB f;go_enter func180,ntmps180;go_wp2;go_loop [5](λo=>∃d:Nat,d<=j a/\o=ah d/\∀g,g<d->(a.getD g 0==b)=false)(λp=>j a -(intOf p).toNat);.grind
 obtain⟨k,x,rfl,mc:ak _⟩:=hrel;by_cases h:k<j a;(.obtain⟨y,z,rfl,_,B,C⟩:=c0 (A f) h;cases q:(a[k]==b);(.go_wp2;go_round;(.exact⟨k+1,m,be,λav a=>Hm⟩);exact fi);.go_wp2;go_ret;exact⟨ew (by rw[OE h q mc]),u⟩);.go_wp2;go_ret;exact⟨ew (by rw[OF (λa b=>mc a m)]),u⟩
def nj(a:ad)(b:Int):ad:=((aR<|j a).filter λc=>a.getD c 0==b).map λ(a:Nat)=>(a:Int)
def pJ(a:ad)(b:Int)(c:Nat):ad:=((aR c).filter λc=>a.getD c 0==b).map λ(a:Nat)=>(a:Int)
theorem Hn(b:ad)(c:Int)(a:Nat):j (pJ b c a)<=a:=by grind[List.length_filter_le,pJ]
theorem OI(a:e<j L)(a:(L[e]==M)=true):pJ L M (e+1)=pJ L M e++[(e:Int)]:=by grind[pJ,List.range_succ]
theorem OJ(a:e<j L)(a:(L[e]==M)=false):pJ L M (e+1)=pJ L M e:=by grind[pJ,List.range_succ]
def OK{dW:ad}{t aP:Int}(a:aP∈nj dW t):∃a,∃b:a<j dW,aP=(a:Int)/\dW[a]=t:=by grind[nj]
theorem OL(a:nj L M=[]):M∉L:=by
 intro b;obtain⟨c,d,e⟩:=md b;have:(c:Int)∈nj L M:=by grind[nj]
 rw[a]at this;cases this
def OM{a0:aw}(i:ay)(a:ad)(c:Int)(y:a5)(k:a7 a0 y (aI a) i)(z:j a<=1073741824)(n:∀l,l∈a0->l<x y.heap):aQ aK 250 #[i,ah c] y (iU a0 y 3 1<|b5<|nj a c):=by
 have cC:=A n;obtain⟨B,C,rfl,D,E⟩:=bB k;go_enter func250,ntmps250;go_wp2;go_loopw [5,6](λo p wr=>∃f:Nat,f<=j a/\p=ah f/\F [] y wr/\aS a0 (x y.heap) wr 3 1 o (b5<|pJ a c f))(λ_ r _=>j a -(intOf r).toNat);. exact a1O
 obtain⟨b,H,rfl,d:ak _,h⟩:=hrel;have e:=A h;have J:=d.size;by_cases s:b<j a;(.obtain⟨t,v,rfl,_,K,L⟩:=c0 ((A k).I d) s;have M:=Hn a c b;cases N:(a[b]==c);(.go_wp2;go_roundw;(.exact⟨b+1,m,be,d,by grind[OJ]⟩);simp[intOf];omega);.go_wp2_with(at_builtin;refine k8 u _ _ 34 u a0 (x y.heap) 3 (ah 0) 1 8 vy eT u bf u5 _ u (e.alloc _) (q (bR wr 0) 1 1) (b5 [(b:Int)]) u (a7.new (bx:=b5 [(b:Int)]) (iS _) ⟨u,bu⟩ (qJ e a4) te) (iS _) uX uX aB (λg aL=>ig) ?_;intro t t h t;obtain⟨K,v⟩:=aq h t);go_roundw;(.exact⟨b+1,m,be,(d.alloc _).trans v.a9 λt v=>bk (e.lt t v).1,by grind[OI,pF]⟩);simp[intOf];omega);. (have t:b=j a:=m);subst t;go_wp2;go_ret;exact⟨_,u,d,e⟩
mutual inductive b6 where|mk(af an b1:Int)(am:ad)(a6:List ch)inductive ch where|mk(ap:List b6)(aY:Int)end
abbrev bE:=List b6
abbrev dy:=List ch
def b6.af:b6->Int|.mk a _ _ _ _=>a
def b6.an:b6->Int|.mk _ a _ _ _=>a
def b6.b1:b6->Int|.mk _ _ a _ _=>a
def b6.am:b6->ad|.mk _ _ _ a _=>a
def b6.a6:b6->dy|.mk _ _ _ _ a=>a
def ch.ap:ch->bE|.mk a _=>a
def ch.aY:ch->Int|.mk _ a=>a
theorem b6.eta(a:b6):b6.mk a.af a.an a.b1 a.am a.a6=a:=by
 cases a;rfl
theorem ch.eta(a:ch):ch.mk a.ap a.aY=a:=by
 cases a;rfl
structure dB where
 aC:ad
 aG:ad
 bs:Int
 aD:ch
structure aH where
 ai:b2
 ag:List dB
def pen(a:Int):Nat:=if a< -4611686018427387904\/9223372036854775807<a then 1000000000000 else 0
theorem wQ(a: -4611686018427387904<=M)(a:M<=9223372036854775807):pen M=0:=by grind[pen]
@[simp]def yY:pen 0=0:=by grind[wQ]
def yZ{n:Int}(a:pen n<1000000000000): -4611686018427387904<=n/\n<=9223372036854775807:=by grind[pen]
mutual def bC:ch->Nat|.mk a _=>c9 a+1 def c9:bE->Nat|[]=>0|a::b=>c5 a+c9 b def c5:b6->Nat|.mk _ a _ b c=>du c+j b+1+pen a def du:dy->Nat|[]=>0|a::b=>bC a+du b end
theorem hY(a:ch):bC a=c9 a.ap+1:=by
 cases a;rw[bC];rfl
theorem h2(a:b6):c5 a=du a.a6+j a.am+1+pen a.an:=by
 cases a;rw[c5];rfl
theorem nV:∀{eG:bE}{av:Nat}(a:av<j eG),c5 eG[av]<=c9 eG|a::b,0,_=>by rw[c9];simp|c::a,b+1,d=>by rw[c9];have:=nV (eG:=a) (av:=b) a4;exact yO
theorem l7:∀{dC:dy}{av:Nat}(a:av<j dC),bC dC[av]<=du dC|a::b,0,_=>by rw[du];simp|c::a,b+1,d=>by rw[du];have:=l7 (dC:=a) (av:=b) a4;exact yO
theorem l8:∀a:bE,j a<=c9 a|[]=>uZ|a::b=>by rw[c9];have:=l8 b;have b:=h2 a;exact G1
theorem nW:∀a:dy,j a<=du a|[]=>by simp[du]|a::b=>by rw[du];have:=nW b;have b:=hY a;exact G1
mutual def dR:b6->cn|.mk a b c d e=>[.int a,.int b,.int c,aI d,.arr 2 (wR e)]def wS:bE->List cn|[]=>[]|a::b=>dR a::wS b def fO:ch->cn|.mk a b=>[.arr 5 (wS a),.int b]def wR:dy->List cn|[]=>[]|a::b=>fO a::wR b end
theorem Ho:∀a:bE,wS a=a.map dR|[]=>by rw[wS];rfl|b::a=>by rw[wS,Ho a];rfl
theorem Hp:∀a:dy,wR a=a.map fO|[]=>by rw[wR];rfl|b::a=>by rw[wR,Hp a];rfl
def dZ(a:bE):D:= .arr 5<|a.map dR
def l9(a:dy):D:= .arr 2<|a.map fO
def z1(s:b6):dR s=[.int s.af,.int s.an,.int s.b1,aI s.am,l9 s.a6]:=by cases s with|mk a b c d e=>rw[dR,Hp];rfl
def qN(a:ch):fO a=[dZ a.ap,.int a.aY]:=by cases a with|mk b c=>rw[fO,Ho];rfl
def kd(a:b6):j (dR a)=5:=by
 rw[z1];rfl
def v0(a:ch):j (fO a)=2:=by
 rw[qN];rfl
theorem mF(a:bE):∀b∈a.map dR,j b=5:=by
 intro e c;obtain⟨d,_,rfl⟩:=iV.1 c;exact kd d
def eY(a:dB):cn:=[aI a.aC,aI a.aG,.int a.bs,dZ a.aD.ap,.int a.aD.aY]
def pK(a:List dB):D:= .arr 5<|a.map eY
def ON(a:List dB):∀b∈a.map eY,j b=5:=by
 intro d c;obtain⟨e,_,rfl⟩:=iV.1 c;rfl
section
variable{a0:aw}{y:a5}{v:ay}{a:az}{n dp:Nat}
theorem oG{b:bE}(b7:a7 a0 y (dZ b) v):∃d c,v=q d (j b) c/\j b<=c/\c<=9223372036854775807:=tf
theorem Cg{b:dy}(b7:a7 a0 y (l9 b) v):∃d c,v=q d (j b) c/\j b<=c/\c<=9223372036854775807:=tf
theorem OO{b:List dB}(b7:a7 a0 y (pK b) v):∃d c,v=q d (j b) c/\j b<=c/\c<=9223372036854775807:=tf
theorem j6{b:bE}(p:a7 a0 y (dZ b) (q a n dp))(L:e<j b):∃c d g h k l,a=aZ c d/\c∉a0/\c<x y.heap/\aW y c (d+e*5) (ah b[e].af)/\aW y c (d+e*5+1) (ah b[e].an)/\aW y c (d+e*5+2) (ah b[e].b1)/\aW y c (d+e*5+3) (q g b[e].am.length h)/\aW y c (d+e*5+4) (q k b[e].a6.length l)/\a7 a0 y (aI b[e].am) (q g b[e].am.length h)/\a7 a0 y (l9 b[e].a6) (q k b[e].a6.length l):=by
 obtain⟨r,s,t,u,v,_,f⟩:=a7.dJ p (av:=e) a4;rw[k7,z1]at f;simp only[fj,a7]at f;obtain⟨⟨M,z,rfl⟩,⟨N,A,rfl⟩,⟨O,B,rfl⟩,⟨P,C,D⟩,⟨Q,E,F⟩,_⟩:=f;have m:=D;have o:=F;obtain⟨H,I,rfl,_⟩:=bB m;obtain⟨J,K,rfl,_⟩:=Cg o;exact⟨r,s,H,I,J,K,t,u,v,z,A,B,C,E,m,o⟩
def jN{b:dy}(m:a7 a0 y (l9 b) (q a n dp))(B:e<j b):∃c d g h,a=aZ c d/\c∉a0/\c<x y.heap/\aW y c (d+e*2) (q g b[e].ap.length h)/\aW y c (d+e*2+1) (ah b[e].aY)/\a7 a0 y (dZ b[e].ap) (q g b[e].ap.length h):=by
 obtain⟨o,p,r,s,t,_,f⟩:=a7.dJ m (av:=e) a4;rw[k7,qN]at f;simp only[fj]at f;obtain⟨⟨C,u,k⟩,⟨D,v,l⟩,_⟩:=f;simp only[a7]at l;subst l;obtain⟨z,A,rfl,_⟩:=oG k;exact⟨o,p,z,A,r,s,t,u,v,k⟩
def hl{l:List dB}(u:a7 a0 y (pK l) (q a n dp)){av:Nat}(P:av<j l):∃b c e f g h k m,a=aZ b c/\b∉a0/\b<x y.heap/\aW y b (c+av*5) (q e l[av].aC.length f)/\aW y b (c+av*5+1) (q g l[av].aG.length h)/\aW y b (c+av*5+2) (ah l[av].bs)/\aW y b (c+av*5+3) (q k l[av].aD.ap.length m)/\aW y b (c+av*5+4) (ah l[av].aD.aY)/\a7 a0 y (aI l[av].aC) (q e l[av].aC.length f)/\a7 a0 y (aI l[av].aG) (q g l[av].aG.length h)/\a7 a0 y (dZ l[av].aD.ap) (q k l[av].aD.ap.length m):=by
 obtain⟨v,z,A,B,C,_,d⟩:=a7.dJ u (av:=av) a4;rw[k7,eY]at d;simp only[fj]at d;obtain⟨⟨Q,D,o⟩,⟨R,E,p⟩,⟨S,F,r⟩,⟨T,H,s⟩,⟨U,I,t⟩,_⟩:=d;simp only[a7]at r t;subst r t;obtain⟨J,K,rfl,_⟩:=bB o;obtain⟨L,M,rfl,_⟩:=bB p;obtain⟨N,O,rfl,_⟩:=oG s;exact⟨v,z,J,K,L,M,N,O,A,B,C,D,E,F,H,I,o,p,s⟩
end
def ih(b:aw)(c:a5)(a:b6)(h:ay):Prop:=∃d e f g,h=aO #[ah a.af,ah a.an,ah a.b1,q d (j a.am) e,q f (j a.a6) g]/\a7 b c (aI a.am) (q d (j a.am) e)/\a7 b c (l9 a.a6) (q f (j a.a6) g)
def nX(d:aw)(e:a5)(a:ch)(f:ay):Prop:=∃b c,f=aO #[q b (j a.ap) c,ah a.aY]/\a7 d e (dZ a.ap) (q b (j a.ap) c)
theorem ih.a9{a0:aw}{y:a5}{b:b6}{cR:aw}(e:ih a0 y b K)(c:F cR y i)(d:∀a,a∈cR->a∈a0\/x y.heap<=a):ih a0 i b K:=by
 obtain⟨a,b,f,g,h,i,j⟩:=e;exact⟨a,b,f,g,h,i.a9 c d,j.a9 c d⟩
theorem nX.a9{a0:aw}{y:a5}{b:ch}{cR:aw}(c:nX a0 y b K)(d:F cR y i)(e:∀a,a∈cR->a∈a0\/x y.heap<=a):nX a0 i b K:=by
 obtain⟨a,b,f,g⟩:=c;exact⟨a,b,f,g.a9 d e⟩
theorem ih.sub{a0 bv:aw}{b:b6}(d:ih a0 i b K)(c:∀a,a∈bv->a∈a0\/x i.heap<=a):ih bv i b K:=by
 obtain⟨a,b,e,f,g,h,i⟩:=d;exact⟨a,b,e,f,g,h.sub c,i.sub c⟩
theorem nX.sub{a0 bv:aw}{b:ch}(c:nX a0 i b K)(d:∀a,a∈bv->a∈a0\/x i.heap<=a):nX bv i b K:=by
 obtain⟨a,b,e,f⟩:=c;exact⟨a,b,e,f.sub d⟩
def dG(a:b2)(b:ad):Bool:=b.all λb=>bS 0 b<|j a
def ke(a:b2)(b:Nat):Bool:=if 0<(dO a b).cons.length then decide ((dO a b).cons.length<=3)&&(dO a b).cy==0&&(dO a b).d1==0&&(dO a b).cons.all λc=>decide (j c<=3)&&dG a c else !((aR b).any λc=>f5 a (dO a b).cy (dO a b).d1 c)&&bS 0 (dO a b).cy (j a)&&bS 0 (dO a b).d1 (j a)
def nk(a:b2):Bool:=decide (j a<=4)&&(aR<|j a).all (ke a)
def ti(b:b2)(a:dB):Bool:=decide (j a.aC<=3)&&dG b a.aC&&bS 0 a.bs (j b)
def dg(a:aH)(b:Nat):dB:=a.ag.getD b ⟨[],[],0,.mk [] 0⟩
def oH(a:aH):Bool:=nk a.ai&&bS 1 (j a.ag) 4&&a.ag.all (ti a.ai)&&(dg a 0).aC.length==0&&(dg a 0).bs==0
def jq(c b:ad)(a:Nat):Bool:=bS 0 (b.getD a 0) (j c - 1)&&c.getD (b.getD a 0).toNat 0 !=0&&!(decide (0<a)&&decide (b.getD a 0<=b.getD (a - 1) 0))
def kf(b a:ad):Bool:=(aR<|j a).all<|jq b a
def e9(a:aH):Bool:=decide (j a.ag<=4)&&oH a&&a.ag.all λa=>kf a.aC a.aG
def eB(a:Int):Bool:=bS 14 a 17
def gk(a:Int):Bool:=bS 0 a 11
def iE(a:Int):Bool:=a==0||a==6||a==8||a==9||a==10
def eC(c a d:ad):Bool:=j a==j d&&(aR<|j a).all λb=>bS 0 (aU a b 0) (j c - 1)&&aU c (aU a b 0).toNat 0==aU d b 0
def kg(a:aH)(c:ad)(e b:Int)(d:ad):Int:=if bS 0 b (j a.ag - 1)then if e=9 then(if eC c d (dg a<|bF b).aC then(dg a<|bF b).bs else -1)else if(dg a<|bF b).aC.length=0\/0<(dg a<|bF b).aG.length\/eC c d ((dg a<|bF b).aC.take<|(dg a<|bF b).aC.length - 1)=false then -1 else gu a.ai ((dg a<|bF b).aC.getD ((dg a<|bF b).aC.length - 1) 0) (dg a<|bF b).bs else -1
def iF(d:aH)(b:ad)(c:Int)(a:ad):Int:=if j a=1/\bS 0 (aU a 0 0) (j b - 1)=true/\aU b (aU a 0 0).toNat 0≠0 then if c≠14/\c≠15/\e8 d.ai (aU b (aU a 0 0).toNat 0)=true then -1 else 0 else -1
def kI(b:ad)(c a:Int):Bool:=if a=0 then true else c==6&&bS 1 a (j b)&&decide (0<aU b (a - 1).toNat 0)
def ii(b:ad)(a:b6):Bool:=!(a.an !=0&&!iE a.af)&&kI b a.af a.b1&&!(decide (0<j a.a6)&&a.af !=7&&a.af !=8)
def eZ(d:aH)(c:ad)(a e:Int)(b:ad):Int:=if a=0 then(if j b=0/\bS (-999) e 999=true then 0 else -1)else if a=1\/a=2\/a=3\/a=4 then(if eC c b [0,0]then 0 else -1)else if a=5 then(if eC c b [0]then 0 else -1)else if a=6 then(if 0<ev d.ai e/\eC c b (bg d.ai e)=true then ev d.ai e else -1)else if a=9\/a=10 then kg d c a e b else if a=11 then(if j b=2/\bS 0 (aU b 0 0) (j c - 1)=true/\e8 d.ai (aU c (aU b 0 0).toNat 0)=true then(if eC c b.tail [(dO d.ai (aU c (aU b 0 0).toNat 0 - 1).toNat).cy]then(dO d.ai (aU c (aU b 0 0).toNat 0 - 1).toNat).d1 else -1)else -1)else if a=14\/a=15\/a=16\/a=17 then iF d c a b else -1
def bN(a:aH)(b c:Int):List ad:=if b=8 then(bt a.ai c).map (bg a.ai)else [[],[]]
mutual def dP(b:aH)(c:ad):ch->Int|.mk d a=>match dL b c d with|G=> -1|H b=>if bS 0 a (j b - 1)then b.getD (bF a) 0 else -1 def dL(b:aH)(a:ad):bE->Option ad|[]=>H a|c::d=>if cW b a c<0 then G else dL b (if gk c.af then a++[cW b a c]else a) d def cW(a:aH)(b:ad):b6->Int|.mk e c g f d=>if ii b (.mk e c g f d)=false then -1 else if e=7 then(if eC b f [0]then(if j d=2 then f0 a b d [[],[]] G else -1)else -1)else if e=8 then(if eC b f [c]then(if 0<j (bt a.ai c)/\j d=j (bt a.ai c)then f0 a b d ((bt a.ai c).map<|bg a.ai) G else -1)else -1)else eZ a b e c f def f0(a:aH)(b:ad):dy->List ad->Option Int->Int|[],_,c=>c.getD 0|d::f,c,e=>if dP a (b++c.headD []) d<0\/(e≠G/\e≠H (dP a (b++c.headD []) d))then -1 else f0 a b f c.tail (H<|dP a (b++c.headD []) d)end
mutual def gR:ch->Int->Option Int|.mk a _,b=>la a b def la:bE->Int->Option Int|[],a=>H a|b::c,a=>if a<1 then G else match rZ b (a - 1)with|G=>G|H a=>la c a def rZ:b6->Int->Option Int|.mk _ _ _ _ a,b=>lF a b def lF:dy->Int->Option Int|[],a=>H a|a::b,c=>match gR a c with|G=>G|H a=>lF b a end
def nY(b:aH)(a:dB):Bool:=(gR a.aD 600).isSome&&dP b a.aC a.aD==a.bs
def gS(a:aH):Bool:=e9 a&&a.ag.all (nY a)
def gw(a:ad):ad->Option ad|[]=>H []|b::c=>if b<0\/(j a:Int)<=b then G else(gw a c).map (aU a (bF b) 0:: ·)
def gl(b:aH)(c a:Int)(d:ad):Int×Bool:=if c=0 then(0,decide (-999<=a)&&decide (a<=999)&&j d==0)else if c=1\/c=2\/c=3\/c=4 then(0,a==0&&d==[0,0])else if c=5 then(0,a==0&&d==[0])else if c=11 then(if j d≠2 then(-1,false)else if e8 b.ai (d.getD 0 0)then((dO b.ai (d.getD 0 0 - 1).toNat).d1,d.getD 1 0==(dO b.ai (d.getD 0 0 - 1).toNat).cy&&a==0)else(0,false))else if c=6 then(ev b.ai a,decide (0<=ev b.ai a)&&d==bg b.ai a)else if c=9\/c=10 then(if a<0\/(j b.ag:Int)<=a then(-1,false)else if c=9 then((dg b<|bF a).bs,d==(dg b<|bF a).aC)else if(dg b<|bF a).aC.length=0 then(-1,false)else(gu b.ai ((dg b<|bF a).aC.getD ((dg b<|bF a).aC.length - 1) 0) (dg b<|bF a).bs,decide (0<=gu b.ai ((dg b<|bF a).aC.getD ((dg b<|bF a).aC.length - 1) 0) (dg b<|bF a).bs)&&d==(dg b<|bF a).aC.take ((dg b<|bF a).aC.length - 1)))else(-1,false)
def pL(c:aH)(b d:Int)(a:ad)(e:Nat):Bool:=j a==1&&a.getD 0 0 !=0&&d==0&&e==0&&!((b==16||b==17)&&e8 c.ai (a.getD 0 0))
mutual def kh(b:aH)(c:ad):ch->Int|.mk d a=>match mG b c d with|G=> -1|H b=>if a<0\/(j b:Int)<=a then -1 else aU b (bF a) 0 def mG(b:aH)(a:ad):bE->Option ad|[]=>H a|c::d=>if(fH b a c).2=false then G else mG b (if eB c.af then a else a++[(fH b a c).1]) d def fH(a:aH)(f:ad):b6->Int×Bool|.mk c b g e d=>match gw f e with|G=>(-1,false)|H e=>if g≠0/\(c≠6\/g<1\/(j f:Int)<g\/aU f (g - 1).toNat 0=0)then(-1,false)else if eB c then(-1,pL a c b e (j d))else if c=7 then(if j e≠1\/e.getD 0 0≠0\/b≠0\/j d≠2 then(-1,false)else h3 a f d [[],[]] G)else if c=8 then(if j e≠1\/e.getD 0 0≠b\/j (bt a.ai b)=0\/j d≠j (bt a.ai b)then(-1,false)else h3 a f d ((bt a.ai b).map<|bg a.ai) G)else if 0<j d\/(c=10/\0<=b/\b<j a.ag/\0<(dg a<|bF b).aG.length)then(-1,false)else gl a c b e def h3(a:aH)(b:ad):dy->List ad->Option Int->Int×Bool|[],_,c=>(c.getD (-1),true)|d::f,c,e=>if kh a (b++c.headD []) d<0\/(e≠G/\e≠H (kh a (b++c.headD []) d))then(-1,false)else h3 a b f c.tail (H<|kh a (b++c.headD []) d)end
theorem nZ(a:ad):∀b:ad,gw a b=if b.all (λc=>bS 0 c<|j a - 1)then H (b.map λb=>aU a (bF b) 0)else G|[]=>by simp[gw]|b::c=>by rw[gw,nZ a c];by_cases c:b<0\/(j a:Int)<=b;(.grind[bS,fk]);.grind[bS,mD]
def v1(a b:ad):∀d:ad,eC a d b=((gw a d).elim false λf=>f==b):=by
 intro e;rw[nZ];by_cases c:e.all (λg=>bS 0 g<|j a - 1)=true;.rw[dz c];simp only[Option.elim];rw[wT];simp only[eC,fF,he,hG,gF];constructor;(.rintro⟨h,h⟩;refine z2 a4 λh h h=>?_;grind);.grind
 .rw[ND c];simp only[Option.elim];cases h:eC a e b;(.rfl);.exfalso;apply c;simp only[eC,fF,hG,gF]at h;grind[List.all_eq_true,List.getElem_of_mem]
theorem s0{a:Int}:bS M W a=true↔M<=W/\W<=a:=by simp[bS]
theorem find_range{a:Nat->Bool}(b:(aR e).find? a=H J):J<e/\a J=true:=a4
theorem Ch(a:b2)(b:Int):ev a b= -1\/(1<=ev a b/\ev a b<=j a):=by grind[ev,find_range]
def OP(a:b2)(b c:Int):gu a b c= -1\/(1<=gu a b c/\gu a b c<=j a):=by grind[gu]
def j7(b:b2)(a:Int):Prop:=0<=a/\a<=j b
theorem Hq:dG N L=true↔∀a∈L,j7 N a:=by simp[dG,s0,j7]
structure a0U(n:aH):Prop where
 bT:e9 n=true
variable{O:aH}
theorem wU(a:e9 O=true):nk O.ai=true:=by grind[e9,oH]
def Ci(c:e9 O=true)(a:Nat):dG O.ai (dg O a).aC=true/\j7 O.ai (dg O a).bs:=by
 simp only[e9,oH,fF,hG]at c;by_cases d:a<j O.ag;.have b:=c.1.2.1.1.2 (dg O a) (by simp[dg,d]);simp only[ti,fF,s0]at b;exact⟨b.1.2,b.2⟩
 .simp[dg,d,dG,j7]
def Cj(c:nk N=true)(b:Nat):j7 N (dO N b).cy/\j7 N (dO N b).d1/\∀a∈(dO N b).cons,dG N a=true:=by
 simp only[nk,fF,hG,gF]at c;by_cases d:b<j N;.have a:=c.2 b d;unfold ke at a;split at a;(.simp only[fF,he,hG]at a;grind[j7]);.rename_i b;simp only[fF,s0]at a;refine⟨a.1.2,a.2,λa a=>?_⟩;grind
 .simp[dO,d,j7]
theorem Ck(b:nk N=true)(a:Int):dG N (bg N a)=true:=by
 unfold bg;split;.simp[dG]
 .rw[h4];cases c:(dO N (ev N a - 1).toNat).cons[(a - de N (ev N a - 1).toNat).toNat]? with|none=>simp[dG]|some d=>simp only[y6];exact(Cj b _).2.2 d<|s1 c
def OQ{b:ad}(a:gw L Z=H b)(e:dG N L=true):dG N b=true:=by
 rw[nZ]at a;split at a;.rename_i c;cases a;simp only[hG]at c;rw[Hq]at e⊢;intro h f;obtain⟨d,g,rfl⟩:=iV.1 f;have:=fk<|c d g;(have c:bF d<j L:=m);simp only[h4,hu c,y6];grind
 .cases a
def OS(c:e9 O=true)(d:ad)(e a:Int)(f:ad)(b:0<=eZ O d e a f):j7 O.ai (eZ O d e a f):=by
 have d:j7 O.ai 0:=by simp[j7]
 have e:¬(0:Int)<= -1:=m;revert b;unfold eZ iF kg;repeat' split
 all_goals first|(intro _;exact d)|(intro b;exact absurd b e)|(intro _;exact(Ci c _).2)|(intro _;exact(Cj (wU c) _).2.1)|(intro b;rcases OP O.ai ((dg O<|bF a).aC.getD ((dg O<|bF a).aC.length - 1) 0) (dg O<|bF a).bs with c|c<;>(simp only[j7];omega))|(intro b;rcases Ch O.ai a with c|c<;>(simp only[j7];omega))
def OT(i:e9 O=true)(r:dG O.ai L=true)(b a:Int)(am:ad)(C:eB b=false)(D:b≠7)(E:b≠8):match gw L am with|G=>eZ O L b a am<0|H f=>((a=0\/iE b=true)/\0<=eZ O L b a am↔(gl O b a f).2=true/\¬(b=10/\0<=a/\a<j O.ag/\0<(dg O<|bF a).aG.length))/\(0<=eZ O L b a am->(gl O b a f).2=true->(gl O b a f).1=eZ O L b a am):=by
 have F:¬(14<=b/\b<=17):=Hr;cases d:gw L am with|none=>((have g:∀h,eC L am h=false:=λo=>by rw[v1,d];rfl);(have p:am≠[]:=by grind[gw]);(have q:j am≠0:=a4);simp only[];(have k:j am=2->bS 0 (aU am 0 0) (j L - 1)=true->∀l,eC L am.tail l=false:=by intro qO c s;(obtain⟨t,v,rfl⟩:∃e n,am=[e,n]:=OU);rw[v1];simp only[C7];have e:=fk c;simp at e;rw[gw,ND m]at d;simp_all);unfold eZ kg;simp only[g];(repeat' split);all_goals first|omega|(rename_i c e;rw[k c.1 c.2.1]at e;cases e)|(simp_all;done))|some c=>(have e:∀k,eC L am k=(c==k):=λI=>by rw[v1,d];rfl);have s:=OQ d r;simp only[];by_cases t:b=0;(.subst t;(have h:j c=j am:=by grind[nZ]);(have g:eZ O L 0 a am=if j am=0/\bS (-999) a 999=true then 0 else -1:=z3);(have l:gl O 0 a c=(0,decide (-999<=a)&&decide (a<=999)&&j c==0):=by simp[gl]);rw[g,l];by_cases g:j am=0/\bS (-999) a 999=true;(.have l:=fk g.2;rw[dz g];grind[iE]);.rw[ND g];refine⟨⟨λg=>absurd g.2 m,λg=>?_⟩,λl=>absurd l m⟩;simp only[h,fF,ru,he]at g;grind[absurd,mD]);by_cases J:b=1\/b=2\/b=3\/b=4;(.grind[iE,eZ,gl]);by_cases K:b=5;(.grind[eZ,gl,iE]);by_cases v:b=6;(.subst v;simp only[eZ,gl,e];by_cases g:c=bg O.ai a;(.grind[bg,Ch,ev,iE]);grind);by_cases w:b=9;(.subst w;simp only[eZ,gl,kg,e];by_cases g:a<0\/(j O.ag:Int)<=a;(.grind[bS,fk]);.have g:bS 0 a (j O.ag - 1)=true:=mD m m;have g:=(Ci i<|bF a).2.1;by_cases g:c=(dg O<|bF a).aC;(.grind[dg,iE]);grind);by_cases x:b=10;(.subst x;simp only[eZ,gl,kg,e];by_cases g:a<0\/(j O.ag:Int)<=a;(.grind[bS,fk]);.grind[bS,mD,dg,iE]);by_cases y:b=11;(.subst y;(have l:eZ O L 11 a am=(if j am=2/\bS 0 (aU am 0 0) (j L - 1)=true/\e8 O.ai (aU L (aU am 0 0).toNat 0)=true then(if eC L am.tail [(dO O.ai (aU L (aU am 0 0).toNat 0 - 1).toNat).cy]then(dO O.ai (aU L (aU am 0 0).toNat 0 - 1).toNat).d1 else -1)else -1):=z3);(have n:gl O 11 a c=(if j c≠2 then(-1,false)else if e8 O.ai (c.getD 0 0)then((dO O.ai (c.getD 0 0 - 1).toNat).d1,c.getD 1 0==(dO O.ai (c.getD 0 0 - 1).toNat).cy&&a==0)else(0,false)):=by simp[gl]);rw[l,n];rw[nZ]at d;split at d;(.rename_i g;cases d;by_cases qO:j am=2;(. (obtain⟨o,h,rfl⟩:∃z A,am=[z,A]:=OU);simp only[List.all_cons,List.all_nil,Hs,fF]at g;(have B:∀p,eC L [h] [p]=(aU L (bF h) 0==p):=λM=>by rw[v1,nZ];simp[g.2]);have N:=(Cj (wU i) (aU L (bF o) 0 - 1).toNat).2.1.1;clear l n s e;simp only[gv,jO,ha,mb,Ht,List.getD_cons_succ,C7,B,g.1];generalize aU L (bF o) 0=q at*;generalize dO O.ai (q - 1).toNat=P at*;generalize aU L (bF h) 0=Q at*;by_cases g:e8 O.ai q=true;(.grind[iE]);.simp[g]);grind);.cases d);(have d:eZ O L b a am= -1:=by grind[eZ]);(have e:gl O b a c=(-1,false):=by grind[gl]);rw[d,e];simp
theorem z4(a:dG N L=true)(b:dG N Z=true):dG N (L++Z)=true:=by
 simp only[dG,Hu,fF]at*;exact⟨a,b⟩
def Cm(b:dG N L=true)(a:j7 N M):dG N (L++[M])=true:=z4 b (by simp[dG,bS,a.1,a.2])
theorem Hv(b:dG N L=true)(a:Nat):j7 N (L.getD a 0):=by
 rw[h4];cases c:L[a]? with|none=>simp[j7]|some d=>grind[Hq,List.mem_of_getElem?]
def OV{a:List ad}(c:∀b∈a,dG N b=true):dG N (a.headD [])=true:=by cases a with|nil=>simp[dG]|cons d _=>grind
theorem qP{o0 n h1:Int}(a:n<o0\/h1<n):bS o0 n h1=false:=by grind[bS,fk]
structure Cn(n:aH)(ao:ad)(s:b6):Prop where
 ok:(fH n ao s).2=true↔0<=cW n ao s
 val:0<=cW n ao s->eB s.af=false->(fH n ao s).1=cW n ao s
 jr:0<=cW n ao s->j7 n.ai (cW n ao s)
 df:0<=cW n ao s->gk s.af=!eB s.af
structure Hw(n:aH)(ao:ad)(dC:dy)(aE:List ad)(t:Option Int):Prop where
 ok:(h3 n ao dC aE t).2=true↔0<=f0 n ao dC aE t
 val:0<=f0 n ao dC aE t->(h3 n ao dC aE t).1=f0 n ao dC aE t
 jr:0<=f0 n ao dC aE t->j7 n.ai (f0 n ao dC aE t)
def OW(c:dG N L=true)(b a:Int):kI L b a=true↔¬(a≠0/\(b≠6\/a<1\/(j L:Int)<a\/aU L (a - 1).toNat 0=0)):=by
 unfold kI;by_cases b:a=0;.simp[b]
 .have:=Hv c (a - 1).toNat;rw[ND b];simp only[fF,he,s0,ru,j7]at*;constructor;(.omega);.grind
theorem iW(a:aH)(b:ad)(e c g:Int)(f:ad)(d:dy):cW a b (.mk e c g f d)=if ii b (.mk e c g f d)=false then -1 else if e=7 then(if eC b f [0]then(if j d=2 then f0 a b d [[],[]] G else -1)else -1)else if e=8 then(if eC b f [c]then(if 0<j (bt a.ai c)/\j d=j (bt a.ai c)then f0 a b d ((bt a.ai c).map<|bg a.ai) G else -1)else -1)else eZ a b e c f:=by rw[cW]
def OX(q:e9 O=true)(v:dG O.ai L=true)(b a e:Int)(c:ad)(d:dy)(w:∀x,(∀B∈x,dG O.ai B=true)->d≠[]->Hw O L d x G):Cn O L (.mk b a e c d):=by
 have C:=OW v b e;have h:(fH O L<|.mk b a e c d).2=false->cW O L (.mk b a e c d)<0->Cn O L (.mk b a e c d):=λN P=>⟨⟨λQ=>a4,λR=>m⟩,λS=>m,λT=>m,λU=>m⟩;cases s:kI L b e;. (have f:e≠0/\(b≠6\/e<1\/(j L:Int)<e\/aU L (e - 1).toNat 0=0):=OY λg=>a4);refine h ?_ ?_;(.rw[fH];cases gw L c with|none=>rfl|some i=>grind);.rw[iW,dz (by simp[ii,b6.af,b6.b1,s])];omega
 have i:¬(e≠0/\(b≠6\/e<1\/(j L:Int)<e\/aU L (e - 1).toNat 0=0)):=C.1 s;have k:ii L (.mk b a e c d)=(!(a !=0&&!iE b)&&!(decide (0<j d)&&b !=7&&b !=8)):=by simp only[ii,b6.af,b6.an,b6.b1,b6.a6,s,Hs];rfl
 by_cases f:eB b=true;.have V:=fk f;(have D:b≠7:=m);(have E:b≠8:=m);(have F:iE b=false:=by simp only[iE,Bool.or_eq_false_iff,Gj];omega);(have t:cW O L (.mk b a e c d)=if a=0/\j d=0 then iF O L b c else -1:=by rw[iW,k,ND D,ND E];(have g:eZ O L b a c=iF O L b c:=by unfold eZ;omega);rw[g];by_cases g:a=0;(.by_cases l:j d=0;(.simp[g,l]);simp_all);.simp[g,F]);(have I:fH O L (.mk b a e c d)=match gw L c with|G=>(-1,false)|H J=>(-1,pL O b a J (j d)):=by rw[fH];cases gw L c with|none=>rfl|some g=>simp only[];rw[ND i,dz f]);(have K:(fH O L<|.mk b a e c d).2=true↔0<=cW O L (.mk b a e c d):=by rw[I,t];by_cases l:a=0/\j d=0;(.rw[dz l];match c with|[]=>simp[gw,pL,iF]|[g]=>by_cases y:g<0\/(j L:Int)<=g;(.simp[gw,y,iF,qP (o0:=0) (h1:=L.length - 1) (n:=g) m]);.have p:bS 0 g (j L - 1)=true:=mD m m;simp only[gw,y,BC,Cx,pL,iF,gv,jO,Ht,p,l.1,l.2];generalize aU L (bF g) 0=o;by_cases p:o=0;(.simp[p]);.by_cases z:b=16\/b=17;(. (have A:b≠14/\b≠15:=m);cases e8 O.ai o<;>rcases z with rfl|rfl<;>simp[p]);. (have z:b=14\/b=15:=m);cases e8 O.ai o<;>rcases z with rfl|rfl<;>simp[p]|p::z::A=>(have M:iF O L b (p::z::A)= -1:=by simp[iF]);rw[M];cases o:gw L (p::z::A)with|none=>simp|some W=>rw[nZ]at o;split at o;(.cases o;simp[pL]);.cases o);.rw[ND l];cases gw L c with|none=>simp|some g=>grind[pL]);refine⟨K,λ_ g=>(by rw[show eB (b6.mk b a e c d).af=eB b from u,f]at g;cases g),λg=>?_,λg=>?_⟩;(.rw[t]at g⊢;revert g;unfold iF;(repeat' split);all_goals first|(intro _;simp[j7];done)|(intro g;exact absurd g m));.show gk b=!eB b;rw[f];exact qP<|bk m
 . (have f:eB b=false:=a4);(have M:¬(14<=b/\b<=17):=λV=>Hr);by_cases l:b=7;(.subst l;(have s3:cW O L (.mk 7 a e c d)=if a=0/\eC L c [0]=true/\j d=2 then f0 O L d [[],[]] G else -1:=by rw[iW,k];by_cases g:a=0;(.grind);.simp[g,iE]);(have z5:fH O L (.mk 7 a e c d)=if a=0/\eC L c [0]=true/\j d=2 then h3 O L d [[],[]] G else(-1,false):=by rw[fH,v1];cases g:gw L c with|none=>simp|some dv=>simp only[f,ND i,Option.elim];by_cases o:dv=[0];(.grind);. (have p:(dv==[0])=false:=a4);(have:j dv≠1\/dv.getD 0 0≠0\/a≠0\/j d≠2:=a1Q);grind);by_cases j8:a=0/\eC L c [0]=true/\j d=2;(.have cw:=w [[],[]] (by simp[dG]) a4;exact P0);grind);by_cases o:b=8;(.subst o;(have s3:cW O L (.mk 8 a e c d)=if eC L c [a]=true/\0<j (bt O.ai a)/\j d=j (bt O.ai a)then f0 O L d ((bt O.ai a).map<|bg O.ai) G else -1:=by rw[iW,k];by_cases g:eC L c [a]=true;(.by_cases p:0<j (bt O.ai a)/\j d=j (bt O.ai a)<;>simp[g,p,iE]);grind);(have z5:fH O L (.mk 8 a e c d)=if eC L c [a]=true/\0<j (bt O.ai a)/\j d=j (bt O.ai a)then h3 O L d ((bt O.ai a).map<|bg O.ai) G else(-1,false):=by rw[fH,v1];cases p:gw L c with|none=>simp|some dv=>simp only[f,ND i,Option.elim];generalize bt O.ai a=g;by_cases p:dv=[a];(.grind);. (have t:(dv==[a])=false:=a4);(have:j dv≠1\/dv.getD 0 0≠a\/j g=0\/j d≠j g:=a1Q);grind);by_cases j8:eC L c [a]=true/\0<j (bt O.ai a)/\j d=j (bt O.ai a);(.have cw:=w ((bt O.ai a).map<|bg O.ai) (λt g=>by obtain⟨p,_,rfl⟩:=iV.1 g;exact Ck (wU q) p) a4;exact P0);grind);have p:=OT q v b a c f l o;(have y:cW O L (.mk b a e c d)=if(a=0\/iE b=true)/\j d=0 then eZ O L b a c else -1:=by rw[iW,k,ND l,ND o];by_cases g:a=0\/iE b=true;(.by_cases t:j d=0;(.rcases g with g|g<;>simp[g,t]);simp_all);grind);(have g:fH O L (.mk b a e c d)=match gw L c with|G=>(-1,false)|H D=>if 0<j d\/(b=10/\0<=a/\a<j O.ag/\0<(dg O<|bF a).aG.length)then(-1,false)else gl O b a D:=by rw[fH];cases gw L c with|none=>rfl|some t=>simp only[f,ND i,ND l,ND o];rfl);(have W:0<=eZ O L b a c->gk b=true:=λX=>by refine mD ?_ ?_;all_goals refine OY λt=>?_;(have:eZ O L b a c= -1:=by unfold eZ;omega);omega);cases z:gw L c with|none=>rw[z]at p g;simp only[]at p g;refine h (by rw[g]) ?_;omega|some E=>rw[z]at p g;simp only[]at p g;by_cases F:0<j d;(.refine h a4 ?_;omega);. (have Y:j d=0:=m);by_cases I:b=10/\0<=a/\a<j O.ag/\0<(dg O<|bF a).aG.length;(.refine h a4 ?_;rw[y];split;(.grind);.omega);.rw[ND (λJ=>J.elim F I)]at g;(have Z:(gl O b a E).2=true↔0<=cW O L (.mk b a e c d):=by rw[y];constructor;(.grind);.intro t;split at t;(.grind);.omega);(have K:0<=cW O L (.mk b a e c d)->0<=eZ O L b a c/\cW O L (.mk b a e c d)=eZ O L b a c:=λa0=>m);refine⟨bq,λt _=>?_,λt=>?_,λt=>?_⟩;(.grind);(.have A:=K t;rw[A.2];exact OS q L b a c A.1);.show gk b=!eB b;grind
theorem s4(a:aH)(b:ad)(d:ch)(f:dy)(c:List ad)(e:Option Int):f0 a b (d::f) c e=if dP a (b++c.headD []) d<0\/(e≠G/\e≠H (dP a (b++c.headD []) d))then -1 else f0 a b f c.tail (H<|dP a (b++c.headD []) d):=by rw[f0]
theorem Cp(a:aH)(b:ad)(d:ch)(f:dy)(c:List ad)(e:Option Int):h3 a b (d::f) c e=if kh a (b++c.headD []) d<0\/(e≠G/\e≠H (kh a (b++c.headD []) d))then(-1,false)else h3 a b f c.tail (H<|kh a (b++c.headD []) d):=by rw[h3]
mutual theorem Hx{c:aH}(C:e9 c=true):∀(h:ch)(f:ad),dG c.ai f=true->kh c f h=dP c f h/\(0<=dP c f h->j7 c.ai (dP c f h))|.mk o W,p,I=>by have a:=z6 C o p I;rw[kh,dP,a.1];cases b:dL c p o with|none=>simp|some d=>grind[qP,mD,Hv]theorem z6{b:aH}(j:e9 b=true):∀(k:bE)(i:ad),dG b.ai i=true->mG b i k=dL b i k/\∀q,dL b i k=H q->dG b.ai q=true|[],X,Y=>by grind[mG,dL]|d::r,e,l=>by have a:=wY j d e l;rw[mG,dL];by_cases g:0<=cW b e d;(.have n:=a.ok.2 g;rw[ND a4,ND (show¬(cW b e d<0)by omega),a.df g];cases m:eB d.af;(.rw[a.val g m];exact z6 j r _<|Cm l<|a.jr g);.exact z6 j r _ l);. (have m:(fH b e d).2=false:=by cases n:(fH b e d).2;(.rfl);.exact absurd (a.ok.1 n) g);rw[dz m,dz (show cW b e d<0 by omega)];exact⟨u,a4⟩theorem wY{m:aH}(s:e9 m=true):∀(J:b6)(t:ad),dG m.ai t=true->Cn m t J|.mk K L M N v,O,w=>OX s w K L M N v λP Q R=>Hy s v P G O w Q (aN R) a4 theorem Hy{a:aH}(x:e9 a=true):∀(y:dy)(z:List ad)(n:Option Int)(A:ad),dG a.ai A=true->(∀S∈z,dG a.ai S=true)->(y≠[]\/n≠G)->(∀B,n=H B->j7 a.ai B)->Hw a A y z n|[],D,E,F,_,_,T,U=>by(obtain⟨g,rfl⟩:∃V,E=H V:=by cases E with|none=>simp at T|some Z=>grind);have d:=U g u;(have b:f0 a F [] D (H g)=g:=by rw[f0];rfl);(have c:h3 a F [] D (H g)=(g,true):=by rw[h3];rfl);exact⟨by rw[b,c];simp[d.1],λ_=>by rw[b,c],λ_=>a4⟩|d::e,b,f,c,h,g,_,i=>by have i:=Hx x d (c++b.headD [])<|z4 h<|OV g;by_cases g:dP a (c++b.headD []) d<0\/(f≠G/\f≠H (dP a (c++b.headD []) d));(. (have g:f0 a c (d::e) b f= -1:=by grind[s4]);(have g:h3 a c (d::e) b f=(-1,false):=by grind[Cp]);exact⟨a4,a4,a4⟩);. (have g:f0 a c (d::e) b f=f0 a c e b.tail (H<|dP a (c++b.headD []) d):=by grind[s4]);(have i:h3 a c (d::e) b f=h3 a c e b.tail (H<|dP a (c++b.headD []) d):=by grind[Cp]);have f:=Hy x e b.tail (H<|dP a (c++b.headD []) d) c h (by grind[List.mem_of_mem_tail]) (bk a8) a4;exact⟨by rw[g,i];exact f.ok,by rw[g,i];exact f.val,by rw[g];exact f.jr⟩end
def oI(a:b2)(b:Nat):Bool:=bS 0 (dO a b).cy (j a)&&bS 0 (dO a b).d1 (j a)&&decide ((dO a b).cons.length<=3)&&!(decide (0<(dO a b).cons.length)&&((dO a b).cy !=0||(dO a b).d1 !=0))&&((dO a b).cons.all λc=>decide (j c<=3)&&dG a c)&&!((aR b).any λc=>(dO a b).cons.length==0&&f5 a (dO a b).cy (dO a b).d1 c)
def o1(a:b2):Bool:=decide (j a<=4)&&(aR<|j a).all (oI a)
theorem P1(a:b2)(b:Nat):oI a b=ke a b:=by
 unfold oI ke;by_cases c:0<(dO a b).cons.length;.rw[dz c];(have c:((dO a b).cons.length==0)=false:=a4);by_cases c:(dO a b).cy=0;(.grind[dO,bS]);grind
 grind
def P2(a:b2):o1 a=nk a:=by grind[o1,nk,oI,ke,P1]
def s5(b:b2)(a:dB):Bool:=decide (j a.aC<=3)&&dG b a.aC&&bS 0 a.bs (j b)&&kf a.aC a.aG
def lG(a:aH):Bool:=decide (j a.ag<=4)&&(o1 a.ai&&decide (1<=j a.ag)&&(dg a 0).aC.length==0&&(dg a 0).bs==0&&a.ag.all (s5 a.ai))
theorem Hz(a:aH):lG a=e9 a:=by
 unfold lG e9 oH;rw[P2];by_cases b:j a.ag<=4;.grind[s5,ti,kf,List.all_eq_true,bS]
 .simp[b]
mutual def lc:ch->Int->Option Int|.mk a _,b=>mH a b def mH:bE->Int->Option Int|[],a=>H a|b::c,a=>if 600<a+1 then G else match wZ b (a+1)with|G=>G|H a=>mH c a def wZ:b6->Int->Option Int|.mk _ _ _ _ a,b=>nl a b def nl:dy->Int->Option Int|[],a=>H a|a::b,c=>match lc a c with|G=>G|H a=>nl b a end
mutual theorem x0:∀(c:ch)(d:Int),lc c d=(gR c<|600 - d).map (600 - ·)|.mk o v,p=>by rw[lc,gR];exact HA o p theorem HA:∀(e:bE)(f:Int),mH e f=(la e<|600 - f).map (600 - ·)|[],w=>by grind[mH,la]|g::r,a=>by rw[mH,la,P3 g (a+1)];by_cases h:600<a+1;(.grind);.rw[ND h,ND m,show 600 -(a+1)=600 - a - 1 by omega];cases rZ g (600 - a - 1)with|none=>rfl|some b=>simp only[Cx];rw[HA r (600 - b),show 600 -(600 - b)=b by omega]theorem P3:∀(h:b6)(i:Int),wZ h i=(rZ h<|600 - i).map (600 - ·)|.mk _ _ _ _ s,t=>by rw[wZ,rZ];exact HB s t theorem HB:∀(j:dy)(k:Int),nl j k=(lF j<|600 - k).map (600 - ·)|[],y=>by grind[nl,lF]|l::u,n=>by rw[nl,lF,x0 l n];cases gR l (600 - n)with|none=>rfl|some b=>simp only[Cx];rw[HB u (600 - b),show 600 -(600 - b)=b by omega]end
def pM(b:aH)(a:dB):Bool:=(lc a.aD 0).isSome&&kh b a.aC a.aD==a.bs
def v2(a:aH):Bool:=lG a&&a.ag.all (pM a)
def z7(a:aH):v2 a=gS a:=by
 unfold v2 gS;rw[Hz];cases b:e9 a;.rfl
 .simp only[Bool.true_and];rw[wT];simp only[hG];(have:∀b∈a.ag,pM a b=nY a b:=λb c=>by(have c:dG a.ai b.aC=true:=by grind[e9,oH,List.all_eq_true,ti]);grind[pM,nY,x0,Hx]);grind
structure bz where
 ao:ad
 ae:ad
 cY:ad
 cI:ad
 d9:ad
 bK:ad
def bz.grow(a:bz)(b c d:Int):bz:=⟨a.ao++[b],a.ae++[c],a.cY++[d],a.cI++[-1],a.d9++[-1],a.bK++[-1]⟩
def bz.iG(a:bz)(b:Nat):bz:=⟨a.ao.take b,a.ae.take b,a.cY.take b,a.cI.take b,a.d9.take b,a.bK.take b⟩
def gG(c d b:ad):Nat->Int->Bool|0,_=>false|e+1,a=>if aU d (bF a) 0<1/\dK c a=false then(if aU b (bF a) 0<0 then false else gG c d b e (aU b (bF a) 0))else true
def dh(a:ad)(b:Int):Option ad:=if aU a (bF b) 0<1 then G else H (a.set (bF b)<|aU a (bF b) 0 - 1)
def h5(a:ad)(b:Int):ad->ad|[]=>a|c::d=>h5 (if c≠0 then a.set (bF b) (aU a (bF b) 0+1)else a) (b+1) d
def iH(a:Int):Bool:=a==6||a==9||a==10||a==11
def fA(a:aH)(b c:Int)(d:Nat):Bool:=b==9&&dK (dg a<|bF c).aG d
def hZ(c:aH)(d:ad)(a e:Int)(f:ad)(b:Nat):Bool:=iH a&&aU d (aU f b 0).toNat 0 !=0&&!fA c a e b
def fc(c:aH)(d:ad)(e f:Int)(a:ad)(g:ad):Nat->Nat->Option ad|0,_=>H g|h+1,b=>if hZ c d e f a b then(match dh g (aU a b 0)with|G=>G|H i=>fc c d e f a i h (b+1))else fc c d e f a g h (b+1)
def nm(d:aH)(e a f:ad)(g h:Int)(b:ad):Bool:=(aR<|j b).all λc=>!(fA d g h c&&!gG e a f (j a) (aU b c 0))
def hH(e:aH)(h:ad)(a:bz)(f g c:Int)(b:ad):Option bz:=match fc e a.ao f g b a.ae (j b) 0 with|G=>G|H d=>if nm e h d a.cY f g b=false then G else if 0<c then(if aU a.bK (c - 1).toNat 0≠j b then G else H {a with ae:=d,bK:=a.bK.set (c - 1).toNat (-1)})else H {a with ae:=d}
def i0(c:aH)(a:bz)(d b:Int):Option bz:=if aU a.cI (bF b) 0<0\/(d=17/\0<=aU a.bK (bF b) 0)then G else match dh a.ae b with|G=>G|H e=>H {a with ae:=h5 e (aU a.d9 (bF b) 0) (bg c.ai<|aU a.cI (bF b) 0),bK:=if d=17 then a.bK.set (bF b) (j<|bg c.ai<|aU a.cI (bF b) 0)else a.bK}
def ga(a:bz)(b:Nat):Bool:=(aR<|j a.ao - b).all λc=>aU a.ae (b+c) 0==0&&decide (aU a.bK (b+c) 0<0)
def gT(d:aH)(a:bz)(e:Int)(b:ad)(c:Int):bz:=if e=8 then(bg d.ai c).foldl (λd e=>d.grow e 0<|aU b 0 0) {a with cI:=a.cI.set (aU b 0 0).toNat c,d9:=a.d9.set (aU b 0 0).toNat (j a.ao)}else a
mutual def hm(a:aH)(d:ad)(e:bz)(b:Nat):ch->Option bz|.mk f c=>match ij a d e f with|G=>G|H a=>if aU a.ao (bF c) 0≠0 then(match dh a.ae c with|G=>G|H c=>if ga {a with ae:=c} b then H (bz.iG {a with ae:=c} b)else G)else(if ga a b then H (a.iG b)else G)def ij(a:aH)(b:ad)(c:bz):bE->Option bz|[]=>H c|d::e=>match i1 a b c d with|G=>G|H c=>ij a b c e def i1(d:aH)(e:ad)(a:bz):b6->Option bz|.mk b f g c h=>(if b=14 then(if gG e a.ae a.cY (j a.ae) (aU c 0 0)then H {a with ae:=a.ae.set (aU c 0 0).toNat (aU a.ae (aU c 0 0).toNat 0+1)}else G)else if b=15 then(dh a.ae<|aU c 0 0).map λi=>{a with ae:=i}else if b=16\/b=17 then i0 d a b (aU c 0 0)else if b=7\/b=8 then(if b=8/\gG e a.ae a.cY (j a.ae) (aU c 0 0)=false then G else match i2 d e a b c h (if b=8 then bt d.ai f else []) G with|G=>G|H G=>G|H (H (i,k))=>H {a with ae:=i,bK:=k})else hH d e a b f g c).map λe=>if gk b then e.grow (cW d a.ao<|.mk b f g c h) (if cW d a.ao (.mk b f g c h)≠0 then 1 else 0) (-1)else e def i2(a:aH)(d:ad)(b:bz)(e:Int)(f:ad):dy->ad->Option (ad×ad)->Option (Option<|ad×ad)|[],_,c=>H c|c::i,g,h=>match hm a d (gT a b e f<|g.headD 0) (j b.ao) c with|G=>G|H c=>match h with|G=>i2 a d b e f i g.tail (H (c.ae,c.bK))|H h=>if h.1=c.ae/\h.2=c.bK then i2 a d b e f i g.tail (H h)else G end
def jP(a:dB):bz:=(aR<|j a.aC).foldl (λc b=>c.grow (aU a.aC b 0) (if aU a.aC b 0≠0/\dK a.aG b=false then 1 else 0)<|-1) ⟨[],[],[],[],[],[]⟩
def ld(b:aH)(a:dB):Bool:=match hm b a.aG (jP a) (j a.aC) a.aD with|G=>false|H a=>ga a 0
def ki(a:aH):Bool:=gS a&&a.ag.all (ld a)
structure cv where
 eD:Int
 aE:Int
 d3:ad
structure cl where
 b3:ad
 ae:ad
 bm:ad
def cl.bind(a:cl)(b c:Int):cl:=⟨a.b3++[b],a.ae++[c],a.bm++[-1]⟩
def cv.has(a:cv)(b:Int):Bool:=decide (a.aE<=b)&&decide (b<a.aE+j a.d3)
def hb(b c:ad)(d:List cv):Nat->Int->Bool|0,_=>false|e+1,a=>if 0<aU c (bF a) 0\/dK b a=true then true else match d.find? (·.has a)with|G=>false|H a=>hb b c d e a.eD
def mI(e:aH)(i:ad)(k:List cv)(a:cl)(f g d:Int)(b:ad):Option cl:=match fc e a.b3 f g b a.ae (j b) 0 with|G=>G|H c=>if(aR<|j b).all (λh=>!(fA e f g h&&!hb i c k (j c) (aU b h 0)))=false then G else if d≠0 then(if aU a.bm (d - 1).toNat 0≠j b then G else H {a with ae:=c,bm:=a.bm.set (d - 1).toNat (-1)})else H {a with ae:=c}
def tj(c:List cv)(a:cl)(d b:Int):Option cl:=match c.reverse.find? (λc=>c.eD==b)with|G=>G|H c=>match dh a.ae b with|G=>G|H e=>if d=17/\0<=aU a.bm (bF b) 0 then G else H {a with ae:=h5 e c.aE c.d3,bm:=if d=17 then a.bm.set (bF b) (j c.d3)else a.bm}
def iX(a:cl)(b:Nat):Bool:=(aR<|j a.b3 - b).all λc=>aU a.ae (b+c) 0==0&&decide (aU a.bm (b+c) 0<0)
mutual def nn(a:aH)(d:ad)(e:List cv)(f:cl)(b:Nat):ch->Option cl|.mk g c=>match i3 a d e f g with|G=>G|H a=>if a.b3.getD (bF c) 0≠0 then(match dh a.ae c with|G=>G|H c=>if iX {a with ae:=c} b then H {a with ae:=c}else G)else(if iX a b then H a else G)def i3(a:aH)(b:ad)(c:List cv)(d:cl):bE->Option cl|[]=>H d|e::f=>match js a b c d e with|G=>G|H d=>i3 a b c d f def js(d:aH)(f:ad)(e:List cv)(a:cl):b6->Option cl|.mk b g h c i=>if eB b then(if b=14 then(if hb f a.ae e (j a.ae) (aU c 0 0)then H {a with ae:=a.ae.set (aU c 0 0).toNat (aU a.ae (aU c 0 0).toNat 0+1)}else G)else if b=15 then(dh a.ae<|aU c 0 0).map λk=>{a with ae:=k}else tj e a b (aU c 0 0))else(if b=7\/b=8 then(if b=8/\hb f a.ae e (j a.ae) (aU c 0 0)=false then G else match h6 d f e a b c i (if b=8 then(bt d.ai g).map (bg d.ai)else []) G with|G=>G|H G=>G|H (H (k,l))=>H {a with ae:=k,bm:=l})else if iH b then mI d f e a b g h c else H a).map λe=>e.bind (fH d a.b3<|.mk b g h c i).1<|min (fH d a.b3<|.mk b g h c i).1 1 def h6(e:aH)(f:ad)(b:List cv)(a:cl)(g:Int)(h:ad):dy->List ad->Option (ad×ad)->Option (Option<|ad×ad)|[],_,c=>H c|d::k,c,i=>match nn e f (if g=8 then b++[⟨aU h 0 0,j a.b3,c.headD []⟩]else b) ((c.headD []).foldl (λl m=>l.bind m 0) a) (j a.b3) d with|G=>G|H d=>match i with|G=>h6 e f b a g h k c.tail (H (d.ae.take (j a.b3),d.bm.take (j a.b3)))|H i=>if i.1=d.ae.take (j a.b3)/\i.2=d.bm.take (j a.b3)then h6 e f b a g h k c.tail (H i)else G end
structure gm(n:aH)(l:bz)(b:cl)(bN:List cv):Prop where
 cD:l.ao=b.b3
 jt:l.ae=b.ae
 oJ:l.bK=b.bm
 o0:j l.ae=j l.ao
 lt:j l.bK=j l.ao
 qQ:j l.cY=j l.ao
 me:j l.cI=j l.ao
 lf:j l.d9=j l.ao
 cY:∀v:Nat,v<j l.ao->l.cY.getD v 0=match bN.find? (·.has v)with|G=> -1|H a=>a.eD
 cI:∀v:Nat,v<j l.ao->match bN.reverse.find? (λa=>a.eD==(v:Int))with|G=>aU l.cI v 0<0|H a=>0<=aU l.cI v 0/\aU l.d9 v 0=a.aE/\bg n.ai (aU l.cI v 0)=a.d3
 arm:∀a∈bN,0<=a.eD/\a.eD<a.aE/\a.aE+j a.d3<=j l.ao
def cv.v3{a:cv}{v:Int}:a.has v=true↔a.aE<=v/\v<a.aE+j a.d3:=by simp[cv.has]
variable{X:bz}
theorem gm.alive{l:cl}{f:List cv}(g:gm O X l f)(b c:ad):∀(h:Nat)(d:Int),0<=d->d<j X.ao->gG b c X.cY h d=hb b c f h d|0,_,_,_=>rfl|n+1,a,r,s=>by rw[gG,hb];by_cases o:aU c (bF a) 0<1/\dK b a=false;(.rw[dz o,ND (show¬(0<aU c (bF a) 0\/dK b a=true)by grind)];have e:=g.cY (bF a) m;rw[show((bF a:Nat):Int)=a by omega]at e;cases i:f.find? (·.has a)with|none=>grind|some k=>rw[i]at e;simp only[]at e;have p:=g.arm k<|Hd i;rw[e,ND m];exact gm.alive g b c n k.eD p.1 m);grind
def gm.set{d:cl}{e:List cv}(a:gm O X d e)(b c:ad)(f:j b=j X.ae)(g:j c=j X.bK):gm O {X with ae:=b,bK:=c} {d with ae:=b,bm:=c} e:=⟨a.cD,u,u,f.trans a.o0,g.trans a.lt,a.qQ,a.me,a.lf,a.cY,a.cI,a.arm⟩
def Cq:(L++[M]).getD e 0=if e<j L then L.getD e 0 else if e=j L then M else 0:=a4
theorem gm.grow{b:cl}{c:List cv}(a:gm O X b c)(d e:Int):gm O (X.grow d e<|-1) (b.bind d e) c:=by
 refine⟨by simp[bz.grow,cl.bind,a.cD],by simp[bz.grow,cl.bind,a.jt],by simp[bz.grow,cl.bind,a.oJ],by simp[bz.grow,a.o0],by simp[bz.grow,a.lt],by simp[bz.grow,a.qQ],by simp[bz.grow,a.me],by simp[bz.grow,a.lf],λb d=>?_,λb d=>?_,λe f=>?_⟩;. (have d:b<j X.ao+1:=by grind[bz.grow]);simp only[bz.grow];rw[Cq,a.qQ];by_cases d:b<j X.ao;(.rw[dz d];exact a.cY b d);.rw[ND d,dz m];(have:c.find? (·.has b)=G:=by rw[wN];intro d g h;have i:=a.arm d g;have d:=cv.v3.1 h;omega);rw[this]
 . (have d:b<j X.ao+1:=by grind[bz.grow]);simp only[bz.grow];rw[Cq,Cq,a.me,a.lf];by_cases d:b<j X.ao;(.rw[dz d,dz d];exact a.cI b d);.rw[ND d,dz m];(have:c.reverse.find? (λc=>c.eD==(b:Int))=G:=by rw[wN];intro b c d;have d:=a.arm b (by simpa using c);grind);rw[this];simp
 .have:=a.arm e f;simp only[bz.grow,eR,gv,jO];omega
theorem lg(a:dh L M=H Z):j Z=j L:=by grind[dh]
theorem Cr:∀(b a:ad)(c:Int),j (h5 a c b)=j a|[],a,b=>rfl|b::a,c,d=>by rw[h5,Cr a];split<;>simp
theorem z8(c:aH)(d:ad)(e f:Int)(b:ad):∀(o p:Nat)(h i:ad),fc c d e f b h o p=H i->j i=j h|0,r,s,t,u=>by grind[fc]|k+1,g,l,m,a=>by rw[fc]at a;split at a;(.cases n:dh l (aU b g 0)with|none=>grind|some q=>rw[n]at a;exact(z8 c d e f b k (g+1) q m a).trans<|lg n);.exact z8 c d e f b k (g+1) l m a
theorem s6(c:Int):∀(a:ad)(b:bz),a.foldl (λd e=>d.grow e 0 c) b=⟨b.ao++a,b.ae++a.map (λ_=>0),b.cY++a.map (λ_=>c),b.cI++a.map (λ_=> -1),b.d9++a.map (λ_=> -1),b.bK++a.map (λ_=> -1)⟩|[],a=>a8|b::a,d=>by rw[tk,s6 c a];simp[bz.grow]
theorem HC:∀(a:ad)(b:cl),a.foldl (λc d=>c.bind d 0) b=⟨b.b3++a,b.ae++a.map (λ_=>0),b.bm++a.map (λ_=> -1)⟩|[],a=>a8|b::a,c=>by rw[tk,HC a];simp[cl.bind]
def Ct(a:e<j L):(L++Z).getD e 0=L.getD e 0:=a4
def HE(a:j L<=e)(a:e<j L+j Z):(L++Z.map λ_=>M).getD e 0=M:=a4
def HF(a:e<j L):(L.set e M).getD J 0=if e=J then M else L.getD J 0:=a4
def gm.gb{n:aH}{f:cl}{e:List cv}(a:gm n X f e)(d c:Int)(t:0<=d)(u:d<j X.ao)(v:0<=c):gm n ((bg n.ai c).foldl (λk l=>k.grow l 0 d) {X with cI:=X.cI.set (bF d) c,d9:=X.d9.set (bF d) (j X.ao)}) ((bg n.ai c).foldl (λo p=>o.bind p 0) f) (e++[⟨d,j f.b3,bg n.ai c⟩]):=by
 rw[s6,HC,<-a.cD];generalize w:bg n.ai c=g;refine⟨a8,by simp[a.jt],by simp[a.oJ],by simp[a.o0],by simp[a.lt],by simp[a.qQ],by simp[a.me],by simp[a.lf],λb h=>?_,λb h=>?_,λq r=>?_⟩;.simp only[eR]at h;simp only[List.find?_append];by_cases i:b<j X.ao;(.rw[Ct (by rw[a.qQ];exact i),a.cY b i];cases x:e.find? (·.has b)with|some s=>simp|none=>(have:(⟨d,j X.ao,g⟩:cv).has b=false:=by cases s:(⟨d,j X.ao,g⟩:cv).has b;(.rfl);.have:=(cv.v3.1 s).1;grind);simp[this]);.rw[HE (by rw[a.qQ];omega) (by rw[a.qQ];omega)];(have c:e.find? (·.has b)=G:=by rw[wN];intro f i k;have l:=a.arm f i;have f:=cv.v3.1 k;omega);have:(⟨d,j X.ao,g⟩:cv).has b=true:=cv.v3.2 ⟨aB,aB⟩;simp[c,this]
 .simp only[eR]at h;simp only[List.reverse_append,List.reverse_cons,List.reverse_nil,iA,jo,List.find?_cons];by_cases c:b<j X.ao;(.rw[Ct (by simp;rw[a.me];exact c),Ct (by simp;rw[a.lf];exact c),HF (by rw[a.me];omega),HF (by rw[a.lf];omega)];by_cases f:d=(b:Int);(.grind);. (have g:¬bF d=b:=m);(have:(d==(b:Int))=false:=by simpa using f);simp only[this,ND g];exact a.cI b c);. (have c:(d==(b:Int))=false:=aB);(have d:e.reverse.find? (λe=>e.eD==(b:Int))=G:=by rw[wN];intro b e f;have f:=a.arm b (by simpa using e);grind);rw[HE (by simp;rw[a.me];omega) (by simp;rw[a.me];omega)];simp[c,d]
 .simp only[eR];rcases cK.1 r with b|b;(.have:=a.arm q b;omega);grind
def OR(a:aH)(b:List cv):Option bz->Option cl->Prop|G,G=>True|H c,H d=>gm a c d b|_,_=>False
theorem OR.map{a:List cv}{b:Option bz}{c:Option cl}(d:OR O a b c)(g:bz->bz)(h:cl->cl)(i:∀e f,b=H e->c=H f->gm O e f a->gm O (g e) (h f) a):OR O a (b.map g) (c.map h):=by
 cases b<;>cases c;.trivial
 .exact d.elim
 .exact d.elim
 .exact i _ _ u u d
def v4{a:ad}(b:eC L Z a=true)(a:Nat)(c:a<j Z):0<=aU Z a 0/\aU Z a 0<j L:=by
 simp only[eC,fF,hG,gF]at b;have:=fk (b.2 a c).1;omega
def P4(d:0<=eZ O L M W Z):∀e,e<j Z->0<=aU Z e 0/\aU Z e 0<j L:=by
 have g:¬(0:Int)<= -1:=m;intro a b;revert d;unfold eZ iF kg;repeat' split
 all_goals first|(intro d;exact absurd d g)|(rename_i c;intro _;exact absurd b a4)|(rename_i c;intro _;exact v4 c a b)|(rename_i c;intro _;exact v4 c.2 a b)|skip
 .rename_i f;intro _;(have:eC L Z ((dg O<|bF W).aC.take<|(dg O<|bF W).aC.length - 1)=true:=a4);exact v4 this a b
 .rename_i f h;intro _;(obtain⟨o,p,rfl⟩:∃i k,Z=[i,k]:=by match Z,f.1 with|[l,n],_=>exact⟨l,n,u⟩);match a with|0=>have:=fk f.2.1;omega|1=>exact v4 h 0 a8|f+2=>simp at b;omega
 all_goals rename_i f h;intro _;have i:=f.1;(obtain rfl:a=0:=m);have:=fk f.2.1;omega
def x1{af an b1:Int}{am:ad}{a6:dy}(a:0<=cW O L (.mk af an b1 am a6)):∀b,b<j am->0<=aU am b 0/\aU am b 0<j L:=by
 have b:¬(0:Int)<= -1:=m;intro b c;rw[iW]at a;split at a;.omega
 .split at a;(.split at a;(.rename_i d;exact v4 d b c);omega);.split at a;(.split at a;(.rename_i d;exact v4 d b c);omega);.exact P4 a b c
def Cu{af an b1:Int}{am:ad}{a6:dy}(a:0<=cW O L (.mk af an b1 am a6)):b1=0\/(1<=b1/\b1<=j L):=by
 rw[iW]at a;split at a;.omega
 .rename_i a;(have b:ii L (.mk af an b1 am a6)=true:=a4);simp only[ii,fF]at b;have a:kI L af b1=true:=b.1.2;unfold kI at a;by_cases b:b1=0;(.grind);.rw[ND b]at a;simp only[fF]at a;exact bk<|fk a.1.2
theorem gm.hH{l:cl}{h:List cv}(d:gm O X l h)(e:ad)(f g b:Int)(a:ad)(q:b=0\/(1<=b/\b<=j X.ao))(i:∀m,m<j a->0<=aU a m 0/\aU a m 0<j X.ao):OR O h (hH O e X f g b a) (mI O e h l f g b a):=by
 obtain⟨r,s,t⟩:=l;obtain rfl:X.ao=r:=d.cD;obtain rfl:X.ae=s:=d.jt;obtain rfl:X.bK=t:=d.oJ;unfold Go.Proofs.YtfekcilkpafpjaaGreat.hH mI;simp only[];cases v:fc O X.ao f g a X.ae (j a) 0 with|none=>trivial|some c=>have o:=z8 _ _ _ _ _ _ _ _ _ v;(have w:nm O e c X.cY f g a=(aR<|j a).all (λp=>!(fA O f g p&&!hb e c h (j c) (aU a p 0))):=by unfold nm;rw[wT];simp only[hG,gF];constructor;(.intro y k n;have:=y k n;rwa [d.alive e c _ _ (i k n).1 (i k n).2]at this);.intro y k n;have:=y k n;rwa [d.alive e c _ _ (i k n).1 (i k n).2]);simp only[];rw[w];cases(aR<|j a).all (λn=>!(fA O f g n&&!hb e c h (j c) (aU a n 0)))with|false=>trivial|true=>simp only[Bool.true_eq_false,BC];rcases q with x|x;(.rw[ND (show¬0<b by omega),ND (show¬b≠0 by omega)];exact d.set c X.bK o u);.rw[dz (show 0<b by omega),dz (show b≠0 by omega)];by_cases k:aU X.bK (b - 1).toNat 0≠j a;(.rw[dz k,dz k];trivial);.rw[ND k,ND k];exact d.set c _ o a8
theorem gm.i0{f:cl}{d:List cv}(c:gm O X f d)(e a:Int)(p:0<=a)(q:a<j X.ao):OR O d (i0 O X e a) (tj d f e a):=by
 obtain⟨i,k,l⟩:=f;obtain rfl:X.ao=i:=c.cD;obtain rfl:X.ae=k:=c.jt;obtain rfl:X.bK=l:=c.oJ;unfold Go.Proofs.YtfekcilkpafpjaaGreat.i0 tj;have b:=c.cI (bF a) m;rw[show((bF a:Nat):Int)=a by omega]at b;cases h:d.reverse.find? (λn=>n.eD==a)with|none=>rw[h]at b;simp only[]at b;rw[dz (aN b)];trivial|some r=>rw[h]at b;simp only[]at b;simp only[];cases o:dh X.ae a with|none=>split<;>trivial|some s=>simp only[];by_cases g:e=17/\0<=aU X.bK (bF a) 0;(.rw[dz (bk g),dz g];trivial);.rw[ND (show¬(aU X.cI (bF a) 0<0\/(e=17/\0<=aU X.bK (bF a) 0))by omega),ND g];rw[b.2.1,b.2.2];exact c.set _ _ (by rw[Cr,lg o]) a4
def Cv(a:Nat):Option bz->Option cl->Prop|G,G=>True|H b,H c=>b.ae=c.ae.take a/\b.bK=c.bm.take a|_,_=>False
theorem z9{b:cl}{c:List cv}(a:gm O X b c)(c:Nat):ga X c=iX b c:=by
 unfold ga iX;rw[a.cD,a.jt,a.oJ]
def gm.fin{b:cl}{i:List cv}(d:gm O X b i)(a:Nat)(c:Int):Cv a (if aU X.ao (bF c) 0≠0 then(match dh X.ae c with|G=>G|H f=>if ga {X with ae:=f} a then H (bz.iG {X with ae:=f} a)else G)else(if ga X a then H (X.iG a)else G)) (if aU b.b3 (bF c) 0≠0 then(match dh b.ae c with|G=>G|H g=>if iX {b with ae:=g} a then H {b with ae:=g}else G)else(if iX b a then H b else G)):=by
 obtain⟨j,k,l⟩:=b;obtain rfl:X.ao=j:=d.cD;obtain rfl:X.ae=k:=d.jt;obtain rfl:X.bK=l:=d.oJ;simp only[];by_cases e:aU X.ao (bF c) 0≠0;.rw[dz e,dz e];cases m:dh X.ae c with|none=>trivial|some h=>simp only[];have n:=d.set h X.bK (lg m) u;rw[z9 n a];simp only[];cases iX {b3:=X.ao,ae:=h,bm:=X.bK} a with|false=>trivial|true=>exact⟨u,u⟩
 .rw[ND e,ND e,z9 d a];cases iX {b3:=X.ao,ae:=X.ae,bm:=X.bK} a with|false=>trivial|true=>exact⟨u,u⟩
def za(a:W∈bt N M):0<=W:=by
 unfold bt at a;split at a;.obtain⟨c,_,rfl⟩:=iV.1 a;(have:0<=de N (M - 1).toNat:=by unfold de;generalize N.take (M - 1).toNat=b;induction b with|nil=>simp|cons d e f=>simp;omega);omega
 .cases a
def s7{b:ch}{c:dy}{a:List ad}{d:Option Int}(e:0<=f0 O L (b::c) a d):0<=dP O (L++a.headD []) b/\0<=f0 O L c a.tail (H<|dP O (L++a.headD []) b):=by grind[s4]
def x2{af an b1:Int}{am:ad}{a6:dy}(a:0<=cW O L (.mk af an b1 am a6))(c:eB af=true\/af=7\/af=8):j am=1:=by
 have d:¬(0:Int)<= -1:=m;have d:∀{b:ad},eC L am b=true->j am=j b:=by intro b b;simp only[eC,fF,he]at b;exact b.1
 rw[iW]at a;split at a;.omega
 .split at a;(.grind);.split at a;(.grind);.rename_i b b;(have b:eB af=true:=a4);have c:=fk b;unfold eZ at a;rw[ND m,ND m,ND m,ND m,ND m,ND m,dz m]at a;grind[iF,absurd]
def v5{b:Int}{a:dy}(c:0<=cW O L (.mk M W b Z a)):(M=7->j a=2/\0<=f0 O L a [[],[]] G)/\(M=8->0<j (bt O.ai W)/\j a=j (bt O.ai W)/\0<=f0 O L a ((bt O.ai W).map<|bg O.ai) G):=by grind[iW,absurd]
def HG{a:Int}{b:dy}(c:0<=cW O L (.mk M W a Z b))(d:M≠6):a=0:=by
 rw[iW]at c;split at c;.omega
 .rename_i c;(have c:ii L (.mk M W a Z b)=true:=a4);simp only[ii,fF]at c;have b:kI L M a=true:=c.1.2;unfold kI at b;grind
theorem x3:∀(d:bE)(b c:ad),dL O b d=H c->j b<=j c|[],g,h,i=>by grind[dL]|k::e,l,f,a=>by rw[dL]at a;split at a;(.cases a);.have:=x3 e _ f a;grind
theorem HH(b:aH)(c:ad)(a d:Int)(e:ad)(f:iH a=false):∀(h i:Nat)(g:ad),fc b c a d e g h i=H g|0,g,h=>by rw[fc]|h+1,g,i=>by rw[fc,ND (show¬hZ b c a d e g=true by simp[hZ,f])];exact HH b c a d e f h (g+1) i
theorem P5{b:bz}{c:Int}(a:hH O L X M W c Z=H b):b.ao=X.ao:=by
 unfold hH at a;repeat' split at a
 all_goals first|(cases a;done)|(cases a;rfl)
theorem P6{a:bz}(b:i0 O X M W=H a):a.ao=X.ao:=by grind[i0]
def P7{f:List cv}{c:Option bz}{g:Option cl}(d a b:Int)(m:OR O f c g)(n:∀h,c=H h->h.ao=X.ao)(i:gk d=true)(o:b=a)(s:0<=a):OR O f (c.map λj=>if gk d then j.grow a (if a≠0 then 1 else 0) (-1)else j) (g.map λp=>p.bind b<|min b 1)/\∀k,(c.map λl=>if gk d then l.grow a (if a≠0 then 1 else 0) (-1)else l)=H k->k.ao=if gk d then X.ao++[a]else X.ao:=by
 subst o;refine⟨m.map _ _ λt v _ _ q=>?_,λw e=>?_⟩;.simp only[i,s2];(have:(if b≠0 then(1:Int)else 0)=min b 1:=a4);rw[this];exact q.grow b _
 .cases c with|none=>cases e|some r=>simp only[Cx,i,s2]at e⊢;cases e;rw[<-n r u];rfl
def OR.same{d:List cv}{b:Option bz}{e:Option cl}(c a:Int)(f:OR O d b e)(f:∀f,b=H f->f.ao=X.ao)(f:gk c=false):OR O d (b.map λd=>if gk c then d.grow a (if a≠0 then 1 else 0) (-1)else d) e/\∀d,(b.map λb=>if gk c then b.grow a (if a≠0 then 1 else 0) (-1)else b)=H d->d.ao=if gk c then X.ao++[a]else X.ao:=bq
structure i4(l:bz):Prop where
 o:j l.ae=j l.ao
 t:j l.bK=j l.ao
theorem i4.grow(a:i4 X)(b c d:Int):i4 (X.grow b c d):=⟨by simp[bz.grow,a.o],by simp[bz.grow,a.t]⟩
def i4.gb{n:aH}(a:i4 X)(b:Int)(d:ad)(c:Int):i4 (gT n X b d c)/\j X.ao<=(gT n X b d c).ao.length:=by
 unfold gT;split;.rw[s6];exact⟨⟨by simp[a.o],by simp[a.t]⟩,a8⟩
 grind
theorem i4.hH{b:bz}{e:Int}(c:i4 X)(a:Go.Proofs.YtfekcilkpafpjaaGreat.hH O L X M W e Z=H b):i4 b/\j X.ao<=j b.ao:=by
 unfold Go.Proofs.YtfekcilkpafpjaaGreat.hH at a;cases d:fc O X.ao M W Z X.ae (j Z) 0 with|none=>grind|some g=>rw[d]at a;have f:=z8 _ _ _ _ _ _ _ _ _ d;simp only[]at a;(repeat' split at a);all_goals first|(cases a;done)|(cases a;exact⟨⟨by simp[f,c.o],by simp[c.t]⟩,zo _⟩)
theorem i4.i0{b:bz}(c:i4 X)(a:Go.Proofs.YtfekcilkpafpjaaGreat.i0 O X M W=H b):i4 b/\j X.ao<=j b.ao:=by
 unfold Go.Proofs.YtfekcilkpafpjaaGreat.i0 at a;split at a;.cases a
 .cases d:dh X.ae W with|none=>grind|some e=>rw[d]at a;cases a;refine⟨⟨?_,?_⟩,zo _⟩;(.show j (h5 e _ _)=_;rw[Cr,lg d,c.o]);.show j (if M=17 then X.bK.set (bF W) _ else X.bK)=_;split<;>simp[c.t]
def i4.fin{a:bz}(b:i4 X)(c:e<=j X.ao)(d:(if aU X.ao (bF M) 0≠0 then(match dh X.ae M with|G=>G|H c=>if ga {X with ae:=c} e then H (bz.iG {X with ae:=c} e)else G)else(if ga X e then H (X.iG e)else G))=H a):j a.ae=e/\j a.bK=e:=by
 have a:=b.o;have a:=b.t;split at d;.grind[dh,lg,bz.iG,List.length_take]
 .grind[bz.iG,List.length_take]
mutual theorem P8{A:aH}{B:ad}:∀(U:ch)(k:bz)(d:Nat)(l:bz),i4 k->d<=j k.ao->hm A B k d U=H l->j l.ae=d/\j l.bK=d|.mk D aa,E,ae,af,V,W,m=>by rw[hm]at m;cases a:ij A B E D with|none=>grind|some c=>rw[a]at m;have b:=Cw D E c V a;exact b.1.fin (cA W b.2) m theorem Cw{C:aH}{F:ad}:∀(X:bE)(o p:bz),i4 o->ij C F o X=H p->i4 p/\j o.ao<=j p.ao|[],ag,ah,ai,aj=>by grind[ij]|I::Y,J,Z,a0,r=>by rw[ij]at r;cases a:i1 C F J I with|none=>grind|some b=>rw[a]at r;have c:=P9 I J b a0 a;have e:=Cw Y b Z c.1 r;exact⟨e.1,cA c.2 e.2⟩theorem P9{q:aH}{K:ad}:∀(a1:b6)(s t:bz),i4 s->i1 q K s a1=H t->i4 t/\j s.ao<=j t.ao|.mk u a2 ak L M,v,al,b,w=>by rw[i1]at w;obtain⟨c,a,e⟩:=wV.1 w;(have f:i4 c/\j v.ao<=j c.ao:=by clear w e;split at a;(.split at a;(.cases a;exact⟨⟨by simp[b.o],b.t⟩,zo _⟩);.cases a);.split at a;(.obtain⟨i,g,h⟩:=wV.1 a;subst h;exact⟨⟨by simp[lg g,b.o],b.t⟩,zo _⟩);.split at a;(.exact b.i0 a);.split at a;(.split at a;(.cases a);.cases g:i2 q K v u L M (if u=8 then bt q.ai a2 else []) G with|none=>grind|some x=>cases x with|none=>grind|some h=>have i:=zb M _ G v u L h b (λz y=>by cases y) g;obtain⟨N,O⟩:=h;rw[g]at a;cases a;exact⟨⟨i.1,i.2⟩,zo _⟩);.exact b.hH a);subst e;split;(.exact⟨f.1.grow _ _ _,by grind[bz.grow,List.length_append]⟩);.exact f theorem zb{e:aH}{N:ad}:∀(a3:dy)(a5:ad)(O:Option (ad×ad))(c:bz)(a6:Int)(a7:ad)(x:ad×ad),i4 c->(∀y,O=H y->y.1.length=j c.ao/\y.2.length=j c.ao)->i2 e N c a6 a7 a3 a5 O=H (H x)->x.1.length=j c.ao/\x.2.length=j c.ao|[],am,an,ao,ap,aq,ar,_,av,aw=>by grind[i2]|P::Q,f,a8,g,h,i,R,z,a9,a=>by rw[i2]at a;cases S:hm e N (gT e g h i<|f.headD 0) (j g.ao) P with|none=>grind|some ab=>rw[S]at a;have T:=z.gb (n:=e) h i<|f.headD 0;have au:=P8 P _ _ _ T.1 T.2 S;cases a8 with|none=>exact zb Q f.tail _ g h i R z (λax ax=>a4) a|some ax=>simp only[]at a;split at a;(.exact zb Q f.tail _ g h i R z a9 a);.cases a end
structure Cy(n:aH)(ao:ad)(af:Int)(aP:Int)(dC:dy)(cs:ad):Prop where
 Pa:af=7->∃aE t,(∀f∈aE,f=[])/\0<=f0 n ao dC aE t
 Pb:af=8->j dC=j cs/\(∀c∈cs,0<=c)/\0<=aP/\aP<j ao/\∃t,0<=f0 n ao dC (cs.map<|bg n.ai) t
 Pc:af=7\/af=8
mutual theorem HI{p:aH}(av:e9 p=true)(x:ad):∀(T:ch)(M:bz)(ab:cl)(ae:List cv)(U:Nat),gm p M ab ae->dG p.ai M.ao=true->0<=dP p M.ao T->Cv U (hm p x M U T) (nn p x ae ab U T)|.mk I aw,V,W,N,ay,az,aA,aS=>by(have a:dL p V.ao I≠G:=by grind[dP]);have fX:=zc av x I V W N az aA a;rw[hm,nn];cases cS:ij p x V I with|none=>(cases qR:i3 p x N W I with|none=>trivial|some b=>exact x4)|some b=>cases qR:i3 p x N W I with|none=>exact x4|some c=>rw[cS,qR]at fX;have d:gm p b c N:=fX.1;simp only[];exact d.fin ay aw theorem zc{g:aH}(X:e9 g=true)(v:ad):∀(J:bE)(B:bz)(ag:cl)(Y:List cv),gm g B ag Y->dG g.ai B.ao=true->dL g B.ao J≠G->OR g Y (ij g v B J) (i3 g v Y ag J)/\∀ah,ij g v B J=H ah->dL g B.ao J=H ah.ao|[],aT,aV,aW,aB,_,_=>by rw[ij,i3,dL];exact⟨aB,λa a=>a4⟩|E::aC,O,Z,K,aD,P,L=>by rw[dL]at L⊢;have d:¬cW g O.ao E<0:=λe=>L<|dz e;rw[ND d]at L⊢;have fX:=Cz X v E O Z K aD P m;rw[ij,i3];cases cS:i1 g v O E with|none=>(cases qR:js g v K Z E with|none=>grind|some a=>exact x4)|some a=>cases qR:js g v K Z E with|none=>exact x4|some b=>rw[cS,qR]at fX;have f:gm g a b K:=fX.1;have c:=fX.2 a u;simp only[];rw[<-c]at L⊢;have h:=wY X E O.ao P;(have i:dG g.ai a.ao=true:=by rw[c];split;(.exact Cm P<|h.jr m);.exact P);exact zc X v aC a b K f i L theorem Cz{c:aH}(ai:e9 c=true)(r:ad):∀(C:b6)(w:bz)(aj:cl)(a0:List cv),gm c w aj a0->dG c.ai w.ao=true->0<=cW c w.ao C->OR c a0 (i1 c r w C) (js c r a0 aj C)/\∀ak,i1 c r w C=H ak->ak.ao=if gk C.af then w.ao++[cW c w.ao C]else w.ao|.mk a k F l y,d,aE,aF,h,al,z=>by have b:=wY ai (.mk a k F l y) d.ao al;have au:gk a=!eB a:=b.df z;obtain⟨R,o,S,q,s,a1⟩:=gP (b.val z) (x1 z) (Cu z) (x2 z) (v5 z) (HG z);rw[i1,js];have a2:=h.cD;rw[<-a2];rw[show(b6.mk a k F l y).af=a from u];generalize e:cW c d.ao (.mk a k F l y)=t at*;generalize f:(fH c d.ao<|.mk a k F l y).1=a3 at*;clear e f b;have f:=h;obtain⟨a5,a6,a7⟩:=aE;obtain rfl:d.ao=a5:=h.cD;obtain rfl:d.ae=a6:=h.jt;obtain rfl:d.bK=a7:=h.oJ;by_cases b:eB a=true;(. (have A:gk a=false:=a4);have a9:=fk b;have aa:=q<|aN b;have e:=o 0 m;rw[dz b];refine OR.same a t ?_ ?_ A;(.by_cases i:a=14;(.rw[dz i,dz i];simp only[];rw[h.alive r d.ae _ _ e.1 e.2];split;(.exact h.set _ d.bK a8 u);.trivial);.rw[ND i,ND i];by_cases n:a=15;(.rw[dz n,dz n];simp only[];cases D:dh d.ae (aU l 0 0)with|none=>trivial|some Q=>exact h.set Q d.bK (lg D) u);.rw[ND n,ND n,dz m];exact f.i0 a _ e.1 e.2);.grind[P6,dh]);. (have b:eB a=false:=a4);(have ax:¬(14<=a/\a<=17):=λaG=>Hr);(have a9:gk a=true:=a4);rw[ND (show¬eB a=true by simp[b])];rw[ND (show¬a=14 by omega),ND (show¬a=15 by omega),ND (show¬(a=16\/a=17)by omega)];refine P7 a t a3 ?_ ?_ a9 (R b) z;(.by_cases e:a=7\/a=8;(.rw[dz e,dz e];have aI:=q<|bk e;have i:=o 0 m;simp only[];rw[h.alive r d.ae _ _ i.1 i.2];split;(.trivial);. (have aa:Cy c d.ao a (aU l 0 0) y (if a=8 then bt c.ai k else []):=by refine⟨λn=>⟨[[],[]],G,a8,(s.1 n).2⟩,λn=>?_,e⟩;have A:=s.2 n;rw[dz n];exact⟨A.2.1,λn n=>za n,i.1,i.2,G,A.2.2⟩);have n:=CA ai r y (if a=8 then bt c.ai k else []) G d ⟨d.ao,d.ae,d.bK⟩ aF a l f al aa;(have am:(if a=8 then(if a=8 then bt c.ai k else []).map (bg c.ai)else [])=if a=8 then(bt c.ai k).map (bg c.ai)else []:=a4);rw[am]at n;rw[<-n];cases an:i2 c r d a l y (if a=8 then bt c.ai k else []) G with|none=>trivial|some ap=>cases ap with|none=>trivial|some aq=>obtain⟨A,D⟩:=aq;have Q:=zb y _ G d a l (A,D) ⟨h.o0,h.lt⟩ (λaJ ar=>by cases ar) an;exact h.set A D (by rw[h.o0];exact Q.1) (by rw[h.lt];exact Q.2));.rw[ND e,ND e];by_cases b:iH a=true;(.rw[dz b];exact f.hH r a k F l S o);.rw[ND b];(have b:iH a=false:=a4);have e:F=0:=a1 CB;(have i:(a==9)=false:=CB);unfold hH;rw[HH c d.ao a k l b];simp only[];(have:nm c r d.ae d.cY a k l=true:=by simp[nm,fA,i]);rw[this,e];simp only[Bool.true_eq_false,BC,Int.lt_irrefl];exact f);.grind[P5]theorem CA{b:aH}(Q:e9 b=true)(q:ad):∀(a1:dy)(a2:ad)(am:Option (ad×ad))(R:bz)(an:cl)(ap:List cv)(S:Int)(a3:ad),gm b R an ap->dG b.ai R.ao=true->Cy b R.ao S (aU a3 0 0) a1 a2->i2 b q R S a3 a1 a2 am=h6 b q ap an S a3 a1 (if S=8 then a2.map (bg b.ai)else []) am|[],aY,aZ,a',b0,b1,b2,b3,_,_,_=>by rw[i2,h6]|A::a5,i,aG,e,n,s,f,o,D,a6,a7=>by(have ax:Cv (j e.ao) (hm b q (gT b e f o<|i.headD 0) (j e.ao) A) (nn b q (if f=8 then s++[⟨aU o 0 0,j n.b3,(if f=8 then i.map (bg b.ai)else []).headD []⟩]else s) (((if f=8 then i.map (bg b.ai)else []).headD []).foldl (λaI aJ=>aI.bind aJ 0) n) (j n.b3) A)/\Cy b e.ao f (aU o 0 0) a5 i.tail:=by rcases a7.Pc with t|t;(.subst t;obtain⟨a9,aK,aq,ar⟩:=a7.Pa u;have aa:=s7 ar;(have au:a9.headD []=[]:=by cases a9 with|nil=>rfl|cons aL _=>simp_all);rw[au,pN]at aa;refine⟨?_,⟨λ_=>⟨a9.tail,_,λa9 ar=>aq a9<|List.mem_of_mem_tail ar,aa.2⟩,λa9=>m,aN u⟩⟩;simp only[gT,ND (show¬((7:Int)=8)by omega),List.headD_nil,List.foldl_nil];rw[<-D.cD];exact HI Q q A e n s _ D a6 aa.1);.subst t;obtain⟨t,aq,a9,aa,au,ar⟩:=a7.Pb u;match i,t,aq,ar with|[],t,_,_=>simp at t|t::aq,aM,ar,aL=>have aq:=s7 aL;simp only[ha,List.headD_cons,C7]at aq;refine⟨?_,⟨λau=>m,λ_=>⟨a4,a4,a9,aa,_,aq.2⟩,bk u⟩⟩;simp only[gT,s2,ha,List.headD_cons];have aq:=D.gb (aU o 0 0) t a9 aa<|ar t a8;(have a9:((bg b.ai t).foldl (λ(a9:bz)aa=>a9.grow aa 0<|aU o 0 0) {e with cI:=e.cI.set (aU o 0 0).toNat t,d9:=e.d9.set (aU o 0 0).toNat (j e.ao)}).ao=e.ao++bg b.ai t:=by rw[s6]);have t:=HI Q q A _ _ _ (j e.ao) aq (by grind[z4,Ck,wU]) a4;rw[<-D.cD]at t⊢;exact t);rw[i2,h6];obtain⟨t,a9⟩:=ax;cases aa:hm b q (gT b e f o<|i.headD 0) (j e.ao) A with|none=>(rw[aa]at t;cases aq:nn b q (if f=8 then s++[⟨aU o 0 0,j n.b3,(if f=8 then i.map (bg b.ai)else []).headD []⟩]else s) (((if f=8 then i.map (bg b.ai)else []).headD []).foldl (λar au=>ar.bind au 0) n) (j n.b3) A with|none=>rfl|some aK=>rw[aq]at t;exact t.elim)|some aq=>rw[aa]at t;cases ar:nn b q (if f=8 then s++[⟨aU o 0 0,j n.b3,(if f=8 then i.map (bg b.ai)else []).headD []⟩]else s) (((if f=8 then i.map (bg b.ai)else []).headD []).foldl (λaK aL=>aK.bind aL 0) n) (j n.b3) A with|none=>rw[ar]at t;exact t.elim|some au=>rw[ar]at t;have aM:aq.ae=au.ae.take (j e.ao):=t.1;have aO:aq.bK=au.bm.take (j e.ao):=t.2;(have aP:(if f=8 then i.map (bg b.ai)else []).tail=if f=8 then i.tail.map (bg b.ai)else []:=by split;(.simp);.rfl);simp only[];rw[aM,aO,aP,<-D.cD];cases aG with|none=>exact CA Q q a5 i.tail _ e n s f o D a6 a9|some aQ=>simp only[];split;(.exact CA Q q a5 i.tail _ e n s f o D a6 a9);.rfl end
def lH(a:dB):cl:=(aR<|j a.aC).foldl (λc b=>c.bind (aU a.aC b 0)<|if aU a.aC b 0≠0/\dK a.aG b=false then 1 else 0) ⟨[],[],[]⟩
def kJ(b:aH)(a:dB):Bool:=(nn b a.aG [] (lH a) 0 a.aD).isSome
def x5(a:aH):Bool:=v2 a&&a.ag.all (kJ a)
theorem HJ(e:aH)(a b:Nat->Int):∀(d:aw)(c:bz)(f:cl),gm e c f []->i4 c->gm e (d.foldl (λh g=>h.grow (a g) (b g)<|-1) c) (d.foldl (λh g=>h.bind (a g)<|b g) f) []/\i4 (d.foldl (λg f=>g.grow (a f) (b f)<|-1) c)/\(d.foldl (λg f=>g.grow (a f) (b f)<|-1) c).ao=c.ao++d.map a|[],f,g,c,d=>⟨c,d,a8⟩|c::d,f,g,h,i=>by have:=HJ e a b d (f.grow (a c) (b c)<|-1) (g.bind (a c)<|b c) (h.grow _ _)<|i.grow _ _ _;refine⟨this.1,this.2.1,?_⟩;rw[tk,this.2.2];simp[bz.grow]
def Pd(a:ad):(aR<|j a).map (λb=>a.getD b 0)=a:=by
 refine z2 a8 λa a a=>?_;grind
def x6(b:aH)(a:dB):gm b (jP a) (lH a) []/\i4 (jP a)/\(jP a).ao=a.aC:=by
 have:=HJ b (λb=>aU a.aC b 0) (λb=>if aU a.aC b 0≠0/\dK a.aG b=false then 1 else 0) (aR<|j a.aC) ⟨[],[],[],[],[],[]⟩ ⟨[],[],[]⟩ ⟨u,u,u,u,u,u,u,u,a4,a4,a4⟩ ⟨u,u⟩;refine⟨this.1,this.2.1,?_⟩;have a:=this.2.2;rw[Pd]at a;exact a.trans<|iA _
theorem HK(a:i4 X)(b:e<=j X.ao):(ga X e&&ga (X.iG e) 0)=ga X 0:=by
 have b:=a.o;have b:=a.t;rw[wT];simp only[ga,bz.iG,fF,hG,gF,yT,Nat.sub_zero,CD,he,ru];have a:∀(b:ad)(a:Nat),a<e->(b.take e).getD a 0=b.getD a 0:=a4;constructor;.rintro⟨b,c⟩a c;rcases dE a e with c|c;(.grind);.have:=b (a - e) m;grind
 .grind
theorem Pe(k:e9 O=true)(a:dB)(C:dG O.ai a.aC=true)(l:0<=dP O a.aC a.aD):kJ O a=ld O a:=by
 obtain⟨m,n,p⟩:=x6 O a;unfold kJ ld;obtain⟨c,f,q⟩:∃r s,a.aD= .mk r s:=by cases a.aD with|mk b d=>grind
 rw[q]at l⊢;have v:dL O (jP a).ao c≠G:=by grind[dP]
 have fX:=zc k a.aG c _ _ _ m a4 v;rw[hm,nn];cases cS:ij O a.aG (jP a) c with|none=>(cases qR:i3 O a.aG [] (lH a) c with|none=>rfl|some b=>exact x4)|some b=>cases qR:i3 O a.aG [] (lH a) c with|none=>exact x4|some g=>rw[cS,qR]at fX;have d:gm O b g []:=fX.1;have e:=Cw c _ _ n cS;rw[p]at e;obtain⟨w,x,y⟩:=g;obtain rfl:b.ao=w:=d.cD;obtain rfl:b.ae=x:=d.jt;obtain rfl:b.bK=y:=d.oJ;simp only[];by_cases h:aU b.ao (bF f) 0≠0;(.rw[dz h,dz h];cases i:dh b.ae f with|none=>rfl|some j=>simp only[];have z:=d.set j b.bK (lg i) u;have A:i4 {b with ae:=j}:=⟨by simp[lg i,e.1.o],e.1.t⟩;have B:=HK A e.2;rw[<-z9 z 0,<-B];grind);.grind[HK,z9]
def Pf(a:aH):x5 a=ki a:=by
 unfold x5 ki;rw[z7];cases b:gS a with|false=>rfl|true=>simp only[Bool.true_and];have g:=b;simp only[gS,fF,hG]at b;rw[wT];simp only[hG];(have h:∀c∈a.ag,kJ a c=ld a c:=by intro d e;have f:=b.2 d e;simp only[nY,fF,he]at f;have d:=b.1;simp only[e9,oH,fF,hG]at d;grind[ti,s0,Pe]);grind
structure hv(n x7:aH):Prop where
 d:n.ai=x7.ai
 fq:j n.ag=j x7.ag
 p:∀av,(dg n av).aC=(dg x7 av).aC
 l:∀av,(dg n av).aG=(dg x7 av).aG
 r:∀av,(dg n av).bs=(dg x7 av).bs
def hv.Pg{b:aH}(a:hv O b)(c:ad)(d e:Int)(f:ad):eZ O c d e f=eZ b c d e f:=by
 unfold eZ kg iF;simp only[a.d,a.fq,a.p,a.l,a.r]
mutual theorem hv.dP{a b:aH}(e:hv a b):∀(c:ch)(d:ad),Go.Proofs.YtfekcilkpafpjaaGreat.dP a d c=Go.Proofs.YtfekcilkpafpjaaGreat.dP b d c|.mk a c,b=>by rw[Go.Proofs.YtfekcilkpafpjaaGreat.dP,Go.Proofs.YtfekcilkpafpjaaGreat.dP,hv.dL e a b]theorem hv.dL{a b:aH}(c:hv a b):∀(d:bE)(e:ad),Go.Proofs.YtfekcilkpafpjaaGreat.dL a e d=Go.Proofs.YtfekcilkpafpjaaGreat.dL b e d|[],a=>by rw[Go.Proofs.YtfekcilkpafpjaaGreat.dL,Go.Proofs.YtfekcilkpafpjaaGreat.dL]|a::b,d=>by rw[Go.Proofs.YtfekcilkpafpjaaGreat.dL,Go.Proofs.YtfekcilkpafpjaaGreat.dL,hv.cW c a d];split;(.rfl);.exact hv.dL c b _ theorem hv.cW{b c:aH}(a:hv b c):∀(d:b6)(e:ad),Go.Proofs.YtfekcilkpafpjaaGreat.cW b e d=Go.Proofs.YtfekcilkpafpjaaGreat.cW c e d|.mk c d e f b,g=>by rw[iW,iW,a.Pg];rw[hv.f0 a b,hv.f0 a b,a.d]theorem hv.f0{a b:aH}(c:hv a b):∀(d:dy)(e:ad)(f:List ad)(g:Option Int),Go.Proofs.YtfekcilkpafpjaaGreat.f0 a e d f g=Go.Proofs.YtfekcilkpafpjaaGreat.f0 b e d f g|[],a,b,d=>by rw[Go.Proofs.YtfekcilkpafpjaaGreat.f0,Go.Proofs.YtfekcilkpafpjaaGreat.f0]|a::b,d,e,f=>by rw[s4,s4,hv.dP c a,hv.f0 c b]end
theorem hv.fc{f:aH}(g:hv O f)(b:ad)(c d:Int)(a:ad):∀(h i:Nat)(j:ad),Go.Proofs.YtfekcilkpafpjaaGreat.fc O b c d a j h i=Go.Proofs.YtfekcilkpafpjaaGreat.fc f b c d a j h i|0,o,p=>by rw[Go.Proofs.YtfekcilkpafpjaaGreat.fc,Go.Proofs.YtfekcilkpafpjaaGreat.fc]|k+1,e,l=>by(have m:hZ O b c d a e=hZ f b c d a e:=by simp only[hZ,fA,g.l]);rw[Go.Proofs.YtfekcilkpafpjaaGreat.fc,Go.Proofs.YtfekcilkpafpjaaGreat.fc,m,hv.fc g b c d a k (e+1) l];split;(.cases dh l (aU a e 0)with|none=>rfl|some n=>exact hv.fc g b c d a k (e+1) n);.rfl
theorem hv.hH{f:aH}(g:hv O f)(a:ad)(b:bz)(c d h:Int)(e:ad):Go.Proofs.YtfekcilkpafpjaaGreat.hH O a b c d h e=Go.Proofs.YtfekcilkpafpjaaGreat.hH f a b c d h e:=by
 have h:∀h,nm O a h b.cY c d e=nm f a h b.cY c d e:=λa=>by simp only[nm,fA,g.l]
 unfold Go.Proofs.YtfekcilkpafpjaaGreat.hH;rw[g.fc];grind
theorem hv.i0{a:aH}(e:hv O a)(b:bz)(c d:Int):Go.Proofs.YtfekcilkpafpjaaGreat.i0 O b c d=Go.Proofs.YtfekcilkpafpjaaGreat.i0 a b c d:=by
 unfold Go.Proofs.YtfekcilkpafpjaaGreat.i0;simp only[e.d]
def gH:ad->Int->ad|[],a=>[a]|a::c,b=>if b<a then b::a::c else if b=a then a::c else a::gH c b
def cp(a:b6):Int:=aU a.am 0 0
def fv(a:Int):Bool:=a==14||a==15
def cx(a b:Int):b6:= .mk a 0 0 [b] []
def dr(a:bE):ad:=a.foldl (λa b=>gH a<|cp b) []
def i5(a:b6)(b:Int):Int:=if cp a=b then(if a.af=14 then 1 else -1)else 0
def ec(a:bE)(b:Int):Int:=(a.map λa=>i5 a b).sum
def oK(a:bE):ad:=(dr a).flatMap λb=>List.replicate (ec a b).toNat b
def pO(a:bE):ad:=(dr a).flatMap λb=>List.replicate (-(ec a b)).toNat b
def fm(a:bE):bE:=(oK a).map (cx 14)++(pO a).map (cx 15)
mutual def f6:ch->ch|.mk a b=> .mk (fY a []) b def fY:bE->bE->bE|[],a=>fm a|a::b,c=>if fv a.af then fY b (c++[a])else fm c++kK a::fY b []def kK:b6->b6|.mk a b c d e=> .mk a b c d (ju e)def ju:dy->dy|[]=>[]|a::b=>f6 a::ju b end
def ns(a:dB):dB:={a with aD:=f6 a.aD}
def gn(a:aH):aH:=⟨a.ai,a.ag.map ns⟩
def Ph(a:aH)(b:dB->dB)(c:b ⟨[],[],0,.mk [] 0⟩=⟨[],[],0,.mk [] 0⟩)(c:Nat):dg ⟨a.ai,a.ag.map b⟩ c=b (dg a c):=by
 unfold dg;simp only[h4,x8];grind
def Pi:fm []=[]:=by simp[fm,oK,pO,dr]
def Pj:ns ⟨[],[],0,.mk [] 0⟩=⟨[],[],0,.mk [] 0⟩:=by simp[ns,f6,fY,Pi]
def hv.s9(n:aH):hv n (gn n):=⟨u,by simp[gn],λa=>HL,λa=>HL,λa=>HL⟩
def CE(a:Int):ec [] a=0:=rfl
def x9(b:b6)(c:bE)(a:Int):ec (b::c) a=i5 b a+ec c a:=by simp[ec]
def HM(b c:bE)(a:Int):ec (b++c) a=ec b a+ec c a:=by simp[ec]
theorem HN:W∈gH L M↔W=M\/W∈L:=by induction L with|nil=>simp[gH]|cons c d a=>rw[gH];split;(.simp);.split;(.rename_i b;subst b;simp);.simp only[eu,a];constructor;(. exact Pk);. exact Pk
def Pl(a:L.Pairwise (· < ·)):(gH L M).Pairwise (· < ·):=by induction L with|nil=>simp[gH]|cons b c d=>grind[List.pairwise_cons,gH,HN]
theorem CF:∀(b:bE)(a:ad),a.Pairwise (· < ·)->(b.foldl (λc d=>gH c<|cp d) a).Pairwise (· < ·)/\∀c,c∈b.foldl (λd e=>gH d<|cp e) a↔c∈a\/∃a∈b,cp a=c|[],b,a=>⟨a,λa=>a8⟩|a::b,c,d=>by have:=CF b (gH c<|cp a)<|Pl d;refine⟨this.1,λa=>?_⟩;rw[tk,this.2,HN];grind
def CG(a:bE):(dr a).Pairwise (· < ·):=(CF a [] .nil).1
def zd{a:bE}:M∈dr a↔∃b∈a,cp b=M:=by
 rw[dr,(CF a [] .nil).2];simp
theorem tl:fv M=true↔M=14\/M=15:=by simp[fv]
def Pm(a:bE):∀b∈fm a,fv b.af=true:=Pn
theorem HO:∀a:dy,j (ju a)=j a|[]=>by rw[ju]|b::a=>by rw[ju];simp[HO a]
def Po(a:b6):(kK a).af=a.af:=by
 cases a;rw[kK];rfl
mutual def kL(a:Int):ch->Nat|.mk b _=>fd a b def fd(a:Int):bE->Nat|[]=>0|b::c=>o2 a b+fd a c def o2(a:Int):b6->Nat|.mk b _ _ _ c=>(if b=a then 1 else 0)+iI a c def iI(a:Int):dy->Nat|[]=>0|b::c=>kL a b+iI a c end
mutual def j9:ch->Nat|.mk a _=>gx a def gx:bE->Nat|[]=>0|a::b=>lI a+gx b def lI:b6->Nat|.mk _ _ _ _ a=>1+kM a def kM:dy->Nat|[]=>0|a::b=>j9 a+kM b end
theorem ze(a:Int):∀b c:bE,fd a (b++c)=fd a b+fd a c|[],b=>by simp[fd]|d::b,c=>by rw[jo,fd,fd,ze a b c];omega
theorem CH:∀a b:bE,gx (a++b)=gx a+gx b|[],a=>by simp[gx]|c::a,b=>by rw[jo,gx,gx,CH a b];omega
def lf(a:b6):Prop:=a.a6=[]
def HP{s:b6}(b:lf s)(a:Int):o2 a s=if s.af=a then 1 else 0:=by cases s with|mk d e f g c=>obtain rfl:c=[]:=b;rw[o2,iI];rfl
def Pp{s:b6}(a:lf s):lI s=1:=by cases s with|mk c d e f b=>obtain rfl:b=[]:=a;simp[lI,kM]
theorem CI:∀{a:bE},(∀b∈a,lf b)->gx a=j a|[],_=>by rw[gx];rfl|a::c,b=>by rw[gx,Pp (b a a8),CI a4];simp;omega
def hc(a:bE)(b c:Int):Nat:=a.countP λa=>a.af==b&&cp a==c
def CJ(a:b6)(d:bE)(b c:Int):hc (a::d) b c=(if a.af=b/\cp a=c then 1 else 0)+hc d b c:=by
 rw[hc,v6,<-hc];grind
theorem HQ{a:bE}(e:∀c∈a,fv c.af=true)(b:Int):ec a b=(hc a 14 b:Int)- hc a 15 b:=by induction a with|nil=>rfl|cons f g d=>rw[x9,d a4,CJ,CJ,i5];grind[tl,cp]
def Pq(a:ad)(d:a.Pairwise (· < ·))(b:Int):(a.map λc=>if b=c then 1 else 0).sum=if b∈a then 1 else(0:Nat):=by induction a with|nil=>rfl|cons e f g=>grind[List.pairwise_cons]
theorem sum_add(a b:Int->Nat):∀c:ad,(c.map λd=>a d+b d).sum=(c.map a).sum+(c.map b).sum|[]=>rfl|d::c=>by simp only[ha,Nj,sum_add a b c];omega
theorem CK(a:Int)(c:L.Pairwise (· < ·)):∀d:bE,(∀g∈d,cp g∈L)->(L.map λh=>hc d a h).sum=d.countP λi=>i.af==a|[],_=>by(have:∀b:ad,(b.map λe=>hc [] a e).sum=0:=by intro f;induction f with|nil=>rfl|cons k l j=>rw[ha,Nj,j];rfl);rw[this];rfl|b::k,e=>by simp only[CJ];rw[sum_add,CK a c k a4,v6];(have:(L.map λj=>if b.af=a/\cp b=j then 1 else 0).sum=if b.af=a then 1 else(0:Nat):=by by_cases f:b.af=a;(.simp only[f,true_and];rw[Pq L c (cp b),dz (e b a8)];rfl);.simp only[f,false_and,BC];clear e c;induction L with|nil=>rfl|cons l m n=>grind);grind
def HR(a:Int->Nat):∀b:ad,j (b.flatMap λc=>List.replicate (a c) c)=(b.map a).sum|[]=>rfl|a::b=>bq
theorem HS(a b:Int->Nat)(c:∀d,a d<=b d):∀d:ad,(d.map a).sum<=(d.map b).sum|[]=>zo _|d::e=>by simp only[ha,Nj];have:=HS a b c e;have:=c d;omega
def HT{a:bE}(b:∀b∈a,fv b.af=true):j (oK a)+(a.countP λb=>b.af==15)=j (pO a)+(a.countP λb=>b.af==14)/\j (oK a)<=a.countP λb=>b.af==14:=by
 have b:=CG a;have c:∀d∈a,cp d∈dr a:=λd e=>zd.2 ⟨d,e,u⟩;have d:=CK 14 b a c;have e:=CK 15 b a c;rw[oK,pO,HR,HR,<-d,<-e];have c:∀b,(ec a b).toNat=hc a 14 b - hc a 15 b:=λb=>by grind[HQ]
 have d:∀b,(-(ec a b)).toNat=hc a 15 b - hc a 14 b:=λa=>by grind[HQ]
 simp only[c,d];constructor;.rw[<-sum_add,<-sum_add];congr 1;refine List.map_congr_left λa _=>?_;omega
 .exact HS _ _ (λa=>m) _
def Ps(a b:Int):lf (cx a b):=rfl
theorem Pt(a:bE):∀b∈fm a,lf b:=Pn
theorem CL(b a:Int):∀c:ad,fd b (c.map<|cx a)=if a=b then(j c)else 0|[]=>by simp[fd]|c::d=>by rw[ha,fd,CL b a d,HP (Ps a c)];show(if a=b then 1 else 0)+_=_;grind
theorem HU(a:Int):∀{b:bE},(∀c∈b,lf c)->fd a b=b.countP λb=>b.af==a|[],_=>by rw[fd];rfl|b::d,c=>by rw[fd,HP (c b a8),HU a a4,v6];grind
structure CC(a b:Int->Nat)(e4 Pu:Nat):Prop where
 Pv:b 14+a 15=b 15+a 14
 le:b 14<=a 14
 o16:b 16=a 16
 a0V:b 17=a 17
 cg:Pu+a 14+a 15=e4+b 14+b 15
def CC.add{a b c d:Int->Nat}(g:CC a b e J)(h:CC c d Q V):CC (λf=>a f+c f) (λa=>b a+d a) (e+Q) (J+V):=by
 obtain⟨a,a,a,a,a⟩:=g;obtain⟨a,a,a,a,a⟩:=h;exact⟨m,m,m,m,m⟩
def HV{a:bE}(b:∀g∈a,fv g.af=true/\lf g):CC (λn=>fd n a) (λo=>fd o<|fm a) (gx a) (gx<|fm a):=by
 have h:∀p∈a,fv p.af=true:=λq r=>(b q r).1;have c:∀s∈a,lf s:=λt u=>(b t u).2;obtain⟨v,w⟩:=HT h;have i:∀d,fd d (fm a)=(if(14:Int)=d then(j<|oK a)else 0)+if(15:Int)=d then(j<|pO a)else 0:=λE=>by rw[fm,ze,CL,CL]
 have k:∀l,fd l a=a.countP λx=>x.af==l:=λy=>HU y c;have e:∀f:Int,f≠14->f≠15->(a.countP λz=>z.af==f)=0:=λF G H=>by grind[List.countP_eq_zero,tl]
 have I:j a=(a.countP λA=>A.af==14)+a.countP λB=>B.af==15:=by clear v w i k e c b;induction a with|nil=>rfl|cons C J D=>have:=D a4;rw[v6,v6,gv,this];rcases tl.1 (h C a8)with m|m<;>simp[m]<;>omega
 have b:=CI c;have b:gx (fm a)=j (oK a)+j (pO a):=by grind[CI,Pt,fm]
 refine⟨?_,?_,?_,?_,?_⟩;all_goals simp only[i,k]
 .simp;omega
 .simp;omega
 .rw[e 16 bf bf];simp
 .rw[e 17 bf bf];simp
 grind
mutual def xa:ch->Prop|.mk a _=>tm a def tm:bE->Prop|[]=>True|a::b=>tn a/\tm b def tn:b6->Prop|.mk b _ _ _ a=>(fv b=true->a=[])/\sa a def sa:dy->Prop|[]=>True|a::b=>xa a/\sa b end
theorem Pw{s:b6}(a:tn s)(b:fv s.af=true):lf s:=by cases s with|mk c d e f g=>rw[tn]at a;exact a.1 b
mutual theorem CM:∀a:ch,xa a->CC (λk=>kL k a) (λl=>kL l<|f6 a) (j9 a) (j9<|f6 a)|.mk n v,f=>by rw[xa]at f;simp only[f6,kL,j9];have:=CN n [] f a8;simp only[fd,gx,yT]at this;exact this theorem CN:∀(b c:bE),tm b->(∀g∈c,fv g.af=true/\lf g)->CC (λh=>fd h c+fd h b) (λo=>fd o<|fY b c) (gx c+gx b) (gx<|fY b c)|[],w,_,p=>by simp only[fY,fd,gx,EA];exact HV p|e::i,r,d,s=>by rw[tm]at d;rw[fY];cases x:fv e.af with|true=>simp only[s2];have:=CN i (r++[e]) d.2 (λj j=>by rcases cK.1 j with q|q;(.grind);.grind[Pw]);simp only[ze,CH,fd,gx,EA]at this⊢;simp only[Dz]at this;exact this|false=>simp only[HW,BC];have q:=HV s;have t:=Px e d.1;have j:=CN i [] d.2 a8;simp only[fd,gx,yT]at j;have:=q.add<|t.add j;simp only[ze,CH,fd,gx];exact this theorem Px:∀a:b6,tn a->CC (λb=>o2 b a) (λb=>o2 b<|kK a) (lI a) (lI<|kK a)|.mk a d e f c,b=>by rw[tn]at b;simp only[kK,o2,lI];have d:=HX c b.2;have b:CC (λc=>if a=c then 1 else 0) (λc=>if a=c then 1 else 0) 1 1:=⟨m,m,u,u,m⟩;exact b.add d theorem HX:∀a:dy,sa a->CC (λb=>iI b a) (λb=>iI b<|ju a) (kM a) (kM<|ju a)|[],_=>by simp only[ju,iI,kM];exact⟨u,zo _,u,u,u⟩|b::c,a=>by rw[sa]at a;simp only[ju,iI,kM];exact(CM b a.1).add<|HX c a.2 end
def zf{s:b6}(i:fv s.af=true)(a:0<=cW O L s):s=cx s.af (cp s)/\bS 0 (cp s) (j L - 1)=true/\aU L (cp s).toNat 0≠0:=by
 obtain⟨f,g,q,b,c⟩:=s;have d:=tl.1 i;simp only[b6.af]at d;have t:¬(0:Int)<= -1:=m;have k:=x2 a<|aN (by rcases d with rfl|rfl<;>rfl);have l:=HG a m;subst l;rw[iW]at a;split at a;.omega
 .rename_i v;(have h:ii L (.mk f g 0 b c)=true:=a4);simp only[ii,b6.an,b6.af,b6.a6,b6.b1,fF,CO,CP]at h;(have w:iE f=false:=by rcases d with rfl|rfl<;>rfl);(have n:g=0:=a4);(have o:c=[]:=by rcases h.2 with(e|e)|e;(.cases c with|nil=>rfl|cons p r=>simp at e);(.grind);grind);rw[ND m,ND m]at a;unfold eZ at a;rw[ND m,ND m,ND m,ND m,ND m,ND m,dz m]at a;unfold iF at a;split at a;(.rename_i e;(obtain⟨x,rfl⟩:∃p,b=[p]:=by match b,k with|[r],_=>exact⟨r,u⟩);subst n o;exact⟨u,e.2.1,e.2.2⟩);omega
def HY(a:M=14\/M=15)(a:bS 0 W (j L - 1)=true)(a:aU L (bF W) 0≠0):cW O L (cx M W)=0:=by
 have a:cW O L (cx M W)=eZ O L M 0 [W]:=by rw[cx,iW];rw[ND (show¬ii L (.mk M 0 0 [W] [])=false by simp[ii,b6.an,b6.a6,b6.b1,kI]),ND m,ND m]
 rw[a];unfold eZ;rw[ND m,ND m,ND m,ND m,ND m,ND m,dz m];unfold iF;grind
def tq(b:aH)(c:ad)(d:bE):Prop:=∀a∈d,fv a.af=true/\0<=cW b c a
def tq.arg{a:bE}(b:tq O L a):∀c∈dr a,bS 0 c (j L - 1)=true/\aU L (bF c) 0≠0:=by
 intro g f;obtain⟨d,e,rfl⟩:=zd.1 f;exact(zf (b d e).1 (b d e).2).2
theorem tq.fm{a:bE}(d:tq O L a):tq O L (fm a):=by
 intro g e;refine⟨Pm a g e,?_⟩;have:∀b,b∈oK a\/b∈pO a->b∈dr a:=by intro c f;rcases f with c|c;(.obtain⟨f,f,f⟩:=List.mem_flatMap.1 c;grind);.obtain⟨f,f,f⟩:=List.mem_flatMap.1 c;grind
 rcases cK.1 e with c|c;.obtain⟨f,h,rfl⟩:=iV.1 c;have:=d.arg f<|this f<|aN h;rw[HY (aN u) this.1 this.2];omega
 .obtain⟨f,h,rfl⟩:=iV.1 c;have:=d.arg f<|this f<|bk h;rw[HY (bk u) this.1 this.2];omega
def CQ(a:fv M=true):gk M=false:=by rcases tl.1 a with rfl|rfl<;>rfl
theorem CR:∀{a:bE}(b:bE),tq O L a->dL O L (a++b)=dL O L b|[],a,_=>rfl|b::d,c,a=>by have d:=a b a8;rw[jo,dL,ND m,CQ d.1];exact CR c λb c=>a b<|hF _ c
mutual theorem HZ{c:aH}:∀(g:ch)(h:ad),0<=dP c h g->dP c h (f6 g)=dP c h g|.mk l y,n,z=>by rw[f6,dP,dP];(have a:dL c n l≠G:=by grind[dP]);rw[CS l [] n (by intro d b;cases b) a]theorem CS{b:aH}:∀(i j:bE)(d:ad),tq b d j->dL b d i≠G->dL b d (fY i j)=dL b d i|[],A,D,s,_=>by rw[fY];have:=CR [] s.fm;grind|e::o,t,k,p,a=>by rw[dL]at a;have f:¬cW b k e<0:=λu=>a<|dz u;rw[ND f]at a;rw[fY];cases q:fv e.af with|true=>simp only[s2];rw[CQ q]at a;rw[CS o (t++[e]) k (λv w=>by rcases cK.1 w with r|r;(.exact p v r);.grind) a,dL,ND f,CQ q];rfl|false=>simp only[HW,BC];rw[CR _ p.fm,dL,Py e k m,ND f,Po,dL,ND f];exact CS o [] _ (by intro v r;cases r) a theorem Py{a:aH}:∀(b:b6)(c:ad),0<=cW a c b->cW a c (kK b)=cW a c b|.mk c b e f a,d,h=>by have g:=v5 h;have h:=HO a;rw[kK,iW,iW,h];(have i:ii d (.mk c b e f<|ju a)=ii d (.mk c b e f a):=by simp only[ii,b6.a6,b6.an,b6.af,b6.b1,h];try rfl);rw[i];by_cases b:c=7;(.rw[dz b,CT a [[],[]] G d (g.1 b).2,dz b]);.rw[ND b,ND b];by_cases b:c=8;(.rw[dz b,CT a _ G d (g.2 b).2.2,dz b]);.rw[ND b,ND b]theorem CT{a:aH}:∀(b:dy)(c:List ad)(d:Option Int)(e:ad),0<=f0 a e b c d->f0 a e (ju b) c d=f0 a e b c d|[],a,b,c,_=>by rw[ju]|b::c,d,a,e,f=>by have a:=s7 f;rw[ju,s4,s4,HZ b _ a.1,CT c d.tail _ e a.2]end
mutual theorem CU{n:aH}:∀(g:ch)(v:ad),0<=dP n v g->xa g|.mk D I,E,k=>by rw[xa];refine I0 (n:=n) D E λa=>?_;rw[dP,a]at k;simp at k theorem I0{n:aH}:∀(h:bE)(w:ad),dL n w h≠G->tm h|[],J,_=>by grind[tm]|l::F,o,b=>by rw[dL]at b;have a:¬cW n o l<0:=λc=>b<|dz c;rw[ND a]at b;rw[tm];exact⟨Pz (n:=n) l o m,I0 F _ b⟩theorem Pz{n:aH}:∀(i:b6)(x:ad),0<=cW n x i->tn i|.mk c p r t a,e,d=>by rw[tn];refine⟨λB=>?_,?_⟩;(.have:=(zf (s:= .mk c p r t a) B d).1;simp only[cx,b6.mk.injEq]at this;grind);.by_cases K:a=[];(.grind[sa]);.have q:=v5 d;by_cases C:c=7;(.exact CV a _ _ e (q.1 C).2);.by_cases H:c=8;(.exact CV a _ _ e (q.2 H).2.2);.exfalso;rw[iW]at d;split at d;(.omega);.rename_i L;(have u:ii e (.mk c p r t a)=true:=a4);simp only[ii,b6.a6,b6.af,fF,CO,CP]at u;rcases u.2 with(f|f)|f;(.cases a with|nil=>grind|cons M N=>simp at f);(.grind);grind theorem CV{n:aH}:∀(j:dy)(y:List ad)(z:Option Int)(A:ad),0<=f0 n A j y z->sa j|[],a,b,c,_=>by grind[sa]|b::c,a,f,d,e=>by have a:=s7 e;rw[sa];exact⟨CU b _ a.1,CV c _ _ d a.2⟩end
mutual theorem CW:∀(e:ch)(b:Int),0<=b->gR e b=if(j9 e:Int)<=b then H (b - j9 e)else G|.mk h l,i,k=>by rw[gR,I1 h i k,j9]theorem I1:∀(f:bE)(c:Int),0<=c->la f c=if(gx f:Int)<=c then H (c - gx f)else G|[],n,o=>by rw[la,gx,dz m];simp|a::g,d,p=>by(have j:1<=lI a:=by cases a;rw[lI];omega);rw[la,gx];by_cases b:d<1;(.rw[dz b,ND m]);.rw[ND b,PA a (d - 1) m];by_cases b:(lI a:Int)<=d;(.rw[dz m];simp only[];rw[I1 g _ m];by_cases b:(lI a:Int)+gx g<=d;(.rw[dz m,dz m];congr 1;omega);. exact RA);. exact RA theorem PA:∀(b:b6)(a:Int),0<=a->rZ b a=if(lI b:Int)- 1<=a then H (a -(lI b - 1))else G|.mk d e f g a,b,c=>by rw[rZ,I2 a b c,lI];by_cases c:(kM a:Int)<=b;(.rw[dz c,dz m];congr 1;omega);.rw[ND c,ND m]theorem I2:∀(b:dy)(a:Int),0<=a->lF b a=if(kM b:Int)<=a then H (a - kM b)else G|[],a,b=>by rw[lF,kM,dz m];simp|a::c,b,d=>by rw[lF,kM,CW a b d];by_cases d:(j9 a:Int)<=b;(.rw[dz d];simp only[];rw[I2 c _ m];by_cases e:(j9 a:Int)+kM c<=b;(.rw[dz m,dz m];congr 1;omega);. exact RA);.rw[ND d,ND m]end
def I3{a:ch}:(gR a 600).isSome=decide (j9 a<=600):=by grind[CW]
def PB(c:gS O=true):gS (gn O)=true:=by
 have b:=hv.s9 O;simp only[gS,fF,hG]at c⊢;have d:e9 (gn O)=true:=by(have a:e9 (gn O)=e9 O:=by unfold e9 oH;rw[<-b.d,<-b.fq,<-b.p,<-b.r];simp only[gn,List.all_map];rfl);grind
 refine⟨d,λg e=>?_⟩;obtain⟨a,f,rfl⟩:=iV.1 e;have d:=c.2 a f;simp only[nY,fF,he,I3,ru]at d⊢;have d:0<=dP O a.aC a.aD:=by have qO:=c.1;exact a1R
 have c:=CM a.aD<|CU a.aD _ d;refine⟨?_,?_⟩;. obtain⟨d,d,d⟩:=oD c.cg c.Pv c.le;show j9 (f6 a.aD)<=600;omega
 .rw[<-b.dP];show dP O a.aC (f6 a.aD)=a.bs;grind[HZ]
inductive qS(aG ae cY:ad):Int->Prop|ae{v:Int}(I4:0<=v)(b7:1<=aU ae (bF v) 0):qS aG ae cY v|aG{v:Int}(b7:dK aG v=true):qS aG ae cY v|cY{v:Int}(b7:0<=aU cY (bF v) 0)(qK:qS aG ae cY (aU cY (bF v) 0)):qS aG ae cY v
def qS.mono{c a:ad}(g:∀b:Int,0<=b->1<=aU Z (bF b) 0->qS L c a b)(d:qS L Z a M):qS L c a M:=by induction d with|ae e e=>grind|aG e=>exact .aG e|cY e _ f=>exact .cY e f
def a0W(c d a:ad)(b:b6):Option ad:=if b.af=14 then(if gG c a d (j a) (cp b)then H (a.set (cp b).toNat<|aU a (cp b).toNat 0+1)else G)else dh a (cp b)
structure a0X(aG cY:ad)(g0:bE)(ae o:ad):Prop where
 fq:j o=j ae
 dJ:∀av:Nat,av<j ae->o.getD av 0=aU ae av 0+ec g0 av
 dup:∀s∈g0,s.af=14->qS aG ae cY (cp s)
 drop:∀s∈g0,s.af=15->0<=o.getD (cp s).toNat 0
def xb(b:gS O=true){a:dB}(c:a∈O.ag):e9 O=true/\dG O.ai a.aC=true/\0<=dP O a.aC a.aD/\j9 a.aD<=600/\dP O a.aC a.aD=a.bs:=by
 simp only[gS,fF,hG]at b;have d:=b.2 a c;simp only[nY,fF,he,I3,ru]at d;have qO:=b.1;exact a1R
def gU(a:aH)(b:Int):Nat:=(a.ag.map λa=>kL b a.aD).sum
def v7(a:aH):Nat:=(a.ag.map λa=>j9 a.aD).sum
theorem I5(c d:dB->Int->Nat)(e f:dB->Nat):∀a:List dB,(∀b∈a,CC (c b) (d b) (e b) (f b))->CC (λb=>(a.map λg=>c g b).sum) (λb=>(a.map λg=>d g b).sum) (a.map e).sum (a.map f).sum|[],_=>⟨u,zo _,u,u,u⟩|a::b,g=>(g a a8).add (I5 c d e f b a4)
def PC(b:gS O=true):CC (gU O) (gU<|gn O) (v7 O) (v7<|gn O):=by
 have:=I5 (λa c=>kL c a.aD) (λa c=>kL c<|f6 a.aD) (λa=>j9 a.aD) (λa=>j9<|f6 a.aD) O.ag λa c=>CM a.aD<|CU (n:=O) a.aD a.aC (xb b c).2.2.1;have a:(λb=>gU (gn O) b)=λb=>(O.ag.map λc=>kL b<|f6 c.aD).sum:=by funext b;unfold gU gn;simp only[List.map_map];rfl
 have b:v7 (gn O)=(O.ag.map λc=>j9<|f6 c.aD).sum:=by unfold v7 gn;simp only[List.map_map];rfl
 show CC (gU O) (λc=>gU (gn O) c) (v7 O) (v7<|gn O);rw[a,b];exact this
def iJ(a:ad):Prop:=∀b:Nat,0<=aU a b 0
theorem iJ.set(a:iJ L)(av:Nat){aP:Int}(b:0<=aP):iJ (L.set av aP):=by
 intro b;rw[h4,List.getElem?_set];split;.grind
 .have:=a b;exact RR
theorem iJ.dh(b:iJ L)(a:dh L M=H Z):iJ Z:=by
 unfold Go.Proofs.YtfekcilkpafpjaaGreat.dh at a;split at a;.cases a
 .cases a;exact b.set _ m
theorem iJ.h5:∀(b a:ad)(c:Int),iJ a->iJ (h5 a c b)|[],b,c,a=>a|d::b,e,c,a=>by rw[Go.Proofs.YtfekcilkpafpjaaGreat.h5];refine iJ.h5 b _ _ ?_;split;(.exact a.set _ (by have:=a<|bF c;omega));.exact a
theorem iJ.fc:∀(l m:Nat)(c d:ad),iJ c->fc O L M W Z c l m=H d->iJ d|0,o,p,r,b7,db=>a1S|f+1,b,g,i,k,a=>by rw[Go.Proofs.YtfekcilkpafpjaaGreat.fc]at a;split at a;(.cases j:Go.Proofs.YtfekcilkpafpjaaGreat.dh g (aU Z b 0)with|none=>grind|some n=>rw[j]at a;exact iJ.fc f (b+1) n i (k.dh j) a);.exact iJ.fc f (b+1) g i k a
def iJ.app(c:iJ L)(d:∀e∈Z,0<=e):iJ (L++Z):=by
 intro a;rw[h4];rcases dE a (j L)with b|b;.rw[td b];have:=c a;exact RR
 .rw[uS b];cases f:Z[a - j L]? with|none=>simp|some g=>exact d g<|s1 f
theorem iJ.take(a:iJ L)(b:Nat):iJ (L.take b):=by
 intro b;rw[h4,List.getElem?_take];split;.have:=a b;exact RR
 .simp
def iJ.gb{n:aH}(a:iJ X.ae)(b:Int)(d:ad)(c:Int):iJ (gT n X b d c).ae:=by
 unfold gT;split;.rw[s6];exact a.app a4
 .exact a
mutual def oL:ch->Prop|.mk a _=>oM a def oM:bE->Prop|[]=>True|a::b=>sb a/\oM b def sb:b6->Prop|.mk a _ _ b c=>(fv a=true->b≠[])/\nt c def nt:dy->Prop|[]=>True|a::b=>oL a/\nt b end
theorem PE(a:ch):oL a=oM a.ap:=by
 cases a;rw[oL];rfl
theorem I6(a:b6):sb a=((fv a.af=true->a.am≠[])/\nt a.a6):=by
 cases a;rw[sb];rfl
theorem I7:∀{a:bE},oM a->∀{b:Nat}(c:b<j a),sb a[b]|a::b,c,0,_=>by grind[oM]|b::c,a,d+1,e=>by rw[oM]at a;exact I7 a.2 a4
theorem I8:∀{a:dy},nt a->∀{b:Nat}(c:b<j a),oL a[b]|a::b,c,0,_=>by grind[nt]|b::c,a,d+1,e=>by rw[nt]at a;exact I8 a.2 a4
mutual theorem CX{n:aH}:∀(d:ch)(j:ad),0<=dP n j d->oL d|.mk i t,k,c=>by rw[oL];refine I9 (n:=n) i k λi=>?_;rw[dP,i]at c;simp at c theorem I9{n:aH}:∀(e:bE)(l:ad),dL n l e≠G->oM e|[],c,_=>by grind[oM]|i::t,k,c=>by rw[dL]at c;have u:¬cW n k i<0:=λv=>c<|dz v;rw[ND u]at c;rw[oM];exact⟨PF (n:=n) i k m,I9 t _ c⟩theorem PF{n:aH}:∀(f:b6)(o:ad),0<=cW n o f->sb f|.mk af an b1 am a6,ao,b7=>by rw[sb];refine⟨λc=>?_,?_⟩;(.have:=(zf (s:= .mk af an b1 am a6) c b7).1;simp only[cx,b6.mk.injEq]at this;rw[this.2.2.2.1];simp);.by_cases c:a6=[];(.grind[nt]);.have c:=v5 b7;by_cases i:af=7;(.exact CY a6 _ _ ao (c.1 i).2);.by_cases i:af=8;(.exact CY a6 _ _ ao (c.2 i).2.2);. exact PG theorem CY{n:aH}:∀(g:dy)(p:List ad)(q:Option Int)(r:ad),0<=f0 n r g p q->nt g|[],c,d,e,_=>by grind[nt]|d::e,c,i,f,g=>by have c:=s7 g;rw[nt];exact⟨CX d _ c.1,CY e _ _ f c.2⟩end
theorem Ia(a:ch):j9 a=gx a.ap:=by
 cases a;rw[j9];rfl
def Ib(a:b6):lI a=1+kM a.a6:=by
 cases a;rw[lI];rfl
theorem Ic:∀{eG:bE}{av:Nat}(a:av<j eG),lI eG[av]<=gx eG|a::b,0,_=>by rw[gx];simp|c::a,b+1,d=>by rw[gx];have:=Ic (eG:=a) (av:=b) a4;exact yO
theorem Id:∀{dC:dy}{av:Nat}(a:av<j dC),j9 dC[av]<=kM dC|a::b,0,_=>by rw[kM];simp|c::a,b+1,d=>by rw[kM];have:=Id (dC:=a) (av:=b) a4;exact yO
theorem Ie:∀a:bE,j a<=gx a|[]=>by simp[gx]|a::b=>by rw[gx];have:=Ie b;have b:=Ib a;exact G1
def zh{a:bE}(c:∀d∈a,fv d.af=true):j (fm a)<=j a:=by
 have i:=HT c;have k:=((by intro e;induction e with|nil=>grind|cons f l g=>intro h;have m:=g a4;rw[v6,v6,gv];rcases tl.1 (h f a8)with b|b<;>simp[b]<;>omega:∀b:bE,(∀d∈b,fv d.af=true)->(b.countP λd=>d.af==14)+(b.countP λd=>d.af==15)=j b)) a c;rw[fm,eR,fy,fy];omega
def If(a:ch):f6 a= .mk (fY a.ap []) a.aY:=by
 cases a;rw[f6];rfl
def Ig(a:b6):kK a= .mk a.af a.an a.b1 a.am (ju a.a6):=by
 cases a;rw[kK];rfl
theorem CZ:∀a:dy,ju a=a.map f6|[]=>by rw[ju];rfl|b::a=>by rw[ju,CZ a];rfl
def PH(a:bE):fY [] a=fm a:=by rw[fY]
def Ih{a:b6}(b:fv a.af=true)(b c:bE):fY (a::b) c=fY b (c++[a]):=by grind[fY]
def Ii{a:b6}(b:fv a.af=false)(b c:bE):fY (a::b) c=fm c++kK a::fY b []:=by grind[fY]
def fe(a:a5)(b:ay)(c:Ending)(d:a5):Prop:=c=bd b/\F [] a d
def o3(a:a5)(b:ay)(c:Ending)(d:a5):Prop:=c=bd b/\∃b,d=g4 a b
def o3.a9{y:a5}{a:Ending}(b:o3 y K a i):fe y K a i:=by
 obtain⟨c,d,rfl⟩:=b;exact⟨c,aj.drewN d⟩
def drawn{wr:a5}(b:∃c,wr=g4 i c)(a:Nat):∃d,g4 wr a=g4 i d:=by
 obtain⟨e,rfl⟩:=b;exact⟨e+a,a8⟩
def o3.dJ{a:Ending}(b:o3 (g4 i e) K a P):o3 i K a P:=by
 obtain⟨c,d,rfl⟩:=b;exact⟨c,e+d,a8⟩
def PJ(a:Int)(b:a5):aQ aK 87 #[ah a] b λc d=>c=bd (.bool<|eB a)/\b=d:=by
 go_enter func87,ntmps87;go_wp2_with(go_at_call 107;apply(gt _ _ _ _).mono;rintro a a⟨rfl,rfl⟩);go_ret;exact⟨u,u⟩
def D3(a:Int)(b:a5):aQ aK 121 #[ah a] b λc d=>c=bd (.bool<|gk a)/\b=d:=by
 go_enter func121,ntmps121;go_wp2_with(go_at_call 107;apply(gt _ _ _ _).mono;rintro a a⟨rfl,rfl⟩);go_ret;exact⟨u,u⟩
def qT(a:Int)(b:a5):aQ aK 158 #[ah a] b λc d=>c=bd (.bool<|iE a)/\b=d:=by
 rcases(m:a=0\/a=6\/a=8\/a=9\/a=10\/(¬a=0/\¬a=6/\¬a=8/\¬a=9/\¬a=10))with rfl|rfl|rfl|rfl|rfl|⟨e,f,g,h,i⟩;. exact zk
 . exact zk
 . exact zk
 . exact zk
 . exact zk
 . (have b:(a==0)=false:=a4);(have b:(a==6)=false:=a4);(have b:(a==8)=false:=a4);(have b:(a==9)=false:=a4);(have b:(a==10)=false:=a4);(have b:iE a=false:=by grind[iE]);rw[b];clear b;go_enter func158,ntmps158;go_wp2;go_ret;exact⟨u,u⟩
def PK(a:b2)(b:ad)(c:Int):dG a (b++[c])=(dG a b&&bS 0 c (j a)):=by simp[dG]
def In(a:e<j L)(a:bS 0 L[e] (j N)=false):dG N L=false:=by grind[dG,List.getElem_mem,mD]
def Io(f g:ay)(b:b2)(a:ad)(c:a5)(h:a7 w c (dc b) f)(d:a7 w c (aI a) g):aQ aK 157 #[f,g] c λi l=>i=bd (.bool<|dG b a)/\c=l:=by
 have n:=A d;obtain⟨q,r,rfl,s,t⟩:=bB d;obtain⟨v,x,rfl,_⟩:=g9 h;clear d h;go_enter func157,ntmps157;go_wp2;go_loop [5](λo=>∃e:Nat,e<=j a/\o=ah e/\dG b (a.take e)=true)(λp=>j a -(intOf p).toNat);.grind[dG]
 obtain⟨k,y,rfl,mc:ak _⟩:=hrel;by_cases eX:k<j a;(.obtain⟨z,B,rfl,_,C,D⟩:=c0 n eX;cases oN:bS 0 a[k] (j b);(.go_wp2_with(go_at_call 107;refine ab (gt _ _ _ _) ?_;rintro a a⟨rfl,rfl⟩);go_ret;exact⟨cP (In eX oN).symm,u⟩);.go_wp2_with(go_at_call 107;apply(gt _ _ _ _).mono;rintro a a⟨rfl,rfl⟩);go_round;(. exact a1T);exact fi);. exact H9
def qU(b c d:ad)(a:Nat):Bool:=(aR a).all λa=>bS 0 (aU c a 0) (j b - 1)&&aU b (aU c a 0).toNat 0==aU d a 0
def Ip(c a b:ad):eC c a b=(j a==j b&&qU c a b (j a)):=rfl
def PM(b c d:ad)(a:Nat):qU b c d (a+1)=(qU b c d a&&(bS 0 (aU c a 0) (j b - 1)&&aU b (aU c a 0).toNat 0==aU d a 0)):=by simp[qU,th]
def PN{ao D4:ad}(a:e<j L)(b:(bS 0 (aU L e 0) (j ao - 1)&&aU ao (aU L e 0).toNat 0==aU D4 e 0)=false):qU ao L D4 (j L)=false:=by grind[qU,List.all_eq_true]
def zl(r s t:ay)(a b c:ad)(e:a5)(i:a7 w e (aI a) r)(k:a7 w e (aI b) s)(l:a7 w e (aI c) t)(T:j a<=1073741824):aQ aK 160 #[r,s,t] e (o3 e<|.bool<|eC a b c):=by
 obtain⟨H,I,J⟩:=bb i k l;obtain⟨U,V,rfl,_⟩:=bB i;obtain⟨W,X,rfl,_⟩:=bB k;obtain⟨Y,Z,rfl,_⟩:=bB l;clear i k l;by_cases f:j b=j c;. (have d:(j b==j c)=true:=by simpa using f);obtain⟨lJ,a0⟩:=aq (by rw[Ip,d];rfl:eC a b c=qU a b c (j b)) f;generalize PO:j b=g at*;generalize a1:j c=K at*;have L:g=K:=f;clear d f;subst L;go_enter func160,ntmps160;go_wp2;go_loopw [7](λM wr=>∃n:Nat,n<=g/\M=ah n/\qU a b c n=true/\∃N,wr=g4 e N)(λO _=>g -(intOf O).toNat);(.exact⟨0,Nat.zero_le _,u,by simp[qU],0,u⟩);obtain⟨d,a2,rfl,v:ak _,iY:ak _⟩:=hrel;have o:=A (PP:F [] e wr);by_cases a3:d<g;(. (have p:d<j b:=m);(have x:d<j c:=m);obtain⟨a4,a6,rfl,_,a8,a9⟩:=c0 (I.I o) p;obtain⟨aa,ab,rfl,_,ae,af⟩:=c0 (J.I o) x;obtain⟨q,c6⟩:=aq (PM a b c d) (PN (ao:=a) (D4:=c) p);(have h:aU b d 0=b[d]:=by simp[p]);(have y:aU c d 0=c[d]:=by simp[x]);rw[h,y]at q c6;clear h y;generalize b[d]=y at*;generalize c[d]=P at*;cases z:bS 0 y (j a - 1);(. (have h:∀B,aQ aK 107 #[ah y,ah 0,ah ((j a:Int)- 1)] (g4 wr B) λC D=>C=bd (.bool false)/\g4 wr B=D:=λB=>D5);have B:=A h;have C:IntKind.i64.wrap ((j a:Int)- 1)=(j a:Int)- 1:=fl _ m;clear h;go_wp2;go_quiet((go_at_call 107;exact kc<|B _));go_wp2;go_ret;exact⟨cP PQ,drawn iY _⟩);.obtain⟨Q,ag⟩:=fk z;obtain⟨h,rfl⟩:=dA Q;(have B:h<j a:=m);obtain⟨ai,al,rfl,_,am,an⟩:=c0 (H.I o) B;(have C:aU a ((h:Int)).toNat 0=a[h]:=by simp[B]);(have D:∀E,aQ aK 107 #[ah h,ah 0,ah ((j a:Int)- 1)] (g4 wr E) λR S=>R=bd (.bool true)/\g4 wr E=S:=λap=>D5);have G:=A D;have ar:IntKind.i64.wrap ((j a:Int)- 1)=(j a:Int)- 1:=fl _ m;rw[C]at q c6;clear D C;generalize a[h]=C at*;cases D:(C==P);(.go_wp2;go_quiet((go_at_call 107;exact kc<|G _));go_wp2;go_ret;exact⟨cP PQ,drawn iY _⟩);.go_wp2;go_quiet((go_at_call 107;exact kc<|G _));go_wp2;go_roundw;(.exact⟨d+1,m,be,by rw[q.h,v.h,z,D];rfl,drawn iY _⟩);exact fi);.go_wp2;go_ret;exact⟨cP (by rw[lJ.h,<-v.h,show d=g by omega]),iY⟩
 . (have d:(j b==j c)=false:=by simpa using f);have e:=A (by rw[Ip,d];rfl:eC a b c=false);clear d;go_enter func160,ntmps160;go_wp2;go_ret;exact⟨cP e.symm,0,u⟩
def BytesAt(e f:Nat)(g:a5)(h:az)(a:Nat):Prop:=∀c,c<a->∃a d b,h=aZ a d/\a<e/\a≠f/\0<=b/\b<=255/\aW g a (d+c) (.int .u8 b)
structure cZ(b9:Nat)(y:a5)(aT:Nat)(p:Nat):Prop where
 lt:aT<b9
 pP:∃a fq dp,fq<=2000/\y.heap[aT]?=H (au #[q a fq dp,ah p] 89 (0,0))/\BytesAt b9 aT y a fq
def BytesAt.a9{cR:aw}{y:a5}(b:BytesAt e J y R Q)(c:F cR y i)(a:∀a,a∈cR->a=J\/e<=a):BytesAt e J i R Q:=λa d=>by obtain⟨e,f,g,h,i,j,k,l,m⟩:=b a d;refine⟨e,f,g,h,i,j,k,l,c.aJ m λa=>?_⟩;grind
theorem cZ.a9{cR:aw}{y:a5}(c:cZ e y J Q)(a:F cR y i)(b:∀b,b∈cR->e<=b):cZ e i J Q:=by
 obtain⟨d,e,f,g,h,b,i⟩:=c;exact⟨d,e,f,g,h,(a.block J (f4.1 b).1 a4).trans b,i.a9 a a4⟩
def cZ.I{y:a5}(a:cZ e y J Q)(b:F [] y i):cZ e i J Q:=a.a9 b a4
def PR(e:Nat)(f:a5)(b g:Nat)(c:Int)(h:Ending)(d:a5):Prop:=∃a:Int,h=bd (ah a)/\0<=a/\(1<=c->a<c)/\F [b] f d/\cZ e d b (g+1)
def PS(a:cZ e i J Q):cZ e (bZ i (bl J 1)<|ah<|(Q:Int)+1) J (Q+1):=by
 obtain⟨b,c,d,e,f,g,h⟩:=a;refine⟨b,c,d,e,f,?_,h.a9 (cR:=[J]) (aj.setCell (aN a8) _) λa a=>?_⟩;.simp[World.setCell,D6,g]
 grind
def PT(a:Nat)(f:(a:Int)<=144115188075855872):0<=bits .xor B (a:Int) ((a:Int)/64):=by
 have c:a<2^62:=m;have d:((a:Int)/64)=((a/64:Nat):Int):=m;have e:a/64<2^62:=m;rw[d];generalize a/64=b at*;have d:=Nat.xor_lt_two_pow c e;have c:(BitVec.ofInt 64 (a:Int)).toNat=a:=a4;have d:(BitVec.ofInt 64 (b:Int)).toNat=b:=a4;show 0<=IntKind.i64.wrap ((BitVec.ofInt 64 (a:Int)^^^BitVec.ofInt 64 (b:Int)).toNat:Int);rw[BitVec.toNat_xor,c,d,fl _ m];omega
def fM(c a:Nat)(f:Int)(d:a5)(r:cZ e d c a)(R:a<=1125899906842624)(S:f<=1000000):aQ aK 34 #[f3 c 0,ah f] d (PR e d c a f):=by
 obtain⟨h,i⟩:=aq (PS r) (aj.setCell (aN a8) _:F [c] d (bZ d (bl c 1)<|ah<|(a:Int)+1));obtain⟨T,x,b,y,U,g,j:ak _⟩:=r;have V:ax d (bl c 0)=H (q x b y):=by rw[ka d c 0 _ _ _ g];rfl
 have W:ax d (bl c 1)=H (ah a):=by rw[ka d c 1 _ _ _ g];rfl
 have X:d.frozen? (bl c 1)=false:=by simp[World.frozen?,g]
 clear g;by_cases Y:f<1;.go_enter Gk,Iv;go_wp2;go_ret;exact⟨0,u,m,a4,i,h⟩
 by_cases s:b=0;. (have g:((b:Int)==0)=true:=by simp[s]);clear s;go_enter Gk,Iv;go_wp2;go_ret;exact⟨0,u,m,a4,i,h⟩
 have Z:((b:Int)==0)=false:=aB;by_cases z:a<b;.obtain⟨g,n,k,rfl,o,l,p,t,v⟩:=j a z;have n:c≠g:=λg=>l g.symm;go_enter Gk,Iv;go_wp2;go_ret;exact⟨k%f,u,Int.emod_nonneg _ m,λ_=>Int.emod_lt_of_pos _ m,i,h⟩
 .obtain⟨k,p⟩:=bX (a%b);obtain⟨l,t⟩:=bX ((a*7+3)%b);(have A:k<b:=by rw[p];exact Nat.mod_lt _ m);(have C:l<b:=by rw[t];exact Nat.mod_lt _ m);obtain⟨D,a0,n,v,a1,E,a2,a3,a6⟩:=j k A;obtain⟨a7,a9,o,w,_,_,aa,ab,ad⟩:=j l C;rw[v]at w;injection w with G;injection G with I J;subst I J v;have ae:c≠D:=λK=>E K.symm;(have L:(a:Int).tmod (b:Int)=(k:Int):=a4);(have M:((a:Int)*7+3).tmod (b:Int)=(l:Int):=a4);have N:IntKind.i64.wrap ((a:Int)*7)=(a:Int)*7:=fl _ m;have O:IntKind.i64.wrap ((a:Int)*7+3)=(a:Int)*7+3:=fl _ m;(have P:(a:Int).tdiv (b:Int)=((a/b:Nat):Int):=a8);have af:a/b<=a:=Nat.div_le_self _ _;generalize a/b=g at*;have Q:IntKind.i64.wrap (g:Int)=g:=fl _ m;clear p t;go_enter Gk,Iv;go_wp2;go_quiet(fail);(have t:0<=n*131+o*1117+(a:Int)*29+(g:Int)*53:=m);(have ag:n*131+o*1117+(a:Int)*29+(g:Int)*53<=144115188075855872:=m);clear L M N O Q P;generalize n*131+o*1117+(a:Int)*29+(g:Int)*53=N at*;obtain⟨p,rfl⟩:=dA t;go_wp2;have L:=PT p m;generalize bits .xor B (p:Int) ((p:Int)/64)=M at*;go_ret;exact⟨M.tmod f,u,Int.tmod_nonneg _ L,λ_=>Int.tmod_lt_of_pos _ m,i.drewN _,h.I<|aj.drewN _⟩
def PU(d:Nat)(e:a5)(a f:Nat)(g:ad)(h:Ending)(b:a5):Prop:=∃c:Int,h=bd (ah c)/\c∈g/\F [a] e b/\cZ d b a (f+1)
def lK{a0:aw}(a b:Nat)(f:ay)(l:ad)(c:a5)(g:cZ e c a b)(v:a∈a0)(o:b<=1125899906842624)(d:a7 a0 c (aI l) f)(w:0<j l)(x:j l<=1000):aQ aK 96 #[f3 a 0,f] c (PU e c a b l):=by
 obtain⟨p,q⟩:=aq g d;obtain⟨y,z,rfl,A,B⟩:=bB d;clear g d;go_enter func96,ntmps96;go_wp2_with fail;refine ab (fM a b _ _ p o m) ?_;rintro C D⟨E,rfl,r,s,h:ak _,t:ak _⟩;obtain⟨i,rfl⟩:=dA r;have k:i<j l:=m;have n:=q.a9 h a4;obtain⟨F,G,rfl,H,I,J⟩:=c0 n k;clear n s;go_wp2;go_ret;exact⟨l[i],u,dM k,h,t⟩
structure fg where
 aC:ad
 bs:Int
def hI(a:List fg)(b:Nat):fg:=a.getD b ⟨[],0⟩
inductive bI(l:b2)(cX:List fg):ad->bn->Int->Prop|int{ao:ad}{n:Int}(I4: -999<=n)(fX:n<=999):bI l cX ao (.mk 0 n []) 0|var{ao:ad}{av:Nat}(b7:av<j ao):bI l cX ao (.mk 12 av []) ao[av]|pQ{ao:ad}{af:Int}{a b:bn}(b7:1<=af/\af<=4)(qK:bI l cX ao a 0)(gy:bI l cX ao b 0):bI l cX ao (.mk af 0 [a,b]) 0|print{ao:ad}{a:bn}(qK:bI l cX ao a 0):bI l cX ao (.mk 5 0 [a]) 0|cI{ao:ad}{c:Int}{a6:List bn}(i6:0<ev l c)(cS:j a6=j (bg l c))(eb:∀av(fX:av<j a6)(qO:av<j (bg l c)),bI l cX ao a6[av] (bg l c)[av]):bI l cX ao (.mk 6 c a6) (ev l c)|xd{ao:ad}{a b:bn}{t cQ:Int}(mK:0<=t)(qK:bI l cX ao a t)(gy:bI l cX (ao++[t]) b cQ):bI l cX ao (.mk 13 0 [a,b]) cQ|iff{ao:ad}{a b c:bn}{t:Int}(qK:bI l cX ao a 0)(gy:bI l cX ao b t)(i6:bI l cX ao c t):bI l cX ao (.mk 7 0 [a,b,c]) t|xe{ao:ad}{a:bn}{a6:List bn}{d t:Int}(li:bt l d≠[])(qK:bI l cX ao a d)(cS:j a6=j (bt l d))(eb:∀av(fX:av<j a6)(qO:av<j (bt l d)),bI l cX (ao++bg l (bt l d)[av]) a6[av] t):bI l cX ao (.mk 8 d<|a::a6) t|call{ao:ad}{f:Nat}{a6:List bn}(ee:f<j cX)(cS:j a6=(hI cX f).aC.length)(eb:∀av(fX:av<j a6)(qO:av<(hI cX f).aC.length),bI l cX ao a6[av] (hI cX f).aC[av]):bI l cX ao (.mk 9 f a6) (hI cX f).bs|close{ao:ad}{f:Nat}{a6:List bn}{t:Int}(ee:f<j cX)(cS:j a6+1=(hI cX f).aC.length)(eb:∀av(fX:av<j a6)(qO:av<(hI cX f).aC.length),bI l cX ao a6[av] (hI cX f).aC[av])(mK:t=gu l ((hI cX f).aC.getD (j a6) 0) (hI cX f).bs)(I4:0<t):bI l cX ao (.mk 10 f a6) t|apply{ao:ad}{a b:bn}{t:Int}(mK:e8 l t=true)(qK:bI l cX ao a t)(gy:bI l cX ao b (dO l (t - 1).toNat).cy):bI l cX ao (.mk 11 0 [a,b]) (dO l (t - 1).toNat).d1
structure dQ(l:b2):Prop where
 fq:j l=3\/j l=4
 bound:de l (j l)<=1073741824
 ez:bt l 0=[]
 PV:e8 l 0=false
 eU:bt l 1=[0,1]
 jv:e8 l 1=false
 ts:bg l 0=[]
 qV:bg l 1=[0,1]
 hd:ev l 0=1
 jQ:ev l 1=1
 gD:bt l 2=[]
 v9:e8 l 2=true
 jw:(dO l 1).cy=0/\(dO l 1).d1=0
 e1:bt l 3=[2,3]
 tu:e8 l 3=false
 tv:bg l 2=[]
 mL:bg l 3=[3,0,3]
 pR:ev l 2=3
 sd:ev l 3=3
 four:(j l=3/\e8 l 4=false/\bt l 4=[])\/(j l=4/\((bt l 4=[4]/\e8 l 4=false/\bg l 4=[1,3]/\ev l 4=4)\/(bt l 4=[4,5,6]/\e8 l 4=false/\bg l 4=[1,1,0]/\bg l 5=[0]/\bg l 6=[3]/\ev l 4=4/\ev l 5=4/\ev l 6=4)\/(bt l 4=[]/\e8 l 4=true/\((dO l 3).cy=1/\(dO l 3).d1=0\/(dO l 3).cy=0/\(dO l 3).d1=1))))
 gu:∀f t,gu l f t= -1\/((f=0\/f=1)/\(t=0\/t=1)/\¬(f=1/\t=1))
def dList:nh:=⟨0,0,[[],[0,1]]⟩
def se:nh:=⟨0,0,[]⟩
def sf:nh:=⟨0,0,[[],[3,0,3]]⟩
def jx(a:b2):b2:=[dList,se,sf]++a
def hJ(a:Nat):nh:=match a with|0=>⟨0,0,[[1,3]]⟩|1=>⟨1,0,[]⟩|2=>⟨0,0,[[1,1,0],[0],[3]]⟩|_=>⟨0,1,[]⟩
def Iq(c:b2)(h:c=[]\/∃i,c=[i])(d e:Int)(k:∀b,c=[b]->b.cons=[]->(b.cy=1/\b.d1=0\/b.cy=0/\b.d1=1)):gu (jx c) d e= -1\/((d=0\/d=1)/\(e=0\/e=1)/\¬(d=1/\e=1)):=by
 rcases OC (jx c) d e with j|⟨a,f,_,g⟩;.exact aN j
 .right;rcases h with rfl|⟨l,rfl⟩;(.simp[jx]at f;(have b:a=0\/a=1\/a=2:=m);rcases b with rfl|rfl|rfl<;>simp[f5,dO,jx,dList,se,sf]at g;omega);.simp[jx]at f;(have b:a=0\/a=1\/a=2\/a=3:=m);rcases b with rfl|rfl|rfl|rfl<;>simp[f5,dO,jx,dList,se,sf]at g;(.omega);grind
theorem dQ.PW:dQ (jx []):=⟨bf,bf,bf,bf,bf,bf,bf,bf,bf,bf,bf,bf,bf,bf,bf,bf,bf,bf,bf,bf,λa b=>Iq [] (aN u) a b a4⟩
theorem dQ.PX(a:Nat)(i:a<4):dQ (jx [hJ a]):=by
 have b:a=0\/a=1\/a=2\/a=3:=m;rcases b with rfl|rfl|rfl|rfl;all_goals refine⟨bf,bf,bf,bf,bf,bf,bf,bf,bf,bf,bf,bf,bf,bf,bf,bf,bf,bf,bf,bf,λc d=>Iq _ (bk ⟨_,u⟩) c d (λe f g=>?_)⟩;have h:e=_:=(List.cons.inj f).1.symm;subst h;revert g;decide
structure gV(l:b2)(cX:List fg):Prop where
 fq:1<=j cX/\j cX<=4
 sg:∀av(b7:av<j cX),cX[av].aC.length<=3
 xf:∀av(b7:av<j cX),∀t∈cX[av].aC,t=0\/t=1\/t=2\/t=3
 aY:∀av(b7:av<j cX),cX[av].bs=0\/cX[av].bs=1\/cX[av].bs=3
 D9:∀av(b7:av<j cX),0<gu l (cX[av].aC.getD (cX[av].aC.length - 1) 0) cX[av].bs->∀t∈cX[av].aC,t=0\/t=1\/t=3
def oO(c:b2)(a:List fg)(d:Int)(b:Nat):Bool:=decide (0<(hI a b).aC.length)&&gu c ((hI a b).aC.getD ((hI a b).aC.length - 1) 0) (hI a b).bs==d
def kN(b:b2)(a:List fg)(c:Int):ad:=((aR<|j a).filter<|oO b a c).map λ(a:Nat)=>(a:Int)
def o4(a:b2)(b:List fg)(c:Int)(d:Nat):ad:=((aR d).filter<|oO a b c).map λ(a:Nat)=>(a:Int)
theorem Ir(b:b2)(c:List fg)(d:Int)(a:Nat):j (o4 b c d a)<=a:=by grind[List.length_filter_le,oO,aR,o4]
def PY{a:List fg}(b:oO N a M e=true):o4 N a M (e+1)=o4 N a M e++[(e:Int)]:=by grind[o4,List.range_succ]
def Is{a:List fg}(b:oO N a M e=false):o4 N a M (e+1)=o4 N a M e:=by grind[o4,List.range_succ]
def PZ{l:b2}{cX:List fg}{t aP:Int}(a:aP∈kN l cX t):∃a:Nat,a<j cX/\aP=a/\oO l cX t a=true:=by grind[kN]
def en(b:b2)(c:List fg)(d:ad)(a:Int):Bool:=!e8 b a||(decide (0<j (kN b c a))||dK d a)
mutual def ua(a:Nat):ch->Prop|.mk b _=>rg a b def rg(a:Nat):bE->Prop|[]=>True|b::c=>vM a b/\rg a c def vM(b:Nat):b6->Prop|.mk c _ _ a d=>(fv c=true->a≠[]/\0<=a.getD 0 0/\a.getD 0 0<=b)/\pg b d def pg(a:Nat):dy->Prop|[]=>True|b::c=>ua a b/\pg a c end
section
variable{cR:Nat}
def ST(a:ch):ua cR a=rg cR a.ap:=by
 cases a;rw[ua];rfl
def SU(a:b6):vM cR a=((fv a.af=true->a.am≠[]/\0<=cp a/\cp a<=cR)/\pg cR a.a6):=by
 cases a;rw[vM];rfl
theorem Kn:∀{a:bE},rg cR a->∀{b:Nat}(c:b<j a),vM cR a[b]|a::b,c,0,_=>by grind[rg]|b::c,a,d+1,e=>by rw[rg]at a;exact Kn a.2 a4
theorem Ko:∀{a:dy},pg cR a->∀{b:Nat}(c:b<j a),ua cR a[b]|a::b,c,0,_=>by grind[pg]|b::c,a,d+1,e=>by rw[pg]at a;exact Ko a.2 a4
end
def SV{a:List ad}(d:∀b∈a,j b<=1000):j (a.headD [])<=1000/\∀c∈a.tail,j c<=1000:=by cases a with|nil=>simp|cons e f=>grind
mutual theorem Kp{e:aH}(g:∀c,j (bg e.ai c)<=1000)(c:Nat):∀(d:ch)(f:ad),0<=dP e f d->j f+1001*bC d<=c->ua c d|.mk e i,f,d,k=>by rw[ua];refine Kq g c e f (λc=>?_) (by grind[bC]);rw[dP,c]at d;simp at d theorem Kq{e:aH}(g:∀c,j (bg e.ai c)<=1000)(c:Nat):∀(d:bE)(f:ad),dL e f d≠G->j f+1001*c9 d<=c->rg c d|[],d,_,_=>by grind[rg]|f::k,i,d,l=>by rw[dL]at d;rw[c9]at l;have l:¬cW e i f<0:=λe=>d<|dz e;rw[ND l]at d;rw[rg];refine⟨SW g c f i m m,Kq g c k _ d ?_⟩;(have c:1<=c5 f:=by rw[h2];omega);split;(.simp;omega);.omega theorem SW{e:aH}(f:∀c,j (bg e.ai c)<=1000)(c:Nat):∀(d:b6)(g:ad),0<=cW e g d->j g+1001*c5 d<=c->vM c d|.mk af an b1 am a6,ao,b7,i=>by rw[vM];refine⟨λe=>?_,?_⟩;(.have d:=zf (s:= .mk af an b1 am a6) e b7;have e:=d.1;obtain⟨g,k⟩:=fk d.2.1;have d:cp (.mk af an b1 am a6)=aU am 0 0:=rfl;rw[d]at g k;simp only[cx,b6.mk.injEq]at e;refine⟨?_,g,m⟩;rw[e.2.2.2.1];simp);.by_cases d:a6=[];(.grind[pg]);.have d:=v5 b7;rw[c5]at i;by_cases e:af=7;(.exact Ea f c a6 _ _ ao (d.1 e).2 a8 m);.by_cases e:af=8;(.exact Ea f c a6 _ _ ao (d.2 e).2.2 a4 m);. exact PG theorem Ea{e:aH}(f:∀c,j (bg e.ai c)<=1000)(c:Nat):∀(d:dy)(g:List ad)(k:Option Int)(i:ad),0<=f0 e i d g k->(∀e∈g,j e<=1000)->j i+1001*du d+1000<=c->pg c d|[],d,e,g,_,_,_=>by grind[pg]|e::g,d,o,i,k,l,n=>by have d:=s7 k;obtain⟨o,k⟩:=SV l;rw[du]at n;rw[pg];exact⟨Kp f c e _ d.1 a4,Ea f c g _ _ i d.2 k m⟩end
mutual def h8(a:b2)(b c:Nat):ch->Prop|.mk d e=>oi a b c d e def oi(b:b2)(c a:Nat):bE->Int->Prop|[],d=>0<=d/\d<a|d::e,f=>qc b c a d/\oi b c (a+1) e f def qc(a:b2)(d e:Nat):b6->Prop|.mk b c _ h f=>(∀g∈h,0<=g/\g<e)/\(b=9->0<=c/\c<d)/\eB b=false/\(b=8->j f<=j (bt a c))/\rh a d e f (if b=8 then(bt a c).map (bg a)else [])def rh(a:b2)(b c:Nat):dy->List ad->Prop|[],_=>True|e::f,d=>h8 a b (c+j (d.headD [])) e/\rh a b c f d.tail end
def Ag(b:b2)(c d:Nat)(a:ch):h8 b c d a=oi b c d a.ap a.aY:=by
 cases a;rw[h8];rfl
def ub(b:b2)(c d:Nat)(a:b6):qc b c d a=((∀e∈a.am,0<=e/\e<d)/\(a.af=9->0<=a.an/\a.an<c)/\eB a.af=false/\(a.af=8->j a.a6<=j (bt b a.an))/\rh b c d a.a6 (if a.af=8 then(bt b a.an).map (bg b)else [])):=by
 cases a;rw[qc];rfl
theorem Ed:∀{a:bE}{b:Nat}{c:Int},oi N e b a c->∀{av:Nat}(d:av<j a),qc N e (b+av) a[av]|a::b,c,d,e,0,_=>by grind[oi]|d::e,b,f,c,a+1,g=>by rw[oi]at c;have:=Ed c.2 (av:=a) a4;rwa [show b+1+a=b+(a+1)by omega]at this
theorem Ee:∀{b:bE}{c:Nat}{a:Int},oi N e c b a->0<=a/\a<c+j b|[],a,b,c=>by grind[oi]|b::c,d,e,a=>by rw[oi]at a;have:=Ee a.2;exact G1
theorem Ah:∀{a:dy}{b:List ad},rh N e J a b->∀{av:Nat}(c:av<j a),h8 N e (J+j (b.getD av [])) a[av]|b::c,aE,a,0,_=>(by rw[rh]at a;have:=a.1;exact Ef)|c::d,aE,a,b+1,e=>by rw[rh]at a;have:=Ah a.2 (av:=b) a4;exact Ef
def n3(b:aw)(c:a5)(d:Nat)(e:Ending)(f:a5):Prop:=∃a:ad,j a<=d/\iU b c 3 1 (b5 a) e f
def y1(b:aw)(c:a5)(d:Nat)(e:Ending)(f:a5):Prop:=∃a:ad,j a<=d/\wO b c (aI a) e f
theorem n3.br{a:Ending}(b:n3 w i e a P):y1 w i e a P:=by
 obtain⟨a,c,d⟩:=b;exact⟨a,c,d.br⟩
def lZ(a b:Nat):ad:=(aR b).map λb=>((a+b:Nat):Int)
theorem qd(b a:Nat):j (lZ b a)=a:=by simp[lZ]
def T6(a b:Nat):lZ a (b+1)=lZ a b++[((a+b:Nat):Int)]:=by simp[lZ,th]
end Go.Proofs.YtfekcilkpafpjaaGreat
