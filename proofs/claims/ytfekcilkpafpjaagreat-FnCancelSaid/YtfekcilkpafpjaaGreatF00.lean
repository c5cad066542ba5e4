/- A part. -/
import Derived.BigQuiet
import Derived.Deep.OwnRows
import Derived.Deep.RegionLaw
import Derived.Lib.Hide
import Derived.Lib.QuietBelow
import Derived.Test.YtfekcilkpafpjaaGreatProg
import Derived.WalkLawsBesides
import Derived.WalkSpells
open Array renaming size->x
open Go.Calls renaming mono->ad
open Go.Ending renaming returned->bg
open Go.IntKind renaming i64->B
open Go.Obj renaming cells->au
open Go.Value renaming int->C,pointer->cc,slice->q
open Go.World renaming cell?->ax,drew->eg,drewN->gg,alloc->aY,setCell->bX
open List renaming length->j
open Option renaming none->F,some->G
open Or renaming inl->aM,inr->bj
namespace Go.Proofs.YtfekcilkpafpjaaGreat
open Go.RowKit
open Tryz
set_option maxRecDepth 100000
set_option maxHeartbeats 25600000
set_option linter.all false
variable{N Y:Int}{J Q e:Nat}
abbrev az:=Option Addr
abbrev ab:=List Int
abbrev aw:=List Nat
abbrev de:=List Value
abbrev a5:=World
abbrev ay:=Value
abbrev bJ:=TypeId
abbrev pY:=@Addr.add_lit
abbrev MP:=@AllReady.cons
abbrev Z7:=@Array.getElem?_append_left
abbrev Oa:=@Array.getElem?_eq_getElem
abbrev fq:=@Array.getElem?_eq_some_iff
abbrev Dr:=@Array.getElem?_modify
abbrev NR:=@Array.replicate_succ
abbrev NS:=@Array.replicate_zero
abbrev Pc:=@Array.setIfInBounds_comm
abbrev pX:=@Below.heap_alloc
abbrev Ht:=@Below.heap_setCell
abbrev yT:=@Below.refl
abbrev Da:=@Bool.and_eq_false_iff
abbrev fH:=@Bool.and_eq_true
abbrev HX:=@Bool.and_true
abbrev Lb:=@Bool.eq_false_or_eq_true
abbrev xg:=@Bool.eq_iff_iff
abbrev vq:=@Bool.false_eq_true
abbrev D9:=@Bool.not_eq_true'
abbrev PF:=@Classical.byContradiction
abbrev dB:=@Int.eq_ofNat_of_zero_le
abbrev QY:=@Int.tdiv_eq_ediv_of_nonneg
abbrev kJ:=@Int.toNat_natCast
abbrev fD:=@IntWalk.i64_in
abbrev ri:=@Lib.run_eql_slice_nil
abbrev HZ:=@List.all_append
abbrev hC:=@List.all_eq_true
abbrev K5:=@List.any_eq_true
abbrev qn:=@List.append_assoc
abbrev nG:=@List.append_nil
abbrev NU:=@List.append_toArray
abbrev j0:=@List.cons_append
abbrev vp:=@List.countP_cons
abbrev OP:=@List.count_cons
abbrev kh:=@List.drop_eq_getElem_cons
abbrev MG:=@List.drop_eq_nil_of_le
abbrev lp:=@List.drop_length
abbrev s9:=@List.drop_of_length_le
abbrev K3:=@List.drop_succ_cons
abbrev LG:=@List.drop_zero
abbrev qW:=@List.eq_nil_of_length_eq_zero
abbrev Sf:=@List.eraseIdx_append_of_lt_length
abbrev KC:=@List.eraseIdx_cons_succ
abbrev KD:=@List.eraseIdx_cons_zero
abbrev xh:=@List.ext_getElem
abbrev xa:=@List.find?_eq_none
abbrev CE:=@List.find?_some
abbrev Ae:=@List.flatMap_append
abbrev Hx:=@List.flatten_append
abbrev lG:=@List.flatten_cons
abbrev Ad:=@List.foldl_append
abbrev tw:=@List.foldl_cons
abbrev HY:=@List.getD_cons_zero
abbrev gS:=@List.getD_eq_getElem?_getD
abbrev tk:=@List.getElem?_append_left
abbrev v4:=@List.getElem?_append_right
abbrev hm:=@List.getElem?_eq_getElem
abbrev tW:=@List.getElem?_eq_some_iff
abbrev xs:=@List.getElem?_map
abbrev oy:=@List.getElem?_set_ne
abbrev vJ:=@List.getElem?_set_self
abbrev J7:=@List.getElem_append_left
abbrev U8:=@List.getElem_append_right
abbrev jT:=@List.getElem_cons_succ
abbrev kL:=@List.getElem_cons_zero
abbrev kc:=@List.getElem_map
abbrev dV:=@List.getElem_mem
abbrev mO:=@List.getElem_of_mem
abbrev Mo:=@List.getElem_set
abbrev FH:=@List.getElem_set_self
abbrev Bt:=@List.getElem_take
abbrev w5:=@List.getElem_toArray
abbrev D0:=@List.headD_cons
abbrev eV:=@List.length_append
abbrev gI:=@List.length_cons
abbrev fC:=@List.length_map
abbrev jV:=@List.length_nil
abbrev vQ:=@List.length_replicate
abbrev ks:=@List.length_set
abbrev D1:=@List.length_take
abbrev fO:=@List.map_append
abbrev h0:=@List.map_cons
abbrev FP:=@List.map_drop
abbrev mh:=@List.map_nil
abbrev qF:=@List.map_set
abbrev FO:=@List.map_take
abbrev Hz:=@List.map_toArray
abbrev cI:=@List.mem_append
abbrev hA:=@List.mem_append_left
abbrev gQ:=@List.mem_append_right
abbrev ek:=@List.mem_cons
abbrev gb:=@List.mem_cons_of_mem
abbrev iJ:=@List.mem_map
abbrev CD:=@List.mem_of_find?_eq_some
abbrev sc:=@List.mem_of_getElem?
abbrev If:=@List.mem_of_mem_tail
abbrev xW:=@List.mem_or_eq_of_mem_set
abbrev gB:=@List.mem_range
abbrev kG:=@List.mem_singleton
abbrev j1:=@List.nil_append
abbrev NT:=@List.push_toArray
abbrev tq:=@List.range_succ
abbrev Ki:=@List.replicate_succ'
abbrev g7:=@List.setIfInBounds_toArray
abbrev et:=@List.set_cons_succ
abbrev eJ:=@List.set_cons_zero
abbrev NQ:=@List.size_toArray
abbrev Cz:=@List.sum_cons
abbrev zn:=@List.tail_cons
abbrev Az:=@List.take_append_drop
abbrev kY:=@List.take_length
abbrev k1:=@List.take_of_length_le
abbrev DU:=@List.take_succ_cons
abbrev tB:=@Nat.add_assoc
abbrev s5:=@Nat.add_mul
abbrev EV:=@Nat.add_sub_cancel
abbrev jW:=@Nat.add_zero
abbrev zL:=@Nat.eq_zero_or_pos
abbrev cF:=@Nat.le_refl
abbrev fB:=@Nat.le_trans
abbrev dF:=@Nat.lt_of_lt_of_le
abbrev la:=@Nat.lt_or_ge
abbrev jD:=@Nat.lt_succ_self
abbrev xL:=@Nat.mul_le_mul_right
abbrev zc:=@Nat.mul_one
abbrev gF:=@Nat.zero_add
abbrev el:=@Nat.zero_le
abbrev yn:=@Nat.zero_mul
abbrev ve:=@Option.getD_some
abbrev vk:=@Option.map_eq_some_iff
abbrev zq:=@Option.map_some
abbrev Gh:=@Option.some.inj
abbrev Kh:=@Option.toList_some
abbrev Hy:=@Result.andThen_ok
abbrev Gn:=@Tryz.func110
abbrev GS:=@Tryz.func111
abbrev E3:=@Tryz.func123
abbrev BY:=@Tryz.func152
abbrev DS:=@Tryz.func159
abbrev ET:=@Tryz.func179
abbrev GF:=@Tryz.func257
abbrev Ds:=@Tryz.func34
abbrev Gp:=@Tryz.ntmps110
abbrev GT:=@Tryz.ntmps111
abbrev E4:=@Tryz.ntmps123
abbrev JL:=@Tryz.ntmps147
abbrev BZ:=@Tryz.ntmps152
abbrev DT:=@Tryz.ntmps159
abbrev EU:=@Tryz.ntmps179
abbrev Nv:=@Tryz.ntmps205
abbrev J5:=@Tryz.ntmps251
abbrev Jb:=@Tryz.ntmps252
abbrev GG:=@Tryz.ntmps257
abbrev Dt:=@Tryz.ntmps34
abbrev qd:=@Tryz.underlying153
abbrev wv:=@Tryz.underlying163
abbrev rZ:=@Tryz.underlying221
abbrev vR:=@Tryz.underlying23
abbrev sG:=@Tryz.underlying24
abbrev sj:=@Tryz.underlying3
abbrev f7:=@Tryz.underlying34
abbrev lo:=@Tryz.underlying36
abbrev Aj:=@Tryz.underlying45
abbrev BU:=@Tryz.underlying75
abbrev zF:=@Tryz.underlying82
abbrev Eb:=@Tryz.underlying98
abbrev Hv:=@World.block_lt_of_cell?
abbrev GH:=@World.cell?_alloc_at
abbrev HA:=@World.cell?_alloc_new
abbrev zb:=@World.cell?_of_block
abbrev GE:=@World.cell?_setCells_out
abbrev hq:=@World.size_alloc
abbrev tX:=@World.size_setCell
abbrev xk:=@beq_eq_false_iff_ne
abbrev kf:=@beq_iff_eq
abbrev cl:=@bodyPost_ret
abbrev Aa:=@callsIn_wide
abbrev j7:=@cell_of_row
abbrev qy:=@congrArg
abbrev nP:=@decide_eq_false
abbrev n4:=@decide_eq_true
abbrev xi:=@decide_eq_true_eq
abbrev JO:=@frozen_of_row
abbrev C3:=@grownCap_ge
abbrev C4:=@grownCap_le_maxLen
abbrev O9:=@growslice_fits
abbrev dD:=@heap_alloc_new
abbrev nC:=@if_false
abbrev be:=@if_neg
abbrev bB:=@if_pos
abbrev mn:=@if_true
abbrev oV:=@info_parts
abbrev GD:=@run_copy_cells
abbrev zd:=@run_underlying
abbrev pP:=@wpAny_take
abbrev GU:=@wpList_make_own
abbrev u:=@rfl
abbrev bA:=@trivial
abbrev ag(a:Int):ay:=C B a
abbrev bs(a b:Nat):Addr:=⟨a,b,F⟩
abbrev aX(a b:Nat):az:=G ⟨a,b,F⟩
abbrev f6(a b:Nat):ay:=cc<|G ⟨a,b,F⟩
abbrev a1{a:Type}(b:az)(c:List a)(a:Nat):ay:=q b (j c) a
abbrev aZ(a:a5)(b c:Nat)(d:ay):Prop:=ax a ⟨b,c,F⟩=G d
abbrev cO(a:a5)(b:Nat):Addr:=⟨x a.heap,b,F⟩
abbrev bU(a:a5)(b:Nat):az:=G ⟨x a.heap,b,F⟩
abbrev d2(a:a5)(b:Nat):ay:=cc<|G ⟨x a.heap,b,F⟩
abbrev bk(a b:a5)(c:Nat)(d:ay):Prop:=ax a ⟨x b.heap,c,F⟩=G d
abbrev kb(a:a5)(b c:Nat):Addr:=⟨x a.heap+b,c,F⟩
abbrev l9(a:a5)(b c:Nat):az:=G ⟨x a.heap+b,c,F⟩
abbrev e0(a:a5)(b c:Nat):ay:=cc<|G ⟨x a.heap+b,c,F⟩
abbrev ds(a b:a5)(c d:Nat)(e:ay):Prop:=ax a ⟨x b.heap+c,d,F⟩=G e
def c4{b:Type}(a:b):∃b,b=a:=⟨a,u⟩
def cS{a b:Bool}(c:a=b):Ending.returned (.bool a)=bg (.bool b):=by rw[c]
def eD{a:IntKind}(b:N=Y):Ending.returned (.int a N)=bg (.int a Y):=by rw[b]
theorem fX{b:Type}(a:List b)(b:Nat)(c:b<j a):a.take (b+1)=a.take b++[a[b]]:=by rw[List.take_succ_eq_append_getElem c]
structure H(cY:aw)(A bN:a5):Prop where
 os:bN.os=A.os
 tape:bN.tape=A.tape
 output:bN.output=A.output
 size:x A.heap<=x bN.heap
 block:∀k,k<x A.heap->k∉cY->bN.heap[k]?=A.heap[k]?
def H.refl(b:aw)(a:a5):H b a a:=⟨u,u,u,cF _,λ_ _ _=>u⟩
variable{P i:a5}{w:aw}
theorem H.trans{x9:aw}{d:a5}(a:H w i P)(b:H x9 P d)(f:∀c,c∈x9->c∈w\/i.heap.size<=c):H w i d:=⟨b.os.trans a.os,b.tape.trans a.tape,b.output.trans a.output,fB a.size b.size,λc d e=>(b.block c (dF d a.size) (λg=>by rcases f c g with b|b;(.exact e b);.omega)).trans<|a.block c d e⟩
def H.then{a:a5}(b:H w i P)(c:H w P a):H w i a:=b.trans c λ_ a=>aM a
def H.aa{a:a5}(b:H w i P)(c:H [] P a):H w i a:=b.trans c λ_ d=>by cases d
def H.mono{c:aw}(a:H w i P)(d:∀b,b∈w->b∈c\/i.heap.size<=b):H c i P:=⟨a.os,a.tape,a.output,a.size,λb c e=>a.block b c (λc=>by rcases d b c with a|a;(.exact e a);.omega)⟩
def H.sub{a:aw}(c:H w i P)(d:∀b,b∈w->b∈a):H a i P:=c.mono λa b=>aM<|d a b
def H.cn{cY:aw}(a:H [] i P):H cY i P:=a.sub λ_ b=>by cases b
def H.drew(a:H w i P):H w i (eg P):=⟨a.os,a.tape,a.output,a.size,a.block⟩
def H.drewN(a:H w i P)(b:Nat):H w i (gg P b):=⟨a.os,a.tape,a.output,a.size,a.block⟩
theorem H.alloc(a:H w i P)(b:Obj):H w i (aY P b):=a.trans (x9:=[]) ⟨u,u,u,by simp,λe c _=>pX _ _ _ c⟩ λ_ d=>by cases d
theorem H.setCell(a:H w i P){p:Addr}(b:p.block∈w\/i.heap.size<=p.block)(c:ay):H w i (bX P p c):=a.trans (x9:=[p.block]) ⟨u,u,u,by simp[World.setCell],λg _ d=>Ht _ _ _ _ (λe=>d (by simp[e]))⟩ λh f=>by rcases kG.1 f with rfl;exact b
def H.below(a:H w i P)(b:e<=i.heap.size)(c:∀b,b∈w->e<=b):Below e i P:=⟨a.os,a.tape,a.output,a.size,λb d=>a.block b (by omega) (λa=>by have:=c b a;omega)⟩
def H.Hu(a:H [] i P):Below i.heap.size i P:=a.below (cF _) λ_ b=>by cases b
def H.of_below(a:Below i.heap.size i P):H [] i P:=⟨a.os,a.tape,a.output,a.size,λb c _=>a.block b c⟩
def H.grown{d:a5}{b:Option Nat}(e:H w i P)(a:P.grownBy d b)(f:∀c,b=G c->c∈w\/i.heap.size<=c):H w i d:=e.trans (x9:=b.toList) ⟨a.os,a.tape,a.output,a.size,λb c d=>a.block b c (λa=>d (by simp[<-a]))⟩ λa b=>f a (by simpa using b)
def H.cell{a:aw}(b:H a i P){p:Addr}(c:p.block<x i.heap)(d:p.block∉a):ax P p=ax i p:=zb (w:=i)<|b.block p.block c d
def H.aJ{cY:aw}{A:a5}(b:H cY A i){p:Addr}{v:ay}(a:ax A p=G v)(c:p.block∉cY):ax i p=G v:=(b.cell (Hv A p a) c).trans a
variable{K S:ay}
def H.fM(c:H w i P){a b:Addr}(d:ax i a=G K)(e:ax i b=G S)(f:a.block∉w:=by simp)(g:b.block∉w:=by simp):ax P a=G K/\ax P b=G S:=⟨c.aJ d f,c.aJ e g⟩
def H.dG(d:H w i P){a b c:Addr}{e:ay}(f:ax i a=G K)(g:ax i b=G S)(h:ax i c=G e)(i:a.block∉w:=by simp)(j:b.block∉w:=by simp)(k:c.block∉w:=by simp):ax P a=G K/\ax P b=G S/\ax P c=G e:=⟨d.aJ f i,d.fM g h j k⟩
def H.e8(e:H w i P){a b c d:Addr}{f g:ay}(h:ax i a=G K)(j:ax i b=G S)(k:ax i c=G f)(l:ax i d=G g)(i:a.block∉w:=by simp)(m:b.block∉w:=by simp)(n:c.block∉w:=by simp)(o:d.block∉w:=by simp):ax P a=G K/\ax P b=G S/\ax P c=G f/\ax P d=G g:=⟨e.aJ h i,e.dG j k l m n o⟩
def H.ey(f:H w i P){a b c d e:Addr}{g h j:ay}(k:ax i a=G K)(l:ax i b=G S)(m:ax i c=G g)(n:ax i d=G h)(o:ax i e=G j)(i:a.block∉w:=by simp)(p:b.block∉w:=by simp)(q:c.block∉w:=by simp)(r:d.block∉w:=by simp)(s:e.block∉w:=by simp):ax P a=G K/\ax P b=G S/\ax P c=G g/\ax P d=G h/\ax P e=G j:=⟨f.aJ k i,f.e8 l m n o p q r s⟩
def H.fo(g:H w i P){a b c d e f:Addr}{h j k l:ay}(m:ax i a=G K)(n:ax i b=G S)(o:ax i c=G h)(p:ax i d=G j)(q:ax i e=G k)(r:ax i f=G l)(i:a.block∉w:=by simp)(s:b.block∉w:=by simp)(t:c.block∉w:=by simp)(u:d.block∉w:=by simp)(v:e.block∉w:=by simp)(x:f.block∉w:=by simp):ax P a=G K/\ax P b=G S/\ax P c=G h/\ax P d=G j/\ax P e=G k/\ax P f=G l:=⟨g.aJ m i,g.ey n o p q r s t u v x⟩
def H.c7(h:H w i P){a b c d e f g:Addr}{j k l m n:ay}(o:ax i a=G K)(p:ax i b=G S)(q:ax i c=G j)(r:ax i d=G k)(s:ax i e=G l)(t:ax i f=G m)(u:ax i g=G n)(i:a.block∉w:=by simp)(v:b.block∉w:=by simp)(x:c.block∉w:=by simp)(y:d.block∉w:=by simp)(z:e.block∉w:=by simp)(A:f.block∉w:=by simp)(B:g.block∉w:=by simp):ax P a=G K/\ax P b=G S/\ax P c=G j/\ax P d=G k/\ax P e=G l/\ax P f=G m/\ax P g=G n:=⟨h.aJ o i,h.fo p q r s t u v x y z A B⟩
def H.iE(j:H w i P){a b c d e f g h:Addr}{k l m n o p:ay}(q:ax i a=G K)(r:ax i b=G S)(s:ax i c=G k)(t:ax i d=G l)(u:ax i e=G m)(v:ax i f=G n)(x:ax i g=G o)(y:ax i h=G p)(i:a.block∉w:=by simp)(z:b.block∉w:=by simp)(A:c.block∉w:=by simp)(B:d.block∉w:=by simp)(C:e.block∉w:=by simp)(D:f.block∉w:=by simp)(E:g.block∉w:=by simp)(F:h.block∉w:=by simp):ax P a=G K/\ax P b=G S/\ax P c=G k/\ax P d=G l/\ax P e=G m/\ax P f=G n/\ax P g=G o/\ax P h=G p:=⟨j.aJ q i,j.c7 r s t u v x y z A B C D E F⟩
theorem H.frozen{a:aw}(b:H a i P){p:Addr}(c:p.block<x i.heap)(d:p.block∉a):P.frozen? p=i.frozen? p:=World.frozen?_of_block (w:=i)<|b.block p.block c d
inductive D where|int(n:Int)|bool(b:Bool)|str(s:ByteArray)|qV(a:az)(n c:Nat)|arr(ch:Nat)(bD:List (List D))
abbrev cq:=List D
mutual def a6(c:aw)(d:a5):D->ay->Prop|.int a,b=>b=C B a|.bool a,b=>b= .bool a|.str a,b=>b= .string a|.qV a b e,f=>f=q a b e|.arr g a,f=>∃e b,f=q e (j a) b/\j a<=b/\b<=9223372036854775807/\(j a≠0->∃b f,e=G ⟨b,f,F⟩/\b∉c/\b<x d.heap/\e9 c d g b a f)def e9(b:aw)(c:a5)(a d:Nat):List cq->Nat->Prop|[],_=>True|e::g,f=>j e=a/\fp b c d e f/\e9 b c a d g (f+a)def fp(b:aw)(a:a5)(c:Nat):cq->Nat->Prop|[],_=>True|f::g,d=>(∃e,ax a ⟨c,d,F⟩=G e/\a6 b a f e)/\fp b a c g (d+1)end
mutual theorem a6.o7{a0 i:aw}{A h:a5}(j:∀d,d<x A.heap->d∉a0->h.heap[d]?=A.heap[d]?/\d∉i/\d<x h.heap):∀(k:D)(l:ay),a6 a0 A k l->a6 i h k l|.int _,_,d=>d|.bool _,_,d=>d|.str _,_,d=>d|.qV _ _ _,_,d=>d|.arr y z,w,d=>by simp only[a6]at d⊢;obtain⟨w,B,C,E,F,G⟩:=d;refine⟨w,B,C,E,F,λB=>?_⟩;obtain⟨d,w,C,E,F,H⟩:=G B;obtain⟨B,G,I⟩:=j d F E;exact⟨d,w,C,G,I,e9.o7 j y d B z w H⟩theorem e9.o7{a0 m:aw}{A e:a5}(n:∀d,d<x A.heap->d∉a0->e.heap[d]?=A.heap[d]?/\d∉m/\d<x e.heap)(f b:Nat)(o:e.heap[b]?=A.heap[b]?):∀(p:List cq)(q:Nat),e9 a0 A f b p q->e9 m e f b p q|[],_,d=>d|y::z,w,d=>by simp only[e9]at d⊢;exact⟨d.1,fp.o7 n b o y w d.2.1,e9.o7 n f b o z (w+f) d.2.2⟩theorem fp.o7{a0 r:aw}{A g:a5}(s:∀d,d<x A.heap->d∉a0->g.heap[d]?=A.heap[d]?/\d∉r/\d<x g.heap)(c:Nat)(t:g.heap[c]?=A.heap[c]?):∀(u:cq)(v:Nat),fp a0 A c u v->fp r g c u v|[],_,b=>b|f::g,b,d=>by simp only[fp]at d⊢;obtain⟨⟨e,h,i⟩,j⟩:=d;exact⟨⟨e,(zb (a:=⟨c,b,none⟩) t).trans h,a6.o7 s f e i⟩,fp.o7 s c t g (b+1) j⟩end
section
variable{a0:aw}{A bN:a5}{d:D}{v:ay}
def a6.a9{cY:aw}(g:a6 a0 A d v)(b:H cY A bN)(h:∀a,a∈cY->a∈a0\/x A.heap<=a):a6 a0 bN d v:=a6.o7 (λa c e=>⟨b.block a c (λi=>by rcases h a i with f|f;(.exact e f);.omega),e,dF c b.size⟩) d v g
def a6.I(a:a6 a0 A d v)(b:H [] A bN):a6 a0 bN d v:=a.a9 b λ_ c=>by cases c
def a6.sub{bz:aw}(b:a6 a0 A d v)(c:∀a,a∈bz->a∈a0\/x A.heap<=a):a6 bz A d v:=a6.o7 (λe f g=>⟨u,λh=>by rcases c e h with a|a;(.exact g a);.omega,f⟩) d v b
theorem a6.alloc(b:a6 a0 A d v)(a:Obj):a6 a0 (aY A a) d v:=b.I<|(H.refl _ _).alloc a
theorem a6.drew(a:a6 a0 A d v):a6 a0 (eg A) d v:=a.I (H.refl _ _).drew
theorem a6.drewN(b:a6 a0 A d v)(a:Nat):a6 a0 (gg A a) d v:=b.I<|(H.refl _ _).drewN a
theorem a6.setCell(b:a6 a0 A d v){p:Addr}(c:p.block∈a0)(a:ay):a6 a0 (bX A p a) d v:=b.a9 (cY:=[p.block]) ((H.refl _ _).setCell (aM (by simp)) a) λf e=>by rcases kG.1 e with rfl;exact aM c
def a6.cons(a:a6 a0 A d v){g:Nat}(b:x A.heap<=g):a6 (g::a0) A d v:=a.sub λf c=>by rcases ek.1 c with rfl|e;(.exact bj b);.exact aM e
def a6.tail{g:Nat}(a:a6 (g::a0) A d v):a6 a0 A d v:=a.sub λa a=>aM<|gb _ a
theorem a6.grown{a:Option Nat}(c:a6 a0 A d v)(e:A.grownBy bN a)(f:∀b,a=G b->b∈a0\/x A.heap<=b):a6 a0 bN d v:=c.a9 (cY:=a.toList) ((H.refl _ _).grown e λa a=>aM (by simp[a])) λa b=>f a (by simpa using b)
end
theorem e9.dA:∀{a:List cq}{b:Nat},e9 w i e J a b->∀(av:Nat)(c:av<j a),a[av].length=e/\fp w i J a[av] (b+av*e)|[],_,_,b,a=>by simp at a|b::c,d,a,0,_=>by simp only[e9]at a;exact⟨a.1,by simpa using a.2.1⟩|f::g,b,c,a+1,d=>by simp only[e9]at c;have:=e9.dA c.2.2 a (by simpa using d);refine⟨this.1,?_⟩;rw[show b+(a+1)*e=b+e+a*e by rw[s5];omega];exact this.2
def a6.cv{a:List cq}(c:a6 w i (.arr e a) K):∃d b,K=q d (j a) b/\j a<=b/\b<=9223372036854775807:=by
 simp only[a6]at c;obtain⟨a,b,d,e,f,_⟩:=c;exact⟨a,b,d,e,f⟩
variable{R:az}
theorem a6.dA{a:List cq}(c:a6 w i (.arr e a) (q R J Q)){av:Nat}(f:av<j a):∃b d,R=G ⟨b,d,F⟩/\b∉w/\b<x i.heap/\a[av].length=e/\fp w i b a[av] (d+av*e):=by
 simp only[a6]at c;obtain⟨l,m,g,n,o,h⟩:=c;injection g with k p r;obtain⟨a,b,c,d,e,g⟩:=h (by omega);obtain⟨h,i⟩:=g.dA av f;exact⟨a,b,k.trans c,d,e,h,i⟩
theorem a6.nil(c:aw)(d:a5)(e:Nat)(b:az)(a:Nat)(f:a<=9223372036854775807):a6 c d (.arr e []) (q b 0 a):=by
 simp only[a6];exact⟨b,a,u,by simp,f,λa=>absurd u a⟩
def b6(a:ab):List cq:=a.map λa=>[.int a]
def aI(a:ab):D:= .arr 1<|b6 a
theorem cP(a:ab):j (b6 a)=j a:=by simp[b6]
theorem bF{cH:ab}(c:a6 w i (aI cH) K):∃b a,K=q b (j cH) a/\j cH<=a/\a<=9223372036854775807:=by
 obtain⟨d,e,a,b,f⟩:=a6.cv c;rw[cP]at a b;exact⟨d,e,a,b,f⟩
variable{L:ab}
theorem bY{A:a5}(d:a6 w A (aI L) (q R e J)){av:Nat}(f:av<j L):∃a b,R=G ⟨a,b,F⟩/\a∉w/\a<x A.heap/\ax A ⟨a,b+av,F⟩=G (C B L[av]):=by
 obtain⟨g,h,k,l,m,_,c⟩:=a6.dA d (av:=av) (by simpa[b6]using f);refine⟨g,h,k,l,m,?_⟩;simp only[b6,kc,fp,a6,zc]at c;obtain⟨⟨o,n,rfl⟩,_⟩:=c;exact n
def cw(a:aw)(b:a5):cq->de->Prop|[],[]=>True|c::d,e::f=>a6 a b c e/\cw a b d f|_,_=>False
theorem cw.map{a:aw}(b:∀c d,a6 w i c d->a6 a P c d):∀{c:cq}{d:de},cw w i c d->cw a P c d|[],[],_=>trivial|_::_,_::_,a=>⟨b _ _ a.1,cw.map b a.2⟩|[],_::_,a=>a.elim|_::_,[],a=>a.elim
theorem cw.app:∀{a b:cq}{c d:de},cw w i a c->cw w i b d->cw w i (a++b) (c++d)|[],_,[],_,_,a=>a|_::_,_,_::_,_,a,b=>⟨a.1,cw.app a.2 b⟩|[],_,_::_,_,a,_=>a.elim|_::_,_,[],_,a,_=>a.elim
theorem cw.length:∀{a:cq}{b:de},cw w i a b->j a=j b|[],[],_=>rfl|_::_,_::_,a=>by simp[cw.length a.2]|[],_::_,a=>a.elim|_::_,[],a=>a.elim
theorem cw.one:∀{d:cq}{c:de},cw w i d c->∀e∈c,e.oneCell'=true|[],[],_=>by simp|f::_,n::_,a=>by intro b g;rcases ek.1 g with rfl|h;(.cases f with|int j=>have k:b=C B j:=a.1;subst k;rfl|bool j=>have k:b= .bool j:=a.1;subst k;rfl|str j=>have k:b= .string j:=a.1;subst k;rfl|qV j k l=>have m:b=q j k l:=a.1;subst m;rfl|arr k l=>obtain⟨m,o,j,_⟩:=a6.cv a.1;subst j;rfl);.exact cw.one a.2 b h|[],_::_,a=>a.elim|_::_,[],a=>a.elim
theorem fp.of_cells:∀{a:cq}{e1:de}{b:Nat},cw w i a e1->(∀c d,e1[c]?=G d->ax i ⟨e,b+c,F⟩=G d)->fp w i e a b|[],[],_,_,_=>by simp only[fp]|e::f,a::g,b,c,d=>by simp only[fp];exact⟨⟨a,by simpa using d 0 a (by simp),c.1⟩,fp.of_cells c.2 λa c e=>by have:=d (a+1) c (by simpa using e);rwa [show b+(a+1)=b+1+a by omega]at this⟩|[],_::_,_,a,_=>a.elim|_::_,[],_,a,_=>a.elim
theorem cw.split:∀{c1 a:cq}{b:de},cw w i (c1++a) b->∃c d,b=c++d/\cw w i c1 c/\cw w i a d|[],_,a,b=>⟨[],a,u,bA,b⟩|b::c,d,[],a=>a.elim|d::b,e,c::f,a=>by obtain⟨d,e,f,g,h⟩:=cw.split (c1:=b) a.2;exact⟨c::d,e,by rw[f];rfl,⟨a.1,g⟩,h⟩
theorem e9.of_cells:∀{bD:List cq}{e1:de}{c:Nat},(∀p∈bD,j p=e)->cw w i bD.flatten e1->(∀d f,e1[d]?=G f->ax i ⟨J,c+d,F⟩=G f)->e9 w i e J bD c|[],_,_,_,_,_=>by simp only[e9]|g::u,v,h,k,r,l=>by simp only[e9];have q:=k g (by simp);obtain⟨m,x,rfl,n,s⟩:=cw.split (c1:=g) (by simpa using r);have y:=n.length;refine⟨q,fp.of_cells n λo t a=>l o t (by rw[tk];exact a;rcases la o (j m)with b|b;exact b;rw[List.getElem?_eq_none b]at a;cases a),e9.of_cells (λa b=>k a (by simp[b])) s λa b c=>?_⟩;have:=l (e+a) b (by rw[v4 (by omega),show e+a - j m=a by omega];exact c);rwa [show h+(e+a)=h+e+a by omega]at this
theorem fp.cells:∀{b:cq}{c:Nat},fp w i e b c->∃d,cw w i b d/\∀f g,d[f]?=G g->ax i ⟨e,c+f,F⟩=G g|[],_,_=>⟨[],bA,by simp⟩|t::u,h,k=>by simp only[fp]at k;obtain⟨⟨j,l,m⟩,n⟩:=k;obtain⟨o,p,q⟩:=fp.cells n;refine⟨j::o,⟨m,p⟩,λr s a=>?_⟩;cases r with|zero=>simp at a;subst a;simpa using l|succ b=>rw[show h+(b+1)=h+1+b by omega];exact q b s (by simpa using a)
theorem e9.cells:∀{a:List cq}{c:Nat},e9 w i e J a c->∃b,cw w i a.flatten b/\j b=j a*e/\∀a d,b[a]?=G d->ax i ⟨J,c+a,F⟩=G d|[],_,_=>⟨[],bA,by simp,by simp⟩|b::c,f,a=>by simp only[e9]at a;obtain⟨b,c,d⟩:=a;obtain⟨b,a,h⟩:=fp.cells c;obtain⟨c,g,i,k⟩:=e9.cells d;have d:=a.length;refine⟨b++c,by rw[lG];exact a.app g,by simp[i,s5];omega,λa g c=>?_⟩;rcases la a (j b)with d|d;(.exact h a g (by rwa [tk d]at c));.rw[v4 d]at c;have:=k _ g c;rwa [show f+e+(a - j b)=f+a by omega]at this
def aF(a:ay):aw:=a.ownBlock.toList
theorem a6.aF{a:D}(c:a6 w i a K)(d:H [] i P)(e:∀b,b∈aF S->x i.heap<=b):a6 (aF S++w) P a K:=(c.sub (bz:=Go.Proofs.YtfekcilkpafpjaaGreat.aF S++w) λa b=>(cI.1 b).elim (λb=>bj<|e a b) .inl).I d
structure aU(a0:aw)(b9:Nat)(A:a5)(E:bJ)(ch:Nat)(v:ay)(bD:List cq):Prop where
 cQ:∃cs,A.ownsRow b9 E ch v (j bD) cs/\cw (aF v++a0) A bD.flatten cs
 size:∀cT∈bD,j cT=ch
 e4:∀g,g∈aF v->g∉a0
variable{T:bJ}
def aU.bt{c:List cq}(f:aU w e i T J K c):a6 w i (.arr J c) K:=by
 obtain⟨⟨h,d,j⟩,k,l⟩:=f;simp only[a6];have m:cw w i c.flatten h:=j.map λs t n=>n.sub λv o=>aM<|gQ _ o;rcases d.2 with⟨rfl,a⟩|⟨b,p,x,rfl,y,q,a,r,z,A⟩;.exact⟨F,0,by rw[a],by omega,by omega,λc=>absurd a c⟩
 .refine⟨G ⟨b,0,F⟩,p,u,a,by simp only[maxLen]at r;omega,λ_=>⟨b,0,u,l b (by simp[aF,Value.ownBlock]),(fq.1 q).1,?_⟩⟩;refine e9.of_cells k m λa c e=>?_;have:=d.cells (g:=b) u a c e;rwa [pY]at this
theorem aU.cv{a:List cq}(b:aU w e i T J K a):∃c d,K=q c (j a) d:=by
 obtain⟨a,c,d,_⟩:=a6.cv b.bt;exact⟨a,c,d⟩
theorem aU.lt{a0:aw}{a:List cq}(b:aU a0 e i T J K a):∀a,a∈aF K->e<=a/\a<x i.heap:=by
 obtain⟨⟨c,a,_⟩,_,_⟩:=b;intro b c;exact a.lt b (by simpa[aF]using c)
theorem aU.a9{a0:aw}{A:a5}{b:List cq}{cY:aw}(d:aU a0 e A T J K b)(f:H cY A i)(g:∀c,c∈cY->c∈a0\/x A.heap<=c):aU a0 e i T J K b:=by
 have h:=d.lt;obtain⟨⟨n,k,o⟩,p,l⟩:=d;refine⟨⟨n,⟨k.1,?_⟩,o.map λC D r=>r.a9 f λs t=>(g s t).imp (gQ _) id⟩,p,l⟩;rcases k.2 with v|⟨a,m,w,rfl,y,z,B⟩;.exact aM v
 .refine bj ⟨a,m,w,u,y,?_,B⟩;(have c:a∈aF (q (G ⟨a,0,F⟩) (j b) m):=by simp[aF,Value.ownBlock]);rw[f.block a (h a c).2 (λd=>by rcases g a d with b|b;(.exact l a c b);.have:=(h a c).2;omega)];exact z
theorem aU.sub{a0 bz:aw}{b:List cq}(c:aU a0 e i T J K b)(d:∀a,a∈bz->a∈a0\/x i.heap<=a):aU bz e i T J K b:=by
 have f:=c.lt;obtain⟨⟨a,b,e⟩,g,h⟩:=c;refine⟨⟨a,b,e.map λa a a=>a.sub λa b=>(cI.1 b).elim (λb=>aM<|hA _ b) (λb=>(d a b).imp (gQ _) id)⟩,g,λa b g=>?_⟩;rcases d a g with e|e;.exact h a b e
 .have:=(f a b).2;omega
def aU.tail{g:Nat}{a:List cq}(b:aU (g::w) e i T J K a):aU w e i T J K a:=b.sub λ_ a=>aM<|gb _ a
theorem aU.dH{oU:Nat}{a:List cq}(b:aU w e i T J K a)(c:oU<=e):aU w oU i T J K a:=by
 obtain⟨⟨d,a,e⟩,f,g⟩:=b;refine⟨⟨d,⟨a.1,a.2.imp id ?_⟩,e⟩,f,g⟩;rintro⟨a,b,d,e,f,g⟩;exact⟨a,b,d,e,fB c f,g⟩
def aU.I{A:a5}{a:List cq}(b:aU w e A T J K a)(c:H [] A i):aU w e i T J K a:=b.a9 c λ_ d=>by cases d
theorem aU.alloc{a:List cq}(c:aU w e i T J K a)(b:Obj):aU w e (aY i b) T J K a:=c.I<|(H.refl _ _).alloc b
theorem aU.nil(e:aw)(a:Nat)(b:a5)(c:bJ)(d:Nat):aU e a b c d (q F 0 0) []:=⟨⟨[],World.ownsRow_nil b a c d,bA⟩,by simp,by simp[aF,Value.ownBlock]⟩
theorem aU.made(a0:aw)(b:Nat)(a:a5)(c:bJ)(e:Nat)(f:b<=x a.heap)(g:∀d,d∈a0->d<x a.heap):aU a0 b (aY a<|au #[] c) c e (q (G ⟨x a.heap,0,F⟩) 0 0) []:=⟨⟨[],World.ownsRow_made a #[] 0 f (by simp[maxLen]) (by simp),bA⟩,by simp,λa b c=>by have:=g a c;simp[aF,Value.ownBlock]at b;omega⟩
structure mg(a0:aw)(v g6:ay)(A bN:a5):Prop where
 a9:H (aF v) A bN
 bt:∀d c,a6 (aF v++a0) A d c->a6 (aF g6++a0) bN d c
 dA:g6.ownBlock=v.ownBlock\/g6.ownBlock=G (x A.heap)
section
variable{bG:Program}
def Hw(c:aw)(h:Nat)(a:a5)(i o f:bJ)(p:ay)(e r:Nat)(k:bG.underlying i=G (.slice f))(W:(bG.info? f).map (λs=>(s.zero,s.size,s.bytes))=G (G p,e,r))(X:p.cells.size=e)(Y:0<e)(b:ay)(g:List cq)(L:aU c h a f e b g)(M:ay)(d:List cq)(t:a6 (aF b++c) a (.arr e d) M)(Z:∀a1∈d,j a1=e)(a2:(j g+j d)*r<=140737488355328)(ai:j g+j d<=140737488355328)(a3:h<=x a.heap)(a4:∀N,N∈c->N<x a.heap):∃v y,(Builtin.append_ #[i,i] o #[b,M]).run bG a= .ok v y/\aU c h y f e v (g++d)/\mg c b v a y:=by
 obtain⟨a7,l,a8,a9,aa⟩:=oV W;have aj:=L.lt;obtain⟨⟨z,B,ab⟩,ad,ae⟩:=L;obtain⟨C,m,af,ak,al⟩:=a6.cv t;subst af;have O:∀D Q,a.grownBy Q b.ownBlock->(D.ownBlock=b.ownBlock\/D.ownBlock=G (x a.heap))->mg c b D a Q:=by intro S n n R;refine⟨(H.refl _ _).grown n λE E=>aM (by simp[aF,E]),λE I J=>?_,R⟩;have T:=J.grown n λK K=>aM<|hA _ (by simp[aF,K]);rcases R with K|K;(.rw[show aF S=aF b by simp[aF,K]];exact T);.have R:a6 c a E I:=J.sub λS S=>aM<|gQ _ S;have S:a6 (x a.heap::c) a E I:=R.cons<|cF _;refine a6.o7 (a0:=aF b++c) (A:=a) (λT R S=>⟨n.block T R (λT=>S<|hA _ (by simp[aF,<-T])),?_,dF R n.size⟩) E I J;intro E;rcases cI.1 E with n|n;(.simp[aF,K]at n;omega);.exact S<|gQ _ n
 have K:∀n E R,cw (aF b++c) a d.flatten R->E.ownsRow h f e n (j g+j d) (z++R)->mg c b n a E->aU c h E f e n (g++d):=by intro I I J S T I;refine⟨⟨z++J,by rw[eV];exact T,by rw[Hx];exact(ab.map I.bt).app<|S.map I.bt⟩,λS ag=>?_,λT U V=>?_⟩;(.rcases cI.1 ag with J|J;(.exact ad S J);.exact Z S J);.rcases I.dA with J|J;(.exact ae T (by rw[aF,<-J];exact U) V);.simp[aF,J]at U;have:=a4 T V;omega
 by_cases I:j d=0;.have S:d=[]:=qW I;subst S;(have T:∃U,(Builtin.append_ #[i,i] o #[b,q C 0 m]).run bG a= .ok b a/\U=m:=by refine⟨m,?_,u⟩;rcases B.2 with⟨rfl,V⟩|⟨ag,ah,am,rfl,_,_,J,_⟩;(.cases C with|none=>simp[Builtin.append_,zd k,sizeOf,typeInfo,l,Builtin.lenOf,Builtin.firstCells]|some an=>simp[Builtin.append_,zd k,sizeOf,typeInfo,l,Builtin.lenOf,Builtin.firstCells,loadCells,loadCellsFrom]);.cases C with|none=>simp[Builtin.append_,zd k,sizeOf,typeInfo,l,Builtin.lenOf,Builtin.firstCells,J,storeCells]|some an=>simp[Builtin.append_,zd k,sizeOf,typeInfo,l,Builtin.lenOf,Builtin.firstCells,J,storeCells,loadCells,loadCellsFrom]);obtain⟨_,S,_⟩:=T;have J:=O b a (World.grownBy.refl a _)<|aM u;exact⟨b,a,by simpa using S,K b a [] bA (by simpa using B) J,J⟩
 .simp only[a6]at t;obtain⟨am,an,J,_,_,S⟩:=t;obtain⟨T,U,V,ao,ap,ag⟩:=S I;injection J with ah aq ar;subst ah V;obtain⟨s,t,v,y⟩:=e9.cells ag;obtain⟨c,n,C,D,E,_,I⟩:=run_append_own_at (P:=bG) a h i o f a7 p e r k l a8 a9 aa X Y b (j g) z B ⟨T,U,F⟩ (j d) m s v (λJ L M=>by rw[pY];exact y J L M) t.one (by simp only[maxLen];omega) a2 a3;have a:=O c n E I;exact⟨c,n,C,K c n s t D a,a⟩
def kd{r:Array Oper}{s:List Oper}{d:Oper}{h:Act}{t:Exit->Act->a5->Prop}(u:d.guard=F)(o p:Operand)(k:bJ)(v:d.op= .call {callee:= .builtin .append,args:= #[o,p],argTypes:= #[k,k]})(b:aw)(l:Nat)(e:bJ)(m:ay)(a n:Nat)(w:bG.underlying k=G (.slice e))(y:(bG.info? e).map (λc=>(c.zero,c.size,c.bytes))=G (G m,a,n))(z:m.cells.size=a)(A:0<a)(f:ay)(g:List cq)(B:h.eval o=f)(C:aU b l i e a f g)(o:ay)(c:List cq)(D:h.eval p=o)(E:a6 (aF f++b) i (.arr a c) o)(H:∀p∈c,j p=a)(I:(j g+j c)*n<=140737488355328)(J:j g+j c<=140737488355328)(K:l<=x i.heap)(L:∀p,p∈b->p<x i.heap)(M:∀p q,aU b l q e a p (g++c)->mg b f p i q->wpList bG r t s (h.put d.dst p) q):wpList bG r t (d::s) h i:=by
 refine wpList_plain u λh h=>?_;obtain⟨p,q,r,s,t⟩:=Hw (bG:=bG) b l i k d.type e m a n w y z A f g C o c E H I J K L;unfold Oper.wp execOp;simp only[v,resolve,invoke,builtin,Sem.run_bind,Sem.run_pure,Hy,Hz,h0,mh,B,D,r];exact h _ _<|M p q s t
def step_append{r:Array Oper}{b:Oper}{c:Act}{s:Act->a5->Prop}{t:Exit->Act->a5->Prop}{u:Prop}(v:b.guard=F)(o p:Operand)(k:bJ)(w:b.op= .call {callee:= .builtin .append,args:= #[o,p],argTypes:= #[k,k]})(d:aw)(l:Nat)(f:bJ)(m:ay)(a n:Nat)(y:bG.underlying k=G (.slice f))(z:(bG.info? f).map (λe=>(e.zero,e.size,e.bytes))=G (G m,a,n))(A:m.cells.size=a)(B:0<a)(g:ay)(h:List cq)(C:c.eval o=g)(D:aU d l i f a g h)(o:ay)(e:List cq)(E:c.eval p=o)(H:a6 (aF g++d) i (.arr a e) o)(I:∀p∈e,j p=a)(J:(j h+j e)*n<=140737488355328)(K:j h+j e<=140737488355328)(L:l<=x i.heap)(M:∀p,p∈d->p<x i.heap)(N:∀p q,aU d l q f a p (h++e)->mg d g p i q->s (c.put b.dst p) q):if Region.wanted b (yielded r c.tmps)=true then Oper.wp bG b c i s t else u:=by
 have p:Region.wanted b (yielded r c.tmps)=true:=by simp[Region.wanted,v]
 rw[bB p];obtain⟨c,p,q,r,s⟩:=Hw (bG:=bG) d l i k b.type f m a n y z A B g h D o e H I J K L M;unfold Oper.wp execOp;simp only[w,resolve,invoke,builtin,Sem.run_bind,Sem.run_pure,Hy,Hz,h0,mh,C,E,q];exact N c p r s
end
def a6.new{a0:aw}{A:a5}{ch:Nat}{bD:List cq}{cs:Array ay}{E:bJ}(b:∀a∈bD,j a=ch)(c:cw a0 A bD.flatten cs.toList)(d:∀a,a∈a0->a<x A.heap)(e:j bD<=9223372036854775807):a6 a0 (aY A<|au cs E) (.arr ch bD) (q (G ⟨x A.heap,0,F⟩) (j bD)<|j bD):=by
 simp only[a6];refine⟨_,_,u,cF _,e,λ_=>⟨x A.heap,0,u,λa=>by have:=d _ a;omega,by simp,?_⟩⟩;refine e9.of_cells (e1:=cs.toList) b (c.map λa a a=>a.alloc _) λa a a=>?_;rw[gF,HA];simpa using a
def qX{a:List cq}(c:aU w e i T J K a)(d:∀a,a∈w->a<x i.heap):∀a,a∈aF K++w->a<x i.heap:=λb e=>by rcases cI.1 e with a|a;(.exact(c.lt b a).2);.exact d b a
end Go.Proofs.YtfekcilkpafpjaaGreat
