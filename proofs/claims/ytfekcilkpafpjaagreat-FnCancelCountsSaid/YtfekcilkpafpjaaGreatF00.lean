/- A part. -/
import Derived.BigQuiet
import Derived.Deep.OwnRows
import Derived.Deep.RegionLaw
import Derived.Lib.Hide
import Derived.Lib.QuietBelow
import Derived.Test.YtfekcilkpafpjaaGreatProg
import Derived.WalkLawsBesides
import Derived.WalkSpells
open Array renaming size->x
open Go.Calls renaming mono->ab
open Go.Ending renaming returned->bd
open Go.IntKind renaming i64->B
open Go.Obj renaming cells->au
open Go.Value renaming int->C,pointer->c8,slice->q
open Go.World renaming cell?->ax,drew->ed,drewN->g4,alloc->aX,setCell->bZ
open List renaming length->j
open Option renaming none->G,some->H
open Or renaming inl->aN,inr->bk
namespace Go.Proofs.YtfekcilkpafpjaaGreat
open Go.RowKit
open Tryz
set_option maxRecDepth 100000
set_option maxHeartbeats 25600000
set_option linter.all false
variable{M W:Int}{J Q e:Nat}
abbrev az:=Option Addr
abbrev ad:=List Int
abbrev aw:=List Nat
abbrev dd:=List Value
abbrev a5:=World
abbrev ay:=Value
abbrev bJ:=TypeId
abbrev pE:=@Addr.add_lit
abbrev Mh:=@AllReady.cons
abbrev YC:=@Array.getElem?_append_left
abbrev NE:=@Array.getElem?_eq_getElem
abbrev f4:=@Array.getElem?_eq_some_iff
abbrev D6:=@Array.getElem?_modify
abbrev Nk:=@Array.replicate_succ
abbrev Nl:=@Array.replicate_zero
abbrev Ov:=@Array.setIfInBounds_comm
abbrev pC:=@Below.heap_alloc
abbrev GX:=@Below.heap_setCell
abbrev yB:=@Below.refl
abbrev CP:=@Bool.and_eq_false_iff
abbrev fF:=@Bool.and_eq_true
abbrev Hs:=@Bool.and_true
abbrev Kz:=@Bool.eq_false_or_eq_true
abbrev wT:=@Bool.eq_iff_iff
abbrev HW:=@Bool.false_eq_true
abbrev CO:=@Bool.not_eq_true'
abbrev OY:=@Classical.byContradiction
abbrev dA:=@Int.eq_ofNat_of_zero_le
abbrev Qm:=@Int.tdiv_eq_ediv_of_nonneg
abbrev kF:=@Int.toNat_natCast
abbrev fl:=@IntWalk.i64_in
abbrev r7:=@Lib.run_eql_slice_nil
abbrev Hu:=@List.all_append
abbrev hG:=@List.all_eq_true
abbrev Jv:=@List.any_eq_true
abbrev q5:=@List.append_assoc
abbrev pN:=@List.append_nil
abbrev Nn:=@List.append_toArray
abbrev jo:=@List.cons_append
abbrev v6:=@List.countP_cons
abbrev jK:=@List.drop_eq_getElem_cons
abbrev M8:=@List.drop_eq_nil_of_le
abbrev ll:=@List.drop_length
abbrev rX:=@List.drop_of_length_le
abbrev Jt:=@List.drop_succ_cons
abbrev L4:=@List.drop_zero
abbrev qI:=@List.eq_nil_of_length_eq_zero
abbrev RD:=@List.eraseIdx_append_of_lt_length
abbrev K2:=@List.eraseIdx_cons_succ
abbrev K3:=@List.eraseIdx_cons_zero
abbrev z2:=@List.ext_getElem
abbrev wN:=@List.find?_eq_none
abbrev He:=@List.find?_some
abbrev zR:=@List.flatMap_append
abbrev H0:=@List.flatten_append
abbrev lB:=@List.flatten_cons
abbrev zQ:=@List.foldl_append
abbrev tk:=@List.foldl_cons
abbrev Ht:=@List.getD_cons_zero
abbrev h4:=@List.getD_eq_getElem?_getD
abbrev td:=@List.getElem?_append_left
abbrev uS:=@List.getElem?_append_right
abbrev hu:=@List.getElem?_eq_getElem
abbrev tL:=@List.getElem?_eq_some_iff
abbrev x8:=@List.getElem?_map
abbrev ob:=@List.getElem?_set_ne
abbrev vq:=@List.getElem?_set_self
abbrev Ix:=@List.getElem_append_left
abbrev TA:=@List.getElem_append_right
abbrev jL:=@List.getElem_cons_succ
abbrev kH:=@List.getElem_cons_zero
abbrev k7:=@List.getElem_map
abbrev dM:=@List.getElem_mem
abbrev md:=@List.getElem_of_mem
abbrev LM:=@List.getElem_set
abbrev Fm:=@List.getElem_set_self
abbrev B2:=@List.getElem_take
abbrev vL:=@List.getElem_toArray
abbrev eR:=@List.length_append
abbrev gv:=@List.length_cons
abbrev fy:=@List.length_map
abbrev jO:=@List.length_nil
abbrev vx:=@List.length_replicate
abbrev kn:=@List.length_set
abbrev CD:=@List.length_take
abbrev fz:=@List.map_append
abbrev ha:=@List.map_cons
abbrev Fu:=@List.map_drop
abbrev mb:=@List.map_nil
abbrev qo:=@List.map_set
abbrev Ft:=@List.map_take
abbrev H2:=@List.map_toArray
abbrev cK:=@List.mem_append
abbrev hs:=@List.mem_append_left
abbrev gO:=@List.mem_append_right
abbrev eu:=@List.mem_cons
abbrev hF:=@List.mem_cons_of_mem
abbrev iV:=@List.mem_map
abbrev Hd:=@List.mem_of_find?_eq_some
abbrev s1:=@List.mem_of_getElem?
abbrev xB:=@List.mem_or_eq_of_mem_set
abbrev gF:=@List.mem_range
abbrev kC:=@List.mem_singleton
abbrev iA:=@List.nil_append
abbrev Nm:=@List.push_toArray
abbrev th:=@List.range_succ
abbrev JI:=@List.setIfInBounds_toArray
abbrev fW:=@List.set_cons_succ
abbrev el:=@List.set_cons_zero
abbrev eF:=@List.size_toArray
abbrev Nj:=@List.sum_cons
abbrev C7:=@List.tail_cons
abbrev Cl:=@List.take_append_drop
abbrev xX:=@List.take_length
abbrev jW:=@List.take_of_length_le
abbrev jU:=@List.take_succ_cons
abbrev Dz:=@Nat.add_assoc
abbrev tp:=@Nat.add_mul
abbrev rT:=@Nat.add_sub_cancel
abbrev EA:=@Nat.add_zero
abbrev kj:=@Nat.eq_zero_or_pos
abbrev zo:=@Nat.le_refl
abbrev cA:=@Nat.le_trans
abbrev ft:=@Nat.lt_of_lt_of_le
abbrev dE:=@Nat.lt_or_ge
abbrev l5:=@Nat.lt_succ_self
abbrev jM:=@Nat.mul_le_mul_right
abbrev xp:=@Nat.mul_one
abbrev yT:=@Nat.zero_add
abbrev gr:=@Nat.zero_le
abbrev eh:=@Nat.zero_mul
abbrev y6:=@Option.getD_some
abbrev wV:=@Option.map_eq_some_iff
abbrev Cx:=@Option.map_some
abbrev Co:=@Option.some.inj
abbrev FW:=@Option.toList_some
abbrev JH:=@Result.andThen_ok
abbrev H1:=@Tryz.func110
abbrev G2:=@Tryz.func111
abbrev Gy:=@Tryz.func123
abbrev DI:=@Tryz.func152
abbrev Bw:=@Tryz.func159
abbrev Dx:=@Tryz.func179
abbrev Ey:=@Tryz.func257
abbrev Gk:=@Tryz.func34
abbrev D7:=@Tryz.ntmps110
abbrev G3:=@Tryz.ntmps111
abbrev Gz:=@Tryz.ntmps123
abbrev DJ:=@Tryz.ntmps152
abbrev Jb:=@Tryz.ntmps159
abbrev Bx:=@Tryz.ntmps179
abbrev Dy:=@Tryz.ntmps251
abbrev Ez:=@Tryz.ntmps252
abbrev MW:=@Tryz.ntmps257
abbrev Iv:=@Tryz.ntmps34
abbrev IA:=@Tryz.underlying153
abbrev Gl:=@Tryz.underlying163
abbrev D8:=@Tryz.underlying221
abbrev pV:=@Tryz.underlying23
abbrev w2:=@Tryz.underlying24
abbrev rO:=@Tryz.underlying3
abbrev vy:=@Tryz.underlying34
abbrev sy:=@Tryz.underlying36
abbrev sc:=@Tryz.underlying45
abbrev eW:=@Tryz.underlying75
abbrev lT:=@Tryz.underlying82
abbrev zW:=@Tryz.underlying98
abbrev Bs:=@World.block_lt_of_cell?
abbrev zi:=@World.cell?_alloc_at
abbrev DQ:=@World.cell?_alloc_new
abbrev yS:=@World.cell?_of_block
abbrev Gm:=@World.cell?_setCells_out
abbrev H3:=@World.size_alloc
abbrev yR:=@World.size_setCell
abbrev Gj:=@beq_eq_false_iff_ne
abbrev he:=@beq_iff_eq
abbrev tM:=@bodyPost_ret
abbrev wX:=@callsIn_wide
abbrev ka:=@cell_of_row
abbrev cm:=@congrArg
abbrev zN:=@decide_eq_false
abbrev ik:=@decide_eq_true
abbrev ru:=@decide_eq_true_eq
abbrev nA:=@frozen_of_row
abbrev mT:=@grownCap_ge
abbrev wW:=@grownCap_le_maxLen
abbrev Je:=@growslice_fits
abbrev BB:=@heap_alloc_new
abbrev BC:=@if_false
abbrev ND:=@if_neg
abbrev dz:=@if_pos
abbrev s2:=@if_true
abbrev bo:=@info_parts
abbrev bG:=@run_copy_cells
abbrev s8:=@run_underlying
abbrev oC:=@wpAny_take
abbrev Gi:=@wpList_make_own
abbrev u:=@rfl
abbrev bu:=@trivial
abbrev ah(a:Int):ay:=C B a
abbrev bl(a b:Nat):Addr:=⟨a,b,G⟩
abbrev aZ(a b:Nat):az:=H ⟨a,b,G⟩
abbrev f3(a b:Nat):ay:=c8<|H ⟨a,b,G⟩
abbrev a1{a:Type}(b:az)(c:List a)(a:Nat):ay:=q b (j c) a
abbrev aW(a:a5)(b c:Nat)(d:ay):Prop:=ax a ⟨b,c,G⟩=H d
abbrev cM(a:a5)(b:Nat):Addr:=⟨x a.heap,b,G⟩
abbrev bR(a:a5)(b:Nat):az:=H ⟨x a.heap,b,G⟩
abbrev d0(a:a5)(b:Nat):ay:=c8<|H ⟨x a.heap,b,G⟩
abbrev bh(a b:a5)(c:Nat)(d:ay):Prop:=ax a ⟨x b.heap,c,G⟩=H d
abbrev k6(a:a5)(b c:Nat):Addr:=⟨x a.heap+b,c,G⟩
abbrev l4(a:a5)(b c:Nat):az:=H ⟨x a.heap+b,c,G⟩
abbrev e7(a:a5)(b c:Nat):ay:=c8<|H ⟨x a.heap+b,c,G⟩
abbrev dn(a b:a5)(c d:Nat)(e:ay):Prop:=ax a ⟨x b.heap+c,d,G⟩=H e
def bX{b:Type}(a:b):∃b,b=a:=⟨a,u⟩
def cP{a b:Bool}(c:a=b):Ending.returned (.bool a)=bd (.bool b):=by rw[c]
def ew{a:IntKind}(b:M=W):Ending.returned (.int a M)=bd (.int a W):=by rw[b]
theorem fE{b:Type}(a:List b)(b:Nat)(c:b<j a):a.take (b+1)=a.take b++[a[b]]:=by rw[List.take_succ_eq_append_getElem c]
structure F(cR:aw)(y bL:a5):Prop where
 os:bL.os=y.os
 tape:bL.tape=y.tape
 output:bL.output=y.output
 size:x y.heap<=x bL.heap
 block:∀k,k<x y.heap->k∉cR->bL.heap[k]?=y.heap[k]?
def F.refl(b:aw)(a:a5):F b a a:=⟨u,u,u,zo _,λ_ _ _=>u⟩
variable{P i:a5}{w:aw}
theorem F.trans{wM:aw}{d:a5}(a:F w i P)(b:F wM P d)(f:∀c,c∈wM->c∈w\/i.heap.size<=c):F w i d:=⟨b.os.trans a.os,b.tape.trans a.tape,b.output.trans a.output,cA a.size b.size,λc d e=>(b.block c (ft d a.size) (λg=>by rcases f c g with b|b;(.exact e b);.omega)).trans<|a.block c d e⟩
def F.then{a:a5}(b:F w i P)(c:F w P a):F w i a:=b.trans c λ_ a=>aN a
def F.aa{a:a5}(b:F w i P)(c:F [] P a):F w i a:=b.trans c λ_ d=>by cases d
def F.mono{c:aw}(a:F w i P)(d:∀b,b∈w->b∈c\/i.heap.size<=b):F c i P:=⟨a.os,a.tape,a.output,a.size,λb c e=>a.block b c (λc=>by rcases d b c with a|a;(.exact e a);.omega)⟩
def F.sub{a:aw}(c:F w i P)(d:∀b,b∈w->b∈a):F a i P:=c.mono λa b=>aN<|d a b
def F.ca{cR:aw}(a:F [] i P):F cR i P:=a.sub λ_ b=>by cases b
def F.drew(a:F w i P):F w i (ed P):=⟨a.os,a.tape,a.output,a.size,a.block⟩
def F.drewN(a:F w i P)(b:Nat):F w i (g4 P b):=⟨a.os,a.tape,a.output,a.size,a.block⟩
theorem F.alloc(a:F w i P)(b:Obj):F w i (aX P b):=a.trans (wM:=[]) ⟨u,u,u,by simp,λe c _=>pC _ _ _ c⟩ λ_ d=>by cases d
theorem F.setCell(a:F w i P){p:Addr}(b:p.block∈w\/i.heap.size<=p.block)(c:ay):F w i (bZ P p c):=a.trans (wM:=[p.block]) ⟨u,u,u,by simp[World.setCell],λg _ d=>GX _ _ _ _ (λe=>d (by simp[e]))⟩ λh f=>by rcases kC.1 f with rfl;exact b
def F.below(a:F w i P)(b:e<=i.heap.size)(c:∀b,b∈w->e<=b):Below e i P:=⟨a.os,a.tape,a.output,a.size,λb d=>a.block b (by omega) (λa=>by have:=c b a;omega)⟩
def F.GY(a:F [] i P):Below i.heap.size i P:=a.below (zo _) λ_ b=>by cases b
def F.of_below(a:Below i.heap.size i P):F [] i P:=⟨a.os,a.tape,a.output,a.size,λb c _=>a.block b c⟩
def F.grown{d:a5}{b:Option Nat}(e:F w i P)(a:P.grownBy d b)(f:∀c,b=H c->c∈w\/i.heap.size<=c):F w i d:=e.trans (wM:=b.toList) ⟨a.os,a.tape,a.output,a.size,λb c d=>a.block b c (λa=>d (by simp[<-a]))⟩ λa b=>f a (by simpa using b)
def F.cell{a:aw}(b:F a i P){p:Addr}(c:p.block<x i.heap)(d:p.block∉a):ax P p=ax i p:=yS (w:=i)<|b.block p.block c d
def F.aJ{cR:aw}{y:a5}(b:F cR y i){p:Addr}{v:ay}(a:ax y p=H v)(c:p.block∉cR):ax i p=H v:=(b.cell (Bs y p a) c).trans a
variable{K S:ay}
def F.gD(c:F w i P){a b:Addr}(d:ax i a=H K)(e:ax i b=H S)(f:a.block∉w:=by simp)(g:b.block∉w:=by simp):ax P a=H K/\ax P b=H S:=⟨c.aJ d f,c.aJ e g⟩
def F.e1(d:F w i P){a b c:Addr}{e:ay}(f:ax i a=H K)(g:ax i b=H S)(h:ax i c=H e)(i:a.block∉w:=by simp)(j:b.block∉w:=by simp)(k:c.block∉w:=by simp):ax P a=H K/\ax P b=H S/\ax P c=H e:=⟨d.aJ f i,d.gD g h j k⟩
def F.ex(e:F w i P){a b c d:Addr}{f g:ay}(h:ax i a=H K)(j:ax i b=H S)(k:ax i c=H f)(l:ax i d=H g)(i:a.block∉w:=by simp)(m:b.block∉w:=by simp)(n:c.block∉w:=by simp)(o:d.block∉w:=by simp):ax P a=H K/\ax P b=H S/\ax P c=H f/\ax P d=H g:=⟨e.aJ h i,e.e1 j k l m n o⟩
def F.ey(f:F w i P){a b c d e:Addr}{g h j:ay}(k:ax i a=H K)(l:ax i b=H S)(m:ax i c=H g)(n:ax i d=H h)(o:ax i e=H j)(i:a.block∉w:=by simp)(p:b.block∉w:=by simp)(q:c.block∉w:=by simp)(r:d.block∉w:=by simp)(s:e.block∉w:=by simp):ax P a=H K/\ax P b=H S/\ax P c=H g/\ax P d=H h/\ax P e=H j:=⟨f.aJ k i,f.ex l m n o p q r s⟩
def F.fu(g:F w i P){a b c d e f:Addr}{h j k l:ay}(m:ax i a=H K)(n:ax i b=H S)(o:ax i c=H h)(p:ax i d=H j)(q:ax i e=H k)(r:ax i f=H l)(i:a.block∉w:=by simp)(s:b.block∉w:=by simp)(t:c.block∉w:=by simp)(u:d.block∉w:=by simp)(v:e.block∉w:=by simp)(x:f.block∉w:=by simp):ax P a=H K/\ax P b=H S/\ax P c=H h/\ax P d=H j/\ax P e=H k/\ax P f=H l:=⟨g.aJ m i,g.ey n o p q r s t u v x⟩
def F.c7(h:F w i P){a b c d e f g:Addr}{j k l m n:ay}(o:ax i a=H K)(p:ax i b=H S)(q:ax i c=H j)(r:ax i d=H k)(s:ax i e=H l)(t:ax i f=H m)(u:ax i g=H n)(i:a.block∉w:=by simp)(v:b.block∉w:=by simp)(x:c.block∉w:=by simp)(y:d.block∉w:=by simp)(z:e.block∉w:=by simp)(A:f.block∉w:=by simp)(B:g.block∉w:=by simp):ax P a=H K/\ax P b=H S/\ax P c=H j/\ax P d=H k/\ax P e=H l/\ax P f=H m/\ax P g=H n:=⟨h.aJ o i,h.fu p q r s t u v x y z A B⟩
def F.iR(j:F w i P){a b c d e f g h:Addr}{k l m n o p:ay}(q:ax i a=H K)(r:ax i b=H S)(s:ax i c=H k)(t:ax i d=H l)(u:ax i e=H m)(v:ax i f=H n)(x:ax i g=H o)(y:ax i h=H p)(i:a.block∉w:=by simp)(z:b.block∉w:=by simp)(A:c.block∉w:=by simp)(B:d.block∉w:=by simp)(C:e.block∉w:=by simp)(D:f.block∉w:=by simp)(E:g.block∉w:=by simp)(G:h.block∉w:=by simp):ax P a=H K/\ax P b=H S/\ax P c=H k/\ax P d=H l/\ax P e=H m/\ax P f=H n/\ax P g=H o/\ax P h=H p:=⟨j.aJ q i,j.c7 r s t u v x y z A B C D E G⟩
theorem F.frozen{a:aw}(b:F a i P){p:Addr}(c:p.block<x i.heap)(d:p.block∉a):P.frozen? p=i.frozen? p:=World.frozen?_of_block (w:=i)<|b.block p.block c d
inductive D where|int(n:Int)|bool(b:Bool)|str(s:ByteArray)|qH(a:az)(n c:Nat)|arr(cg:Nat)(bx:List (List D))
abbrev cn:=List D
mutual def a7(c:aw)(d:a5):D->ay->Prop|.int a,b=>b=C B a|.bool a,b=>b= .bool a|.str a,b=>b= .string a|.qH a b e,f=>f=q a b e|.arr g a,f=>∃e b,f=q e (j a) b/\j a<=b/\b<=9223372036854775807/\(j a≠0->∃b f,e=H ⟨b,f,G⟩/\b∉c/\b<x d.heap/\e3 c d g b a f)def e3(b:aw)(c:a5)(a d:Nat):List cn->Nat->Prop|[],_=>True|e::g,f=>j e=a/\fj b c d e f/\e3 b c a d g (f+a)def fj(b:aw)(a:a5)(c:Nat):cn->Nat->Prop|[],_=>True|f::g,d=>(∃e,ax a ⟨c,d,G⟩=H e/\a7 b a f e)/\fj b a c g (d+1)end
mutual theorem a7.nR{a0 i:aw}{y h:a5}(j:∀d,d<x y.heap->d∉a0->h.heap[d]?=y.heap[d]?/\d∉i/\d<x h.heap):∀(k:D)(l:ay),a7 a0 y k l->a7 i h k l|.int _,_,d=>d|.bool _,_,d=>d|.str _,_,d=>d|.qH _ _ _,_,d=>d|.arr z A,w,d=>by simp only[a7]at d⊢;obtain⟨w,B,C,E,F,G⟩:=d;refine⟨w,B,C,E,F,λB=>?_⟩;obtain⟨d,w,C,E,F,H⟩:=G B;obtain⟨B,G,I⟩:=j d F E;exact⟨d,w,C,G,I,e3.nR j z d B A w H⟩theorem e3.nR{a0 m:aw}{y e:a5}(n:∀d,d<x y.heap->d∉a0->e.heap[d]?=y.heap[d]?/\d∉m/\d<x e.heap)(f b:Nat)(o:e.heap[b]?=y.heap[b]?):∀(p:List cn)(q:Nat),e3 a0 y f b p q->e3 m e f b p q|[],_,d=>d|z::A,w,d=>by simp only[e3]at d⊢;exact⟨d.1,fj.nR n b o z w d.2.1,e3.nR n f b o A (w+f) d.2.2⟩theorem fj.nR{a0 r:aw}{y g:a5}(s:∀d,d<x y.heap->d∉a0->g.heap[d]?=y.heap[d]?/\d∉r/\d<x g.heap)(c:Nat)(t:g.heap[c]?=y.heap[c]?):∀(u:cn)(v:Nat),fj a0 y c u v->fj r g c u v|[],_,b=>b|f::g,b,d=>by simp only[fj]at d⊢;obtain⟨⟨e,h,i⟩,j⟩:=d;exact⟨⟨e,(yS (a:=⟨c,b,none⟩) t).trans h,a7.nR s f e i⟩,fj.nR s c t g (b+1) j⟩end
section
variable{a0:aw}{y bL:a5}{d:D}{v:ay}
def a7.a9{cR:aw}(g:a7 a0 y d v)(b:F cR y bL)(h:∀a,a∈cR->a∈a0\/x y.heap<=a):a7 a0 bL d v:=a7.nR (λa c e=>⟨b.block a c (λi=>by rcases h a i with f|f;(.exact e f);.omega),e,ft c b.size⟩) d v g
def a7.I(a:a7 a0 y d v)(b:F [] y bL):a7 a0 bL d v:=a.a9 b λ_ c=>by cases c
def a7.sub{bv:aw}(b:a7 a0 y d v)(c:∀a,a∈bv->a∈a0\/x y.heap<=a):a7 bv y d v:=a7.nR (λe f g=>⟨u,λh=>by rcases c e h with a|a;(.exact g a);.omega,f⟩) d v b
theorem a7.alloc(b:a7 a0 y d v)(a:Obj):a7 a0 (aX y a) d v:=b.I<|(F.refl _ _).alloc a
theorem a7.drew(a:a7 a0 y d v):a7 a0 (ed y) d v:=a.I (F.refl _ _).drew
theorem a7.drewN(b:a7 a0 y d v)(a:Nat):a7 a0 (g4 y a) d v:=b.I<|(F.refl _ _).drewN a
theorem a7.setCell(b:a7 a0 y d v){p:Addr}(c:p.block∈a0)(a:ay):a7 a0 (bZ y p a) d v:=b.a9 (cR:=[p.block]) ((F.refl _ _).setCell (aN (by simp)) a) λf e=>by rcases kC.1 e with rfl;exact aN c
def a7.cons(a:a7 a0 y d v){g:Nat}(b:x y.heap<=g):a7 (g::a0) y d v:=a.sub λf c=>by rcases eu.1 c with rfl|e;(.exact bk b);.exact aN e
def a7.tail{g:Nat}(a:a7 (g::a0) y d v):a7 a0 y d v:=a.sub λa a=>aN<|hF _ a
theorem a7.grown{a:Option Nat}(c:a7 a0 y d v)(e:y.grownBy bL a)(f:∀b,a=H b->b∈a0\/x y.heap<=b):a7 a0 bL d v:=c.a9 (cR:=a.toList) ((F.refl _ _).grown e λa a=>aN (by simp[a])) λa b=>f a (by simpa using b)
end
theorem e3.dJ:∀{a:List cn}{b:Nat},e3 w i e J a b->∀(av:Nat)(c:av<j a),a[av].length=e/\fj w i J a[av] (b+av*e)|[],_,_,b,a=>by simp at a|b::c,d,a,0,_=>by simp only[e3]at a;exact⟨a.1,by simpa using a.2.1⟩|f::g,b,c,a+1,d=>by simp only[e3]at c;have:=e3.dJ c.2.2 a (by simpa using d);refine⟨this.1,?_⟩;rw[show b+(a+1)*e=b+e+a*e by rw[tp];omega];exact this.2
def a7.cq{a:List cn}(c:a7 w i (.arr e a) K):∃d b,K=q d (j a) b/\j a<=b/\b<=9223372036854775807:=by
 simp only[a7]at c;obtain⟨a,b,d,e,f,_⟩:=c;exact⟨a,b,d,e,f⟩
variable{R:az}
theorem a7.dJ{a:List cn}(c:a7 w i (.arr e a) (q R J Q)){av:Nat}(f:av<j a):∃b d,R=H ⟨b,d,G⟩/\b∉w/\b<x i.heap/\a[av].length=e/\fj w i b a[av] (d+av*e):=by
 simp only[a7]at c;obtain⟨l,m,g,n,o,h⟩:=c;injection g with k p r;obtain⟨a,b,c,d,e,g⟩:=h (by omega);obtain⟨h,i⟩:=g.dJ av f;exact⟨a,b,k.trans c,d,e,h,i⟩
theorem a7.nil(c:aw)(d:a5)(e:Nat)(b:az)(a:Nat)(f:a<=9223372036854775807):a7 c d (.arr e []) (q b 0 a):=by
 simp only[a7];exact⟨b,a,u,by simp,f,λa=>absurd u a⟩
def b5(a:ad):List cn:=a.map λa=>[.int a]
def aI(a:ad):D:= .arr 1<|b5 a
theorem cN(a:ad):j (b5 a)=j a:=by simp[b5]
theorem bB{cE:ad}(c:a7 w i (aI cE) K):∃b a,K=q b (j cE) a/\j cE<=a/\a<=9223372036854775807:=by
 obtain⟨d,e,a,b,f⟩:=a7.cq c;rw[cN]at a b;exact⟨d,e,a,b,f⟩
variable{L:ad}
theorem c0{y:a5}(d:a7 w y (aI L) (q R e J)){av:Nat}(f:av<j L):∃a b,R=H ⟨a,b,G⟩/\a∉w/\a<x y.heap/\ax y ⟨a,b+av,G⟩=H (C B L[av]):=by
 obtain⟨g,h,k,l,m,_,c⟩:=a7.dJ d (av:=av) (by simpa[b5]using f);refine⟨g,h,k,l,m,?_⟩;simp only[b5,k7,fj,a7,xp]at c;obtain⟨⟨o,n,rfl⟩,_⟩:=c;exact n
def cu(a:aw)(b:a5):cn->dd->Prop|[],[]=>True|c::d,e::f=>a7 a b c e/\cu a b d f|_,_=>False
theorem cu.map{a:aw}(b:∀c d,a7 w i c d->a7 a P c d):∀{c:cn}{d:dd},cu w i c d->cu a P c d|[],[],_=>trivial|_::_,_::_,a=>⟨b _ _ a.1,cu.map b a.2⟩|[],_::_,a=>a.elim|_::_,[],a=>a.elim
theorem cu.app:∀{a b:cn}{c d:dd},cu w i a c->cu w i b d->cu w i (a++b) (c++d)|[],_,[],_,_,a=>a|_::_,_,_::_,_,a,b=>⟨a.1,cu.app a.2 b⟩|[],_,_::_,_,a,_=>a.elim|_::_,_,[],_,a,_=>a.elim
theorem cu.length:∀{a:cn}{b:dd},cu w i a b->j a=j b|[],[],_=>rfl|_::_,_::_,a=>by simp[cu.length a.2]|[],_::_,a=>a.elim|_::_,[],a=>a.elim
theorem cu.one:∀{d:cn}{c:dd},cu w i d c->∀e∈c,e.oneCell'=true|[],[],_=>by simp|f::_,n::_,a=>by intro b g;rcases eu.1 g with rfl|h;(.cases f with|int j=>have k:b=C B j:=a.1;subst k;rfl|bool j=>have k:b= .bool j:=a.1;subst k;rfl|str j=>have k:b= .string j:=a.1;subst k;rfl|qH j k l=>have m:b=q j k l:=a.1;subst m;rfl|arr k l=>obtain⟨m,o,j,_⟩:=a7.cq a.1;subst j;rfl);.exact cu.one a.2 b h|[],_::_,a=>a.elim|_::_,[],a=>a.elim
theorem fj.of_cells:∀{a:cn}{dW:dd}{b:Nat},cu w i a dW->(∀c d,dW[c]?=H d->ax i ⟨e,b+c,G⟩=H d)->fj w i e a b|[],[],_,_,_=>by simp only[fj]|e::f,a::g,b,c,d=>by simp only[fj];exact⟨⟨a,by simpa using d 0 a (by simp),c.1⟩,fj.of_cells c.2 λa c e=>by have:=d (a+1) c (by simpa using e);rwa [show b+(a+1)=b+1+a by omega]at this⟩|[],_::_,_,a,_=>a.elim|_::_,[],_,a,_=>a.elim
theorem cu.split:∀{c1 a:cn}{b:dd},cu w i (c1++a) b->∃c d,b=c++d/\cu w i c1 c/\cu w i a d|[],_,a,b=>⟨[],a,u,bu,b⟩|b::c,d,[],a=>a.elim|d::b,e,c::f,a=>by obtain⟨d,e,f,g,h⟩:=cu.split (c1:=b) a.2;exact⟨c::d,e,by rw[f];rfl,⟨a.1,g⟩,h⟩
theorem e3.of_cells:∀{bx:List cn}{dW:dd}{c:Nat},(∀p∈bx,j p=e)->cu w i bx.flatten dW->(∀d f,dW[d]?=H f->ax i ⟨J,c+d,G⟩=H f)->e3 w i e J bx c|[],_,_,_,_,_=>by simp only[e3]|g::u,v,h,k,r,l=>by simp only[e3];have q:=k g (by simp);obtain⟨m,x,rfl,n,s⟩:=cu.split (c1:=g) (by simpa using r);have y:=n.length;refine⟨q,fj.of_cells n λo t a=>l o t (by rw[td];exact a;rcases dE o (j m)with b|b;exact b;rw[List.getElem?_eq_none b]at a;cases a),e3.of_cells (λa b=>k a (by simp[b])) s λa b c=>?_⟩;have:=l (e+a) b (by rw[uS (by omega),show e+a - j m=a by omega];exact c);rwa [show h+(e+a)=h+e+a by omega]at this
theorem fj.cells:∀{b:cn}{c:Nat},fj w i e b c->∃d,cu w i b d/\∀f g,d[f]?=H g->ax i ⟨e,c+f,G⟩=H g|[],_,_=>⟨[],bu,by simp⟩|t::u,h,k=>by simp only[fj]at k;obtain⟨⟨j,l,m⟩,n⟩:=k;obtain⟨o,p,q⟩:=fj.cells n;refine⟨j::o,⟨m,p⟩,λr s a=>?_⟩;cases r with|zero=>simp at a;subst a;simpa using l|succ b=>rw[show h+(b+1)=h+1+b by omega];exact q b s (by simpa using a)
theorem e3.cells:∀{a:List cn}{c:Nat},e3 w i e J a c->∃b,cu w i a.flatten b/\j b=j a*e/\∀a d,b[a]?=H d->ax i ⟨J,c+a,G⟩=H d|[],_,_=>⟨[],bu,by simp,by simp⟩|b::c,f,a=>by simp only[e3]at a;obtain⟨b,c,d⟩:=a;obtain⟨b,a,h⟩:=fj.cells c;obtain⟨c,g,i,k⟩:=e3.cells d;have d:=a.length;refine⟨b++c,by rw[lB];exact a.app g,by simp[i,tp];omega,λa g c=>?_⟩;rcases dE a (j b)with d|d;(.exact h a g (by rwa [td d]at c));.rw[uS d]at c;have:=k _ g c;rwa [show f+e+(a - j b)=f+a by omega]at this
def aF(a:ay):aw:=a.ownBlock.toList
theorem a7.aF{a:D}(c:a7 w i a K)(d:F [] i P)(e:∀b,b∈aF S->x i.heap<=b):a7 (aF S++w) P a K:=(c.sub (bv:=Go.Proofs.YtfekcilkpafpjaaGreat.aF S++w) λa b=>(cK.1 b).elim (λb=>bk<|e a b) .inl).I d
structure aS(a0:aw)(b9:Nat)(y:a5)(E:bJ)(cg:Nat)(v:ay)(bx:List cn):Prop where
 cF:∃cs,y.ownsRow b9 E cg v (j bx) cs/\cu (aF v++a0) y bx.flatten cs
 size:∀db∈bx,j db=cg
 dY:∀g,g∈aF v->g∉a0
variable{T:bJ}
def aS.br{c:List cn}(f:aS w e i T J K c):a7 w i (.arr J c) K:=by
 obtain⟨⟨h,d,j⟩,k,l⟩:=f;simp only[a7];have m:cu w i c.flatten h:=j.map λs t n=>n.sub λv o=>aN<|gO _ o;rcases d.2 with⟨rfl,a⟩|⟨b,p,x,rfl,y,q,a,r,z,A⟩;.exact⟨G,0,by rw[a],by omega,by omega,λc=>absurd a c⟩
 .refine⟨H ⟨b,0,G⟩,p,u,a,by simp only[maxLen]at r;omega,λ_=>⟨b,0,u,l b (by simp[aF,Value.ownBlock]),(f4.1 q).1,?_⟩⟩;refine e3.of_cells k m λa c e=>?_;have:=d.cells (g:=b) u a c e;rwa [pE]at this
theorem aS.cq{a:List cn}(b:aS w e i T J K a):∃c d,K=q c (j a) d:=by
 obtain⟨a,c,d,_⟩:=a7.cq b.br;exact⟨a,c,d⟩
theorem aS.lt{a0:aw}{a:List cn}(b:aS a0 e i T J K a):∀a,a∈aF K->e<=a/\a<x i.heap:=by
 obtain⟨⟨c,a,_⟩,_,_⟩:=b;intro b c;exact a.lt b (by simpa[aF]using c)
theorem aS.a9{a0:aw}{y:a5}{b:List cn}{cR:aw}(d:aS a0 e y T J K b)(f:F cR y i)(g:∀c,c∈cR->c∈a0\/x y.heap<=c):aS a0 e i T J K b:=by
 have h:=d.lt;obtain⟨⟨n,k,o⟩,p,l⟩:=d;refine⟨⟨n,⟨k.1,?_⟩,o.map λC D r=>r.a9 f λs t=>(g s t).imp (gO _) id⟩,p,l⟩;rcases k.2 with v|⟨a,m,w,rfl,z,A,B⟩;.exact aN v
 .refine bk ⟨a,m,w,u,z,?_,B⟩;(have c:a∈aF (q (H ⟨a,0,G⟩) (j b) m):=by simp[aF,Value.ownBlock]);rw[f.block a (h a c).2 (λd=>by rcases g a d with b|b;(.exact l a c b);.have:=(h a c).2;omega)];exact A
theorem aS.sub{a0 bv:aw}{b:List cn}(c:aS a0 e i T J K b)(d:∀a,a∈bv->a∈a0\/x i.heap<=a):aS bv e i T J K b:=by
 have f:=c.lt;obtain⟨⟨a,b,e⟩,g,h⟩:=c;refine⟨⟨a,b,e.map λa a a=>a.sub λa b=>(cK.1 b).elim (λb=>aN<|hs _ b) (λb=>(d a b).imp (gO _) id)⟩,g,λa b g=>?_⟩;rcases d a g with e|e;.exact h a b e
 .have:=(f a b).2;omega
def aS.tail{g:Nat}{a:List cn}(b:aS (g::w) e i T J K a):aS w e i T J K a:=b.sub λ_ a=>aN<|hF _ a
theorem aS.dF{oB:Nat}{a:List cn}(b:aS w e i T J K a)(c:oB<=e):aS w oB i T J K a:=by
 obtain⟨⟨d,a,e⟩,f,g⟩:=b;refine⟨⟨d,⟨a.1,a.2.imp id ?_⟩,e⟩,f,g⟩;rintro⟨a,b,d,e,f,g⟩;exact⟨a,b,d,e,cA c f,g⟩
def aS.I{y:a5}{a:List cn}(b:aS w e y T J K a)(c:F [] y i):aS w e i T J K a:=b.a9 c λ_ d=>by cases d
theorem aS.alloc{a:List cn}(c:aS w e i T J K a)(b:Obj):aS w e (aX i b) T J K a:=c.I<|(F.refl _ _).alloc b
theorem aS.nil(e:aw)(a:Nat)(b:a5)(c:bJ)(d:Nat):aS e a b c d (q G 0 0) []:=⟨⟨[],World.ownsRow_nil b a c d,bu⟩,by simp,by simp[aF,Value.ownBlock]⟩
theorem aS.made(a0:aw)(b:Nat)(a:a5)(c:bJ)(e:Nat)(f:b<=x a.heap)(g:∀d,d∈a0->d<x a.heap):aS a0 b (aX a<|au #[] c) c e (q (H ⟨x a.heap,0,G⟩) 0 0) []:=⟨⟨[],World.ownsRow_made a #[] 0 f (by simp[maxLen]) (by simp),bu⟩,by simp,λa b c=>by have:=g a c;simp[aF,Value.ownBlock]at b;omega⟩
structure ma(a0:aw)(v fV:ay)(y bL:a5):Prop where
 a9:F (aF v) y bL
 br:∀d c,a7 (aF v++a0) y d c->a7 (aF fV++a0) bL d c
 dJ:fV.ownBlock=v.ownBlock\/fV.ownBlock=H (x y.heap)
section
variable{bD:Program}
def GZ(c:aw)(h:Nat)(a:a5)(i o f:bJ)(p:ay)(e r:Nat)(k:bD.underlying i=H (.slice f))(W:(bD.info? f).map (λs=>(s.zero,s.size,s.bytes))=H (H p,e,r))(X:p.cells.size=e)(Y:0<e)(b:ay)(g:List cn)(L:aS c h a f e b g)(M:ay)(d:List cn)(t:a7 (aF b++c) a (.arr e d) M)(Z:∀a1∈d,j a1=e)(a2:(j g+j d)*r<=140737488355328)(ai:j g+j d<=140737488355328)(a3:h<=x a.heap)(a4:∀N,N∈c->N<x a.heap):∃v z,(Builtin.append_ #[i,i] o #[b,M]).run bD a= .ok v z/\aS c h z f e v (g++d)/\ma c b v a z:=by
 obtain⟨a6,l,a8,a9,aa⟩:=bo W;have aj:=L.lt;obtain⟨⟨A,B,ab⟩,ad,ae⟩:=L;obtain⟨C,m,af,ak,al⟩:=a7.cq t;subst af;have O:∀D Q,a.grownBy Q b.ownBlock->(D.ownBlock=b.ownBlock\/D.ownBlock=H (x a.heap))->ma c b D a Q:=by intro S n n R;refine⟨(F.refl _ _).grown n λE E=>aN (by simp[aF,E]),λE I J=>?_,R⟩;have T:=J.grown n λK K=>aN<|hs _ (by simp[aF,K]);rcases R with K|K;(.rw[show aF S=aF b by simp[aF,K]];exact T);.have R:a7 c a E I:=J.sub λS S=>aN<|gO _ S;have S:a7 (x a.heap::c) a E I:=R.cons<|zo _;refine a7.nR (a0:=aF b++c) (y:=a) (λT R S=>⟨n.block T R (λT=>S<|hs _ (by simp[aF,<-T])),?_,ft R n.size⟩) E I J;intro E;rcases cK.1 E with n|n;(.simp[aF,K]at n;omega);.exact S<|gO _ n
 have K:∀n E R,cu (aF b++c) a d.flatten R->E.ownsRow h f e n (j g+j d) (A++R)->ma c b n a E->aS c h E f e n (g++d):=by intro I I J S T I;refine⟨⟨A++J,by rw[eR];exact T,by rw[H0];exact(ab.map I.br).app<|S.map I.br⟩,λS ag=>?_,λT U V=>?_⟩;(.rcases cK.1 ag with J|J;(.exact ad S J);.exact Z S J);.rcases I.dJ with J|J;(.exact ae T (by rw[aF,<-J];exact U) V);.simp[aF,J]at U;have:=a4 T V;omega
 by_cases I:j d=0;.have S:d=[]:=qI I;subst S;(have T:∃U,(Builtin.append_ #[i,i] o #[b,q C 0 m]).run bD a= .ok b a/\U=m:=by refine⟨m,?_,u⟩;rcases B.2 with⟨rfl,V⟩|⟨ag,ah,am,rfl,_,_,J,_⟩;(.cases C with|none=>simp[Builtin.append_,s8 k,sizeOf,typeInfo,l,Builtin.lenOf,Builtin.firstCells]|some an=>simp[Builtin.append_,s8 k,sizeOf,typeInfo,l,Builtin.lenOf,Builtin.firstCells,loadCells,loadCellsFrom]);.cases C with|none=>simp[Builtin.append_,s8 k,sizeOf,typeInfo,l,Builtin.lenOf,Builtin.firstCells,J,storeCells]|some an=>simp[Builtin.append_,s8 k,sizeOf,typeInfo,l,Builtin.lenOf,Builtin.firstCells,J,storeCells,loadCells,loadCellsFrom]);obtain⟨_,S,_⟩:=T;have J:=O b a (World.grownBy.refl a _)<|aN u;exact⟨b,a,by simpa using S,K b a [] bu (by simpa using B) J,J⟩
 .simp only[a7]at t;obtain⟨am,an,J,_,_,S⟩:=t;obtain⟨T,U,V,ao,ap,ag⟩:=S I;injection J with ah aq ar;subst ah V;obtain⟨s,t,v,z⟩:=e3.cells ag;obtain⟨c,n,C,D,E,_,I⟩:=run_append_own_at (P:=bD) a h i o f a6 p e r k l a8 a9 aa X Y b (j g) A B ⟨T,U,G⟩ (j d) m s v (λJ L M=>by rw[pE];exact z J L M) t.one (by simp only[maxLen];omega) a2 a3;have a:=O c n E I;exact⟨c,n,C,K c n s t D a,a⟩
def k8{r:Array Oper}{s:List Oper}{d:Oper}{h:Act}{t:Exit->Act->a5->Prop}(u:d.guard=G)(o p:Operand)(k:bJ)(v:d.op= .call {callee:= .builtin .append,args:= #[o,p],argTypes:= #[k,k]})(b:aw)(l:Nat)(e:bJ)(m:ay)(a n:Nat)(w:bD.underlying k=H (.slice e))(y:(bD.info? e).map (λc=>(c.zero,c.size,c.bytes))=H (H m,a,n))(z:m.cells.size=a)(A:0<a)(f:ay)(g:List cn)(B:h.eval o=f)(C:aS b l i e a f g)(o:ay)(c:List cn)(D:h.eval p=o)(E:a7 (aF f++b) i (.arr a c) o)(F:∀p∈c,j p=a)(I:(j g+j c)*n<=140737488355328)(J:j g+j c<=140737488355328)(K:l<=x i.heap)(L:∀p,p∈b->p<x i.heap)(M:∀p q,aS b l q e a p (g++c)->ma b f p i q->wpList bD r t s (h.put d.dst p) q):wpList bD r t (d::s) h i:=by
 refine wpList_plain u λh h=>?_;obtain⟨p,q,r,s,t⟩:=GZ (bD:=bD) b l i k d.type e m a n w y z A f g C o c E F I J K L;unfold Oper.wp execOp;simp only[v,resolve,invoke,builtin,Sem.run_bind,Sem.run_pure,JH,H2,ha,mb,B,D,r];exact h _ _<|M p q s t
def step_append{r:Array Oper}{b:Oper}{c:Act}{s:Act->a5->Prop}{t:Exit->Act->a5->Prop}{u:Prop}(v:b.guard=G)(o p:Operand)(k:bJ)(w:b.op= .call {callee:= .builtin .append,args:= #[o,p],argTypes:= #[k,k]})(d:aw)(l:Nat)(f:bJ)(m:ay)(a n:Nat)(y:bD.underlying k=H (.slice f))(z:(bD.info? f).map (λe=>(e.zero,e.size,e.bytes))=H (H m,a,n))(A:m.cells.size=a)(B:0<a)(g:ay)(h:List cn)(C:c.eval o=g)(D:aS d l i f a g h)(o:ay)(e:List cn)(E:c.eval p=o)(F:a7 (aF g++d) i (.arr a e) o)(I:∀p∈e,j p=a)(J:(j h+j e)*n<=140737488355328)(K:j h+j e<=140737488355328)(L:l<=x i.heap)(M:∀p,p∈d->p<x i.heap)(N:∀p q,aS d l q f a p (h++e)->ma d g p i q->s (c.put b.dst p) q):if Region.wanted b (yielded r c.tmps)=true then Oper.wp bD b c i s t else u:=by
 have p:Region.wanted b (yielded r c.tmps)=true:=by simp[Region.wanted,v]
 rw[dz p];obtain⟨c,p,q,r,s⟩:=GZ (bD:=bD) d l i k b.type f m a n y z A B g h D o e F I J K L M;unfold Oper.wp execOp;simp only[w,resolve,invoke,builtin,Sem.run_bind,Sem.run_pure,JH,H2,ha,mb,C,E,q];exact N c p r s
end
def a7.new{a0:aw}{y:a5}{cg:Nat}{bx:List cn}{cs:Array ay}{E:bJ}(b:∀a∈bx,j a=cg)(c:cu a0 y bx.flatten cs.toList)(d:∀a,a∈a0->a<x y.heap)(e:j bx<=9223372036854775807):a7 a0 (aX y<|au cs E) (.arr cg bx) (q (H ⟨x y.heap,0,G⟩) (j bx)<|j bx):=by
 simp only[a7];refine⟨_,_,u,zo _,e,λ_=>⟨x y.heap,0,u,λa=>by have:=d _ a;omega,by simp,?_⟩⟩;refine e3.of_cells (dW:=cs.toList) b (c.map λa a a=>a.alloc _) λa a a=>?_;rw[yT,DQ];simpa using a
def qJ{a:List cn}(c:aS w e i T J K a)(d:∀a,a∈w->a<x i.heap):∀a,a∈aF K++w->a<x i.heap:=λb e=>by rcases cK.1 e with a|a;(.exact(c.lt b a).2);.exact d b a
end Go.Proofs.YtfekcilkpafpjaaGreat
