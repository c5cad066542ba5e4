/- FnCancel: for every list of bytes the law returns true, and the argument reads as before. No condition. -/
import Derived.Test.YtfekcilkpafpjaaGreatRows
import Derived.Test.YtfekcilkpafpjaaGreatF19
import Derived.ProofKit
import Derived.OpenShut
import Derived.Deep.DeepHandedRow
import Derived.Lib.SmallJoins
import Derived.LaidSub
import Derived.Lay
namespace Go.Proofs.YtfekcilkpafpjaaGreat.lawCB
open Go.ChangeShapes Go.WideShapes Go.ChangeAt Go.RowKit Go.Joins Go.WideElems
theorem own:ownKnob Tryz.prog.godebug=none:=by kernel_rfl
theorem laidOut:laidOutB Tryz.prog=true:=by kernel_rfl
theorem cells5:Tryz.prog.cellsOf 5=1:=by kernel_rfl
set_option maxRecDepth 100000 in
theorem contract(H:Type)(enc:TypeId×Value→H)(W:World)(base:Nat)(args:Array Value)(ds gs:List (DataW H))(before:List MemPlace)
 (hval:∀(j:Nat) t v,Tryz.f4.params[j]?=some t→args[j]?=some v→Value.okWide Tryz.prog W .any base t v)
 (hW:DataW.Whole enc Tryz.prog Tryz.f4.params.toList Rows.fnCancelSpec.vars false W args.toList ds gs before):
 Calls Tryz.prog 4 args W fun e W'=>∃v,e=.returned v∧Rows.fnCancelSpec.post enc Tryz.prog Tryz.f4 false true false false W args v W':=by
 have hW':=hW
 obtain ⟨p,q,hA0,hV,rfl,hfz,hnd⟩:=hW
 have hA:DataW.TrodAll enc Tryz.prog W 0 (fun _=>true) true Tryz.f4.params.toList args.toList ds p:=hA0
 rw [Tryz.params4] at hA hval
 obtain ⟨v0,vs0,d0,ds0,p0,q0,hargs,rfl,rfl,h0',r0⟩:=trodAll_cons hA
 obtain ⟨rfl,rfl,rfl⟩:=trodAll_nil r0
 obtain rfl:args=#[v0]:=by cases args;simp_all
 obtain ⟨rfl,rfl⟩:=trodVars_none hV
 have hkeep:=h0'
 obtain ⟨a,len,cap,rfl⟩:=okWide_slice Tryz.underlying22 (hval 0 22 v0 rfl rfl)
 have hbytes:BytesIn W a len∧len≤cap∧cap≤9223372036854775807:=by
  obtain ⟨fuel,hf⟩:=h0'
  rcases open_ints Tryz.underlying22 Tryz.underlying5 cells5 hf with ⟨hcs,_⟩|⟨a',len',cap',zs,hcs,_,hl,hm,hz,_,hcell,hwz⟩
  · simp [Value.cells] at hcs
    obtain ⟨rfl,rfl,rfl⟩:=hcs
    exact ⟨fun j hj=>by omega,by omega,by omega⟩
  · simp [Value.cells] at hcs
    obtain ⟨rfl,rfl,rfl⟩:=hcs
    simp only [if_true] at hz
    refine ⟨fun j hj=>?_,hl,by unfold maxLen at hm;omega⟩
    have hc0:=hcell 0 (by omega)
    have hck:=hcell j (by omega)
    obtain ⟨b,off,sp⟩:=a'
    have hsp:sp=none:=by
     cases sp with
     | none=>rfl
     | some x=>simp [World.cell?,Addr.add] at hc0;split at hc0<;>simp at hc0
    subst hsp
    rw [Addr.add_lit] at hck
    have hr:=range_u8 hwz j
    refine ⟨b,off,zs.getD j 0,rfl,World.block_lt_of_cell? W _ hck,?_,?_,hck⟩
    · simpa [List.getD] using hr.1
    · simpa [List.getD] using hr.2
 clear hA0
 simp only [List.append_nil] at hW'
 refine (lawCB_any a len cap W hbytes.1 hbytes.2.1 hbytes.2.2).mono fun e W' ⟨he,hb⟩=>?_
 subst he
 have hlt:∀x∈p0,x.block<W.heap.size:=fun x hx=>hW'.lt x (by simpa using hx)
 have hback:=Below.trod laidOut (by kernel_rfl) (of_decide_eq_true (by kernel_rfl)) hkeep hb hlt
 refine ⟨_,rfl,_,_,_,[],p0,[],hW',?_,?_,?_,hb.frame _,fun h=>by cases h⟩
 · exact trodAll_cons_mk (shut_bool Tryz.underlying4 _) trodAll_mk0
 · have h9:=trodAll_cons_mk hback trodAll_mk0
   rw [List.append_nil] at h9
   rw [Tryz.params4]
   exact h9
 · rfl
noncomputable def lw(os:Go.Os):World:=World.laidAll Tryz.prog os Rows.fnCancelRow.laid
def arg0:Value:=.slice none 0 0
theorem laid_met(os:Go.Os):laidMet Tryz.prog Rows.fnCancelRow.laid ((lw os).forCall (fun _ _=>0) ⟨#[],#[arg0],[]⟩).memory:=laidMet_laidAll _ (by kernel_rfl) (by kernel_rfl)
theorem reads(os:Go.Os){H:Type}(enc:TypeId×Value→H):∃places,DataW.whole enc Tryz.prog ((lw os).forCall (fun _ _=>0) ⟨#[],#[arg0],[]⟩).memory Tryz.f4.params.toList Rows.fnCancelSpec.vars false #[arg0].toList 8=some ([.nil],[],places):=⟨[],by kernel_rfl⟩
set_option maxRecDepth 100000 in
theorem lifted(os:Go.Os)(started:os.Started)(H:Type)(enc:TypeId×Value→H)(F:Stop.Interp):ReturnsInHanded {} Tryz.checked os 4 .any ((OpenSpec.ofChange Rows.fnCancelSpec).preRow enc Tryz.prog Tryz.f4 Rows.fnCancelRow.domain false Rows.fnCancelRow.laid) (((OpenSpec.ofChange Rows.fnCancelSpec).at F).post enc Tryz.prog Tryz.f4 false true false false):=by
 obtain ⟨places,hx⟩:=reads os enc
 refine returnsInHanded_of_row (C:=Tryz.checked) (s:=OpenSpec.ofChange Rows.fnCancelSpec) own started (by kernel_rfl) Tryz.func4
  (witness_row_at (enc:=enc) (C:=Tryz.checked) false (lw os) #[arg0] rfl (by kernel_rfl) (by kernel_rfl) (by kernel_rfl)
   (OpenSpec.preRow_of_cond 8 hx (by kernel_rfl) (fun k hk=>by cases hk) (by kernel_rfl) (laid_met os))) ?_
 intro W base args ds gs before hval hW _ _ _ hL _ _
 exact contract H enc W base args ds gs before hval hW
theorem said:Rows.FnCancelSaid:=
 OpenClaim.holds_of_cond 4 Tryz.f4 rfl rfl rfl rfl rfl rfl rfl ⟨rfl,rfl,rfl,rfl,rfl⟩ rfl rfl rfl rfl rfl (by kernel_rfl) Tryz.func4 (by kernel_rfl)
  (of_decide_eq_true (by kernel_rfl)) (by unfold Func.isWrapper;first|(rw [if_pos (by decide +kernel)];kernel_rfl)|(rw [if_neg (by decide +kernel)];exact ⟨rfl,rfl⟩))
  (fun os started H enc _ F=>by rw [OpenClaim.pre_eq_preRow];exact lifted os started H enc F)
end Go.Proofs.YtfekcilkpafpjaaGreat.lawCB
