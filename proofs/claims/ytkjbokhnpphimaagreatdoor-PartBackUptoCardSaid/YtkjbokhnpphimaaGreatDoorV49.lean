/- Lemmas of the walk. -/
import Derived.Test.YtkjbokhnpphimaaGreatDoorCards
import Derived.Test.YtkjbokhnpphimaaGreatDoorTie
import Derived.Test.YtkjbokhnpphimaaGreatDoorV48
import Derived.OpenShut
import Derived.ShutString
import Derived.Deep.DeepWitnessRowRef
set_option maxHeartbeats 40000000
set_option linter.unusedVariables false
set_option linter.unusedSimpArgs false
namespace Go.Proofs.YtkjbokhnpphimaaGreatDoor.partBackDone
open Go.ChangeShapes Go.WideShapes Go.ChangeAt Go.RowKit Go.Deep
open Go.ChangeMaps (open_string shut_string)
set_option maxRecDepth 100000
theorem own:ownKnob Tryz.prog.godebug=none:=by kernel_rfl
theorem zpy:laidOutB Tryz.prog=true:=by kernel_rfl
theorem zqh(H:Type)(enc:TypeId×Value→H)(W:World)(base:Nat)(args:Array Value)(ds gs:List (DataW H))(before:List MemPlace)
 (hval:∀(j:Nat) t v,Tryz.f4.params[j]?=some t→args[j]?=some v→Value.okWide Tryz.prog W .any base t v)
 (hW:DataW.Whole enc Tryz.prog Tryz.f4.params.toList Rows.partBackSpec.vars false W args.toList ds gs before) (hk:Rows.uptoSmall H (ds++gs)=true)
 (hL:laidMetH Tryz.prog Rows.partBackUptoRow.laid W) (hsh:W.ShapedOpen Tryz.prog) :
 Calls Tryz.prog 4 args W fun e W'=>∃v,e=.returned v∧Rows.partBackSpec.post enc Tryz.prog Tryz.f4 false true false false W args v W':=by
 have HGL:Gu W:=zna hL hsh
 have hW':=hW
 obtain⟨p,q,hA0,hV,rfl,hfz,hnd⟩:=hW
 have hA:DataW.TrodAll enc Tryz.prog W 0 (fun _=>true) true Tryz.f4.params.toList args.toList ds p:=hA0
 rw[Tryz.params4] at hA hval
 obtain⟨v0,vs0,d0,ds0,p0,q0,hargs,rfl,rfl,h0,r0⟩:=trodAll_cons hA
 obtain⟨v1,vs1,d1,ds1,p1,q1,rfl,rfl,rfl,h1,r1⟩:=trodAll_cons r0
 obtain⟨v2,vs2,d2,ds2,p2,q2,rfl,rfl,rfl,h2,r2⟩:=trodAll_cons r1
 obtain⟨rfl,rfl,rfl⟩:=trodAll_nil r2
 obtain rfl:args=#[v0,v1,v2]:=by cases args;simp_all
 obtain⟨rfl,rfl⟩:=trodVars_none hV
 have k0:=h0
 have lt0:∀x∈p0,x.block<W.heap.size:=by obtain⟨m,hm⟩:=k0;exact DataW.trod_lt m _ _ _ hm
 obtain⟨A0,n0,c0,a0,e0,hr0,hl0,hq0⟩:∃A n c l,v0.cells.toList=[.slice A n c]∧Row Elem.ent (fun _=>True) W A n c l∧l.length≤1048576∧∀a∈l,zqb a:=by
  obtain⟨fuel,hf⟩:=h0
  exact zgI Elem.ent zqb Tryz.underlying22 (by kernel_rfl) (fun n cs x hx hb=>zqI (by omega) hx (Nat.le_of_lt hb)) hf (Nat.le_trans (bulks.part_le (by simp)) (bulks.bound hk))
 obtain⟨A',n',c',rfl⟩:=okWide_slice Tryz.underlying22 (hval 0 _ v0 rfl rfl)
 obtain⟨rfl,rfl,rfl⟩:A'=A0∧n'=n0∧c'=c0:=by simpa[Value.cells] using e0
 have k1:=h1
 have lt1:∀x∈p1,x.block<W.heap.size:=by obtain⟨m,hm⟩:=k1;exact DataW.trod_lt m _ _ _ hm
 obtain⟨A1,n1,c1,a1,e1,hr1,hl1,hq1⟩:∃A n c l,v1.cells.toList=[.slice A n c]∧Row Elem.cut (fun _=>True) W A n c l∧l.length≤1048576∧∀a∈l,zsc a:=by
  obtain⟨fuel,hf⟩:=h1
  exact zgI Elem.cut zsc Tryz.underlying23 (by kernel_rfl) (fun n cs x hx hb=>cut_open (by omega) hx (Nat.le_of_lt hb)) hf (Nat.le_trans (bulks.part_le (by simp)) (bulks.bound hk))
 obtain⟨A',n',c',rfl⟩:=okWide_slice Tryz.underlying23 (hval 1 _ v1 rfl rfl)
 obtain⟨rfl,rfl,rfl⟩:A'=A1∧n'=n1∧c'=c1:=by simpa[Value.cells] using e1
 obtain⟨a2,rfl,rfl,rfl,hz2⟩:=open_int Tryz.underlying3 (hval 2 _ v2 rfl rfl) h2
 clear hA0
 refine(zky hr0 hr1 a2 HGL (zsl hq0) (zrq hz2).1 (zrq hz2).2 (Nat.le_trans hl1 (by decide))).mono fun e W' ⟨he,bel⟩=>?_
 subst he
 exact⟨_,rfl,_,_,_,[],_,[],hW',trodAll_mk1 (shut_bool Tryz.underlying4 _),(trodAll_cons_mk (Below.trod zpy (by kernel_rfl) (of_decide_eq_true (by kernel_rfl)) k0 bel lt0) (trodAll_cons_mk (Below.trod zpy (by kernel_rfl) (of_decide_eq_true (by kernel_rfl)) k1 bel lt1) (trodAll_cons_mk (shut_int Tryz.underlying3 hz2) trodAll_mk0))),rfl,bel.frame _,fun h=>by cases h⟩
def zsJ:DataW Unit→Value
 |.lit (.int k z)=>.int k z
 |_=>undef
def zjE:DataW Unit→List Value
 |.agg l=>l.map zsJ
 |_=>[]
def zsG:DataW Unit→List Value
 |.agg l=>l.flatMap zjE
 |_=>[]
noncomputable def zgY(os:Os):World:=
 let N:=(World.settled Tryz.prog os).heap.size
 let w0:=World.holding Tryz.prog os ⟨#[.cells #[.string ⟨#[118,97,108,117,101,32,111,117,116,32,111,102,32,114,97,110,103,101]⟩] 315,.cells #[.string ⟨#[105,110,118,97,108,105,100,32,115,121,110,116,97,120]⟩] 315],#[],[]⟩
 let put (h:Array Obj) (g:Nat) (cs:Array Value):Array Obj:=h.modify g fun
  |.cells _ t frozen=>.cells cs t frozen
  |o=>o
 let h0:=put (put w0.heap 2 #[.iface 313 (.pointer (some ⟨N,0,none⟩))]) 1 #[.iface 313 (.pointer (some ⟨N+1,0,none⟩))]
 let h1:=put h0 4 (zjE Rows.laid_math_bits_deBruijn32tab).toArray
 let h2:=put h1 5 (zjE Rows.laid_math_bits_deBruijn64tab).toArray
 let h3:=put h2 3 (zjE Rows.laid_internal_strconv_uint64pow10).toArray
 let h4:=put h3 7 (zsG Rows.laid_unicode_utf8_acceptRanges).toArray
 let h5:=put h4 6 (zjE Rows.laid_unicode_utf8_first).toArray
 { w0 with heap:=h5 }
theorem zrj(os:Os)(args:Array Value):laidMet Tryz.prog Rows.partBackUptoRow.laid ((zgY os).forCall (fun _ _=>0) ⟨#[],args,[]⟩).memory:=
 laidMet_of_run' 8 (by kernel_rfl) (by kernel_rfl)
abbrev wargs:Array Value:=#[.slice none 0 0,.slice none 0 0,.int .i64 0]
theorem reads(os:Os){H:Type}(enc:TypeId×Value→H):∃places,DataW.whole enc Tryz.prog ((zgY os).forCall (fun _ _=>0) ⟨#[],wargs,[]⟩).memory Tryz.f4.params.toList Rows.partBackSpec.vars false wargs.toList 8=some ([.nil,.nil,.lit (.int .i64 0)],[],places):=
 ⟨[],by kernel_rfl⟩
theorem zsz(os:Os)(started:os.Started)(H:Type)(enc:TypeId×Value→H)(F:Stop.Interp) :
 ReturnsInHanded {} Tryz.checked os 4 .any ((Rows.OpenSpec.upto Rows.partBackSpec).preRow enc Tryz.prog Tryz.f4 Rows.partBackUptoRow.domain false Rows.partBackUptoRow.laid) (((Rows.OpenSpec.upto Rows.partBackSpec).at F).post enc Tryz.prog Tryz.f4 false true false false):=by
 obtain⟨places,hx⟩:=reads os enc
 refine returnsInHanded_of_row (C:=Tryz.checked) (s:=Rows.OpenSpec.upto Rows.partBackSpec) own started (by kernel_rfl) Tryz.func4
  (witness_row_atRef (enc:=enc) (C:=Tryz.checked) false (zgY os) wargs rfl (by kernel_rfl) (by kernel_rfl) (by kernel_rfl)
    (OpenSpec.preRow_of_cond 8 hx (by kernel_rfl) (fun k hk=>by cases hk;kernel_rfl) (by kernel_rfl) (zrj os _))) ?_
 intro W base args ds gs before hval hW _ hcond _ hL hsh _
 exact zqh H enc W base args ds gs before hval hW (hcond _ rfl) hL hsh
end Go.Proofs.YtkjbokhnpphimaaGreatDoor.partBackDone
