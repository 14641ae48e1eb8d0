/- Lemmas of the walk that the last text of this claim joins. -/
import Derived.Test.YtejdpadhemeldaaGreatDoorCards
import Derived.Test.YtejdpadhemeldaaGreatDoorTie
import Derived.Test.YtejdpadhemeldaaGreatDoorZ46
import Derived.Test.YtejdpadhemeldaaGreatDoorZ40
import Derived.Test.YtejdpadhemeldaaGreatDoorZ12
import Derived.Test.YtejdpadhemeldaaGreatDoorZ33
import Derived.WalkKit
import Derived.ProofKit
import Derived.OpenShut
import Derived.ShutString
import Derived.Below
import Derived.ChangeOld
import Derived.Deep.DeepHandedRow
import Derived.Deep.DeepWitnessRowRef
set_option maxHeartbeats 40000000
set_option linter.unusedVariables false
set_option linter.unusedSimpArgs false
namespace Go.Proofs.YtejdpadhemeldaaGreatDoor.treeLooksDone
open Go.ChangeShapes Go.WideShapes Go.ChangeAt Go.RowKit Go.Deep
open Go.ChangeMaps (open_string shut_string)
set_option maxRecDepth 100000
theorem own : ownKnob Tryz.prog.godebug = none:=by kernel_rfl
theorem laidOut : laidOutB Tryz.prog = true:=by kernel_rfl
theorem contract (H : Type) (enc : TypeId × Value → H) (W : World) (base : Nat) (args : Array Value) (ds gs : List (DataW H)) (before : List MemPlace)
 (hval : ∀ (j : Nat) t v,Tryz.f3.params[j]? = some t → args[j]? = some v → Value.okWide Tryz.prog W .any base t v)
 (hW : DataW.Whole enc Tryz.prog Tryz.f3.params.toList Rows.treeLooksSpec.vars false W args.toList ds gs before) (hk : Rows.uptoSmall H (ds ++ gs) = true)
 (hL : laidMetH Tryz.prog Rows.treeLooksUptoRow.laid W) (hsh : W.ShapedOpen Tryz.prog) :
 Calls Tryz.prog 3 args W fun e W'=>∃ v,e = .returned v ∧ Rows.treeLooksSpec.post enc Tryz.prog Tryz.f3 false true false false W args v W':=by
 have HGL : Gu W:=gu_of_laid hL hsh
 have hW':=hW
 obtain ⟨p,q,hA0,hV,rfl,hfz,hnd⟩:=hW
 have hA : DataW.TrodAll enc Tryz.prog W 0 (fun _=>true) true Tryz.f3.params.toList args.toList ds p:=hA0
 rw [Tryz.params3] at hA hval
 obtain ⟨v0,vs0,d0,ds0,p0,q0,hargs,rfl,rfl,h0,r0⟩:=trodAll_cons hA
 obtain ⟨v1,vs1,d1,ds1,p1,q1,rfl,rfl,rfl,h1,r1⟩:=trodAll_cons r0
 obtain ⟨rfl,rfl,rfl⟩:=trodAll_nil r1
 obtain rfl : args = #[v0,v1]:=by cases args;simp_all
 obtain ⟨rfl,rfl⟩:=trodVars_none hV
 have k0:=h0
 have lt0 : ∀ x ∈ p0,x.block < W.heap.size:=by obtain ⟨m,hm⟩:=k0;exact DataW.trod_lt m _ _ _ hm
 obtain ⟨A0,n0,c0,a0,e0,hr0,hl0,hq0⟩ : ∃ A n c l,v0.cells.toList = [.slice A n c] ∧ Row Elem.ent (fun _=>True) W A n c l ∧ l.length ≤ 1048576 ∧ ∀ a ∈ l,EntOk a:=by
  obtain ⟨fuel,hf⟩:=h0
  exact row_open Elem.ent EntOk Tryz.underlying22 (by kernel_rfl) (fun n cs x hx hb=>ent_open (by omega) hx (Nat.le_of_lt hb)) hf (Nat.le_trans (bulks.part_le (by simp)) (bulks.bound hk))
 obtain ⟨A',n',c',rfl⟩:=okWide_slice Tryz.underlying22 (hval 0 _ v0 rfl rfl)
 obtain ⟨rfl,rfl,rfl⟩ : A' = A0 ∧ n' = n0 ∧ c' = c0:=by simpa [Value.cells] using e0
 obtain ⟨s1,e1,hz1⟩ : ∃ s : ByteArray,v1.cells.toList = [.string s] ∧ s.size < 1048576:=by
  obtain ⟨fuel,hf⟩:=h1
  exact str_open Tryz.underlying9 hf (Nat.le_trans (bulks.part_le (by simp)) (bulks.bound hk))
 obtain ⟨a1,rfl,rfl,rfl,w1⟩:=open_string Tryz.underlying9 (hval 1 _ v1 rfl rfl) h1
 obtain rfl : a1 = s1:=by simpa [Value.cells] using e1
 clear hA0
 refine (treelooks_any hr0 a1 HGL (fits_of hq0)).mono fun e W' ⟨he,bel⟩=>?_
 subst he
 exact ⟨_,rfl,_,_,_,[],_,[],hW',trodAll_mk1 (shut_bool Tryz.underlying4 _),(trodAll_cons_mk (Below.trod laidOut (by kernel_rfl) (of_decide_eq_true (by kernel_rfl)) k0 bel lt0) (trodAll_cons_mk (shut_string Tryz.underlying9 w1) trodAll_mk0)),rfl,bel.frame _,fun h=>by cases h⟩
def cellOf : DataW Unit → Value
 | .lit (.int k z)=>.int k z
 | _=>undef
def cells1 : DataW Unit → List Value
 | .agg l=>l.map cellOf
 | _=>[]
def cells2 : DataW Unit → List Value
 | .agg l=>l.flatMap cells1
 | _=>[]
noncomputable def laidWorld (os : Os) : World:=
 let N:=(World.settled Tryz.prog os).heap.size
 let w0:=World.holding Tryz.prog os ⟨#[.cells #[.string ⟨#[118,97,108,117,101,32,111,117,116,32,111,102,32,114,97,110,103,101]⟩] 250,.cells #[.string ⟨#[105,110,118,97,108,105,100,32,115,121,110,116,97,120]⟩] 250],#[],[]⟩
 let put (h : Array Obj) (g : Nat) (cs : Array Value) : Array Obj:=h.modify g fun
  | .cells _ t frozen=>.cells cs t frozen
  | o=>o
 let h0:=put (put w0.heap 2 #[.iface 248 (.pointer (some ⟨N,0,none⟩))]) 1 #[.iface 248 (.pointer (some ⟨N + 1,0,none⟩))]
 let h1:=put h0 4 (cells1 Rows.laid_math_bits_deBruijn32tab).toArray
 let h2:=put h1 5 (cells1 Rows.laid_math_bits_deBruijn64tab).toArray
 let h3:=put h2 3 (cells1 Rows.laid_internal_strconv_uint64pow10).toArray
 let h4:=put h3 7 (cells2 Rows.laid_unicode_utf8_acceptRanges).toArray
 let h5:=put h4 6 (cells1 Rows.laid_unicode_utf8_first).toArray
 { w0 with heap:=h5 }
theorem laid_met (os : Os) (args : Array Value) : laidMet Tryz.prog Rows.treeLooksUptoRow.laid ((laidWorld os).forCall (fun _ _=>0) ⟨#[],args,[]⟩).memory:=
 laidMet_of_run' 8 (by kernel_rfl) (by kernel_rfl)
abbrev wargs : Array Value:=#[.slice none 0 0,.string ByteArray.empty]
theorem reads (os : Os) {H : Type} (enc : TypeId × Value → H) : ∃ places,DataW.whole enc Tryz.prog ((laidWorld os).forCall (fun _ _=>0) ⟨#[],wargs,[]⟩).memory Tryz.f3.params.toList Rows.treeLooksSpec.vars false wargs.toList 8 = some ([.nil,.lit (.string [])],[],places):=
 ⟨[],by kernel_rfl⟩
theorem lifted (os : Os) (started : os.Started) (H : Type) (enc : TypeId × Value → H) (F : Stop.Interp) :
 ReturnsInHanded {} Tryz.checked os 3 .any ((Rows.OpenSpec.upto Rows.treeLooksSpec).preRow enc Tryz.prog Tryz.f3 Rows.treeLooksUptoRow.domain false Rows.treeLooksUptoRow.laid) (((Rows.OpenSpec.upto Rows.treeLooksSpec).at F).post enc Tryz.prog Tryz.f3 false true false false):=by
 obtain ⟨places,hx⟩:=reads os enc
 refine returnsInHanded_of_row (C:=Tryz.checked) (s:=Rows.OpenSpec.upto Rows.treeLooksSpec) own started (by kernel_rfl) Tryz.func3
  (witness_row_atRef (enc:=enc) (C:=Tryz.checked) false (laidWorld os) wargs rfl (by kernel_rfl) (by kernel_rfl) (by kernel_rfl)
    (OpenSpec.preRow_of_cond 8 hx (by kernel_rfl) (fun k hk=>by cases hk;kernel_rfl) (by kernel_rfl) (laid_met os _))) ?_
 intro W base args ds gs before hval hW _ hcond _ hL hsh _
 exact contract H enc W base args ds gs before hval hW (hcond _ rfl) hL hsh
end Go.Proofs.YtejdpadhemeldaaGreatDoor.treeLooksDone
