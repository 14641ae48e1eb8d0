/- Lemmas of the walk. -/
import Derived.Test.YtkjbokhnpphimaaGreatDoorV11
import Derived.Test.YtkjbokhnpphimaaGreatDoorV03
import Derived.Test.YtkjbokhnpphimaaGreatDoorV12
import Derived.Lib.AppendIntMem
set_option maxHeartbeats 40000000
set_option linter.unusedVariables false
set_option linter.unusedSimpArgs false
namespace Go.Proofs.YtkjbokhnpphimaaGreatDoor
open Go.RowKit
set_option maxRecDepth 100000
theorem zcX(l:List (List UInt8)):(strs l).map (·.data.toList)=l:=by
 induction l with
 |nil=>rfl
 |cons x t ih=>exact congrArg (x :: ·) ih
theorem zlw(s:ByteArray)(w:World)(hG:Gl w)(hs:s.size≤4000000) :
 Calls Tryz.prog 210 #[.string s,.string ⟨#[32]⟩] w fun e w'=>∃A n,e=.returned (.slice A n n)∧Row Elem.str (fun _=>True) w' A n n (strs (zaB [] (bys s)))∧Ext w w':=by
 obtain⟨m,hm⟩:=hG.maxlen
 refine(Tryz.strings_Split s ⟨#[32]⟩ m w (by omega) hm (by decide)).mono ?_
 rintro e w' ⟨rfl,rfl⟩
 have hlen:=Lib.splitB_all ⟨#[32]⟩ (by decide) 0 _ s rfl
 have hle:=Lib.countB_le ⟨#[32]⟩ (by decide) s.size s (Nat.le_refl _)
 have hd:=Lib.splitB_data ⟨#[32]⟩ 0 (Lib.countB s ⟨#[32]⟩) s
 have h1:Lib.splitB ⟨#[32]⟩ 0 (Lib.countB s ⟨#[32]⟩) s=strs (zaB [] (bys s)):=by
  rw[←zmD _ (bys s) (Nat.le_refl _)]
  have e:Lib.splitK [32] 0 (Lib.count (bys s) [32]) (bys s)=(Lib.splitB ⟨#[32]⟩ 0 (Lib.countB s ⟨#[32]⟩) s).map (·.data.toList):=hd.symm
  rw[e]
  show _=List.map str (List.map _ _)
  rw[List.map_map]
  conv=>lhs;rw[←List.map_id (Lib.splitB ⟨#[32]⟩ 0 (Lib.countB s ⟨#[32]⟩) s)]
  exact List.map_congr_left fun x _=>(zaK x).symm
 have hl:=zeO w (Lib.splitB ⟨#[32]⟩ 0 (Lib.countB s ⟨#[32]⟩) s) 9 (by rw[hlen];unfold maxLen;omega)
 rw[hlen] at hl
 rw[h1] at hl ⊢
 exact⟨_,_,rfl,hl,Ext.alloc _ _⟩
theorem zpb:zhs:=zlw
theorem zet(l:List ByteArray)(sep:ByteArray){S:Nat→Prop}{A:Option Addr}{n c:Nat}{w:World}(h:Row Elem.str S w A n c l)(hn:l.length≤4000001)(hl:(Lib.join (l.map (·.data.toList)) sep.data.toList).length≤140737488355328) :
 Calls Tryz.prog 64 #[.slice A n c,.string sep] w fun e w'=>e=.returned (.string (str (Lib.join (l.map bys) (bys sep))))∧Ext w w':=by
 have hlen:=h.len
 rcases Nat.eq_zero_or_pos n with h0|h0
 ·have hnil:l=[]:=h.nil_iff.1 h0
  subst hnil h0
  refine(Tryz.strings_Join_none A c sep w).mono ?_
  rintro e w' ⟨rfl,rfl⟩
  exact⟨rfl,Ext.refl _⟩
 ·obtain⟨b,o,rfl,hc⟩:=h.str_cell h0
  have hc0:=hc 0 h0
  subst hlen
  refine(Tryz.strings_Join b o c l sep w (fun j x hj=>?_) (World.block_lt_of_cell? w _ hc0) (by omega) h.cap hl).mono ?_
  ·have hj':=(List.getElem?_eq_some_iff.1 hj).1
   rw[hc j hj',hj]
   rfl
  ·rintro e w' ⟨rfl,hx⟩
   exact⟨rfl,hx⟩
theorem zhG(s:ByteArray)(w:World)(hG:Gl w)(hs:s.size≤4000000) :
 Calls Tryz.prog 191 #[.string s] w fun e w'=>∃A n c,e=.returned (.slice A n c)∧Row Elem.str (fun b=>w.heap.size≤b) w' A n c (strs (zaU (bys s)))∧Ext w w':=by
 refine(zoK zpb s w hG hs).mono ?_
 rintro e w' ⟨v,rfl,hg⟩
 have hx:=hg.ext
 obtain⟨A,c,rfl,hr⟩:=hg.row
 exact⟨A,_,c,rfl,hr,hx⟩
theorem zeW:∀(l cur:List UInt8),((zaB cur l).map List.length).sum≤cur.length+l.length
 |[],cur=>by simp[zaB]
 |c::t,cur=>by
  unfold zaB
  split
  ·have:=zeW t [];simp only[List.map_cons,List.sum_cons,List.length_nil,List.length_cons] at this ⊢;omega
  ·have:=zeW t (cur++[c]);simp only[List.length_append,List.length_cons,List.length_nil] at this ⊢;omega
theorem zkm:∀ws:List (List UInt8),(zaD ws).length≤(ws.map List.length).sum+ws.length
 |[]=>by simp[zaD]
 |[x]=>by simp[zaD]
 |x::y::t=>by
  have:=zkm (y::t)
  simp only[zaD,List.length_append,List.length_cons,List.map_cons,List.sum_cons] at this ⊢
  omega
theorem zir(p:List UInt8→Bool):∀l:List (List UInt8),((l.filter p).map List.length).sum≤(l.map List.length).sum
 |[]=>by simp
 |x::t=>by
  have:=zir p t
  rw[List.filter_cons]
  split<;>simp only[List.map_cons,List.sum_cons]<;>omega
theorem zqt(v:List UInt8):(zaD (zaU v)).length≤2 * v.length+1:=by
 have h1:=zkm (zaU v)
 have h2:=zir (fun x=>decide (x≠[])) (zaB [] v)
 have h3:=zeW v []
 have h4:=zb5 v []
 have h5:(zaU v).length≤(zaB [] v).length:=List.length_filter_le _ _
 have h6:((zaU v).map List.length).sum≤((zaB [] v).map List.length).sum:=h2
 simp only[List.length_nil] at h3
 omega
theorem zm1(v:List UInt8):(zaU v).length≤v.length+1:=Nat.le_trans (List.length_filter_le _ _) (zb5 v [])
theorem zc5(l:List (List UInt8)):(strs l).map bys=l:=zcX l
theorem zj0(w:World)(e:TypeId)(s:ByteArray):Ext w (Lib.bytesWorld w e s):=by
 refine⟨?_,?_,?_,by rw[Lib.bytesWorld_size];omega,fun k hk=>Lib.bytesWorld_at_old w e s k hk⟩
 all_goals
  simp only[Lib.bytesWorld,World.freeze,World.alloc,World.drew]
  split<;>rfl
theorem zeZ(s:ByteArray)(n:Int)(w:World)(hs:s.size≤4000000)(h:Lib.parseIntB 64 (bys s)=.ok n) :
 Calls Tryz.prog 192 #[.string s,.int .i64 10,.int .i64 64] w fun e w'=>e=.returned (.tuple #[.int .i64 n,.nilIface])∧Ext w w':=by
 refine(Tryz.strconv_ParseInt_10_at64_ok s (by omega) n h w).mono ?_
 rintro e w' ⟨rfl,rfl|⟨t,rfl⟩⟩
 ·exact⟨rfl,Ext.refl _⟩
 ·exact⟨rfl,zj0 _ _ _⟩
theorem zj4(s:ByteArray)(w:World)(hG:Gl w)(hs:s.size≤4000000)(h:∀n,Lib.parseIntB 64 (bys s)≠.ok n) :
 Calls Tryz.prog 192 #[.string s,.int .i64 10,.int .i64 64] w fun e w'=>(∃n tp a,e=.returned (.tuple #[.int .i64 n,.iface tp (.pointer (some a))]))∧Ext w w':=by
 obtain⟨-,⟨t1,p1,h1⟩,⟨t2,p2,h2⟩,-⟩:=hG
 rcases hp:Lib.parseIntB 64 (bys s) with n|_|_
 ·exact absurd hp (h n)
 ·refine(Any.strconv_ParseInt_10_at64_syntax_var Tryz.laysC174 s (by omega) hp t1 p1 w h1).mono ?_
  rintro e w' ⟨N,rfl,_,_,hx⟩
  exact⟨⟨_,_,_,rfl⟩,hx⟩
 ·refine(Tryz.strconv_ParseInt_10_at64_range_var s (by omega) hp t2 p2 w h2).mono ?_
  rintro e w' ⟨N,rfl,_,_,hx⟩
  exact⟨⟨_,_,_,rfl⟩,hx⟩
theorem zbl(n:Int)(w:World)(hG:Gl w)(h0:-9223372036854775808≤n)(h1:n≤9223372036854775807) :
 Calls Tryz.prog 193 #[.int .i64 n,.int .i64 10] w fun e w'=>e=.returned (.string (str (Lib.itoa n)))∧Ext w w':=by
 refine(Tryz.strconv_FormatInt_10 n h0 h1 w hG.pow).mono ?_
 rintro e w' ⟨rfl,k,os,rfl⟩
 exact⟨rfl,Lib.below_grow _ _ (Nat.le_refl _) _ _⟩
theorem zgg(s:ByteArray)(w:World) :
 Calls Tryz.prog 194 #[.string s,.string ⟨#[45]⟩] w fun e w'=>e=.returned (.string (str (zbb (bys s))))∧w'=w:=by
 refine(Tryz.strings_TrimPrefix s ⟨#[45]⟩ w).mono ?_
 rintro e w' ⟨rfl,rfl⟩
 refine⟨?_,rfl⟩
 have e:Lib.trimPrefix s.data.toList (ByteArray.mk #[45]).data.toList=zbb (bys s):=zgU (bys s)
 rw[e]
theorem zaP(s:ByteArray)(k:Int)(c:UInt8)(hc:k.toNat.toUInt8=c)(w:World)(h:c ∉ bys s) :
 Calls Tryz.prog 182 #[.string s,.int .u8 k] w fun e w'=>e=.returned (.int .i64 (-1))∧w'=w:=by
 refine(Tryz.strings_IndexByte s k w).mono ?_
 rintro e w' ⟨rfl,rfl⟩
 have e:Lib.indexByte s.data.toList (k.toNat.toUInt8) = -1:=zpu (by rw[hc];exact h)
 rw[e]
 exact⟨rfl,rfl⟩
theorem zbY(s:ByteArray)(k:Int)(c:UInt8)(hc:k.toNat.toUInt8=c)(w:World)(h:c∈bys s) :
 Calls Tryz.prog 182 #[.string s,.int .u8 k] w fun e w'=>(∃i:Nat,e=.returned (.int .i64 i))∧w'=w:=by
 refine(Tryz.strings_IndexByte s k w).mono ?_
 rintro e w' ⟨rfl,rfl⟩
 obtain⟨i,e,_⟩:=zpQ (l:=s.data.toList) (c:=k.toNat.toUInt8) (by rw[hc];exact h)
 rw[e]
 exact⟨⟨i,rfl⟩,rfl⟩
theorem zkA(s:ByteArray)(k:Int)(c:UInt8)(hc:k.toNat.toUInt8=c)(n:Int)(h:Lib.indexByte (bys s) c=n)(w:World) :
 Calls Tryz.prog 182 #[.string s,.int .u8 k] w fun e w'=>e=.returned (.int .i64 n)∧w'=w:=by
 refine(Tryz.strings_IndexByte s k w).mono ?_
 rintro e w' ⟨rfl,rfl⟩
 have e:Lib.indexByte s.data.toList (k.toNat.toUInt8)=n:=by rw[hc];exact h
 rw[e]
 exact⟨rfl,rfl⟩
theorem zbr(x:UInt8):((x.toNat:Int)).toNat.toUInt8=x:=by rw[Int.toNat_natCast];exact UInt8.ofNat_toNat
end Go.Proofs.YtkjbokhnpphimaaGreatDoor
