/- Lemmas of the walk. -/
import Derived.Test.YtkjbokhnpphimaaGreatDoorV38
set_option maxHeartbeats 40000000
set_option linter.unusedVariables false
set_option linter.unusedSimpArgs false
namespace Go.Proofs.YtkjbokhnpphimaaGreatDoor
open Go.RowKit
open Go.Maps Go.MapKept Go.WideShapes Go.ChangeShapes Go.ChangeMaps
set_option maxRecDepth 100000
def getO(l:List Ent)(s:List UInt8):Option Ent:=if zaJ (zak s)=0 then zc0 l (str (za3 s)) else none
def zkM:Ent:=⟨⟨#[]⟩,[]⟩
def zjl(w:World)(o:Option Ent)(e:Ending)(w':World):Prop:=
 ∃A n c,e=.returned (.tuple #[.agg #[.string (o.getD zkM).name,.slice A n c],.bool o.isSome])∧Row Elem.att (fun _=>True) w' A n c (o.getD zkM).atts∧Ext w w'
theorem Row.aside{α:Type}{E:Elem α}{S:Nat→Prop}{w:World}{A:Option Addr}{n c:Nat}{l:List α}(h:Row E S w A n c l){k:Nat}(hk:¬S k)(i:Nat)(v:Value):Row E S (w.setCell ⟨k,i,none⟩ v) A n c l:=
 h.same fun b hb=>heap_setCell_other _ _ _ _ (fun e=>hk (by have e2:b=k:=e;rw[←e2];exact hb))
theorem zqN{S:Nat→Prop}{w:World}{g B:Nat}{es:Array MapEntry}{clock:Nat}{l:List Ent}(h:TreeAt S w g B es clock l)(s:ByteArray)(hG:Gl w)(hf:∀e∈l,EntFits e) :
 Calls Tryz.prog 52 #[.pointer (some ⟨g,0,none⟩),.string s] w (zjl w (getO l (bys s))):=by
 have HN:∀w',Ext w w'→Calls Tryz.prog 73 #[.string s] w' (zbD w' (bys s)):=fun w' hx=>zc7 s w' (hG.ext hx)
 unfold zbD at HN
 have hsz:(str (za3 (bys s))).size≤maxLen:=by have:=(zcU (bys s)).2;rw[zaI];simp only[maxLen];unfold za3;omega
 have HO:Hid (getO l (bys s)=if zaJ (zak (bys s))=0 then zc0 l (str (za3 (bys s))) else none):=rfl
 generalize getO l (bys s)=o at*
 generalize str (za3 (bys s))=p at*
 have HB0:=hid (Bx.make (Ext.refl w) #[.string ⟨#[]⟩,.slice none 0 0] 58)
 show Calls _ _ _ _ (fun e w'=>zjl w o e w')
 by_cases hc:zaJ (zak (bys s))=0
 ·rw[hc] at HN
  rw[if_pos hc] at HO
  have c0:=h.cell
  rcases h.low.find p with⟨hn,hk⟩|⟨x,A,n,c,y,hn,hne,hr,hx,hk,hv⟩
  ·rw[hn] at HO
   have HLK:∀w',Ext w w'→(Instr.lookup 111 (.map (some B)) (.string p) true).run Tryz.prog w'=.ok (.tuple #[.agg #[.string ⟨#[]⟩,.slice none 0 0],.bool false]) w':=fun w' hx=>(h.map.ext hx).look_none p hsz hk
   have HCP:∀w',Ext w w'→Calls Tryz.prog 41 #[.agg #[.string ⟨#[]⟩,.slice none 0 0]] w' (zbU (fun _=>False) w' ⟨#[]⟩ []):=fun w' _=>zfn (Row.nil _ _ _) _ (by simp) (by simp)
   unfold zbU at HCP
   clear hc hn hk hsz hG hf h
   go_enter Tryz.func52,Tryz.ntmps52
   go_wp2_with (first
    |(go_at_call 73;(with_reducible refine(HN _ HB0.out.ext).mono ?_);rintro e w1 ⟨rfl,hx1⟩;have HB1:=hid (HB0.out.later hx1);have k0:=zaa c0 _ HB1.out.ext;have hlk:=HLK _ HB1.out.ext;have HB2:=hid (HB1.out.later (Ext.alloc _ (.cells #[.string ⟨#[]⟩,.slice none 0 0] 58)));clear hx1)
    | (go_at_call 41;(with_reducible refine (HCP _ HB2.out.ext).mono ?_);rintro e w2 ⟨A2,n2,c2,rfl,hr2,hx2⟩;have HR2:=hid hr2;have HB3:=hid (HB2.out.later hx2);have r0:=HB3.out.cell (i:=0) rfl;have r1:=HB3.out.cell (i:=1) rfl;have f0:=HB3.out.frozen 0;have f1:=HB3.out.frozen 1;clear hr2 hx2))
   (try simp only[Exit.inBlock,Exit.then])
   have HBF:=(HB3.out.set0 (.string ⟨#[]⟩)).set1 (.slice A2 n2 c2)
   refine zaq _ rfl rfl HBF Tryz.underlying58 rfl (by kernel_rfl) rfl ?_
   have hno:¬(False∨(w1.alloc (.cells #[.string ⟨#[]⟩,.slice none 0 0] 58)).heap.size≤w.heap.size):=fun h=>by have:=HB2.out.lt;rcases h with h|h;exact h;omega
   exact⟨A2,n2,c2,by rw[HO.out];rfl,by rw[HO.out];exact((HR2.out.aside hno 0 _).aside hno 1 _).mono fun _ _ _=>trivial,HBF.ext⟩
  ·rw[hn] at HO
   have hm:x∈l:=List.mem_of_find?_eq_some hn
   have HLK:∀w',Ext w w'→(Instr.lookup 111 (.map (some B)) (.string p) true).run Tryz.prog w'=.ok (.tuple #[.agg #[.string p,.slice A n c],.bool true]) w':=fun w' hx'=>by
    have:=(h.map.ext hx').look_some p hsz hx hk
    rw[hv] at this
    exact this
   have HCP:∀w',Ext w w'→Calls Tryz.prog 41 #[.agg #[.string p,.slice A n c]] w' (zbU (fun b=>S b∧b<w.heap.size) w' p x.atts):=fun w' hx=>zfn (hr.ext hx) p (hf x hm).few (hf x hm).vals
   unfold zbU at HCP
   have HNE:Hid (x.name=p):=hne
   clear hc hn hk hsz hG hf h hm hx hv hr hne
   go_enter Tryz.func52,Tryz.ntmps52
   go_wp2_with (first
    |(go_at_call 73;(with_reducible refine(HN _ HB0.out.ext).mono ?_);rintro e w1 ⟨rfl,hx1⟩;have HB1:=hid (HB0.out.later hx1);have k0:=zaa c0 _ HB1.out.ext;have hlk:=HLK _ HB1.out.ext;have HB2:=hid (HB1.out.later (Ext.alloc _ (.cells #[.string p,.slice A n c] 58)));clear hx1)
    | (go_at_call 41;(with_reducible refine (HCP _ HB2.out.ext).mono ?_);rintro e w2 ⟨A2,n2,c2,rfl,hr2,hx2⟩;have HR2:=hid hr2;have HB3:=hid (HB2.out.later hx2);have r0:=HB3.out.cell (i:=0) rfl;have r1:=HB3.out.cell (i:=1) rfl;have f0:=HB3.out.frozen 0;have f1:=HB3.out.frozen 1;clear hr2 hx2))
   (try simp only[Exit.inBlock,Exit.then])
   have HBF:=(HB3.out.set0 (.string p)).set1 (.slice A2 n2 c2)
   refine zaq _ rfl rfl HBF Tryz.underlying58 rfl (by kernel_rfl) rfl ?_
   have hno:¬((S w.heap.size∧w.heap.size<w.heap.size)∨(w1.alloc (.cells #[.string p,.slice A n c] 58)).heap.size≤w.heap.size):=fun h=>by have:=HB2.out.lt;rcases h with h|h<;>omega
   exact⟨A2,n2,c2,by rw[HO.out,←HNE.out];rfl,by rw[HO.out];exact((HR2.out.aside hno 0 _).aside hno 1 _).mono fun _ _ _=>trivial,HBF.ext⟩
 ·rw[if_neg hc] at HO
  have t1:(zaJ (zak (bys s)) != 0)=true:=by rw[bne_iff_ne];exact hc
  generalize zaJ (zak (bys s))=cd at*
  clear hc hsz hG hf h
  go_enter Tryz.func52,Tryz.ntmps52
  go_wp2_with(go_at_call 73;(with_reducible refine(HN _ HB0.out.ext).mono ?_);rintro e w1 ⟨rfl,hx1⟩;have HB1:=hid (HB0.out.later hx1);have r0:=HB1.out.cell (i:=0) rfl;have r1:=HB1.out.cell (i:=1) rfl;have f0:=HB1.out.frozen 0;have f1:=HB1.out.frozen 1;clear hx1)
  (try simp only[Exit.inBlock,Exit.then])
  have HBF:=(HB1.out.set0 (.string ⟨#[]⟩)).set1 (.slice none 0 0)
  refine zaq _ rfl rfl HBF Tryz.underlying58 rfl (by kernel_rfl) rfl ?_
  exact⟨none,0,0,by rw[HO.out];rfl,by rw[HO.out];exact Row.nil _ _ _,HBF.ext⟩
def kidP(s:List UInt8)(e:Ent):Bool:=decide ((zaT (nmE e)).1=za3 s)
def zhg(r:List Ent)(s:List UInt8):List ByteArray:=if zaJ (zak s)=0 then(r.filter (kidP s)).map (·.name) else[]
def zfc(w:World)(l:List ByteArray)(e:Ending)(w':World):Prop:=∃A n c,e=.returned (.slice A n c)∧Row Elem.str (fun _=>True) w' A n c l∧Ext w w'
theorem zle{l zs:List Ent}(hN:Named l)(hp:zs.Perm l)(s:List UInt8) :
 (∀x∈(zs.filter (kidP s)).map (·.name),zbZ (bys x)=true)∧Apart bys ((zs.filter (kidP s)).map (·.name))∧sortN bys ((zs.filter (kidP s)).map (·.name))=((sortN nmE l).filter (kidP s)).map (·.name):=by
 have h1:∀x∈(zs.filter (kidP s)).map (·.name),zbZ (bys x)=true:=fun x hx=>by
  obtain⟨e,he,rfl⟩:=List.mem_map.1 hx
  exact hN.self e (hp.mem_iff.1 (List.mem_filter.1 he).1)
 have h2:Apart bys ((zs.filter (kidP s)).map (·.name)):=by
  show List.Pairwise _ _
  rw[List.pairwise_map]
  exact List.Pairwise.filter _ (hN.apart.perm hp)
 obtain⟨p,q⟩:=zbo hN.self hN.apart
 refine⟨h1,h2,(zcL h1 h2 (((p.trans hp.symm).filter _).map _) ?_).symm⟩
 show List.Pairwise _ _
 rw[List.pairwise_map]
 exact List.Pairwise.filter _ q
theorem GrowM.strs{S:Nat→Prop}{L:Option Nat}{w wr:World}{v:Value}{l:List ByteArray}(h:GrowM Elem.str S 9 L w wr v l):GrowS w wr v l:=by
 obtain⟨⟨vss,h1,h2,h3⟩,h4,-⟩:=h
 have e:vss=l.map fun x=>[.string x]:=by
  apply List.ext_getElem?
  intro i
  rw[List.getElem?_map]
  by_cases hi:i<l.length
  ·rw[List.getElem?_eq_getElem hi,List.getElem?_eq_getElem (show i<vss.length by omega)]
   have:=h3 i _ _ (List.getElem?_eq_getElem (show i<vss.length by omega)) (List.getElem?_eq_getElem hi)
   simp only[Elem.str] at this
   rw[this]
   rfl
  ·rw[List.getElem?_eq_none (by omega),List.getElem?_eq_none (by omega)]
   rfl
 refine⟨?_,h4⟩
 have e2:vss.flatten=l.map .string:=by
  rw[e]
  clear h1 h2 h3 h4 e
  induction l with
  |nil=>rfl
  |cons x t ih=>simpa using ih
 rw[e2] at h2
 exact h2
theorem zp0:(Tryz.prog.info? 9).map (fun i=>(i.zero,i.size,i.bytes))=some (some (.string ByteArray.empty),Elem.str.k,16):=by kernel_rfl
theorem zi3{w:World}{g B:Nat}{es:Array MapEntry}{clock:Nat}{l:List Ent}(h:TreeAt (fun b=>b≠B) w g B es clock l)(s:ByteArray)(hG:Gl w)(hn:l.length≤1000000)(hN:Named l) :
 Calls Tryz.prog 55 #[.pointer (some ⟨g,0,none⟩),.string s] w (zfc w (zhg (sortN nmE l) (bys s))):=by
 have HNM:∀w',Ext w w'→Calls Tryz.prog 73 #[.string s] w' (zbD w' (bys s)):=fun w' hx=>zc7 s w' (hG.ext hx)
 unfold zbD at HNM
 have HO:Hid (zhg (sortN nmE l) (bys s)=if zaJ (zak (bys s))=0 then((sortN nmE l).filter (kidP (bys s))).map (·.name) else[]):=rfl
 have HKP:Hid (∀e,kidP (bys s) e=decide ((zaT (nmE e)).1=za3 (bys s))):=fun e=>rfl
 have HKS:Hid (∀zs:List Ent,zs.Perm l→(∀x∈(zs.filter (kidP (bys s))).map (·.name),zbZ (bys x)=true)∧Apart bys ((zs.filter (kidP (bys s))).map (·.name))∧sortN bys ((zs.filter (kidP (bys s))).map (·.name))=((sortN nmE l).filter (kidP (bys s))).map (·.name)):=fun zs hp=>zle hN hp (bys s)
 generalize zhg (sortN nmE l) (bys s)=ks at*
 generalize kidP (bys s)=P at*
 obtain⟨ns,hns⟩:∃ns,ns=str (za3 (bys s)):=⟨_,rfl⟩
 have HNS:Hid (za3 (bys s)=bys ns):=by show _=_;rw[hns,zao]
 rw[←hns] at HNM
 have HT:=hid h
 have HG:=hid hG
 have HNN:=hid hn
 have cg:=h.cell
 clear hns
 show Calls _ _ _ _ (fun e w'=>zfc w ks e w')
 unfold zfc
 by_cases hc:zaJ (zak (bys s))=0
 ·rw[hc] at HNM
  rw[if_pos hc] at HO
  clear h hG hn hN hc
  go_enter Tryz.func55,Tryz.ntmps55
  go_wp2_with (first
   |(go_at_call 73;(with_reducible refine(HNM _ (Ext.refl _)).mono ?_);rintro e w1 ⟨rfl,hx1⟩;have HX1:=hid hx1;have k0:=zaa cg _ hx1;have HT1:=hid (HT.out.ext hx1);clear hx1)
   | (at_range;refine zht rfl _ rfl rfl HT1.out ?_;intro w3 h3 hx3;have HTR3:=hid h3;have HX3:=hid hx3;clear h3 hx3))
  go_frame
  clear cg k0 HNM
  have HG1:=hid (HG.out.ext HX1.out)
  go_loopw [7] (fun v wq=>∃zs,Hid (TRange (fun b=>b≠B) w1 wq g B w1.heap.size es clock l zs)∧Hid (GrowM Elem.str (fun _=>True) 9 (some w1.heap.size) w1 wq v (((zs.map (·.2)).filter P).map (·.name)))) (fun _ wq=>wq.rangeLeft B w1.heap.size)
  case atStart=>exact⟨[],HTR3.out,GrowM.nil HX3.out (fun g hg=>by injection hg with hg;rw[←hg];exact⟨Nat.le_refl _,HTR3.out.rng.lt⟩)⟩
  case round=>
   obtain⟨zs,HTZ,HGR⟩:=hrel
   go_wp2_with(at_next;refine zjc rfl _ rfl rfl HTZ.out ?_ ?_)
   ·intro hperm
    have HXW:=hid (HX1.out.trans HTZ.out.ext)
    obtain⟨hq1,hq2,hq3⟩:=HKS.out _ hperm
    rw[←HO.out] at hq3
    have hq4:(((zs.map (·.2)).filter P).map (·.name)).length≤4000000:=by
     have h2:=HNN.out
     have h3:=List.length_filter_le P (zs.map (·.2))
     have h4:=hperm.length_eq
     rw[List.length_map]
     omega
    have HGS:=hid HGR.out.strs
    rcases HGR.out.forms with⟨rfl,hz⟩|⟨g9,n9,c9,rfl,hn9⟩
    ·have HL:Hid (ks=[]):=by
      rw[hz] at hq3
      exact hq3.symm
     clear hz hperm hq1 hq2 hq3 hq4
     go_wp2_with(go_at_call 105;(with_reducible refine(zj9 _).mono ?_);rintro e w5 ⟨rfl,rfl⟩)
     go_ret
     exact⟨none,0,0,rfl,by rw[HL.out];exact Row.nil _ _ _,HXW.out⟩
    ·have HSR:Calls Tryz.prog 105 #[.slice (some ⟨g9,0,none⟩) n9 c9,zpH] wr fun e w'=>e=.returned (.tuple #[])∧GrowS w1 w' (.slice (some ⟨g9,0,none⟩) n9 c9) ks∧wr.grownBy w' (some g9):=by
      have:=zjV HG1.out HGS.out hq1 hq2 hq4
      rw[hq3] at this
      exact this
     clear hperm hq1 hq2 hq3 hq4 hn9
     go_wp2_with(go_at_call 105;(with_reducible refine HSR.mono ?_);rintro e w5 ⟨rfl,hg5,-⟩;have HG5:=hid hg5;clear hg5)
     go_ret
     obtain⟨A6,n6,c6,hv,hr⟩:=HG5.out.rowN
     rw[hv]
     exact⟨A6,n6,c6,rfl,hr.mono fun _ _ _=>trivial,HX1.out.trans HG5.out.ext⟩
   ·intro x e w4 A4 n4 c4 hmem hx hT4 hg4 hlt4 hen hr4
    have HTN:=hid hT4
    have HLT:=hid hlt4
    have HCN:=hid hT4.count
    have HGK:=hid (HGR.out.turnL hg4)
    have HPA:∀w',Ext w4 w'→Calls Tryz.prog 29 #[.string e.name] w' (zcj w' (bys e.name)):=fun w' hx=>zd6 e.name w' (HG1.out.ext (hT4.ext.trans hx))
    unfold zcj at HPA
    have HLN:Hid ((((zs.map (·.2)).filter P).map (·.name)).length≤4000000):=by
     show _≤_
     have h1:=HCN.out
     have h2:=HNN.out
     rw[List.length_append] at h1
     have h3:=List.length_filter_le P (zs.map (·.2))
     rw[List.length_map] at h3 ⊢
     omega
    obtain⟨ps,hps⟩:∃ps,ps=str (zaT (bys e.name)).1:=⟨_,rfl⟩
    have HPE:Hid (P e=decide (ps=ns)):=by
     show _=_
     rw[HKP.out e,HNS.out,hps]
     by_cases hq:(zaT (nmE e)).1=bys ns
     ·rw[decide_eq_true hq,decide_eq_true (show str (zaT (bys e.name)).1=ns by rw[←zaK ns];exact congrArg str hq)]
     ·rw[decide_eq_false hq,decide_eq_false (fun h=>hq (by rw[←h,zao]))]
    rw[←hps] at HPA
    clear hps hmem hx hT4 hg4 hlt4 hr4
    by_cases hk:ps=ns
    ·have t2:(ps.toList==ns.toList)=true:=zco hk
     have HMP:Hid (((zs.map (·.2)).filter P).map (·.name)++[e.name]=(((zs++[(x,e)]).map (·.2)).filter P).map (·.name)):=by
      show _=_
      rw[List.map_append,List.filter_append,List.map_append]
      simp[HPE.out,hk]
     clear hk
     go_wp2_with (first
      |(go_at_call 29;(with_reducible refine(HPA _ (Ext.refl _)).mono ?_);rintro e5 w5 ⟨rfl,hx5⟩;have HX5:=hid hx5;have HG5:=hid (HGK.out.later hx5);clear hx5)
      | (at_builtin;refine zcT Tryz.underlying53 zp0 rfl (by decide) rfl _ _ rfl _ _ rfl HG5.out (u:=[.string e.name]) e.name rfl (by intro c hc;simp at hc;subst hc;rfl) rfl rfl HLN.out ?_;intro v6 w6 hg6 hq6 hb6;have HG6:=hid hg6;have HX6:=hid (HX5.out.trans (Ext.alloc _ (.cells #[.string e.name] 9)));have HT6:=hid ((HTN.out.later HX6.out).kept hq6 (fun e=>(HG5.out.apart _ rfl).1 e.symm) (fun k hk=>(HG5.out.lt hk).1));clear hg6 hq6 hb6))
     refine⟨⟨zs++[(x,e)],HT6.out,?_⟩,?_⟩
     ·rw[←HMP.out]
      exact HG6.out
     ·rw[HT6.out.rng.left_eq,←HTN.out.rng.left_eq]
      exact HLT.out
    ·have t2:(ps.toList==ns.toList)=false:=zch hk
     have HMP:Hid (((zs.map (·.2)).filter P).map (·.name)=(((zs++[(x,e)]).map (·.2)).filter P).map (·.name)):=by
      show _=_
      rw[List.map_append,List.filter_append,List.map_append]
      simp[HPE.out,hk]
     clear hk
     go_wp2_with(go_at_call 29;(with_reducible refine(HPA _ (Ext.refl _)).mono ?_);rintro e5 w5 ⟨rfl,hx5⟩;have HX5:=hid hx5;have HG5:=hid (HGK.out.later hx5);clear hx5)
     have HT6:=hid (HTN.out.later HX5.out)
     refine⟨⟨zs++[(x,e)],HT6.out,?_⟩,?_⟩
     ·rw[←HMP.out]
      exact HG5.out
     ·rw[HT6.out.rng.left_eq,←HTN.out.rng.left_eq]
      exact HLT.out
 ·rw[if_neg hc] at HO
  have t1:(zaJ (zak (bys s)) != 0)=true:=by rw[bne_iff_ne];exact hc
  generalize zaJ (zak (bys s))=cd at*
  clear h hG hn hN hc
  go_enter Tryz.func55,Tryz.ntmps55
  go_wp2_with(go_at_call 73;(with_reducible refine(HNM _ (Ext.refl _)).mono ?_);rintro e w1 ⟨rfl,hx1⟩;have HX1:=hid hx1;clear hx1)
  go_ret
  exact⟨none,0,0,rfl,by rw[HO.out];exact Row.nil _ _ _,HX1.out⟩
end Go.Proofs.YtkjbokhnpphimaaGreatDoor
