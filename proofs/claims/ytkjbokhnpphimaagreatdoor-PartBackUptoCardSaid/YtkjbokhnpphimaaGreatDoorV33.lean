/- Lemmas of the walk. -/
import Derived.Test.YtkjbokhnpphimaaGreatDoorV32
import Derived.Test.YtkjbokhnpphimaaGreatDoorSl
set_option maxHeartbeats 40000000
set_option linter.unusedVariables false
set_option linter.unusedSimpArgs false
namespace Go.Proofs.YtkjbokhnpphimaaGreatDoor
section
open Go.RowKit
set_option maxRecDepth 100000
abbrev nmE(e:Ent):List UInt8:=bys e.name
structure Ky where
 parts:List (List UInt8)
 ok:Bool
def Elem.ky:Elem Ky:=
 ⟨2,by decide,fun S w v a=>∃A n c,v=[.slice A n c,.bool a.ok]∧Row Elem.str S w A n c (strs a.parts)∧n≤1000000,fun⟨_,_,_,h,_⟩=>by rw[h];rfl,fun⟨A,n,c,h,hr,hn⟩ hk=>⟨A,n,c,h,hr.same hk,hn⟩,fun⟨A,n,c,h,hr,hn⟩ hs=>⟨A,n,c,h,hr.mono hs,hn⟩⟩
def zic(a b:Ky):Bool:=a.ok&&b.ok&&decide (cmpL a.parts.reverse b.parts.reverse<0)
def keyE(s:List UInt8):Ky:=⟨okL (zak s),zaJ (zak s)==0⟩
theorem zoE(a b:List UInt8):zic (keyE a) (keyE b)=zbA a b:=by
 unfold zic keyE zbA zbc
 by_cases h1:zaJ (zak a)=0
 ·by_cases h2:zaJ (zak b)=0
  ·rw[if_pos ⟨h1,h2⟩];simp[h1,h2]
  ·rw[if_neg (fun h=>h2 h.2)];simp[h2]
 ·rw[if_neg (fun h=>h1 h.1)];simp[h1]
theorem znx{S T:Nat→Prop}{A B:Option Addr}{n c m d:Nat}{x y:Ky}{w:World}(h:Row Elem.str S w A n c (strs x.parts))(k:Row Elem.str T w B m d (strs y.parts))(hn:n≤1000000)(hm:m≤1000000) :
 Calls Tryz.prog 46 #[.agg #[.slice A n c,.bool x.ok],.agg #[.slice B m d,.bool y.ok]] w fun e w'=>e=.returned (.bool (zic x y))∧Ext w w':=by
 have HO:∀w',Ext w w'→Calls Tryz.prog 96 #[.slice A n c,.slice B m d] w' fun e w''=>e=.returned (.int .i64 (cmpL x.parts.reverse y.parts.reverse))∧Ext w' w'':=fun w' hx=>znz (h.ext hx) (k.ext hx) hn hm
 have HA:Hid (zic x y=(x.ok&&y.ok&&decide (cmpL x.parts.reverse y.parts.reverse<0))):=rfl
 generalize zic x y=r at*
 generalize cmpL x.parts.reverse y.parts.reverse=q at*
 obtain⟨xp,xo⟩:=x
 obtain⟨yp,yo⟩:=y
 simp only at*
 clear h k hn hm
 cases xo with
 |false=>
  go_enter Tryz.func46,Tryz.ntmps46
  go_wp2
  go_ret
  exact⟨by rw[HA.out];rfl,(Ext.alloc _ _).trans (Ext.alloc _ _)⟩
 |true=>
  cases yo with
  |false=>
   go_enter Tryz.func46,Tryz.ntmps46
   go_wp2
   go_ret
   exact⟨by rw[HA.out];rfl,(Ext.alloc _ _).trans (Ext.alloc _ _)⟩
  |true=>
   have hq:(decide (q<0)=true∨decide (q<0)=false):=by cases decide (q<0)<;>simp
   rcases hq with hq|hq
   ·rw[hq] at HA
    go_enter Tryz.func46,Tryz.ntmps46
    go_wp2_with(go_at_call 96;(with_reducible refine(HO _ ((Ext.alloc _ _).trans (Ext.alloc _ _))).mono ?_);rintro e w1 ⟨rfl,hx1⟩;have HX1:=hid (((Ext.alloc _ _).trans (Ext.alloc _ _)).trans hx1);clear hx1)
    go_ret
    exact⟨by rw[HA.out];rfl,HX1.out⟩
   ·rw[hq] at HA
    go_enter Tryz.func46,Tryz.ntmps46
    go_wp2_with(go_at_call 96;(with_reducible refine(HO _ ((Ext.alloc _ _).trans (Ext.alloc _ _))).mono ?_);rintro e w1 ⟨rfl,hx1⟩;have HX1:=hid (((Ext.alloc _ _).trans (Ext.alloc _ _)).trans hx1);clear hx1)
    go_ret
    exact⟨by rw[HA.out];rfl,HX1.out⟩
theorem GrowM.forms{α:Type}{E:Elem α}{S:Nat→Prop}{T:TypeId}{L:Option Nat}{w wr:World}{v:Value}{l:List α}(h:GrowM E S T L w wr v l):(v=.slice none 0 0∧l=[])∨∃g n cap,v=.slice (some ⟨g,0,none⟩) n cap∧n=l.length:=by
 obtain⟨⟨vss,h1,h2,h3⟩,h4,h5⟩:=h
 rcases h2.2 with⟨h',h0⟩|⟨g,cap,cur,h',hb,hg,hnc,hcm,hcs,htake⟩
 ·exact .inl ⟨h',List.eq_nil_of_length_eq_zero h0⟩
 ·exact .inr ⟨g,_,cap,h',rfl⟩
theorem GrowM.turnL{α:Type}{E:Elem α}{S:Nat→Prop}{T:TypeId}{g:Nat}{w wr w':World}{v:Value}{l:List α}(h:GrowM E S T (some g) w wr v l)(hg:wr.grownBy w' (some g)):GrowM E S T (some g) w w' v l:=by
 obtain⟨⟨vss,h1,h2,h3⟩,h4,h5⟩:=h
 obtain⟨ha,hb,hc⟩:=h5 g rfl
 refine⟨⟨vss,h1,h2.kept hg (.inr ha),fun i u x hi hl=>zbe (h3 i u x hi hl) (fun b hS hlt=>hg.block b hlt hS.2.2) (fun b hS _=>hS)⟩,Below.grown h4 hg h4.size (fun k hk=>by injection hk with hk;rw[←hk];exact hb),fun g' hg'=>⟨(h5 g' hg').1,(h5 g' hg').2.1,Nat.lt_of_lt_of_le (h5 g' hg').2.2 hg.size⟩⟩
structure Named(l:List Ent):Prop where
 self:∀e∈l,zbZ (nmE e)=true
 apart:Apart nmE l
end
section
open Go.RowKit Go.Sort
set_option maxRecDepth 100000
abbrev zh1:Type:={s:ByteArray // zbZ (bys s)=true}
abbrev encN(x:zh1):Value:=.string x.1
abbrev cmpN(x y:zh1):Int:=zbc (bys x.1) (bys y.1)
abbrev zpH:Value:=.func (.func 60) #[] #[]
theorem zpx[Inhabited zh1]:SWO (ltOf cmpN):=by
 have key:∀l:List zh1,Ordly (fun x y=>zbA (bys x.1) (bys y.1)) l:=fun l=>zd8 (fun x:zh1=>bys x.1) l fun x _=>(zbE x.2).1
 have hn:∀x y z:zh1,ltOf cmpN x y=false→ltOf cmpN y z=false→ltOf cmpN x z=false:=fun x y z h1 h2=>(key [x,y,z]).tran z (by simp) y (by simp) x (by simp) h2 h1
 have ha:∀x y:zh1,ltOf cmpN x y=true→ltOf cmpN y x=false:=fun x y h=>(key [x,y]).asym x (by simp) y (by simp) h
 refine⟨fun x=>?_,fun x y z h1 h2=>?_,hn⟩
 ·cases h:ltOf cmpN x x with
  |false=>rfl
  |true=>rw[←h];exact ha x x h
 ·cases h:ltOf cmpN x z with
  |true=>rfl
  |false=>
   have:=hn x z y h (ha y z h2)
   rw[h1] at this
   cases this
theorem zjV{w0 w:World}{g n cap:Nat}{l:List ByteArray}(hG:Gl w0)(h:GrowS w0 w (.slice (some ⟨g,0,none⟩) n cap) l)(hs:∀s∈l,zbZ (bys s)=true)(ha:Apart bys l)(hlm:l.length≤4000000) :
 Calls Tryz.prog 105 #[.slice (some ⟨g,0,none⟩) n cap,zpH] w fun e w'=>
  e=.returned (.tuple #[])∧GrowS w0 w' (.slice (some ⟨g,0,none⟩) n cap) (sortN bys l)∧w.grownBy w' (some g):=by
 have hnl:n=l.length:=by
  rcases h.own.2 with⟨h',_⟩|⟨g',cap',cur,h',_⟩
  ·cases h'
  ·injection h' with _ h2 _
 subst hnl
 cases l with
 |nil=>
  have key:=AnyF.slices_SortFunc_none (P:=Tryz.prog) { Tryz.sortS with } (some ⟨g,0,none⟩) cap zpH w
  refine Calls.mono key ?_
  rintro e w' ⟨he,rfl⟩
  exact⟨he,h,⟨rfl,rfl,rfl,Nat.le_refl _,fun _ _ _=>rfl⟩⟩
 |cons x0 t=>
  have hx0:zbZ (bys x0)=true:=hs x0 (by simp)
  generalize x0::t=l at hs ha h hlm ⊢
  letI inst:Inhabited zh1:=⟨⟨x0,hx0⟩⟩
  obtain⟨d,hd⟩:∃d:Array zh1,d.toList.map (·.1)=l:=⟨(l.attach.map fun s=>(⟨s.1,hs s.1 s.2⟩:zh1)).toArray,by simp⟩
  have hdl:d.size=l.length:=by rw[←hd];simp
  have hown:=h.own
  have he:l.map Value.string=d.toList.map encN:=by rw[←hd,List.map_map];rfl
  rw[he] at hown
  obtain⟨hH,hbase,hlt,-,hmx⟩:=Sxx.own_holds (enc:=encN) hown
  have hcmp:CmpLays1 Tryz.prog 60 #[] encN cmpN g 0 d.size w:=by
   intro m os dk hdk x y
   have hX:Ext w0 (sortWorld encN w g 0 m dk os):=Go.RowKit.Below.trans h.ext (zgb Sxx.sw_grown (zaz h.ext) hbase)
   refine(Drw.calls_up (zdO x.1 y.1 _ (hG.ext hX))).mono ?_
   rintro e w' ⟨⟨he,hx⟩,hdr⟩
   exact⟨he,Sxx.grown_of_ext hx (hdr _ he)⟩
  have eg:∀args w,(callFunc 60 args).run Tryz.prog w=.ok (.enter 60 args) w:=enters_of Tryz.func60 (by kernel_rfl) rfl
  have key:=Any.slices_SortFunc Tryz.sortS encN (fun _=>rfl) cmpN zpx 60 #[] g 0 cap d w eg hcmp hH hlt (by rw[hdl];omega)
  rw[hdl] at key
  refine Calls.mono key ?_
  rintro e w' ⟨he,d',m,os,hp,hsrt,rfl⟩
  have hdl':d'.size=l.length:=by rw[←hdl];exact hp.1
  have hperm:=Sxx.permIn_perm (d:=d) (by rw[hdl];exact hp)
  have hsn:d'.toList.map (·.1)=sortN bys l:=by
   refine zcL hs ha (by rw[←hd];exact hperm.map _) ?_
   show List.Pairwise _ _
   rw[List.pairwise_map]
   exact Sxx.sortedIn_pairwise hdl'.symm hsrt
  refine⟨he,⟨?_,Go.RowKit.Below.trans h.ext (zgb Sxx.sw_grown (zaz h.ext) hbase)⟩,Sxx.sw_grown⟩
  have hl2:(sortN bys l).length=l.length:=by rw[←hsn,List.length_map,Array.length_toList,hdl']
  have:=Sxx.sw_own (enc:=encN) (m:=m) (os:=os) hown hdl'
  rw[hl2,←hsn,List.map_map]
  exact this
theorem zj9(w:World):Calls Tryz.prog 105 #[.slice none 0 0,zpH] w fun e w'=>e=.returned (.tuple #[])∧w'=w:=
 AnyF.slices_SortFunc_none (P:=Tryz.prog) { Tryz.sortS with } none 0 zpH w
end
section
open Go.RowKit
set_option maxRecDepth 100000
def upd{β:Type}(f:Nat→β)(i:Nat)(x:β):Nat→β:=fun j=>if j=i then x else f j
theorem zbx{β:Type}(f:Nat→β)(i:Nat)(x:β):upd f i x i=x:=if_pos rfl
theorem za4{β:Type}(f:Nat→β){i j:Nat}(x:β)(h:j≠i):upd f i x j=f j:=if_neg h
section
variable {α:Type}{E:Elem α}{S:Nat→Prop}{T:TypeId}{L:Nat}{w wr w':World}{v:Value}{l:List α}
theorem GrowM.kept{row:Option Nat}(h:GrowM E S T (some L) w wr v l)(hg:wr.grownBy w' row)(hr:∀b,row=some b→w.heap.size≤b∧v.ownBlock≠some b∧(b=L∨¬S b)):GrowM E S T (some L) w w' v l:=by
 obtain⟨⟨vss,h1,h2,h3⟩,h4,h5⟩:=h
 have hne:∀b,v.ownBlock=some b→some b≠row:=fun b hb e=>(hr b e.symm).2.1 hb
 refine⟨⟨vss,h1,?_,fun i u x hi hl=>zbe (h3 i u x hi hl) (fun b hS hlt=>hg.block b hlt (fun e=>?_)) (fun b hS _=>hS)⟩,Below.grown h4 hg h4.size (fun k hk=>(hr k hk).1),fun g' hg'=>⟨(h5 g' hg').1,(h5 g' hg').2.1,Nat.lt_of_lt_of_le (h5 g' hg').2.2 hg.size⟩⟩
 ·cases hv:v.ownBlock with
  |none=>exact h2.kept hg (.inl hv)
  |some b=>exact h2.kept hg (.inr (by rw[hv];exact hne b hv))
 ·obtain⟨-,-,h6⟩:=hr b e.symm
  rcases h6 with h6|h6
  ·exact hS.2.2 (by rw[h6])
  ·exact h6 hS.1
structure Fam{α:Type}(E:Elem α)(S:Nat→Prop)(T:TypeId)(L:Nat)(w:World)(B0 k:Nat)(wr:World)(v:Nat→Value)(l:Nat→List α):Prop where
 row:∀i,i<k→GrowM E S T (some L) w wr (v i) (l i)
 high:∀i,i<k→∀b,(v i).ownBlock=some b→B0≤b
 apart:∀i j,i<k→j<k→i≠j→∀b,(v i).ownBlock=some b→(v j).ownBlock≠some b
variable {B0 k:Nat}{vs:Nat→Value}{ls:Nat→List α}
theorem Fam.nil(hx:Ext w wr)(h1:w.heap.size≤L)(h2:L<wr.heap.size):Fam E S T L w B0 k wr (fun _=>.slice none 0 0) (fun _=>[]):=
 ⟨fun i _=>GrowM.nil hx (fun g hg=>by injection hg with hg;rw[←hg];exact⟨h1,h2⟩),fun i _ b hb=>by simp[Value.ownBlock] at hb,fun i j _ _ _ b hb=>by simp[Value.ownBlock] at hb⟩
theorem Fam.kept{row:Option Nat}(h:Fam E S T L w B0 k wr vs ls)(hg:wr.grownBy w' row)(hr:∀b,row=some b→w.heap.size≤b∧(∀i,i<k→(vs i).ownBlock≠some b)∧(b=L∨¬S b)):Fam E S T L w B0 k w' vs ls:=
 ⟨fun i hi=>(h.row i hi).kept hg (fun b hb=>⟨(hr b hb).1,(hr b hb).2.1 i hi,(hr b hb).2.2⟩),h.high,h.apart⟩
theorem Fam.later(h:Fam E S T L w B0 k wr vs ls)(hx:Ext wr w'):Fam E S T L w B0 k w' vs ls:=⟨fun i hi=>(h.row i hi).later hx,h.high,h.apart⟩
theorem Fam.setL(h:Fam E S T L w B0 k wr vs ls)(i:Nat)(z:Value):Fam E S T L w B0 k (wr.setCell ⟨L,i,none⟩ z) vs ls:=⟨fun j hj=>(h.row j hj).setL i z,h.high,h.apart⟩
theorem Fam.upd{i:Nat}(hi:i<k)(h:Fam E S T L w B0 k wr vs ls)(hS:∀b,S b→b<B0)(hB:B0≤wr.heap.size){v':Value}{l':List α}(hn:GrowM E S T (some L) w w' v' l')(hg:wr.grownBy w' (vs i).ownBlock)
 (hb:v'.ownBlock=(vs i).ownBlock∨v'.ownBlock=some wr.heap.size):Fam E S T L w B0 k w' (Go.Proofs.YtkjbokhnpphimaaGreatDoor.upd vs i v') (Go.Proofs.YtkjbokhnpphimaaGreatDoor.upd ls i l'):=by
 have hold:∀j,j<k→j≠i→GrowM E S T (some L) w w' (vs j) (ls j):=fun j hj hne=>(h.row j hj).kept hg (fun b hb'=>⟨((h.row i hi).lt hb').1,h.apart i j hi hj (fun e=>hne e.symm) b hb',.inr fun hSb=>by have h1:=hS b hSb;have h2:=h.high i hi b hb';omega⟩)
 have hfr:∀j,j<k→(vs j).ownBlock≠some wr.heap.size:=fun j hj e=>by have:=((h.row j hj).lt e).2;omega
 refine⟨fun j hj=>?_,fun j hj b hjb=>?_,fun j1 j2 hj1 hj2 hne b hb1=>?_⟩
 ·by_cases e:j=i
  ·subst e;rw[zbx,zbx];exact hn
  ·rw[za4 _ _ e,za4 _ _ e];exact hold j hj e
 ·by_cases e:j=i
  ·subst e
   rw[zbx] at hjb
   rcases hb with hb|hb
   ·rw[hb] at hjb;exact h.high j hj b hjb
   ·rw[hb] at hjb;injection hjb with hjb;omega
  ·rw[za4 _ _ e] at hjb;exact h.high j hj b hjb
 ·by_cases e1:j1=i
  ·subst e1
   have e2:j2≠j1:=fun e=>hne e.symm
   rw[zbx] at hb1
   rw[za4 _ _ e2]
   rcases hb with hb|hb
   ·rw[hb] at hb1;exact h.apart j1 j2 hj1 hj2 hne b hb1
   ·rw[hb] at hb1;injection hb1 with hb1;subst hb1;exact hfr j2 hj2
  ·rw[za4 _ _ e1] at hb1
   by_cases e2:j2=i
   ·subst e2
    rw[zbx]
    rcases hb with hb|hb
    ·rw[hb];exact h.apart j1 j2 hj1 hj2 hne b hb1
    ·rw[hb];intro e;exact hfr j1 hj1 (by rw[hb1,←e])
   ·rw[za4 _ _ e2];exact h.apart j1 j2 hj1 hj2 hne b hb1
theorem Fam.rows(h:Fam E S T L w B0 k wr vs ls){i:Nat}(hi:i<k):∃A c,vs i=.slice A (ls i).length c∧Row E (fun b=>(S b∨B0≤b)∧b<wr.heap.size∧b≠L) wr A (ls i).length c (ls i):=by
 have hr:=h.row i hi
 have hr':=hr
 obtain⟨⟨vss,h1,h2,h3⟩,h4,h5⟩:=hr
 obtain⟨A,c,e⟩:∃A c,vs i=.slice A (ls i).length c:=by
  rcases h2.2 with⟨e,h0⟩|⟨g,cap,cur,e,_⟩
  ·exact⟨none,0,by rw[h0,e]⟩
  ·exact⟨_,_,e⟩
 have h2':=h2
 rw[e] at h2'
 refine⟨A,c,e,ze9 h2' rfl h1 (fun g hg=>?_) fun j u x hj hl=>E.mono (h3 j u x hj hl) fun b hlt hb=>⟨.inl hb.1,hlt,fun e'=>hb.2.2 (by rw[e'])⟩⟩
 have hg':(vs i).ownBlock=some g:=by rw[e];exact hg
 have hlt:=(hr'.lt hg').2
 exact⟨.inr (h.high i hi g hg'),hlt,fun e'=>(hr'.apart L rfl).1 (by rw[hg',e'])⟩
end
section
variable {α:Type}{E:Elem α}{S:Nat→Prop}{w w0:World}{o:Oper}{a:Act}{K:Act→World→Prop}{Q:Exit→Act→World→Prop}{ops:Array Oper}{rest:List Oper}
theorem zcF{T ST:TypeId}{z:Value}{bytes:Nat}(hu:Tryz.prog.underlying ST=some (.slice T))(hinf:(Tryz.prog.info? T).map (fun i=>(i.zero,i.size,i.bytes))=some (some z,E.k,bytes))(hzs:z.cells.size=E.k)(hby:bytes≤1000)
 (s x:Operand) (ho:o.op=.call { callee:=.builtin .append,args:=#[s,x],argTypes:=#[ST,ST] }) {L:Option Nat} (v:Value) (l:List α) (hs:a.eval s=v) (hg:GrowM E S T L w0 w v l)
 {t:TypeId} {u:List Value} (y:α) (hE:E.R (zcD S v L) w u y) (h1:∀c∈u,c.oneCell'=true) {g:Nat} (hx:a.eval x=.slice (some ⟨g,0,none⟩) 1 1) (hgs:g=w.heap.size) (hb:l.length≤4000000)
 (h:∀v' w',GrowM E S T L w0 w' v' (l++[y])→(w.alloc (.cells u.toArray t)).grownBy w' v.ownBlock→(v'.ownBlock=v.ownBlock∨v'.ownBlock=some (w.alloc (.cells u.toArray t)).heap.size)→K (a.put o.dst v') w') :
 o.wp Tryz.prog a (w.alloc (.cells u.toArray t)) K Q:=by
 subst hgs
 have hlu:u.length=E.k:=E.len hE
 have hg2:=hg.later (Ext.alloc w (.cells u.toArray t))
 have hE2:E.R (zcD S v L) (w.alloc (.cells u.toArray t)) u y:=zbe hE (fun b _ hlt=>(Ext.alloc w (.cells u.toArray t)).block b hlt) (fun b hS _=>hS)
 have hg3:=hg2
 obtain⟨⟨vss,q1,q2,q3⟩,q4,q5⟩:=hg3
 refine zbN s x ST ho w0.heap.size T z E.k bytes hu hinf hzs E.pos v l.length vss.flatten hs q2 (some ⟨w.heap.size,0,none⟩) 1 1 u hx (by rw[hlu,Nat.one_mul]) (.inr ⟨_,0,rfl,fun j c hj=>by rw[Nat.zero_add,zc2];simpa using hj⟩) h1 (by simp[maxLen];omega) (Nat.le_trans (Nat.mul_le_mul (show l.length+1≤4000001 by omega) hby) (by decide)) (zaz q4) ?_
 intro v' w' p1 p2 p3
 obtain ⟨k1,k2⟩:=hg2.snoc (v':=v') (w':=w') (us:=[u]) (xs:=[y]) rfl (fun i u' y' hi hy=>by
  rcases i with _|i
  ·simp at hi hy
   subst hi hy
   exact hE2
  ·simp at hi) (fun vs' hvs'=>by rw [zdI q2 hvs'];simpa using p1) p2 p3
 exact h v' w' k1 p2 p3
theorem zf3{T ST:TypeId}{z:Value}{bytes:Nat}(hu:Tryz.prog.underlying ST=some (.slice T))(hinf:(Tryz.prog.info? T).map (fun i=>(i.zero,i.size,i.bytes))=some (some z,E.k,bytes))(hzs:z.cells.size=E.k)(hby:bytes≤1000)
 (hgd:o.guard=none) (s x:Operand) (ho:o.op=.call { callee:=.builtin .append,args:=#[s,x],argTypes:=#[ST,ST] }) {L:Option Nat} (v:Value) (l:List α) (hs:a.eval s=v) (hg:GrowM E S T L w0 w v l)
 {t:TypeId} {u:List Value} (y:α) (hE:E.R (zcD S v L) w u y) (h1:∀c∈u,c.oneCell'=true) {g:Nat} (hx:a.eval x=.slice (some ⟨g,0,none⟩) 1 1) (hgs:g=w.heap.size) (hb:l.length≤4000000)
 (h:∀v' w',GrowM E S T L w0 w' v' (l++[y])→(w.alloc (.cells u.toArray t)).grownBy w' v.ownBlock→(v'.ownBlock=v.ownBlock∨v'.ownBlock=some (w.alloc (.cells u.toArray t)).heap.size)→wpList Tryz.prog ops Q rest (a.put o.dst v') w') :
 wpList Tryz.prog ops Q (o::rest) a (w.alloc (.cells u.toArray t)):=
 wpList_plain hgd fun _ hK=>zcF hu hinf hzs hby s x ho v l hs hg y hE h1 hx hgs hb fun v' w' k1 k2 k3=>hK _ _ (h v' w' k1 k2 k3)
end
end
end Go.Proofs.YtkjbokhnpphimaaGreatDoor
