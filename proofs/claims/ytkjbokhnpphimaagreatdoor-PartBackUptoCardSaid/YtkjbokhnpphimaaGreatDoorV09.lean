/- Lemmas of the walk. -/
import Derived.Test.YtkjbokhnpphimaaGreatDoorV08
import Derived.WalkSmall
import Derived.Lib.LaidTab
set_option maxHeartbeats 40000000
set_option linter.unusedVariables false
set_option linter.unusedSimpArgs false
namespace Go.Proofs.YtkjbokhnpphimaaGreatDoor
open Go.RowKit
set_option maxRecDepth 100000
structure Facts(w:World):Prop where
 maxlen:∃m,w.cell? ⟨0,0,none⟩=some (.int .i64 m)
 syn:∃tp p,w.var? Tryz.prog "strconv.ErrSyntax" = some #[.iface tp p]
 rng:∃tp p,w.var? Tryz.prog "strconv.ErrRange" = some #[.iface tp p]
 pow:Lib.TabIs Tryz.prog w "internal/strconv.uint64pow10" .u64 Lib.pow10Tab
theorem gSyn:Tryz.prog.globalNamed "strconv.ErrSyntax" = some 1:=by kernel_rfl
theorem gRng:Tryz.prog.globalNamed "strconv.ErrRange" = some 2:=by kernel_rfl
theorem gPow:Tryz.prog.globalNamed "internal/strconv.uint64pow10" = some 3:=by kernel_rfl
theorem zpT{w:World}{n:String}{g:Nat}{cs:Array Value}(hg:Tryz.prog.globalNamed n=some g)(h:w.var? Tryz.prog n=some cs):g<w.heap.size:=by
 unfold World.var? at h
 simp only[hg,Option.bind_some] at h
 rcases Nat.lt_or_ge g w.heap.size with h'|h'
 ·exact h'
 ·simp[Array.getElem?_eq_none h'] at h
theorem Facts.ext{w w':World}(h:Facts w)(hx:Ext w w'):Facts w':=by
 obtain⟨⟨m,h1⟩,⟨a,b,h2⟩,⟨c,d,h3⟩,h4⟩:=h
 exact⟨⟨m,zaa h1 _ hx⟩,⟨a,b,var?_below hx gSyn (zpT gSyn h2) h2⟩,⟨c,d,var?_below hx gRng (zpT gRng h3) h3⟩,var?_below hx gPow (zpT gPow h4) h4⟩
def Gl(w:World):Prop:=Facts w
theorem Gl.ext{w w':World}(h:Gl w)(hx:Ext w w'):Gl w':=Facts.ext h hx
theorem zgL{w:World}{b b':Nat}{e:TypeId}{size:Nat}{v:Value}{n:Nat}{xs:List Value}(h:w.ownsRow b e size v n xs)(hb:b'≤b):w.ownsRow b' e size v n xs:=by
 obtain⟨h1,h2⟩:=h
 refine⟨h1,?_⟩
 rcases h2 with h2|⟨g,cap,cur,h3,h4,h5⟩
 ·exact .inl h2
 ·exact .inr ⟨g,cap,cur,h3,Nat.le_trans hb h4,h5⟩
structure GrowB(w wr:World)(v:Value)(xs:List UInt8):Prop where
 own:wr.ownsRow w.heap.size 5 1 v xs.length (xs.map bv)
 ext:Ext w wr
theorem GrowB.nil{w wr:World}(hx:Ext w wr):GrowB w wr (.slice none 0 0) []:=⟨World.ownsRow_nil _ _ _ _,hx⟩
theorem GrowB.later{w wr w':World}{v:Value}{l:List UInt8}(h:GrowB w wr v l)(hx:Ext wr w'):GrowB w w' v l:=⟨zdC h.own hx,h.ext.trans hx⟩
theorem GrowB.sl{w wr:World}{v:Value}{l:List UInt8}(h:GrowB w wr v l):∃A c,v=.slice A l.length c∧Sl wr A l.length c l:=by
 have ho:=h.own
 obtain⟨A,c,rfl⟩:=zc9 ho
 exact⟨A,c,rfl,Sl.of_own ho⟩
theorem zdF(w:World)(x:UInt8):Sl (w.alloc (.cells #[.int .u8 (x.toNat:Int)] 5)) (some ⟨w.heap.size,0,none⟩) 1 1 [x]:=by
 have h:=zrB w (x.toNat:Int) ⟨by omega,by have:=x.toNat_lt;omega⟩
 rwa[Int.toNat_natCast,UInt8.ofNat_toNat] at h
theorem zpO{m:List UInt8}{j:Nat}{x:UInt8}(h:m[j]?=some x)(h':j<(str m).size):(str m)[j]'h'=x:=by
 have hl:=(List.getElem?_eq_some_iff.1 h)
 obtain⟨h1,h2⟩:=hl
 exact h2
theorem zbh(a b:List UInt8):str a++str b=str (a++b):=by
 have:(str a++str b).data=(str (a++b)).data:=by rw[ByteArray.data_append];simp
 exact ByteArray.ext this
theorem zaV{s:ByteArray}{j:Nat}{x:UInt8}(h:(bys s)[j]?=some x)(h':j<s.size):s[j]'h'=x:=by
 obtain⟨⟨l⟩⟩:=s
 exact zpO h h'
theorem za0{x:UInt8}{k:Nat}(hk:k<256)(h:x=UInt8.ofNat k):((x.toNat:Int)==(k:Int))=true:=by
 subst h
 rw[beq_iff_eq,UInt8.toNat_ofNat']
 omega
theorem zav{x:UInt8}{k:Nat}(h:¬x=UInt8.ofNat k):((x.toNat:Int)==(k:Int))=false:=by
 rw[beq_eq_false_iff_ne]
 intro e
 exact h (UInt8.toNat_inj.1 (by rw[UInt8.toNat_ofNat'];have:=x.toNat_lt;omega))
theorem zdl{w w0:World}{o:Oper}{a:Act}{K:Act→World→Prop}{Q:Exit→Act→World→Prop}(s x:Operand)
 (ho:o.op=.call { callee:=.builtin .append,args:=#[s,x],argTypes:=#[174,174] })
 (v:Value) (xs:List UInt8) (hs:a.eval s=v) (hg:GrowB w0 w v xs) (A:Option Addr) (m c:Nat) (ys:List UInt8) (hx:a.eval x=.slice A m c) (hy:Sl w A m c ys)
 (hb:xs.length+m≤140737488355328) (h:∀v' w',GrowB w0 w' v' (xs++ys)→Below w0.heap.size w w'→K (a.put o.dst v') w'):o.wp Tryz.prog a w K Q:=by
 have hm:=hy.len
 obtain⟨i0,hi,hz0,hz1,hz2⟩:=info_parts Tryz.infoByte
 refine zcS s x 174 ho w0.heap.size 5 i0 (.int .u8 0) 1 Tryz.underlying174 hi hz0 hz1 hz2 rfl v xs.length (xs.map bv) hs hg.own A m c (ys.map bv) hx (by simpa using hy.len) hy.cells ?_ (by simp[maxLen];omega) (by omega) (zaz hg.ext) ?_
 ·intro u hu
  obtain⟨b,_,rfl⟩:=List.mem_map.1 hu
  rfl
 ·intro v' w' h1 h2 _
  have hb:=zbM hg.own h2 (zaz hg.ext) (Nat.le_refl _)
  refine h v' w' ⟨?_,Below.trans hg.ext hb⟩ hb
  rw[List.length_append,←hm,List.map_append]
  exact h1
theorem zbu{w w0:World}{ops:Array Oper}{rest:List Oper}{o:Oper}{a:Act}{Q:Exit→Act→World→Prop}(hgd:o.guard=none)(s x:Operand)
 (ho:o.op=.call { callee:=.builtin .append,args:=#[s,x],argTypes:=#[174,174] })
 (v:Value) (xs:List UInt8) (hs:a.eval s=v) (hg:GrowB w0 w v xs) (A:Option Addr) (m c:Nat) (ys:List UInt8) (hx:a.eval x=.slice A m c) (hy:Sl w A m c ys)
 (hb:xs.length+m≤140737488355328) (h:∀v' w',GrowB w0 w' v' (xs++ys)→wpList Tryz.prog ops Q rest (a.put o.dst v') w'):wpList Tryz.prog ops Q (o::rest) a w:=
 wpList_plain hgd fun _ hK=>zdl s x ho v xs hs hg A m c ys hx hy hb fun v' w' h1 _=>hK _ _ (h v' w' h1)
structure GrowS(w wr:World)(v:Value)(l:List ByteArray):Prop where
 own:wr.ownsRow w.heap.size 9 1 v l.length (l.map .string)
 ext:Ext w wr
theorem GrowS.nil{w wr:World}(hx:Ext w wr):GrowS w wr (.slice none 0 0) []:=⟨World.ownsRow_nil _ _ _ _,hx⟩
theorem GrowS.later{w wr w':World}{v:Value}{l:List ByteArray}(h:GrowS w wr v l)(hx:Ext wr w'):GrowS w w' v l:=⟨zdC h.own hx,h.ext.trans hx⟩
theorem GrowS.base{w w1 wr:World}{v:Value}{l:List ByteArray}(h:GrowS w1 wr v l)(hx:Ext w w1):GrowS w wr v l:=⟨zgL h.own (zaz hx),hx.trans h.ext⟩
theorem GrowS.row{w wr:World}{v:Value}{l:List ByteArray}(h:GrowS w wr v l):∃A c,v=.slice A l.length c∧Row Elem.str (fun b=>w.heap.size≤b) wr A l.length c l:=by
 have ho:=h.own
 obtain⟨A,c,rfl⟩:=zc9 ho
 exact⟨A,c,rfl,zr8 ho fun g hg=>(ho.lt g hg).1⟩
theorem zrQ:(Tryz.prog.info? 9).map (fun i=>(i.zero,i.size,i.bytes))=some (some (.string ByteArray.empty),1,16):=by kernel_rfl
section
variable {w w0:World}{ops:Array Oper}{rest:List Oper}{o:Oper}{a:Act}{Q:Exit→Act→World→Prop}{K:Act→World→Prop}
theorem zhY(s x:Operand)(ho:o.op=.call { callee:=.builtin .append,args:=#[s,x],argTypes:=#[53,53] })
 (v:Value) (l:List ByteArray) (hs:a.eval s=v) (hg:GrowS w0 w v l) (A:Option Addr) (m c:Nat) (ys:List ByteArray) (hx:a.eval x=.slice A m c) (hm:m=ys.length) (hy:Cells w A (ys.map .string))
 (hb:l.length+m≤8796093022208) (h:∀v' w',GrowS w0 w' v' (l++ys)→K (a.put o.dst v') w'):o.wp Tryz.prog a w K Q:=by
 obtain⟨i0,hi,hz0,hz1,hz2⟩:=info_parts zrQ
 refine zcS s x 53 ho w0.heap.size 9 i0 (.string ByteArray.empty) 16 Tryz.underlying53 hi hz0 hz1 hz2 rfl v l.length (l.map .string) hs hg.own A m c (ys.map .string) hx (by simpa using hm) hy ?_ (by simp[maxLen];omega) (by omega) (zaz hg.ext) ?_
 ·intro u hu
  obtain⟨b,_,rfl⟩:=List.mem_map.1 hu
  rfl
 ·intro v' w' h1 h2 _
  refine h v' w' ⟨?_,zbM hg.own h2 (zaz hg.ext) (Nat.le_refl _) |> fun hb=>Below.trans hg.ext hb⟩
  rw[List.length_append,←hm,List.map_append]
  exact h1
theorem zhF(hgd:o.guard=none)(s x:Operand)(ho:o.op=.call { callee:=.builtin .append,args:=#[s,x],argTypes:=#[53,53] })
 (v:Value) (l:List ByteArray) (hs:a.eval s=v) (hg:GrowS w0 w v l) (A:Option Addr) (m c:Nat) (ys:List ByteArray) (hx:a.eval x=.slice A m c) (hm:m=ys.length) (hy:Cells w A (ys.map .string))
 (hb:l.length+m≤8796093022208) (h:∀v' w',GrowS w0 w' v' (l++ys)→wpList Tryz.prog ops Q rest (a.put o.dst v') w'):wpList Tryz.prog ops Q (o::rest) a w:=
 wpList_plain hgd fun _ hK=>zhY s x ho v l hs hg A m c ys hx hm hy hb fun v' w' h1=>hK _ _ (h v' w' h1)
theorem zmJ(w:World)(y:ByteArray)(t:TypeId):Cells (w.alloc (.cells #[.string y] t)) (some ⟨w.heap.size,0,none⟩) ([y].map .string):=
 (zeO w [y] t (by simp[maxLen])).str_cells
theorem zct{w:World}{y:ByteArray}{t:TypeId}(hgd:o.guard=none)(s x:Operand)(ho:o.op=.call { callee:=.builtin .append,args:=#[s,x],argTypes:=#[53,53] })
 (v:Value) (l:List ByteArray) (hs:a.eval s=v) (hg:GrowS w0 w v l) (hx:a.eval x=.slice (some ⟨w.heap.size,0,none⟩) 1 1)
 (hb:l.length+1≤8796093022208) (h:∀v' w',GrowS w0 w' v' (l++[y])→wpList Tryz.prog ops Q rest (a.put o.dst v') w'):wpList Tryz.prog ops Q (o::rest) a (w.alloc (.cells #[.string y] t)):=
 zhF hgd s x ho v l hs (hg.later (Ext.alloc _ _)) _ 1 1 [y] hx rfl (zmJ w y t) hb h
end
end Go.Proofs.YtkjbokhnpphimaaGreatDoor
