/- A message in memory; the walk of msg's plain. -/
import Derived.Test.YtabaeiolpbdjnaaDw
import Derived.Test.YtabaeiolpbdjnaaDu
import Derived.Test.YtabaeiolpbdjnaaOpq
namespace Go.Proofs.Ytabaeiolpbdjnaa
open Go.RowKit
set_option maxRecDepth 100000

def Fil.kind : Fil → Int | .mk k _ _ _ _ _ _ => k
def Fil.attr : Fil → ByteArray | .mk _ a _ _ _ _ _ => a
def Fil.value : Fil → ByteArray | .mk _ _ v _ _ _ _ => v
def Fil.first : Fil → ByteArray | .mk _ _ _ f _ _ _ => f
def Fil.last : Fil → ByteArray | .mk _ _ _ _ l _ _ => l
def Fil.any : Fil → List ByteArray | .mk _ _ _ _ _ a _ => a
def Fil.parts : Fil → List Fil | .mk _ _ _ _ _ _ p => p
/-- A message. -/
structure Msg where
  id : Int
  kind : Int
  name : ByteArray
  pw : ByteArray
  ver : Int
  scope : Int
  deref : Int
  size : Int
  time : Int
  tonly : Bool
  fil : Fil
  attrs : List ByteArray
  list : List Att
  chgs : List Chg
  nrdn : ByteArray
  dold : Bool
  hsup : Bool
  sup : ByteArray
  attr : ByteArray
  value : ByteArray
  target : Int
  code : Int
  matched : ByteArray
  text : ByteArray
  refs : List ByteArray
  ctls : List Ctl
/-- A slice's three parts. -/
structure Sv where
  A : Option Addr
  n : Nat
  c : Nat
/-- Where a message's lists lie. -/
structure MsgD where
  any : Sv
  parts : Sv
  attrs : Sv
  list : Sv
  chgs : Sv
  refs : Sv
  ctls : Sv
/-- The cells of a message. -/
abbrev msgCells (m : Msg) (d : MsgD) : List Value :=
  [.int .i64 m.id, .int .i64 m.kind, .string m.name, .string m.pw, .int .i64 m.ver, .int .i64 m.scope, .int .i64 m.deref, .int .i64 m.size, .int .i64 m.time, .bool m.tonly,
   .int .i64 m.fil.kind, .string m.fil.attr, .string m.fil.value, .string m.fil.first, .string m.fil.last, .slice d.any.A d.any.n d.any.c, .slice d.parts.A d.parts.n d.parts.c,
   .slice d.attrs.A d.attrs.n d.attrs.c, .slice d.list.A d.list.n d.list.c, .slice d.chgs.A d.chgs.n d.chgs.c, .string m.nrdn, .bool m.dold, .bool m.hsup, .string m.sup, .string m.attr, .string m.value,
   .int .i64 m.target, .int .i64 m.code, .string m.matched, .string m.text, .slice d.refs.A d.refs.n d.refs.c, .slice d.ctls.A d.ctls.n d.ctls.c]
structure MsgRows (S : Nat → Prop) (w : World) (m : Msg) (d : MsgD) : Prop where
  any : Row Elem.str S w d.any.A d.any.n d.any.c m.fil.any
  parts : Row Elem.fil S w d.parts.A d.parts.n d.parts.c m.fil.parts
  attrs : Row Elem.str S w d.attrs.A d.attrs.n d.attrs.c m.attrs
  list : Row Elem.att S w d.list.A d.list.n d.list.c m.list
  chgs : Row Elem.chg S w d.chgs.A d.chgs.n d.chgs.c m.chgs
  refs : Row Elem.str S w d.refs.A d.refs.n d.refs.c m.refs
  ctls : Row Elem.ctl S w d.ctls.A d.ctls.n d.ctls.c m.ctls
theorem MsgRows.ext {S : Nat → Prop} {w w' : World} {m : Msg} {d : MsgD} (h : MsgRows S w m d) (hx : Ext w w') : MsgRows S w' m d :=
  ⟨h.any.ext hx, h.parts.ext hx, h.attrs.ext hx, h.list.ext hx, h.chgs.ext hx, h.refs.ext hx, h.ctls.ext hx⟩
theorem MsgRows.fil {S : Nat → Prop} {w : World} {m : Msg} {d : MsgD} (h : MsgRows S w m d) :
    FilAt S w [.int .i64 m.fil.kind, .string m.fil.attr, .string m.fil.value, .string m.fil.first, .string m.fil.last, .slice d.any.A d.any.n d.any.c, .slice d.parts.A d.parts.n d.parts.c] m.fil := by
  have h1 := h.any
  have h2 := h.parts
  generalize m.fil = f at *
  cases f
  exact FilAt.shut h1 h2

theorem msgCell {m : Msg} {d : MsgD} {cs : Array Value} (i : Nat) (h : Hid (cs = (msgCells m d).toArray)) {v : Value} (hv : (msgCells m d)[i]? = some v) : cs[i]? = some v := by
  rw [h.out]; simpa using hv
/-- A cell of a boxed message. -/
structure CellAt (w : World) (p : Addr) (v : Value) : Prop where
  out : w.cell? p = some v
theorem boxCell {w : World} {g : Nat} {m : Msg} {d : MsgD} {cs : Array Value} {T : TypeId} (hg : w.heap[g]? = some (.cells cs T (0, 0))) (i : Nat) (h : Hid (cs = (msgCells m d).toArray)) {v : Value} (hv : (msgCells m d)[i]? = some v) : CellAt w ⟨g, i, none⟩ v :=
  ⟨by rw [cell_of_row _ _ i cs T (0, 0) hg]; exact msgCell i h hv⟩
theorem CellAt.ext {w w' : World} {p : Addr} {v : Value} (h : CellAt w p v) (hx : Ext w w') : w'.cell? p = some v := cell_later h.out _ hx
theorem ext_grown' {w w1 w2 : World} (h : Ext w w1) (k : w1.grownBy w2 (some w.heap.size)) : Ext w w2 := Below.grown h k h.size (fun j hj => by injection hj with hj; omega)
/-- What plain answers. -/
abbrev plainCells (m : Msg) : List Value := [.iface 2 (.int .i64 m.id), .iface 2 (.int .i64 m.kind), .iface 9 (.string m.name), .iface 9 (.string m.pw), .iface 2 (.int .i64 m.ver), .iface 2 (.int .i64 m.scope),
  .iface 2 (.int .i64 m.deref), .iface 2 (.int .i64 m.size), .iface 2 (.int .i64 m.time), .iface 4 (.bool m.tonly), .iface 9 (.string m.nrdn), .iface 4 (.bool m.dold),
  .iface 4 (.bool m.hsup), .iface 9 (.string m.sup), .iface 9 (.string m.attr), .iface 9 (.string m.value), .iface 2 (.int .i64 m.target), .iface 2 (.int .i64 m.code),
  .iface 9 (.string m.matched), .iface 9 (.string m.text), .nilIface, .nilIface, .nilIface, .nilIface]
set_option maxHeartbeats 1000000 in
theorem plain_any {m : Msg} {d : MsgD} {cs : Array Value} (hcs : Hid (cs = (msgCells m d).toArray)) (w : World) :
    Calls Try.prog 25 #[.agg cs] w fun e w' => e = .returned (.agg (plainCells m).toArray) ∧ Ext w w' := by
  have hz := (zero_of_info (P := Try.prog) (t := 67) (v := .agg (List.replicate 24 .nilIface).toArray) (n := 24) (by kernel_rfl)).1
  have HZ := hid hz
  clear hz
  go_enter Try.func25, Try.ntmps25
  go_wp2_with (first
    | (refine box_arm rfl 42 (.tmp 0) rfl cs rfl ?_; intro w1 hx1 hz1 hg1; have Hz1 := hid hz1; have Hg1 := hid hg1; clear hz1 hg1)
    | (refine alloc_arm rfl 67 rfl _ HZ.out ?_; intro w2 hx2 hz2 hg2; have Hg2 := hid hg2; clear hz2 hg2; have y0 := (boxCell Hg1.out 0 hcs rfl).ext hx2; have y1 := (boxCell Hg1.out 1 hcs rfl).ext hx2; have y2 := (boxCell Hg1.out 2 hcs rfl).ext hx2; have y3 := (boxCell Hg1.out 3 hcs rfl).ext hx2; have y4 := (boxCell Hg1.out 4 hcs rfl).ext hx2; have y5 := (boxCell Hg1.out 5 hcs rfl).ext hx2; have y6 := (boxCell Hg1.out 6 hcs rfl).ext hx2; have y7 := (boxCell Hg1.out 7 hcs rfl).ext hx2; have y8 := (boxCell Hg1.out 8 hcs rfl).ext hx2; have y9 := (boxCell Hg1.out 9 hcs rfl).ext hx2; have y20 := (boxCell Hg1.out 20 hcs rfl).ext hx2; have y21 := (boxCell Hg1.out 21 hcs rfl).ext hx2; have y22 := (boxCell Hg1.out 22 hcs rfl).ext hx2; have y23 := (boxCell Hg1.out 23 hcs rfl).ext hx2; have y24 := (boxCell Hg1.out 24 hcs rfl).ext hx2; have y25 := (boxCell Hg1.out 25 hcs rfl).ext hx2; have y26 := (boxCell Hg1.out 26 hcs rfl).ext hx2; have y27 := (boxCell Hg1.out 27 hcs rfl).ext hx2; have y28 := (boxCell Hg1.out 28 hcs rfl).ext hx2; have y29 := (boxCell Hg1.out 29 hcs rfl).ext hx2)
    | (refine store_arm rfl 67 (.tmp 2) (.tmp 67) rfl w1.heap.size 0 rfl (.agg (plainCells m).toArray) rfl _ _ Hg2.out (by kernel_rfl) (by simp [Value.cells]) (by simp [Value.cells, Value.oneCell']) ?_; intro w3 hg3 hz3 hr3; have Hr3 := hid hr3; clear hz3 hr3))
  refine bodyPost_ret (v := .agg (plainCells m).toArray) (results_cell_row (p := 2) (ty := 67) (by kernel_rfl) _ _ _ _ _ _ _ rfl Hr3.out Try.underlying67 rfl (by kernel_rfl)) rfl ⟨rfl, ?_⟩
  exact Ext.trans hx1 (ext_grown' hx2 hg3)
end Go.Proofs.Ytabaeiolpbdjnaa
