/- Lemmas of the walk that the last text of this claim joins. -/
import Derived.Calls
import Derived.Listen
import Derived.Shelf.SlSortCmp.NoneTotal
import Derived.Lib.QuietBelow
import Derived.Laws.AppendOwn
import Derived.Test.YtejdpadhemeldaaGreatDoorZ01
import Derived.Test.YtejdpadhemeldaaGreatDoorZ04
import Derived.Maps.OwnOps
import Derived.Maps.Views
import Derived.Maps.OwnSet
import Derived.StringKeys
import Derived.WalkSpells
import Derived.Test.YtejdpadhemeldaaGreatDoorRows
import Derived.Test.YtejdpadhemeldaaGreatDoorZ03
import Derived.Deep.Slices
import Derived.ChangeSlices
import Derived.Test.YtejdpadhemeldaaGreatDoorZ11
set_option maxHeartbeats 40000000
set_option linter.unusedVariables false
set_option linter.unusedSimpArgs false
namespace Go.Proofs.YtejdpadhemeldaaGreatDoor.Drw
open Go
set_option maxRecDepth 100000
theorem ask_up {α : Type} (k : Ask α) : ∀ w : World,w.drawn ≤ (w.ask k).2.drawn:=by
 induction k with
 | done a=>intro w;exact Nat.le_refl _
 | ask what range k ih=>
  intro w
  unfold World.ask
  simp only []
  split
  ·exact ih _ _
  ·exact Nat.le_trans (Nat.le_succ _) (ih _ { w with drawn:=w.drawn + 1 })
theorem sys_up (w : World) (c : Sys) : w.drawn ≤ (w.sys c).2.drawn:=by
 unfold World.sys
 have h:=ask_up (Kernel.perform c w.os) w
 split
 ·exact Nat.le_refl _
 ·rename_i h2
  rw [h2] at h
  exact h
theorem viewStore_up (p : Program) (w : World) (at_ : Addr) (u : TypeId) (k : Addr) (v : Value) (m : Bool) {w' : World} {l : List Addr} (h : w.viewStore p at_ u k v m = .ok (w',l)) : w.drawn ≤ w'.drawn:=by
 unfold World.viewStore at h
 simp only [bind,Except.bind,pure,Except.pure,throw,throwThe,MonadExceptOf.throw] at h
 repeat' first
  | (cases h;done)
  | (simp only [Except.ok.injEq,Prod.mk.injEq] at h;obtain ⟨rfl,_⟩:=h;exact Nat.le_refl _)
  | split at h
theorem farStore_up (p : Program) (w : World) (a : Addr) (v : Value) (m : Bool) {w' : World} {l : List Addr} (h : w.farStore p a v m = .ok (w',l)) : w.drawn ≤ w'.drawn:=by
 unfold World.farStore at h
 split at h
 ·split at h
  ·rename_i h2
   cases h
   exact viewStore_up p w _ _ _ _ _ h2
  ·cases h
 ·cases h
def resUp {α : Type} (n : Nat) : Result α → Prop
 | .ok _ w=>n ≤ w.drawn
 | .halt _ w=>n ≤ w.drawn
theorem resUp.le {α : Type} {n m : Nat} {r : Result α} (h : resUp m r) (hn : n ≤ m) : resUp n r:=by
 cases r <;> exact Nat.le_trans hn h
theorem run_up {α : Type} (p : Program) (s : Sem α) : ∀ w : World,resUp w.drawn (s.run p w):=by
 induction s with
 | pure a=>intro w;exact Nat.le_refl _
 | load m a k ih=>
  intro w
  unfold Sem.run
  repeat' first
   | exact ih _ _
   | exact Nat.le_refl _
   | split
 | store m a v k ih=>
  intro w
  have hs : (w.setCell a v).drawn = w.drawn:=rfl
  cases v <;> simp only [Sem.run]
  repeat' first
   | exact (ih _).le (Nat.le_of_eq hs.symm)
   | exact Nat.le_refl _
   | (rename_i h2;exact (ih _).le (farStore_up p w _ _ _ h2))
   | split
 | new o k ih=>intro w;exact ih _ _
 | shape r k ih=>intro w;exact ih _ _
 | freeze a n k ih=>
  intro w
  have hs : (w.freeze a n).drawn = w.drawn:=by unfold World.freeze;split <;> rfl
  exact (ih _).le (Nat.le_of_eq hs.symm)
 | frozen a k ih=>intro w;exact ih _ _
 | getObj r k ih=>
  intro w
  unfold Sem.run
  repeat' first
   | exact ih _ _
   | exact Nat.le_refl _
   | split
 | setObj r o k ih=>
  intro w
  unfold Sem.run
  repeat' first
   | exact ih _
   | exact Nat.le_refl _
   | split
 | choose q k ih=>
  intro w
  unfold Sem.run
  split
  ·exact ih _ _
  ·exact (ih _ _).le (Nat.le_succ _)
 | sys c k ih=>intro w;exact (ih _ _).le (sys_up w c)
 | program k ih=>intro w;exact ih _ _
 | mark m k ih=>intro w;exact ih _
 | halt h=>intro w;exact Nat.le_refl _
theorem ok_up {α : Type} {p : Program} {s : Sem α} {w w' : World} {a : α} (h : s.run p w = .ok a w') : w.drawn ≤ w'.drawn:=by
 have:=run_up p s w
 rw [h] at this
 exact this
theorem halt_up {α : Type} {p : Program} {s : Sem α} {w w' : World} {a : Halt} (h : s.run p w = .halt a w') : w.drawn ≤ w'.drawn:=by
 have:=run_up p s w
 rw [h] at this
 exact this
def gUp (n : Nat) : GStep → Prop
 | .go _ w _=>n ≤ w.drawn
 | .comm _ _ _ _ w _=>n ≤ w.drawn
 | .spawn _ _ w _=>n ≤ w.drawn
 | .count _ w _=>n ≤ w.drawn
 | .timer _ _ w _=>n ≤ w.drawn
 | .alone _ _ w _=>n ≤ w.drawn
 | .newcoro _ _ _ w _=>n ≤ w.drawn
 | .coroswitch _ _ _ w _=>n ≤ w.drawn
 | .collect _ w _=>n ≤ w.drawn
 | .watch _ w _=>n ≤ w.drawn
 | .ended _ _ _=>True
theorem gUp.after {n : Nat} {s : GStep} (es : Array Event) (h : gUp n s) : gUp n (GStep.after es s):=by
 cases s <;> exact h
theorem gUp.le {n m : Nat} {s : GStep} (h : gUp m s) (hn : n ≤ m) : gUp n s:=by
 cases s <;> first | exact trivial | exact Nat.le_trans hn h
theorem endWith_up (n : Nat) (w : World) (fd : Nat) (text : ByteArray) (o : Outcome) : gUp n (endWith w fd text o):=by
 unfold endWith
 simp only []
 repeat' first
  | exact trivial
  | split
theorem endPrinting_up (p : Program) (fr : Frame) (v : Value) (w : World) : gUp w.drawn (endPrinting p fr v w):=by
 unfold endPrinting endThrow dieOf
 simp only []
 repeat' first
  | exact trivial
  | exact Nat.le_refl _
  | split
theorem endThrow_up (fr : Frame) (m : String) (w : World) : gUp w.drawn (endThrow fr m w):=Nat.le_refl _
theorem endFatal_up (p : Program) (fr : Frame) (cs : List Frame) (dy : Option Dying) (m : String) (w : World) : gUp w.drawn (endFatal p fr cs dy m w):=by
 unfold endFatal dieOf
 simp only []
 repeat' first
  | exact trivial
  | exact ok_up (by assumption)
  | split
theorem writeOn_up (p : Program) (fr : Frame) (d : Dying) (f : Fatal) (w : World) : gUp w.drawn (writeOn p fr d f w):=by
 unfold writeOn
 simp only [Sem.runT_eq]
 split
 ·exact trivial
 ·split <;> rename_i h <;> simp only [Prod.mk.injEq] at h <;> (try obtain ⟨h,_⟩:=h)
  ·exact ok_up h
  ·exact halt_up h
  ·exact trivial
  ·exact trivial
theorem die_up (p : Program) (fr : Frame) (d : Dying) (w : World) : gUp w.drawn (die p fr d w):=by
 unfold die
 simp only [Sem.runT_eq]
 repeat' first
  | exact trivial
  | exact Nat.le_refl _
  | exact ok_up (by assumption)
  | exact writeOn_up _ _ _ _ _
  | exact endWith_up _ _ _ _ _
  | exact (endPrinting_up _ _ _ _).le (halt_up (by assumption))
  | refine gUp.after _ ?_
  | split
theorem early_up (p : Program) (fr : Frame) (cs : List Frame) (dy : Option Dying) (g : Nat) (w : World) : gUp w.drawn (early p fr cs dy g w):=by
 unfold early
 simp only []
 repeat' first
  | exact trivial
  | exact Nat.le_refl _
  | exact ok_up (by assumption)
  | (simp only [gUp];exact ok_up (by assumption))
  | split
theorem doReturn_up (p : Program) (main : Bool) (fr : Frame) (cs : List Frame) (dy : Option Dying) (v : Value) (w : World) : gUp w.drawn (doReturn p main fr cs dy v w):=by
 unfold doReturn
 simp only []
 repeat' first
  | exact trivial
  | exact Nat.le_refl _
  | split
theorem callDeferred_up (p : Program) (fr : Frame) (cs : List Frame) (dy : Option Dying) (d : Deferred) (w : World) : gUp w.drawn (callDeferred p fr cs dy d w):=by
 unfold callDeferred
 simp only [Sem.runT_eq]
 have h:=run_up p (invoke d.target d.args) w
 generalize (invoke d.target d.args).run p w = r at h
 repeat' first
  | exact trivial
  | exact h
  | exact (endFatal_up _ _ _ _ _ _).le h
  | exact (endThrow_up _ _ _).le h
  | refine gUp.after _ ?_
  | split
theorem unwind_up (p : Program) (main : Bool) (fr : Frame) (cs : List Frame) (dy : Option Dying) (w : World) : gUp w.drawn (unwind p main fr cs dy w):=by
 unfold unwind
 simp only [Sem.runT_eq]
 repeat' first
  | exact trivial
  | exact Nat.le_refl _
  | exact ok_up (by assumption)
  | exact callDeferred_up _ _ _ _ _ _
  | exact doReturn_up _ _ _ _ _ _ _
  | exact endPrinting_up _ _ _ _
  | exact (doReturn_up _ _ _ _ _ _ _).le (ok_up (by assumption))
  | refine gUp.after _ ?_
  | split
theorem apply_up (p : Program) (b : Bool) (fr : Frame) (cs : List Frame) (dy : Option Dying) (s : Sem Next) (w : World) : gUp w.drawn (stepG.apply p b fr cs dy s w):=by
 unfold stepG.apply
 cases b
 all_goals
  simp only [Sem.runT_eq,Bool.false_eq_true,if_false,if_true]
  refine gUp.after _ ?_
  repeat' first
   | exact trivial
   | exact ok_up (by assumption)
   | exact halt_up (by assumption)
   | exact (endThrow_up _ _ _).le (ok_up (by assumption))
   | exact (endThrow_up _ _ _).le (halt_up (by assumption))
   | exact (endFatal_up _ _ _ _ _ _).le (halt_up (by assumption))
   | exact (early_up _ _ _ _ _ _).le (halt_up (by assumption))
   | split
theorem oper_up (p : Program) (b : Bool) (fr : Frame) (cs : List Frame) (dy : Option Dying) (w : World) : gUp w.drawn (stepG.oper p b fr cs dy w):=by
 unfold stepG.oper
 repeat' first
  | exact trivial
  | exact apply_up _ _ _ _ _ _ _
  | split
theorem elim_up {α : Type} {n : Nat} (o : Option α) (a : GStep) (f : α → GStep) (ha : gUp n a) (hf : ∀ x,gUp n (f x)) : gUp n (o.elim a f):=by
 cases o
 ·exact ha
 ·exact hf _
theorem exec_up (p : Program) (main b : Bool) (fr : Frame) (cs : List Frame) (dy : Option Dying) (w : World) : gUp w.drawn (stepG.exec p main b fr cs dy w):=by
 unfold stepG.exec
 simp only [Sem.runT_eq]
 repeat' first
  | exact trivial
  | exact Nat.le_refl _
  | exact ok_up (by assumption)
  | exact halt_up (by assumption)
  | exact oper_up _ _ _ _ _ _
  | exact apply_up _ _ _ _ _ _ _
  | exact (apply_up _ _ _ _ _ _ _).le (ok_up (by assumption))
  | exact (doReturn_up _ _ _ _ _ _ _).le (ok_up (by assumption))
  | refine gUp.after _ ?_
  | refine elim_up _ _ _ ?_ (fun _=>?_)
  | split
theorem stepG_up (p : Program) (main : Bool) (g : Goroutine) (w : World) (b : Bool) : gUp w.drawn (stepG p main g w b):=by
 obtain ⟨fr,callers,status,dying,offers⟩:=g
 simp only [stepG]
 split
 ·exact die_up _ _ _ _
 ·exact exec_up _ _ _ _ _ _ _
 ·exact unwind_up _ _ _ _ _ _
theorem waitingAt_up {rest : Rest} {cases : Array CommCase} {w w' : World} (h : waitingAt rest cases w = some w') : w.drawn ≤ w'.drawn:=by
 unfold waitingAt at h
 repeat' first
  | (simp at h;done)
  | (simp only [Option.some.injEq] at h;subst h;exact Nat.le_refl _)
  | split at h
theorem communicate_up (p : Program) (rest : Rest) (gs : Array Goroutine) (i : Nat) (g : Goroutine) (cases : Array CommCase) (blocking : Bool)
 (shape : CommShape) (w : World) (m' : Machine) (h : (communicate p rest gs i g cases blocking shape w).1 = .next m') : w.drawn ≤ m'.world.drawn:=by
 unfold communicate at h
 simp only [] at h
 repeat' first
  | (simp at h;done)
  | (simp only [Stepped.next.injEq] at h;subst h;simp only [];exact Nat.le_refl _)
  | (simp only [Stepped.next.injEq] at h;subst h;simp only [];exact ok_up (by assumption))
  | (simp only [Stepped.next.injEq] at h;subst h;simp only [];exact waitingAt_up (by assumption))
  | (simp only [Stepped.next.injEq] at h;subst h;simp only [];rename_i h1 _ _ _ _ h2;exact Nat.le_trans (ok_up (by assumption)) (ok_up h2))
  | (simp only [Stepped.next.injEq] at h;subst h;simp only [];rename_i h2;exact Nat.le_trans (ok_up (by assumption)) (halt_up h2))
  | (simp only [Stepped.next.injEq] at h;subst h;simp only [];rename_i h2;exact Nat.le_trans (ok_up (by assumption)) (ok_up h2))
  | split at h
theorem look_up (p : Program) (gs : Array Goroutine) (rest : Rest) (w : World) (m' : Machine) (h : look p gs rest w = .next m') : w.drawn ≤ m'.world.drawn:=by
 unfold look at h
 simp only [] at h
 repeat' first
  | (simp at h;done)
  | (simp only [Stepped.next.injEq] at h;subst h;simp only [];exact ok_up (by assumption))
  | split at h
theorem opened_up {m m' : Machine} {var : Addr} (h : timerOp.opened m var = some m') : m.world.drawn ≤ m'.world.drawn:=by
 unfold timerOp.opened at h
 repeat' first
  | (simp at h;done)
  | (simp only [Option.some.injEq] at h;subst h;exact Nat.le_refl _)
  | split at h
theorem timerOp_up (m m' : Machine) (op : TimerOp) (v : Value) (h : timerOp m op = .ok (v,m')) : m.world.drawn ≤ m'.world.drawn:=by
 unfold timerOp timerOp.named retime drain Machine.withTimers at h
 simp only [] at h
 repeat' first
  | (cases h;done)
  | (simp only [Except.ok.injEq,Prod.mk.injEq] at h;obtain ⟨_,rfl⟩:=h;exact Nat.le_refl _)
  | (simp only [Except.ok.injEq,Prod.mk.injEq] at h;obtain ⟨_,rfl⟩:=h;(try simp only []);exact opened_up (by assumption))
  | split at h
theorem serve_up (p : Program) (m m' : Machine) (k : Nat) (h : serve p m k = .next m') : m.world.drawn ≤ m'.world.drawn:=by
 unfold serve at h
 simp only [] at h
 repeat' first
  | (simp at h;done)
  | (simp only [Stepped.next.injEq] at h;subst h;exact Nat.le_refl _)
  | split at h
theorem endThrow_eq {fr : Frame} {m : String} {w w' : World} {g : Goroutine} {es : Array Event} (h : endThrow fr m w = .go g w' es) : w.drawn ≤ w'.drawn:=by
 have:=endThrow_up fr m w
 rw [h] at this
 exact this
theorem runT_up (p : Program) (m m' : Machine) (i : Nat) (b : Bool) (h : (runT p m i b).1 = .next m') : m.world.drawn ≤ m'.world.drawn:=by
 simp only [runT] at h
 generalize m.gs.swapAt! _ _ = gg at h
 have hs:=stepG_up p (i == 0) gg.1 m.world b
 generalize stepG p _ gg.1 m.world b = s at hs h
 cases s <;> simp only [] at h
 all_goals first
  | (simp at h;done)
  | exact Nat.le_trans hs (communicate_up _ _ _ _ _ _ _ _ _ _ h)
  | exact Nat.le_trans hs (look_up _ _ _ _ _ h)
  | (simp only [Stepped.next.injEq] at h;subst h;exact hs)
  | (repeat' first
      | (simp at h;done)
      | (simp only [Stepped.next.injEq] at h;subst h;exact hs)
      | (simp only [Stepped.next.injEq] at h;subst h;simp only [];refine Nat.le_trans hs ?_;have h9:=timerOp_up _ _ _ _ (by assumption);exact h9)
      | (simp only [Stepped.next.injEq] at h;subst h;simp only [];refine Nat.le_trans hs ?_;exact endThrow_eq (by assumption))
      | split at h)
theorem askOn_g (p : Program) (m m' : Machine) (i : Nat) (h : askOn p m = .goroutine m' i) : m.world.drawn ≤ m'.world.drawn:=by
 unfold askOn at h
 simp only [Machine.advanceTo] at h
 repeat' first
  | (simp at h;done)
  | (simp only [Move.goroutine.injEq] at h;obtain ⟨rfl,_⟩:=h)
  | split at h
 all_goals
  (try simp only [])
  repeat' first
   | exact Nat.le_refl _
   | refine Nat.le_trans ?_ (ok_up (by assumption))
   | (simp only [];refine Nat.le_trans ?_ (ok_up (by assumption)))
theorem askOn_m (p : Program) (m m' : Machine) (ops : Array MemOp) (h : askOn p m = .machine (.next m') ops) : m.world.drawn ≤ m'.world.drawn:=by
 unfold askOn at h
 simp only [Machine.advanceTo] at h
 repeat' first
  | (simp at h;done)
  | (simp only [Move.machine.injEq] at h;have:=serve_up _ _ _ _ h.1;exact Nat.le_trans (ok_up (by assumption)) this)
  | (simp only [Move.machine.injEq,Stepped.next.injEq] at h;obtain ⟨rfl,_⟩:=h;simp only [])
  | split at h
 all_goals
  repeat' first
   | exact Nat.le_refl _
   | refine Nat.le_trans ?_ (ok_up (by assumption))
theorem ask_up' (p : Program) (m : Machine) : (∃ m₂ : Machine,m.world.drawn ≤ m₂.world.drawn ∧ ask p m = askOn p m₂) ∨ (∃ o w,ask p m = .machine (.ended o w) #[]):=by
 unfold ask
 split
 ·have h:=run_up p (choose (.extern "collector.look" 2)) m.world
  generalize (choose (.extern "collector.look" 2)).run p m.world = r at h
  cases r with
  | halt h w=>exact .inr ⟨_,_,rfl⟩
  | ok k world=>
   rcases k with _ | _ | k
   ·exact .inl ⟨{ m with world },h,rfl⟩
   ·simp only []
    cases hl : look p m.gs m.rest world with
    | next m₂=>exact .inl ⟨m₂,Nat.le_trans h (look_up _ _ _ _ _ hl),rfl⟩
    | ended o w=>exact .inr ⟨o,w,rfl⟩
   ·exact .inl ⟨{ m with world },h,rfl⟩
 ·exact .inl ⟨m,Nat.le_refl _,rfl⟩
theorem ask_g (p : Program) (m m' : Machine) (i : Nat) (h : ask p m = .goroutine m' i) : m.world.drawn ≤ m'.world.drawn:=by
 rcases ask_up' p m with ⟨m2,h3,h4⟩ | ⟨o,w,h4⟩
 ·rw [h4] at h
  exact Nat.le_trans h3 (askOn_g _ _ _ _ h)
 ·rw [h4] at h
  cases h
theorem ask_m (p : Program) (m m' : Machine) (ops : Array MemOp) (h : ask p m = .machine (.next m') ops) : m.world.drawn ≤ m'.world.drawn:=by
 rcases ask_up' p m with ⟨m2,h3,h4⟩ | ⟨o,w,h4⟩
 ·rw [h4] at h
  exact Nat.le_trans h3 (askOn_m _ _ _ _ h)
 ·rw [h4] at h
  cases h
theorem move_g (p : Program) (m m' : Machine) (i : Nat) (h : move p m = .goroutine m' i) : m.world.drawn ≤ m'.world.drawn:=by
 unfold move at h
 repeat' first
  | (simp at h;done)
  | (have:=ask_g p _ m' i h;exact this)
  | (simp only [Move.goroutine.injEq] at h;obtain ⟨rfl,_⟩:=h;exact Nat.le_refl _)
  | split at h
theorem move_m (p : Program) (m m' : Machine) (ops : Array MemOp) (h : move p m = .machine (.next m') ops) : m.world.drawn ≤ m'.world.drawn:=by
 unfold move at h
 repeat' first
  | (simp at h;done)
  | (have:=ask_m p _ m' ops h;exact this)
  | split at h
theorem step_up (p : Program) (m m' : Machine) (h : step p m = .next m') : m.world.drawn ≤ m'.world.drawn:=by
 unfold step stepT at h
 cases hm : move p m with
 | goroutine m1 i=>
  rw [hm] at h
  exact Nat.le_trans (move_g p m m1 i hm) (runT_up p m1 m' i true h)
 | machine s ops=>
  rw [hm] at h
  simp only [] at h
  subst h
  exact move_m p m m' ops hm
theorem runN_up (p : Program) : ∀ (n : Nat) (m m' : Machine),runN p n m = .next m' → m.world.drawn ≤ m'.world.drawn
 | 0,m,m',h=>by cases h;exact Nat.le_refl _
 | n + 1,m,m',h=>by
  unfold runN at h
  split at h
  ·rename_i m1 h1
   exact Nat.le_trans (step_up p m m1 h1) (runN_up p n m1 m' h)
  ·rename_i e h1
   exact absurd h (h1 m')
theorem calls_up {P : Program} {f : FuncId} {args : Array Value} {w : World} {R : Ending → World → Prop} (h : Calls P f args w R) :
 Calls P f args w fun e w'=>R e w' ∧ (∀ v,e = .returned v → w.drawn ≤ w'.drawn):=by
 intro cs
 obtain ⟨e,w',fr,hr,hc,rest⟩:=h cs
 refine ⟨e,w',fr,⟨hr,?_⟩,hc,rest⟩
 intro v hv
 subst hv
 obtain ⟨n,hn⟩:=hc
 exact runN_up P n _ _ hn
end Go.Proofs.YtejdpadhemeldaaGreatDoor.Drw
namespace Go.Proofs.YtejdpadhemeldaaGreatDoor.Sxx
open Go Go.Sort Go.RowKit Go.Shelf
section
variable {α : Type} [Inhabited α] {enc : α → Value} {w : World} {g m : Nat} {dk : Array α} {os : Array Obj}
theorem sw_other {k : Nat} (hk : k < w.heap.size) (hne : k ≠ g) : (sortWorld enc w g 0 m dk os).heap[k]? = w.heap[k]?:=by
 unfold sortWorld
 rw [heap_grow_old _ _ (by rw [size_putRow];exact hk)]
 unfold putRow mapBlock Sort.ahead
 simp only [Array.getElem?_modify,if_neg (fun e=>hne (Eq.symm e))]
theorem sw_row {cur : Array Value} {e : TypeId} {fr : Nat × Nat} (h : w.heap[g]? = some (.cells cur e fr)) : (sortWorld enc w g 0 m dk os).heap[g]? = some (.cells (putCells enc 0 dk cur) e fr):=by
 have hk:=(Array.getElem?_eq_some_iff.1 h).1
 unfold sortWorld
 rw [heap_grow_old _ _ (by rw [size_putRow];exact hk)]
 unfold putRow mapBlock Sort.ahead
 simp only [Array.getElem?_modify,if_true,h,Option.map_some,onCells]
theorem sw_grown : w.grownBy (sortWorld enc w g 0 m dk os) (some g):=by
 refine ⟨rfl,rfl,rfl,?_,fun k hk hne=>sw_other hk (fun e=>hne (by rw [e]))⟩
 unfold sortWorld
 rw [size_grow,size_putRow]
 exact Nat.le_add_right _ _
theorem take_put (cur : Array Value) (h : dk.size ≤ cur.size) : (putCells enc 0 dk cur).toList.take dk.size = dk.toList.map enc:=by
 apply List.ext_getElem?
 intro i
 rw [List.getElem?_map,List.getElem?_take,Array.getElem?_toList,Array.getElem?_toList]
 by_cases hi : i < dk.size
 ·rw [if_pos hi]
  unfold putCells
  rw [Array.getElem?_mapIdx,Array.getElem?_eq_getElem (Nat.lt_of_lt_of_le hi h),Array.getElem?_eq_getElem hi]
  simp [hi]
 ·rw [if_neg hi,Array.getElem?_eq_none (by omega)]
  rfl
theorem sw_own {base n cap : Nat} {e : TypeId} {xs : List Value} (h : w.ownsRow base e 1 (.slice (some ⟨g,0,none⟩) n cap) n xs) (hn : dk.size = n) :
 (sortWorld enc w g 0 m dk os).ownsRow base e 1 (.slice (some ⟨g,0,none⟩) n cap) n (dk.toList.map enc):=by
 refine ⟨by simp [hn],?_⟩
 rcases h.2 with ⟨h',_⟩ | ⟨g',cap',cur,h',hb,hg,hnc,hcm,hcs,htake⟩
 ·cases h'
 ·simp only [Value.slice.injEq,Option.some.injEq,Addr.mk.injEq,and_true,true_and] at h'
  obtain ⟨rfl,rfl⟩:=h'
  refine .inr ⟨g,cap,_,rfl,hb,sw_row hg,hnc,hcm,by unfold putCells;rw [Array.size_mapIdx];exact hcs,?_⟩
  rw [Nat.mul_one,← hn]
  exact take_put cur (by rw [hcs,hn];omega)
theorem own_holds {base n cap : Nat} {e : TypeId} (h : w.ownsRow base e 1 (.slice (some ⟨g,0,none⟩) n cap) n (dk.toList.map enc)) : Holds enc w g 0 dk ∧ base ≤ g ∧ g < w.heap.size ∧ dk.size = n ∧ n ≤ maxLen:=by
 have hl:=h.1
 rw [List.length_map,Nat.mul_one,Array.length_toList] at hl
 rcases h.2 with ⟨h',_⟩ | ⟨g',cap',cur,h',hb,hg,hnc,hcm,hcs,htake⟩
 ·cases h'
 ·simp only [Value.slice.injEq,Option.some.injEq,Addr.mk.injEq,and_true,true_and] at h'
  obtain ⟨rfl,rfl⟩:=h'
  refine ⟨fun j hj=>?_,hb,(Array.getElem?_eq_some_iff.1 hg).1,hl,Nat.le_trans hnc hcm⟩
  have e1 : cur[j]? = some (enc dk[j]!):=by
   have:=congrArg (·[j]?) htake
   simp only [List.getElem?_take,List.getElem?_map,Array.getElem?_toList] at this
   rw [if_pos (by omega),Array.getElem?_eq_getElem hj] at this
   rw [this,getElem!_pos dk j hj]
   rfl
  refine ⟨?_,?_⟩
  ·simp [World.cell?,hg,e1]
  ·simp [World.frozen?,hg]
theorem permIn_perm {d d' : Array α} (h : PermIn 0 d.size d d') : d'.toList.Perm d.toList:=by
 obtain ⟨h1,_,h3⟩:=h
 have e : d'.extract 0 d.size = d':=by rw [← h1];simp
 rw [e] at h3
 simpa using h3
theorem sortedIn_pairwise {lt : α → α → Bool} {d' : Array α} {n : Nat} (hn : n = d'.size) (h : SortedIn lt 0 n d') : d'.toList.Pairwise fun x y=>lt y x = false:=by
 rw [List.pairwise_iff_getElem]
 intro i j hi hj hij
 have:=h i j (Nat.zero_le _) hij (by rw [hn];simpa using hj)
 rw [getElem!_pos d' i (by simpa using hi),getElem!_pos d' j (by simpa using hj)] at this
 simpa using this
end
theorem grown_of_ext {w w' : World} (h : Go.RowKit.Below w.heap.size w w') (hd : w.drawn ≤ w'.drawn) : ∃ q os,w' = grow (w.drewN q) os:=by
 obtain ⟨p,hp⟩:=regrown_of_below h
 refine ⟨w'.drawn - w.drawn,p.os,?_⟩
 have hdr : w'.drawn = p.d:=by rw [hp];rfl
 have e : redrawn w p.d = w.drewN (w'.drawn - w.drawn):=by
  unfold redrawn World.drewN
  rw [show w.drawn + (w'.drawn - w.drawn) = p.d by omega]
 rw [← e]
 exact hp
end Go.Proofs.YtejdpadhemeldaaGreatDoor.Sxx
namespace Go.Proofs.YtejdpadhemeldaaGreatDoor
structure Ordly {α : Type} (lt : α → α → Bool) (l : List α) : Prop where
 asym : ∀ x ∈ l,∀ y ∈ l,lt x y = true → lt y x = false
 tran : ∀ x ∈ l,∀ y ∈ l,∀ z ∈ l,lt y x = false → lt z y = false → lt z x = false
section
variable {α : Type} {lt : α → α → Bool} {l l' l'' : List α} {a b c d : Nat}
end
end Go.Proofs.YtejdpadhemeldaaGreatDoor
namespace Go.Proofs.YtejdpadhemeldaaGreatDoor
section
variable {α : Type} {lt : α → α → Bool} {l l' l'' l1 l2 l3 : List α} {a b c d m n : Nat}
end
end Go.Proofs.YtejdpadhemeldaaGreatDoor
namespace Go.Proofs.YtejdpadhemeldaaGreatDoor
open Go.RowKit
structure Pre where
 r : World → World → Prop
 refl : ∀ w,r w w
 trans : ∀ {a b c : World},r a b → r b c → r a c
abbrev Pre.same (S : Nat → Prop) : Pre:=⟨Same S,Same.refl S,Same.trans⟩
theorem Same.alloc_of {S : Nat → Prop} {w : World} (h : ∀ b,S b → b < w.heap.size) (o : Obj) : Same S w (w.alloc o):=fun b hb=>(Ext.alloc w o).block b (h b hb)
section
variable {P : Program} {ops : Array Oper} {md : Region.Mode} {Q : Act → World → Prop} {B : Pre}
def staysR (B : Pre) (P : Program) (ops : Array Oper) (o : Oper) (v : Value) (a : Act) (w : World) : Prop:=
 (Region.wanted o (yielded ops a.tmps) = true ∧ ∀ w',B.r w w' → (execOp a.eval o).run P w' = .ok (.value v) w') ∨
 (Region.wanted o (yielded ops a.tmps) = false ∧ v = undef)
theorem staysR.comesUp {o : Oper} {v : Value} {a : Act} {w : World} {K : Act → World → Prop} (h : staysR B P ops o v a w) (hk : K (a.put o.dst v) w) : comesUp P ops o K a w:=by
 unfold Go.Proofs.YtejdpadhemeldaaGreatDoor.comesUp
 rcases h with ⟨hw,hv⟩ | ⟨hw,rfl⟩
 ·rw [if_pos hw];unfold Oper.wp;rw [hv w (B.refl w)];exact hk
 ·rw [if_neg (by simp [hw])];exact hk
theorem staysR.later {o : Oper} {v : Value} {a : Act} {w w' : World} (h : staysR B P ops o v a w) (hx : B.r w w') : staysR B P ops o v a w':=by
 rcases h with ⟨hw,hv⟩ | h
 ·exact .inl ⟨hw,fun w2 h2=>hv w2 (B.trans hx h2)⟩
 ·exact .inr h
theorem staysR.same {o : Oper} {v : Value} {a a' : Act} {w : World} (h : staysR B P ops o v a w) (he : execOp a'.eval o = execOp a.eval o)
 (hw : Region.wanted o (yielded ops a'.tmps) = Region.wanted o (yielded ops a.tmps)) : staysR B P ops o v a' w:=by
 unfold staysR at *
 rw [he,hw]
 exact h
def anyOrderR (B : Pre) (P : Program) (md : Region.Mode) (ops : Array Oper) (Q : Act → World → Prop) : Nat → Array Bool → Act → World → Prop
 | 0,listed,a,w=>Region.ready md ops listed = [] ∧ Q a w
 | fuel + 1,listed,a,w=>(Region.ready md ops listed = [] → Q a w) ∧
  ∀ i ∈ Region.ready md ops listed,∀ o,ops[i]? = some o → comesUp P ops o (fun a' w'=>B.r w w' ∧ anyOrderR B P md ops Q fuel (listed.setIfInBounds i true) a' w') a w
theorem anyOrderR.wpAny {R : Exit → Act → World → Prop} (hQ : ∀ a w,Q a w → R .normal a w) :
 ∀ (fuel : Nat) (listed : Array Bool) (a : Act) (w : World),anyOrderR B P md ops Q fuel listed a w → Go.wpAny P md ops R fuel listed a w
 | 0,_,_,_,h=>⟨h.1,hQ _ _ h.2⟩
 | fuel + 1,listed,a,w,h=>by
  refine ⟨fun h0=>hQ _ _ (h.1 h0),fun i hi=>?_⟩
  obtain ⟨_,o,ho,_⟩:=mem_ready.1 hi
  have h1:=h.2 i hi o ho
  unfold comesUp at h1
  unfold wpOp
  simp only [ho]
  split
  ·rename_i hw
   rw [if_pos hw] at h1
   exact .inl (wp_of_noExit (Oper.wp_mono (fun a' w' hh=>anyOrderR.wpAny hQ fuel _ a' w' hh.2) h1))
  ·rename_i hw
   rw [if_neg hw] at h1
   exact anyOrderR.wpAny hQ fuel _ _ _ h1.2
theorem comesUp_beforeR {oi oj : Oper} {v : Value} (hap : oi.apart ops oj = true) (hsi : ∀ cs b,oi.op ≠ .select cs b) (hsj : ∀ cs b,oj.op ≠ .select cs b)
 {K : Act → World → Prop} {a : Act} {w : World}
 (h : comesUp P ops oj K (a.put oi.dst v) w) :
 comesUp P ops oj (fun a' w'=>(∀ w0,staysR B P ops oi v a w0 → staysR B P ops oi v a' w0) ∧ K (a'.put oi.dst v) w') a w:=by
 obtain ⟨h1,h2,h3⟩:=Oper.apart_spec hap
 have keep : ∀ (b : Act) (u : Value),b.eval = a.eval → b.tmps = a.tmps → ∀ w0,staysR B P ops oi v a w0 → staysR B P ops oi v (b.put oj.dst u) w0:=fun b u hb ht w0 hs=>
  (hs.same (a':=b) (by rw [hb]) (by rw [ht])).same (execOp_put oi hsi b oj.dst u h3) (wanted_put oi b oj.dst u h3)
 unfold comesUp at *
 rw [wanted_put oj a oi.dst v h1] at h
 split
 ·rename_i hw
  rw [if_pos hw] at h
  unfold Oper.wp at *
  rw [execOp_put oj hsj a oi.dst v h1] at h
  generalize (execOp a.eval oj).run P w = r at *
  cases r with
  | ok n w'=>
   cases n <;> simp only [Oper.upon] at h ⊢
   case value u=>exact ⟨keep a u rfl rfl,by rw [← Act.put_comm a v u h2];exact h⟩
   case skip=>exact ⟨keep a _ rfl rfl,by rw [← Act.put_comm a v undef h2];exact h⟩
   case defer d=>exact ⟨keep { a with defers:=d :: a.defers } _ rfl rfl,by rw [← Act.put_comm _ v undef h2,← Act.put_defers];exact h⟩
   case enter f args=>
    refine Calls.mono h fun e w'' he=>?_
    cases e with
    | returned u=>exact ⟨keep a u rfl rfl,by rw [← Act.put_comm a v u h2];exact he⟩
    | panicked c=>exact he
    | outgrown=>exact he
   case row row args=>exact Rows.mono h fun u w'' he=>⟨keep a u rfl rfl,by rw [← Act.put_comm a v u h2];exact he⟩
  | halt x w'=>cases x <;> simp only [Oper.upon] at h ⊢ <;> exact h
 ·rename_i hw
  rw [if_neg hw] at h
  exact ⟨keep a _ rfl rfl,by rw [← Act.put_comm a v undef h2];exact h⟩
theorem anyOrder_firstR {i : Nat} {oi : Oper} {v : Value} (hi : ops[i]? = some oi) (hsel : ∀ (j : Nat) (o : Oper) cs b,ops[j]? = some o → o.op ≠ .select cs b) :
 ∀ (fuel : Nat) (listed : Array Bool) (a : Act) (w : World),
  (∀ j oj,ops[j]? = some oj → j ≠ i → listed.getD j true = false → (∀ e ∈ oj.after,Region.binds md e = true → e.on ≠ i) → oi.apart ops oj = true) →
  i ∈ Region.ready md ops listed → staysR B P ops oi v a w →
  anyOrderR B P md ops Q fuel (listed.setIfInBounds i true) (a.put oi.dst v) w → anyOrderR B P md ops Q (fuel + 1) listed a w:=by
 intro fuel
 induction fuel with
 | zero=>
  intro listed a w _ hr hy H
  refine ⟨fun h=>(by rw [h] at hr;cases hr),fun j hj o ho=>?_⟩
  by_cases hji : j = i
  ·subst hji
   have : o = oi:=by rw [hi] at ho;exact (Option.some.inj ho).symm
   subst this
   exact hy.comesUp ⟨B.refl w,H⟩
  ·have:=ready_mono hj hji
   rw [H.1] at this
   cases this
 | succ fuel ih=>
  intro listed a w hfree hr hy H
  refine ⟨fun h=>(by rw [h] at hr;cases hr),fun j hj oj hoj=>?_⟩
  by_cases hji : j = i
  ·subst hji
   have : oj = oi:=by rw [hi] at hoj;exact (Option.some.inj hoj).symm
   subst this
   exact hy.comesUp ⟨B.refl w,H⟩
  ·have h1:=H.2 j (ready_mono hj hji) oj hoj
   obtain ⟨hjun,oj',hoj',hall⟩:=mem_ready.1 hj
   have : oj' = oj:=by rw [hoj] at hoj';exact (Option.some.inj hoj').symm
   subst this
   have hnot : ∀ e ∈ oj'.after,Region.binds md e = true → e.on ≠ i:=fun e he hb heq=>by
    have h1:=hall e he hb
    have h0:=(mem_ready.1 hr).1
    rw [heq] at h1
    rcases Nat.lt_or_ge i listed.size with h' | h'
    ·simp [h'] at h0 h1;rw [h0] at h1;cases h1
    ·simp [Array.getElem?_eq_none h'] at h1
   have h2:=comesUp_beforeR (B:=B) (hfree j oj' hoj hji hjun hnot) (fun cs b=>hsel i oi cs b hi) (fun cs b=>hsel j oj' cs b hoj) h1
   have hfree' : ∀ k ok,ops[k]? = some ok → k ≠ i → (listed.setIfInBounds j true).getD k true = false →
    (∀ e ∈ ok.after,Region.binds md e = true → e.on ≠ i) → oi.apart ops ok = true:=fun k ok hk hki hun hno=>by
    refine hfree k ok hk hki ?_ hno
    by_cases hjk : j = k
    ·subst hjk;exact hjun
    ·rw [getD_set_ne true hjk] at hun;exact hun
   refine h2.mono fun a' w' h3=>⟨h3.2.1,ih (listed.setIfInBounds j true) a' w' hfree' (ready_mono hr (Ne.symm hji)) ((h3.1 w hy).later h3.2.1) ?_⟩
   rw [Array.setIfInBounds_comm _ _ hji]
   exact h3.2.2
def walksR (B : Pre) (P : Program) (ops : Array Oper) (Q : Act → World → Prop) : Plan → Act → World → Prop
 | .done,a,w=>Q a w
 | .read i p,a,w=>∃ o v,ops[i]? = some o ∧ staysR B P ops o v a w ∧ walksR B P ops Q p (a.put o.dst v) w
 | .main i p,a,w=>∃ o,ops[i]? = some o ∧ comesUp P ops o (fun a' w'=>B.r w w' ∧ walksR B P ops Q p a' w') a w
 | .alt i p q,a,w=>(∃ o,ops[i]? = some o ∧ comesUp P ops o (fun a' w'=>B.r w w' ∧ walksR B P ops Q p a' w') a w) ∧ walksR B P ops Q q a w
theorem anyOrder_doneR {listed : Array Bool} {a : Act} {w : World} (hr : Region.ready md ops listed = []) (h : Q a w) : ∀ fuel,anyOrderR B P md ops Q fuel listed a w
 | 0=>⟨hr,h⟩
 | _ + 1=>⟨fun _=>h,by rw [hr];simp⟩
theorem anyOrder_of_planR (hs : Region.noSelect ops = true) : ∀ (fuel : Nat) (p : Plan),
 (∀ (listed : Array Bool) (a : Act) (w : World),p.size ≤ fuel → p.fits md ops false listed = true → walksR B P ops Q p a w → anyOrderR B P md ops Q fuel listed a w) ∧
 (∀ (listed : Array Bool) (a : Act) (w : World),p.size ≤ fuel + 1 → p.fits md ops true listed = true → walksR B P ops Q p a w →
   ∀ i ∈ p.heads,∀ o,ops[i]? = some o → comesUp P ops o (fun a' w'=>B.r w w' ∧ anyOrderR B P md ops Q fuel (listed.setIfInBounds i true) a' w') a w):=by
 have one : ∀ (fuel : Nat) (i : Nat) (p : Plan) (listed : Array Bool) (a : Act) (w : World),
  (∀ (a : Act) (w : World),walksR B P ops Q p a w → anyOrderR B P md ops Q fuel (listed.setIfInBounds i true) a w) →
  (∃ o,ops[i]? = some o ∧ comesUp P ops o (fun a' w'=>B.r w w' ∧ walksR B P ops Q p a' w') a w) →
  ∀ o,ops[i]? = some o → comesUp P ops o (fun a' w'=>B.r w w' ∧ anyOrderR B P md ops Q fuel (listed.setIfInBounds i true) a' w') a w:=by
  intro fuel i p listed a w ih ⟨o,ho,hc⟩ o' ho'
  have : o' = o:=by rw [ho] at ho';exact (Option.some.inj ho').symm
  subst this
  exact hc.mono fun a' w' hh=>⟨hh.1,ih a' w' hh.2⟩
 have second : ∀ (fuel : Nat),(∀ (p : Plan) (listed : Array Bool) (a : Act) (w : World),p.size ≤ fuel → p.fits md ops false listed = true → walksR B P ops Q p a w → anyOrderR B P md ops Q fuel listed a w) →
  ∀ (p : Plan) (listed : Array Bool) (a : Act) (w : World),p.size ≤ fuel + 1 → p.fits md ops true listed = true → walksR B P ops Q p a w →
  ∀ i ∈ p.heads,∀ o,ops[i]? = some o → comesUp P ops o (fun a' w'=>B.r w w' ∧ anyOrderR B P md ops Q fuel (listed.setIfInBounds i true) a' w') a w:=by
  intro fuel ih p
  induction p with
  | done=>intro _ _ _ _ hf;simp [Plan.fits] at hf
  | read i p _=>intro _ _ _ _ hf;simp [Plan.fits] at hf
  | main i p _=>
   intro listed a w hz hf hw j hj
   simp only [Plan.fits,Bool.true_or,Bool.true_and] at hf
   simp only [Plan.heads,List.mem_singleton] at hj
   subst hj
   exact one fuel j p listed a w (fun a' w' hh=>ih p _ a' w' (by simp [Plan.size] at hz;omega) hf hh) hw
  | alt i p q _ ihq=>
   intro listed a w hz hf hw j hj
   simp only [Plan.fits,Bool.true_or,Bool.true_and,Bool.and_eq_true] at hf
   simp only [Plan.size] at hz
   simp only [Plan.heads,List.mem_cons] at hj
   rcases hj with hj | hj
   ·subst hj
    exact one fuel j p listed a w (fun a' w' hh=>ih p _ a' w' (by omega) hf.1 hh) hw.1
   ·exact ihq listed a w (by omega) hf.2 hw.2 j hj
 have first : ∀ (fuel : Nat) (p : Plan) (listed : Array Bool) (a : Act) (w : World),p.size ≤ fuel → p.fits md ops false listed = true → walksR B P ops Q p a w → anyOrderR B P md ops Q fuel listed a w:=by
  intro fuel
  induction fuel with
  | zero=>
   intro p listed a w hz hf hw
   cases p with
   | done=>exact anyOrder_doneR (by simpa [Plan.fits] using hf) hw 0
   | read i p=>simp [Plan.size] at hz
   | main i p=>simp [Plan.size] at hz
   | alt i p q=>simp [Plan.size] at hz
  | succ fuel ih=>
   intro p listed a w hz hf hw
   cases p with
   | done=>exact anyOrder_doneR (by simpa [Plan.fits] using hf) hw _
   | read i p=>
    simp only [Plan.fits,Bool.not_false,Bool.true_and,Bool.and_eq_true] at hf
    obtain ⟨o,v,ho,hy,hw'⟩:=hw
    exact anyOrder_firstR ho (Region.noSelect_spec hs) fuel listed a w (Region.free_spec ho hf.1.2) (by simpa using hf.1.1) hy (ih p _ _ _ (by simp [Plan.size] at hz;omega) hf.2 hw')
   | main i p=>
    have hf0:=hf
    simp only [Plan.fits,Bool.false_or,Bool.and_eq_true,beq_iff_eq] at hf
    refine ⟨fun h0=>(by rw [hf.1] at h0;cases h0),fun j hj=>?_⟩
    rw [hf.1] at hj
    exact second fuel ih (.main i p) listed a w hz (by simp only [Plan.fits,Bool.true_or,Bool.true_and];exact hf.2) hw j hj
   | alt i p q=>
    simp only [Plan.fits,Bool.false_or,Bool.and_eq_true,beq_iff_eq] at hf
    refine ⟨fun h0=>(by rw [hf.1.1] at h0;cases h0),fun j hj=>?_⟩
    rw [hf.1.1] at hj
    exact second fuel ih (.alt i p q) listed a w hz (by simp only [Plan.fits,Bool.true_or,Bool.true_and,Bool.and_eq_true];exact ⟨hf.1.2,hf.2⟩) hw j hj
 intro fuel p
 exact ⟨first fuel p,second fuel (first fuel) p⟩
theorem wp_region_planR (B : Pre) {id : Nat} {R : Exit → Act → World → Prop} {a : Act} {w : World} (p : Plan) (hm : P.follows .mixedOrders = true)
 (hf : (Region.noSelect ops && p.fits .any ops false (Array.replicate ops.size false) && decide (p.size ≤ ops.size)) = true)
 (h : ∀ wD,Ext w wD → walksR B P ops (R .normal) p a wD) : (Code.region id ops true).wp P R a w:=by
 simp only [Bool.and_eq_true,decide_eq_true_eq] at hf
 exact wp_region_any hm (anyOrderR.wpAny (Q:=R .normal) (fun _ _ hq=>hq) _ _ _ _ ((anyOrder_of_planR (md:=.any) hf.1.1 ops.size p).1 _ _ _ hf.2 hf.1.2 (h w.drew (Ext.drew w))))
theorem walksR_done {a : Act} {w : World} (h : Q a w) : walksR B P ops Q .done a w:=h
theorem walksR_read {i : Nat} {p : Plan} {a : Act} {w : World} {d : Option Tmp} {op : Op} {ty : TypeId} {pos : String} {af : Array Edge} {gd : Option (Nat × Bool)} {v : Value}
 (ho : ops[i]? = some ⟨d,op,ty,pos,af,gd⟩) (hw : Region.wanted ⟨d,op,ty,pos,af,gd⟩ (yielded ops a.tmps) = true)
 (hv : ∀ w',B.r w w' → (execOp a.eval ⟨d,op,ty,pos,af,gd⟩).run P w' = .ok (.value v) w') (h : walksR B P ops Q p (a.put d v) w) : walksR B P ops Q (.read i p) a w:=⟨_,v,ho,.inl ⟨hw,hv⟩,h⟩
theorem walksR_move {i : Nat} {p : Plan} {a : Act} {w : World} {d : Option Tmp} {x : Operand} {ty : TypeId} {pos : String} {af : Array Edge} {gd : Option (Nat × Bool)}
 (ho : ops[i]? = some ⟨d,.move x,ty,pos,af,gd⟩) (hw : Region.wanted ⟨d,.move x,ty,pos,af,gd⟩ (yielded ops a.tmps) = true)
 (h : walksR B P ops Q p (a.put d (a.eval x)) w) : walksR B P ops Q (.read i p) a w:=walksR_read ho hw (fun _ _=>by simp [execOp]) h
theorem walksR_assign {i : Nat} {p : Plan} {a : Act} {w : World} {d : Option Tmp} {x : Operand} {ty : TypeId} {pos : String} {af : Array Edge} {gd : Option (Nat × Bool)}
 (ho : ops[i]? = some ⟨d,.assign x,ty,pos,af,gd⟩) (hw : Region.wanted ⟨d,.assign x,ty,pos,af,gd⟩ (yielded ops a.tmps) = true)
 (h : walksR B P ops Q p (a.put d (a.eval x)) w) : walksR B P ops Q (.read i p) a w:=walksR_read ho hw (fun _ _=>by simp [execOp]) h
theorem walksR_main {i : Nat} {p : Plan} {a : Act} {w : World} {d : Option Tmp} {op : Op} {ty : TypeId} {pos : String} {af : Array Edge} {gd : Option (Nat × Bool)}
 (ho : ops[i]? = some ⟨d,op,ty,pos,af,gd⟩) (hw : Region.wanted ⟨d,op,ty,pos,af,gd⟩ (yielded ops a.tmps) = true)
 (h : ∀ K : Act → World → Prop,(∀ a' w',B.r w w' → walksR B P ops Q p a' w' → K a' w') → Oper.wp P ⟨d,op,ty,pos,af,gd⟩ a w K noExit) : walksR B P ops Q (.main i p) a w:=by
 refine ⟨_,ho,?_⟩
 unfold comesUp
 rw [if_pos hw]
 exact h _ fun _ _ h1 h2=>⟨h1,h2⟩
end
end Go.Proofs.YtejdpadhemeldaaGreatDoor
namespace Go.Proofs.YtejdpadhemeldaaGreatDoor
open Go.RowKit
open Go.Maps Go.MapKept
set_option maxRecDepth 100000
theorem mlawE : Keyed Tryz.prog 9:=string_keyed Tryz.underlying9
theorem zeroEnt (w : World) : (zeroValue 31).run Tryz.prog w = .ok (.agg #[.string ⟨#[]⟩,.slice none 0 0]) w:=by kernel_rfl
theorem look_empty {w : World} {B : Nat} (hb : w.heap[B]? = some (.map #[] 0)) (s : ByteArray) (hs : s.size ≤ maxLen) :
 (Instr.lookup 51 (.map (some B)) (.string s) true).run Tryz.prog w = .ok (.tuple #[.agg #[.string ⟨#[]⟩,.slice none 0 0],.bool false]) w:=by
 rcases Maps.fit_look (H:=Unit) (R:=fun _=>some (.lit (.bool true),[])) true mlawE Tryz.underlying51 (zeroEnt w) hb ⟨by simp,stamped_empty 0,by simp⟩ (key:=.string s) (kl:=.string s.data.toList) (WideMaps.keyOf_string_mk Tryz.underlying9 hs) with ⟨h1,-,-⟩ | ⟨e0,y,h1,-⟩
 ·exact h1
 ·simp at h1
theorem put_empty {w : World} {B : Nat} (hb : w.heap[B]? = some (.map #[] 0)) (s : ByteArray) (hs : s.size ≤ maxLen) (v : Value) :
 ∃ w' es clock,(Instr.mapUpdate 51 (.map (some B)) (.string s) v).run Tryz.prog w = .ok () w' ∧ w'.heap[B]? = some (.map es clock) ∧ es.size = 1 ∧ w.grownBy w' (some B):=by
 have h0 : w.ownsMap (H:=Unit) Tryz.prog 9 (fun _=>some (.lit (.bool true),[])) B 0 (.map []):=⟨#[],0,hb,⟨by simp,stamped_empty 0,by simp⟩,Nat.le_refl _,rfl⟩
 obtain ⟨w',h1,⟨es,clock,h2,h3,h4,h5⟩,h6⟩:=h0.update mlawE Tryz.underlying51 (by simp [maxLen]) (key:=.string s) (val:=v) (kl:=.string s.data.toList) (WideMaps.keyOf_string_mk Tryz.underlying9 hs) rfl
 refine ⟨w',es,clock,h1,h2,?_,h6⟩
 have e1 : es.size = ((es.toList.map (Go.WideElems.rg Tryz.prog 9 (fun _=>some ((.lit (.bool true) : DataW Unit),[])))).foldr DataW.insert []).length:=by rw [length_sorted];simp
 have e2 : (DataW.map []).put (.string s.data.toList) (.lit (.bool true) : DataW Unit) = .map [(.string s.data.toList,.lit (.bool true))]:=by simp [DataW.put,DataW.insert]
 rw [e2] at h5
 injection h5 with h5
 rw [e1,← h5]
 rfl
def NewSays (w : World) (e : Ending) (w' : World) : Prop:=∃ g B,e = .returned (.pointer (some ⟨g,0,none⟩)) ∧ w'.heap[g]? = some (.cells #[.map (some B)] 53 (0,0)) ∧ w'.heap[B]? = some (.map #[] 0) ∧ w.heap.size ≤ B ∧ B < g ∧ Ext w w'
theorem new_any (w : World) : Calls Tryz.prog 13 #[] w (NewSays w):=by
 have hmm:=@run_makeMap Tryz.prog
 go_enter Tryz.func13,Tryz.ntmps13
 go_wp2
 go_ret
 refine ⟨_,w.heap.size,rfl,?_,?_,Nat.le_refl _,by simp,(Ext.alloc _ _).trans (Ext.alloc _ _)⟩
 ·have:=heap_alloc_new (w.alloc (.map #[] 0)) (.cells #[.map (some w.heap.size)] 53)
  rwa [show (w.alloc (.map #[] 0)).heap.size = w.heap.size + 1 by simp] at this
 ·exact ((Ext.alloc (w.alloc (.map #[] 0)) _).block _ (by simp)).trans (heap_alloc_new w _)
theorem len_any (g B : Nat) (es : Array MapEntry) (clock : Nat) (w : World) (hg : w.heap[g]? = some (.cells #[.map (some B)] 53 (0,0))) (hb : w.heap[B]? = some (.map es clock)) (hz : es.size = 1) :
 Calls Tryz.prog 15 #[.pointer (some ⟨g,0,none⟩)] w fun e w'=>e = .returned (.int .i64 1) ∧ Ext w w':=by
 have c0 : w.cell? ⟨g,0,none⟩ = some (.map (some B)):=by rw [cell_of_row w g 0 _ _ (0,0) hg];rfl
 have hlen : (Builtin.len_ #[51] 3 #[.map (some B)]).run Tryz.prog w = .ok (.int .i64 1) w:=by
  have:=MapKept.run_getObj_map (P:=Tryz.prog) hb
  simp [Builtin.len_,run_underlying Tryz.underlying51,this,hz,Result.andThen]
  rfl
 go_enter Tryz.func15,Tryz.ntmps15
 go_wp2
 go_ret
 exact ⟨rfl,Ext.refl _⟩
theorem mapput_wp {w w' : World} {o : Oper} {a : Act} {K : Act → World → Prop} {Q : Exit → Act → World → Prop} (T : TypeId) (m x v : Operand) (ho : o.op = .mapUpdate T m x v) {M X V : Value} (hm : a.eval m = M) (hx : a.eval x = X) (hv : a.eval v = V)
 (hrun : (Instr.mapUpdate T M X V).run Tryz.prog w = .ok () w') (h : K (a.put o.dst undef) w') : o.wp Tryz.prog a w K Q:=by
 unfold Oper.wp
 simp [execOp,ho,hm,hx,hv,hrun,Result.andThen]
 exact h
def PutSays (w : World) (B : Nat) (e : Ending) (w' : World) : Prop:=e = .returned (.tuple #[]) ∧ ∃ es clock,w'.heap[B]? = some (.map es clock) ∧ es.size = 1 ∧ w.grownBy w' (some B)
theorem tset_any (g B : Nat) (s : ByteArray) (A : Option Addr) (n c : Nat) (w : World) (hs : s.size ≤ maxLen) (hg : w.heap[g]? = some (.cells #[.map (some B)] 53 (0,0))) (hb : w.heap[B]? = some (.map #[] 0)) :
 Calls Tryz.prog 30 #[.pointer (some ⟨g,0,none⟩),.agg #[.string s,.slice A n c]] w (PutSays w B):=by
 have HS:=hid hs
 have HG:=hid hg
 have HB:=hid hb
 have hgl:=row_lt hg
 have hbl : B < w.heap.size:=(Array.getElem?_eq_some_iff.1 hb).1
 have hne : g ≠ B:=fun e=>by rw [e,hb] at hg;simp at hg
 have HB0:=hid (Bx.make (Ext.refl w) #[.string s,.slice A n c] 31)
 have c0:=cell_later (v:=.map (some B)) (p:=⟨g,0,none⟩) (by rw [cell_of_row w g 0 _ _ (0,0) hg];rfl) _ (Ext.alloc w (.cells #[.string s,.slice A n c] 31))
 show Calls _ _ _ _ (fun e w'=>PutSays w B e w')
 obtain ⟨S9,hS9⟩ : ∃ S : Nat → Prop,S = fun b=>b < w.heap.size + 1 ∧ b ≠ B:=⟨_,rfl⟩
 have HSI : Hid (∀ b,S9 b → b < w.heap.size + 1 ∧ b ≠ B):=fun b hb=>by rw [hS9] at hb;exact hb
 have HS1 : Hid (S9 w.heap.size):=by show S9 _;rw [hS9];exact ⟨by omega,by omega⟩
 have HS2 : Hid (S9 g):=by show S9 _;rw [hS9];exact ⟨by omega,hne⟩
 have HBL:=hid hbl
 obtain ⟨PR,hPR⟩ : ∃ p,p = Pre.same S9:=⟨_,rfl⟩
 have HPS : Hid (∀ w w',Same S9 w w' → PR.r w w'):=fun w w' h=>by rw [hPR];exact h
 have HPT : Hid (∀ w w',PR.r w w' → Same S9 w w'):=fun w w' h=>by rw [hPR] at h;exact h
 clear hs hg hb hgl hbl hne hPR hS9
 have hme:=fun W=>run_eql_map_nil (P:=Tryz.prog) W 51 9 31 (some B) Tryz.underlying51
 go_enter Tryz.func30,Tryz.ntmps30
 go_wp2
 refine wp_region_planR PR (.read 0 (.read 1 (.read 2 (.read 3 (.read 4 (.read 5 (.read 6 (.main 7 .done)))))))) (by kernel_rfl) (by kernel_rfl) ?_
 intro wD hxD
 have XR : Hid (PR.r wD wD):=PR.refl _
 have HBD:=hid (HB0.out.later hxD)
 have HGD:=hid (row_later' HG.out HBD.out.ext)
 have HMD : Hid (wD.heap[B]? = some (.map #[] 0)):=by show _ = _;rw [HBD.out.ext.block B HBL.out];exact HB.out
 have ce0 : ∀ w',PR.r wD w' → w'.cell? ⟨w.heap.size,0,none⟩ = some (.string s):=fun w' hk=>by rw [World.cell?_of_block (HPT.out _ _ hk _ HS1.out)];exact HBD.out.cell (i:=0) rfl
 have ce1 : ∀ w',PR.r wD w' → w'.cell? ⟨w.heap.size,1,none⟩ = some (.slice A n c):=fun w' hk=>by rw [World.cell?_of_block (HPT.out _ _ hk _ HS1.out)];exact HBD.out.cell (i:=1) rfl
 have cg : ∀ w',PR.r wD w' → w'.cell? ⟨g,0,none⟩ = some (.map (some B)):=fun w' hk=>by rw [World.cell?_of_block (HPT.out _ _ hk _ HS2.out),cell_of_row wD g 0 _ _ (0,0) HGD.out];rfl
 obtain ⟨w8,es,clock,hrun,hes,hsz,hgr⟩:=put_empty HMD.out s HS.out (.agg #[.string s,.slice A n c])
 have HRUN:=hid hrun
 have HES:=hid hes
 have HSZ:=hid hsz
 have HGR:=hid hgr
 have hs8 : PR.r wD w8:=HPS.out _ _ (fun b hb=>hgr.block b (by have h1:=(HSI.out b hb).1;have h2:=hxD.size;simp only [World.alloc,Array.size_push] at h2;omega) (fun e=>by injection e with e;exact (HSI.out b hb).2 e))
 clear hrun hes hsz hgr
 repeat' (first
  | ((first | refine walksR_move rfl rfl ?_ | refine walksR_assign rfl rfl ?_ | refine walksR_skip rfl rfl ?_);simp only [Act.put,Act.eval,evs])
  | (refine walksR_unwanted rfl rfl ?_;simp only [Act.put,evp])
  | (refine walksR_read (v:=?_) rfl rfl (fun w' hE=>?_) ?_;rotate_left 1;(· ((try (have hEx:=Pre.trans _ (Hid.out XR) hE));go_simp;(try go_bits);with_reducible rfl));simp only [Act.put,evp])
  | (refine walksR_main rfl rfl (fun K hK=>?_);(first | (refine mapput_wp 51 (.tmp 16) (.tmp 18) (.tmp 19) rfl rfl rfl rfl HRUN.out ?_));refine hK _ _ (by first | assumption | exact Pre.refl _ _ | exact Hid.out HPS _ _ (Same.alloc_of (Hid.out HSR) _) | exact Hid.out HPS _ _ (Same.set_of (Hid.out HNE) _) | exact Hid.out HPS _ _ (Same.allocs_of (Hid.out HSR) _ _)) ?_;clear hK K;try simp only [Act.put,evp])
  | (refine walksR_alt ?_ ?_)
  | (refine walksR_main rfl rfl (fun K hK=>?_);go_wp2_with (fail);refine hK _ _ (by first | assumption | exact Pre.refl _ _ | exact Hid.out HPS _ _ (Same.alloc_of (Hid.out HSR) _) | exact Hid.out HPS _ _ (Same.set_of (Hid.out HNE) _) | exact Hid.out HPS _ _ (Same.allocs_of (Hid.out HSR) _ _)) ?_;clear hK K;try simp only [Act.put,evp]))
 all_goals
  refine walksR_done ?_
  go_wp2
  refine bodyPost_ret (v:=.tuple #[]) (by kernel_rfl) rfl ⟨rfl,es,clock,HES.out,HSZ.out,?_⟩
  have hb8:=HGR.out
  have hb9:=HBD.out.ext
  exact ⟨hb8.os.trans hb9.os,hb8.tape.trans hb9.tape,hb8.output.trans hb9.output,Nat.le_trans hb9.size hb8.size,fun k hk hn=>(hb8.block k (Nat.lt_of_lt_of_le hk hb9.size) hn).trans (hb9.block k hk)⟩
end Go.Proofs.YtejdpadhemeldaaGreatDoor
namespace Go.Proofs.YtejdpadhemeldaaGreatDoor.bulks
theorem one_le {H : Type} (d : DataW H) : 1 ≤ Rows.uptoBulk d:=by
 cases d with
 | lit l=>cases l <;> simp [Rows.uptoBulk]
 | nil=>simp [Rows.uptoBulk]
 | ptr d=>simp [Rows.uptoBulk]
 | slice elems spare=>simp [Rows.uptoBulk]
 | agg parts=>simp [Rows.uptoBulk]
 | iface t d=>simp [Rows.uptoBulk]
 | map entries=>simp [Rows.uptoBulk]
 | held h=>simp [Rows.uptoBulk]
theorem part_le {H : Type} {d : DataW H} {l : List (DataW H)} (h : d ∈ l) : Rows.uptoBulk d ≤ Rows.uptoBulkAll l:=by
 induction l with
 | nil=>cases h
 | cons x r ih=>
  simp only [Rows.uptoBulkAll]
  cases List.mem_cons.1 h with
  | inl e=>subst e;omega
  | inr e=>have:=ih e;omega
theorem length_le {H : Type} (l : List (DataW H)) : l.length ≤ Rows.uptoBulkAll l:=by
 induction l with
 | nil=>simp [Rows.uptoBulkAll]
 | cons x r ih=>have:=one_le x;simp only [Rows.uptoBulkAll,List.length_cons];omega
theorem slice_le {H : Type} (elems spare : List (DataW H)) : elems.length + spare.length + 1 ≤ Rows.uptoBulk (.slice elems spare):=by
 have h1:=length_le elems
 have h2:=length_le spare
 simp only [Rows.uptoBulk]
 omega
theorem slice_elems {H : Type} (elems spare : List (DataW H)) : Rows.uptoBulkAll elems + 1 ≤ Rows.uptoBulk (.slice elems spare):=by
 simp only [Rows.uptoBulk]
 omega
theorem bound {H : Type} {l : List (DataW H)} (hk : Rows.uptoSmall H l = true) : Rows.uptoBulkAll l ≤ 1048576:=of_decide_eq_true hk
end Go.Proofs.YtejdpadhemeldaaGreatDoor.bulks
namespace Go.Proofs.YtejdpadhemeldaaGreatDoor
open Go.RowKit Go.ChangeShapes Go.WideShapes Go.Deep
set_option maxRecDepth 10000
theorem flat_split {k : Nat} : ∀ {vss : List (List Value)},(∀ v ∈ vss,v.length = k) → ∀ {j : Nat} {u : Value},vss.flatten[j]? = some u → ∃ i r v,vss[i]? = some v ∧ v[r]? = some u ∧ j = i * k + r ∧ r < k
 | [],_,j,u,h=>by simp at h
 | v0 :: vss,hl,j,u,h=>by
  have h0:=hl v0 (by simp)
  rw [List.flatten_cons] at h
  rcases Nat.lt_or_ge j v0.length with hj | hj
  ·rw [List.getElem?_append_left hj] at h
   exact ⟨0,j,v0,rfl,h,by omega,by omega⟩
  ·rw [List.getElem?_append_right hj] at h
   obtain ⟨i,r,v,h1,h2,h3,h4⟩:=flat_split (fun v hv=>hl v (by simp [hv])) h
   exact ⟨i + 1,r,v,by simpa using h1,h2,by rw [Nat.succ_mul];omega,h4⟩
section
variable {H : Type} {enc : TypeId × Value → H} {W : World}
theorem row_open {α : Type} (E : Elem α) (Q : α → Prop) {t e : TypeId} (ht : Tryz.prog.underlying t = some (.slice e)) (hk : Tryz.prog.cellsOf e = E.k) {M : Nat}
 (hE : ∀ (n : Nat) cs (x : DataW H × List MemPlace),DataW.trod enc Tryz.prog W 0 (fun _=>true) true n e cs = some x → Rows.uptoBulk x.1 < M → ∃ a,E.R (fun _=>True) W cs a ∧ Q a)
 {fuel : Nat} {cs : List Value} {x : DataW H × List MemPlace} (h : DataW.trod enc Tryz.prog W 0 (fun _=>true) true fuel t cs = some x) (hM : Rows.uptoBulk x.1 ≤ M) :
 ∃ A n c l,cs = [.slice A n c] ∧ Row E (fun _=>True) W A n c l ∧ l.length ≤ M ∧ ∀ a ∈ l,Q a:=by
 rcases open_slice ht h with ⟨rfl,rfl⟩ | ⟨a,len,cap,m,n,D,Pl,rfl,-,hl,hm,hmm,rfl,hx⟩
 ·exact ⟨none,0,0,[],rfl,Row.nil E _ W,by simp,by simp⟩
 ·simp only [if_true] at hmm
  subst hmm
  have hb:=bulks.slice_le (H:=H) ((List.range len).map D) ((List.range (m - len)).map fun j=>D (len + j))
  have hb2:=bulks.slice_elems (H:=H) ((List.range len).map D) ((List.range (m - len)).map fun j=>D (len + j))
  simp only [List.length_map,List.length_range] at hb
  simp only [] at hM
  have hD : ∀ i,i < len → Rows.uptoBulk (D i) < M:=fun i hi=>by
   have:=bulks.part_le (d:=D i) (l:=(List.range len).map D) (List.mem_map.2 ⟨i,List.mem_range.2 hi,rfl⟩)
   omega
  rcases Nat.eq_zero_or_pos len with h0 | h0
  ·subst h0
   exact ⟨some a,0,m,[],rfl,⟨rfl,Nat.zero_le _,hm,[],rfl,.inl rfl,fun i v x hi=>by simp at hi⟩,by simp,by simp⟩
  ·have hone : ∀ i,i < len → ∃ y : List Value × α,W.cells? 0 (a.add (i * E.k)) E.k = some y.1 ∧ E.R (fun _=>True) W y.1 y.2 ∧ Q y.2:=fun i hi=>by
    obtain ⟨cs',h1,h2⟩:=hx i (by omega)
    rw [hk] at h1
    obtain ⟨o,hR,hQ⟩:=hE n cs' _ h2 (hD i hi)
    exact ⟨(cs',o),h1,hR,hQ⟩
   haveI : Inhabited α:=⟨(hone 0 h0).choose.2⟩
   obtain ⟨f,hf⟩:=choose_lt hone
   have hspot : ∃ b off,a = ⟨b,off,none⟩:=by
    obtain ⟨h1,-,-⟩:=hf 0 h0
    obtain ⟨-,hlen,hc⟩:=World.cells?_some h1
    have h2:=hc 0 E.pos
    rw [List.getElem?_eq_getElem (by rw [hlen];exact E.pos)] at h2
    obtain ⟨b,off,spot⟩:=a
    have hs : spot = none:=by simpa [Addr.add] using World.cell?_spot h2
    exact ⟨b,off,by rw [hs]⟩
   obtain ⟨b,off,rfl⟩:=hspot
   have hall : ∀ v ∈ (List.range len).map fun i=>(f i).1,v.length = E.k:=fun v hv=>by
    obtain ⟨i,hi,rfl⟩:=List.mem_map.1 hv
    exact E.len (hf i (List.mem_range.1 hi)).2.1
   refine ⟨_,_,_,(List.range len).map fun i=>(f i).2,rfl,⟨by simp,hl,hm,(List.range len).map fun i=>(f i).1,by simp,.inr ⟨b,off,rfl,trivial,fun j u hj=>?_⟩,fun i v x hi hx=>?_⟩,by simp;omega,fun o ho=>?_⟩
   ·obtain ⟨i,r,v,h1,h2,rfl,hr⟩:=flat_split hall hj
    have hi : i < len:=by have:=(List.getElem?_eq_some_iff.1 h1).1;simpa using this
    have hv : v = (f i).1:=by simpa [hi] using h1.symm
    obtain ⟨-,-,hc⟩:=World.cells?_some (hf i hi).1
    have:=hc r hr
    rw [add_add,addr_add] at this
    rw [this,← hv,h2]
   ·have hi' : i < len:=by have:=(List.getElem?_eq_some_iff.1 hi).1;simpa using this
    have h1 : v = (f i).1:=by simpa [hi'] using hi.symm
    have h2 : x = (f i).2:=by simpa [hi'] using hx.symm
    subst h1 h2
    exact (hf i hi').2.1
   ·obtain ⟨i,hi,rfl⟩:=List.mem_map.1 ho
    exact (hf i (List.mem_range.1 hi)).2.2
theorem agg_open {t : TypeId} {fs : Array Field} (ht : Tryz.prog.underlying t = some (.struct fs)) {M : Nat} {fuel : Nat} {cs : List Value} {x : DataW H × List MemPlace}
 (h : DataW.trod enc Tryz.prog W 0 (fun _=>true) true fuel t cs = some x) (hM : Rows.uptoBulk x.1 ≤ M) :
 cs.length = Tryz.prog.cellsOf t ∧ ∀ (i : Nat) (f : Field),fs[i]? = some f → ∃ m y,DataW.trod enc Tryz.prog W 0 (fun _=>true) true m f.type ((cs.drop f.offset).take (Tryz.prog.cellsOf f.type)) = some y ∧ Rows.uptoBulk y.1 < M:=by
 obtain ⟨xs,n,-,rfl,hl,hlen,hf⟩:=DataW.trod_struct ht h
 refine ⟨hl,fun i f hi=>?_⟩
 have hi' : i < xs.length:=by rw [hlen];exact (Array.getElem?_eq_some_iff.1 hi).1
 have h1:=hf i f hi
 rw [List.getElem?_eq_getElem hi'] at h1
 refine ⟨n,xs[i],h1,?_⟩
 have h2:=bulks.part_le (d:=xs[i].1) (l:=xs.map (·.1)) (List.mem_map.2 ⟨_,List.getElem_mem hi',rfl⟩)
 simp only [Rows.uptoBulk] at hM
 omega
theorem str_open {t : TypeId} (ht : Tryz.prog.underlying t = some .string) {M : Nat} {fuel : Nat} {cs : List Value} {x : DataW H × List MemPlace}
 (h : DataW.trod enc Tryz.prog W 0 (fun _=>true) true fuel t cs = some x) (hM : Rows.uptoBulk x.1 ≤ M) : ∃ s : ByteArray,cs = [.string s] ∧ s.size < M:=by
 obtain ⟨s,rfl,rfl,-⟩:=DataW.trod_string ht h
 exact ⟨s,rfl,by simp only [Rows.uptoBulk,Array.length_toList] at hM;exact hM⟩
theorem drop_one {cs : List Value} {i k j : Nat} {v : Value} (h : (cs.drop i).take k = [v]) (hk : k = 1) (hj : i + 1 = j) : cs.drop i = v :: cs.drop j:=by
 subst hk hj
 have h1:=List.take_append_drop 1 (cs.drop i)
 rw [h,List.drop_drop] at h1
 exact h1.symm
theorem drop_all {cs : List Value} {n k : Nat} (h : cs.length = k) (hk : k = n) : cs.drop n = []:=List.drop_eq_nil_of_le (by omega)
end
end Go.Proofs.YtejdpadhemeldaaGreatDoor
namespace Go.Proofs.YtejdpadhemeldaaGreatDoor
open Go.RowKit Go.ChangeShapes Go.WideShapes Go.Deep
set_option maxRecDepth 100000
def StrOk (s : ByteArray) : Prop:=s.size ≤ 1048576
def AttOk (a : Att) : Prop:=a.type.size ≤ 1048576 ∧ a.vals.length ≤ 1048576 ∧ ∀ v ∈ a.vals,v.size ≤ 1048576
def EntOk (e : Ent) : Prop:=e.name.size ≤ 1048576 ∧ e.atts.length ≤ 1048576 ∧ ∀ a ∈ e.atts,AttOk a
section
variable {H : Type} {enc : TypeId × Value → H} {W : World}
theorem cstr_open {M : Nat} (hM0 : M ≤ 1048576) {fuel : Nat} {cs : List Value} {x : DataW H × List MemPlace} (h : DataW.trod enc Tryz.prog W 0 (fun _=>true) true fuel 9 cs = some x) (hM : Rows.uptoBulk x.1 ≤ M) : ∃ s : ByteArray,Elem.str.R (fun _=>True) W cs s ∧ StrOk s:=by
 obtain ⟨s,e0,q0⟩:=str_open Tryz.underlying9 h hM
 exact ⟨s,e0,Nat.le_trans (Nat.le_of_lt q0) hM0⟩
theorem att_open {M : Nat} (hM0 : M ≤ 1048576) {fuel : Nat} {cs : List Value} {x : DataW H × List MemPlace} (h : DataW.trod enc Tryz.prog W 0 (fun _=>true) true fuel 42 cs = some x) (hM : Rows.uptoBulk x.1 ≤ M) : ∃ a : Att,Elem.att.R (fun _=>True) W cs a ∧ AttOk a:=by
 obtain ⟨hl,hf⟩:=agg_open Tryz.underlying42 h hM
 obtain ⟨m0,y0,h0,b0⟩:=hf 0 _ rfl
 obtain ⟨s,e0,q0⟩:=str_open Tryz.underlying9 h0 (Nat.le_of_lt b0)
 obtain ⟨m1,y1,h1,b1⟩:=hf 1 _ rfl
 obtain ⟨A,n,c,l,e1,r1,l1,q1⟩:=row_open Elem.str StrOk Tryz.underlying36 (by kernel_rfl) (fun n cs x hx hb=>cstr_open (M:=1048576) (Nat.le_refl _) hx (by omega)) h1 (Nat.le_of_lt b1)
 have hcs : cs.drop 0 = [.string s,.slice A n c]:=by rw [drop_one (i:=0) (j:=1) e0 (by kernel_rfl) rfl,drop_one (i:=1) (j:=2) e1 (by kernel_rfl) rfl,drop_all (n:=2) hl (by kernel_rfl)]
 rw [List.drop_zero] at hcs
 exact ⟨⟨s,l⟩,⟨A,n,c,hcs,r1⟩,Nat.le_trans (Nat.le_of_lt q0) hM0,Nat.le_trans l1 hM0,q1⟩
theorem ent_open {M : Nat} (hM0 : M ≤ 1048576) {fuel : Nat} {cs : List Value} {x : DataW H × List MemPlace} (h : DataW.trod enc Tryz.prog W 0 (fun _=>true) true fuel 31 cs = some x) (hM : Rows.uptoBulk x.1 ≤ M) : ∃ a : Ent,Elem.ent.R (fun _=>True) W cs a ∧ EntOk a:=by
 obtain ⟨hl,hf⟩:=agg_open Tryz.underlying31 h hM
 obtain ⟨m0,y0,h0,b0⟩:=hf 0 _ rfl
 obtain ⟨s,e0,q0⟩:=str_open Tryz.underlying9 h0 (Nat.le_of_lt b0)
 obtain ⟨m1,y1,h1,b1⟩:=hf 1 _ rfl
 obtain ⟨A,n,c,l,e1,r1,l1,q1⟩:=row_open Elem.att AttOk Tryz.underlying29 (by kernel_rfl) (fun n cs x hx hb=>att_open (M:=1048576) (Nat.le_refl _) hx (by omega)) h1 (Nat.le_of_lt b1)
 have hcs : cs.drop 0 = [.string s,.slice A n c]:=by rw [drop_one (i:=0) (j:=1) e0 (by kernel_rfl) rfl,drop_one (i:=1) (j:=2) e1 (by kernel_rfl) rfl,drop_all (n:=2) hl (by kernel_rfl)]
 rw [List.drop_zero] at hcs
 exact ⟨⟨s,l⟩,⟨A,n,c,hcs,r1⟩,Nat.le_trans (Nat.le_of_lt q0) hM0,Nat.le_trans l1 hM0,q1⟩
end
end Go.Proofs.YtejdpadhemeldaaGreatDoor
