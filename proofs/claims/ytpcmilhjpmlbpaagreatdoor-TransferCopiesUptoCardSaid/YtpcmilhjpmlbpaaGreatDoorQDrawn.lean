import Derived.Calls
import Derived.Below
import Derived.Deep.Draws
import Derived.Sort.Grow
import Derived.Deep.Quiet
import Derived.Deep.QuietTactic
import Derived.BigQuiet
import Derived.StillTail
namespace Go.Proofs.YtpcmilhjpmlbpaaGreatDoor
open Go
theorem ask_drawn {α:Type}:∀(a:Ask α) (w:World),w.drawn≤(w.ask a).2.drawn:=by
 intro a
 induction a with
 | done a=>intro w;exact Nat.le_refl _
 | ask what range k ih=>
   intro w
   simp only[World.ask]
   split
   ·exact ih _ w
   ·exact Nat.le_trans (Nat.le_succ _) (ih _ { w with drawn:=w.drawn+1})
theorem KS (w:World)(c:Sys):w.drawn≤(w.sys c).2.drawn:=by
 have h:=ask_drawn (Kernel.perform c w.os) w
 unfold World.sys
 generalize w.ask (Kernel.perform c w.os)=r at h
 obtain⟨⟨r1,r2⟩,w1⟩:=r
 cases r1 <;> first | exact Nat.le_refl _ | exact h
theorem KE (w:World)(a:Addr)(n:Nat):(w.freeze a n).drawn=w.drawn:=by
 unfold World.freeze
 split <;> rfl
theorem Va {p:Program}{w:World}{at_:Addr}{u:TypeId}{k:Addr}{v:Value}{atomic:Bool}{r:World×List Addr}(h:w.viewStore p at_ u k v atomic= .ok r):r.1.drawn=w.drawn:=by
 unfold World.viewStore at h
 simp only[bind,Except.bind,pure,Except.pure]at h
 repeat' split at h
 all_goals first | (cases h;rfl) | cases h
theorem YE {p:Program}{w:World}{a:Addr}{v:Value}{b:Bool}{r:World×List Addr}(h:w.farStore p a v b= .ok r):r.1.drawn=w.drawn:=by
 unfold World.farStore at h
 split at h
 ·split at h
  ·cases h;exact Va (by assumption)
  ·cases h
 ·cases h
def resW {α:Type}:Result α→World
 | .ok _ w=>w
 | .halt _ w=>w
theorem KW {α:Type}(p:Program):∀(s:Sem α) (w:World),w.drawn≤(resW (s.run p w)).drawn:=by
 intro s
 induction s with
 | pure a=>intro w;exact Nat.le_refl _
 | load m a k ih=>
   intro w
   simp only[Sem.run]
   split
   ·exact ih _ w
   ·split
    ·exact ih _ w
    ·exact Nat.le_refl _
 | store m a v k ih=>
   intro w
   cases v
   all_goals
    simp only[Sem.run]
    first
     | exact Nat.le_refl _
     | skip
   all_goals
    split
    ·split
     ·exact Nat.le_refl _
     ·exact ih (w.setCell a _)
    ·split
     ·rename_i h;have:=YE h;rw[← this];exact ih _
     ·exact Nat.le_refl _
 | new o k ih=>intro w;simp only[Sem.run];exact ih _ { w with heap:=w.heap.push o}
 | shape r k ih=>intro w;simp only[Sem.run];exact ih _ _
 | freeze a n k ih=>intro w;simp only[Sem.run];rw[← KE w a n];exact ih _
 | frozen a k ih=>intro w;simp only[Sem.run];exact ih _ _
 | getObj r k ih=>
   intro w
   simp only[Sem.run]
   split
   ·exact Nat.le_refl _
   ·exact ih _ _
   ·exact Nat.le_refl _
 | setObj r o k ih=>
   intro w
   simp only[Sem.run]
   split
   ·exact Nat.le_refl _
   ·exact ih { w with heap:=w.heap.setIfInBounds r o}
   ·exact Nat.le_refl _
 | choose q k ih=>
   intro w
   simp only[Sem.run]
   split
   ·exact ih _ _
   ·exact Nat.le_trans (Nat.le_succ _) (ih _ { w with drawn:=w.drawn+1})
 | sys c k ih=>intro w;simp only[Sem.run];exact Nat.le_trans (KS w c) (ih _ _)
 | program k ih=>intro w;simp only[Sem.run];exact ih _ _
 | mark m k ih=>intro w;simp only[Sem.run];exact ih _
 | halt h=>intro w;exact Nat.le_refl _
theorem jl {α:Type}(p:Program):∀(s:Sem α) (w:World) (es:Array Event),w.drawn≤(resW (s.runT p w es).1).drawn:=by
 intro s
 induction s with
 | pure a=>intro w es;exact Nat.le_refl _
 | load m a k ih=>
   intro w es
   simp only[Sem.runT]
   split
   ·exact ih _ w _
   ·split
    ·exact ih _ w _
    ·exact Nat.le_refl _
 | store m a v k ih=>
   intro w es
   cases v
   all_goals
    simp only[Sem.runT]
    first
     | exact Nat.le_refl _
     | skip
   all_goals
    split
    ·split
     ·exact Nat.le_refl _
     ·exact ih (w.setCell a _) _
    ·split
     ·rename_i h;have:=YE h;rw[← this];exact ih _ _
     ·exact Nat.le_refl _
 | new o k ih=>intro w es;simp only[Sem.runT];exact ih _ { w with heap:=w.heap.push o} _
 | shape r k ih=>intro w es;simp only[Sem.runT];exact ih _ _ _
 | freeze a n k ih=>intro w es;simp only[Sem.runT];rw[← KE w a n];exact ih _ _
 | frozen a k ih=>intro w es;simp only[Sem.runT];exact ih _ _ _
 | getObj r k ih=>
   intro w es
   simp only[Sem.runT]
   split
   ·exact Nat.le_refl _
   ·exact ih _ _ _
   ·exact Nat.le_refl _
 | setObj r o k ih=>
   intro w es
   simp only[Sem.runT]
   split
   ·exact Nat.le_refl _
   ·exact ih { w with heap:=w.heap.setIfInBounds r o} _
   ·exact Nat.le_refl _
 | choose q k ih=>
   intro w es
   simp only[Sem.runT]
   split
   ·exact ih _ _ _
   ·exact Nat.le_trans (Nat.le_succ _) (ih _ { w with drawn:=w.drawn+1} _)
 | sys c k ih=>intro w es;simp only[Sem.runT];exact Nat.le_trans (KS w c) (ih _ _ _)
 | program k ih=>intro w es;simp only[Sem.runT];exact ih _ _ _
 | mark m k ih=>intro w es;simp only[Sem.runT];exact ih _ _
 | halt h=>intro w es;exact Nat.le_refl _
section
variable {α:Type}{p:Program}{s:Sem α}{w w':World}{a:α}{x:Halt}{es es':Array Event}
theorem kI (h:s.run p w= .ok a w'):w.drawn≤w'.drawn:=by have:=KW p s w;rw[h]at this;exact this
theorem run_halt (h:s.run p w= .halt x w'):w.drawn≤w'.drawn:=by have:=KW p s w;rw[h]at this;exact this
theorem runT_ok (h:s.runT p w es=(.ok a w',es')):w.drawn≤w'.drawn:=by have:=jl p s w es;rw[h]at this;exact this
theorem KZ (h:s.runT p w es=(.halt x w',es')):w.drawn≤w'.drawn:=by have:=jl p s w es;rw[h]at this;exact this
end
def QT:GStep→World
 | .go _ w _=>w
 | .comm _ _ _ _ w _=>w
 | .spawn _ _ w _=>w
 | .count _ w _=>w
 | .timer _ _ w _=>w
 | .alone _ _ w _=>w
 | .newcoro _ _ _ w _=>w
 | .coroswitch _ _ _ w _=>w
 | .collect _ w _=>w
 | .watch _ w _=>w
 | .ended _ w _=>w
theorem uQ (es:Array Event)(s:GStep):(QT (GStep.after es s))=(QT s):=by cases s <;> rfl
theorem sys_ok {w w':World}{c:Sys}{r:SysRet}(h:w.sys c=(r,w')):w.drawn≤w'.drawn:=by have:=KS w c;rw[h]at this;exact this
theorem endWith_drawn (w:World)(fd:Nat)(t:ByteArray)(o:Outcome):w.drawn≤(QT (endWith w fd t o)).drawn:=by
 unfold endWith
 dsimp only
 split
 ·split <;> exact sys_ok (by assumption)
 ·exact sys_ok (by assumption)
 ·exact sys_ok (by assumption)
theorem dieOf_toW (fr:Frame)(ah:List ByteArray)(m:String)(wh:Bool)(w:World):(QT (dieOf fr ah m wh w))=w:=rfl
theorem Z6 (p:Program)(fr:Frame)(v:Value)(w:World):(QT (endPrinting p fr v w))=w:=by
 unfold endPrinting
 dsimp only
 split <;> rfl
theorem YF (p:Program)(fr:Frame)(cs:List Frame)(dying:Option Dying)(m:String)(w:World):w.drawn≤(QT (endFatal p fr cs dying m w)).drawn:=by
 unfold endFatal
 dsimp only
 split
 ·rw[dieOf_toW];exact kI (by assumption)
 ·exact run_halt (by assumption)
 ·exact run_halt (by assumption)
theorem writeOn_drawn (p:Program)(fr:Frame)(d:Dying)(f:Fatal)(w:World):w.drawn≤(QT (writeOn p fr d f w)).drawn:=by
 unfold writeOn
 dsimp only
 split
 ·exact Nat.le_refl _
 ·split
  ·exact runT_ok (by assumption)
  ·exact KZ (by assumption)
  ·exact KZ (by assumption)
  ·exact KZ (by assumption)
theorem Qu {c:Prop} [Decidable c] {n:Nat}{a b:GStep}(h1:n≤(QT a).drawn)(h2:n≤(QT b).drawn):n≤(QT (if c then a else b)).drawn:=by split <;> assumption
theorem die_drawn (p:Program)(fr:Frame)(d:Dying)(w:World):w.drawn≤(QT (die p fr d w)).drawn:=by
 unfold die
 split
 ·exact writeOn_drawn _ _ _ _ _
 ·split
  ·split
   ·exact Nat.le_refl _
   ·exact endWith_drawn _ _ _ _
  ·dsimp only
   split
   ·exact Nat.le_refl _
   ·split
    ·exact kI (by assumption)
    ·exact run_halt (by assumption)
   ·rename_i t recv name _
    have hq:=jl p (invoke (Target.fn (Fn.method name) #[]) #[Value.iface t recv]) w #[]
    generalize Sem.runT p (invoke (Target.fn (Fn.method name) #[]) #[Value.iface t recv]) w #[]=q at hq ⊢
    obtain⟨r,es⟩:=q
    dsimp only at hq ⊢
    rw[uQ]
    split
    all_goals first
     | exact hq
     | (rw[Z6];exact hq)
     | (cases r <;> exact hq)
     | skip
    all_goals exact Nat.le_refl _
   ·exact Nat.le_refl _
theorem ZT (p:Program)(main:Bool)(fr:Frame)(cs:List Frame)(dying:Option Dying)(v:Value)(w:World):(QT (doReturn p main fr cs dying v w))=w:=by
 unfold doReturn
 repeat' split
 all_goals rfl
theorem JR (p:Program)(fr:Frame)(cs:List Frame)(dying:Option Dying)(d:Deferred)(w:World):w.drawn≤(QT (callDeferred p fr cs dying d w)).drawn:=by
 unfold callDeferred
 refine Qu (Nat.le_refl _) ?_
 have hq:=jl p (invoke d.target d.args) w #[]
 generalize Sem.runT p (invoke d.target d.args) w #[]=q at hq ⊢
 obtain⟨r,es⟩:=q
 dsimp only at hq ⊢
 rw[uQ]
 cases r with
 | ok v w1=>
   cases v
   all_goals (try dsimp only)
   all_goals first
    | exact hq
    | (rename_i c e;cases e <;> exact hq)
    | (rename_i c e;cases c <;> exact hq)
    | (split <;> exact hq)
 | halt h w1=>
   cases h
   all_goals (try dsimp only)
   all_goals first
    | exact hq
    | exact Nat.le_trans hq (YF _ _ _ _ _ _)
theorem unwind_drawn (p:Program)(main:Bool)(fr:Frame)(cs:List Frame)(dying:Option Dying)(w:World):w.drawn≤(QT (unwind p main fr cs dying w)).drawn:=by
 unfold unwind
 split
 ·rename_i block _ _ _
  have hq:=jl p (Instr.takeDeferred block) w #[]
  generalize Sem.runT p (Instr.takeDeferred block) w #[]=q at hq ⊢
  obtain⟨r,es⟩:=q
  dsimp only at hq ⊢
  rw[uQ]
  cases r <;> exact hq
 ·exact JR _ _ _ _ _ _
 ·split
  ·exact Nat.le_refl _
  ·refine Qu (Nat.le_refl _) ?_
   split
   ·exact Nat.le_refl _
   ·split
    ·refine Qu (Nat.le_refl _) ?_
     split
     ·exact kI (by assumption)
     ·exact run_halt (by assumption)
     ·exact run_halt (by assumption)
    ·split
     ·rw[Z6];exact Nat.le_refl _
     ·exact Nat.le_refl _
  ·split
   ·rw[ZT];exact Nat.le_refl _
   ·rename_i fn _
    have hq:=jl p (results fn fr.tmps) w #[]
    generalize Sem.runT p (results fn fr.tmps) w #[]=q at hq ⊢
    obtain⟨r,es⟩:=q
    dsimp only at hq ⊢
    rw[uQ]
    cases r with
    | ok v w1=>dsimp only;rw[ZT];exact hq
    | halt h w1=>cases h <;> exact hq
theorem early_drawn (p:Program)(fr:Frame)(cs:List Frame)(dying:Option Dying)(g:Nat)(w:World):w.drawn≤(QT (early p fr cs dying g w)).drawn:=by
 have notYet:∀w1:World,w1.drawn≤(QT (match w1.heap[g]? with
  | some (.pending c elem)=>(GStep.go { frame:=fr,callers:=cs,status:=.running,dying} { w1 with heap:=w1.heap.setIfInBounds g (.cells c elem)})
  | _=>.ended (.stuck "early: the variable does not wait" (fr.pos p)) w1)).drawn:=by
  intro w1
  split <;> exact Nat.le_refl _
 unfold early
 dsimp only
 refine Qu (notYet w) ?_
 split
 ·exact Nat.le_refl _
 ·refine Qu (notYet w) ?_
  refine Qu (notYet w) ?_
  split
  ·exact Nat.le_refl _
  ·exact Nat.le_refl _
  ·exact Nat.le_refl _
  ·exact notYet w
  ·refine Qu (Nat.le_refl _) ?_
   refine Qu (notYet w) ?_
   split
   ·exact Nat.le_trans (kI (by assumption)) (notYet _)
   ·exact kI (by assumption)
   ·exact run_halt (by assumption)
theorem QP (p:Program)(fr:Frame)(cs:List Frame)(dying:Option Dying)(s:Sem Next)(w:World)(listen:Bool):w.drawn≤(QT (stepG.apply p listen fr cs dying s w)).drawn:=by
 unfold stepG.apply
 dsimp only
 have hq:w.drawn≤(resW (if listen=true then Sem.runT p s w #[] else(Sem.run p s w,#[])).1).drawn:=by
  split
  ·exact jl p s w #[]
  ·exact KW p s w
 generalize (if listen=true then Sem.runT p s w #[] else(Sem.run p s w,#[]))=q at hq ⊢
 obtain⟨r,es⟩:=q
 dsimp only at hq ⊢
 rw[uQ]
 cases r with
 | ok v w1=>
   cases v
   all_goals (try dsimp only)
   all_goals first
    | exact hq
    | (repeat' split)
   all_goals exact hq
 | halt h w1=>
   cases h
   all_goals (try dsimp only)
   all_goals first
    | exact hq
    | exact Nat.le_trans hq (YF _ _ _ _ _ _)
    | skip
   rename_i u
   cases u
   all_goals first
    | exact hq
    | exact Nat.le_trans hq (early_drawn _ _ _ _ _ _)
theorem oper_drawn (p:Program)(fr:Frame)(cs:List Frame)(dying:Option Dying)(w:World)(listen:Bool):w.drawn≤(QT (stepG.oper p listen fr cs dying w)).drawn:=by
 unfold stepG.oper
 split
 ·exact Nat.le_refl _
 ·split <;> exact QP _ _ _ _ _ _ _
theorem exec_drawn (p:Program)(main:Bool)(fr:Frame)(cs:List Frame)(dying:Option Dying)(w:World)(listen:Bool):w.drawn≤(QT (stepG.exec p main listen fr cs dying w)).drawn:=by
 have leave:∀(jump:Option Code) (c:Prop) [Decidable c],w.drawn≤(QT (match fr.roundOf with
  | none=>if c then GStep.go { frame:={ fr with mode:=.returning},callers:=cs,status:=.running,dying} w else .ended (.stuck "exit, goto: no such block or label" (fr.pos p)) w
  | some l=>
    match(Instr.endRound l jump).runT p w #[] with
    | (r,es)=>
    GStep.after (seen p fr.fn es) (match r with
    | .ok v w=>doReturn p main fr cs dying v w
    | .halt _ w=>.ended (.stuck "range over a function: no such loop" (fr.pos p)) w))).drawn:=by
  intro jump c _
  split
  ·exact Qu (Nat.le_refl _) (Nat.le_refl _)
  ·rename_i l _
   have hq:=jl p (Instr.endRound l jump) w #[]
   generalize Sem.runT p (Instr.endRound l jump) w #[]=q at hq ⊢
   obtain⟨r,es⟩:=q
   dsimp only at hq ⊢
   rw[uQ]
   cases r with
   | ok v w1=>dsimp only;rw[ZT];exact hq
   | halt h w1=>exact hq
 unfold stepG.exec
 dsimp only
 split
 all_goals first
  | exact Nat.le_refl _
  | exact leave _ _
  | exact QP _ _ _ _ _ _ _
  | skip
 ·split <;> exact Nat.le_refl _
 ·rename_i id k _
  cases exitTo id k with
  | none=>exact leave _ _
  | some _=>exact Nat.le_refl _
 ·rename_i l k _
  cases gotoIn l k with
  | none=>exact leave _ _
  | some _=>exact Nat.le_refl _
 ·rename_i f params assign body k _
  have hq:=jl p (Instr.enterLoop fr.fn fr.tmps params assign body fr.roundOf) w #[]
  generalize Sem.runT p (Instr.enterLoop fr.fn fr.tmps params assign body fr.roundOf) w #[]=q at hq ⊢
  obtain⟨r,es⟩:=q
  dsimp only at hq ⊢
  rw[uQ]
  cases r with
  | ok v w1=>exact Nat.le_trans hq (QP _ _ _ _ _ _ _)
  | halt h w1=>exact hq
 ·rename_i l k _
  have hq:=jl p (Instr.endLoop l) w #[]
  generalize Sem.runT p (Instr.endLoop l) w #[]=q at hq ⊢
  obtain⟨r,es⟩:=q
  dsimp only at hq ⊢
  rw[uQ]
  cases r with
  | ok v w1=>exact hq
  | halt h w1=>cases h <;> exact hq
 ·rename_i row args k _
  cases Extern.next row with
  | none=>exact Nat.le_refl _
  | some e=>exact QP _ _ _ _ _ _ _
 ·refine Qu (Nat.le_refl _) ?_
  split
  ·exact kI (by assumption)
  ·exact run_halt (by assumption)
 ·exact Qu (oper_drawn _ _ _ _ _ _) (Nat.le_refl _)
theorem stepG_drawn (p:Program)(main:Bool)(g:Goroutine)(w:World)(listen:Bool):w.drawn≤(QT (stepG p main g w listen)).drawn:=by
 unfold stepG
 dsimp only
 split
 ·exact die_drawn _ _ _ _
 ·exact exec_drawn _ _ _ _ _ _ _
 ·exact unwind_drawn _ _ _ _ _ _
def Ge (n:Nat):Stepped→Prop
 | .next m=>n≤m.world.drawn
 | .ended _ _=>True
theorem ge_ite {c:Prop} [Decidable c] {n:Nat}{a b:Stepped}(h1:Ge n a)(h2:Ge n b):Ge n (if c then a else b):=by split <;> assumption
theorem Zq {n m:Nat}{s:Stepped}(h:n≤m)(h2:Ge m s):Ge n s:=by
 cases s with
 | next m=>exact Nat.le_trans h h2
 | ended o w=>trivial
theorem look_ge (p:Program)(gs:Array Goroutine)(rest:Rest)(w:World):Ge w.drawn (look p gs rest w):=by
 unfold look
 split
 ·dsimp only
  refine ge_ite trivial ?_
  split
  ·trivial
  ·split
   ·rename_i hr
    have h2:=kI hr
    exact h2
   ·trivial
   ·trivial
 ·trivial
theorem look_next {p:Program}{gs:Array Goroutine}{rest:Rest}{w:World}{m:Machine}(h:look p gs rest w= .next m):w.drawn≤m.world.drawn:=by
 have:=look_ge p gs rest w
 rw[h]at this
 exact this
theorem drain_drawn (w:World)(c:Nat):(drain w c).2.drawn=w.drawn:=by
 unfold drain
 split <;> rfl
theorem Kl (m:Machine)(k:Nat)(t:Timer)(a b:Nat):(retime m k t a b).2.world.drawn=m.world.drawn:=by
 unfold retime
 dsimp only
 split
 ·exact drain_drawn _ _
 ·rfl
theorem UN {m m':Machine}{var:Addr}{f:Nat→Timer→Value×Machine}{v:Value}{n:Nat}(hf:∀k t,(f k t).2.world.drawn=n)(h:timerOp.named m var f= .ok (v,m')):m'.world.drawn=n:=by
 unfold timerOp.named at h
 split at h
 ·rename_i k _
  have:=hf k (m.rest.timers.getD k default)
  simp only[Except.ok.injEq]at h
  rw[h]at this
  exact this
 ·cases h
theorem timerOp_ge {m m':Machine}{op:TimerOp}{v:Value}(h:timerOp m op= .ok (v,m')):m.world.drawn≤m'.world.drawn:=by
 cases op with
 | new t=>
   simp only[timerOp]at h
   split at h
   ·cases h;exact Nat.le_refl _
   ·split at h
    ·split at h
     ·cases h
     ·cases h;exact Nat.le_refl _
    ·cases h
 | stop var=>
   simp only[timerOp]at h
   exact Nat.le_of_eq (UN (fun k t=>Kl m k t 0 t.period) h).symm
 | reset var a b=>
   simp only[timerOp]at h
   split at h
   ·rename_i m1 h1
    have h2:m1.world.drawn=m.world.drawn:=by
     unfold timerOp.opened at h1
     split at h1
     ·split at h1
      ·cases h1;rfl
      ·cases h1
     ·cases h1;rfl
    exact Nat.le_of_eq (UN (fun k t=>(Kl m1 k t a b).trans h2) h).symm
   ·cases h
 | deadline ctx read write a=>
   simp only[timerOp]at h
   cases h
   exact Nat.le_refl _
theorem XR (p:Program)(rest:Rest)(gs:Array Goroutine)(i:Nat)(g:Goroutine)(cases_:Array CommCase)(blocking:Bool)(shape:CommShape)(w:World):Ge w.drawn (communicate p rest gs i g cases_ blocking shape w).1:=by
 unfold communicate
 dsimp only
 split
 ·trivial
 ·split
  ·split
   ·split
    ·rename_i w1 h1
     unfold waitingAt at h1
     split at h1
     ·split at h1
      ·cases h1;exact Nat.le_refl _
      ·cases h1
     ·cases h1;exact Nat.le_refl _
    ·trivial
   ·exact Nat.le_refl _
  ·split
   ·trivial
   ·rename_i k c way w1 hr
    have hq:=kI hr
    clear hr
    split
    all_goals first
     | trivial
     | exact hq
     | (split <;> first | trivial | exact hq)
     | skip
    split
    ·exact hq
    ·split
     ·rename_i hr2
      have h3:=kI hr2
      exact Nat.le_trans hq h3
     ·trivial
theorem runT_ge (p:Program)(m:Machine)(i:Nat)(listen:Bool):Ge m.world.drawn (Go.runT p m i listen).1:=by
 unfold Go.runT
 dsimp only
 have hq:=stepG_drawn p (i == 0) (m.gs.swapAt! i { (default:Goroutine) with status:=.finished}).1 m.world listen
 split
 all_goals (rename_i hs;rw[hs]at hq)
 all_goals first
  | trivial
  | exact hq
  | (exact Zq hq (XR _ _ _ _ _ _ _ _ _))
  | (exact Zq hq (look_ge _ _ _ _))
  | (exact ge_ite trivial hq)
  | skip
 ·split
  ·exact hq
  ·exact hq
  ·trivial
 ·split
  ·rename_i h
   exact Nat.le_trans hq (timerOp_ge h)
  ·exact hq
  ·trivial
  ·trivial
theorem serve_ge (p:Program)(m:Machine)(k:Nat):Ge m.world.drawn (serve p m k):=by
 unfold serve
 split
 ·trivial
 ·exact Nat.le_refl _
 ·dsimp only
  split
  ·trivial
  ·exact Nat.le_refl _
def GeM (n:Nat):Move→Prop
 | .goroutine m _=>n≤m.world.drawn
 | .machine s _=>Ge n s
theorem KC {c:Prop} [Decidable c] {n:Nat}{a b:Move}(h1:GeM n a)(h2:GeM n b):GeM n (if c then a else b):=by split <;> assumption
theorem XZ (p:Program)(m:Machine):GeM m.world.drawn (askOn p m):=by
 have pick:∀(m1:Machine) (n:Nat) (rs:List Nat),n≤m1.world.drawn→GeM n (match(choose (.sched rs.length)).run p m1.world with
  | .halt _ w=>.machine (.ended (.stuck "sched" "") w)
  | .ok k world=>
    if rs.length≤1 then .goroutine { m1 with world} (rs.getD k 0) else
    match(choose (.extern "sched.slice" 65536)).run p world with
    | .halt _ w=>.machine (.ended (.stuck "sched.slice" "") w)
    | .ok n world=>.goroutine { m1 with world,rest:={ m1.rest with slice:=if n=0 then none else some (rs.getD k 0,n)}} (rs.getD k 0)):=by
  intro m1 n rs hn
  split
  ·trivial
  ·rename_i h1
   have q1:=kI h1
   refine KC (Nat.le_trans hn q1) ?_
   split
   ·trivial
   ·rename_i h2
    have q2:=kI h2
    exact Nat.le_trans (Nat.le_trans hn q1) q2
 unfold askOn
 dsimp only
 split
 ·trivial
 ·rename_i k0 w0 h0
  have q0:=kI h0
  refine KC (Zq q0 (serve_ge p _ _)) ?_
  split
  ·split
   ·exact q0
   ·refine KC q0 ?_
    split <;> trivial
  ·split
   ·exact pick { m with world:=w0} _ (runnable m.gs m.world.os.mono) q0
   ·split
    ·trivial
    ·rename_i w1 h1
     have q1:=kI h1
     exact pick { m with world:=w1} _ (runnable m.gs m.world.os.mono) (Nat.le_trans q0 q1)
    ·rename_i h1
     have q1:=kI h1
     exact Nat.le_trans q0 q1
    ·rename_i t _ _ k1 w1 h1
     have q1:=kI h1
     exact pick (Machine.advanceTo { m with world:=w1} (t-(k1+1))) _ (runnable m.gs m.world.os.mono) (Nat.le_trans q0 q1)
theorem geM_trans {n m:Nat}{s:Move}(h:n≤m)(h2:GeM m s):GeM n s:=by
 cases s with
 | goroutine m i=>exact Nat.le_trans h h2
 | machine s ops=>exact Zq h h2
theorem ask_ge (p:Program)(m:Machine):GeM m.world.drawn (ask p m):=by
 unfold ask
 split
 ·split
  ·trivial
  ·rename_i h1
   have q1:=kI h1
   split
   ·rename_i m2 h2
    exact geM_trans (Nat.le_trans q1 (look_next h2)) (XZ p m2)
   ·exact Zq q1 (look_ge p m.gs m.rest _)
  ·rename_i h1
   have q1:=kI h1
   exact geM_trans q1 (XZ p _)
 ·exact XZ p m
theorem move_ge (p:Program)(m:Machine):GeM m.world.drawn (move p m):=by
 unfold move
 split
 ·exact KC (Nat.le_refl _) trivial
 ·split
  ·refine KC (Nat.le_refl _) (ask_ge p _)
  ·exact ask_ge p m
theorem step_ge (p:Program)(m:Machine):Ge m.world.drawn (step p m):=by
 unfold step stepT
 have h:=move_ge p m
 split
 ·rename_i m1 i h1
  rw[h1]at h
  exact Zq h (runT_ge p m1 i _)
 ·rename_i s ops h1
  rw[h1]at h
  exact h
theorem runN_drawn (p:Program):∀(n:Nat) (m m':Machine),runN p n m= .next m'→m.world.drawn≤m'.world.drawn:=by
 intro n
 induction n with
 | zero=>intro m m' h;simp only[runN,Stepped.next.injEq]at h;rw[h];exact Nat.le_refl _
 | succ n ih=>
   intro m m' h
   rw[runN]at h
   have hs:=step_ge p m
   split at h
   ·rename_i m1 h1
    rw[h1]at hs
    exact Nat.le_trans hs (ih _ _ h)
   ·rename_i h1
    exact absurd h (h1 _)
theorem UF {p:Program}{m m':Machine}(h:Steps p m m'):m.world.drawn≤m'.world.drawn:=by
 obtain⟨n,h⟩:=h
 exact runN_drawn p n m m' h
theorem calls_drawn {P:Program}{f:FuncId}{args:Array Value}{w:World}{R:Ending→World→Prop}(h:Calls P f args w R)(hR:∀e w',R e w'→e≠.outgrown):
 Calls P f args w fun e w'=>R e w'∧w.drawn≤w'.drawn:=by
 intro cs
 obtain⟨e,w',fr,hr,hc,h1,h2⟩:=h cs
 refine⟨e,w',fr,⟨hr,?_⟩,hc,h1,h2⟩
 have hne:=hR e w' hr
 cases e with
 | returned v=>exact UF (p:=P) hc
 | panicked chain=>exact UF (p:=P) hc
 | outgrown=>exact absurd rfl hne
theorem calls_val {P:Program}{f:FuncId}{args:Array Value}{w:World}{v:Value}{R:World→Prop}(h:Calls P f args w fun e w'=>e= .returned v∧R w'):
 Calls P f args w fun e w'=>e= .returned v∧R w'∧w.drawn≤w'.drawn:=
 (calls_drawn h (fun e w' hr=>by rw[hr.1];intro hh;cases hh)).mono fun _ _ ⟨⟨a,b⟩,c⟩=>⟨a,b,c⟩
theorem Jn {w w':World}(hb:RowKit.Below w.heap.size w w')(hd:w.drawn≤w'.drawn):∃q os',w'=Sort.grow (w.drewN q) os':=by
 refine⟨w'.drawn-w.drawn,w'.heap.extract w.heap.size w'.heap.size,?_⟩
 have h1:w'.heap=w.heap ++ w'.heap.extract w.heap.size w'.heap.size:=by
  apply Array.ext_getElem?
  intro i
  by_cases hi:i<w.heap.size
  ·rw[Array.getElem?_append_left hi,hb.block i hi]
  ·rw[Array.getElem?_append_right (by omega),Array.getElem?_extract]
   have hs:=hb.size
   split
   ·congr 1;omega
   ·exact Array.getElem?_eq_none (by omega)
 obtain⟨heap,tape,drawn,os,output⟩:=w'
 have e1:=hb.os;have e2:=hb.tape;have e3:=hb.output
 simp only at h1 hd e1 e2 e3
 simp only[Sort.grow,World.drewN]
 rw[← h1,e1,e2,e3]
 congr 1
 omega
end Go.Proofs.YtpcmilhjpmlbpaaGreatDoor
namespace Go.Proofs.YtpcmilhjpmlbpaaGreatDoor
open Go Go.RowKit Go.Sort
section
variable {P:Program}{ops:Array Oper}{md:Region.Mode}{C:World→Prop}
def wpAnyH (P:Program)(md:Region.Mode)(ops:Array Oper)(C:World→Prop)(n:Nat)(L:Array Bool→Act→Prop):Nat→Array Bool→Act→Prop
 | 0,listed,a=>L listed a
 | f+1,listed,a=>
   Region.ready md ops listed≠[]∧∀i∈Region.ready md ops listed,i<n∧qOp P ops C i (wpAnyH P md ops C n L f (listed.setIfInBounds i true)) a
theorem Yh {n g:Nat}{L:Array Bool→Act→Prop}{Q':Exit→Act→World→Prop}(hL:∀listed a w,C w→L listed a→wpAny P md ops Q' g listed a w):
 ∀(f:Nat) (listed:Array Bool) (a:Act) (w:World),C w→wpAnyH P md ops C n L f listed a→wpAny P md ops Q' (f+g) listed a w
 | 0,listed,a,w,hw,h=>by rw[Nat.zero_add];exact hL _ _ _ hw h
 | f+1,listed,a,w,hw,h=>by
   rw[show f+1+g=(f+g)+1 by omega]
   exact⟨fun h0=>absurd h0 h.1,fun i hi=>wpOp_of_qOp hw (fun a' w' hw' h'=>Yh hL f _ a' w' hw' h') (h.2 i hi).2⟩
theorem wpAnyH_first {n i:Nat}{oi:Oper}{v:Value}{L:Array Bool→Act→Prop}(hi:ops[i]? =some oi)(hsel:∀(j:Nat) (o:Oper) cs b,ops[j]? =some o→o.op≠.select cs b)
 (hs:Region.sinkB md ops n=true) (hc:Region.chainB md ops n=true) (hn:n<ops.size) (hin:i<n)
 (hdone:∀listed a,L listed a→∀j∈Region.ready md ops listed,n≤j):
 ∀(f:Nat) (listed:Array Bool) (a:Act),HeadInv md ops n listed→
  (∀j oj,ops[j]? =some oj→j≠i→listed.getD j true=false→(∀e∈oj.after,Region.binds md e=true→e.on≠i)→oi.apart ops oj=true)→
  i∈Region.ready md ops listed→YieldsIn P ops C oi v a→
  wpAnyH P md ops C n L f (listed.setIfInBounds i true) (a.put oi.dst v)→wpAnyH P md ops C n L (f+1) listed a:=by
 intro f
 induction f with
 | zero=>
   intro listed a inv _ hr hy H
   have hun:=(mem_ready.1 hr).1
   refine⟨fun h=>(by rw[h]at hr;cases hr),fun j hj=>?_⟩
   have hjn:j<n:=by
    rcases Nat.lt_or_ge j n with h | h
    ·exact h
    ·exact absurd hj (tail_waits hs hc hn inv _ i rfl hin hun j h)
   refine⟨hjn,?_⟩
   by_cases hji:j=i
   ·subst hji;exact hy.qOp hi H
   ·have:=hdone _ _ H j (ready_mono hj hji)
    omega
 | succ f ih=>
   intro listed a inv hfree hr hy H
   have hun:=(mem_ready.1 hr).1
   refine⟨fun h=>(by rw[h]at hr;cases hr),fun j hj=>?_⟩
   have hjn:j<n:=by
    rcases Nat.lt_or_ge j n with h | h
    ·exact h
    ·exact absurd hj (tail_waits hs hc hn inv _ i rfl hin hun j h)
   refine⟨hjn,?_⟩
   by_cases hji:j=i
   ·subst hji;exact hy.qOp hi H
   ·have h1:=(H.2 j (ready_mono hj hji)).2
    obtain⟨hjun,oj,hoj,hall⟩:=mem_ready.1 hj
    have hnot:∀e∈oj.after,Region.binds md e=true→e.on≠i:=fun e he hb heq=>by
     have h1:=hall e he hb
     rw[heq,getD_both hun]at h1
     cases h1
    have h2:=qOp_put hoj (hfree j oj hoj hji hjun hnot) (fun cs b=>hsel i oi cs b hi) (fun cs b=>hsel j oj cs b hoj) hy h1
    have hfree':∀k ok,ops[k]? =some ok→k≠i→(listed.setIfInBounds j true).getD k true=false→
     (∀e∈ok.after,Region.binds md e=true→e.on≠i)→oi.apart ops ok=true:=fun k ok hk hki hun hno=>by
     refine hfree k ok hk hki ?_ hno
     by_cases hjk:j=k
     ·subst hjk;exact hjun
     ·rw[getD_set_ne true hjk]at hun;exact hun
    refine qOp_mono (fun a' h3=>ih (listed.setIfInBounds j true) a' (inv.set hj hjn) hfree' (ready_mono hr (Ne.symm hji)) h3.1 ?_) h2
    rw[Array.setIfInBounds_comm _ _ hji]
    exact h3.2
theorem VH {n g:Nat}{Lq:Act→Prop}(hsel:Region.noSelect ops=true)(hs:Region.sinkB md ops n=true)(hc:Region.chainB md ops n=true)(hn:n<ops.size):
 ∀(l:List Oper) (k:Nat) (listed:Array Bool) (a:Act),(∀j,j<l.length→l[j]? =ops[k+j]?)→k+l.length=n→HeadInv md ops n listed→
 Region.lexHead md ops g l.length k listed=true→wpQuiet P ops C Lq l a→
 wpAnyH P md ops C n (fun listed' a'=>Region.seqB md ops g n listed'=true∧Lq a') l.length listed a
 | [],k,listed,a,_,hk,_,hB,h=>by
   have:k=n:=by simpa using hk
   subst this
   exact⟨by simpa[Region.lexHead] using hB,h⟩
 | o :: l,k,listed,a,hl,hk,inv,hB,h=>by
   have h0:ops[k]? =some o:=by simpa using (hl 0 (by simp)).symm
   simp only[List.length_cons,Region.lexHead,Bool.and_eq_true]at hB
   obtain⟨⟨hr,hf⟩,hB'⟩:=hB
   have hkn:k<n:=by simp only[List.length_cons]at hk;omega
   have hr':k∈Region.ready md ops listed:=by simpa using hr
   have hst:qOp P ops C k (wpQuiet P ops C Lq l) a:=by unfold qOp;simp only[h0];exact h
   obtain⟨v,hy,hK⟩:=yieldsIn_of_qOp h0 hst
   exact wpAnyH_first h0 (Region.noSelect_spec hsel) hs hc hn hkn (fun listed' a' hL=>seqB_ready hL.1) l.length listed a inv (Region.free_spec h0 hf) hr' hy
    (VH hsel hs hc hn l (k+1) _ _ (fun j hj=>by have:=hl (j+1) (by simp;omega);simpa[Nat.add_assoc,Nat.add_comm 1 j] using this) (by simp only[List.length_cons]at hk;omega) (inv.set hr' hkn) hB' hK)
theorem xh {id:Nat}{Q:Exit→Act→World→Prop}{a:Act}{w:World}{l:List Oper}(n:Nat)(hm:P.follows .mixedOrders=true)(hB:Region.lexTailB .any l.toArray n=true)(hC:C { w with drawn:=w.drawn+1})
 (h:wpQuiet P l.toArray C (fun a'=>∀w',C w'→wpList P l.toArray Q (l.drop n) a' w') (l.take n) a):(Code.region id l.toArray true).wp P Q a w:=by
 simp only[Region.lexTailB,Bool.and_eq_true,decide_eq_true_eq]at hB
 obtain⟨⟨⟨⟨hsel,hn⟩,hs⟩,hc⟩,hlex⟩:=hB
 have hn':n<l.length:=by simpa using hn
 have htl:(l.take n).length=n:=by simp;omega
 have hdl:(l.drop n).length=l.toArray.size-n:=by simp
 have inv0:HeadInv .any l.toArray n (Array.replicate l.toArray.size false):=
  ⟨by simp,fun j oj _ hl=>(by rw[getD_replicate_false]at hl;cases hl),fun t _ ht=>getD_in (by simpa using ht) (getD_replicate_false _ _)⟩
 have H:=VH (md:=.any) (g:=l.toArray.size-n) hsel hs hc hn (l.take n) 0 _ a (fun j hj=>by
  have hj':j<n:=by rw[htl]at hj;exact hj
  simp[hj']) (by simpa using htl) inv0 (by rw[htl];exact hlex) h
 refine wp_region_any hm ?_
 have:=Yh (Q':=Q) (g:=l.toArray.size-n) (fun listed a' w' hw' hL=>by
  have:=wpAny_of_seq (md:=.any) (Q':=Q) (l.drop n) n listed a' w' (fun j=>by simp[List.getElem?_drop]) (by rw[hdl];exact hL.1) (hL.2 w' hw')
  rwa [hdl]at this) _ _ _ _ hC H
 rw[htl,show n+(l.toArray.size-n)=l.toArray.size by omega]at this
 exact this
end
structure Gp where
 q:Nat
 os:Array Obj
instance:Inhabited Gp:=⟨⟨0,#[]⟩⟩
def gw (w:World)(p:Gp):World:=grow (w.drewN p.q) p.os
theorem gw_draw (w:World):∃p,({ w with drawn:=w.drawn+1}:World)=gw w p:=⟨⟨1,#[]⟩,by unfold gw;rw[grow_empty];rfl⟩
theorem gw_gw (w:World)(p q:Gp):gw (gw w p) q=gw w ⟨p.q+q.q,p.os ++ q.os⟩:=by
 show grow ((grow (w.drewN p.q) p.os).drewN q.q) q.os=grow (w.drewN (p.q+q.q)) (p.os ++ q.os)
 rw[show(grow (w.drewN p.q) p.os).drewN q.q=grow ((w.drewN p.q).drewN q.q) p.os from rfl,grow_grow,World.drewN_drewN]
theorem qC (w:World)(p:Gp):Below w.heap.size w (gw w p):=by
 refine⟨rfl,rfl,rfl,by simp[gw,grow],fun k hk=>?_⟩
 show(w.heap ++ p.os)[k]? =_
 exact Array.getElem?_append_left hk
theorem qh {w:World}{a:Addr}{v:Value}(h:w.cell? a=some v):∀p,(gw w p).cell? a=some v:=fun p=>
 ((qC w p).cell (p:=a) (by
   rcases Nat.lt_or_ge a.block w.heap.size with hh | hh
   ·exact hh
   ·simp[World.cell?,Array.getElem?_eq_none hh]at h)).trans h
theorem gw_of_below {w w':World}(hb:Below w.heap.size w w')(hd:w.drawn≤w'.drawn):∃p,w'=gw w p:=by
 obtain⟨q,os,h⟩:=Jn hb hd
 exact⟨⟨q,os⟩,h⟩
section
variable {P:Program}{f:FuncId}{args:Array Value}{w:World}{v:Value}{p:Gp}
theorem qU (h:Calls P f args (gw w p) fun e w'=>e= .returned v∧Below (gw w p).heap.size (gw w p) w'):
 Calls P f args (gw w p) fun e w''=>e= .returned v∧∃p,w''=gw w p:=by
 refine(calls_val h).mono ?_
 rintro e w' ⟨he,hb,hd⟩
 obtain⟨q,hw⟩:=gw_of_below hb hd
 exact⟨he,_,hw.trans (gw_gw w p q)⟩
theorem Jq (h:Calls P f args (gw w p) fun e w'=>e= .returned v∧w'=gw w p):
 Calls P f args (gw w p) fun e w''=>e= .returned v∧∃p,w''=gw w p:=
 h.mono fun _ _ ⟨he,hw⟩=>⟨he,p,hw⟩
end
end Go.Proofs.YtpcmilhjpmlbpaaGreatDoor
