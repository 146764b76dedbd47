import Derived.Test.YtpcmilhjpmlbpaaGreatDoorQDataS
import Derived.Calls
import Derived.Below
import Derived.Deep.Draws
import Derived.Sort.Grow
import Derived.Deep.Quiet
import Derived.Deep.QuietTactic
import Derived.BigQuiet
import Derived.StillTail
import Derived.WalkLawsBesides
import Derived.Lib.Small
import Derived.Sort.Statements
set_option maxRecDepth 100000
set_option maxHeartbeats 2000000
namespace Go.Proofs.YtpcmilhjpmlbpaaGreatDoor
open Go
theorem ask_drawn {α:Type}:∀(a:Ask α) (w:World),w.drawn<=(w.ask a).2.drawn:=by
 intro a
 induction a with
 | done a=>intro w;exact gI _
 | ask what range k ih=>
   intro w;simp only[World.ask]
   split
   ·exact ih _ w
   ·exact gQ (Nat.le_succ _) (ih _ { w with drawn:=w.drawn+1})
theorem Vq (w:World)(c:Sys):w.drawn<=(w.sys c).2.drawn:=by
 have h:=ask_drawn (Kernel.perform c w.os) w;unfold World.sys
 generalize w.ask (Kernel.perform c w.os)=r at h
 obtain⟨⟨r1,r2⟩,w1⟩:=r
 cases r1 <;> first | exact gI _ | exact h
theorem U0 (w:World)(a:Addr)(n:Nat):(w.freeze a n).drawn=w.drawn:=by
 unfold World.freeze
 split <;> rfl
theorem Xv {p:Program}{w:World}{at_:Addr}{u:TypeId}{k:Addr}{v:Value}{atomic:Bool}{r:World×List Addr}(h:w.viewStore p at_ u k v atomic= .ok r):r.1.drawn=w.drawn:=by
 unfold World.viewStore at h;simp only[bind,Except.bind,pure,Except.pure]at h
 repeat' split at h
 all_goals first | (cases h;rfl) | cases h
theorem JF {p:Program}{w:World}{a:Addr}{v:Value}{b:Bool}{r:World×List Addr}(h:w.farStore p a v b= .ok r):r.1.drawn=w.drawn:=by
 unfold World.farStore at h
 split at h
 ·split at h
  ·cases h;exact Xv (by assumption)
  ·cases h
 ·cases h
def resW {α:Type}:Result α->World
 | .ok _ w=>w
 | .halt _ w=>w
theorem Vu {α:Type}(p:Program):∀(s:Sem α) (w:World),w.drawn<=(resW (s.run p w)).drawn:=by
 intro s
 induction s with
 | pure a=>intro w;exact gI _
 | load m a k ih=>
   intro w;simp only[Sem.run]
   split
   ·exact ih _ w
   ·split
    ·exact ih _ w
    ·exact gI _
 | store m a v k ih=>
   intro w
   cases v
   all_goals
    simp only[Sem.run]
    first
     | exact gI _
     | skip
   all_goals
    split
    ·split
     ·exact gI _
     ·exact ih (w.setCell a _)
    ·split
     ·rename_i h;have:=JF h;rw[<- this];exact ih _
     ·exact gI _
 | new o k ih=>intro w;simp only[Sem.run];exact ih _ { w with heap:=w.heap.push o}
 | shape r k ih=>intro w;simp only[Sem.run];exact ih _ _
 | freeze a n k ih=>intro w;simp only[Sem.run];rw[<- U0 w a n];exact ih _
 | frozen a k ih=>intro w;simp only[Sem.run];exact ih _ _
 | getObj r k ih=>
   intro w;simp only[Sem.run]
   split
   ·exact gI _
   ·exact ih _ _
   ·exact gI _
 | setObj r o k ih=>
   intro w;simp only[Sem.run]
   split
   ·exact gI _
   ·exact ih { w with heap:=w.heap.setIfInBounds r o}
   ·exact gI _
 | choose q k ih=>
   intro w;simp only[Sem.run]
   split
   ·exact ih _ _
   ·exact gQ (Nat.le_succ _) (ih _ { w with drawn:=w.drawn+1})
 | sys c k ih=>intro w;simp only[Sem.run];exact gQ (Vq w c) (ih _ _)
 | program k ih=>intro w;simp only[Sem.run];exact ih _ _
 | mark m k ih=>intro w;simp only[Sem.run];exact ih _
 | halt h=>intro w;exact gI _
theorem jQ {α:Type}(p:Program):∀(s:Sem α) (w:World) (es:Array Event),w.drawn<=(resW (s.runT p w es).1).drawn:=by
 intro s
 induction s with
 | pure a=>intro w es;exact gI _
 | load m a k ih=>
   intro w es;simp only[Sem.runT]
   split
   ·exact ih _ w _
   ·split
    ·exact ih _ w _
    ·exact gI _
 | store m a v k ih=>
   intro w es
   cases v
   all_goals
    simp only[Sem.runT]
    first
     | exact gI _
     | skip
   all_goals
    split
    ·split
     ·exact gI _
     ·exact ih (w.setCell a _) _
    ·split
     ·rename_i h;have:=JF h;rw[<- this];exact ih _ _
     ·exact gI _
 | new o k ih=>intro w es;simp only[Sem.runT];exact ih _ { w with heap:=w.heap.push o} _
 | shape r k ih=>intro w es;simp only[Sem.runT];exact ih _ _ _
 | freeze a n k ih=>intro w es;simp only[Sem.runT];rw[<- U0 w a n];exact ih _ _
 | frozen a k ih=>intro w es;simp only[Sem.runT];exact ih _ _ _
 | getObj r k ih=>
   intro w es;simp only[Sem.runT]
   split
   ·exact gI _
   ·exact ih _ _ _
   ·exact gI _
 | setObj r o k ih=>
   intro w es;simp only[Sem.runT]
   split
   ·exact gI _
   ·exact ih { w with heap:=w.heap.setIfInBounds r o} _
   ·exact gI _
 | choose q k ih=>
   intro w es;simp only[Sem.runT]
   split
   ·exact ih _ _ _
   ·exact gQ (Nat.le_succ _) (ih _ { w with drawn:=w.drawn+1} _)
 | sys c k ih=>intro w es;simp only[Sem.runT];exact gQ (Vq w c) (ih _ _ _)
 | program k ih=>intro w es;simp only[Sem.runT];exact ih _ _ _
 | mark m k ih=>intro w es;simp only[Sem.runT];exact ih _ _
 | halt h=>intro w es;exact gI _
section
variable {α:Type}{p:Program}{s:Sem α}{w w':World}{a:α}{x:Halt}{es es':Array Event}
theorem uy (h:s.run p w= .ok a w'):w.drawn<=w'.drawn:=by have:=Vu p s w;rw[h]at this;exact this
theorem run_halt (h:s.run p w= .halt x w'):w.drawn<=w'.drawn:=by have:=Vu p s w;rw[h]at this;exact this
theorem runT_ok (h:s.runT p w es=(.ok a w',es')):w.drawn<=w'.drawn:=by have:=jQ p s w es;rw[h]at this;exact this
theorem Vv (h:s.runT p w es=(.halt x w',es')):w.drawn<=w'.drawn:=by have:=jQ p s w es;rw[h]at this;exact this
end
def ZM:GStep->World
 | .go _ w _=>w
 | .comm _ _ _ _ w _=>w
 | .spawn _ _ w _=>w
 | .count _ w _=>w
 | .timer _ _ w _=>w
 | .alone _ _ w _=>w
 | .newcoro _ _ _ w _=>w
 | .coroswitch _ _ _ w _=>w
 | .collect _ w _=>w
 | .watch _ w _=>w
 | .ended _ w _=>w
theorem vY (es:Array Event)(s:GStep):(ZM (GStep.after es s))=(ZM s):=by cases s <;> rfl
theorem sys_ok {w w':World}{c:Sys}{r:SysRet}(h:w.sys c=(r,w')):w.drawn<=w'.drawn:=by have:=Vq w c;rw[h]at this;exact this
theorem endWith_drawn (w:World)(fd:Nat)(t:ByteArray)(o:Outcome):w.drawn<=(ZM (endWith w fd t o)).drawn:=by
 unfold endWith
 dsimp only
 split
 ·split <;> exact sys_ok (by assumption)
 ·exact sys_ok (by assumption)
 ·exact sys_ok (by assumption)
theorem dieOf_toW (fr:Frame)(ah:List ByteArray)(m:String)(wh:Bool)(w:World):(ZM (dieOf fr ah m wh w))=w:=rfl
theorem Y3 (p:Program)(fr:Frame)(v:Value)(w:World):(ZM (endPrinting p fr v w))=w:=by
 unfold endPrinting
 dsimp only
 split <;> rfl
theorem JG (p:Program)(fr:Frame)(cs:List Frame)(dying:Option Dying)(m:String)(w:World):w.drawn<=(ZM (endFatal p fr cs dying m w)).drawn:=by
 unfold endFatal
 dsimp only
 split
 ·rw[dieOf_toW];exact uy (by assumption)
 ·exact run_halt (by assumption)
 ·exact run_halt (by assumption)
theorem writeOn_drawn (p:Program)(fr:Frame)(d:Dying)(f:Fatal)(w:World):w.drawn<=(ZM (writeOn p fr d f w)).drawn:=by
 unfold writeOn
 dsimp only
 split
 ·exact gI _
 ·split
  ·exact runT_ok (by assumption)
  ·exact Vv (by assumption)
  ·exact Vv (by assumption)
  ·exact Vv (by assumption)
theorem Zf {c:Prop} [Decidable c] {n:Nat}{a b:GStep}(h1:n<=(ZM a).drawn)(h2:n<=(ZM b).drawn):n<=(ZM (if c then a else b)).drawn:=by split <;> assumption
theorem die_drawn (p:Program)(fr:Frame)(d:Dying)(w:World):w.drawn<=(ZM (die p fr d w)).drawn:=by
 unfold die
 split
 ·exact writeOn_drawn _ _ _ _ _
 ·split
  ·split
   ·exact gI _
   ·exact endWith_drawn _ _ _ _
  ·dsimp only
   split
   ·exact gI _
   ·split
    ·exact uy (by assumption)
    ·exact run_halt (by assumption)
   ·rename_i t recv name _
    have hq:=jQ p (invoke (Target.fn (Fn.method name) #[]) #[Value.iface t recv]) w #[]
    generalize Sem.runT p (invoke (Target.fn (Fn.method name) #[]) #[Value.iface t recv]) w #[]=q at hq ⊢
    obtain⟨r,es⟩:=q
    dsimp only at hq ⊢
    rw[vY]
    split
    all_goals first
     | exact hq
     | (rw[Y3];exact hq)
     | (cases r <;> exact hq)
     | skip
    all_goals exact gI _
   ·exact gI _
theorem YW (p:Program)(main:Bool)(fr:Frame)(cs:List Frame)(dying:Option Dying)(v:Value)(w:World):(ZM (doReturn p main fr cs dying v w))=w:=by
 unfold doReturn
 repeat' split
 all_goals rfl
theorem Uf (p:Program)(fr:Frame)(cs:List Frame)(dying:Option Dying)(d:Deferred)(w:World):w.drawn<=(ZM (callDeferred p fr cs dying d w)).drawn:=by
 unfold callDeferred;refine Zf (gI _) ?_;have hq:=jQ p (invoke d.target d.args) w #[]
 generalize Sem.runT p (invoke d.target d.args) w #[]=q at hq ⊢
 obtain⟨r,es⟩:=q
 dsimp only at hq ⊢
 rw[vY]
 cases r with
 | ok v w1=>
   cases v
   all_goals (try dsimp only)
   all_goals first
    | exact hq
    | (rename_i c e;cases e <;> exact hq)
    | (rename_i c e;cases c <;> exact hq)
    | (split <;> exact hq)
 | halt h w1=>
   cases h
   all_goals (try dsimp only)
   all_goals first
    | exact hq
    | exact gQ hq (JG _ _ _ _ _ _)
theorem unwind_drawn (p:Program)(main:Bool)(fr:Frame)(cs:List Frame)(dying:Option Dying)(w:World):w.drawn<=(ZM (unwind p main fr cs dying w)).drawn:=by
 unfold unwind
 split
 ·rename_i block _ _ _
  have hq:=jQ p (Instr.takeDeferred block) w #[]
  generalize Sem.runT p (Instr.takeDeferred block) w #[]=q at hq ⊢
  obtain⟨r,es⟩:=q
  dsimp only at hq ⊢
  rw[vY]
  cases r <;> exact hq
 ·exact Uf _ _ _ _ _ _
 ·split
  ·exact gI _
  ·refine Zf (gI _) ?_
   split
   ·exact gI _
   ·split
    ·refine Zf (gI _) ?_
     split
     ·exact uy (by assumption)
     ·exact run_halt (by assumption)
     ·exact run_halt (by assumption)
    ·split
     ·rw[Y3];exact gI _
     ·exact gI _
  ·split
   ·rw[YW];exact gI _
   ·rename_i fn _
    have hq:=jQ p (results fn fr.tmps) w #[]
    generalize Sem.runT p (results fn fr.tmps) w #[]=q at hq ⊢
    obtain⟨r,es⟩:=q
    dsimp only at hq ⊢
    rw[vY]
    cases r with
    | ok v w1=>dsimp only;rw[YW];exact hq
    | halt h w1=>cases h <;> exact hq
theorem early_drawn (p:Program)(fr:Frame)(cs:List Frame)(dying:Option Dying)(g:Nat)(w:World):w.drawn<=(ZM (early p fr cs dying g w)).drawn:=by
 have notYet:∀w1:World,w1.drawn<=(ZM (match w1.heap[g]? with
  | some (.pending c elem)=>(GStep.go { frame:=fr,callers:=cs,status:=.running,dying} { w1 with heap:=w1.heap.setIfInBounds g (.cells c elem)})
  | _=>.ended (.stuck "early: the variable does not wait" (fr.pos p)) w1)).drawn:=by
  intro w1
  split <;> exact gI _
 unfold early
 dsimp only
 refine Zf (notYet w) ?_
 split
 ·exact gI _
 ·refine Zf (notYet w) ?_;refine Zf (notYet w) ?_
  split
  ·exact gI _
  ·exact gI _
  ·exact gI _
  ·exact notYet w
  ·refine Zf (gI _) ?_;refine Zf (notYet w) ?_
   split
   ·exact gQ (uy (by assumption)) (notYet _)
   ·exact uy (by assumption)
   ·exact run_halt (by assumption)
theorem ZH (p:Program)(fr:Frame)(cs:List Frame)(dying:Option Dying)(s:Sem Next)(w:World)(listen:Bool):w.drawn<=(ZM (stepG.apply p listen fr cs dying s w)).drawn:=by
 unfold stepG.apply
 dsimp only
 have hq:w.drawn<=(resW (if listen=true then Sem.runT p s w #[] else(Sem.run p s w,#[])).1).drawn:=by
  split
  ·exact jQ p s w #[]
  ·exact Vu p s w
 generalize (if listen=true then Sem.runT p s w #[] else(Sem.run p s w,#[]))=q at hq ⊢
 obtain⟨r,es⟩:=q
 dsimp only at hq ⊢
 rw[vY]
 cases r with
 | ok v w1=>
   cases v
   all_goals (try dsimp only)
   all_goals first
    | exact hq
    | (repeat' split)
   all_goals exact hq
 | halt h w1=>
   cases h
   all_goals (try dsimp only)
   all_goals first
    | exact hq
    | exact gQ hq (JG _ _ _ _ _ _)
    | skip
   rename_i u
   cases u
   all_goals first
    | exact hq
    | exact gQ hq (early_drawn _ _ _ _ _ _)
theorem oper_drawn (p:Program)(fr:Frame)(cs:List Frame)(dying:Option Dying)(w:World)(listen:Bool):w.drawn<=(ZM (stepG.oper p listen fr cs dying w)).drawn:=by
 unfold stepG.oper
 split
 ·exact gI _
 ·split <;> exact ZH _ _ _ _ _ _ _
theorem exec_drawn (p:Program)(main:Bool)(fr:Frame)(cs:List Frame)(dying:Option Dying)(w:World)(listen:Bool):w.drawn<=(ZM (stepG.exec p main listen fr cs dying w)).drawn:=by
 have leave:∀(jump:Option Code) (c:Prop) [Decidable c],w.drawn<=(ZM (match fr.roundOf with
  | none=>if c then GStep.go { frame:={ fr with mode:=.returning},callers:=cs,status:=.running,dying} w else .ended (.stuck "exit, goto: no such block or label" (fr.pos p)) w
  | some l=>
    match(Instr.endRound l jump).runT p w #[] with
    | (r,es)=>
    GStep.after (seen p fr.fn es) (match r with
    | .ok v w=>doReturn p main fr cs dying v w
    | .halt _ w=>.ended (.stuck "range over a function: no such loop" (fr.pos p)) w))).drawn:=by
  intro jump c _
  split
  ·exact Zf (gI _) (gI _)
  ·rename_i l _
   have hq:=jQ p (Instr.endRound l jump) w #[]
   generalize Sem.runT p (Instr.endRound l jump) w #[]=q at hq ⊢
   obtain⟨r,es⟩:=q
   dsimp only at hq ⊢
   rw[vY]
   cases r with
   | ok v w1=>dsimp only;rw[YW];exact hq
   | halt h w1=>exact hq
 unfold stepG.exec
 dsimp only
 split
 all_goals first
  | exact gI _
  | exact leave _ _
  | exact ZH _ _ _ _ _ _ _
  | skip
 ·split <;> exact gI _
 ·rename_i id k _
  cases exitTo id k with
  | none=>exact leave _ _
  | some _=>exact gI _
 ·rename_i l k _
  cases gotoIn l k with
  | none=>exact leave _ _
  | some _=>exact gI _
 ·rename_i f params assign body k _
  have hq:=jQ p (Instr.enterLoop fr.fn fr.tmps params assign body fr.roundOf) w #[]
  generalize Sem.runT p (Instr.enterLoop fr.fn fr.tmps params assign body fr.roundOf) w #[]=q at hq ⊢
  obtain⟨r,es⟩:=q
  dsimp only at hq ⊢
  rw[vY]
  cases r with
  | ok v w1=>exact gQ hq (ZH _ _ _ _ _ _ _)
  | halt h w1=>exact hq
 ·rename_i l k _
  have hq:=jQ p (Instr.endLoop l) w #[]
  generalize Sem.runT p (Instr.endLoop l) w #[]=q at hq ⊢
  obtain⟨r,es⟩:=q
  dsimp only at hq ⊢
  rw[vY]
  cases r with
  | ok v w1=>exact hq
  | halt h w1=>cases h <;> exact hq
 ·rename_i row args k _
  cases Extern.next row with
  | none=>exact gI _
  | some e=>exact ZH _ _ _ _ _ _ _
 ·refine Zf (gI _) ?_
  split
  ·exact uy (by assumption)
  ·exact run_halt (by assumption)
 ·exact Zf (oper_drawn _ _ _ _ _ _) (gI _)
theorem stepG_drawn (p:Program)(main:Bool)(g:Goroutine)(w:World)(listen:Bool):w.drawn<=(ZM (stepG p main g w listen)).drawn:=by
 unfold stepG
 dsimp only
 split
 ·exact die_drawn _ _ _ _
 ·exact exec_drawn _ _ _ _ _ _ _
 ·exact unwind_drawn _ _ _ _ _ _
def Ge (n:Nat):Stepped->Prop
 | .next m=>n<=m.world.drawn
 | .ended _ _=>True
theorem ge_ite {c:Prop} [Decidable c] {n:Nat}{a b:Stepped}(h1:Ge n a)(h2:Ge n b):Ge n (if c then a else b):=by split <;> assumption
theorem Yw {n m:Nat}{s:Stepped}(h:n<=m)(h2:Ge m s):Ge n s:=by
 cases s with
 | next m=>exact gQ h h2
 | ended o w=>trivial
theorem look_ge (p:Program)(gs:Array Goroutine)(rest:Rest)(w:World):Ge w.drawn (look p gs rest w):=by
 unfold look
 split
 ·dsimp only
  refine ge_ite trivial ?_
  split
  ·trivial
  ·split
   ·rename_i hr
    have h2:=uy hr;exact h2
   ·trivial
   ·trivial
 ·trivial
theorem look_next {p:Program}{gs:Array Goroutine}{rest:Rest}{w:World}{m:Machine}(h:look p gs rest w= .next m):w.drawn<=m.world.drawn:=by
 have:=look_ge p gs rest w;rw[h]at this;exact this
theorem drain_drawn (w:World)(c:Nat):(drain w c).2.drawn=w.drawn:=by
 unfold drain
 split <;> rfl
theorem UD (m:Machine)(k:Nat)(t:Timer)(a b:Nat):(retime m k t a b).2.world.drawn=m.world.drawn:=by
 unfold retime
 dsimp only
 split
 ·exact drain_drawn _ _
 ·rfl
theorem Xe {m m':Machine}{var:Addr}{f:Nat->Timer->Value×Machine}{v:Value}{n:Nat}(hf:∀k t,(f k t).2.world.drawn=n)(h:timerOp.named m var f= .ok (v,m')):m'.world.drawn=n:=by
 unfold timerOp.named at h
 split at h
 ·rename_i k _
  have:=hf k (m.rest.timers.getD k default);simp only[Except.ok.injEq]at h;rw[h]at this;exact this
 ·cases h
theorem timerOp_ge {m m':Machine}{op:TimerOp}{v:Value}(h:timerOp m op= .ok (v,m')):m.world.drawn<=m'.world.drawn:=by
 cases op with
 | new t=>
   simp only[timerOp]at h
   split at h
   ·cases h;exact gI _
   ·split at h
    ·split at h
     ·cases h
     ·cases h;exact gI _
    ·cases h
 | stop var=>
   simp only[timerOp]at h;exact Nat.le_of_eq (Xe (λk t=>UD m k t 0 t.period) h).symm
 | reset var a b=>
   simp only[timerOp]at h
   split at h
   ·rename_i m1 h1
    have h2:m1.world.drawn=m.world.drawn:=by
     unfold timerOp.opened at h1
     split at h1
     ·split at h1
      ·cases h1;rfl
      ·cases h1
     ·cases h1;rfl
    exact Nat.le_of_eq (Xe (λk t=>(UD m1 k t a b).trans h2) h).symm
   ·cases h
 | deadline ctx read write a=>
   simp only[timerOp]at h
   cases h
   exact gI _
theorem communicate_ge (p:Program)(rest:Rest)(gs:Array Goroutine)(i:Nat)(g:Goroutine)(cases_:Array CommCase)(blocking:Bool)(shape:CommShape)(w:World):Ge w.drawn (communicate p rest gs i g cases_ blocking shape w).1:=by
 unfold communicate
 dsimp only
 split
 ·trivial
 ·split
  ·split
   ·split
    ·rename_i w1 h1
     unfold waitingAt at h1
     split at h1
     ·split at h1
      ·cases h1;exact gI _
      ·cases h1
     ·cases h1;exact gI _
    ·trivial
   ·exact gI _
  ·split
   ·trivial
   ·rename_i k c way w1 hr
    have hq:=uy hr;clear hr
    split
    all_goals first
     | trivial
     | exact hq
     | (split <;> first | trivial | exact hq)
     | skip
    split
    ·exact hq
    ·split
     ·rename_i hr2
      have h3:=uy hr2;exact gQ hq h3
     ·trivial
theorem runT_ge (p:Program)(m:Machine)(i:Nat)(listen:Bool):Ge m.world.drawn (Go.runT p m i listen).1:=by
 unfold Go.runT
 dsimp only
 have hq:=stepG_drawn p (i == 0) (m.gs.swapAt! i { (default:Goroutine) with status:=.finished}).1 m.world listen
 split
 all_goals (rename_i hs;rw[hs]at hq)
 all_goals first
  | trivial
  | exact hq
  | (exact Yw hq (communicate_ge _ _ _ _ _ _ _ _ _))
  | (exact Yw hq (look_ge _ _ _ _))
  | (exact ge_ite trivial hq)
  | skip
 ·split
  ·exact hq
  ·exact hq
  ·trivial
 ·split
  ·rename_i h
   exact gQ hq (timerOp_ge h)
  ·exact hq
  ·trivial
  ·trivial
theorem serve_ge (p:Program)(m:Machine)(k:Nat):Ge m.world.drawn (serve p m k):=by
 unfold serve
 split
 ·trivial
 ·exact gI _
 ·dsimp only
  split
  ·trivial
  ·exact gI _
def GeM (n:Nat):Move->Prop
 | .goroutine m _=>n<=m.world.drawn
 | .machine s _=>Ge n s
theorem UY {c:Prop} [Decidable c] {n:Nat}{a b:Move}(h1:GeM n a)(h2:GeM n b):GeM n (if c then a else b):=by split <;> assumption
theorem askOn_ge (p:Program)(m:Machine):GeM m.world.drawn (askOn p m):=by
 have pick:∀(m1:Machine) (n:Nat) (rs:List Nat),n<=m1.world.drawn->GeM n (match(choose (.sched rs.length)).run p m1.world with
  | .halt _ w=>.machine (.ended (.stuck "sched" "") w)
  | .ok k world=>
    if rs.length<=1 then .goroutine { m1 with world} (rs.getD k 0) else
    match(choose (.extern "sched.slice" 65536)).run p world with
    | .halt _ w=>.machine (.ended (.stuck "sched.slice" "") w)
    | .ok n world=>.goroutine { m1 with world,rest:={ m1.rest with slice:=if n=0 then none else some (rs.getD k 0,n)}} (rs.getD k 0)):=by
  intro m1 n rs hn
  split
  ·trivial
  ·rename_i h1
   have q1:=uy h1;refine UY (gQ hn q1) ?_
   split
   ·trivial
   ·rename_i h2
    have q2:=uy h2;exact gQ (gQ hn q1) q2
 unfold askOn
 dsimp only
 split
 ·trivial
 ·rename_i k0 w0 h0
  have q0:=uy h0;refine UY (Yw q0 (serve_ge p _ _)) ?_
  split
  ·split
   ·exact q0
   ·refine UY q0 ?_
    split <;> trivial
  ·split
   ·exact pick { m with world:=w0} _ (runnable m.gs m.world.os.mono) q0
   ·split
    ·trivial
    ·rename_i w1 h1
     have q1:=uy h1;exact pick { m with world:=w1} _ (runnable m.gs m.world.os.mono) (gQ q0 q1)
    ·rename_i h1
     have q1:=uy h1;exact gQ q0 q1
    ·rename_i t _ _ k1 w1 h1
     have q1:=uy h1;exact pick (Machine.advanceTo { m with world:=w1} (t-(k1+1))) _ (runnable m.gs m.world.os.mono) (gQ q0 q1)
theorem geM_trans {n m:Nat}{s:Move}(h:n<=m)(h2:GeM m s):GeM n s:=by
 cases s with
 | goroutine m i=>exact gQ h h2
 | machine s ops=>exact Yw h h2
theorem ask_ge (p:Program)(m:Machine):GeM m.world.drawn (ask p m):=by
 unfold ask
 split
 ·split
  ·trivial
  ·rename_i h1
   have q1:=uy h1
   split
   ·rename_i m2 h2
    exact geM_trans (gQ q1 (look_next h2)) (askOn_ge p m2)
   ·exact Yw q1 (look_ge p m.gs m.rest _)
  ·rename_i h1
   have q1:=uy h1;exact geM_trans q1 (askOn_ge p _)
 ·exact askOn_ge p m
theorem move_ge (p:Program)(m:Machine):GeM m.world.drawn (move p m):=by
 unfold move
 split
 ·exact UY (gI _) trivial
 ·split
  ·refine UY (gI _) (ask_ge p _)
  ·exact ask_ge p m
theorem step_ge (p:Program)(m:Machine):Ge m.world.drawn (step p m):=by
 unfold step stepT;have h:=move_ge p m
 split
 ·rename_i m1 i h1
  rw[h1]at h;exact Yw h (runT_ge p m1 i _)
 ·rename_i s ops h1
  rw[h1]at h;exact h
theorem runN_drawn (p:Program):∀(n:Nat) (m m':Machine),runN p n m= .next m'->m.world.drawn<=m'.world.drawn:=by
 intro n
 induction n with
 | zero=>intro m m' h;simp only[runN,Stepped.next.injEq]at h;rw[h];exact gI _
 | succ n ih=>
   intro m m' h;rw[runN]at h;have hs:=step_ge p m
   split at h
   ·rename_i m1 h1
    rw[h1]at hs;exact gQ hs (ih _ _ h)
   ·rename_i h1
    exact absurd h (h1 _)
theorem V7 {p:Program}{m m':Machine}(h:Steps p m m'):m.world.drawn<=m'.world.drawn:=by
 obtain⟨n,h⟩:=h;exact runN_drawn p n m m' h
theorem calls_drawn {P:Program}{f:FuncId}{args:Array Value}{w:World}{R:Ending->World->Prop}(h:Calls P f args w R)(hR:∀e w',R e w'->e≠.outgrown):
 Calls P f args w λe w'=>R e w'/\w.drawn<=w'.drawn:=by
 intro cs;obtain⟨e,w',fr,hr,hc,h1,h2⟩:=h cs;refine⟨e,w',fr,⟨hr,?_⟩,hc,h1,h2⟩;have hne:=hR e w' hr
 cases e with
 | returned v=>exact V7 (p:=P) hc
 | panicked chain=>exact V7 (p:=P) hc
 | outgrown=>exact absurd rfl hne
theorem calls_val {P:Program}{f:FuncId}{args:Array Value}{w:World}{v:Value}{R:World->Prop}(h:Calls P f args w λe w'=>e= .returned v/\R w'):
 Calls P f args w λe w'=>e= .returned v/\R w'/\w.drawn<=w'.drawn:=
 (calls_drawn h (λe w' hr=>by rw[hr.1];intro hh;cases hh)).mono λ_ _ ⟨⟨a,b⟩,c⟩=>⟨a,b,c⟩
theorem KD {w w':World}(hb:RowKit.Below w.heap.size w w')(hd:w.drawn<=w'.drawn):∃q os',w'=Sort.grow (w.drewN q) os':=by
 refine⟨w'.drawn-w.drawn,w'.heap.extract w.heap.size w'.heap.size,?_⟩;have h1:w'.heap=w.heap ++ w'.heap.extract w.heap.size w'.heap.size:=by
  apply Array.ext_getElem?;intro i;by_cases hi:i<w.heap.size
  ·rw[Array.getElem?_append_left hi,hb.block i hi]
  ·rw[Array.getElem?_append_right (by omega),Array.getElem?_extract];have hs:=hb.size
   split
   ·congr 1;omega
   ·exact Array.getElem?_eq_none (by omega)
 obtain⟨heap,tape,drawn,os,output⟩:=w';have e1:=hb.os;have e2:=hb.tape;have e3:=hb.output;simp only at h1 hd e1 e2 e3;simp only[Sort.grow,World.drewN];rw[<- h1,e1,e2,e3]
 congr 1
 omega
open Go.RowKit Go.Sort
section
variable {P:Program}{ops:Array Oper}{md:Region.Mode}{C:World->Prop}
def wpAnyH (P:Program)(md:Region.Mode)(ops:Array Oper)(C:World->Prop)(n:Nat)(L:Array Bool->Act->Prop):Nat->Array Bool->Act->Prop
 | 0,listed,a=>L listed a
 | f+1,listed,a=>
   Region.ready md ops listed≠[]/\∀i∈Region.ready md ops listed,i<n/\qOp P ops C i (wpAnyH P md ops C n L f (listed.setIfInBounds i true)) a
theorem Jf {n g:Nat}{L:Array Bool->Act->Prop}{Q':Exit->Act->World->Prop}(hL:∀listed a w,C w->L listed a->wpAny P md ops Q' g listed a w):
 ∀(f:Nat) (listed:Array Bool) (a:Act) (w:World),C w->wpAnyH P md ops C n L f listed a->wpAny P md ops Q' (f+g) listed a w
 | 0,listed,a,w,hw,h=>by rw[Nat.zero_add];exact hL _ _ _ hw h
 | f+1,listed,a,w,hw,h=>by
   rw[show f+1+g=(f+g)+1 by omega];exact⟨λh0=>absurd h0 h.1,λi hi=>wpOp_of_qOp hw (λa' w' hw' h'=>Jf hL f _ a' w' hw' h') (h.2 i hi).2⟩
theorem wpAnyH_first {n i:Nat}{oi:Oper}{v:Value}{L:Array Bool->Act->Prop}(hi:ops[i]? =some oi)(hsel:∀(j:Nat) (o:Oper) cs b,ops[j]? =some o->o.op≠.select cs b)
 (hs:Region.sinkB md ops n=true) (hc:Region.chainB md ops n=true) (hn:n<ops.size) (hin:i<n)
 (hdone:∀listed a,L listed a->∀j∈Region.ready md ops listed,n<=j):
 ∀(f:Nat) (listed:Array Bool) (a:Act),HeadInv md ops n listed->
  (∀j oj,ops[j]? =some oj->j≠i->listed.getD j true=false->(∀e∈oj.after,Region.binds md e=true->e.on≠i)->oi.apart ops oj=true)->
  i∈Region.ready md ops listed->YieldsIn P ops C oi v a->
  wpAnyH P md ops C n L f (listed.setIfInBounds i true) (a.put oi.dst v)->wpAnyH P md ops C n L (f+1) listed a:=by
 intro f
 induction f with
 | zero=>
   intro listed a inv _ hr hy H;have hun:=(mem_ready.1 hr).1;refine⟨λh=>(by rw[h]at hr;cases hr),λj hj=>?_⟩;have hjn:j<n:=by
    rcases Nat.lt_or_ge j n with h | h
    ·exact h
    ·exact absurd hj (tail_waits hs hc hn inv _ i rfl hin hun j h)
   refine⟨hjn,?_⟩;by_cases hji:j=i
   ·subst hji;exact hy.qOp hi H
   ·have:=hdone _ _ H j (ready_mono hj hji);omega
 | succ f ih=>
   intro listed a inv hfree hr hy H;have hun:=(mem_ready.1 hr).1;refine⟨λh=>(by rw[h]at hr;cases hr),λj hj=>?_⟩;have hjn:j<n:=by
    rcases Nat.lt_or_ge j n with h | h
    ·exact h
    ·exact absurd hj (tail_waits hs hc hn inv _ i rfl hin hun j h)
   refine⟨hjn,?_⟩;by_cases hji:j=i
   ·subst hji;exact hy.qOp hi H
   ·have h1:=(H.2 j (ready_mono hj hji)).2;obtain⟨hjun,oj,hoj,hall⟩:=mem_ready.1 hj
    have hnot:∀e∈oj.after,Region.binds md e=true->e.on≠i:=λe he hb heq=>by
     have h1:=hall e he hb;rw[heq,getD_both hun]at h1
     cases h1
    have h2:=qOp_put hoj (hfree j oj hoj hji hjun hnot) (λcs b=>hsel i oi cs b hi) (λcs b=>hsel j oj cs b hoj) hy h1
    have hfree':∀k ok,ops[k]? =some ok->k≠i->(listed.setIfInBounds j true).getD k true=false->
     (∀e∈ok.after,Region.binds md e=true->e.on≠i)->oi.apart ops ok=true:=λk ok hk hki hun hno=>by
     refine hfree k ok hk hki ?_ hno;by_cases hjk:j=k
     ·subst hjk;exact hjun
     ·rw[getD_set_ne true hjk]at hun;exact hun
    refine qOp_mono (λa' h3=>ih (listed.setIfInBounds j true) a' (inv.set hj hjn) hfree' (ready_mono hr (Ne.symm hji)) h3.1 ?_) h2;rw[Array.setIfInBounds_comm _ _ hji];exact h3.2
theorem XY {n g:Nat}{Lq:Act->Prop}(hsel:Region.noSelect ops=true)(hs:Region.sinkB md ops n=true)(hc:Region.chainB md ops n=true)(hn:n<ops.size):
 ∀(l:List Oper) (k:Nat) (listed:Array Bool) (a:Act),(∀j,j<l.length->l[j]? =ops[k+j]?)->k+l.length=n->HeadInv md ops n listed->
 Region.lexHead md ops g l.length k listed=true->wpQuiet P ops C Lq l a->
 wpAnyH P md ops C n (λlisted' a'=>Region.seqB md ops g n listed'=true/\Lq a') l.length listed a
 | [],k,listed,a,_,hk,_,hB,h=>by
   have:k=n:=by simpa using hk
   subst this;exact⟨by simpa[Region.lexHead] using hB,h⟩
 | o :: l,k,listed,a,hl,hk,inv,hB,h=>by
   have h0:ops[k]? =some o:=by simpa using (hl 0 (by simp)).symm
   simp only[Ha,Region.lexHead,gX]at hB;obtain⟨⟨hr,hf⟩,hB'⟩:=hB;have hkn:k<n:=by simp only[Ha]at hk;omega
   have hr':k∈Region.ready md ops listed:=by simpa using hr
   have hst:qOp P ops C k (wpQuiet P ops C Lq l) a:=by unfold qOp;simp only[h0];exact h
   obtain⟨v,hy,hK⟩:=yieldsIn_of_qOp h0 hst
   exact wpAnyH_first h0 (Region.noSelect_spec hsel) hs hc hn hkn (λlisted' a' hL=>seqB_ready hL.1) l.length listed a inv (Region.free_spec h0 hf) hr' hy
    (XY hsel hs hc hn l (k+1) _ _ (λj hj=>by have:=hl (j+1) (by simp;omega);simpa[Nat.add_assoc,Nat.add_comm 1 j] using this) (by simp only[Ha]at hk;omega) (inv.set hr' hkn) hB' hK)
theorem Qf {id:Nat}{Q:Exit->Act->World->Prop}{a:Act}{w:World}{l:List Oper}(n:Nat)(hm:P.follows .mixedOrders=true)(hB:Region.lexTailB .any l.toArray n=true)(hC:C { w with drawn:=w.drawn+1})
 (h:wpQuiet P l.toArray C (λa'=>∀w',C w'->wpList P l.toArray Q (l.drop n) a' w') (l.take n) a):(Code.region id l.toArray true).wp P Q a w:=by
 simp only[Region.lexTailB,gX,H7]at hB;obtain⟨⟨⟨⟨hsel,hn⟩,hs⟩,hc⟩,hlex⟩:=hB;have hn':n<l.length:=by simpa using hn
 have htl:(l.take n).length=n:=by simp;omega
 have hdl:(l.drop n).length=l.toArray.size-n:=by simp
 have inv0:HeadInv .any l.toArray n (Array.replicate l.toArray.size false):=
  ⟨by simp,λj oj _ hl=>(by rw[getD_replicate_false]at hl;cases hl),λt _ ht=>getD_in (by simpa using ht) (getD_replicate_false _ _)⟩
 have H:=XY (md:=.any) (g:=l.toArray.size-n) hsel hs hc hn (l.take n) 0 _ a (λj hj=>by
  have hj':j<n:=by rw[htl]at hj;exact hj
  simp[hj']) (by simpa using htl) inv0 (by rw[htl];exact hlex) h
 refine wp_region_any hm ?_
 have:=Jf (Q':=Q) (g:=l.toArray.size-n) (λlisted a' w' hw' hL=>by
  have:=wpAny_of_seq (md:=.any) (Q':=Q) (l.drop n) n listed a' w' (λj=>by simp[List.getElem?_drop]) (by rw[hdl];exact hL.1) (hL.2 w' hw')
  rwa [hdl]at this) _ _ _ _ hC H
 rw[htl,show n+(l.toArray.size-n)=l.toArray.size by omega]at this;exact this
end
structure Gp where
 q:Nat
 os:Array Obj
instance:Inhabited Gp:=⟨⟨0,#[]⟩⟩
def gw (w:World)(p:Gp):World:=grow (w.drewN p.q) p.os
theorem gw_draw (w:World):∃p,({ w with drawn:=w.drawn+1}:World)=gw w p:=⟨⟨1,#[]⟩,by unfold gw;rw[grow_empty];rfl⟩
theorem gw_gw (w:World)(p q:Gp):gw (gw w p) q=gw w ⟨p.q+q.q,p.os ++ q.os⟩:=by
 show grow ((grow (w.drewN p.q) p.os).drewN q.q) q.os=grow (w.drewN (p.q+q.q)) (p.os ++ q.os);rw[show(grow (w.drewN p.q) p.os).drewN q.q=grow ((w.drewN p.q).drewN q.q) p.os from rfl,grow_grow,World.drewN_drewN]
theorem qD (w:World)(p:Gp):Below w.heap.size w (gw w p):=by
 refine⟨rfl,rfl,rfl,by simp[gw,grow],λk hk=>?_⟩;show(w.heap ++ p.os)[k]? =_;exact Array.getElem?_append_left hk
theorem qh {w:World}{a:Addr}{v:Value}(h:w.cell? a=some v):∀p,(gw w p).cell? a=some v:=λp=>
 ((qD w p).cell (p:=a) (by
   rcases Nat.lt_or_ge a.block w.heap.size with hh | hh
   ·exact hh
   ·simp[World.cell?,Array.getElem?_eq_none hh]at h)).trans h
theorem gw_of_below {w w':World}(hb:Below w.heap.size w w')(hd:w.drawn<=w'.drawn):∃p,w'=gw w p:=by
 obtain⟨q,os,h⟩:=KD hb hd;exact⟨⟨q,os⟩,h⟩
section
variable {P:Program}{f:FuncId}{args:Array Value}{w:World}{v:Value}{p:Gp}
theorem qY (h:Calls P f args (gw w p) λe w'=>e= .returned v/\Below (gw w p).heap.size (gw w p) w'):
 Calls P f args (gw w p) λe w''=>e= .returned v/\∃p,w''=gw w p:=by
 refine(calls_val h).mono ?_;rintro e w' ⟨he,hb,hd⟩;obtain⟨q,hw⟩:=gw_of_below hb hd;exact⟨he,_,hw.trans (gw_gw w p q)⟩
theorem KG (h:Calls P f args (gw w p) λe w'=>e= .returned v/\w'=gw w p):
 Calls P f args (gw w p) λe w''=>e= .returned v/\∃p,w''=gw w p:=
 h.mono λ_ _ ⟨he,hw⟩=>⟨he,p,hw⟩
end
end Go.Proofs.YtpcmilhjpmlbpaaGreatDoor
namespace Go.Proofs.YtpcmilhjpmlbpaaGreatDoor
open Go.RowKit Go.Shelf nm
structure Rec where
 owner:ByteArray
 typ:Int
 cls:Int
 ttl:Int
 data:ByteArray
 deriving DecidableEq
@[reducible] def recC (r:Rec):List Value:=[.string r.owner,.int .i64 r.typ,.int .i64 r.cls,.int .i64 r.ttl,.string r.data]
@[reducible] def yf (r:Rec):Value:=.agg #[.string r.owner,.int .i64 r.typ,.int .i64 r.cls,.int .i64 r.ttl,.string r.data]
namespace zn
def orL:List Int->Int
 | []=>0
 | a :: l=>if a=0 then orL l else a
def zY (x y:Rec):Int:=orL [zo x.owner y.owner,Lib.compareInt x.typ y.typ,Lib.compareBytes (dt.ym x.typ x.data).data.toList (dt.ym y.typ y.data).data.toList]
end zn
theorem or_any (xs:List Int)(hx:xs.length<=1000)(g cap:Nat)(w:World)(hc:∀j (hj:j<xs.length),w.cell? ⟨g,j,none⟩=some (.int .i64 xs[j])):
 Calls Tryz.prog 127 #[.slice (some ⟨g,0,none⟩) xs.length cap] w λe w'=>e= .returned (.int .i64 (zn.orL xs))/\w'=w:=by
 have HC:=qe hc;clear hc
 go_enter Tryz.func127,Tryz.ntmps127
 go_wp2
 go_loop [8,5] (λkv _=>∃k:Nat,k<=xs.length/\kv= .int .i64 k/\zn.orL xs=zn.orL (xs.drop k)) (λkv _=>xs.length-(intOf kv).toNat)
 case atStart=>exact⟨0,gU _,rfl,rfl⟩
 case round=>
  obtain⟨k,hk,rfl,he⟩:=hrel;by_cases hlt:k<xs.length
  ·have hcell:=HC.out k hlt;rw[Hf hlt,zn.orL]at he;by_cases h0:xs[k]=0
   ·rw[if_pos h0]at he;have b1:(xs[k] != 0)=false:=by rw[h0];rfl
    have HE:=qe he;have H0:=qe h0;clear he h0
    go_wp2
    go_round
    case rel=>exact⟨k+1,by omega,by go_num,HE.out⟩
    case measure=>simp[intOf];omega
   ·rw[if_neg h0]at he;have b1:(xs[k] != 0)=true:=by rw[bne_iff_ne];exact h0
    have HE:=qe he;clear he h0
    go_wp2
    go_ret;exact⟨qQ HE.out.symm,rfl⟩
  ·have hke:k=xs.length:=by omega
   rw[hke,List.drop_length]at he;have HE:=qe he;clear he hke
   go_wp2
   go_ret;exact⟨qQ (by rw[HE.out];rfl),rfl⟩
theorem q8 (w:World)(r:Rec)(t:TypeId)(j:Nat)(v:Value)(h:(recC r)[j]? =some v):(w.alloc (.cells (recC r).toArray t)).cell? ⟨w.heap.size,j,none⟩=some v:=by
 rw[qg (qz rfl)]
 simpa using h
theorem order_any (x y:Rec)(hx:x.owner.size<=140737488355328)(hy:y.owner.size<=140737488355328)(w:World):
 Calls Tryz.prog 80 #[yf x,yf y] w λe w'=>e= .returned (.int .i64 (zn.zY x y))/\Below w.heap.size w w':=by
 have hB2:=qe (((gJ _ w).alloc (gI _) (.cells (recC x).toArray 80)).alloc (by simp) (.cells (recC y).toArray 80));have cx:=λj v h=>qx (.cells (recC y).toArray 80) (q8 w x 80 j v h);have cy:=λj v h=>q8 (w.alloc (.cells (recC x).toArray 80)) y 80 j v h;simp only[World.size_alloc]at cy;have CX:=qe cx;have CY:=qe cy;clear cx cy
 go_enter Tryz.func80,Tryz.ntmps80
 go_wp2_with fail;obtain⟨w2,hw2⟩:=yM ((w.alloc (.cells (recC x).toArray 80)).alloc (.cells (recC y).toArray 80));have HW:=qe hw2;have e1:=qh (hw2 ▸ CX.out 0 _ rfl);have e2:=qh (hw2 ▸ CX.out 1 _ rfl);have e3:=qh (hw2 ▸ CX.out 4 _ rfl);have e4:=qh (hw2 ▸ CY.out 0 _ rfl);have e5:=qh (hw2 ▸ CY.out 1 _ rfl);have e6:=qh (hw2 ▸ CY.out 4 _ rfl);rw[<- hw2];clear hw2;refine Qf (C:=λW=>∃p,W=gw w2 p) 21 (by kernel_rfl) (by kernel_rfl) (gw_draw w2) ?_;simp only[List.take_succ_cons,List.take_zero,List.drop_succ_cons,List.drop_zero]
 repeat (refine Hu (λK hK=>?_);go_simp;first | (refine hK _ ?_;clear hK K) | (apply gW;refine⟨λ_=>?_,hK _ ?_⟩;(first | (go_at_call 128;exact qY (compare_any _ _ hx hy _)) | (go_at_call 129;exact KG (Tryz.cmp_Compare_int _ _ _)) | (go_at_call 118;exact qY (dfold_any _ _ _)) | (go_at_call 130;exact KG (Tryz.strings_Compare _ _ _)));clear hK K))
 refine Hw ?_;intro W hW;have hBW:Below w2.heap.size w2 W:=by obtain⟨p,rfl⟩:=hW;exact qD _ _
 clear e1 e2 e3 e4 e5 e6 hW;go_wp2_with fail;refine(or_any [zo x.owner y.owner,Lib.compareInt x.typ y.typ,Lib.compareBytes (dt.ym x.typ x.data).data.toList (dt.ym y.typ y.data).data.toList] (by simp) W.heap.size 3 _ ?_).mono ?_
 ·intro j hj;rw[qg (qz rfl)]
  match j,hj with
  | 0,_=>rfl
  | 1,_=>rfl
  | 2,_=>rfl
 rintro e w5 ⟨rfl,rfl⟩;go_wp2_with fail;go_ret;have hB:=hB2.out;rw[<- HW.out]at hB;have z2:=hB.size;exact⟨rfl,(hB.trans (hBW.mono z2)).alloc (by have:=hBW.size;omega) _⟩
def Zk (w:World)(b off:Nat)(r:Rec):Prop:=
 w.cell? ⟨b,off,none⟩=some (.string r.owner)/\w.cell? ⟨b,off+1,none⟩=some (.int .i64 r.typ)/\w.cell? ⟨b,off+2,none⟩=some (.int .i64 r.cls)/\
 w.cell? ⟨b,off+3,none⟩=some (.int .i64 r.ttl)/\w.cell? ⟨b,off+4,none⟩=some (.string r.data)
def ql (w:World)(v:Value)(l:List Rec):Prop:=
 ∃a cap,v= .slice a l.length cap/\l.length<=cap/\∀k (hk:k<l.length),∃b off,a=some ⟨b,off,none⟩/\b<w.heap.size/\Zk w b (off+k*5) l[k]
theorem Zk.keep {w w':World}{b off:Nat}{r:Rec}(h:Zk w b off r)(hk:w'.heap[b]? =w.heap[b]?):Zk w' b off r:=by
 have e:∀i,w'.cell? ⟨b,i,none⟩=w.cell? ⟨b,i,none⟩:=λi=>World.cell?_of_block (w:=w) (a:=⟨b,i,none⟩) hk;exact⟨(e _).trans h.1,(e _).trans h.2.1,(e _).trans h.2.2.1,(e _).trans h.2.2.2.1,(e _).trans h.2.2.2.2⟩
theorem ql.below {w w':World}{v:Value}{l:List Rec}(h:ql w v l)(hb:Below w.heap.size w w'):ql w' v l:=by
 obtain⟨a,cap,hv,hc,hr⟩:=h;refine⟨a,cap,hv,hc,λk hk=>?_⟩;obtain⟨b,off,ha,hbl,hra⟩:=hr k hk;exact⟨b,off,ha,gN hbl hb.size,hra.keep (hb.block b hbl)⟩
namespace zn
def QC (r:Rec):Bool:=decide (r.typ=50) || (decide (r.typ=46) && Lib.hasPrefix r.data.data.toList [0,50])
end zn
theorem signs_any (r:Rec)(w:World):Calls Tryz.prog 114 #[yf r] w λe w'=>e= .returned (.bool (zn.QC r))/\Below w.heap.size w w':=by
 have hB:=qe ((gJ _ w).alloc (gI _) (.cells (recC r).toArray 80));by_cases h5:r.typ=50
 ·have b1:(r.typ == 50)=true:=by rw[Hz];exact h5
  have hr:zn.QC r=true:=by unfold zn.QC;rw[gF h5,Bool.true_or]
  have HR:=qe hr;clear hr h5
  go_enter Tryz.func114,Tryz.ntmps114
  go_wp2_with fail;go_ret;exact⟨qI HR.out.symm,hB.out⟩
 ·have b1:(r.typ == 50)=false:=by rw[gG];exact h5
  by_cases h6:r.typ=46
  ·have b2:(r.typ == 46)=true:=by rw[Hz];exact h6
   have hr:zn.QC r=Lib.hasPrefix r.data.data.toList [0,50]:=by unfold zn.QC;rw[gp h5,Bool.false_or,gF h6,Bool.true_and]
   have HR:=qe hr;clear hr h5 h6
   go_enter Tryz.func114,Tryz.ntmps114
   go_wp2_with fail;refine(Tryz.strings_HasPrefix _ _ _).mono ?_;rintro e w2 ⟨rfl,rfl⟩;go_wp2_with fail;go_ret;exact⟨qI HR.out.symm,hB.out⟩
  ·have b2:(r.typ == 46)=false:=by rw[gG];exact h6
   have hr:zn.QC r=false:=by unfold zn.QC;rw[gp h5,Bool.false_or,gp h6,Bool.false_and]
   have HR:=qe hr;clear hr h5 h6
   go_enter Tryz.func114,Tryz.ntmps114
   go_wp2_with fail;go_ret;exact⟨qI HR.out.symm,hB.out⟩
@[reducible] def vk (at_ code:Int):Value:=.iface 135 (.agg #[.int .i64 at_,.int .i64 code])
def JV (n:Nat)(code:Int)(bad:Nat->Bool)(Inv:Nat->World->Prop)(e:Ending)(w':World):Prop:=
 (∃k:Nat,k<n/\bad k=true/\(∀j,j<k->bad j=false)/\e= .panicked [{ v:=vk k code,recovered:=false}]/\Inv (k+1) w')\/
 ((∀j,j<n->bad j=false)/\e= .returned (.tuple #[])/\Inv n w')
theorem JH (g:FuncId)(lb:Array Value)(heg:∀args w,(callFunc g args).run Tryz.prog w= .ok (.enter g args) w)(code:Int)(l:List Rec)(hl:l.length<=2000)(v:Value)(bad:Nat->Bool)(Inv:Nat->World->Prop)
 (hrec:∀k W,Inv k W->ql W v l) (hI:∀k W W',Inv k W->Below W.heap.size W W'->Inv k W')
 (hcall:∀k (hk:k<l.length) W,Inv k W->Calls Tryz.prog g (#[.int .i64 (k:Int),yf l[k]] ++ lb) W λe W'=>e= .returned (.bool (bad k))/\Inv (k+1) W')
 (w:World) (h0:Inv 0 w):Calls Tryz.prog 110 #[v,.int .i64 code,.func (.func g) #[] lb] w λe w'=>JV l.length code bad Inv e w':=by
 obtain⟨a,cap,rfl,hcap,_⟩:=hrec 0 w h0;have HREC:=qe hrec;have HI:=qe hI;have Vg:=qe hcall;have H0:=qe h0;clear hrec hI hcall h0
 go_enter Tryz.func110,Tryz.ntmps110
 go_wp2_with fail
 go_loopw [10,6,7] (λkv _ _ wr=>∃k:Nat,k<=l.length/\kv= .int .i64 k/\(∀j,j<k->bad j=false)/\Inv k wr) (λkv _ _ _=>l.length-(intOf kv).toNat)
 case atStart=>exact⟨0,gU _,rfl,(λj hj=>absurd hj (Nat.not_lt_zero _)),H0.out⟩
 case round=>
  obtain⟨k,hk,rfl,hbad,hinv⟩:=hrel;have HBAD:=qe hbad;have HINV:=qe hinv;clear hbad hinv;by_cases hlt:k<l.length
  ·obtain⟨a',cap',hv,_,hr⟩:=HREC.out k wr HINV.out;simp only[gL,true_and]at hv;obtain⟨rfl,rfl⟩:=hv;obtain⟨b,off,rfl,hbl,c0,c1,c2,c3,c4⟩:=hr k hlt;clear hr;go_wp2_with fail;refine(Vg.out k hlt _ (HI.out k wr _ HINV.out ((gJ _ wr).alloc (gI _) _))).mono ?_;rintro e w2 ⟨rfl,hinv2⟩;have HINV2:=qe hinv2;clear hinv2
   cases hb:bad k
   ·have HB:=qe hb;clear hb;go_wp2_with fail
    go_roundw
    case rel=>exact⟨k+1,by omega,by go_num,(λj hj=>(Nat.lt_or_ge j k).elim (HBAD.out j) (λh=>by rw[show j=k by omega];exact HB.out)),HINV2.out⟩
    case measure=>simp[intOf];omega
   ·have HB:=qe hb;clear hb;go_wp2_with fail;exact⟨rfl,Or.inl ⟨k,hlt,HB.out,HBAD.out,rfl,HINV2.out⟩⟩
  ·have hke:k=l.length:=by omega
   subst hke;go_wp2_with fail
   go_end0
   exact Or.inr ⟨HBAD.out,rfl,HINV.out⟩
namespace od
structure Cmp {α:Type}(c:α->α->Int):Prop where
 VU:∀a b,c a b<0↔0<c b a
 trans:∀a b d,c a b<=0->c b d<=0->c a d<=0
section
variable {α:Type}{c:α->α->Int}(h:Cmp c)
include h
theorem Cmp.le (a b:α):c a b<=0↔0<=c b a:=by have:=h.VU b a;omega
theorem Cmp.zero (a b:α):c a b=0↔c b a=0:=by have:=h.VU a b;have:=h.VU b a;omega
theorem Cmp.self (a:α):c a a=0:=by have:=h.VU a a;omega
theorem Cmp.congr {a b:α}(e:c a b=0)(d:α):(c a d<=0↔c b d<=0)/\(0<=c a d↔0<=c b d):=by
 have e':=(h.zero a b).1 e;have h1:=h.trans a b d;have h2:=h.trans b a d;have h3:=h.trans d a b;have h4:=h.trans d b a;have h5:=h.le d a;have h6:=h.le d b;omega
theorem Cmp.swo:Go.Sort.SWO (λa b=>decide (c a b<0)) where
 irrefl:=λx=>by have:=h.self x;simp;omega
 trans:=λx y z h1 h2=>by
  simp only[H7]at *;have a1:=h.trans x y z (by omega) (by omega);rcases Int.lt_or_eq_of_le a1 with h3 | h3
  ·exact h3
  ·have:=h.trans z x y (by have:=(h.zero x z).1 h3;omega) (by omega);have:=h.VU y z;omega
 ntrans:=λx y z h1 h2=>by
  simp only[decide_eq_false_iff_not]at *;have a1:=h.trans z y x (by have:=h.le z y;omega) (by have:=h.le y x;omega);have:=h.le z x;omega
theorem Cmp.pull {β:Type}(f:β->α):Cmp (λa b=>c (f a) (f b)):=⟨λ_ _=>h.VU _ _,λ_ _ _=>h.trans _ _ _⟩
end
theorem Cmp.lex {α:Type}{c d:α->α->Int}(hc:Cmp c)(hd:Cmp d):Cmp (λa b=>if c a b=0 then d a b else c a b) where
 VU:=λa b=>by
  have h1:=hc.zero a b;have h2:=hc.VU a b;have h3:=hd.VU a b;show(if c a b=0 then d a b else c a b)<0↔0<(if c b a=0 then d b a else c b a)
  split <;> split <;> omega
 trans:=λa b e h1 h2=>by
  show(if c a e=0 then d a e else c a e)<=0;have k1:c a b<=0:=by revert h1;show(if c a b=0 then d a b else c a b)<=0->_;split <;> omega
  have k2:c b e<=0:=by revert h2;show(if c b e=0 then d b e else c b e)<=0->_;split <;> omega
  have k3:=hc.trans a b e k1 k2
  split
  ·rename_i h0
   have k4:c e a=0:=(hc.zero a e).1 h0;have k5:=hc.trans e a b (by omega) k1;have k6:=hc.le e b;have k7:c b e=0:=by omega
   have k8:=hc.trans b e a k2 (by omega);have k9:=hc.le b a;have k10:c a b=0:=by omega
   refine hd.trans a b e ?_ ?_
   ·revert h1;show(if c a b=0 then d a b else c a b)<=0->_;rw[if_pos k10];exact id
   ·revert h2;show(if c b e=0 then d b e else c b e)<=0->_;rw[if_pos k7];exact id
  ·exact k3
def uW {α:Type}(c:α->α->Int):List α->List α->Int
 | [],[]=>0
 | [],_ :: _=>-1
 | _ :: _,[]=>1
 | a :: x,b :: y=>if c a b=0 then uW c x y else c a b
theorem Ub {α:Type}{c:α->α->Int}(hz:∀a b,c a b=0↔a=b):∀x y:List α,uW c x y=0↔x=y
 | [],[]=>by simp[uW]
 | [],_ :: _=>by simp[uW]
 | _ :: _,[]=>by simp[uW]
 | a :: x,b :: y=>by
   rw[uW];by_cases e:c a b=0
   ·rw[if_pos e,Ub hz x y,(hz a b).1 e];simp
   ·rw[if_neg e];constructor
    ·intro h;exact absurd h e
    ·intro h;injection h with h1 h2;exact absurd ((hz a b).2 h1) e
theorem Cmp.list {α:Type}{c:α->α->Int}(hc:Cmp c):Cmp (uW c) where
 VU:=by
  intro x
  induction x with
  | nil=>intro y;cases y <;> simp[uW]
  | cons a x ih=>
    intro y
    cases y with
    | nil=>simp[uW]
    | cons b y=>
      rw[uW,uW];have h1:=hc.zero a b;have h2:=hc.VU a b;have h3:=ih y
      split <;> split <;> omega
 trans:=by
  intro x
  induction x with
  | nil=>intro y z _ _;cases z <;> simp[uW]
  | cons a x ih=>
    intro y z h1 h2
    cases y with
    | nil=>simp[uW]at h1
    | cons b y=>
      cases z with
      | nil=>simp[uW]at h2
      | cons e z=>
        rw[uW]at *;have k1:c a b<=0:=by revert h1;split <;> omega
        have k2:c b e<=0:=by revert h2;split <;> omega
        have k3:=hc.trans a b e k1 k2
        split
        ·rename_i h0
         have k4:c e a=0:=(hc.zero a e).1 h0;have k5:=hc.trans e a b (by omega) k1;have k6:=hc.le e b;have k7:c b e=0:=by omega
         have k8:=hc.trans b e a k2 (by omega);have k9:=hc.le b a;have k10:c a b=0:=by omega
         rw[if_pos k10]at h1;rw[if_pos k7]at h2;exact ih y z h1 h2
        ·exact k3
def Xq (a b:UInt8):Int:=if a<b then -1 else if b<a then 1 else 0
theorem byteC_cmp:Cmp Xq where
 VU:=λa b=>by
  unfold Xq;simp only[UInt8.lt_iff_toNat_lt]
  repeat' split
  all_goals omega
 trans:=λa b d=>by
  unfold Xq;simp only[UInt8.lt_iff_toNat_lt]
  repeat' split
  all_goals omega
theorem byteC_zero (a b:UInt8):Xq a b=0↔a=b:=by
 unfold Xq;simp only[UInt8.lt_iff_toNat_lt,<- UInt8.toNat_inj]
 repeat' split
 all_goals omega
theorem QE:∀x y:List UInt8,Lib.compareBytes x y=uW Xq x y
 | [],[]=>rfl
 | [],_ :: _=>rfl
 | _ :: _,[]=>rfl
 | a :: x,b :: y=>by
   rw[Lib.compareBytes,uW,QE x y];unfold Xq
   repeat' split
   all_goals first | omega | rfl | simp_all
theorem bytes_cmp:Cmp Lib.compareBytes:=by
 have:Lib.compareBytes=uW Xq:=by funext x y;exact QE x y
 rw[this];exact byteC_cmp.list
theorem bytes_zero (x y:List UInt8):Lib.compareBytes x y=0↔x=y:=by rw[QE];exact Ub byteC_zero x y
theorem text_cmp:Cmp (λa b:ByteArray=>Lib.compareBytes a.data.toList b.data.toList):=bytes_cmp.pull λa:ByteArray=>a.data.toList
theorem text_zero (a b:ByteArray):Lib.compareBytes a.data.toList b.data.toList=0↔a=b:=by
 rw[bytes_zero];exact⟨YX,λh=>by rw[h]⟩
theorem int_cmp:Cmp Lib.compareInt where
 VU:=λa b=>by unfold Lib.compareInt;repeat' split
              all_goals omega
 trans:=λa b d=>by unfold Lib.compareInt;repeat' split
                   all_goals omega
theorem int_zero (a b:Int):Lib.compareInt a b=0↔a=b:=by
 unfold Lib.compareInt
 repeat' split
 all_goals omega
theorem Ue:∀x y:List ByteArray,yA x y=uW (λa b:ByteArray=>Lib.compareBytes a.data.toList b.data.toList) x y
 | [],[]=>rfl
 | [],_ :: _=>rfl
 | _ :: _,[]=>rfl
 | a :: x,b :: y=>by rw[yA,uW,Ue x y]
theorem rowsC_cmp:Cmp yA:=by
 have:yA=uW (λa b:ByteArray=>Lib.compareBytes a.data.toList b.data.toList):=by funext x y;exact Ue x y
 rw[this];exact text_cmp.list
theorem rowsC_zero (x y:List ByteArray):yA x y=0↔x=y:=by rw[Ue];exact Ub text_zero x y
theorem Jt:∀(ls:List (List UInt8)) (k:Nat),Zj ls->vV (jY k ls)=ls.map λl=>⟨l.toArray⟩:=by
 intro ls
 induction ls with
 | nil=>
   intro k _;simp[vV,jY]
 | cons l ls ih=>
   intro k h;have h1:=ih (k+1+l.length) (λx hx=>h x (by simp[hx]));have h2:=h l (by simp);unfold vV at h1 ⊢;rw[jY,List.map_cons,List.filter_cons_of_pos,h1]
   ·rfl
   ·rw[ByteArray.toList_eq]
    cases l with
    | nil=>exact absurd h2 (by simp)
    | cons c l=>rfl
theorem labelsL_rows {s:ByteArray}{ls:List (List UInt8)}(h:rows s=some ls):je s=ls.map λl=>⟨l.toArray⟩:=by
 obtain⟨_,h2,_,h4⟩:=yc h;unfold je;rw[if_pos (Qy h),h4];exact Jt ls 0 h2
def UK (s:ByteArray):List ByteArray:=(je (kY s)).reverse
theorem nameK_rows {s:ByteArray}{ls:List (List UInt8)}(h:rows s=some ls):UK s=((jH ls).map λl=>(⟨l.toArray⟩:ByteArray)).reverse:=by
 unfold UK;rw[labelsL_rows (UA h)]
theorem U4 {a b:ByteArray}(ha:qo a=true)(hb:qo b=true):zo a b=yA (UK a) (UK b):=by
 unfold zo;rw[if_pos ⟨ha,hb⟩];rfl
theorem mk_inj:∀x y:List (List UInt8),(x.map λl=>(⟨l.toArray⟩:ByteArray))=(y.map λl=>(⟨l.toArray⟩:ByteArray))->x=y
 | [],[],_=>rfl
 | [],_ :: _,h=>by simp at h
 | _ :: _,[],h=>by simp at h
 | a :: x,b :: y,h=>by
   simp only[List.map_cons,List.cons.injEq]at h;rw[mk_inj x y h.2];have:=congrArg (λs:ByteArray=>s.data.toList) h.1;simp only at this;rw[this]
theorem nameK_inj {a b:ByteArray}(ha:qo a=true)(hb:qo b=true):UK a=UK b↔qy a=qy b:=by
 obtain⟨x,hx⟩:=yO ha;obtain⟨y,hy⟩:=yO hb;rw[nameK_rows hx,nameK_rows hy,vW hx,vW hy];constructor
 ·intro h;rw[mk_inj _ _ (List.reverse_inj.1 h)]
 ·intro h;obtain⟨a1,a2,_,_⟩:=yc hx;obtain⟨b1,b2,_,_⟩:=yc hy;rw[nameOf_inj (QY a2) (QY b2) (by rw[QP a2,Yk hx];exact a1) h]
theorem compareI_zero {a b:ByteArray}(ha:qo a=true)(hb:qo b=true):zo a b=0↔qy a=qy b:=by
 rw[U4 ha hb,rowsC_zero,nameK_inj ha hb]
abbrev Nm:={ s:ByteArray // qo s=true}
theorem names_cmp:Cmp (λa b:Nm=>zo a.1 b.1):=by
 have h:(λa b:Nm=>zo a.1 b.1)=λa b:Nm=>yA (UK a.1) (UK b.1):=by funext a b;exact U4 a.2 b.2
 rw[h];exact rowsC_cmp.pull λa:Nm=>UK a.1
abbrev JN:={ r:Rec // qo r.owner=true}
theorem VD (x y:Rec):zn.zY x y=if zo x.owner y.owner=0 then(if Lib.compareInt x.typ y.typ=0 then Lib.compareBytes (dt.ym x.typ x.data).data.toList (dt.ym y.typ y.data).data.toList else Lib.compareInt x.typ y.typ) else zo x.owner y.owner:=by
 unfold zn.zY zn.orL zn.orL zn.orL zn.orL
 repeat' split
 all_goals first | rfl | omega
theorem Yo:Cmp (λa b:JN=>zn.zY a.1 b.1):=by
 have h:(λa b:JN=>zn.zY a.1 b.1)=λa b:JN=>if zo a.1.owner b.1.owner=0 then(if Lib.compareInt a.1.typ b.1.typ=0 then Lib.compareBytes (dt.ym a.1.typ a.1.data).data.toList (dt.ym b.1.typ b.1.data).data.toList else Lib.compareInt a.1.typ b.1.typ) else zo a.1.owner b.1.owner:=by
  funext a b;exact VD _ _
 rw[h];exact(names_cmp.pull λa:JN=>(⟨a.1.owner,a.2⟩:Nm)).lex ((int_cmp.pull λa:JN=>a.1.typ).lex (text_cmp.pull λa:JN=>dt.ym a.1.typ a.1.data))
theorem orderI_zero {x y:Rec}(hx:qo x.owner=true)(hy:qo y.owner=true):zn.zY x y=0↔qy x.owner=qy y.owner/\x.typ=y.typ/\dt.ym x.typ x.data=dt.ym y.typ y.data:=by
 rw[VD];have h1:=compareI_zero hx hy;have h2:=int_zero x.typ y.typ;have h3:=text_zero (dt.ym x.typ x.data) (dt.ym y.typ y.data);by_cases e1:zo x.owner y.owner=0
 ·rw[if_pos e1];by_cases e2:Lib.compareInt x.typ y.typ=0
  ·rw[if_pos e2,h3];exact⟨λh=>⟨h1.1 e1,h2.1 e2,h⟩,λh=>h.2.2⟩
  ·rw[if_neg e2];exact⟨λh=>absurd h e2,λh=>absurd (h2.2 h.2.1) e2⟩
 ·rw[if_neg e1];exact⟨λh=>absurd h e1,λh=>absurd (h1.2 h.1) e1⟩
section
variable {α:Type}{c:α->α->Int}
end
end od
end Go.Proofs.YtpcmilhjpmlbpaaGreatDoor
