/-
  A semantics by value over the model: data, calls, code (part C).
-/
import Derived.Test.YthhioanidhkdeaaGreatCTopManyAxB
import Derived.ScopeJumps
import Derived.OpenShut
import Derived.SizedLaws
import Derived.WalkKit
import Derived.RangeFuncGives
import Derived.RangeFuncSeq
import Derived.Sort.MapsRangeIn
import Derived.Sort.KeysCollected
import Derived.OwnWalkIn
import Derived.TacticsInMore
import Derived.RegionIn
import Derived.LoopNIn
import Derived.LoopIn
import Derived.Maps.AppendAt
import Derived.Lib.SlKeysI
import Derived.Shelf.Abstract
import Derived.Laws.IdiomRangeMap
import Derived.Maps.RangeRun
namespace Go.Ax
set_option linter.unusedVariables false
set_option linter.unusedSimpArgs false
variable {P : Program} {T : Tab}
def J92:List It→St→Option (List It×St)
 | .val i t::r,st=>match J7o st.heap t (look st.slots i) with
  | some x=>J92 r { st with slots:=(i,.v t x)::st.slots,heap:=freezeIds st.heap (look st.slots i).ids }
  | none=>none
 | .sel is ks::r,st=>match J8g st.heap ks && Jao ks 0 st.m && Kt ks st.slots is with
  | true=>J92 r { st with slots:=J8b ks st.slots is,heap:=lent st.heap ks }
  | false=>none
 | .promote i e::r,st=>match look st.slots i with
  | .nil=>J92 r { st with slots:=(i,.own st.heap.length [])::st.slots,heap:=st.heap++[.row e [] true] }
  | _=>none
 | .promoteObj l p::r,st=>match promoteObj st.heap l p with
  | some h'=>J92 r { st with heap:=h' }
  | none=>none
 | .valObj l p::r,st=>match valObj st.heap l p with
  | some h'=>J92 r { st with heap:=h' }
  | none=>none
 | .freeze ids::r,st=>J92 r { st with heap:=freezeIds st.heap ids }
 | .kill ids::r,st=>J92 r { st with heap:=killIds st.heap ids }
 | .move l::r,st=>match moveObj st.heap l with
  | some h'=>J92 r { st with slots:=Jct st.heap.length l st.slots,heap:=h' }
  | none=>none
 | its,st=>some (its,st)
theorem J80:∀ {its its':List It} {st st':St},J92 its st=some (its',st')→Weak st st'
 | [],_,st,_,h=>by simp only [J92] at h; injection h with h; injection h with _ h; subst h; exact Weak.refl _
 | .val i t::r,_,st,_,h=>by
  simp only [J92] at h
  split at h
  ·rename_i x hx; exact Weak.trans (Weak.val hx) (J80 h)
  ·cases h
 | .sel is ks::r,_,st,_,h=>by
  simp only [J92] at h
  split at h
  ·rename_i hx
   simp only [Bool.and_eq_true] at hx
   exact Weak.trans (Weak.sel hx.1.1 hx.1.2 hx.2) (J80 h)
  ·cases h
 | .promote i e::r,_,st,_,h=>by
  simp only [J92] at h
  split at h
  ·rename_i hx; exact Weak.trans (Weak.promote hx) (J80 h)
  ·cases h
 | .freeze ids::r,_,st,_,h=>by
  simp only [J92] at h
  exact Weak.trans (Weak.freeze ids) (J80 h)
 | .kill ids::r,_,st,_,h=>by
  simp only [J92] at h
  exact Weak.trans (Weak.kill ids) (J80 h)
 | .move l::r,_,st,_,h=>by
  simp only [J92] at h
  split at h
  ·rename_i h' hx; exact Weak.trans (Weak.move hx) (J80 h)
  ·cases h
 | .promoteObj l p::r,_,st,_,h=>by
  simp only [J92] at h
  split at h
  ·rename_i h' hx; exact Weak.trans (Weak.promoteObj hx) (J80 h)
  ·cases h
 | .valObj l p::r,_,st,_,h=>by
  simp only [J92] at h
  split at h
  ·rename_i h' hx; exact Weak.trans (Weak.valObj hx) (J80 h)
  ·cases h
 | .br _::_,_,st,_,h=>by simp only [J92] at h; injection h with h; injection h with _ h; subst h; exact Weak.refl _
 | .call _ _ _ _ _ _::_,_,st,_,h=>by simp only [J92] at h; injection h with h; injection h with _ h; subst h; exact Weak.refl _
 | .part _ _::_,_,st,_,h=>by simp only [J92] at h; injection h with h; injection h with _ h; subst h; exact Weak.refl _
 | .pre _::_,_,st,_,h=>by simp only [J92] at h; injection h with h; injection h with _ h; subst h; exact Weak.refl _
 | .asis::_,_,st,_,h=>by simp only [J92] at h; injection h with h; injection h with _ h; subst h; exact Weak.refl _
 | .kept _::_,_,st,_,h=>by simp only [J92] at h; injection h with h; injection h with _ h; subst h; exact Weak.refl _
 | .dive::_,_,st,_,h=>by simp only [J92] at h; injection h with h; injection h with _ h; subst h; exact Weak.refl _
abbrev SR4:=Option (List Prop×List It×Exit×St)
def preS (P:Program) (x:Code) (its:List It) (st:St) (k:List It→St→SR4):SR4:=
 match J92 its st with
 | some (.part o st'::r,st1)=>some ([J6i P x st1 o st'],r,o,st')
 | some (.dive::r,st1)=>k r st1
 | some (its1,st1)=>k its1 st1
 | none=>none
theorem Jjc {x:Code} {its its':List It} {st st':St} {k:List It→St→SR4} {ps:List Prop} {o:Exit} (h:preS P x its st k=some (ps,its',o,st')) (hps:AllP ps)
  (hk:∀ its st,k its st=some (ps,its',o,st')→J6i P x st o st'):J6i P x st o st':=by
 unfold preS at h
 split at h
 ·rename_i o1 st1 r st2 hw
  injection h with h; injection h with e1 e2; injection e2 with e2 e3; injection e3 with e3 e4
  subst e1; subst e3; subst e4
  exact J6i.weak (J80 hw) hps.1
 ·rename_i r st1 hw; exact J6i.weak (J80 hw) (hk _ _ h)
 ·rename_i its1 st1 _ _ hw; exact J6i.weak (J80 hw) (hk _ _ h)
 ·cases h
def uniN (a:List Nat):List Nat→List Nat
 | []=>a
 | x::r=>uniN (bif a.elem x then a else x::a) r
def K1d:List Oper→List (List Nat)→List (List Nat)
 | [],acc=>acc
 | o::r,acc=>K1d r (acc++[o.after.toList.foldl (fun s e=>bif Region.binds .any e then uniN (uniN s [e.on]) (acc.getD e.on []) else s) []])
def autoPT (ops:Array Oper):List (List Nat):=K1d ops.toList []
def isRng:Code→Code→Bool
 | .region _ ops false,.block _ (.loop _)=>match ops.toList.getLast? with
  | some o=>match o.op with
   | .range _ _=>true
   | _=>false
  | none=>false
 | _,_=>false
def evS (P:Program) (T:Tab) (E:List Nat):Code→List It→St→SR4
 | .skip,its,st=>some ([],its,.normal,st)
 | .label l,its,st=>some ([],its,.normal,st)
 | .exit id,its,st=>some ([],its,.exit id,st)
 | .goto l,its,st=>some ([],its,.goto l,st)
 | .ret,its,st=>some ([],its,.ret,st)
 | .region id ops false,its,st=>match Ji4 P T E ops ops.toList its st with
  | some (ps,its',st')=>some (ps,its',.normal,st')
  | none=>none
 | .region id ops true,its,st=>preS P (.region id ops true) its st fun its st=>match its with
  | .pre pt::its=>match Jwg P T E ops (match pt with | []=>autoPT ops | pt=>pt) its st with
   | some (ps,its',st')=>some (ps,its',.normal,st')
   | none=>none
  | _=>none
 | .seq x y,its,st=>match isRng x y with
  | true=>preS P (.seq x y) its st fun its st=>none
  | false=>match evS P T E x its st with
   | some (ps,its1,.normal,st1)=>match evS P T E y its1 st1 with
    | some (qs,its2,o,st2)=>some (ps++qs,its2,o,st2)
    | none=>none
   | some (ps,its1,o,st1)=>some (ps,its1,o,st1)
   | none=>none
 | .cond c x y,its,st=>preS P (.cond c x y) its st fun its st=>match c with
  | .tmp t=>match its with
   | .br b::its=>match look st.slots t with
    | .v .bool z=>match b with
     | true=>match evS P T E x its st with
      | some (ps,its',o,st')=>some (((z:Bool)=true)::ps,its',o,st')
      | none=>none
     | false=>match evS P T E y its st with
      | some (ps,its',o,st')=>some (((z:Bool)=false)::ps,its',o,st')
      | none=>none
    | .anyb=>match evS P T E x its st with
     | some (ps,its1,o1,st1)=>match J92 its1 st1 with
      | some (.asis::its2,st2)=>match evS P T E y its2 st with
       | some (qs,its3,o3,st3)=>match J92 its3 st3 with
        | some (.asis::its4,st4)=>some (((o3,st4)=(o1,st2))::(ps++qs),its4,o1,st2)
        | _=>none
       | none=>none
      | _=>none
     | none=>none
    | _=>none
   | _=>none
  | .const (.bool true)=>evS P T E x its st
  | .const (.bool false)=>evS P T E y its st
  | _=>none
 | .block id x,its,st=>preS P (.block id x) its st fun its st=>match evS P T E x its st with
  | some (ps,its',.normal,st')=>some (ps,its',.normal,st')
  | some (ps,its',.exit k,st')=>match Nat.beq k id with
   | true=>some (ps,its',.normal,st')
   | false=>some (ps,its',.exit k,st')
  | some (ps,its',o,st')=>some (ps,its',o,st')
  | none=>none
 | .loop x,its,st=>preS P (.loop x) its st fun its st=>none
 | _,_,_=>none
theorem Jnx (hT:J78 P T) {E:List Nat} (hE:J83 P T E=true) (hM:P.follows .mixedOrders=true):∀ (x:Code) (its its':List It) (st st':St) (ps:List Prop) (o:Exit),
  evS P T E x its st=some (ps,its',o,st')→AllP ps→J6i P x st o st':=by
 intro x
 induction x with
 | skip=>
  intro its its' st st' ps o h hps
  simp only [evS] at h
  injection h with h; injection h with e1 e2; injection e2 with e2 e3; injection e3 with e3 e4; subst e3; subst e4
  exact J6i.skip _
 | label l=>
  intro its its' st st' ps o h hps
  simp only [evS] at h
  injection h with h; injection h with e1 e2; injection e2 with e2 e3; injection e3 with e3 e4; subst e3; subst e4
  exact J6i.label _ _
 | exit id=>
  intro its its' st st' ps o h hps
  simp only [evS] at h
  injection h with h; injection h with e1 e2; injection e2 with e2 e3; injection e3 with e3 e4; subst e3; subst e4
  exact J6i.exit _ _
 | goto l=>
  intro its its' st st' ps o h hps
  simp only [evS] at h
  injection h with h; injection h with e1 e2; injection e2 with e2 e3; injection e3 with e3 e4; subst e3; subst e4
  exact J6i.goto _ _
 | ret=>
  intro its its' st st' ps o h hps
  simp only [evS] at h
  injection h with h; injection h with e1 e2; injection e2 with e2 e3; injection e3 with e3 e4; subst e3; subst e4
  exact J6i.ret _
 | region id ops dr=>
  intro its its' st st' ps o h hps
  cases dr with
  | false=>
   simp only [evS] at h
   split at h
   ·rename_i ps1 its1 st1 hx
    injection h with h; injection h with e1 e2; injection e2 with e2 e3; injection e3 with e3 e4; subst e1; subst e3; subst e4
    exact J6i.region (Jdd hT hE _ _ _ _ _ _ hx hps)
   ·cases h
  | true=>
   refine Jjc h hps fun its st h=>?_
   split at h
   ·split at h
    ·rename_i ps1 its1 st1 hx
     injection h with h; injection h with e1 e2; injection e2 with e2 e3; injection e3 with e3 e4; subst e1; subst e3; subst e4
     exact Jwh hT hE hM hx hps
    ·cases h
   ·cases h
 | seq x y ihx ihy=>
  intro its its' st st' ps o h hps
  simp only [evS] at h
  split at h
  ·exact Jjc h hps fun its st h=>by cases h
  split at h
  ·rename_i ps1 its1 st1 hx
   split at h
   ·rename_i qs its2 o2 st2 hy
    injection h with h; injection h with e1 e2; injection e2 with e2 e3; injection e3 with e3 e4; subst e1; subst e3; subst e4
    obtain ⟨p1,p2⟩:=AllP.append hps
    exact J6i.seq (ihx _ _ _ _ _ _ hx p1) (ihy _ _ _ _ _ _ hy p2)
   ·cases h
  ·rename_i ps1 its1 o1 st1 hno hx
   injection h with h; injection h with e1 e2; injection e2 with e2 e3; injection e3 with e3 e4; subst e1; subst e3; subst e4
   exact J6i.seq_out (fun e=>by subst e; exact hno rfl) (ihx _ _ _ _ _ _ hx hps)
  ·cases h
 | cond c x y ihx ihy=>
  intro its its' st st' ps o h hps
  refine Jjc h hps fun its st h=>?_
  split at h
  ·rename_i t
   split at h
   ·split at h
    ·rename_i z hz
     split at h
     ·split at h
      ·rename_i ps1 its1 o1 st1 hx
       injection h with h; injection h with e1 e2; injection e2 with e2 e3; injection e3 with e3 e4; subst e1; subst e3; subst e4
       obtain ⟨hzb,hps⟩:=hps
       subst hzb
       exact J6i.cond hz (ihx _ _ _ _ _ _ hx hps)
      ·cases h
     ·split at h
      ·rename_i ps1 its1 o1 st1 hy
       injection h with h; injection h with e1 e2; injection e2 with e2 e3; injection e3 with e3 e4; subst e1; subst e3; subst e4
       obtain ⟨hzb,hps⟩:=hps
       subst hzb
       exact J6i.cond hz (ihy _ _ _ _ _ _ hy hps)
      ·cases h
    ·rename_i hz
     split at h
     ·rename_i ps1 its1 o1 st1 hx
      split at h
      ·rename_i its2 st2 hw1
       split at h
       ·rename_i qs its3 o3 st3 hy
        split at h
        ·rename_i its4 st4 hw2
         injection h with h; injection h with e1 e2; injection e2 with e2 e3; injection e3 with e3 e4; subst e1; subst e3; subst e4
         obtain ⟨heq,hps⟩:=hps
         injection heq with q1 q2; subst q1; subst q2
         obtain ⟨p1,p2⟩:=AllP.append hps
         exact J6i.any hz (J6i.weak_post (ihx _ _ _ _ _ _ hx p1) (J80 hw1)) (J6i.weak_post (ihy _ _ _ _ _ _ hy p2) (J80 hw2))
        ·cases h
       ·cases h
      ·cases h
     ·cases h
    ·cases h
   ·cases h
  ·exact J6i.cond_const (b:=true) (ihx _ _ _ _ _ _ h hps)
  ·exact J6i.cond_const (b:=false) (ihy _ _ _ _ _ _ h hps)
  ·cases h
 | block id x ih=>
  intro its its' st st' ps o h hps
  refine Jjc h hps fun its st h=>?_
  split at h
  ·rename_i ps1 its1 st1 hx
   injection h with h; injection h with e1 e2; injection e2 with e2 e3; injection e3 with e3 e4; subst e1; subst e3; subst e4
   exact J6i.block (ih _ _ _ _ _ _ hx hps)
  ·rename_i ps1 its1 k st1 hx
   split at h
   ·rename_i hk
    have hk:k=id:=by simpa using hk
    injection h with h; injection h with e1 e2; injection e2 with e2 e3; injection e3 with e3 e4; subst e1; subst e3; subst e4
    subst hk
    exact J6i.block_exit (ih _ _ _ _ _ _ hx hps)
   ·rename_i hk
    injection h with h; injection h with e1 e2; injection e2 with e2 e3; injection e3 with e3 e4; subst e1; subst e3; subst e4
    refine J6i.block_out (by simp) (fun e=>?_) (ih _ _ _ _ _ _ hx hps)
    injection e with e; subst e; simp at hk
  ·rename_i ps1 its1 o1 st1 hn he hx
   injection h with h; injection h with e1 e2; injection e2 with e2 e3; injection e3 with e3 e4; subst e1; subst e3; subst e4
   exact J6i.block_out (fun e=>by subst e; exact hn rfl) (fun e=>by subst e; exact he _ rfl) (ih _ _ _ _ _ _ hx hps)
  ·cases h
 | loop x ih=>
  intro its its' st st' ps o h hps
  exact Jjc h hps fun its st h=>by cases h
 | _=>intro its its' st st' ps o h; simp [evS] at h
theorem J6i.scope {c:Code} {st st':St} {o:Exit} (ho:∀ l,o≠.goto l) (h:J6i P c st o st'):J6i P (.scope c) st o st':=
 fun cx a w hs=>wp_scope_straight (Code.wp_mono (by
  rintro e a w ⟨rfl,hs⟩
  cases e with
  | goto l=>exact absurd rfl (ho l)
  | _=>exact ⟨rfl,hs⟩) (h cx a w hs))
theorem J6i.scopeJump {c rest:Code} {l:Nat} {st st1 st':St} {o:Exit} (hf:findLabel c l=some rest) (h1:J6i P c st (.goto l) st1) (ho:∀ l,o≠.goto l) (h2:J6i P rest st1 o st'):J6i P (.scope c) st o st':=
 fun cx a w hs=>wp_scope_jumps l (fun a w=>SR cx st1 a w) (fun _ _=>0) hf (Code.wp_mono (by rintro e a w ⟨rfl,hs⟩; exact ⟨rfl,hs⟩) (h1 cx a w hs))
  (fun a w hJ=>Code.wp_mono (by
   rintro e a w ⟨rfl,hs⟩
   cases e with
   | goto l=>exact absurd rfl (ho l)
   | _=>exact ⟨rfl,hs⟩) (h2 cx a w hJ))
def K1p:Exit→Bool
 | .goto _=>true
 | _=>false
theorem K06 {o:Exit} (h:K1p o=false):∀ l,o≠.goto l:=by rintro l rfl; cases h
def evF0 (P:Program) (T:Tab) (E:List Nat) (x:Code) (its:List It) (st:St):Option (List Prop×Exit×St):=
 match evS P T E x its st with
 | some (ps,its',o,st1)=>match J92 its' st1 with
  | some ([],st')=>some (ps,o,st')
  | _=>none
 | none=>none
def Jwi (P:Program) (T:Tab) (E:List Nat) (r0 c:Code) (its:List It) (st:St):Option (List Prop×Exit×St):=
 match evS P T E r0 its st with
 | some (ps,its1,.normal,st1)=>match evS P T E c its1 st1 with
  | some (qs,its2,o,st2)=>match o with
   | .goto l=>match findLabel c l with
    | some rest=>match evF0 P T E rest its2 st2 with
     | some (rs,o',st3)=>match K1p o' with
      | false=>some (ps++(qs++rs),o',st3)
      | true=>none
     | none=>none
    | none=>none
   | o=>match J92 its2 st2 with
    | some ([],st')=>some (ps++qs,o,st')
    | _=>none
  | none=>none
 | _=>none
def evF (P:Program) (T:Tab) (E:List Nat) (x:Code) (its:List It) (st:St):Option (List Prop×Exit×St):=
 match x with
 | .seq r0 (.scope c)=>Jwi P T E r0 c its st
 | x=>evF0 P T E x its st
structure Env (P:Program) (T:Tab) (E:List Nat):Prop where
 tab:J78 P T
 eq:J83 P T E=true
 mix:P.follows .mixedOrders=true
theorem Env.code0 {E:List Nat} (v:Env P T E) {x:Code} {its:List It} {st st':St} {ps:List Prop} {o:Exit} (hps:AllP ps) (h:evF0 P T E x its st=some (ps,o,st')):J6i P x st o st':=by
 unfold evF0 at h
 split at h
 ·rename_i ps1 its' o1 st1 hx
  split at h
  ·rename_i st2 hw
   injection h with h; injection h with e1 e2; injection e2 with e2 e3; subst e1; subst e2; subst e3
   exact J6i.weak_post (Jnx v.tab v.eq v.mix _ _ _ _ _ _ _ hx hps) (J80 hw)
  ·cases h
 ·cases h
theorem Env.code {E:List Nat} (v:Env P T E) {x:Code} {its:List It} {st st':St} {ps:List Prop} {o:Exit} (hps:AllP ps) (h:evF P T E x its st=some (ps,o,st')):J6i P x st o st':=by
 unfold evF at h
 split at h
 ·rename_i r0 c
  unfold Jwi at h
  split at h
  ·rename_i ps1 its1 st1 h1
   split at h
   ·rename_i qs its2 o2 st2 h2
    split at h
    ·rename_i l
     split at h
     ·rename_i rest hf
      split at h
      ·rename_i rs o3 st3 h3
       split at h
       ·rename_i hg
        injection h with h; injection h with e1 e2; injection e2 with e2 e3; subst e1; subst e2; subst e3
        obtain ⟨p1,p2⟩:=AllP.append hps
        obtain ⟨p2,p3⟩:=AllP.append p2
        exact J6i.seq (Jnx v.tab v.eq v.mix _ _ _ _ _ _ _ h1 p1) (J6i.scopeJump hf (Jnx v.tab v.eq v.mix _ _ _ _ _ _ _ h2 p2) (K06 hg) (v.code0 p3 h3))
       ·cases h
      ·cases h
     ·cases h
    ·rename_i hno
     split at h
     ·rename_i st' hw
      injection h with h; injection h with e1 e2; injection e2 with e2 e3; subst e1; subst e2; subst e3
      obtain ⟨p1,p2⟩:=AllP.append hps
      refine J6i.seq (Jnx v.tab v.eq v.mix _ _ _ _ _ _ _ h1 p1) (J6i.weak_post (J6i.scope (fun l e=>hno l e) (Jnx v.tab v.eq v.mix _ _ _ _ _ _ _ h2 p2)) (J80 hw))
     ·cases h
   ·cases h
  ·cases h
 ·exact v.code0 hps h
end Go.Ax

namespace Go.Ax
set_option linter.unusedVariables false
set_option linter.unusedSimpArgs false
variable {P : Program} {T : Tab}
def Jt0 (T:Tab) (st:St):ResultVar→Option Slot
 | .tmp t=>some (look st.slots t)
 | .cell a t=>match T.ty t with
  | some ty=>match look st.slots a with
   | .ptr l p=>if (J6q st.heap l).lay.at p=some ty∧(J6q st.heap l).isDead=false then some ((J6q st.heap l).slot.get p) else none
   | _=>none
  | none=>none
def Jp9 (T:Tab) (st:St):List ResultVar→Option (List Slot)
 | []=>some []
 | r::rs=>match Jt0 T st r,Jp9 T st rs with
  | some s,some ss=>some (s::ss)
  | _,_=>none
def Jqz (T:Tab) (st:St) (rs:List ResultVar):Option Slot:=
 match Jp9 T st rs with
 | some [s]=>some s
 | some ss=>match ss.all (fun s=>!Kv s) with
  | true=>some (tups ss)
  | false=>none
 | none=>none
theorem Jyd (hT:J78 P T) {st:St} {c:Ctx} {G:List GE} {a:Act} {w:World} (hs:SRG c G st a w) {r:ResultVar} {s:Slot} (h:Jt0 T st r=some s) :
  ∃ v,(match r with | .tmp t=>(pure (a.tmps.getD t undef):Sem Value) | .cell b t=>do loadVar t (← asAddr (a.tmps.getD b undef))).run P w=.ok v w∧TRel G w (okB c G st.heap w) s v:=by
 cases r with
 | tmp t=>simp only [Jt0] at h; injection h with h; subst h; exact ⟨_,rfl,hs.slots t⟩
 | cell b t=>
  simp only [Jt0] at h
  split at h
  ·rename_i ty hty
   split at h
   ·rename_i l p hx
    split at h
    ·rename_i hc
     injection h with h; subst h
     have hv:=hs.slots b
     rw [hx] at hv
     obtain ⟨by_,hg⟩:=Tab.ty_get hty
     obtain ⟨g,bb,off,cs,U,hgg,hb,hpk,hheap,hp,hrel,hle,hlay,_⟩:=J9r hs.toHRG (Ja1 hc.2) hc.1 hc.2 hv
     have hpl:=POff.le hp
     have h1:=Slot.get_ok hrel hp
     rw [J9n hpl] at h1
     have hrun:=Jc8 (P:=P) (hT _ _ _ hg) (J6y.len _ h1) (Jen (o:=off) hheap)
     refine ⟨_,?_,TRel.of h1⟩
     simp [hpk,asAddr,hrun]
    ·cases h
   ·cases h
  ·cases h
theorem Jjg (hT:J78 P T) {st:St} {c:Ctx} {G:List GE} {a:Act} {w:World} (hs:SRG c G st a w):∀ {rs:List ResultVar} {ss:List Slot},Jp9 T st rs=some ss→
  ∃ vs,(rs.mapM fun (r:ResultVar)=>(match r with | .tmp t=>(pure (a.tmps.getD t undef):Sem Value) | .cell b t=>do loadVar t (← asAddr (a.tmps.getD b undef)))).run P w=.ok vs w∧ARel G w (okB c G st.heap w) ss vs
 | [],ss,h=>by
  simp only [Jp9] at h; injection h with h; subst h
  exact ⟨[],by simp,rfl,fun i s v h=>by simp at h⟩
 | r::rs,ss,h=>by
  simp only [Jp9] at h
  split at h
  ·rename_i s ss' h1 h2
   injection h with h; subst h
   obtain ⟨v,hv1,hv2⟩:=Jyd hT hs h1
   obtain ⟨vs,hvs1,hvs2⟩:=Jjg hT hs h2
   refine ⟨v::vs,?_,by simp [hvs2.1],fun i s' v' e1 e2=>?_⟩
   ·rw [List.mapM_cons]
    simp only [Sem.run_bind,hv1,Result.andThen_ok,hvs1,Sem.run_pure]
   ·cases i with
    | zero=>simp at e1 e2; subst e1; subst e2; exact hv2
    | succ i=>exact hvs2.2 i s' v' (by simpa using e1) (by simpa using e2)
  ·cases h
theorem Jmt (hT:J78 P T) {fn:Func} {st:St} {s:Slot} (h:Jqz T st fn.results.toList=some s):ResOK P fn st s:=by
 intro c G a w hs
 have hrun:∀ vs,(fn.results.toList.mapM fun (r:ResultVar)=>(match r with | .tmp t=>(pure (a.tmps.getD t undef):Sem Value) | .cell b t=>do loadVar t (← asAddr (a.tmps.getD b undef)))).run P w=.ok vs w→
   (results fn a.tmps).run P w=.ok (if h:vs.length=1 then vs[0] else .tuple vs.toArray) w:=by
  intro vs hvs
  unfold results
  simp only [Array.mapM_eq_mapM_toList,Sem.run_bind]
  rw [map_eq_pure_bind]
  simp only [Sem.run_bind,Sem.run_pure]
  refine (congrArg (fun z=>(Result.andThen z (fun (a:List Value) w'=>Result.ok a.toArray w')).andThen (fun (a:Array Value) w'=>Result.ok (if h:a.size=1 then a[0] else Value.tuple a) w')) hvs).trans ?_
  simp only [Result.andThen_ok,List.size_toArray,List.getElem_toArray]
 unfold Jqz at h
 split at h
 ·rename_i s1 hr
  injection h with h; subst h
  obtain ⟨vs,h1,h2⟩:=Jjg hT hs hr
  have hl:vs.length=1:=by have:=h2.1; simpa using this.symm
  have:=hrun vs h1
  rw [dif_pos hl] at this
  refine ⟨_,this,h2.2 0 s1 _ rfl ?_⟩
  exact List.getElem?_eq_getElem _
 ·rename_i ss hns hr
  split at h
  ·rename_i hall
   injection h with h; subst h
   obtain ⟨vs,h1,h2⟩:=Jjg hT hs hr
   have hl:¬ vs.length=1:=by
    intro hl
    have:=h2.1
    rw [hl] at this
    match ss,this with
    | [x],_=>exact hns x rfl
   have:=hrun vs h1
   rw [dif_neg hl] at this
   refine ⟨_,this,?_⟩
   have hL:=Jn9 hall h2
   cases ss with
   | nil=>
    have:vs=[]:=List.eq_nil_of_length_eq_zero (by simpa using h2.1.symm)
    subst this; rfl
   | cons x r=>exact ⟨vs,rfl,hL⟩
  ·cases h
 ·cases h
inductive Po where
 | sel (ks:List Nat)
 | val (t:Ty)
 | vals (t:Ty) (ts:List Ty)
 | promote (e:Ty)
 | promoteObj (l:Nat) (p:List Step)
 | valObj (l:Nat) (p:List Step)
 | freeze (ids:List Nat)
 | kill (ids:List Nat)
 | move (l:Nat)
def Ja3 (m:Nat):List Po→Slot→List AObj→Option (Slot×List AObj)
 | [],r,h=>some (r,h)
 | .sel ks::ps,r,h=>match J8g h ks && Jao ks 0 m && r.ids.all (J7h ks) with
  | true=>Ja3 m ps (r.ren (posF ks)) (lent h ks)
  | false=>none
 | .val t::ps,r,h=>match J7o h t r with
  | some x=>Ja3 m ps (.v t x) (freezeIds h r.ids)
  | none=>none
 | .vals t ts::ps,r,h=>match valTup h (t::ts) r with
  | some r'=>Ja3 m ps r' (freezeIds h r.ids)
  | none=>none
 | .promote e::ps,r,h=>match r with
  | .nil=>Ja3 m ps (.own h.length []) (h++[AObj.row e [] true])
  | _=>none
 | .promoteObj l p::ps,r,h=>match promoteObj h l p with
  | some h'=>Ja3 m ps r h'
  | none=>none
 | .valObj l p::ps,r,h=>match valObj h l p with
  | some h'=>Ja3 m ps r h'
  | none=>none
 | .freeze ids::ps,r,h=>Ja3 m ps r (freezeIds h ids)
 | .kill ids::ps,r,h=>Ja3 m ps r (killIds h ids)
 | .move l::ps,r,h=>match moveObj h l with
  | some h'=>Ja3 m ps (r.ren (Jbe h.length l)) h'
  | none=>none
theorem J8q {m:Nat}:∀ {ps:List Po} {r r':Slot} {h h':List AObj},Ja3 m ps r h=some (r',h')→J6x m r h r' h'
 | [],r,r',h,h',he=>by simp only [Ja3] at he; injection he with he; injection he with e1 e2; subst e1; subst e2; exact J6x.refl _ _ _
 | .sel ks::ps,r,r',h,h',he=>by
  simp only [Ja3] at he
  split at he
  ·rename_i hb
   simp only [Bool.and_eq_true] at hb
   exact J6x.trans (J6x.sel hb.1.1 hb.1.2 hb.2) (J8q he)
  ·cases he
 | .val t::ps,r,r',h,h',he=>by
  simp only [Ja3] at he
  split at he
  ·rename_i x hx; exact J6x.trans (J6x.val hx) (J8q he)
  ·cases he
 | .vals t ts::ps,r,r',h,h',he=>by
  simp only [Ja3] at he
  split at he
  ·rename_i x hx; exact J6x.trans (J6x.valTup hx) (J8q he)
  ·cases he
 | .promote e::ps,r,r',h,h',he=>by
  simp only [Ja3] at he
  split at he
  ·exact J6x.trans (J6x.promote e) (J8q he)
  ·cases he
 | .freeze ids::ps,r,r',h,h',he=>by
  simp only [Ja3] at he
  exact J6x.trans (J6x.freeze ids) (J8q he)
 | .kill ids::ps,r,r',h,h',he=>by
  simp only [Ja3] at he
  exact J6x.trans (J6x.kill ids) (J8q he)
 | .move l::ps,r,r',h,h',he=>by
  simp only [Ja3] at he
  split at he
  ·rename_i h1 hx; exact J6x.trans (J6x.move hx) (J8q he)
  ·cases he
 | .promoteObj l p::ps,r,r',h,h',he=>by
  simp only [Ja3] at he
  split at he
  ·rename_i h1 hx; exact J6x.trans (J6x.promoteObj hx) (J8q he)
  ·cases he
 | .valObj l p::ps,r,r',h,h',he=>by
  simp only [Ja3] at he
  split at he
  ·rename_i h1 hx; exact J6x.trans (J6x.valObj hx) (J8q he)
  ·cases he
def isEnd:Exit→Bool
 | .normal=>true
 | .ret=>true
 | _=>false
def Jtz (P:Program) (T:Tab) (E:List Nat) (fn:Func) (its:List It) (pos:List Po) (az:List Slot) (objs:List AObj):Option (List Prop×Slot×List AObj):=
 match fn.body with
 | some code=>match Nat.ble az.length fn.ntmps,evF P T E code its (entry fn az objs) with
  | true,some (ps,o,st1)=>match isEnd o,Jqz T st1 fn.results.toList with
   | true,some r=>match Ja3 objs.length pos r st1.heap with
    | some (ret,objs')=>some (ps,ret,objs')
    | none=>none
   | _,_=>none
  | _,_=>none
 | none=>none
theorem Env.fun {E:List Nat} (v:Env P T E) {f:FuncId} {fn:Func} (hf:P.funcs[f]?=some fn) (hc:Ja0 P f) {its:List It} {pos:List Po} {az:List Slot} {objs objs':List AObj} {ret:Slot} {ps:List Prop}
  (hps:AllP ps) (h:Jtz P T E fn its pos az objs=some (ps,ret,objs')):CallC P f az objs ret objs':=by
 unfold Jtz at h
 split at h
 ·rename_i code hb
  split at h
  ·rename_i ps1 o st1 hn hev
   split at h
   ·rename_i r ho hr
    split at h
    ·rename_i ret1 objs1 hpo
     injection h with h; injection h with e1 e2; injection e2 with e2 e3; subst e1; subst e2; subst e3
     refine .mk hc (Jhn.body hf hb (Nat.le_of_ble_eq_true hn) (v.code hps hev) ?_ (Jmt v.tab hr) (J8q hpo))
     cases o <;> first | exact .inl rfl | exact .inr rfl | cases ho
    ·cases h
   ·cases h
  ·cases h
 ·cases h
theorem J6i.anyRet {r1 x z:Code} {t:Nat} {st st1 st2:St} (h1:J6i P r1 st .normal st1) (ht:look st1.slots t=.anyb) (hx:J6i P x st1 .ret st2) (hz:J6i P z st1 .ret st2) :
  J6i P (.seq (.seq r1 (.cond (.tmp t) x .skip)) z) st .ret st2:=by
 intro c a w hs
 refine wp_seq (wp_seq (Code.wp_mono ?_ (h1 c a w hs)))
 rintro e a w ⟨rfl,hs⟩
 obtain ⟨G,hs'⟩:=id hs
 have hv:=hs'.slots t
 rw [ht] at hv
 obtain ⟨ty,cs,⟨rfl,b,rfl⟩,e⟩:=hv
 have e:a.tmps.getD t undef=.bool b:=e
 refine wp_cond (t:=b) ?_ ?_
 ·simp only [Act.eval]; exact e
 ·cases b
  ·exact wp_skip (hz c a w hs)
  ·exact Code.wp_mono (by rintro e a w ⟨rfl,h⟩; exact ⟨rfl,h⟩) (hx c a w hs)
theorem Env.funAny {E:List Nat} (v:Env P T E) {f:FuncId} {fn:Func} {r0 r1 x z:Code} {t:Nat} (hf:P.funcs[f]?=some fn) (hc:Ja0 P f) {i0 i1 i2 i3:List It} {pos:List Po} {az:List Slot} {objs objs':List AObj}
  {ret r:Slot} {st1 st2 st3:St} {qs:List Prop} (hb:fn.body=some (.seq r0 (.seq (.seq r1 (.cond (.tmp t) x .skip)) z))) (hn:Nat.ble az.length fn.ntmps=true)
  (h0:evF P T E r0 i0 (entry fn az objs)=some ([],.normal,st1)) (h1:evF P T E r1 i1 st1=some ([],.normal,st2)) (ht:look st2.slots t=.anyb)
  (h2:evF P T E x i2 st2=some ([],.ret,st3)) (hq:AllP qs) (h3:evF P T E z i3 st2=some (qs,.ret,st3)) (hr:Jqz T st3 fn.results.toList=some r)
  (hp:Ja3 objs.length pos r st3.heap=some (ret,objs')):CallC P f az objs ret objs':=
 .mk hc (Jhn.body hf hb (Nat.le_of_ble_eq_true hn) (J6i.seq (v.code (ps:=[]) trivial h0) (J6i.anyRet (v.code (ps:=[]) trivial h1) ht (v.code (ps:=[]) trivial h2) (v.code hq h3))) (.inr rfl) (Jmt v.tab hr) (J8q hp))
def Jdq {σ ρ:Type} (step:σ→Option (σ⊕ρ)):Nat→σ→Option ρ
 | 0,_=>none
 | n+1,s=>match step s with
  | none=>none
  | some (.inl s')=>Jdq step n s'
  | some (.inr r)=>some r
theorem Jkt {σ ρ:Type} {step:σ→Option (σ⊕ρ)} {r:ρ}:∀ {n:Nat} {s:σ},Jdq step n s=some r→Jdq step (n+1) s=some r
 | 0,s,h=>by cases h
 | n+1,s,h=>by
  rw [Jdq] at h ⊢
  split at h
  ·cases h
  ·rename_i s' hs; exact Jkt h
  ·exact h
theorem Jsf {σ ρ:Type} {step:σ→Option (σ⊕ρ)} {r:ρ} {n m:Nat} (h:n≤m) {s:σ} (hr:Jdq step n s=some r):Jdq step m s=some r:=by
 induction h with
 | refl=>exact hr
 | step _ ih=>exact Jkt ih
open Classical in
noncomputable def loop {σ ρ:Type} (step:σ→Option (σ⊕ρ)) (s:σ):Option ρ:=
 if h:∃ n,(Jdq step n s).isSome then Jdq step h.choose s else none
theorem Jbd {σ ρ:Type} {step:σ→Option (σ⊕ρ)} {s:σ} {r:ρ}:loop step s=some r↔∃ n,Jdq step n s=some r:=by
 unfold loop
 constructor
 ·intro h
  split at h
  ·exact ⟨_,h⟩
  ·cases h
 ·rintro ⟨n,hn⟩
  have he:∃ n,(Jdq step n s).isSome:=⟨n,by rw [hn]; rfl⟩
  rw [dif_pos he]
  have hc:=he.choose_spec
  cases hx:Jdq step he.choose s with
  | none=>rw [hx] at hc; cases hc
  | some r'=>
   have h1:=Jsf (Nat.le_max_left n he.choose) hn
   have h2:=Jsf (Nat.le_max_right n he.choose) hx
   rw [h1] at h2; injection h2 with h2; rw [h2]
theorem J71 {σ ρ:Type} {step:σ→Option (σ⊕ρ)} {s:σ} {r:ρ} (h:step s=some (.inr r)):loop step s=some r:=
 Jbd.2 ⟨1,by rw [Jdq,h]⟩
theorem J79 {σ ρ:Type} {step:σ→Option (σ⊕ρ)} {s s':σ} (h:step s=some (.inl s')):loop step s=loop step s':=by
 cases hr:loop step s' with
 | some r=>
  obtain ⟨n,hn⟩:=Jbd.1 hr
  exact Jbd.2 ⟨n+1,by rw [Jdq,h]; exact hn⟩
 | none=>
  cases hq:loop step s with
  | none=>rfl
  | some r=>
   obtain ⟨n,hn⟩:=Jbd.1 hq
   cases n with
   | zero=>cases hn
   | succ n=>
    rw [Jdq,h] at hn
    have:=Jbd.2 ⟨n,hn⟩
    rw [hr] at this; cases this
theorem J9x.of_step {x:Code} {σ ρ:Type} {step:σ→Option (σ⊕ρ)} {st:σ→St} {ex:ρ→Exit} {stO:ρ→St} (hnext:∀ s s',step s=some (.inl s')→J6i P x (st s) .normal (st s'))
  (hout:∀ s r,step s=some (.inr r)→ex r≠.normal∧J6i P x (st s) (ex r) (stO r)):∀ (s:σ) (r:ρ),loop step s=some r→J6i P (.loop x) (st s) (ex r) (stO r):=by
 have main:∀ (n:Nat) (s:σ) (r:ρ),Jdq step n s=some r→J9x P x (st s) (ex r) (stO r):=by
  intro n
  induction n with
  | zero=>intro s r h; cases h
  | succ n ih=>
   intro s r h
   rw [Jdq] at h
   split at h
   ·cases h
   ·rename_i s' hs; exact J9x.next (hnext s s' hs) (ih s' r h)
   ·rename_i r' hs
    injection h with h; subst h
    exact J9x.out (hout s r' hs).1 (hout s r' hs).2
 intro s r h
 obtain ⟨n,hn⟩:=Jbd.1 h
 exact J6i.loop (main n s r hn)
def CanF (P:Program) (f:FuncId) (fn:Func):Prop:=P.funcs[f]?=some fn∧Ja0 P f
theorem Env.fn {E:List Nat} (v:Env P T E) {f:FuncId} {fn:Func} (c:CanF P f fn) (its:List It) (pos:List Po) {az:List Slot} {objs objs':List AObj} {ret:Slot} {ps:List Prop}
  (hps:AllP ps) (h:Jtz P T E fn its pos az objs=some (ps,ret,objs'):=by kernel_rfl):CallC P f az objs ret objs':=v.fun c.1 c.2 hps h
theorem Env.cd {E:List Nat} (v:Env P T E) {x:Code} (its:List It) {st st':St} {ps:List Prop} {o:Exit} (hps:AllP ps) (h:evF P T E x its st=some (ps,o,st'):=by kernel_rfl):J6i P x st o st':=v.code hps h
def Jds {σ ρ:Type} (P:Program) (x:Code) (s:σ) (r:σ⊕ρ) (st:σ→St) (ex:ρ→Exit) (stO:ρ→St):Prop:=
 match r with
 | .inl s'=>J6i P x (st s) .normal (st s')
 | .inr o=>ex o≠.normal∧J6i P x (st s) (ex o) (stO o)
theorem Jds.next {σ ρ:Type} {x:Code} {s s':σ} {st:σ→St} {ex:ρ→Exit} {stO:ρ→St} (h:J6i P x (st s) .normal (st s')):Jds P x s (.inl s') st ex stO:=h
theorem Jds.out {σ ρ:Type} {x:Code} {s:σ} {o:ρ} {st:σ→St} {ex:ρ→Exit} {stO:ρ→St} (h1:ex o≠.normal) (h:J6i P x (st s) (ex o) (stO o)):Jds P x s (.inr o) st ex stO:=⟨h1,h⟩
theorem J9x.of_stepR {x:Code} {σ ρ:Type} {step:σ→Option (σ⊕ρ)} {st:σ→St} {ex:ρ→Exit} {stO:ρ→St} (h:∀ (s:σ) (r:σ⊕ρ),step s=some r→Jds P x s r st ex stO) :
  ∀ (s:σ) (r:ρ),loop step s=some r→J6i P (.loop x) (st s) (ex r) (stO r):=
 J9x.of_step (fun s s' hs=>h s (.inl s') hs) (fun s r hs=>h s (.inr r) hs)
def need {α:Type} (c:Prop) [Decidable c] (k:Option α):Option α:=if c then k else none
theorem Jj0 {α:Type} {c:Prop} [Decidable c] {k:Option α} {r:α} (h:need c k=some r):c∧k=some r:=by
 unfold need at h
 split at h
 ·rename_i hc; exact ⟨hc,h⟩
 ·cases h
theorem J6g {α:Type} {c:Prop} [Decidable c] {k:Option α} (h:c):need c k=k:=by unfold need; rw [if_pos h]
def fork {α:Type} (b:Bool) (x y:Option α):Option α:=match b with | true=>x | false=>y
theorem Jwt {α:Type} {b:Bool} {x y:Option α} {r:α} (h:fork b x y=some r):(b=true∧x=some r)∨(b=false∧y=some r):=by
 cases b with
 | true=>exact .inl ⟨rfl,h⟩
 | false=>exact .inr ⟨rfl,h⟩
def andThen {α β:Type} (x:Option α) (k:α→Option β):Option β:=match x with | some a=>k a | none=>none
theorem andThen_ok {α β:Type} {x:Option α} {k:α→Option β} {r:β} (h:andThen x k=some r) {C:α→Prop} (f:∀ {a:α},x=some a→C a):∃ a,C a∧k a=some r:=by
 cases x with
 | none=>cases h
 | some a=>exact ⟨a,f rfl,h⟩
end Go.Ax
namespace Go.Ax
def J6l:Code→List Nat→Code
 | x,[]=>x
 | .seq x y,i::r=>match i with | 0=>J6l x r | _=>J6l y r
 | .cond _ x y,i::r=>match i with | 0=>J6l x r | _=>J6l y r
 | .block _ x,_::r=>J6l x r
 | .loop x,_::r=>J6l x r
 | .scope x,_::r=>J6l x r
 | _,_=>.skip
def J6u (f:Func):Code:=match f.body with | some x=>x | none=>.skip
end Go.Ax

namespace Go.Ax
set_option linter.unusedVariables false
set_option linter.unusedSimpArgs false
variable {P : Program} {T : Tab}
def outer (W:World):Ctx:={ A:=fun _=>True,E:=fun _=>False,L:=fun _=>False,w0:=W,G0:=[] }
theorem Jxv (W:World):HRG (outer W) [] [] W where
 EA _ h:=h.elim
 len:=rfl
 inj:=by intro l l' g g' o o' b h; simp at h
 inE:=by intro l o g b h; simp at h
 inL:=by rintro b ⟨l,o,g,h,_⟩; simp at h
 frame _ _ _:=rfl
 big:=Nat.le_refl _
 os:=rfl
 tape:=rfl
 output:=rfl
 objs:=by intro l o g h; simp at h
def okW (W:World) (b:Nat):Prop:=b < W.heap.size
theorem Jxs (W:World):okB (outer W) [] [] W=okW W:=by
 funext b
 simp only [okB,okW,outer,eq_iff_iff]
 refine ⟨fun h=>h.1,fun h=>⟨h,fun _=>trivial,?_⟩⟩
 rintro ⟨l,o,g,h,_⟩; simp at h
theorem CallC.law {f:FuncId} {az:List Slot} (h:CallC P f az [] (.v .bool true) []) (hc:Ja0 P f) {W:World} {vs:List Value} (ha:ARel [] W (okW W) az vs) :
  Calls P f vs.toArray W fun e w'=>e=.returned (.bool true)∧RowKit.Below W.heap.size W w':=by
 rcases h with ⟨_,h⟩ | ⟨fn,e,he,_,_⟩
 case ext=>
  obtain ⟨fn',h1,_,h2⟩:=hc
  have:=he.at_.symm.trans h1
  injection this with this; subst this
  rw [he.no] at h2; cases h2
 refine Calls.mono (h (outer W) [] vs (Jxv W) rfl (by show ARel [] W (okB (outer W) [] [] W) az vs; rw [Jxs]; exact ha)) ?_
 rintro e w' ⟨v,G',rfl,hh,hv,_⟩
 have hv:=Jhr hv
 subst hv
 exact ⟨rfl,hh.os,hh.tape,hh.output,hh.big,fun k hk=>hh.frame k hk (fun h=>h)⟩
end Go.Ax

namespace Go.Ax
set_option linter.unusedVariables false
set_option linter.unusedSimpArgs false
variable {P : Program} {T : Tab}
def Jd6:Ty→Nat
 | .int .u8=>1
 | .int .i8=>1
 | .int .u16=>2
 | .int .i16=>2
 | .int .u32=>4
 | .int .i32=>4
 | .int _=>8
 | .bool=>1
 | .str=>16
 | .slice _=>24
 | .arr n e=>n * Jd6 e
 | .fld a r=>Jd6 a+Jd6 r
 | _=>0
def Jk5:Tab→Bool
 | []=>true
 | (_,ty,b)::r=>Nat.ble (Jd6 ty) b && Jk5 r
theorem Jk6:∀ {T:Tab} {t:Nat} {ty:Ty} {b:Nat},Jk5 T=true→T.get t=some (ty,b)→Jd6 ty≤b
 | [],_,_,_,_,h=>by simp [Tab.get] at h
 | (t',ty',b')::r,t,ty,b,hb,h=>by
  simp only [Jk5,Bool.and_eq_true] at hb
  rw [Tab.get] at h
  by_cases e:t'=t
  ·subst e
   simp only [Nat.beq_refl,cond_true,Option.some.injEq,Prod.mk.injEq] at h
   obtain ⟨rfl,rfl⟩:=h
   exact Nat.le_of_ble_eq_true hb.1
  ·have:Nat.beq t' t=false:=by rw [← Bool.not_eq_true,Nat.beq_eq]; exact e
   rw [this,cond_false] at h
   exact Jk6 hb.2 h
def WfI:(k:IntKind)→IK k→Prop
 | .i64,x=>(-9223372036854775808:Int)≤x∧(x:Int)≤9223372036854775807
 | _,_=>True
def Wf:(t:Ty)→t.den→Prop
 | .int k,x=>WfI k x
 | .str,x=>List.length x≤140737488351232
 | .arr n e,xs=>List.length xs=n∧∀ y ∈ (show List e.den from xs),Wf e y
 | .slice e,xs=>List.length xs * Jd6 e≤140737488351232∧∀ y ∈ (show List e.den from xs),Wf e y
 | .fld a r,x=>Wf a x.1∧Wf r x.2
 | _,_=>True
def Jav:Ty→Bool
 | .int _=>true
 | .bool=>true
 | .str=>true
 | .arr _ e=>Jav e
 | .slice e=>Jav e && Nat.ble 1 e.size
 | .unit=>true
 | .fld a r=>Jav a && Jav r
 | _=>false
theorem IK.toInt_ofInt {k:IntKind} {n:Int} (h:(Lit.int k n).wf=true):IK.toInt k (IK.ofInt k n)=n∧WfI k (IK.ofInt k n):=by
 simp only [Lit.wf,Bool.and_eq_true,decide_eq_true_eq] at h
 cases k <;> simp only [IntKind.min,IntKind.max,IntKind.bits,IntKind.signed] at h <;> simp only [IK.toInt,IK.ofInt,WfI,and_true,true_and]
 all_goals (try simp at h ⊢)
 all_goals omega
theorem Jns {w:World} {base:Nat} {a:Addr} {n:Nat} {cs:List Value} (h:w.cells? base a n=some cs):cs.length=n∧∀ j,j < n→w.cell? (a.add j)=cs[j]?:=by
 unfold World.cells? at h
 split at h
 ·exact ⟨by simpa using mapM_some_length h,fun j hj=>mapM_some_get h j j (by simp [hj])⟩
 ·cases h
theorem Jir {α:Type} (z:α) {Q:Nat→α→Prop} {n:Nat} (h:∀ i,i < n→∃ x,Q i x):∃ xs:List α,xs.length=n∧∀ i x,xs[i]?=some x→Q i x:=by
 induction n with
 | zero=>exact ⟨[],rfl,fun i x e=>by simp at e⟩
 | succ n ih=>
  obtain ⟨xs,hl,hq⟩:=ih fun i hi=>h i (by omega)
  obtain ⟨y,hy⟩:=h n (by omega)
  refine ⟨xs++[y],by simp [hl],fun i x e=>?_⟩
  by_cases hi:i < xs.length
  ·rw [List.getElem?_append_left hi] at e; exact hq i x e
  ·rw [List.getElem?_append_right (by omega)] at e
   have:i - xs.length=0:=by
    cases hk:i - xs.length with
    | zero=>rfl
    | succ k=>rw [hk] at e; simp at e
   rw [this] at e; simp at e; subst e
   have:i=n:=by omega
   subst this; exact hy
theorem K1a {α:Type} {R:List Value→α→Prop} {sz:Nat}:∀ {xs:List α} {cs:List Value},cs.length=xs.length * sz→(∀ i x,xs[i]?=some x→R ((cs.drop (i * sz)).take sz) x)→Cat R cs xs
 | [],cs,hl,_=>by simp at hl; exact List.eq_nil_of_length_eq_zero (by simpa using hl)
 | x::xs,cs,hl,h=>by
  simp only [List.length_cons,Nat.add_mul,Nat.one_mul] at hl
  refine ⟨cs.take sz,cs.drop sz,(List.take_append_drop sz cs).symm,by simpa using h 0 x rfl,K1a (sz:=sz) (by rw [List.length_drop]; omega) fun i y hy=>?_⟩
  have:=h (i+1) y (by simpa using hy)
  rw [Nat.add_mul,Nat.one_mul,Nat.add_comm,← List.drop_drop] at this
  exact this
theorem Jei {H:Type} {e:TypeId}:∀ {ds:List (DataW H)} {d:DataW H},d ∈ ds→∀ n ∈ d.weights P e,n ∈ DataW.weightsAll P e ds
 | x::r,d,h,n,hn=>by
  simp only [DataW.weightsAll,List.mem_append]
  rcases List.mem_cons.1 h with rfl | h
  ·exact .inl hn
  ·exact .inr (Jei h n hn)
theorem Jb7 (hT:J78 P T) {t:Nat} {ty:Ty} {b:Nat} (h:T.get t=some (ty,b)):P.cellsOf t=ty.size:=by
 obtain ⟨i,h1,h2,_⟩:=(hT _ _ _ h).info
 simp [Program.cellsOf,h1,h2]
theorem Jtv (hT:J78 P T) {t:Nat} {ty:Ty} {b:Nat} (h:T.get t=some (ty,b)):P.bytesOf t=b:=by
 obtain ⟨i,h1,_,h2,_⟩:=(hT _ _ _ h).info
 simp [Program.bytesOf,h1,h2]
section
variable {H : Type} {enc : TypeId × Value → H} {W : World} {base : Nat} {sp : Nat → Bool} {held : Bool}
def Jne (P:Program) (T:Tab) (enc:TypeId×Value→H) (W:World) (base:Nat) (sp:Nat→Bool) (held:Bool) (ty:Ty):Prop:=
 ∀ {t b fuel:Nat} {cs:List Value} {x:DataW H×List MemPlace},T.get t=some (ty,b)→DataW.trod enc P W base sp held fuel t cs=some x→(∀ n ∈ x.1.weights P t,n≤140737488351232)→
  ∃ y,RepC W (okW W) ty cs y∧Wf ty y
def Jnd (P:Program) (T:Tab) (enc:TypeId×Value→H) (W:World) (base:Nat) (sp:Nat→Bool) (held:Bool) (ty:Ty):Prop:=
 ∀ {fs:List Field} {o fuel:Nat} {cs:List Value} {ys:List (DataW H×List MemPlace)},J9l T fs ty o→o+ty.size≤cs.length→ys.length=fs.length→
  (∀ (i:Nat) (f:Field),fs[i]?=some f→DataW.trod enc P W base sp held fuel f.type ((cs.drop f.offset).take (P.cellsOf f.type))=ys[i]?)→
  (∀ n ∈ DataW.weightsEach P (fs.map (·.type)) (ys.map (·.1)),n≤140737488351232)→
  ∃ y,RepC W (okW W) ty ((cs.drop o).take ty.size) y∧Wf ty y
theorem Jcw {fs:List Field} {ty:Ty} {o:Nat} (h:J9l T fs ty o):ty=.unit∨∃ a r,ty=.fld a r:=by
 cases ty <;> cases fs <;> first | exact h.elim | exact .inl rfl | exact .inr ⟨_,_,rfl⟩
theorem Jgy (hT:J78 P T) {ty:Ty} (hs:ty=.unit∨∃ a r,ty=.fld a r) (hf:Jnd P T enc W base sp held ty):Jne P T enc W base sp held ty:=by
 intro t b fuel cs x ht h hw
 obtain ⟨d,hd,hdesc⟩:=(hT _ _ _ ht).desc
 have:∃ fs,d=.struct fs∧J9l T fs.toList ty 0:=by
  rcases hs with rfl | ⟨a,r,rfl⟩ <;> exact hdesc
 obtain ⟨fs,rfl,hfs⟩:=this
 obtain ⟨ys,n,rfl,rfl,hl,hyl,hg⟩:=DataW.trod_struct hd h
 have hsz:=Jb7 hT ht
 rw [hsz] at hl
 obtain ⟨y,h1,h2⟩:=hf (fs:=fs.toList) (o:=0) (cs:=cs) (ys:=ys) hfs (by omega) (by simpa using hyl) (fun i f hi=>hg i f (by simpa using hi)) (fun m hm=>hw m (by
  simp only [DataW.weights,hd]; exact hm))
 refine ⟨y,?_,h2⟩
 rwa [List.drop_zero,List.take_of_length_le (by omega)] at h1
theorem opens (hT:J78 P T) (hz:Jk5 T=true):∀ (ty:Ty),Jav ty=true→Jne P T enc W base sp held ty∧Jnd P T enc W base sp held ty
 | .int k,_=>by
  refine ⟨fun ht h hw=>?_,fun hf=>(by rcases Jcw hf with h | ⟨_,_,h⟩ <;> cases h)⟩
  obtain ⟨d,hd,hdesc⟩:=(hT _ _ _ ht).desc
  cases (show d=.int k from hdesc)
  obtain ⟨n,rfl,_,hwf⟩:=DataW.trod_int hd h
  obtain ⟨h1,h2⟩:=IK.toInt_ofInt hwf
  exact ⟨IK.ofInt k n,by simp only [RepC,h1],h2⟩
 | .bool,_=>by
  refine ⟨fun ht h hw=>?_,fun hf=>(by rcases Jcw hf with h | ⟨_,_,h⟩ <;> cases h)⟩
  obtain ⟨d,hd,hdesc⟩:=(hT _ _ _ ht).desc
  cases (show d=.bool from hdesc)
  obtain ⟨n,rfl,_⟩:=DataW.trod_bool hd h
  exact ⟨n,rfl,trivial⟩
 | .str,_=>by
  refine ⟨fun ht h hw=>?_,fun hf=>(by rcases Jcw hf with h | ⟨_,_,h⟩ <;> cases h)⟩
  obtain ⟨d,hd,hdesc⟩:=(hT _ _ _ ht).desc
  cases (show d=.string from hdesc)
  obtain ⟨s,rfl,rfl,_⟩:=DataW.trod_string hd h
  exact ⟨s.data.toList,rfl,hw _ (by simp [DataW.weights])⟩
 | .unit,_=>by
  have hF:Jnd P T enc W base sp held .unit:=by
   intro fs o fuel cs ys hf hl hyl hg hw
   exact ⟨(),by simp [RepC,Ty.size],trivial⟩
  exact ⟨Jgy hT (.inl rfl) hF,hF⟩
 | .fld a r,q=>by
  simp only [Jav,Bool.and_eq_true] at q
  have ha:Jne P T enc W base sp held a:=(opens hT hz a q.1).1
  have hr:Jnd P T enc W base sp held r:=(opens hT hz r q.2).2
  have hF:Jnd P T enc W base sp held (.fld a r):=by
   intro fs o fuel cs ys hf hl hyl hg hw
   cases fs with
   | nil=>exact hf.elim
   | cons f fs=>
    obtain ⟨h1,rfl,h3⟩:=hf
    cases ys with
    | nil=>simp at hyl
    | cons y0 ys=>
     obtain ⟨b,hb⟩:=Tab.ty_get h1
     have hsz:=Jb7 hT hb
     simp only [Ty.size] at hl
     have g0:=hg 0 f rfl
     rw [hsz] at g0
     simp only [List.map_cons,DataW.weightsEach,List.mem_append] at hw
     obtain ⟨y,e1,e2⟩:=ha hb g0 (fun n hn=>hw n (.inl hn))
     obtain ⟨z,e3,e4⟩:=hr (cs:=cs) (ys:=ys) h3 (by omega) (by simpa using hyl) (fun i g hi=>hg (i+1) g (by simpa using hi)) (fun n hn=>hw n (.inr hn))
     refine ⟨(y,z),⟨_,_,?_,e1,e3⟩,e2,e4⟩
     rw [Ty.size,List.take_add,List.drop_drop]
  exact ⟨Jgy hT (.inr ⟨_,_,rfl⟩) hF,hF⟩
 | .arr n e,q=>by
  refine ⟨fun ht h hw=>?_,fun hf=>(by rcases Jcw hf with h | ⟨_,_,h⟩ <;> cases h)⟩
  obtain ⟨d,hd,hdesc⟩:=(hT _ _ _ ht).desc
  obtain ⟨te,rfl,hte⟩:=(show ∃ te,d=.array n te∧T.ty te=some e from hdesc)
  obtain ⟨b,hb⟩:=Tab.ty_get hte
  obtain ⟨xs,m,rfl,rfl,hl,hxl,hg⟩:=DataW.trod_array hd h
  rw [Jb7 hT ht] at hl
  simp only [Jb7 hT hb] at hg
  have he:Jne P T enc W base sp held e:=(opens hT hz e q).1
  simp only [DataW.weights,hd] at hw
  obtain ⟨ys,hyl,hy⟩:=Jir e.zero (Q:=fun i y=>RepC W (okW W) e ((_root_.List.drop (i * e.size) _).take e.size) y∧Wf e y) (n:=n) (fun i hi=>by
   have hx:xs[i]?=some xs[i]:=List.getElem?_eq_getElem (by omega)
   have:=hg i hi
   rw [hx] at this
   exact he hb this (fun m hm=>hw m (Jei (List.mem_map.2 ⟨_,List.getElem_mem (by omega),rfl⟩) m hm)))
  refine ⟨ys,⟨hyl,K1a (sz:=e.size) (by rw [hl,hyl]; rfl) fun i y hi=>(hy i y hi).1⟩,hyl,fun y hm=>?_⟩
  obtain ⟨i,hi⟩:=List.getElem?_of_mem hm
  exact (hy i y hi).2
 | .slice e,q=>by
  refine ⟨fun {t b fuel cs x} ht h hw=>?_,fun hf=>(by rcases Jcw hf with h | ⟨_,_,h⟩ <;> cases h)⟩
  simp only [Jav,Bool.and_eq_true] at q
  have hpos:=Nat.le_of_ble_eq_true q.2
  obtain ⟨d,hd,hdesc⟩:=(hT _ _ _ ht).desc
  obtain ⟨te,rfl,hte⟩:=(show ∃ te,d=.slice te∧T.ty te=some e from hdesc)
  obtain ⟨eb,hb⟩:=Tab.ty_get hte
  have hby:=Jk6 hz hb
  have he:Jne P T enc W base sp held e:=(opens hT hz e q.1).1
  rcases DataW.trod_slice hd h with ⟨rfl,_⟩ | ⟨a,len,cap,elems,rest,n,rfl,rfl,rfl,_,hlc,_,hel,hg,_,_⟩
  ·exact ⟨[],⟨none,0,rfl,Nat.zero_le _,.inl rfl⟩,by simp,fun y hy=>by simp at hy⟩
  ·simp only [DataW.weights,hd,List.mem_cons,List.mem_append,Jtv hT hb,List.length_map] at hw
   simp only [Jb7 hT hb] at hg
   obtain ⟨ys,hyl,hy⟩:=Jir e.zero (Q:=fun i y=>(∃ cs,W.cells? base (a.add (i * e.size)) e.size=some cs∧RepC W (okW W) e cs y)∧Wf e y) (n:=len) (fun i hi=>by
    have hx:elems[i]?=some elems[i]:=List.getElem?_eq_getElem (by omega)
    have:=hg i hi
    rw [hx,Option.bind_eq_some_iff] at this
    obtain ⟨cs,hc,ht⟩:=this
    obtain ⟨y,h1,h2⟩:=he hb ht (fun m hm=>hw m (.inr (.inl (Jei (List.mem_map.2 ⟨_,List.getElem_mem (by omega),rfl⟩) m hm))))
    exact ⟨y,⟨cs,hc,h1⟩,h2⟩)
   have hlen:ys.length * Jd6 e≤140737488351232:=by
    have:=hw _ (.inl rfl)
    have h2:len * Jd6 e≤(elems.length+rest.length) * eb:=Nat.mul_le_mul (by omega) hby
    rw [hyl]; omega
   refine ⟨ys,⟨some a,cap,by rw [hyl],by omega,?_⟩,hlen,fun y hm=>?_⟩
   ·by_cases h0:ys=[]
    ·exact .inl h0
    ·right
     have hl0:0 < len:=by rw [← hyl]; exact List.length_pos_iff.2 h0
     have h00:ys[0]?=some ys[0]:=List.getElem?_eq_getElem (by omega)
     obtain ⟨⟨cs,hc,hr⟩,_⟩:=hy 0 _ h00
     obtain ⟨hcl,hcg⟩:=Jns hc
     have hcell:=hcg 0 (by omega)
     have hsome:cs[0]?=some cs[0]:=List.getElem?_eq_getElem (by omega)
     have hspot:a.spot=none:=by
      have:=hcell.trans hsome
      have:=World.cell?_spot this
      simpa [Addr.add] using this
     obtain ⟨bb,o,s⟩:=a
     simp only at hspot
     subst hspot
     refine ⟨bb,o,rfl,?_,fun i y hi=>?_⟩
     ·have:=hcell.trans hsome
      simp only [Addr.add,Nat.zero_mul,if_true] at this
      unfold World.cell? at this
      split at this
      ·rename_i c _ _ hh; exact (Array.getElem?_eq_some_iff.1 hh).1
      ·cases this
     ·obtain ⟨⟨cs,hc,hr⟩,_⟩:=hy i y hi
      obtain ⟨hcl,hcg⟩:=Jns hc
      refine ⟨cs,hr,fun j hj=>?_⟩
      rw [← hcg j (by omega)]
      congr 1
      simp only [Addr.add]
      split <;> split <;> simp_all <;> omega
   ·obtain ⟨i,hi⟩:=List.getElem?_of_mem hm
    exact (hy i y hi).2
 | .flt,q=>by cases q
 | .cplx,q=>by cases q
 | .ptr,q=>by cases q
 | .mp,q=>by cases q
 | .fn,q=>by cases q
theorem open_arg (hT:J78 P T) (hz:Jk5 T=true) {ty:Ty} (ho:Jav ty=true) {t b:Nat} (ht:T.get t=some (ty,b)) {v:Value} {d:DataW H} {ps:List MemPlace} (hv:DataW.Trod enc P W base sp held t v d ps)
  (hw:∀ n ∈ d.weights P t,n≤140737488351232) (hp:∀ cs,v.cells.toList=cs→cs.length=ty.size→v=pack ty cs):∃ y,TRel [] W (okW W) (.v ty y) v∧Wf ty y:=by
 obtain ⟨fuel,hf⟩:=hv
 obtain ⟨y,h1,h2⟩:=(opens hT hz ty ho).1 ht hf hw
 exact ⟨y,⟨ty,_,⟨rfl,h1⟩,hp _ rfl (RepC.len _ h1)⟩,h2⟩
end
theorem ARel.nil {W:World} {ok:Nat→Prop}:ARel [] W ok [] []:=⟨rfl,fun i s v h=>by simp at h⟩
theorem ARel.cons {W:World} {ok:Nat→Prop} {s:Slot} {v:Value} {ss:List Slot} {vs:List Value} (h:TRel [] W ok s v) (hs:ARel [] W ok ss vs):ARel [] W ok (s::ss) (v::vs):=by
 refine ⟨by simp [hs.1],fun i s' v' e1 e2=>?_⟩
 cases i with
 | zero=>simp at e1 e2; subst e1; subst e2; exact h
 | succ i=>exact hs.2 i s' v' (by simpa using e1) (by simpa using e2)
theorem packOne {ty:Ty} (h:ty.isAgg=false) {v:Value} (hc:v.cells=#[v]):∀ cs,v.cells.toList=cs→cs.length=ty.size→v=pack ty cs:=by
 intro cs e _
 subst e
 rw [hc]
 simp [pack,h]
end Go.Ax

namespace Go.Ax
open Go.RowKit
set_option linter.unusedVariables false
set_option linter.unusedSimpArgs false
variable {P : Program} {T : Tab}
theorem Jg7 (w:World) {t k e:TypeId} (p:Option Nat) (h:P.underlying t=some (.map k e)):(binOp .eql t (.map p) (.map none)).run P w=.ok (.bool p.isNone) w:=by
 have h1:∀ d,(Op.equalIn (d+1) t (.map p) (.map none)).run P w=.ok p.isNone w:=fun d=>by cases p <;> simp [Op.equalIn,run_underlying h]
 simp only [binOp]
 simp [show Op.equal t (.map p) (.map none)=Op.equalIn (9999+1) t (.map p) (.map none) from rfl,h1]
theorem Jg5 (w:World) {t x k e:TypeId} (v:Value) (h:P.underlying t=some (.map k e)):(Instr.typeAssert (.iface t v) x t false).run P w=.ok v w:=by
 simp [Instr.typeAssert,run_underlying h,go_sem,Result.andThen]
theorem Jg6 (w:World) {r:Nat} {es:Array MapEntry} {q:Nat} (t:TypeId) (hb:w.heap[r]?=some (.map es q)) :
  (Extern.MapsClone.clone #[.iface t (.map (some r))]).run P w=.ok (.iface t (.map (some w.heap.size))) (w.alloc (.map es q)):=by
 have e:Extern.MapsClone.clone #[.iface t (.map (some r))]=(getObj r >>= fun o=>match o with
   | .map es q=>(newObj (.map es q) >>= fun n=>pure (Value.iface t (.map (some n))))
   | _ => stuck "maps.clone: a map expected") := rfl
 rw [e]
 simp [MapKept.run_getObj_map hb,Result.andThen,go_sem]
theorem CallC.clone {f:FuncId} (hc:Ja0 P f) (h:∀ (w:World) (b:Nat) (es:Array MapEntry) (q:Nat),w.heap[b]?=some (.map es q)→
   Calls P f #[.map (some b)] w fun e w'=>e=.returned (.map (some w.heap.size))∧w'=w.alloc (.map es q)) {k v:Ty} {es:List (k.den×v.den)} {l:Bool} :
  CallC P f [.mp 0] [.map k v es l] (.mp 1) [.map k v es l,.map k v es true]:=by
 refine .mk hc fun c G vs hh hG hv=>?_
 match vs,hv with
 | [m],hv=>
  have hm:=hv.2 0 _ _ rfl rfl
  obtain ⟨hl,g,b,es',q,hg,hb,rfl,hw,hk,hR,hB⟩:=Jiv (l:=0) (k:=k) (v:=v) (es:=es) (lv:=l) hh rfl hm
  refine Calls.mono (h c.w0 b es' q hw) ?_
  rintro e w' ⟨rfl,rfl⟩
  obtain ⟨h1,h2⟩:=hh.alloc0 (x:=.map es' q) (o:=.map k v es true) (g:=⟨.map,some c.w0.heap.size,.unit,0,0⟩) rfl (fun ok' k'=>by
   refine ⟨rfl,c.w0.heap.size,es',q,rfl,?_,MapR.mono k' hR,hB⟩
   show (c.w0.heap.push _)[c.w0.heap.size]?=_; simp)
  refine ⟨_,_,rfl,h1,⟨.mp,_,⟨rfl,⟨.map,some c.w0.heap.size,.unit,0,0⟩,c.w0.heap.size,?_,rfl,rfl,rfl⟩,rfl⟩,Ext.snoc _ _⟩
  have:=hh.len
  match G,this with
  | [_],_=>rfl
 | [],hv=>exact absurd hv.1 (by simp)
 | _::_::_,hv=>exact absurd hv.1 (by simp)
end Go.Ax

namespace Go.Ax
open Go Go.RowKit Go.Maps
set_option linter.unusedVariables false
set_option linter.unusedSimpArgs false
variable {P : Program}
structure Jab (w:World) (r b q:Nat) (es:Array MapEntry) (seen:Array Nat):Prop where
 it:∃ last,w.heap[r]?=some (.mapIter (some b) q seen last)∧q≤last
 mp:w.heap[b]?=some (.map es q)
theorem Jab.left {w:World} {r b q:Nat} {es:Array MapEntry} {seen:Array Nat} (h:Jab w r b q es seen):w.rangeLeft b r=(leftOf es seen).size:=by
 obtain ⟨⟨last,h1,_⟩,h2⟩:=h
 simp only [World.rangeLeft,h1,h2]
theorem Jab.walk {w:World} {r b q:Nat} {es:Array MapEntry} {seen:Array Nat} (h:Jab w r b q es seen):∃ o:Obj,w.heap[r]?=some o∧o.isWalk=true:=by
 obtain ⟨⟨last,h1,_⟩,h2⟩:=h
 exact ⟨_,h1,rfl⟩
theorem Jab.keep {w w':World} {r b q:Nat} {es:Array MapEntry} {seen:Array Nat} (h:Jab w r b q es seen) (k:KeepsWalks w w'):Jab w' r b q es seen:=by
 obtain ⟨⟨last,h1,h3⟩,h2⟩:=h
 exact ⟨⟨last,k.same _ _ h1 rfl,h3⟩,k.same _ _ h2 rfl⟩
theorem Jab.next {w:World} {r b q:Nat} {es:Array MapEntry} {seen:Array Nat} (h:Jab w r b q es seen) (hB:J8d es q) (ty:TypeId) :
  ((leftOf es seen).size=0∧(Instr.next (.pointer (some ⟨r,0,none⟩)) false ty).run P w=.ok (.tuple #[.bool false]) w)∨
  ∃ e ∈ (leftOf es seen).toList,∃ w',(Instr.next (.pointer (some ⟨r,0,none⟩)) false ty).run P w=.ok (.tuple #[.bool true,e.key,e.val]) w'∧Jab w' r b q es (seen.push e.born)∧w.grownBy w' (some r)∧
   (Instr.entry (.pointer (some ⟨r,0,none⟩))).run P w'=.ok (.tuple #[e.key,e.val]) w':=by
 obtain ⟨⟨last,h1,h3⟩,h2⟩:=h
 have hne:b≠r:=by intro e; rw [e,h1] at h2; cases h2
 rcases run_next_at (P:=P) w ty r b q last seen es q h1 h2 hB.1 h3 with ⟨h0,hr⟩ | ⟨e,he,w1,hw,hr⟩
 ·exact .inl ⟨h0,hr⟩
 ·have e1:w1.heap=w.heap:=by rcases hw with rfl | rfl <;> rfl
  have hlt:r < w1.heap.size:=by rw [e1]; exact (Array.getElem?_eq_some_iff.1 h1).1
  have n1:(ChangeMaps.setBlock w1 r (.mapIter (some b) q (seen.push e.born) q)).heap[r]?=some (.mapIter (some b) q (seen.push e.born) q):=by
   show (w1.heap.setIfInBounds r _)[r]?=_
   rw [Array.getElem?_setIfInBounds,if_pos rfl,if_pos hlt]
  have n2:∀ k,k≠r→(ChangeMaps.setBlock w1 r (.mapIter (some b) q (seen.push e.born) q)).heap[k]?=w.heap[k]?:=fun k hk=>by
   show (w1.heap.setIfInBounds r _)[k]?=_
   rw [Array.getElem?_setIfInBounds,if_neg (Ne.symm hk),e1]
  have n3:Jab (ChangeMaps.setBlock w1 r (.mapIter (some b) q (seen.push e.born) q)) r b q es (seen.push e.born):=⟨⟨q,n1,Nat.le_refl _⟩,(n2 b hne).trans h2⟩
  refine .inr ⟨e,he,_,hr,n3,⟨?_,?_,?_,?_,fun k hk hr=>n2 k (fun e=>hr (by rw [e]))⟩,run_entry_at _ r b q seen es q e n1 n3.mp (mem_left he).1 hB.2⟩
  ·rcases hw with rfl | rfl <;> rfl
  ·rcases hw with rfl | rfl <;> rfl
  ·rcases hw with rfl | rfl <;> rfl
  ·show w.heap.size≤(w1.heap.setIfInBounds r _).size
   rw [Array.size_setIfInBounds,e1]; exact Nat.le_refl _
section
variable {F : Fence} {n : Nat} (w : World) {ops : Array Oper} {rest : List Oper} {o : Oper} {a : Act} {Q : Exit → Act → World → Prop}
theorem Jv8 (hg:o.guard=none) (m:Operand) (t:TypeId) (hop:o.op=Op.range t m) (k e:TypeId) (ht:P.underlying t=some (.map k e)) (b q:Nat) (es:Array MapEntry) (hm:a.eval m=.map (some b)) (hb:w.heap[b]?=some (.map es q))
  (hK:∀ w',Jab w' w.heap.size b q es #[]→w.grownBy w' none→wpListIn F n P ops Q rest (a.put o.dst (.pointer (some ⟨w.heap.size,0,none⟩))) w'):wpListIn F n P ops Q (o::rest) a w:=by
 refine wpListIn_plain hg fun K' hK'=>?_
 have hrun:=run_range_map (P:=P) w t k e b es q ht hb
 have hlt:b < w.heap.size:=(Array.getElem?_eq_some_iff.1 hb).1
 unfold Oper.wpIn
 refine ⟨by simp [Oper.about,hop],?_⟩
 rw [Oper.semAt_plain F _ _ (by rw [hop]; intro c hc'; cases hc')]
 simp [execOp,hop,hm,hrun,Result.andThen]
 exact hK' _ _ (hK _ ⟨⟨q,(MapKept.heap_alloc w _).1,Nat.le_refl _⟩,((MapKept.heap_alloc w _).2 b hlt).trans hb⟩ (World.grownBy_alloc w _ none))
theorem Jzf (hg:o.guard=none) (it:Operand) (hop:o.op=Op.next it false) (r b q:Nat) (es:Array MapEntry) (seen:Array Nat) (hit:a.eval it=.pointer (some ⟨r,0,none⟩)) (h:Jab w r b q es seen) (hB:J8d es q)
  (hDone:(leftOf es seen).size=0→wpListIn F n P ops Q rest (a.put o.dst (.tuple #[.bool false])) w)
  (hMore:∀ (e:MapEntry) (w':World),e ∈ (leftOf es seen).toList→Jab w' r b q es (seen.push e.born)→w.grownBy w' (some r)→(Instr.entry (.pointer (some ⟨r,0,none⟩))).run P w'=.ok (.tuple #[e.key,e.val]) w'→
   wpListIn F n P ops Q rest (a.put o.dst (.tuple #[.bool true,e.key,e.val])) w'):wpListIn F n P ops Q (o::rest) a w:=by
 refine wpListIn_plain hg fun K' hK'=>?_
 unfold Oper.wpIn
 refine ⟨by simp [Oper.about,hop],?_⟩
 rw [Oper.semAt_plain F _ _ (by rw [hop]; intro c hc'; cases hc')]
 rcases h.next (P:=P) hB o.type with ⟨h0,hr⟩ | ⟨e,he,w',hr,hi,hg,hen⟩
 ·simp [execOp,hop,hit,hr,Result.andThen]
  exact hK' _ _ (hDone h0)
 ·simp [execOp,hop,hit,hr,Result.andThen]
  exact hK' _ _ (hMore e w' he hi hg hen)
end
def keyZ (e:MapEntry):Int:=match e.key with | .int _ k=>k | _=>0
structure Come (es:Array MapEntry) (seen:Array Nat) (ss:List Int):Prop where
 perm:(es.toList.map keyZ).Perm ((leftOf es seen).toList.map keyZ++ss)
theorem Come.start (es:Array MapEntry):Come es #[] []:=⟨by
 have:(leftOf es #[]).toList=es.toList:=by simp [leftOf]
 rw [this,List.append_nil]⟩
theorem Jic {p p':MapEntry→Bool} {e:MapEntry} (hq:∀ x,p' x=(p x && !(x.born == e.born))):∀ {l:List MapEntry},(l.map (·.born)).Nodup→e ∈ l→p e=true→(l.filter p).Perm (e::l.filter p')
 | [],_,h,_=>by cases h
 | x::l,hn,h,hp=>by
  simp only [List.map_cons,List.nodup_cons] at hn
  rcases List.mem_cons.1 h with rfl | h
  ·have:l.filter p'=l.filter p:=List.filter_congr fun y hy=>by
    rw [hq,show (y.born == e.born)=false from by simp; intro e'; exact hn.1 (e' ▸ List.mem_map.2 ⟨y,hy,rfl⟩)]; simp
   rw [List.filter_cons,if_pos hp,List.filter_cons,if_neg (by rw [hq]; simp),this]
  ·have hx:p' x=p x:=by
    rw [hq,show (x.born == e.born)=false from by simp; intro e'; exact hn.1 (e' ▸ List.mem_map.2 ⟨e,h,rfl⟩)]; simp
   have ih:=Jic hq hn.2 h hp
   rw [List.filter_cons,List.filter_cons,hx]
   cases p x with
   | true=>exact (ih.cons x).trans (List.Perm.swap ..)
   | false=>exact ih
theorem Come.step {es:Array MapEntry} {q:Nat} {seen:Array Nat} {ss:List Int} (hB:J8d es q) (h:Come es seen ss) {e:MapEntry} (he:e ∈ (leftOf es seen).toList):Come es (seen.push e.born) (ss++[keyZ e]):=by
 have h1:=mem_left he
 have hp:(leftOf es seen).toList.Perm (e::(leftOf es (seen.push e.born)).toList):=by
  simp only [leftOf,Array.toList_filter]
  exact Jic (fun x=>by rw [contains_push]; simp) hB.2 h1.1 (by rw [h1.2]; rfl)
 refine ⟨h.perm.trans (((hp.map keyZ).append_right ss).trans ?_)⟩
 rw [List.map_cons,← List.append_assoc]
 exact (List.perm_append_singleton _ _).symm
theorem Come.done {es:Array MapEntry} {seen:Array Nat} {ss:List Int} (h:Come es seen ss) (h0:(leftOf es seen).size=0):ss.Perm (es.toList.map keyZ):=by
 have:leftOf es seen=#[]:=Array.eq_empty_of_size_eq_zero h0
 have hp:=h.perm
 rw [this] at hp
 exact hp.symm
theorem Come.len {es:Array MapEntry} {seen:Array Nat} {ss:List Int} (h:Come es seen ss):(leftOf es seen).size+ss.length=es.size:=by
 have:=h.perm.length_eq
 simp only [List.length_map,Array.length_toList,List.length_append] at this
 exact this.symm
theorem Juy {W W':World} {row:Option Nat} {base:Nat} {e:TypeId} {size:Nat} {v:Value} {k:Nat} {xs:List Value} (h:W.ownsRow base e size v k xs) (hg:W.grownBy W' row)
  (hrow:∀ r,row=some r→∃ o:Obj,W.heap[r]?=some o∧o.isWalk=true):W'.ownsRow base e size v k xs:=by
 refine h.kept hg ?_
 rcases h.2 with ⟨rfl,_⟩ | ⟨g,cap,cur,rfl,_,hgb,_⟩
 ·exact .inl rfl
 ·refine .inr fun e'=>?_
  obtain ⟨o,ho,hw⟩:=hrow g (by simpa [Value.ownBlock] using e'.symm)
  rw [hgb] at ho; cases ho; cases hw
theorem Jba (W:World) (l:Nat) (o:Obj):W.grownBy (W.putObj l o) (some l):=
 ⟨rfl,rfl,rfl,by simp,fun k _ hk=>World.putObj_heap_other (fun e=>hk (by rw [e]))⟩
theorem Jwy (W:World) (b:Nat) (v:Value):W.grownBy (W.setCell ⟨b,0,none⟩ v) (some b):=
 ⟨rfl,rfl,rfl,(KeepsWalks.setCell W _ v).size,fun k _ hk=>Below.heap_setCell _ _ _ k (fun e=>hk (by rw [e]))⟩
theorem Jl6 {W:World} {base:Nat} {e:TypeId} {size:Nat} {v:Value} {k:Nat} {xs:List Value} (h:W.ownsRow base e size v k xs) {j:Nat} {o:Obj} (hj:W.heap[j]?=some o) (hno:∀ cur,o≠.cells cur e (0,0)) :
  v.ownBlock=none∨v.ownBlock≠some j:=by
 rcases h.2 with ⟨rfl,_⟩ | ⟨g,cap,cur,rfl,_,hgb,_⟩
 ·exact .inl rfl
 ·refine .inr fun e'=>?_
  have:g=j:=by simpa [Value.ownBlock] using e'
  subst this; rw [hgb] at hj; cases hj; exact hno cur rfl
theorem Jlh {W:World} {B:Nat} {v:Value} {t:TypeId} (h:W.heap[B]?=some (.cells #[v] t (0,0))):W.cell? ⟨B,0,none⟩=some v∧W.frozen? ⟨B,0,none⟩=false:=by
 constructor <;> simp [World.cell?,World.frozen?,h]
theorem K2o {W:World} {B:Nat} {v:Value} {t:TypeId} (v':Value) (h:W.heap[B]?=some (.cells #[v] t (0,0))):(W.setCell ⟨B,0,none⟩ v').heap[B]?=some (.cells #[v'] t (0,0)):=by
 obtain ⟨hlt,hk⟩:=Array.getElem?_eq_some_iff.1 h
 show (W.heap.modify B _)[B]?=_
 rw [Array.getElem?_eq_getElem (by rw [Array.size_modify]; exact hlt),Array.getElem_modify_self,hk]
 rfl
theorem Jr2 {W:World} {base:Nat} {e:TypeId} {size:Nat} {v:Value} {k:Nat} {xs:List Value} (h:W.ownsRow base e size v k xs):∀ (j:Nat) (o:Obj),v.ownBlock=some j→W.heap[j]?=some o→o.isWalk=false:=by
 intro j o hj ho
 rcases h.2 with ⟨rfl,_⟩ | ⟨g,cap,cur,rfl,_,hgb,_⟩
 ·simp [Value.ownBlock] at hj
 ·have:g=j:=by simpa [Value.ownBlock] using hj
  subst this; rw [hgb] at ho; cases ho; rfl
theorem Jiu {w:World} {ok:Nat→Prop} {v:Ty}:∀ {es:List (Int×v.den)} {l:List MapEntry},MapR w ok (.int .i64) v es l→l.map keyZ=es.map (·.1)∧∀ e ∈ l,e.key=encZ (keyZ e)
 | [],[],_=>⟨rfl,by simp⟩
 | p::ps,e::l,⟨⟨⟨c1,h1,h2⟩,_⟩,h3⟩=>by
  obtain ⟨a1,a2⟩:=Jiu h3
  have h1:c1=[.int .i64 p.1]:=h1
  subst h1
  have h2:e.key=.int .i64 p.1:=h2
  have h4:keyZ e=p.1:=by simp [keyZ,h2]
  refine ⟨by rw [List.map_cons,List.map_cons,a1,h4],fun x hx=>?_⟩
  rcases List.mem_cons.1 hx with rfl | hx
  ·rw [h4]; exact h2
  ·exact a2 x hx
 | [],_::_,h=>h.elim
 | _::_,[],h=>h.elim
theorem CallC.collect {f kf it:Nat} (hc:Ja0 P f) (h:∀ (w:World) (Bm b q:Nat) (es:Array MapEntry),Bm < w.heap.size→b < w.heap.size→w.cell? ⟨Bm,0,none⟩=some (.map (some b))→w.heap[b]?=some (.map es q)→J8d es q→
   (∀ e ∈ es.toList,e.key=encZ (keyZ e))→es.size≤1→Calls P f #[.func (.func kf) #[] #[.pointer (some ⟨Bm,0,none⟩)]] w fun e w'=>∃ (v:Value) (ss:List Int),e=.returned v∧ss.Perm (es.toList.map keyZ)∧
    w'.ownsRow w.heap.size it 1 v ss.length (ss.map encZ)∧(v=.slice none 0 0↔ss=[])∧Below w.heap.size w w') {v:Ty} {es:List (Int×v.den)} {lb lm:Bool} (hl:List.length es≤1) :
  CallC P f [.fn kf (.tup (.ptr 0 []) .tnil)] [.box .mp (.mp 1) lb,.map (.int .i64) v es lm] (.own 2 []) [.box .mp (.mp 1) lb,.map (.int .i64) v es lm,.row (.int .i64) (es.map (·.1)) true]:=by
 refine .mk hc fun c G vs hh hG hv=>?_
 have hlen:=hh.len
 match vs,hv with
 | [fv],hv=>
  obtain ⟨t,cs,⟨rfl,us,rfl,hus⟩,rfl⟩:=hv.2 0 _ _ rfl rfl
  obtain ⟨p,us',rfl,⟨t,cs,⟨rfl,g0,pv,hg0,rfl,hk0,Bm,o,t',hb0,⟨rfl,_⟩,rfl⟩,rfl⟩,hus'⟩:=hus
  have hus':us'=[]:=hus'
  subst hus'
  obtain ⟨_,_,b1,cc,TT,hb1,hw1,hs1⟩:=hh.objs 0 _ g0 rfl hg0
  rw [hb0] at hb1; injection hb1 with hb1; subst hb1
  obtain ⟨_,gm,b,hgm,hkm,hbm,hcc⟩:=hs1
  have hcell:c.w0.cell? ⟨Bm,0,none⟩=some (.map (some b)):=by
   have:cc=#[.map (some b)]:=by apply Array.toList_inj.1; rw [hcc]
   subst this
   simp [World.cell?,hw1]
  obtain ⟨_,b2,es',q,hb2,hw2,hR,hB⟩:=hh.objs 1 _ gm rfl hgm
  rw [hbm] at hb2; injection hb2 with hb2; subst hb2
  have hsz:es'.size=List.length es:=by have:=Jhe hR; simpa using this
  have hkeys:es'.toList.map keyZ=es.map (·.1)∧∀ e ∈ es'.toList,e.key=encZ (keyZ e):=by
   exact Jiu hR
  refine Calls.mono (h c.w0 Bm b q es' (Array.getElem?_eq_some_iff.1 hw1).1 (Array.getElem?_eq_some_iff.1 hw2).1 hcell hw2 hB hkeys.2 (by omega)) ?_
  rintro e w' ⟨v',ss,rfl,hp,hrow,hnil,hbel⟩
  rw [hkeys.1] at hp
  have hss:ss=es.map (·.1):=by
   match es,hl,hp with
   | [],_,hp=>exact List.perm_nil.1 hp
   | [_],_,hp=>exact List.perm_singleton.1 hp
  subst hss
  have hn:List.length (es.map (·.1))=List.length es:=List.length_map _
  match G,hlen with
  | [_,_],_=>
  rcases hrow.2 with ⟨rfl,h0⟩ | ⟨gb,cap,cur,rfl,hbase,hgb,r1,r2,r3,r4⟩
  ·have he:es=[]:=by rw [hn] at h0; exact List.eq_nil_of_length_eq_zero h0
   subst he
   obtain ⟨q1,q2,_⟩:=hh.junk hbel.block hbel.size hbel.os hbel.tape hbel.output
   obtain ⟨q3,q4⟩:=q1.fresh (o:=.row (.int .i64) [] true) (g:=⟨.row,none,.int .i64,0,0⟩) rfl (fun ok'=>⟨rfl,rfl,rfl,Nat.le_refl _,.inl ⟨rfl,rfl⟩⟩)
   exact ⟨_,_,rfl,q3,⟨.slice (.int .i64),_,⟨⟨.row,none,.int .i64,0,0⟩,_,rfl,rfl,.inl ⟨rfl,rfl,rfl,rfl⟩⟩,rfl⟩,Ext.snoc _ _⟩
  ·have hcat:∀ (w:World) (ok:Nat→Prop) (xs:List Int),RepC w ok (.arr (List.length xs) (.int .i64)) (xs.map encZ) xs:=by
    intro w ok xs
    refine ⟨rfl,?_⟩
    induction xs with
    | nil=>rfl
    | cons x xs ih=>exact ⟨[encZ x],xs.map encZ,rfl,rfl,ih⟩
   obtain ⟨q3,q4⟩:=hh.grow0 hbel.block hbel.size hbel.os hbel.tape hbel.output hbase (Array.getElem?_eq_some_iff.1 hgb).1 (o:=.row (.int .i64) (es.map (·.1)) true) (g:=⟨.row,some gb,.int .i64,List.length (es.map (·.1)),cap⟩) rfl
    (fun ok' k=>⟨rfl,rfl,rfl,r1,.inr ⟨gb,cur,it,rfl,hgb,by rw [r3]; exact Nat.le_refl _,by
     show RepC w' ok' (.arr (List.length (es.map (·.1))) (.int .i64)) (cur.toList.take (List.length (es.map (·.1)) * 1)) _
     rw [r4]; exact hcat _ _ _⟩⟩)
   exact ⟨_,_,rfl,q3,⟨.slice (.int .i64),_,⟨⟨.row,some gb,.int .i64,List.length (es.map (·.1)),cap⟩,_,rfl,rfl,.inl ⟨rfl,rfl,rfl,rfl⟩⟩,rfl⟩,Ext.snoc _ _⟩
 | [],hv=>exact absurd hv.1 (by simp)
 | _::_::_,hv=>exact absurd hv.1 (by simp)
end Go.Ax

namespace Go.Ax
set_option linter.unusedVariables false
variable {P : Program} {T : Tab} {E : List Nat}
abbrev vi (x:Int):Slot:=.v (.int .i64) x
abbrev vb (x:Bool):Slot:=.v .bool x
abbrev vs (x:List UInt8):Slot:=.v .str x
abbrev vu (x:Unit):Slot:=.v .unit x
abbrev vl (t:Ty) (x:List t.den):Slot:=.v (.slice t) x
abbrev pr (n:Nat):Slot:=.ptr n []
abbrev ow (n:Nat):Slot:=.own n []
def nn:List Slot→Slot→Slot
 | [],s=>s
 | x::r,s=>.node x (nn r s)
def tp:List Slot→Slot
 | []=>.tnil
 | x::r=>.tup x (tp r)
abbrev rr (t:Ty) (x:List t.den):AObj:=.row t x true
abbrev bx (t:Ty) (x:t.den):AObj:=.box t (.v t x) true
abbrev mm (k v:Ty) (x:List (k.den×v.den)):AObj:=.map k v x true
section
variable {α β γ δ ε : Type}
def ex2 {α β:Type} (a b:Exit):α⊕β→Exit | .inl _=>a | .inr _=>b
def so2 (a:α→St) (b:β→St):α⊕β→St | .inl x=>a x | .inr x=>b x
end
structure Wy where
 its:List It
 ps:List Prop
 ev:AllP ps
def rep {α:Type _} (x:α):Nat→List α→List α
 | 0,l=>l
 | n+1,l=>x::rep x n l
theorem AllP.rep {p:Prop} (h:p) {l:List Prop} (hl:AllP l):∀ n,AllP (rep p n l)
 | 0=>hl
 | n+1=>⟨h,AllP.rep h hl n⟩
theorem AllP.back {l:List Prop} (h:AllP l):AllP l.reverse:=by
 induction l with
 | nil=>trivial
 | cons p l ih=>rw [List.reverse_cons]; exact AllP.app (ih h.2) ⟨h.1,trivial⟩
def w0:Wy:=⟨[],[],trivial⟩
def Wy.br (a:Wy) (n:Nat) (v:Bool) {b:Bool} (h:b=v):Wy:=⟨rep (.br v) n a.its,rep (b=v) n a.ps,AllP.rep h a.ev n⟩
def Wy.i (a:Wy) (l:List It):Wy:=⟨l.reverse++a.its,a.ps,a.ev⟩
def Wy.e (a:Wy) {p:Prop} (h:p):Wy:=⟨a.its,p::a.ps,h,a.ev⟩
def Wy.ie (a:Wy) (i:It) {p:Prop} (h:p):Wy:=⟨i::a.its,p::a.ps,h,a.ev⟩
def To {α:Type} (a:Wy) (x:Option α) (G:α→Prop):Prop:=∀ u,x=some u→G u
section
variable {α β γ : Type} {a : Wy} {x y : Option α} {G : α → Prop} {b : Bool} {c : Prop} [Decidable c]
theorem no:To a none G:=fun u h=>by cases h
theorem fk (n m:Nat) (h1:∀ {h:b=true},To (a.br n true h) x G) (h2:∀ {h:b=false},To (a.br m false h) y G):To a (fork b x y) G:=fun u h=>by
 rcases Jwt h with ⟨e,h⟩ | ⟨e,h⟩
 ·exact h1 (h:=e) u h
 ·exact h2 (h:=e) u h
theorem ff (h1:∀ {h:b=true},To (a.br 1 true h) x G) (h2:∀ {h:b=false},To (a.br 1 false h) y G):To a (fork b x y) G:=fk 1 1 h1 h2
theorem us (n:Nat) {v:Bool} (e:b=v) (h:To (a.br n v e) x G):To a x G:=h
theorem lt (n:Nat) (v:Bool) (h:To (a.br n v (rfl:v=v)) x G):To a x G:=h
theorem is (l:List It) (h:To (a.i l) x G):To a x G:=h
theorem ev {p:Prop} (e:p) (h:To (a.e e) x G):To a x G:=h
theorem ie (i:It) {p:Prop} (e:p) (h:To (a.ie i e) x G):To a x G:=h
theorem ke (l:List Nat) (z:List AObj) (h:To (a.ie (.kept l) (rfl:z=z)) x G):To a x G:=h
theorem ae (z:List AObj) (h:To (a.ie .asis (rfl:z=z)) x G):To a x G:=h
theorem dc (p:Prop) [Decidable p] (h:∀ {e:p},To (a.e e) x G) (d:decide p=true:=by kernel_rfl):To a x G:=h (e:=of_decide_eq_true d)
theorem nd (h:∀ {e:c},To (a.e e) x G):To a (need c x) G:=fun u hu=>by
 obtain ⟨e,hu⟩:=Jj0 hu
 exact h (e:=e) u hu
theorem bd {F:Option β} {K:β→Option α} {C:β→Prop} (ok:To w0 F C) (h:∀ {u} {e:C u},To a (K u) G):To a (andThen F K) G:=fun u hu=>by
 obtain ⟨v,e,hu⟩:=andThen_ok hu fun {u}=>ok u
 exact h (e:=e) u hu
theorem b2 {F:Option (β⊕γ)} {K:β⊕γ→Option α} {C:β⊕γ→Prop} (ok:To w0 F C) (h1:∀ {u} {e:C (.inl u)},To a (K (.inl u)) G) (h2:∀ {u} {e:C (.inr u)},To a (K (.inr u)) G):To a (andThen F K) G:=
 bd ok fun {u e}=>match u,e with | .inl _,e=>h1 (e:=e) | .inr _,e=>h2 (e:=e)
theorem b3 {δ:Type} {F:Option (β⊕γ⊕δ)} {K:β⊕γ⊕δ→Option α} {C:β⊕γ⊕δ→Prop} (ok:To w0 F C) (h1:∀ {u} {e:C (.inl u)},To a (K (.inl u)) G)
  (h2:∀ {u} {e:C (.inr (.inl u))},To a (K (.inr (.inl u))) G) (h3:∀ {u} {e:C (.inr (.inr u))},To a (K (.inr (.inr u))) G):To a (andThen F K) G:=
 bd ok fun {u e}=>match u,e with | .inl _,e=>h1 (e:=e) | .inr (.inl _),e=>h2 (e:=e) | .inr (.inr _),e=>h3 (e:=e)
theorem b4 {δ ε:Type} {F:Option (β⊕γ⊕δ⊕ε)} {K:β⊕γ⊕δ⊕ε→Option α} {C:β⊕γ⊕δ⊕ε→Prop} (ok:To w0 F C) (h1:∀ {u} {e:C (.inl u)},To a (K (.inl u)) G)
  (h2:∀ {u} {e:C (.inr (.inl u))},To a (K (.inr (.inl u))) G) (h3:∀ {u} {e:C (.inr (.inr (.inl u)))},To a (K (.inr (.inr (.inl u)))) G) (h4:∀ {u} {e:C (.inr (.inr (.inr u)))},To a (K (.inr (.inr (.inr u)))) G):To a (andThen F K) G:=
 bd ok fun {u e}=>match u,e with | .inl _,e=>h1 (e:=e) | .inr (.inl _),e=>h2 (e:=e) | .inr (.inr (.inl _)),e=>h3 (e:=e) | .inr (.inr (.inr _)),e=>h4 (e:=e)
variable {f : FuncId} {A : List Slot} {objs : List AObj} {ret : β → Slot} {objs' : β → List AObj} {F : Option β} {K : β → Option α}
theorem ci {ret:Slot} {objs':List AObj} (e:CallC P f A objs ret objs') (ms:List (Option Ty)) (bk sn:List Nat) (fl:Bool) (h:To (a.ie (.call ms bk sn fl ret objs') e) x G):To a x G:=h
theorem pi {z:Code} {o:Exit} {s s':St} (e:J6i P z s o s') (h:To (a.ie (.part o s') e) x G):To a x G:=h
theorem ca (ok:To w0 F fun u=>CallC P f A objs (ret u) (objs' u)) (ms:List (Option Ty)) (bk sn:List Nat) (fl:Bool)
  (h:∀ {u} {e:CallC P f A objs (ret u) (objs' u)},To (a.ie (.call ms bk sn fl (ret u) (objs' u)) e) (K u) G):To a (andThen F K) G:=bd ok fun {u e}=>h (u:=u) (e:=e)
theorem c0 (ok:To w0 F fun u=>CallC P f A objs (ret u) (objs' u)) (h:∀ {u} {e:CallC P f A objs (ret u) (objs' u)},To (a.ie (.call [] [] [] true (ret u) (objs' u)) e) (K u) G):To a (andThen F K) G:=bd ok fun {u e}=>h (u:=u) (e:=e)
theorem cb (ok:To w0 F fun u=>CallC P f A objs (ret u) (objs' u)) (bk:List Nat) (fl:Bool)
  (h:∀ {u} {e:CallC P f A objs (ret u) (objs' u)},To (a.ie (.call [] bk [] fl (ret u) (objs' u)) e) (K u) G):To a (andThen F K) G:=bd ok fun {u e}=>h (u:=u) (e:=e)
theorem cs (ok:To w0 F fun u=>CallC P f A objs (ret u) (objs' u)) (sn:List Nat) (fl:Bool)
  (h:∀ {u} {e:CallC P f A objs (ret u) (objs' u)},To (a.ie (.call [] [] sn fl (ret u) (objs' u)) e) (K u) G):To a (andThen F K) G:=bd ok fun {u e}=>h (u:=u) (e:=e)
theorem cq (ok:To w0 F fun u=>CallC P f A objs (ret u) (objs' u)) (h:∀ {u} {e:CallC P f A objs (ret u) (objs' u)},To ((a.ie .asis (rfl:([]:List AObj)=[])).ie (.call [] [] [] true (ret u) (objs' u)) e) (K u) G):To a (andThen F K) G:=bd ok fun {u e}=>h (u:=u) (e:=e)
theorem pt {z:Code} {s:St} {o:β→Exit} {s':β→St} (ok:To w0 F fun u=>J6i P z s (o u) (s' u)) (h:∀ {u} {e:J6i P z s (o u) (s' u)},To (a.ie (.part (o u) (s' u)) e) (K u) G):To a (andThen F K) G:=bd ok fun {u e}=>h (u:=u) (e:=e)
end
section
variable {α σ ρ : Type} {a : Wy}
theorem cn {f : FuncId} {fn : Func} (h : P.funcs[f]? = some fn) (h1 : (fn.name == "runtime.NumGoroutine") = false := by kernel_rfl) (h2 : fn.body.isNone = false := by kernel_rfl) : CanF P f fn := ⟨h, ⟨fn, h, h1, h2⟩⟩
theorem Env.lf (v:Env P T E) {f:FuncId} {fn:Func} (c:CanF P f fn) (pos:List Po) {z:α} {A:List Slot} {objs:List AObj} {ret:α→Slot} {objs':α→List AObj}
  (h:Jtz P T E fn a.its.reverse pos A objs=some (a.ps.reverse,ret z,objs' z)):To a (some z) (fun u=>CallC P f A objs (ret u) (objs' u)):=fun u hu=>by
 injection hu with hu; subst hu
 exact v.fun c.1 c.2 a.ev.back h
theorem Env.cc (v:Env P T E) {x:Code} {z:α} {s:St} {ex:α→Exit} {s':α→St} (h:evF P T E x a.its.reverse s=some (a.ps.reverse,ex z,s' z)):To a (some z) (fun u=>J6i P x s (ex u) (s' u)):=fun u hu=>by
 injection hu with hu; subst hu
 exact v.code a.ev.back h
theorem Env.nx (v:Env P T E) {x:Code} {s z:σ} {s1:σ→St} {ex:ρ→Exit} {s':ρ→St} (h:evF P T E x a.its.reverse (s1 s)=some (a.ps.reverse,.normal,s1 z)):To a (some (.inl z)) (fun r=>Jds P x s r s1 ex s'):=fun u hu=>by
 injection hu with hu; subst hu
 exact v.code a.ev.back h
theorem Env.clo (v:Env P T E) {f:FuncId} {fn:Func} (e:Ty) (c:CanF P f fn) {a0:List e.den}
  (hb:fn.body=some (.seq (J6l (J6u fn) [0]) (.seq (.seq (J6l (J6u fn) [1,0,0]) (.cond (.tmp 4) (J6l (J6u fn) [1,0,1,0]) .skip)) (J6l (J6u fn) [1,1]))):=by kernel_rfl)
  (hn:Nat.ble 1 fn.ntmps=true:=by kernel_rfl) (h0:evF P T E (J6l (J6u fn) [0]) [.sel [0] []] (entry fn [.v (.slice e) []] [])=some ([],.normal,⟨[(0,vl e [])],[],fn.ntmps,0⟩):=by kernel_rfl)
  (h1:evF P T E (J6l (J6u fn) [1,0,0]) [.sel [0,4] []] ⟨[(0,vl e [])],[],fn.ntmps,0⟩=some ([],.normal,⟨[(0,vl e []),(4,.anyb)],[],fn.ntmps,0⟩):=by kernel_rfl)
  (h2:evF P T E (J6l (J6u fn) [1,0,1,0]) [.promote 2 e,.sel [2] [0]] ⟨[(0,vl e []),(4,.anyb)],[],fn.ntmps,0⟩=some ([],.ret,⟨[(2,ow 0)],[rr e []],fn.ntmps,0⟩):=by kernel_rfl)
  (h3:evF P T E (J6l (J6u fn) [1,1]) [.sel [2] [1]] ⟨[(0,vl e []),(4,.anyb)],[],fn.ntmps,0⟩=some ([(List.length ([]:List e.den)+List.length ([]:List e.den)≤2147483648)],.ret,⟨[(2,ow 0)],[rr e []],fn.ntmps,0⟩):=by kernel_rfl)
  (hr:Jqz T ⟨[(2,ow 0)],[rr e []],fn.ntmps,0⟩ fn.results.toList=some (ow 0):=by kernel_rfl)
  (hx:∀ x r,Jtz P T E fn [.br false] [.sel [1]] [.v (.slice e) (x::r)] []=some ([(false:Bool)=false,List.length ([]:List e.den)+List.length (x::r)≤2147483648],ow 0,[rr e (x::r)]):=by intros; kernel_rfl) :
  To w0 (need (List.length a0≤2147483648) (some a0)) fun u=>CallC P f [.v (.slice e) a0] [] (ow 0) [rr e u]:=fun u h=>by
 obtain ⟨hl,h⟩:=Jj0 h
 injection h with h; subst h
 rcases a0 with _ | ⟨x,r⟩
 ·exact v.funAny c.1 c.2 (pos:=[.sel [0]]) hb hn h0 h1 rfl h2 (.c (by simp) .n) h3 hr rfl
 ·exact v.fun c.1 c.2 (.c rfl (.c (by simpa using hl) .n)) (hx x r)
def isOut:Exit→Bool
 | .normal=>false
 | _=>true
theorem Env.ot (v:Env P T E) {x:Code} {s:σ} {z:ρ} {s1:σ→St} {ex:ρ→Exit} {s':ρ→St} (h1:isOut (ex z)=true) (h:evF P T E x a.its.reverse (s1 s)=some (a.ps.reverse,ex z,s' z)):To a (some (.inr z)) (fun r=>Jds P x s r s1 ex s'):=fun u hu=>by
 injection hu with hu; subst hu
 exact ⟨fun e=>(by rw [e] at h1; cases h1),v.code a.ev.back h⟩
theorem lp {step:σ→Option (σ⊕ρ)} {f:Func} {p:List Nat} (s1:σ→St) {ex:ρ→Exit} {s':ρ→St} {s:σ} {s0:St} (h:∀ s,To w0 (step s) fun r=>Jds P (J6l (J6u f) (p++[0])) s r s1 ex s')
  (e:J6l (J6u f) p=.loop (J6l (J6u f) (p++[0])):=by kernel_rfl) (e0:s0=s1 s:=by kernel_rfl):To w0 (loop step s) fun r=>J6i P (J6l (J6u f) p) s0 (ex r) (s' r):=fun r hl=>by
 rw [e,e0]; exact J9x.of_stepR (fun s r hs=>h s r hs) s r hl
end
end Go.Ax

namespace Go.Ax
open Go Go.RowKit Go.Maps
set_option linter.unusedVariables false
set_option linter.unusedSimpArgs false
variable {P : Program} {T : Tab} {E : List Nat}
def Jtm (P:Program) (f:FuncId) (args:List Slot) (objs:List AObj) {α:Type} (S:α→Prop) (ret:α→Slot) (objs':α→List AObj):Prop:=
 Ja0 P f∧∀ (c:Ctx) (G:List GE) (vs:List Value),HRG c G objs c.w0→c.G0=G→ARel G c.w0 (okB c G objs c.w0) args vs→
  Calls P f vs.toArray c.w0 fun e w'=>∃ x,S x∧∃ v G',e=.returned v∧HRG c G' (objs' x) w'∧TRel G' w' (okB c G' (objs' x) w') (ret x) v∧Ext G G'
def OpsN (P:Program) (ops:Array Oper) (l:List Oper) (st:St) {α:Type} (S:α→Prop) (st':α→St):Prop:=
 ∀ (c:Ctx) (a:Act) (w:World),SR c st a w→∀ (Q:Exit→Act→World→Prop),(∀ x,S x→∀ a' w',SR c (st' x) a' w'→Q .normal a' w')→wpList P ops Q l a w
theorem OpsN.cons {α:Type} {S:α→Prop} {st':α→St} {ops:Array Oper} {o:Oper} {l:List Oper} {st st1:St} (hg:o.guard=none) (ho:OpOK P o st st1) (hl:OpsN P ops l st1 S st'):OpsN P ops (o::l) st S st':=by
 intro c a w hs Q hq
 refine wpList_step fun K hK=>?_
 rw [if_pos (by simp [Region.wanted,hg])]
 exact ho c a w hs _ _ fun a' w' h=>hK _ _ (hl c a' w' h Q hq)
theorem OpsN.call {α:Type} {S:α→Prop} {ret:α→Slot} {objs':α→List AObj} {ops:Array Oper} {o:Oper} {l:List Oper} {st:St} {st':α→St} {cl:Call} {f0:Operand} {f:FuncId} {cap:Slot} {as':List Slot} {back:List Nat}
  (hg:o.guard=none) (hd:∀ d,o.dst=some d→d < st.n) (hop:o.op=.call cl) (hcl:cl.callee=.value f0) (hf0:opnd st.slots f0=.fn f cap)
  (hp:Jnf st.heap back [] (cl.args.toList.map (opnd st.slots)++J9w cap) as') (hb:J8g st.heap back=true) (hcall:Jtm P f as' (lent st.heap back) S ret objs') (hle:∀ x,back.length≤(objs' x).length)
  (hl:∀ x,S x→Jb0 P ops l (putS o ((ret x).ren (unl st.heap.length back)) st (J7e st.heap back [] false (objs' x))) (st' x)):OpsN P ops (o::l) st S st':=by
 intro c a w hs0 Q hq
 obtain ⟨G,hs⟩:=hs0
 refine wpList_step fun K hK=>?_
 rw [if_pos (by simp [Region.wanted,hg])]
 have hfv:=J6v hs f0
 rw [hf0] at hfv
 obtain ⟨t,cs,⟨_,caps,rfl,hcap⟩,hpk⟩:=hfv
 rename_i ht
 subst ht
 have hpk:a.eval f0=.func (.func f) #[] caps.toArray:=by rw [hpk]; rfl
 have hcaps:=Jca _ hcap
 have hrel:ARel (back.map fun l=>G.getD l default) w (okB (J7t c G st.heap w back []) (back.map fun l=>G.getD l default) (lent st.heap back) w) as'
   ((cl.args.toList.map a.eval)++caps):=by
  obtain ⟨e,hget⟩:=hp.get
  refine ⟨by rw [← e]; simp [hcaps.1],fun i s' v hs' hv=>?_⟩
  obtain ⟨s,hs1,hs2⟩:=hget i s' hs'
  refine Jmj hs.toHRG hb (by simp) hs2 ?_
  rcases Nat.lt_or_ge i cl.args.toList.length with hi | hi
  ·rw [List.getElem?_append_left (by simpa using hi),List.getElem?_map] at hs1 hv
   cases hx:cl.args.toList[i]? with
   | none=>rw [hx] at hs1; cases hs1
   | some x=>
    rw [hx] at hs1 hv
    simp only [Option.map_some,Option.some.injEq] at hs1 hv
    subst hs1; subst hv
    exact J6v hs x
  ·rw [List.getElem?_append_right (by simpa using hi)] at hs1 hv
   simp only [List.length_map] at hs1 hv
   exact hcaps.2 _ s v hs1 hv
 have harr:(#[]++cl.args.map a.eval++caps.toArray)=((cl.args.toList.map a.eval)++caps).toArray:=by
  apply Array.toList_inj.1; simp
 obtain ⟨⟨fn,hfn,hnm,hbody⟩,hcall⟩:=hcall
 have hrun:(execOp a.eval o).run P w=.ok (.enter f ((cl.args.toList.map a.eval)++caps).toArray) w:=by
  have:=harr
  have hnm' : ¬ fn.name = "runtime.NumGoroutine" := by simpa using hnm
  have hbody':¬ fn.body=none:=by intro h; rw [h] at hbody; cases hbody
  simp [execOp,hop,resolve,hcl,hpk,Deferred.ofValue,invoke,callFunc,hfn,hnm',hbody',← this]
 simp only [Oper.wp,hrun,Oper.upon]
 refine Calls.mono (hcall (J7t c G st.heap w back []) _ _ (Jf6 hs.toHRG hb) rfl hrel) ?_
 rintro e w' ⟨x,hx,v,G2,rfl,h2,hv,hxt⟩
 obtain ⟨r1,r2,r3,r4⟩:=Jco (fl:=false) hs.toHRG hb (by simp) (hle x) (by simp) h2 hxt
 have hon:=hs.on r1 r2 r3
 have hvv:=r4 (ret x) v (by simp) hv
 refine hK _ _ (hl x hx c (a.put o.dst v) w' ?_ Q (hq x hx))
 unfold putS
 cases hdst:o.dst with
 | none=>exact ⟨_,hon⟩
 | some d=>exact ⟨_,hon.put (hd d hdst) hvv⟩
theorem J6i.seqN {α:Type} {S:α→Prop} {st1:α→St} {id:Nat} {ops:Array Oper} {y:Code} {st st':St} {o:Exit} (h:OpsN P ops ops.toList st S st1) (hy:∀ x,S x→J6i P y (st1 x) o st') :
  J6i P (.seq (.region id ops false) y) st o st':=by
 intro c a w hs
 refine wp_seq (Code.wp_mono (P:=P) (Q:=fun e a' w'=>e=.normal∧∃ x,S x∧SR c (st1 x) a' w') ?_ ?_)
 ·rintro e a w ⟨rfl,x,hx,h1⟩
  exact hy x hx c a w h1
 ·exact wp_region_list (h c a w hs _ fun x hx a' w' h'=>⟨rfl,x,hx,h'⟩)
theorem Jtm.collect {f kf it:Nat} (hc:Ja0 P f) (h:∀ (w:World) (Bm b q:Nat) (es:Array MapEntry),Bm < w.heap.size→b < w.heap.size→w.cell? ⟨Bm,0,none⟩=some (.map (some b))→w.heap[b]?=some (.map es q)→J8d es q→
   (∀ e ∈ es.toList,e.key=encZ (keyZ e))→es.size≤1000→Calls P f #[.func (.func kf) #[] #[.pointer (some ⟨Bm,0,none⟩)]] w fun e w'=>∃ (v:Value) (ss:List Int),e=.returned v∧ss.Perm (es.toList.map keyZ)∧
    w'.ownsRow w.heap.size it 1 v ss.length (ss.map encZ)∧(v=.slice none 0 0↔ss=[])∧Below w.heap.size w w') {v:Ty} {es:List (Int×v.den)} {lb lm:Bool} (hl:List.length es≤1000) :
  Jtm P f [.fn kf (.tup (.ptr 0 []) .tnil)] [.box .mp (.mp 1) lb,.map (.int .i64) v es lm] (fun ss:List Int=>ss.Perm (es.map (·.1))) (fun _=>.own 2 []) (fun ss=>[.box .mp (.mp 1) lb,.map (.int .i64) v es lm,.row (.int .i64) ss true]):=by
 refine ⟨hc,fun c G vs hh hG hv=>?_⟩
 have hlen:=hh.len
 match vs,hv with
 | [fv],hv=>
  obtain ⟨t,cs,⟨rfl,us,rfl,hus⟩,rfl⟩:=hv.2 0 _ _ rfl rfl
  obtain ⟨p,us',rfl,⟨t,cs,⟨rfl,g0,pv,hg0,rfl,hk0,Bm,o,t',hb0,⟨rfl,_⟩,rfl⟩,rfl⟩,hus'⟩:=hus
  have hus':us'=[]:=hus'
  subst hus'
  obtain ⟨_,_,b1,cc,TT,hb1,hw1,hs1⟩:=hh.objs 0 _ g0 rfl hg0
  rw [hb0] at hb1; injection hb1 with hb1; subst hb1
  obtain ⟨_,gm,b,hgm,hkm,hbm,hcc⟩:=hs1
  have hcell:c.w0.cell? ⟨Bm,0,none⟩=some (.map (some b)):=by
   have:cc=#[.map (some b)]:=by apply Array.toList_inj.1; rw [hcc]
   subst this
   simp [World.cell?,hw1]
  obtain ⟨_,b2,es',q,hb2,hw2,hR,hB⟩:=hh.objs 1 _ gm rfl hgm
  rw [hbm] at hb2; injection hb2 with hb2; subst hb2
  have hsz:es'.size=List.length es:=by have:=Jhe hR; simpa using this
  have hkeys:es'.toList.map keyZ=es.map (·.1)∧∀ e ∈ es'.toList,e.key=encZ (keyZ e):=by
   exact Jiu hR
  refine Calls.mono (h c.w0 Bm b q es' (Array.getElem?_eq_some_iff.1 hw1).1 (Array.getElem?_eq_some_iff.1 hw2).1 hcell hw2 hB hkeys.2 (by omega)) ?_
  rintro e w' ⟨v',ss,rfl,hp,hrow,hnil,hbel⟩
  rw [hkeys.1] at hp
  refine ⟨ss,hp,?_⟩
  match G,hlen with
  | [_,_],_=>
  rcases hrow.2 with ⟨rfl,h0⟩ | ⟨gb,cap,cur,rfl,hbase,hgb,r1,r2,r3,r4⟩
  ·have he:ss=[]:=List.eq_nil_of_length_eq_zero h0
   subst he
   obtain ⟨q1,q2,_⟩:=hh.junk hbel.block hbel.size hbel.os hbel.tape hbel.output
   obtain ⟨q3,q4⟩:=q1.fresh (o:=.row (.int .i64) [] true) (g:=⟨.row,none,.int .i64,0,0⟩) rfl (fun ok'=>⟨rfl,rfl,rfl,Nat.le_refl _,.inl ⟨rfl,rfl⟩⟩)
   exact ⟨_,_,rfl,q3,⟨.slice (.int .i64),_,⟨⟨.row,none,.int .i64,0,0⟩,_,rfl,rfl,.inl ⟨rfl,rfl,rfl,rfl⟩⟩,rfl⟩,Ext.snoc _ _⟩
  ·have hcat:∀ (w:World) (ok:Nat→Prop) (xs:List Int),RepC w ok (.arr (List.length xs) (.int .i64)) (xs.map encZ) xs:=by
    intro w ok xs
    refine ⟨rfl,?_⟩
    induction xs with
    | nil=>rfl
    | cons x xs ih=>exact ⟨[encZ x],xs.map encZ,rfl,rfl,ih⟩
   obtain ⟨q3,q4⟩:=hh.grow0 hbel.block hbel.size hbel.os hbel.tape hbel.output hbase (Array.getElem?_eq_some_iff.1 hgb).1 (o:=.row (.int .i64) ss true) (g:=⟨.row,some gb,.int .i64,List.length ss,cap⟩) rfl
    (fun ok' k=>⟨rfl,rfl,rfl,r1,.inr ⟨gb,cur,it,rfl,hgb,by rw [r3]; exact Nat.le_refl _,by
     show RepC w' ok' (.arr (List.length ss) (.int .i64)) (cur.toList.take (List.length ss * 1)) _
     rw [r4]; exact hcat _ _ _⟩⟩)
   exact ⟨_,_,rfl,q3,⟨.slice (.int .i64),_,⟨⟨.row,some gb,.int .i64,List.length ss,cap⟩,_,rfl,rfl,.inl ⟨rfl,rfl,rfl,rfl⟩⟩,rfl⟩,Ext.snoc _ _⟩
 | [],hv=>exact absurd hv.1 (by simp)
 | _::_::_,hv=>exact absurd hv.1 (by simp)
def insI (x:Int):List Int→List Int
 | []=>[x]
 | y::r=>if x≤y then x::y::r else y::insI x r
def srtI:List Int→List Int
 | []=>[]
 | x::r=>insI x (srtI r)
open Classical in
noncomputable def Jul {α:Type} (c:Prop) (k:Option α):Option α:=if c then k else none
theorem Jum {α:Type} {c:Prop} {k:Option α} {r:α} (h:Jul c k=some r):c∧k=some r:=by
 unfold Jul at h
 split at h
 ·rename_i hc; exact ⟨hc,h⟩
 ·cases h
theorem Jun {α:Type} {c:Prop} {k:Option α} (h:c):Jul c k=k:=by unfold Jul; rw [if_pos h]
end Go.Ax
namespace Go.Ax
open Go
variable {P : Program} {T : Tab} {E : List Nat}
theorem Env.sorted (v:Env P T E) {f cf sf kf:FuncId} {fn:Func} {id:Nat} {o1 o2 o3:Oper} {r0 rest:Code} {cl:Call} {f0:Operand} {vt:Ty} {es:List (Int×vt.den)} {lb lm:Bool} {st0 st4:St} {st3:List Int→St} {s1 r:Slot} {h1:List AObj} {pos:List Po}
  (c:CanF P f fn) (hN:Jtm P cf [.fn kf (.tup (.ptr 0 []) .tnil)] [.box .mp (.mp 1) lb,.map (.int .i64) vt es lm] (fun ss:List Int=>ss.Perm (es.map (·.1))) (fun _=>.own 2 []) (fun ss=>[.box .mp (.mp 1) lb,.map (.int .i64) vt es lm,.row (.int .i64) ss true]))
  (hs:∀ ss:List Int,ss.Perm (es.map (·.1))→CallC P sf [.own 0 []] [.row (.int .i64) ss true] .tnil [.row (.int .i64) (srtI (es.map (·.1))) true])
  (hb:fn.body=some (.seq r0 (.seq (.region id #[o1,o2,o3] false) rest))) (hn:Nat.ble 1 fn.ntmps=true)
  (h0:evF P T E r0 [] (entry fn [.fn kf (.tup (.ptr 0 []) .tnil)] [.box .mp (.mp 1) lb,.map (.int .i64) vt es lm])=some ([],.normal,st0))
  (g1:o1.guard=none) (e1:Jet P T E st0.slots st0.heap [] o1.op=some ([],s1,h1,[])) (d1:dstB o1 st0.n=true)
  (g2:o2.guard=none) (hop:o2.op=.call cl) (hcl:cl.callee=.value f0) (hf0:opnd (putS o1 s1 st0 h1).slots f0=.fn cf .tnil)
  (hp:Ja2 (putS o1 s1 st0 h1).heap [0,1] [] [] (cl.args.toList.map (opnd (putS o1 s1 st0 h1).slots)++J9w .tnil)=some [.fn kf (.tup (.ptr 0 []) .tnil)])
  (hl:J8g (putS o1 s1 st0 h1).heap [0,1]=true) (hle:lent (putS o1 s1 st0 h1).heap [0,1]=[.box .mp (.mp 1) lb,.map (.int .i64) vt es lm]) (d2:dstB o2 (putS o1 s1 st0 h1).n=true)
  (e3:∀ ss,Ji4 P T E #[o1,o2,o3] [o3] [] (putS o2 ((Slot.own 2 []).ren (unl (putS o1 s1 st0 h1).heap.length [0,1])) (putS o1 s1 st0 h1) (J7e (putS o1 s1 st0 h1).heap [0,1] [] false [.box .mp (.mp 1) lb,.map (.int .i64) vt es lm,.row (.int .i64) ss true]))=some ([],[],st3 ss))
  (e4:∀ ss,evF P T E rest [.call [] [2] [] false .tnil [.row (.int .i64) (srtI (es.map (·.1))) true]] (st3 ss)=some ([CallC P sf [.own 0 []] [.row (.int .i64) ss true] .tnil [.row (.int .i64) (srtI (es.map (·.1))) true]],.ret,st4))
  (hr:Jqz T st4 fn.results.toList=some r) (hpo:Ja3 2 pos r st4.heap=some (.own 2 [],[.box .mp (.mp 1) lb,.map (.int .i64) vt es lm,.row (.int .i64) (srtI (es.map (·.1))) true])) :
  CallC P f [.fn kf (.tup (.ptr 0 []) .tnil)] [.box .mp (.mp 1) lb,.map (.int .i64) vt es lm] (.own 2 []) [.box .mp (.mp 1) lb,.map (.int .i64) vt es lm,.row (.int .i64) (srtI (es.map (·.1))) true]:=by
 refine .mk c.2 (Jhn.body c.1 hb (Nat.le_of_ble_eq_true hn) ?_ (.inr rfl) (Jmt v.tab hr) (J8q hpo))
 refine J6i.seq (v.code (ps:=[]) trivial h0) ?_
 refine J6i.seqN (S:=fun ss:List Int=>ss.Perm (es.map (·.1))) (st1:=st3) (OpsN.cons g1 ((Jb8 v.tab v.eq e1 trivial).ok (Jcp d1)) ?_) fun ss hss=>v.code (ps:=[_]) ⟨hs ss hss,trivial⟩ (e4 ss)
 refine OpsN.call (S:=fun ss:List Int=>ss.Perm (es.map (·.1))) (ret:=fun _=>.own 2 []) (objs':=fun ss=>[.box .mp (.mp 1) lb,.map (.int .i64) vt es lm,.row (.int .i64) ss true]) g2 (Jcp d2) hop hcl hf0 (Jc2 hp) hl (by rw [hle]; exact hN) (fun _=>by simp) fun ss _=>?_
 exact Jdd v.tab v.eq _ _ _ _ _ _ (e3 ss) trivial
def opAt:Code→Nat→Oper
 | .region _ ops _,i=>ops.getD i default
 | _,_=>default
def idAt:Code→Nat
 | .region id _ _=>id
 | _=>0
def Jnp (o:Oper):Call:=match o.op with | .call c=>c | _=>⟨.builtin .len,#[],#[]⟩
def valAt (c:Call):Operand:=match c.callee with | .value x=>x | _=>.tmp 0
def stF:Option (List Prop×Exit×St)→St
 | some (_,_,s)=>s
 | none=>⟨[],[],0,0⟩
def stO:Option (List Prop×List It×St)→St
 | some (_,_,s)=>s
 | none=>⟨[],[],0,0⟩
def slX:Option (List Prop×Slot×List AObj×List It)→Slot
 | some (_,s,_)=>s
 | none=>.undef
def hpX:Option (List Prop×Slot×List AObj×List It)→List AObj
 | some (_,_,h,_)=>h
 | none=>[]
section
variable (P : Program) (T : Tab) (E : List Nat) (fn : Func) (kf : FuncId) (vt : Ty) (es : List (Int × vt.den)) (lb lm : Bool)
def sS0:St:=stF (evF P T E (J6l (J6u fn) [0]) [] (entry fn [.fn kf (.tup (.ptr 0 []) .tnil)] [.box .mp (.mp 1) lb,.map (.int .i64) vt es lm]))
def sO (i:Nat):Oper:=opAt (J6l (J6u fn) [1,0]) i
def sX1:=Jet P T E (sS0 P T E fn kf vt es lb lm).slots (sS0 P T E fn kf vt es lb lm).heap [] (sO fn 0).op
def sS1:St:=putS (sO fn 0) (slX (sX1 P T E fn kf vt es lb lm)) (sS0 P T E fn kf vt es lb lm) (hpX (sX1 P T E fn kf vt es lb lm))
def sS2 (ss:List Int):St:=putS (sO fn 1) ((Slot.own 2 []).ren (unl (sS1 P T E fn kf vt es lb lm).heap.length [0,1])) (sS1 P T E fn kf vt es lb lm) (J7e (sS1 P T E fn kf vt es lb lm).heap [0,1] [] false [.box .mp (.mp 1) lb,.map (.int .i64) vt es lm,.row (.int .i64) ss true])
def sS3 (ss:List Int):St:=stO (Ji4 P T E #[sO fn 0,sO fn 1,sO fn 2] [sO fn 2] [] (sS2 P T E fn kf vt es lb lm ss))
def sS4:St:=stF (evF P T E (J6l (J6u fn) [1,1]) [.call [] [2] [] false .tnil [.row (.int .i64) (srtI (es.map (·.1))) true]] (sS3 P T E fn kf vt es lb lm []))
end
theorem Env.srt (v:Env P T E) {f cf sf kf:FuncId} {fn:Func} {vt:Ty} {es:List (Int×vt.den)} {lb lm:Bool} (c:CanF P f fn)
  (hN:Jtm P cf [.fn kf (.tup (.ptr 0 []) .tnil)] [.box .mp (.mp 1) lb,.map (.int .i64) vt es lm] (fun ss:List Int=>ss.Perm (es.map (·.1))) (fun _=>.own 2 []) (fun ss=>[.box .mp (.mp 1) lb,.map (.int .i64) vt es lm,.row (.int .i64) ss true]))
  (hs:∀ ss:List Int,ss.Perm (es.map (·.1))→CallC P sf [.own 0 []] [.row (.int .i64) ss true] .tnil [.row (.int .i64) (srtI (es.map (·.1))) true])
  (hb:fn.body=some (.seq (J6l (J6u fn) [0]) (.seq (.region (idAt (J6l (J6u fn) [1,0])) #[sO fn 0,sO fn 1,sO fn 2] false) (J6l (J6u fn) [1,1]))):=by kernel_rfl) (hn:Nat.ble 1 fn.ntmps=true:=by kernel_rfl)
  (h0:evF P T E (J6l (J6u fn) [0]) [] (entry fn [.fn kf (.tup (.ptr 0 []) .tnil)] [.box .mp (.mp 1) lb,.map (.int .i64) vt es lm])=some ([],.normal,sS0 P T E fn kf vt es lb lm):=by kernel_rfl)
  (g1:(sO fn 0).guard=none:=by kernel_rfl) (e1:sX1 P T E fn kf vt es lb lm=some ([],slX (sX1 P T E fn kf vt es lb lm),hpX (sX1 P T E fn kf vt es lb lm),[]):=by kernel_rfl) (d1:dstB (sO fn 0) (sS0 P T E fn kf vt es lb lm).n=true:=by kernel_rfl)
  (g2:(sO fn 1).guard=none:=by kernel_rfl) (hop:(sO fn 1).op=.call (Jnp (sO fn 1)):=by kernel_rfl) (hcl:(Jnp (sO fn 1)).callee=.value (valAt (Jnp (sO fn 1))):=by kernel_rfl)
  (hf0:opnd (sS1 P T E fn kf vt es lb lm).slots (valAt (Jnp (sO fn 1)))=.fn cf .tnil:=by kernel_rfl)
  (hp:Ja2 (sS1 P T E fn kf vt es lb lm).heap [0,1] [] [] ((Jnp (sO fn 1)).args.toList.map (opnd (sS1 P T E fn kf vt es lb lm).slots)++J9w .tnil)=some [.fn kf (.tup (.ptr 0 []) .tnil)]:=by kernel_rfl)
  (hl:J8g (sS1 P T E fn kf vt es lb lm).heap [0,1]=true:=by kernel_rfl) (hle:lent (sS1 P T E fn kf vt es lb lm).heap [0,1]=[.box .mp (.mp 1) lb,.map (.int .i64) vt es lm]:=by kernel_rfl) (d2:dstB (sO fn 1) (sS1 P T E fn kf vt es lb lm).n=true:=by kernel_rfl)
  (e3:∀ ss,Ji4 P T E #[sO fn 0,sO fn 1,sO fn 2] [sO fn 2] [] (sS2 P T E fn kf vt es lb lm ss)=some ([],[],sS3 P T E fn kf vt es lb lm ss):=by intros; kernel_rfl)
  (e4:∀ ss,evF P T E (J6l (J6u fn) [1,1]) [.call [] [2] [] false .tnil [.row (.int .i64) (srtI (es.map (·.1))) true]] (sS3 P T E fn kf vt es lb lm ss)=some ([CallC P sf [.own 0 []] [.row (.int .i64) ss true] .tnil [.row (.int .i64) (srtI (es.map (·.1))) true]],.ret,sS4 P T E fn kf vt es lb lm):=by intros; kernel_rfl)
  (hr:Jqz T (sS4 P T E fn kf vt es lb lm) fn.results.toList=some (.own 2 []):=by kernel_rfl) (hpo:Ja3 2 [.sel [0,1,2]] (.own 2 []) (sS4 P T E fn kf vt es lb lm).heap=some (.own 2 [],[.box .mp (.mp 1) lb,.map (.int .i64) vt es lm,.row (.int .i64) (srtI (es.map (·.1))) true]):=by kernel_rfl) :
  CallC P f [.fn kf (.tup (.ptr 0 []) .tnil)] [.box .mp (.mp 1) lb,.map (.int .i64) vt es lm] (.own 2 []) [.box .mp (.mp 1) lb,.map (.int .i64) vt es lm,.row (.int .i64) (srtI (es.map (·.1))) true]:=
 v.sorted (o1:=sO fn 0) (o2:=sO fn 1) (o3:=sO fn 2) c hN hs hb hn h0 g1 e1 d1 g2 hop hcl hf0 hp hl hle d2 e3 e4 hr hpo
end Go.Ax

namespace Go.Ax
open Go
set_option linter.unusedVariables false
set_option linter.unusedSimpArgs false
variable {P : Program} {T : Tab} {E : List Nat}
def allM {α:Type} (l:List α) (f:α→Bool):Option Unit:=if l.all f then some () else none
theorem Jvh {α:Type} {l:List α} {f:α→Bool} {u:Unit} (h:allM l f=some u):∀ x ∈ l,f x=true:=by
 unfold allM at h
 split at h
 ·rename_i hc; exact List.all_eq_true.1 hc
 ·cases h
inductive OKi where
 | mv (d s:Nat) | rng (d t s:Nat) | nxt (d s:Nat) | ext (d s k:Nat) | ent (d s:Nat) | lku (d t m k:Nat) | neq (d a b:Nat)
def opKi (o:Oper):Option OKi:=match o.guard,o.dst with
 | none,some d=>match o.op with
  | .move (.tmp s)=>some (.mv d s)
  | .assign (.tmp s)=>some (.mv d s)
  | .range t (.tmp s)=>some (.rng d t s)
  | .next (.tmp s) false=>some (.nxt d s)
  | .extract (.tmp s) k=>some (.ext d s k)
  | .entry (.tmp s)=>some (.ent d s)
  | .lookup t (.tmp m) (.tmp k) false=>some (.lku d t m k)
  | .binOp .neq _ (.tmp a) (.tmp b) _=>some (.neq d a b)
  | _=>none
 | _,_=>none
theorem J7g {o:Oper} {l:List Oper} {ops:Array Oper} {a:Act} {w w':World} {Q:Exit→Act→World→Prop} {v:Value} (hg:o.guard=none) (hrun:(execOp a.eval o).run P w=.ok (.value v) w')
  (hK:wpList P ops Q l (a.put o.dst v) w'):wpList P ops Q (o::l) a w:=wpList_plain hg fun K hK'=>by
 simp only [Oper.wp,hrun,Oper.upon]
 exact hK' _ _ hK
section
variable {o : Oper} (a : Act) (w : World)
theorem Jua {d s:Nat} (h:opKi o=some (.mv d s)):o.guard=none∧o.dst=some d∧(execOp a.eval o).run P w=.ok (.value (a.tmps.getD s undef)) w:=by
 unfold opKi at h
 split at h
 ·rename_i d' hg hd
  split at h <;> rename_i hop <;> (try cases h)
  ·exact ⟨hg,hd,by simp [execOp,hop,Act.eval]⟩
  ·exact ⟨hg,hd,by simp [execOp,hop,Act.eval]⟩
 ·cases h
theorem ki_rng {d t s:Nat} (h:opKi o=some (.rng d t s)):o.guard=none∧o.dst=some d∧∀ x v w',a.tmps.getD s undef=x→(Instr.range t x).run P w=.ok v w'→(execOp a.eval o).run P w=.ok (.value v) w':=by
 unfold opKi at h
 split at h
 ·rename_i d' hg hd
  split at h <;> rename_i hop <;> (try cases h)
  exact ⟨hg,hd,fun x v w' h1 hr=>by
   have e:a.eval (.tmp s)=x:=h1
   simp [execOp,hop,e,hr,Result.andThen]⟩
 ·cases h
theorem K1u {d s:Nat} (h:opKi o=some (.nxt d s)):o.guard=none∧o.dst=some d∧∀ x v w',a.tmps.getD s undef=x→(Instr.next x false o.type).run P w=.ok v w'→(execOp a.eval o).run P w=.ok (.value v) w':=by
 unfold opKi at h
 split at h
 ·rename_i d' hg hd
  split at h <;> rename_i hop <;> (try cases h)
  exact ⟨hg,hd,fun x v w' h1 hr=>by
   have e:a.eval (.tmp s)=x:=h1
   simp [execOp,hop,e,hr,Result.andThen]⟩
 ·cases h
theorem ki_ent {d s:Nat} (h:opKi o=some (.ent d s)):o.guard=none∧o.dst=some d∧∀ x v w',a.tmps.getD s undef=x→(Instr.entry x).run P w=.ok v w'→(execOp a.eval o).run P w=.ok (.value v) w':=by
 unfold opKi at h
 split at h
 ·rename_i d' hg hd
  split at h <;> rename_i hop <;> (try cases h)
  exact ⟨hg,hd,fun x v w' h1 hr=>by
   have e:a.eval (.tmp s)=x:=h1
   simp [execOp,hop,e,hr,Result.andThen]⟩
 ·cases h
theorem Js9 {d s k:Nat} (h:opKi o=some (.ext d s k)):o.guard=none∧o.dst=some d∧∀ vs v,a.tmps.getD s undef=.tuple vs→vs[k]?=some v→(execOp a.eval o).run P w=.ok (.value v) w:=by
 unfold opKi at h
 split at h
 ·rename_i d' hg hd
  split at h <;> rename_i hop <;> (try cases h)
  exact ⟨hg,hd,fun vs v h1 h2=>by
   have e:a.eval (.tmp s)=.tuple vs:=h1
   simp [execOp,hop,e,Instr.extract,h2,Result.andThen]⟩
 ·cases h
theorem ki_lku {d t m k:Nat} (h:opKi o=some (.lku d t m k)):o.guard=none∧o.dst=some d∧∀ x y v w',a.tmps.getD m undef=x→a.tmps.getD k undef=y→(Instr.lookup t x y false).run P w=.ok v w'→(execOp a.eval o).run P w=.ok (.value v) w':=by
 unfold opKi at h
 split at h
 ·rename_i d' hg hd
  split at h <;> rename_i hop <;> (try cases h)
  exact ⟨hg,hd,fun x y v w' h1 h2 hr=>by
   have e1:a.eval (.tmp m)=x:=h1
   have e2:a.eval (.tmp k)=y:=h2
   simp [execOp,hop,e1,e2,hr,Result.andThen]⟩
 ·cases h
theorem ki_neq {d x y:Nat} (h:opKi o=some (.neq d x y)):o.guard=none∧o.dst=some d∧∀ m n:Int,a.tmps.getD x undef=.int .i64 m→a.tmps.getD y undef=.int .i64 n→(execOp a.eval o).run P w=.ok (.value (.bool (!decide (m=n)))) w:=by
 unfold opKi at h
 split at h
 ·rename_i d' hg hd
  split at h <;> rename_i hop <;> (try cases h)
  refine ⟨hg,hd,fun m n h1 h2=>?_⟩
  obtain ⟨t1,t2,hop⟩:∃ t1 t2,o.op=.binOp .neq t1 (.tmp x) (.tmp y) t2:=⟨_,_,hop⟩
  obtain ⟨v,hr,hv⟩:=Jnl (P:=P) (op:=.neq) (x:=m) (y:=n) rfl trivial t1 w
  obtain ⟨_,_,⟨rfl,h3⟩,rfl⟩:=hv [] (fun _=>True)
  simp only [RepC] at h3
  subst h3
  have e1:a.eval (.tmp x)=.int .i64 m:=h1
  have e2:a.eval (.tmp y)=.int .i64 n:=h2
  simp [execOp,hop,e1,e2,hr,Result.andThen]
  rfl
 ·cases h
end
theorem Jlo {w:World} {ok:Nat→Prop} {cs:List Value} {x:Int} (h:RepC w ok (.int .i64) cs x):cs=[.int .i64 x]:=h
theorem Jug (hT:J78 P T) {c:Ctx} {G:List GE} {h:List AObj} {w:World} (hh:HRG c G h w) {l:Nat} {es:List (Int×Int)} {lv:Bool} {m:Value} {ok:Nat→Prop} (ho:J6q h l=.map (.int .i64) (.int .i64) es lv) (hm:TRel G w ok (.mp l) m)
  {t kt et:Nat} (hu:P.underlying t=some (.map kt et)) (hkb:keyB P T kt (.int .i64)=true) (het:T.ty et=some (.int .i64)) (x:Int) :
  (Instr.lookup t m (.int .i64 x) false).run P w=.ok (.int .i64 (Option.getD (J6o (Ty.beq (.int .i64)) x es) 0)) w:=by
 obtain ⟨by_,hget⟩:=Tab.ty_get het
 have hI:=hT _ _ _ hget
 have K:=Js7 hT hkb
 have hkr:RepC w (okB c G h w) (.int .i64) [.int .i64 x] x:=rfl
 obtain ⟨hl,g,b,es',q,hg,hb,hme,hheap,hkind,hR,hB⟩:=Jiv hh ho hm
 have hfind:=K.find w _ (.int .i64) x _ es es'.toList hkr hR
 have hcheck:=fun e=>K.check e w _ x _ hkr
 obtain ⟨z1,z2,z3⟩:=K2e (v:=.int .i64) (z:=(0:Int)) rfl G w (okB c G h w)
 have hzr:=hI.run_zero z1 z2 w
 have hzz:=Jlo z3
 have hp:∀ y:Int,pack (.int .i64) [Value.int .i64 y]=.int .i64 y:=fun y=>rfl
 rcases Jit K.comp (K.uniq w _) hkr hR with ⟨q1,q2,q3,_⟩ | ⟨j,e,y,c2,q1,q2,q3,q4,q5,q6,q7,_⟩
 ·rw [show Ty.beq (.int .i64)=(Ty.int .i64).beq from rfl,q1]
  rw [q2] at hfind
  have hfind:(Instr.findKey kt (.int .i64 x) es'.toList).run P w=.ok none w:=hfind
  have hcheck:∀ e,(Instr.checkKey e 10000 kt (.int .i64 x)).run P w=.ok () w:=hcheck
  simp [hme,Instr.lookup,run_underlying hu,MapKept.run_getObj_map hheap,hcheck,hfind,hzr,hzz,hp]
 ·rw [show Ty.beq (.int .i64)=(Ty.int .i64).beq from rfl,q1]
  have hat:atOf es'.toList 0 (some j)=some (j,e.val):=by
   show (es'.toList[j]?).map _=_
   rw [q3,Option.map_some,Nat.zero_add]
  rw [q2,hat] at hfind
  have hfind:(Instr.findKey kt (.int .i64 x) es'.toList).run P w=.ok (some (j,e.val)) w:=hfind
  have hcheck:∀ e,(Instr.checkKey e 10000 kt (.int .i64 x)).run P w=.ok () w:=hcheck
  have q5:=Jlo q5
  subst q5
  simp [hme,Instr.lookup,run_underlying hu,MapKept.run_getObj_map hheap,hcheck,hfind,q6,hp]
theorem Jsg {w:World} {ok:Nat→Prop}:∀ {ps:List (Int×Int)} {es:List MapEntry},MapR w ok (.int .i64) (.int .i64) ps es→∀ e ∈ es,∃ p ∈ ps,e.key=.int .i64 p.1∧e.val=.int .i64 p.2
 | [],[],_,e,he=>by cases he
 | p::ps,d::es,⟨⟨⟨c1,h1,h2⟩,c2,h3,h4⟩,h5⟩,e,he=>by
  rcases List.mem_cons.1 he with rfl | he
  ·have h1:=Jlo h1; have h3:=Jlo h3
   subst h1; subst h3
   exact ⟨p,List.mem_cons_self ..,h2,h4⟩
  ·obtain ⟨q,hq,r⟩:=Jsg h5 e he
   exact ⟨q,List.mem_cons_of_mem _ hq,r⟩
 | [],_::_,h,_,_=>h.elim
 | _::_,[],h,_,_=>h.elim
def Jqw:List Nat:=[119,120,121,122,123,124,125,18,19,126,127,128,129,130]
structure RInv (a0:Act) (wb:World) (a:Act) (w:World):Prop where
 size:a.tmps.size=a0.tmps.size
 df:a.defers=a0.defers
 keep:∀ i,i ∉ Jqw→a.tmps.getD i undef=a0.tmps.getD i undef
 it:a.tmps.getD 120 undef=.pointer (some ⟨wb.heap.size,0,none⟩)
 old:∀ b,b < wb.heap.size→w.heap[b]?=wb.heap[b]?
 hs:w.heap.size=wb.heap.size+1
 os:w.os=wb.os
 tape:w.tape=wb.tape
 out:w.output=wb.output
theorem gP {a:Act} {d i:Nat} {v:Value} (hd:d < a.tmps.size):(a.put (some d) v).tmps.getD i undef=if d=i then v else a.tmps.getD i undef:=Jex hd
theorem sP (a:Act) (d:Nat) (v:Value):(a.put (some d) v).tmps.size=a.tmps.size:=by show (a.tmps.setIfInBounds d v).size=_; rw [Array.size_setIfInBounds]
theorem RInv.put {a0:Act} {wb:World} {a:Act} {w:World} (h:RInv a0 wb a w) {d:Nat} (v:Value) (hm:d ∈ Jqw) (hd:d≠120) (hn:131≤a0.tmps.size) (hd2:d < 131):RInv a0 wb (a.put (some d) v) w:=by
 have hsz:d < a.tmps.size:=by rw [h.size]; omega
 exact { h with
  size:=(sP a d v).trans h.size
  df:=h.df
  keep:=fun i hi=>by
   have hne:¬ d=i:=fun e=>hi (e ▸ hm)
   rw [gP hsz,if_neg hne]; exact h.keep i hi
  it:=by rw [gP hsz,if_neg hd]; exact h.it }
section
variable {i0 i1 i2 i3 b b2 mt kt et : Nat} {o0 o1 o2 o3 o4 o5 o6 o7 o8 o9 o10 o11 o12 o13 : Oper} {z : Code}
theorem Jyi {a0:Act} {wb:World} {a:Act} {w:World} {x:Code} {ops:Array Oper} {R:Act→World→Prop} (hi:RInv a0 wb a w) (hsz0:131≤a0.tmps.size) (g2:o2.guard=none) (d2:o2.dst=some 121) (hrun:(execOp a.eval o2).run P w=.ok (.value (.tuple #[.bool false])) w) (h3:opKi o3=some (.ext 122 121 0)) :
  wpList P ops (Exit.then ((Code.seq (.cond (.tmp 122) .skip (.exit b)) x).wp P (Exit.then R (fun e a' w'=>e=.exit b∧RInv a0 wb a' w'))) (Exit.then R (fun e a' w'=>e=.exit b∧RInv a0 wb a' w'))) [o2,o3] a w:=by
 have hsz:∀ {x:Act},RInv a0 wb x w→∀ d,d < 131→d < x.tmps.size:=fun h d hd=>by rw [h.size]; omega
 refine J7g g2 hrun ?_
 rw [d2]
 have i1:=hi.put (d:=121) (.tuple #[.bool false]) (by decide) (by decide) hsz0 (by decide)
 have t1:(a.put (some 121) (.tuple #[.bool false])).tmps.getD 121 undef=.tuple #[.bool false]:=by rw [gP (hsz hi 121 (by decide)),if_pos rfl]
 generalize a.put (some 121) (.tuple #[.bool false])=a1 at i1 t1
 obtain ⟨g3,d3,f3⟩:=Js9 (P:=P) a1 w h3
 refine J7g g3 (f3 _ (.bool false) t1 rfl) ?_
 rw [d3]
 have i2:=i1.put (d:=122) (.bool false) (by decide) (by decide) hsz0 (by decide)
 have t2:(a1.put (some 122) (.bool false)).tmps.getD 122 undef=.bool false:=by rw [gP (hsz i1 122 (by decide)),if_pos rfl]
 generalize a1.put (some 122) (.bool false)=a2 at i2 t2
 show (Code.seq _ _).wp P _ a2 w
 exact wp_seq (wp_cond (t:=false) t2 (wp_exit ⟨rfl,i2⟩))
theorem rng_go (hT:J78 P T) {c:Ctx} {G:List GE} {st:St} {a0:Act} {wb:World} (hs:SRG c G st a0 wb) (hn:131≤st.n) {lg:Nat} {es gs:List (Int×Int)} {lv:Bool} (hlg:look st.slots 15=.mp lg) (hog:J6q st.heap lg=.map (.int .i64) (.int .i64) gs lv)
  (hu:P.underlying mt=some (.map kt et)) (hkb:keyB P T kt (.int .i64)=true) (het:T.ty et=some (.int .i64)) {bm q:Nat} {es':Array MapEntry} (hb:wb.heap[bm]?=some (.map es' q)) (hB:J8d es' q) (hE:∀ e ∈ es'.toList,∃ p ∈ es,e.key=.int .i64 p.1∧e.val=.int .i64 p.2)
  (hf:∀ p ∈ es,Option.getD (J6o (Ty.beq (.int .i64)) p.1 gs) 0=p.2)
  (h2:opKi o2=some (.nxt 121 120)) (h3:opKi o3=some (.ext 122 121 0)) (h4:opKi o4=some (.ent 123 120)) (h5:opKi o5=some (.ext 124 123 0)) (h6:opKi o6=some (.ext 125 123 1)) (h7:opKi o7=some (.mv 18 124)) (h8:opKi o8=some (.mv 19 125))
  (h9:opKi o9=some (.mv 126 15)) (h10:opKi o10=some (.mv 127 18)) (h11:opKi o11=some (.lku 128 mt 126 127)) (h12:opKi o12=some (.mv 129 19)) (h13:opKi o13=some (.neq 130 128 129)) :
  ∀ (k:Nat) (seen:Array Nat) (c0:Nat) (a:Act) (w:World),(leftOf es' seen).size≤k→RInv a0 wb a w→w.heap[wb.heap.size]?=some (.mapIter (some bm) q seen c0)→q≤c0→
   Code.rounds P (.seq (.region i1 #[o2,o3] false) (.seq (.cond (.tmp 122) .skip (.exit b)) (.block b2 (.seq (.region i2 #[o4,o5,o6,o7,o8] false) (.seq (.region i3 #[o9,o10,o11,o12,o13] false) (.cond (.tmp 130) z .skip))))))
    (fun e a' w'=>e=.exit b∧RInv a0 wb a' w') (k+1) a w:=by
 have hsz0:131≤a0.tmps.size:=by rw [hs.sz]; exact hn
 have hbl:bm < wb.heap.size:=(Array.getElem?_eq_some_iff.1 hb).1
 intro k
 induction k with
 | zero=>
  intro seen c0 a w hk hi hr hsc
  rw [rounds_succ]
  refine wp_seq (wp_region_list ?_)
  obtain ⟨g2,d2,f2⟩:=K1u (P:=P) a w h2
  have hbm:w.heap[bm]?=some (.map es' q):=by rw [hi.old bm hbl]; exact hb
  rcases run_next_at (P:=P) w o2.type wb.heap.size bm q c0 seen es' q hr hbm hB.1 hsc with ⟨h0,hrun⟩ | ⟨e,he,w1,hw1,hrun⟩
  ·exact Jyi hi hsz0 g2 d2 (f2 _ _ _ hi.it hrun) h3
  ·have:=List.length_pos_of_mem he
   rw [Array.length_toList] at this
   omega
 | succ k ih=>
  intro seen c0 a w hk hi hr hsc
  rw [rounds_succ]
  refine wp_seq (wp_region_list ?_)
  obtain ⟨g2,d2,f2⟩:=K1u (P:=P) a w h2
  have hbm:w.heap[bm]?=some (.map es' q):=by rw [hi.old bm hbl]; exact hb
  rcases run_next_at (P:=P) w o2.type wb.heap.size bm q c0 seen es' q hr hbm hB.1 hsc with ⟨h0,hrun⟩ | ⟨e,he,w1,hw1,hrun⟩
  ·exact Jyi hi hsz0 g2 d2 (f2 _ _ _ hi.it hrun) h3
  ·obtain ⟨hem,hes⟩:=mem_left he
   obtain ⟨p,hp,ek,ev⟩:=hE e hem
   have hrl:wb.heap.size < w1.heap.size:=by
    have h:=hi.hs
    rcases hw1 with e1 | e1
    ·rw [e1]; omega
    ·rw [e1]; show _ < w.heap.size; omega
   -- the world behind the step
   have hi2:RInv a0 wb a (Go.ChangeMaps.setBlock w1 wb.heap.size (.mapIter (some bm) q (seen.push e.born) q)):=by
    have hw:w1.heap=w.heap∧w1.os=w.os∧w1.tape=w.tape∧w1.output=w.output:=by rcases hw1 with rfl | rfl <;> exact ⟨rfl,rfl,rfl,rfl⟩
    obtain ⟨k1,k2,k3,k4⟩:=hw
    refine { hi with old:=fun x hx=>?_,hs:=?_,os:=k2.trans hi.os,tape:=k3.trans hi.tape,out:=k4.trans hi.out }
    ·show (w1.heap.setIfInBounds _ _)[x]?=_
     rw [Array.getElem?_setIfInBounds,if_neg (by omega),k1]; exact hi.old x hx
    ·show (w1.heap.setIfInBounds _ _).size=_
     rw [Array.size_setIfInBounds,k1]; exact hi.hs
   have hr2:(Go.ChangeMaps.setBlock w1 wb.heap.size (.mapIter (some bm) q (seen.push e.born) q)).heap[wb.heap.size]?=some (.mapIter (some bm) q (seen.push e.born) q):=by
    show (w1.heap.setIfInBounds _ _)[_]?=_
    rw [Array.getElem?_setIfInBounds,if_pos rfl,if_pos hrl]
   have hshr:=left_shrinks es' seen e he
   revert hrun hi2 hr2
   generalize Go.ChangeMaps.setBlock w1 wb.heap.size (.mapIter (some bm) q (seen.push e.born) q)=w2
   intro hrun hi2 hr2
   have hbm2:w2.heap[bm]?=some (.map es' q):=by rw [hi2.old bm hbl]; exact hb
   have hsz:∀ {x:Act},RInv a0 wb x w2→∀ d,d < 131→d < x.tmps.size:=fun h d hd=>by rw [h.size]; omega
   -- next,extract
   have i1:=hi2.put (d:=121) (.tuple #[.bool true,e.key,e.val]) (by decide) (by decide) hsz0 (by decide)
   refine J7g g2 (f2 _ _ _ hi.it hrun) ?_
   rw [d2]
   have t1:(a.put (some 121) (.tuple #[.bool true,e.key,e.val])).tmps.getD 121 undef=.tuple #[.bool true,e.key,e.val]:=by rw [gP (hsz hi2 121 (by decide)),if_pos rfl]
   generalize a.put (some 121) (.tuple #[.bool true,e.key,e.val])=a1 at i1 t1
   obtain ⟨g3,d3,f3⟩:=Js9 (P:=P) a1 w2 h3
   refine J7g g3 (f3 _ (.bool true) t1 rfl) ?_
   rw [d3]
   have i2:=i1.put (d:=122) (.bool true) (by decide) (by decide) hsz0 (by decide)
   have t2:(a1.put (some 122) (.bool true)).tmps.getD 122 undef=.bool true:=by rw [gP (hsz i1 122 (by decide)),if_pos rfl]
   generalize a1.put (some 122) (.bool true)=a2 at i2 t2
   show (Code.seq _ _).wp P _ a2 w2
   refine wp_seq (wp_cond (t:=true) t2 (wp_skip ?_))
   show (Code.block _ _).wp P _ a2 w2
   refine wp_block (wp_seq (wp_region_list ?_))
   -- entry
   obtain ⟨g4,d4,f4⟩:=ki_ent (P:=P) a2 w2 h4
   refine J7g g4 (f4 _ _ _ i2.it (run_entry_at w2 wb.heap.size bm q seen es' q e hr2 hbm2 hem hB.2)) ?_
   rw [d4]
   have i4:=i2.put (d:=123) (.tuple #[e.key,e.val]) (by decide) (by decide) hsz0 (by decide)
   have t4:(a2.put (some 123) (.tuple #[e.key,e.val])).tmps.getD 123 undef=.tuple #[e.key,e.val]:=by rw [gP (hsz i2 123 (by decide)),if_pos rfl]
   generalize a2.put (some 123) (.tuple #[e.key,e.val])=a4 at i4 t4
   obtain ⟨g5,d5,f5⟩:=Js9 (P:=P) a4 w2 h5
   refine J7g g5 (f5 _ e.key t4 rfl) ?_
   rw [d5]
   have i5:=i4.put (d:=124) e.key (by decide) (by decide) hsz0 (by decide)
   have t5:(a4.put (some 124) e.key).tmps.getD 124 undef=e.key:=by rw [gP (hsz i4 124 (by decide)),if_pos rfl]
   have t5b:(a4.put (some 124) e.key).tmps.getD 123 undef=.tuple #[e.key,e.val]:=by rw [gP (hsz i4 124 (by decide)),if_neg (by decide)]; exact t4
   generalize a4.put (some 124) e.key=a5 at i5 t5 t5b
   obtain ⟨g6,d6,f6⟩:=Js9 (P:=P) a5 w2 h6
   refine J7g g6 (f6 _ e.val t5b rfl) ?_
   rw [d6]
   have i6:=i5.put (d:=125) e.val (by decide) (by decide) hsz0 (by decide)
   have t6:(a5.put (some 125) e.val).tmps.getD 125 undef=e.val:=by rw [gP (hsz i5 125 (by decide)),if_pos rfl]
   have t6b:(a5.put (some 125) e.val).tmps.getD 124 undef=e.key:=by rw [gP (hsz i5 125 (by decide)),if_neg (by decide)]; exact t5
   generalize a5.put (some 125) e.val=a6 at i6 t6 t6b
   obtain ⟨g7,d7,f7⟩:=Jua (P:=P) a6 w2 h7
   rw [t6b] at f7
   refine J7g g7 f7 ?_
   rw [d7]
   have i7:=i6.put (d:=18) e.key (by decide) (by decide) hsz0 (by decide)
   have t7:(a6.put (some 18) e.key).tmps.getD 18 undef=e.key:=by rw [gP (hsz i6 18 (by decide)),if_pos rfl]
   have t7b:(a6.put (some 18) e.key).tmps.getD 125 undef=e.val:=by rw [gP (hsz i6 18 (by decide)),if_neg (by decide)]; exact t6
   generalize a6.put (some 18) e.key=a7 at i7 t7 t7b
   obtain ⟨g8,d8,f8⟩:=Jua (P:=P) a7 w2 h8
   rw [t7b] at f8
   refine J7g g8 f8 ?_
   rw [d8]
   have i8:=i7.put (d:=19) e.val (by decide) (by decide) hsz0 (by decide)
   have t8:(a7.put (some 19) e.val).tmps.getD 19 undef=e.val:=by rw [gP (hsz i7 19 (by decide)),if_pos rfl]
   have t8b:(a7.put (some 19) e.val).tmps.getD 18 undef=e.key:=by rw [gP (hsz i7 19 (by decide)),if_neg (by decide)]; exact t7
   generalize a7.put (some 19) e.val=a8 at i8 t8 t8b
   show (Code.seq _ _).wp P _ a8 w2
   refine wp_seq (wp_region_list ?_)
   -- the look-up
   obtain ⟨q1,q2,_⟩:=hs.toHRG.junk hi2.old (by rw [hi2.hs]; omega) hi2.os hi2.tape hi2.out
   have hmg:TRel G w2 (okB c G st.heap w2) (.mp lg) (a0.tmps.getD 15 undef):=by
    have:=hs.slots 15
    rw [hlg] at this
    exact TRel.mono (Ext.refl G) q2 _ this
   obtain ⟨g9,d9,f9⟩:=Jua (P:=P) a8 w2 h9
   rw [i8.keep 15 (by decide)] at f9
   generalize a0.tmps.getD 15 undef=mv at hmg f9
   refine J7g g9 f9 ?_
   rw [d9]
   have i9:=i8.put (d:=126) mv (by decide) (by decide) hsz0 (by decide)
   have t9:(a8.put (some 126) mv).tmps.getD 126 undef=mv:=by rw [gP (hsz i8 126 (by decide)),if_pos rfl]
   have t9b:(a8.put (some 126) mv).tmps.getD 18 undef=e.key:=by rw [gP (hsz i8 126 (by decide)),if_neg (by decide)]; exact t8b
   have t9c:(a8.put (some 126) mv).tmps.getD 19 undef=e.val:=by rw [gP (hsz i8 126 (by decide)),if_neg (by decide)]; exact t8
   generalize a8.put (some 126) mv=a9 at i9 t9 t9b t9c
   obtain ⟨g10,d10,f10⟩:=Jua (P:=P) a9 w2 h10
   rw [t9b] at f10
   refine J7g g10 f10 ?_
   rw [d10]
   have i10:=i9.put (d:=127) e.key (by decide) (by decide) hsz0 (by decide)
   have t10:(a9.put (some 127) e.key).tmps.getD 127 undef=.int .i64 p.1:=by rw [gP (hsz i9 127 (by decide)),if_pos rfl]; exact ek
   have t10b:(a9.put (some 127) e.key).tmps.getD 126 undef=mv:=by rw [gP (hsz i9 127 (by decide)),if_neg (by decide)]; exact t9
   have t10c:(a9.put (some 127) e.key).tmps.getD 19 undef=e.val:=by rw [gP (hsz i9 127 (by decide)),if_neg (by decide)]; exact t9c
   generalize a9.put (some 127) e.key=a10 at i10 t10 t10b t10c
   obtain ⟨g11,d11,f11⟩:=ki_lku (P:=P) a10 w2 h11
   refine J7g g11 (f11 _ _ _ _ t10b t10 (Jug hT q1 hog hmg hu hkb het p.1)) ?_
   rw [d11,hf p hp]
   have i11:=i10.put (d:=128) (.int .i64 p.2) (by decide) (by decide) hsz0 (by decide)
   have t11:(a10.put (some 128) (.int .i64 p.2)).tmps.getD 128 undef=.int .i64 p.2:=by rw [gP (hsz i10 128 (by decide)),if_pos rfl]
   have t11c:(a10.put (some 128) (.int .i64 p.2)).tmps.getD 19 undef=e.val:=by rw [gP (hsz i10 128 (by decide)),if_neg (by decide)]; exact t10c
   generalize a10.put (some 128) (.int .i64 p.2)=a11 at i11 t11 t11c
   obtain ⟨g12,d12,f12⟩:=Jua (P:=P) a11 w2 h12
   rw [t11c] at f12
   refine J7g g12 f12 ?_
   rw [d12]
   have i12:=i11.put (d:=129) e.val (by decide) (by decide) hsz0 (by decide)
   have t12:(a11.put (some 129) e.val).tmps.getD 129 undef=.int .i64 p.2:=by rw [gP (hsz i11 129 (by decide)),if_pos rfl]; exact ev
   have t12b:(a11.put (some 129) e.val).tmps.getD 128 undef=.int .i64 p.2:=by rw [gP (hsz i11 129 (by decide)),if_neg (by decide)]; exact t11
   generalize a11.put (some 129) e.val=a12 at i12 t12 t12b
   obtain ⟨g13,d13,f13⟩:=ki_neq (P:=P) a12 w2 h13
   have f13:=f13 p.2 p.2 t12b t12
   rw [decide_eq_true rfl] at f13
   refine J7g g13 f13 ?_
   rw [d13]
   have i13:=i12.put (d:=130) (.bool false) (by decide) (by decide) hsz0 (by decide)
   have t13:(a12.put (some 130) (.bool false)).tmps.getD 130 undef=.bool false:=by rw [gP (hsz i12 130 (by decide)),if_pos rfl]
   rw [show (!true)=false from rfl]
   generalize a12.put (some 130) (.bool false)=a13 at i13 t13
   show (Code.cond _ _ _).wp P _ a13 w2
   exact wp_cond (t:=false) t13 (wp_skip (ih (seen.push e.born) q a13 w2 (by omega) i13 hr2 (Nat.le_refl q)))
theorem Jjm {x:Code} {Q Q':Exit→Act→World→Prop} (hq:∀ e a w,Q e a w→Q' e a w):∀ (n:Nat) (a:Act) (w:World),Code.rounds P x Q n a w→Code.rounds P x Q' n a w
 | 0,_,_,h=>h
 | n+1,a,w,h=>Code.wp_mono (fun e a w h=>by
  cases e with
  | normal=>exact Jjm hq n a w h
  | _=>exact hq _ _ _ h) h
theorem Joq (ms:List Nat):∀ (l:List (Nat×Slot)) (i:Nat),look (l.filter fun p=>!ms.elem p.1) i=.undef∨(i ∉ ms∧look (l.filter fun p=>!ms.elem p.1) i=look l i)
 | [],i=>.inl rfl
 | (d,s)::r,i=>by
  have ih:=Joq ms r i
  by_cases hd:d ∈ ms
  ·rw [List.filter_cons_of_neg (by simpa using hd)]
   rcases ih with h | ⟨h1,h2⟩
   ·exact .inl h
   ·refine .inr ⟨h1,?_⟩
    have hne:¬ d=i:=fun e=>h1 (e ▸ hd)
    rw [h2,J7s,if_neg hne]
  ·rw [List.filter_cons_of_pos (by simpa using hd),J7s,J7s]
   by_cases hdi:d=i
   ·rw [if_pos hdi,if_pos hdi]; exact .inr ⟨hdi ▸ hd,rfl⟩
   ·rw [if_neg hdi,if_neg hdi]; exact ih
theorem J6i.rng (hT:J78 P T) {st:St} (hn:131≤st.n) {lm lg:Nat} {es gs:List (Int×Int)} {lv lv2:Bool} (hlm:look st.slots 8=.mp lm) (hom:J6q st.heap lm=.map (.int .i64) (.int .i64) es lv2) (hlg:look st.slots 15=.mp lg) (hog:J6q st.heap lg=.map (.int .i64) (.int .i64) gs lv)
  (hu:P.underlying mt=some (.map kt et)) (hkb:keyB P T kt (.int .i64)=true) (het:T.ty et=some (.int .i64)) (hf:∀ p ∈ es,Option.getD (J6o (Ty.beq (.int .i64)) p.1 gs) 0=p.2)
  (h0:opKi o0=some (.mv 119 8)) (h1:opKi o1=some (.rng 120 mt 119))
  (h2:opKi o2=some (.nxt 121 120)) (h3:opKi o3=some (.ext 122 121 0)) (h4:opKi o4=some (.ent 123 120)) (h5:opKi o5=some (.ext 124 123 0)) (h6:opKi o6=some (.ext 125 123 1)) (h7:opKi o7=some (.mv 18 124)) (h8:opKi o8=some (.mv 19 125))
  (h9:opKi o9=some (.mv 126 15)) (h10:opKi o10=some (.mv 127 18)) (h11:opKi o11=some (.lku 128 mt 126 127)) (h12:opKi o12=some (.mv 129 19)) (h13:opKi o13=some (.neq 130 128 129)) :
  J6i P (.seq (.region i0 #[o0,o1] false) (.block b (.loop (.seq (.region i1 #[o2,o3] false) (.seq (.cond (.tmp 122) .skip (.exit b)) (.block b2 (.seq (.region i2 #[o4,o5,o6,o7,o8] false) (.seq (.region i3 #[o9,o10,o11,o12,o13] false) (.cond (.tmp 130) z .skip)))))))))
   st .normal { st with slots:=st.slots.filter fun p=>!Jqw.elem p.1 }:=by
 rintro c a0 wb ⟨G,hs⟩
 have hsz0:131≤a0.tmps.size:=by rw [hs.sz]; exact hn
 have hmv:=hs.slots 8
 rw [hlm] at hmv
 obtain ⟨hl,g,bm,es',q,hg,hgb,hme,hheap,hkind,hR,hB⟩:=Jiv hs.toHRG hom hmv
 have hbl:bm < wb.heap.size:=(Array.getElem?_eq_some_iff.1 hheap).1
 refine wp_seq (wp_region_list ?_)
 obtain ⟨g0,d0,f0⟩:=Jua (P:=P) a0 wb h0
 rw [hme] at f0
 refine J7g g0 f0 ?_
 rw [d0]
 have t0:(a0.put (some 119) (.map (some bm))).tmps.getD 119 undef=.map (some bm):=by rw [gP (by omega),if_pos rfl]
 have k0:∀ i,i ∉ Jqw→(a0.put (some 119) (.map (some bm))).tmps.getD i undef=a0.tmps.getD i undef:=fun i hi=>by
  have hne:¬ 119=i:=fun e=>hi (e ▸ by decide)
  rw [gP (by omega),if_neg hne]
 have s0:=sP a0 119 (.map (some bm))
 have df0:(a0.put (some 119) (.map (some bm))).defers=a0.defers:=rfl
 generalize a0.put (some 119) (.map (some bm))=a1 at t0 k0 s0 df0
 obtain ⟨g1,d1,f1⟩:=ki_rng (P:=P) a1 wb h1
 refine J7g g1 (f1 _ _ _ t0 (run_range_map wb mt kt et bm es' q hu hheap)) ?_
 rw [d1]
 have hi:RInv a0 wb (a1.put (some 120) (.pointer (some ⟨wb.heap.size,0,none⟩))) (wb.alloc (.mapIter (some bm) q #[] q)):={
  size:=(sP _ _ _).trans s0
  df:=df0
  keep:=fun i hi=>by
   have hne:¬ 120=i:=fun e=>hi (e ▸ by decide)
   rw [gP (by omega),if_neg hne]; exact k0 i hi
  it:=by rw [gP (by omega),if_pos rfl]
  old:=fun x hx=>by
   show (wb.heap.push _)[x]?=_
   rw [Array.getElem?_push_lt hx,Array.getElem?_eq_getElem hx]
  hs:=by show (wb.heap.push _).size=_; rw [Array.size_push]
  os:=rfl
  tape:=rfl
  out:=rfl }
 have hr:(wb.alloc (.mapIter (some bm) q #[] q)).heap[wb.heap.size]?=some (.mapIter (some bm) q #[] q):=by
  show (wb.heap.push _)[wb.heap.size]?=_; simp
 generalize a1.put (some 120) (.pointer (some ⟨wb.heap.size,0,none⟩))=a2 at hi
 generalize wb.alloc (.mapIter (some bm) q #[] q)=w2 at hi hr
 show (Code.block _ _).wp P _ a2 w2
 refine wp_block (wp_loop_rounds ((leftOf es' #[]).size+1) ?_)
 refine Jjm ?_ _ _ _ (rng_go (i1:=i1) (i2:=i2) (i3:=i3) (b:=b) (b2:=b2) (z:=z) hT hs hn hlg hog hu hkb het hheap hB (Jsg hR) hf h2 h3 h4 h5 h6 h7 h8 h9 h10 h11 h12 h13 _ #[] q a2 w2 (Nat.le_refl _) hi hr (Nat.le_refl q))
 rintro e a' w' ⟨rfl,hv⟩
 have:SR c { st with slots:=st.slots.filter fun p=>!Jqw.elem p.1 } a' w':=by
  obtain ⟨q1,q2,_⟩:=hs.toHRG.junk hv.old (by rw [hv.hs]; omega) hv.os hv.tape hv.out
  refine ⟨G,q1,fun i=>?_,hs.ent,hs.em,hv.size.trans hs.sz,hv.df.trans hs.nodef⟩
  rcases Joq Jqw st.slots i with h | ⟨h,h'⟩
  ·show TRel _ _ _ (look (st.slots.filter _) i) _
   rw [h]; trivial
  ·show TRel _ _ _ (look (st.slots.filter _) i) _
   rw [h',hv.keep i h]
   exact TRel.mono (Ext.refl G) q2 _ (hs.slots i)
 simp only [Exit.inBlock,if_true]
 exact ⟨by trivial,this⟩
end
def idB:Code→Nat
 | .block id _=>id
 | _=>0
def rngS (c:Code):Code:=
 .seq (.region (idAt (J6l c [0])) #[opAt (J6l c [0]) 0,opAt (J6l c [0]) 1] false) (.block (idB (J6l c [1])) (.loop (.seq (.region (idAt (J6l c [1,0,0,0])) #[opAt (J6l c [1,0,0,0]) 0,opAt (J6l c [1,0,0,0]) 1] false)
  (.seq (.cond (.tmp 122) .skip (.exit (idB (J6l c [1])))) (.block (idB (J6l c [1,0,0,1,1])) (.seq (.region (idAt (J6l c [1,0,0,1,1,0,0])) #[opAt (J6l c [1,0,0,1,1,0,0]) 0,opAt (J6l c [1,0,0,1,1,0,0]) 1,opAt (J6l c [1,0,0,1,1,0,0]) 2,opAt (J6l c [1,0,0,1,1,0,0]) 3,opAt (J6l c [1,0,0,1,1,0,0]) 4] false)
   (.seq (.region (idAt (J6l c [1,0,0,1,1,0,1,0])) #[opAt (J6l c [1,0,0,1,1,0,1,0]) 0,opAt (J6l c [1,0,0,1,1,0,1,0]) 1,opAt (J6l c [1,0,0,1,1,0,1,0]) 2,opAt (J6l c [1,0,0,1,1,0,1,0]) 3,opAt (J6l c [1,0,0,1,1,0,1,0]) 4] false)
    (.cond (.tmp 130) (J6l c [1,0,0,1,1,0,1,1,0]) .skip))))))))
theorem Env.rngc (v:Env P T E) {c:Code} {st st':St} {lm lg mt kt et:Nat} {es gs:List (Int×Int)} {lv lv2:Bool} (hc:c=rngS c:=by kernel_rfl) (hn:Nat.ble 131 st.n=true:=by kernel_rfl)
  (hlm:look st.slots 8=.mp lm:=by kernel_rfl) (hom:J6q st.heap lm=.map (.int .i64) (.int .i64) es lv2:=by kernel_rfl) (hlg:look st.slots 15=.mp lg:=by kernel_rfl) (hog:J6q st.heap lg=.map (.int .i64) (.int .i64) gs lv:=by kernel_rfl)
  (hu:P.underlying mt=some (.map kt et):=by kernel_rfl) (hkb:keyB P T kt (.int .i64)=true:=by kernel_rfl) (het:T.ty et=some (.int .i64):=by kernel_rfl)
  (h0:opKi (opAt (J6l c [0]) 0)=some (.mv 119 8):=by kernel_rfl) (h1:opKi (opAt (J6l c [0]) 1)=some (.rng 120 mt 119):=by kernel_rfl)
  (h2:opKi (opAt (J6l c [1,0,0,0]) 0)=some (.nxt 121 120):=by kernel_rfl) (h3:opKi (opAt (J6l c [1,0,0,0]) 1)=some (.ext 122 121 0):=by kernel_rfl)
  (h4:opKi (opAt (J6l c [1,0,0,1,1,0,0]) 0)=some (.ent 123 120):=by kernel_rfl) (h5:opKi (opAt (J6l c [1,0,0,1,1,0,0]) 1)=some (.ext 124 123 0):=by kernel_rfl) (h6:opKi (opAt (J6l c [1,0,0,1,1,0,0]) 2)=some (.ext 125 123 1):=by kernel_rfl)
  (h7:opKi (opAt (J6l c [1,0,0,1,1,0,0]) 3)=some (.mv 18 124):=by kernel_rfl) (h8:opKi (opAt (J6l c [1,0,0,1,1,0,0]) 4)=some (.mv 19 125):=by kernel_rfl)
  (h9:opKi (opAt (J6l c [1,0,0,1,1,0,1,0]) 0)=some (.mv 126 15):=by kernel_rfl) (h10:opKi (opAt (J6l c [1,0,0,1,1,0,1,0]) 1)=some (.mv 127 18):=by kernel_rfl) (h11:opKi (opAt (J6l c [1,0,0,1,1,0,1,0]) 2)=some (.lku 128 mt 126 127):=by kernel_rfl)
  (h12:opKi (opAt (J6l c [1,0,0,1,1,0,1,0]) 3)=some (.mv 129 19):=by kernel_rfl) (h13:opKi (opAt (J6l c [1,0,0,1,1,0,1,0]) 4)=some (.neq 130 128 129):=by kernel_rfl)
  (he:st'={ st with slots:=st.slots.filter fun p=>!Jqw.elem p.1 }:=by kernel_rfl) :
  To w0 (allM es fun p=>decide (Option.getD (J6o (Ty.beq (.int .i64)) p.1 gs) (0:Int)=p.2)) fun _=>J6i P c st .normal st':=fun u h=>by
 rw [hc,he]
 exact J6i.rng v.tab (Nat.le_of_ble_eq_true hn) hlm hom hlg hog hu hkb het (fun p hp=>of_decide_eq_true (Jvh h p hp)) h0 h1 h2 h3 h4 h5 h6 h7 h8 h9 h10 h11 h12 h13
end Go.Ax
