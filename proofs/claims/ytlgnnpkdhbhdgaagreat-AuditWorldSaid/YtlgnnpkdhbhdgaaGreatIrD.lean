/- The interpreter without fuel. -/
import Derived.Test.YtlgnnpkdhbhdgaaGreatIrC
import Derived.ChangeSame
import Derived.Deep.Slices
import Derived.Carry
import Derived.OpenShut
set_option linter.all false
namespace Go.Ir
def CLe (c d:qaM):Prop:=∀g vs h r,c g vs h=some r->d g vs h=some r
def ELe (c d:ExF):Prop:=∀lo items f h r,c lo items f h=some r->d lo items f h=some r
def qfN {c d:qaM}(hcd:CLe c d){lo:Nat}{o:IOp}{f:Fr}{h:qab}{r:Value×qab}(hv:yf c lo o f h=some r):yf d lo o f h=some r:=by
 cases o
 case call g args =>
  simp only [yf]at hv|-
  split at hv<;>try (cases hv;done)
  exact hcd _ _ _ _ hv
 case yt x args =>
  simp only [yf]at hv|-
  split at hv<;>try (cases hv;done)
  split at hv<;>try (cases hv;done)
  exact hcd _ _ _ _ hv
 case invoke tab x args =>
  simp only [yf]at hv|-
  split at hv<;>try (cases hv;done)
  split at hv<;>try (cases hv;done)
  exact hcd _ _ _ _ hv
 all_goals exact hv
def qfO {c d:qaM}(hcd:CLe c d){lo:Nat}{o:IOp}{f:Fr}{v:Value} : ∀{hs:List qab},yj c lo o f v hs=true->yj d lo o f v hs=true
 | [],h=>rfl
 | g::hs,h=>by
   unfold yj at h|-
   cases hi:yf c lo o f g with
   | none=>rw [hi]at h;cases h
   | some r =>
     rw [hi]at h
     rw [qfN hcd hi]
     simp only [Bool.and_eq_true]at h|-
     exact⟨h.1,qfO hcd h.2⟩
def qfP {c d:qaM}(hcd:CLe c d){lo:Nat} : ∀{os:List IOper} {f:Fr} {h:qab} {hs:List qab} {r:Fr×qab},yw c lo os f h hs=some r->yw d lo os f h hs=some r
 | [],f,h,hs,r,hv=>hv
 | o::os,f,h,hs,r,hv=>by
   simp only [yw]at hv|-
   split at hv
   ·cases hv
   ·rename_i hw;exact qfP hcd hv
   ·split at hv<;>try (cases hv;done)
    rename_i v h' hi
    obtain⟨ha,hv⟩:=qc1 hv
    rw [qfN hcd hi]
    simp only
    rw [if_pos (qfO hcd ha)]
    exact qfP hcd hv
def qfQ {E:Env}{ex ex':ExF}(hle:ELe ex ex')(lo:Nat):CLe (qaZ E ex lo) (qaZ E ex' lo):=by
 intro g vs h r hv
 unfold qaZ at hv|-
 split at hv
 ·exact hv
 ·split at hv<;>try (cases hv;done)
  rename_i fn hfn
  split at hv<;>try (cases hv;done)
  rename_i ha
  simp only [ha,if_false]
  split at hv<;>try (cases hv;done)
  rename_i f1 h1 he
  rw [hle _ _ _ _ _ he]
  exact hv
def qfR {E:Env} : ∀n,ELe (yq E n) (yq E (n+1))
 | 0=>fun lo items f h r hv=>by simp [yq]at hv
 | n+1=>fun lo items f h r hv=>by
   have ih:=qfR (E:=E) n
   cases items with
   | nil=>simpa [yq]using hv
   | cons it k =>
     cases it with
     | yC id=>rw [yq]at hv|-;exact ih _ _ _ _ _ hv
     | again ls b=>rw [yq]at hv|-;exact ih _ _ _ _ _ hv
     | inScope b=>rw [yq]at hv|-;exact ih _ _ _ _ _ hv
     | code c =>
       cases c<;>rw [yq]at hv<;>rw [yq]
       case region ops =>
        split at hv<;>try (cases hv;done)
        rename_i h1
        rw [qfP (qfQ ih lo) h1]
        exact ih _ _ _ _ _ hv
       case cond c a b =>
        split at hv<;>try (cases hv;done)
        exact ih _ _ _ _ _ hv
       case exit id =>
        split at hv<;>try (cases hv;done)
        exact ih _ _ _ _ _ hv
       case goto l ls =>
        split at hv<;>try (cases hv;done)
        exact ih _ _ _ _ _ hv
       case ret=>exact hv
       all_goals exact ih _ _ _ _ _ hv
def qfS {E:Env}{n m:Nat}(h:n<=m):ELe (yq E n) (yq E m):=by
 induction m with
 | zero=>have:n=0:=by omega
         subst this;exact fun _ _ _ _ _ h=>h
 | succ m ih =>
   by_cases hnm:n=m+1
   ·subst hnm;exact fun _ _ _ _ _ h=>h
   ·exact fun lo items f h r hv=>qfR m _ _ _ _ _ (ih (by omega) _ _ _ _ _ hv)
open Classical in
noncomputable def exR (E:Env):ExF:=fun lo items f h=>if p:∃r n,yq E n lo items f h=some r then some p.choose else none
def exR_iff {E:Env}{lo:Nat}{items:List Item}{f:Fr}{h:qab}{r:Fr×qab} : exR E lo items f h=some r↔∃n,yq E n lo items f h=some r:=by
 unfold exR
 constructor
 ·intro hv
  split at hv
  ·rename_i p
   injection hv with hv
   rw [<-hv]
   exact p.choose_spec
  ·cases hv
 ·rintro ⟨n,hn⟩
  have p:∃r n,yq E n lo items f h=some r:=⟨r,n,hn⟩
  rw [dif_pos p]
  obtain⟨m,hm⟩:=p.choose_spec
  have h1:=qfS (Nat.le_max_left n m) _ _ _ _ _ hn
  have h2:=qfS (Nat.le_max_right n m) _ _ _ _ _ hm
  rw [h1]at h2
  injection h2 with h2
  rw [<-h2]
def qfT {E:Env}(n:Nat):ELe (yq E n) (exR E):=fun _ _ _ _ _ h=>exR_iff.2 ⟨n,h⟩
noncomputable def qfU (E:Env)(lo:Nat):qaM:=qaZ E (exR E) lo
def callR_iff {E:Env}{lo g:Nat}{vs:List Value}{h:qab}{r:Value×qab} : qfU E lo g vs h=some r↔∃n,qaZ E (yq E n) lo g vs h=some r:=by
 constructor
 ·intro hv
  unfold qfU qaZ at hv
  unfold qaZ
  split at hv
  ·exact⟨0,hv⟩
  ·split at hv<;>try (cases hv;done)
   rename_i fn hfn
   split at hv<;>try (cases hv;done)
   rename_i ha
   split at hv<;>try (cases hv;done)
   rename_i f1 h1 he
   obtain⟨n,hn⟩:=exR_iff.1 he
   refine⟨n, ?_⟩
   simp only [ha,if_false,hn]
   exact hv
 ·rintro ⟨n,hn⟩
  exact qfQ (qfT n) lo _ _ _ _ hn
def qfV {E:Env}{n m lo:Nat}(h:n<=m):CLe (qaZ E (yq E n) lo) (qaZ E (yq E m) lo):=qfQ (qfS h) lo
def qfW {E:Env}{lo:Nat}{o:IOp}{f:Fr}{h:qab}{r:Value×qab}(hv:yf (qfU E lo) lo o f h=some r):∃n,yf (qaZ E (yq E n) lo) lo o f h=some r:=by
 cases o
 case call g args =>
  simp only [yf]at hv|-
  split at hv<;>try (cases hv;done)
  exact callR_iff.1 hv
 case yt x args =>
  simp only [yf]at hv|-
  split at hv<;>try (cases hv;done)
  split at hv<;>try (cases hv;done)
  rename_i hc
  obtain⟨n,hn⟩:=callR_iff.1 hv
  exact⟨n,hn⟩
 case invoke tab x args =>
  simp only [yf]at hv|-
  split at hv<;>try (cases hv;done)
  split at hv<;>try (cases hv;done)
  rename_i hc
  obtain⟨n,hn⟩:=callR_iff.1 hv
  exact⟨n,hn⟩
 all_goals exact⟨0,hv⟩
def qfX {E:Env}{lo:Nat}{o:IOp}{f:Fr}{v:Value} : ∀{hs:List qab},yj (qfU E lo) lo o f v hs=true->∃n,yj (qaZ E (yq E n) lo) lo o f v hs=true
 | [],h=>⟨0,rfl⟩
 | g::hs,h=>by
   unfold yj at h
   cases hi:yf (qfU E lo) lo o f g with
   | none=>rw [hi]at h;cases h
   | some r =>
     rw [hi]at h
     simp only [Bool.and_eq_true]at h
     obtain⟨n,hn⟩:=qfW hi
     obtain⟨m,hm⟩:=qfX h.2
     refine⟨max n m, ?_⟩
     unfold yj
     rw [qfN (qfV (Nat.le_max_left n m)) hn]
     simp only [Bool.and_eq_true]
     exact⟨h.1,qfO (qfV (Nat.le_max_right n m)) hm⟩
def qfY {E:Env}{lo:Nat} : ∀{os:List IOper} {f:Fr} {h:qab} {hs:List qab} {r:Fr×qab},yw (qfU E lo) lo os f h hs=some r->∃n,yw (qaZ E (yq E n) lo) lo os f h hs=some r
 | [],f,h,hs,r,hv=>⟨0,hv⟩
 | o::os,f,h,hs,r,hv=>by
   simp only [yw]at hv|-
   split at hv
   ·cases hv
   ·rename_i hw;exact qfY hv
   ·split at hv<;>try (cases hv;done)
    rename_i v h' hi
    obtain⟨ha,hv⟩:=qc1 hv
    obtain⟨n1,e1⟩:=qfW hi
    obtain⟨n2,e2⟩:=qfX ha
    obtain⟨n3,e3⟩:=qfY hv
    refine⟨max n1 (max n2 n3), ?_⟩
    rw [qfN (qfV (Nat.le_max_left _ _)) e1]
    simp only
    rw [if_pos (qfO (qfV (Nat.le_trans (Nat.le_max_left n2 n3) (Nat.le_max_right _ _))) e2)]
    exact qfP (qfV (Nat.le_trans (Nat.le_max_right n2 n3) (Nat.le_max_right _ _))) e3
section
variable {E:Env}{lo:Nat}{k:List Item}{f:Fr}{h:qab}
def qfZ {items items':List Item}{f f':Fr}{h h':qab}(he:∀n,yq E (n+1) lo items f h=yq E n lo items' f' h'):exR E lo items f h=exR E lo items' f' h':=by
 refine Option.ext fun r => ?_
 rw [exR_iff,exR_iff]
 constructor
 ·rintro ⟨n,hn⟩
  exact⟨n,by rw [<-he];exact qfR n _ _ _ _ _ hn⟩
 ·rintro ⟨n,hn⟩
  exact⟨n+1,by rw [he];exact hn⟩
def qf0:exR E lo [] f h=some (f,h):=exR_iff.2 ⟨1,by simp [yq]⟩
def qf1 {id:Nat} : exR E lo (.yC id::k) f h=exR E lo k f h:=qfZ fun n=>by simp only [yq]
def qf2 {b:ICode} : exR E lo (.inScope b::k) f h=exR E lo k f h:=qfZ fun n=>by simp only [yq]
def qf3 {ls:List Nat}{b:ICode} : exR E lo (.again ls b::k) f h=exR E lo (.code b :: .again ls b::k) (keep ls f) h:=qfZ fun n=>by simp only [yq]
def qf4:exR E lo (.code .skip::k) f h=exR E lo k f h:=qfZ fun n=>by simp only [yq]
def qf5 {a b:ICode} : exR E lo (.code (.seq a b)::k) f h=exR E lo (.code a :: .code b::k) f h:=qfZ fun n=>by simp only [yq]
def qf6 {id:Nat}{b:ICode} : exR E lo (.code (.block id b)::k) f h=exR E lo (.code b :: .yC id::k) f h:=qfZ fun n=>by simp only [yq]
def qf7 {ls:List Nat}{b:ICode} : exR E lo (.code (.loop ls b)::k) f h=exR E lo (.code b :: .again ls b::k) (keep ls f) h:=qfZ fun n=>by simp only [yq]
def qf8 {b:ICode} : exR E lo (.code (.scope b)::k) f h=exR E lo (.code b :: .inScope b::k) f h:=qfZ fun n=>by simp only [yq]
def qf9 {l:Nat} : exR E lo (.code (.label l)::k) f h=exR E lo k f h:=qfZ fun n=>by simp only [yq]
def qga:exR E lo (.code .ret::k) f h=some (f,h):=exR_iff.2 ⟨1,by simp [yq]⟩
def qgb {c:Operand}{a b:ICode}{t:Bool}(hc:ev f c=some (.bool t)):exR E lo (.code (.cond c a b)::k) f h=exR E lo (.code (if t then a else b)::k) f h:=qfZ fun n=>by simp only [yq,hc]
def qgc {id:Nat}{k':List Item}(hk:qaR id k=some k'):exR E lo (.code (.exit id)::k) f h=exR E lo k' f h:=qfZ fun n=>by simp only [yq,hk]
def qgd {l:Nat}{ls:List Nat}{k':List Item}(hk:qaT l k=some k'):exR E lo (.code (.goto l ls)::k) f h=exR E lo k' (keep ls f) h:=qfZ fun n=>by simp only [yq,hk]
def qge {ops:List IOper}{f':Fr}{h':qab}(hv:yw (qfU E lo) lo ops f h []=some (f',h')):exR E lo (.code (.region ops)::k) f h=exR E lo k f' h':=by
 refine Option.ext fun r => ?_
 obtain⟨m,hm⟩:=qfY hv
 rw [exR_iff,exR_iff]
 constructor
 ·rintro ⟨n,hn⟩
  cases n with
  | zero=>simp [yq]at hn
  | succ n =>
    rw [yq]at hn
    split at hn<;>try (cases hn;done)
    rename_i f1 h1 h2
    have e1:=qfP (qfV (Nat.le_max_left m n)) hm
    have e2:=qfP (qfV (Nat.le_max_right m n)) h2
    rw [e1]at e2
    injection e2 with e2
    injection e2 with e3 e4
    subst e3 e4
    exact⟨n,hn⟩
 ·rintro ⟨n,hn⟩
  refine⟨max m n+1, ?_⟩
  rw [yq]
  rw [qfP (qfV (Nat.le_max_left m n)) hm]
  exact qfS (Nat.le_max_right m n) _ _ _ _ _ hn
end
def qgf {E:Env}{lo g:Nat}{fn:qak}{args:List Value}{h h':qab}{f':Fr}{v:Value}(hp:E.yS g=none)(hf:E.fn g=some fn)(ha:args.length=fn.yT)(hs:fn.wau=false)
  (he:exR E lo [.code fn.body] (number 0 args) h=some (f',h')) (hr:results fn.res f' h'=some v):qfU E lo g args h=some (v,h'):=by
 unfold qfU qaZ
 simp [hp,hf,ha,hs,he,hr]
def qgg {E:Env}{lo g:Nat}{fn:qak}{args:List Value}{h h':qab}{f':Fr}{v:Value}{r:Value×qab}(hp:E.yS g=none)(hf:E.fn g=some fn)(ha:args.length=fn.yT)(hs:fn.wau=true)
  (he:exR E h.length [.code fn.body] (number 0 args) h=some (f',h')) (hr:results fn.res f' h'=some v) (ht:tidy h v h'=some r):qfU E lo g args h=some r:=by
 unfold qfU qaZ
 simp [hp,hf,ha,hs,he,hr,ht]
def qgh {α:Type} : ∀{l:List (Nat×α)} {g:Nat} {v:α},l.lookup g=some v->(g,v)∈l
 | [],g,v,h=>by simp at h
 | (k,u)::l,g,v,h=>by
   simp only [List.lookup_cons]at h
   split at h
   ·rename_i he
    have:g=k:=by simpa using he
    injection h with h
    subst this h
    simp
   ·exact List.mem_cons_of_mem _ (qgh h)
def TblOk (P:Program)(tbl:List (Nat×qak)):Prop:=∀p∈tbl,∃F hint,P.funcs[p.1]? = some F/\qbE P F hint=some p.2
def TblOk.nil {P:Program} : TblOk P []:=fun p hp=>by cases hp
def TblOk.cons {P:Program}{g:Nat}{fn:qak}{l:List (Nat×qak)}{F:Func}{hint:qbD}(h1:P.funcs[g]? = some F)(h2:qbE P F hint=some fn)(h:TblOk P l):TblOk P ((g,fn)::l):=by
 intro p hp
 rcases List.mem_cons.1 hp with rfl|hp
 ·exact⟨_,_,h1,h2⟩
 ·exact h p hp
def qgi {P:Program}{tbl:List (Nat×qak)}(h:TblOk P tbl)(prims:List (Nat×qaY))(hk:∀p∈prims,(∀lo vs h v h',p.2 lo vs h=some (v,h')->Kp lo h h')/\qfJ P p.1 p.2) :
  qfK P {fn:=fun g=>tbl.lookup g,yS:=fun g=>prims.lookup g} :=
 ⟨fun g p hp=>(hk _ (qgh hp)).1,fun g p hp=>(hk _ (qgh hp)).2,fun g fn _ hf=>h _ (qgh hf)⟩
section
variable {E:Env}{lo:Nat}{k:List Item}{f:Fr}{h:qab}
def qgj {items:List Item}(he:∀n,yq E n lo items f h=none):exR E lo items f h=none:=by
 cases hr:exR E lo items f h with
 | none=>rfl
 | some r=>obtain⟨n,hn⟩:=exR_iff.1 hr;rw [he]at hn;cases hn
def qgk {ops:List IOper} : exR E lo (.code (.region ops)::k) f h =
  match yw (qfU E lo) lo ops f h []with
  | some (f',h')=>exR E lo k f' h'
  | none=>none:=by
 split
 ·rename_i f' h' hv;exact qge hv
 ·rename_i hn
  refine qgj fun n => ?_
  cases n with
  | zero=>rfl
  | succ n =>
    rw [yq]
    split
    ·rename_i f1 h1 h2
     have:yw (qfU E lo) lo ops f h []=some (f1,h1):=qfP (fun g vs h r hv=>callR_iff.2 ⟨n,hv⟩) h2
     rw [hn]at this;cases this
    ·rfl
end
def qgl (v:Value):qaY:=fun _ args h =>
 match args with
 | []=>some (v,h)
 | _=>none
def qgm (v:Value)(lo:Nat)(vs:List Value)(h:qab)(u:Value)(h':qab)(hv:qgl v lo vs h=some (u,h')):Kp lo h h':=by
 unfold qgl at hv
 split at hv
 ·injection hv with hv;injection hv with _ e;subst e;exact .refl _ _
 ·cases hv
def Sim.waj {B0:Nat}{w0:World}{E:Emb}{h:qab}{w w':World}(s:Sim B0 w0 E h w)(hB:B0<=w0.heap.size)(hb:Go.RowKit.Below w.heap.size w w'):Sim B0 w0 E h w'/\Later E w E w':=by
 have hsame:∀b,b<w.heap.size->w'.heap[b]? = w.heap[b]? := hb.block
 refine⟨⟨s.below.trans (hb.mono (Nat.le_trans hB s.below.size)),s.out,s.dead,fun i k hi hk => ?_,s.inj⟩,⟨Emb.le_refl _,fun i x hx => .inl ⟨i,x,hx,rfl⟩,hb.size,fun b hb' _=>hsame b hb'⟩⟩
 obtain⟨x,hx,hbr⟩:=s.live i k hi hk
 exact⟨x,hx,hbr.world (hsame _ (hbr.lt hk))⟩
def qgn (w:World):Sim w.heap.size w (fun _=>none) [] w :=
 ⟨Go.RowKit.Below.refl _ _,fun _ _=>rfl,fun i hi=>by simp at hi,fun i k hi=>by simp at hi,fun i j x y _ hx=>by cases hx⟩
def qgo {P:Program}{E0:Env}(ok:qfK P E0)(hmix:P.follows .mixedOrders=true){n g:Nat}{v:Value}{h':qab}(hf:qae v=true)
  (hv:qaZ E0 (yq E0 n) 0 g [] []=some (v,h')):qfJ P g (qgl v):=by
 intro B0 w0 lo hB0 vs h u h2 hp
 unfold qgl at hp
 split at hp<;>try (cases hp;done)
 injection hp with hp;injection hp with e1 e2;subst e1 e2
 refine⟨(qfM ok hmix n 0 w0 0 (zzZ _) g _ _ _ _ hv).1,fun E w cs s hcs => ?_⟩
 have hc:=(qfM ok hmix n w.heap.size w 0 (zzR _) g _ _ _ _ hv).2 (fun _=>none) w cs (qgn w) (by cases hcs'':cs.toList with
  | nil=>exact .nil
  | cons a l=>rw [hcs'']at hcs;cases hcs)
 refine Calls.mono hc fun e w' he => ?_
 obtain⟨c,E',rfl,g1,g2,g3⟩:=he
 obtain⟨k1,k2⟩:=s.waj hB0 g1.below
 refine⟨c,E,rfl,k1,k2, ?_⟩
 have:c=v:=by
  cases v with
  | agg cs=>cases g3 with
    | agg _ c' h=>have:=h.yQ (by simpa [qae]using hf);rw [Array.toList_inj.1 this]
  | tuple cs=>cases g3 with
    | tuple _ c' h=>have:=h.yQ (by simpa [qae]using hf);rw [Array.toList_inj.1 this]
  | _=>exact g3.yg (by simpa [qae]using hf)
 rw [this]
 exact VR.flat hf
noncomputable def exG (E:Env)(lo:Nat)(os:List IOper)(hs:List qab)(k:List Item)(f:Fr)(h:qab):Option (Fr×qab) :=
 match yw (qfU E lo) lo os f h hs with
 | some (f',h')=>exR E lo k f' h'
 | none=>none
def Ends (x:Option (Fr×qab))(rs:List qaj)(Q:Value->qab->Prop):Prop:=∃f' h' v,x=some (f',h')/\results rs f' h'=some v/\Q v h'
def Ends.by {x y:Option (Fr×qab)}{rs:List qaj}{Q:Value->qab->Prop}(e:x=y)(h:Ends y rs Q):Ends x rs Q:=by rw [e];exact h
section
variable {E:Env}{lo:Nat}{o:IOper}{os:List IOper}{f f':Fr}{h h':qab}{hs:List qab}{v:Value}{k k':List Item}
def qgp {os:List IOper} : exR E lo (.code (.region os)::k) f h=exG E lo os [] k f h:=qgk
def qgq {d:Nat}{op:IOp}(hi:yf (qfU E lo) lo op f h=some (v,h')){hs':List qab}(he:(if qaQ op then h::hs else hs)=hs') :
  exG E lo (⟨some d,op,none,0⟩::os) hs k f h=exG E lo os hs' k ((d,v)::f) h':=by
 subst he
 unfold exG
 simp only [yw,want,hi,List.take_zero,yj,if_true,yG]
def qgr {op:IOp}(hi:yf (qfU E lo) lo op f h=some (v,h')){hs':List qab}(he:(if qaQ op then h::hs else hs)=hs') :
  exG E lo (⟨none,op,none,0⟩::os) hs k f h=exG E lo os hs' k f h':=by
 subst he
 unfold exG
 simp only [yw,want,hi,List.take_zero,yj,if_true,yG]
def qgs {d:Nat}{op:IOp}{t:Nat×Bool}(hw:want (some t) f=some true)(hi:yf (qfU E lo) lo op f h=some (v,h')){hs':List qab}(he:(if qaQ op then h::hs else hs)=hs') :
  exG E lo (⟨some d,op,some t,0⟩::os) hs k f h=exG E lo os hs' k ((d,v)::f) h':=by
 subst he
 unfold exG
 simp only [yw,hw,hi,List.take_zero,yj,if_true,yG]
def qgt {d:Nat}{op:IOp}{t:Nat×Bool}{c:Nat}(hw:want (some t) f=some false):exG E lo (⟨some d,op,some t,c⟩::os) hs k f h=exG E lo os hs k ((d,qag)::f) h:=by
 unfold exG
 simp only [yw,hw,yG]
def qgu {c:Operand}{a b:ICode}(hc:ev f c=some (.bool true)):exR E lo (.code (.cond c a b)::k) f h=exR E lo (.code a::k) f h:=qgb hc
def qgv {c:Operand}{a b:ICode}(hc:ev f c=some (.bool false)):exR E lo (.code (.cond c a b)::k) f h=exR E lo (.code b::k) f h:=qgb hc
structure ER (E:Env)(lo:Nat)(items:List Item)(f:Fr)(h:qab)(rs:List qaj)(Q:Value->qab->Prop):Prop where
 out:Ends (exR E lo items f h) rs Q
structure EG (E:Env)(lo:Nat)(os:List IOper)(hs:List qab)(k:List Item)(f:Fr)(h:qab)(rs:List qaj)(Q:Value->qab->Prop):Prop where
 out:Ends (exG E lo os hs k f h) rs Q
section
variable {rs:List qaj}{Q:Value->qab->Prop}
def ER.ret (hr:results rs f h=some v)(hq:Q v h):ER E lo (.code .ret::k) f h rs Q:=⟨f,h,v,qga,hr,hq⟩
def ER.nil (hr:results rs f h=some v)(hq:Q v h):ER E lo [] f h rs Q:=⟨f,h,v,qf0,hr,hq⟩
def ER.seq {a b:ICode}(x:ER E lo (.code a :: .code b::k) f h rs Q):ER E lo (.code (.seq a b)::k) f h rs Q:=⟨.by qf5 x.out⟩
def ER.skip (x:ER E lo k f h rs Q):ER E lo (.code .skip::k) f h rs Q:=⟨.by qf4 x.out⟩
def ER.block {id:Nat}{b:ICode}(x:ER E lo (.code b :: .yC id::k) f h rs Q):ER E lo (.code (.block id b)::k) f h rs Q:=⟨.by qf6 x.out⟩
def ER.yC {id:Nat}(x:ER E lo k f h rs Q):ER E lo (.yC id::k) f h rs Q:=⟨.by qf1 x.out⟩
def ER.scope {b:ICode}(x:ER E lo (.code b :: .inScope b::k) f h rs Q):ER E lo (.code (.scope b)::k) f h rs Q:=⟨.by qf8 x.out⟩
def ER.inScope {b:ICode}(x:ER E lo k f h rs Q):ER E lo (.inScope b::k) f h rs Q:=⟨.by qf2 x.out⟩
def ER.label {l:Nat}(x:ER E lo k f h rs Q):ER E lo (.code (.label l)::k) f h rs Q:=⟨.by qf9 x.out⟩
def ER.exit {id:Nat}(hk:qaR id k=some k')(x:ER E lo k' f h rs Q):ER E lo (.code (.exit id)::k) f h rs Q:=⟨.by (qgc hk) x.out⟩
def ER.goto {l:Nat}{ls:List Nat}(hk:qaT l k=some k')(hf:keep ls f=f')(x:ER E lo k' f' h rs Q):ER E lo (.code (.goto l ls)::k) f h rs Q:=⟨.by (qgd hk) (by rw [hf];exact x.out)⟩
def ER.yes {c:Operand}{a b:ICode}(hc:ev f c=some (.bool true))(x:ER E lo (.code a::k) f h rs Q):ER E lo (.code (.cond c a b)::k) f h rs Q:=⟨.by (qgu hc) x.out⟩
def ER.no {c:Operand}{a b:ICode}(hc:ev f c=some (.bool false))(x:ER E lo (.code b::k) f h rs Q):ER E lo (.code (.cond c a b)::k) f h rs Q:=⟨.by (qgv hc) x.out⟩
def ER.reg (x:EG E lo os [] k f h rs Q):ER E lo (.code (.region os)::k) f h rs Q:=⟨.by qgp x.out⟩
def EG.fin (x:ER E lo k f h rs Q):EG E lo [] hs k f h rs Q:=⟨x.out⟩
def EG.op {d:Nat}{op:IOp}(hi:yf (qfU E lo) lo op f h=some (v,h')){hs':List qab}(he:(if qaQ op then h::hs else hs)=hs')(x:EG E lo os hs' k ((d,v)::f) h' rs Q) :
  EG E lo (⟨some d,op,none,0⟩::os) hs k f h rs Q:=⟨.by (qgq hi he) x.out⟩
def EG.no {op:IOp}(hi:yf (qfU E lo) lo op f h=some (v,h')){hs':List qab}(he:(if qaQ op then h::hs else hs)=hs')(x:EG E lo os hs' k f h' rs Q) :
  EG E lo (⟨none,op,none,0⟩::os) hs k f h rs Q:=⟨.by (qgr hi he) x.out⟩
def EG.gd {d:Nat}{op:IOp}{t:Nat×Bool}(hw:want (some t) f=some true)(hi:yf (qfU E lo) lo op f h=some (v,h')){hs':List qab}(he:(if qaQ op then h::hs else hs)=hs')
  (x:EG E lo os hs' k ((d,v)::f) h' rs Q):EG E lo (⟨some d,op,some t,0⟩::os) hs k f h rs Q:=⟨.by (qgs hw hi he) x.out⟩
def EG.skip {d:Nat}{op:IOp}{t:Nat×Bool}{c:Nat}(hw:want (some t) f=some false)(x:EG E lo os hs k ((d,qag)::f) h rs Q) :
  EG E lo (⟨some d,op,some t,c⟩::os) hs k f h rs Q:=⟨.by (qgt hw) x.out⟩
def ER.loop {ls:List Nat}{B:ICode}(I:Nat->Fr->qab->Prop){n:Nat}(h0:I n (keep ls f) h)
  (st:∀n f h,I n f h->(∀m f' h',m<n->I m (keep ls f') h'->ER E lo (.again ls B::k) f' h' rs Q)->ER E lo (.code B :: .again ls B::k) f h rs Q) :
  ER E lo (.code (.loop ls B)::k) f h rs Q:=by
 have key:∀n f h,I n f h->ER E lo (.code B :: .again ls B::k) f h rs Q:=by
  intro n
  induction n using Nat.strongRecOn with
  | _ n ih=>exact fun f h hi=>st n f h hi fun m f' h' hm hi'=>⟨.by qf3 (ih m hm _ _ hi').out⟩
 exact⟨.by qf7 (key n _ _ h0).out⟩
end
def qgw {g:Nat}{fn:qak}{args:List Value}{r:Value×qab}(hp:E.yS g=none)(hf:E.fn g=some fn)(ha:args.length=fn.yT)(hs:fn.wau=false)
  (he:ER E lo [.code fn.body] (number 0 args) h fn.res fun v h'=>(v,h')=r):qfU E lo g args h=some r:=by
 obtain⟨f',h',v,h1,h2,h3⟩:=he.out
 rw [qgf hp hf ha hs h1 h2,h3]
def qgx {g:Nat}{fn:qak}{args:List Value}{r:Value×qab}(hp:E.yS g=none)(hf:E.fn g=some fn)(ha:args.length=fn.yT)(hs:fn.wau=true)
  (he:ER E h.length [.code fn.body] (number 0 args) h fn.res fun v h'=>tidy h v h'=some r):qfU E lo g args h=some r:=by
 obtain⟨f',h',v,h1,h2,h3⟩:=he.out
 exact qgg hp hf ha hs h1 h2 h3
end
def qgy {α:Type}{n:Nat} : ∀{es:List (List α)} {i o:Nat} {e:List α},(∀e∈es,e.length=n)->es[i]? = some e->o<n->es.flatten[i*n+o]? = e[o]?
 | [],i,o,e,_,h,_=>by simp at h
 | x::es,i,o,e,hl,h,ho=>by
   have hx:=hl x (by simp)
   cases i with
   | zero =>
     simp at h
     subst h
     simp [zzA (show o<x.length by omega)]
   | succ i =>
     have ih:=qgy (es:=es) (i:=i) (o:=o) (e:=e) (fun e he=>hl e (by simp [he])) (by simpa using h) ho
     rw [List.flatten_cons,zzB (by rw [hx,Nat.add_mul];omega),<-ih]
     congr 1
     rw [hx,Nat.add_mul];omega
def qgz {α:Type}{n:Nat} : ∀{es:List (List α)},(∀e∈es,e.length=n)->es.flatten.length=es.length*n
 | [],_=>by simp
 | x::es,hl=>by
   rw [List.flatten_cons,zzM,qgz (fun e he=>hl e (by simp [he])),hl x (by simp),List.length_cons,Nat.add_mul];omega
def qgA {α:Type}{n:Nat}{es:List (List α)}{i:Nat}{e:List α}(hl:∀e∈es,e.length=n)(hi:es[i]? = some e):(es.flatten.drop (i*n)).take n=e:=by
 have he:=hl e (List.mem_of_getElem? hi)
 refine List.ext_getElem? fun o => ?_
 rw [List.getElem?_take]
 split
 ·rename_i ho
  rw [List.getElem?_drop,qgy hl hi ho]
 ·rw [zzE (by omega)]
def Sl (h:qab)(n:Nat)(v:Value)(es:List (List Value)):Prop :=
 (∀e∈es,e.length=n)/\((es = []/\∃base cap,v = .slice base 0 cap)\/∃a cap,v = .slice (some a) es.length cap/\ldN h a (es.length*n)=some es.flatten)
def Ext (h h':qab):Prop:=h.length<=h'.length/\∀i,i<h.length->h'[i]? = h[i]?
def Ext.refl (h:qab):Ext h h:=⟨zzR _,fun _ _=>rfl⟩
def Ext.trans {h h' h'':qab}(a:Ext h h')(b:Ext h' h''):Ext h h'':=⟨Nat.le_trans a.1 b.1,fun i hi=>(b.2 i (by have:=a.1;omega)).trans (a.2 i hi)⟩
def Ext.app {h h':qab}(e:Ext h h')(k:List Blk):Ext h (h'++k):=e.trans ⟨by simp,fun i hi=>zzA hi⟩
def Ext.set {h h':qab}(e:Ext h h'){i:Nat}{k:Blk}(hi:h.length<=i):Ext h (h'.set i k):=⟨by simpa using e.1,fun j hj=>by rw [zzN (by omega)];exact e.2 j hj⟩
def qgB {h:qab}{a:Addr}{n:Nat}{l:List Value}(hl:ldN h a n=some l):∃cs ro,h[a.block]? = some (.row cs ro)/\a.off+n<=cs.length/\l=(cs.drop a.off).take n:=by
 unfold ldN qac at hl
 split at hl<;>try (cases hl;done)
 rename_i cs hcs
 split at hcs<;>try (cases hcs;done)
 rename_i cs' ro hb
 injection hcs with hcs;subst hcs
 obtain⟨h1,h2⟩:=qc0 hl
 exact⟨_,ro,hb,h1,h2.symm⟩
def qgC {h:qab}{a:Addr}{n:Nat}{cs:List Value}{ro:Bool}(hb:h[a.block]? = some (.row cs ro))(hle:a.off+n<=cs.length):ldN h a n=some ((cs.drop a.off).take n):=by
 unfold ldN qac
 rw [hb]
 simp [hle]
def qgD {h:qab}{a:Addr}{n:Nat}{cs:List Value}{ro:Bool}(hb:h[a.block]? = some (.row cs ro))(ho:a.off=0)(hn:n=cs.length):ldN h a n=some cs:=by
 rw [qgC hb (by omega),ho,hn]
 simp
def qgE {h h':qab}(e:Ext h h'){a:Addr}{n:Nat}{l:List Value}(hl:ldN h a n=some l):ldN h' a n=some l:=by
 obtain⟨cs,ro,hb,h1,h2⟩:=qgB hl
 have:h'[a.block]? = some (.row cs ro):=by rw [e.2 _ (zzS.1 hb).1];exact hb
 unfold ldN qac
 rw [this]
 simp [h1,h2]
def Sl.ext {h h':qab}{n:Nat}{v:Value}{es:List (List Value)}(s:Sl h n v es)(e:Ext h h'):Sl h' n v es:=by
 refine⟨s.1, ?_⟩
 rcases s.2 with h1|⟨a,cap,h1,h2⟩
 ·exact .inl h1
 ·exact .inr ⟨a,cap,h1,qgE e h2⟩
def Sl.len {h:qab}{n:Nat}{v:Value}{es:List (List Value)}(s:Sl h n v es):∃base cap,v = .slice base es.length cap:=by
 rcases s.2 with⟨h1,base,cap,h2⟩|⟨a,cap,h1,h2⟩
 ·exact⟨base,cap,by rw [h2,h1];rfl⟩
 ·exact⟨some a,cap,h1⟩
def Sl.at {h:qab}{n:Nat}{v:Value}{es:List (List Value)}(s:Sl h n v es){i:Nat}{e:List Value}(hi:es[i]? = some e) :
  ∃a cap,v = .slice (some a) es.length cap/\(∀o x,e[o]? = some x->qau h none ⟨a.block,a.off+i*n+o,none⟩=some x)/\qau h (some n) ⟨a.block,a.off+i*n,none⟩=some (.agg e.toArray):=by
 have hil:=(zzS.1 hi).1
 rcases s.2 with⟨h1,base,cap,h2⟩|⟨a,cap,h1,h2⟩
 ·subst h1;simp at hi
 ·obtain⟨cs,ro,hb,h3,h4⟩:=qgB h2
  have he:=s.1 e (List.mem_of_getElem? hi)
  have hmul:i*n+n<=es.length*n:=by rw [<-Nat.succ_mul];exact Nat.mul_le_mul_right n hil
  refine⟨a,cap,h1,fun o x ho => ?_, ?_⟩
  ·have hol:o<n:=by rw [<-he];exact(zzS.1 ho).1
   have:=qgy s.1 hi hol
   rw [h4,List.getElem?_take,if_pos (by omega),List.getElem?_drop,ho]at this
   simp only [qau,ld1,qac,hb]
   rw [Nat.add_assoc];exact this
  ·have:=qgA s.1 hi
   rw [h4,List.drop_take,List.take_take,Nat.min_eq_left (by omega),List.drop_drop]at this
   simp only [qau,ldN,qac,hb]
   rw [if_pos (by omega),this]
def Sl.row {h:qab}{n:Nat}{v:Value}{es:List (List Value)}(s:Sl h n v es)(hne:es≠[]) :
  ∃a cap,v = .slice (some a) es.length cap/\∀(i:Nat) (e:List Value),es[i]? = some e->
   (∀(o:Nat) x,e[o]? = some x->qau h none ⟨a.block,a.off+i*n+o,none⟩=some x)/\qau h (some n) ⟨a.block,a.off+i*n,none⟩=some (.agg e.toArray):=by
 rcases s.2 with⟨h1,_⟩|⟨a,cap,h1,h2⟩
 ·exact absurd h1 hne
 ·refine⟨a,cap,h1,fun i e hi => ?_⟩
  obtain⟨a',cap',g1,g2,g3⟩:=s.at hi
  rw [h1]at g1
  injection g1 with g1
  injection g1 with g1
  subst g1
  exact⟨g2,g3⟩
def Out (H:qab)(lo n:Nat)(v:Value)(es:List (List Value)):Prop :=
 (∀e∈es,e.length=n)/\((es = []/\v = .slice none 0 0)\/es≠[]/\∃b,v = .slice (some (loose b 0)) es.length n/\lo<=b/\H[b]? = some (.row es.flatten false))
def Out.sl {H:qab}{lo n:Nat}{v:Value}{es:List (List Value)}(o:Out H lo n v es):Sl H n v es:=by
 refine⟨o.1, ?_⟩
 rcases o.2 with⟨h1,h2⟩|⟨h0,b,h1,h2,h3⟩
 ·exact .inl ⟨h1,none,0,h2⟩
 ·refine .inr ⟨_,_,h1, ?_⟩
  exact qgD (a:=loose b 0) h3 rfl (qgz o.1).symm
def Out.nil (H:qab)(lo n:Nat):Out H lo n (.slice none 0 0) []:=⟨fun _ h=>(by cases h),.inl ⟨rfl,rfl⟩⟩
def Out.app {H:qab}{lo n:Nat}{v:Value}{es:List (List Value)}(o:Out H lo n v es)(k:Blk):Out (H ++ [k]) lo n v es:=by
 refine⟨o.1, ?_⟩
 rcases o.2 with h1|⟨h0,b,h1,h2,h3⟩
 ·exact .inl h1
 ·exact .inr ⟨h0,b,h1,h2,by rw [zzA (zzS.1 h3).1];exact h3⟩
def Out.push {H:qab}{lo n bytes:Nat}{v:Value}{es:List (List Value)}{e:List Value}(o:Out H lo n v es)(he:e.length=n)(hlo:lo<=H.length)(hn:es.length+1<=2 ^ 30)(hb:bytes<=2 ^ 12) :
  ∃v' H',qaE lo n bytes (H ++ [.row e false]) v (.slice (some ⟨H.length,0,none⟩) 1 1)=some (v',H')/\Out H' lo n v' (es ++ [e])/\(∀h:qab,h.length<=lo->Ext h H->Ext h H'):=by
 have hsrc:∀m,m=1->qaC (H ++ [.row e false]) n m (.slice (some ⟨H.length,0,none⟩) 1 1)=some e:=fun m hm=>by
  subst hm
  unfold qaC
  simp only
  rw [if_neg (by decide),qgD (a:=⟨H.length,0,none⟩) (cs:=e) (ro:=false) (zzC) rfl (by omega)]
 have hall:∀x∈es ++ [e],x.length=n:=fun x hx=>by
  rcases List.mem_append.1 hx with hx|hx
  ·exact o.1 x hx
  ·simp at hx;subst hx;exact he
 rcases o.2 with⟨rfl,rfl⟩|⟨h0,b,rfl,h2,h3⟩
 ·refine⟨.slice (some (loose (H ++ [Blk.row e false]).length 0)) 1 n,H ++ [Blk.row e false] ++ [Blk.row e false], ?_,⟨hall,.inr ⟨by simp,(H ++ [Blk.row e false]).length,by simp,by simp;omega,by rw [zzC];simp⟩⟩,fun h hh he=>(he.app _).app _⟩
  simp only [qaE,qaB,Nat.zero_add,hsrc 1 rfl]
  rw [if_pos (.inl ⟨by omega,hb⟩)]
  simp
 ·have hbl:=(zzS.1 h3).1
  have hfl:=qgz o.1
  have h3':(H ++ [Blk.row e false])[b]? = some (.row es.flatten false):=by rw [zzA hbl];exact h3
  have hold:qaC (H ++ [.row e false]) n es.length (.slice (some (loose b 0)) es.length n)=some es.flatten:=by
   unfold qaC
   simp only
   split
   ·rename_i h0
    have:es = []:=List.length_eq_zero_iff.1 h0
    subst this;rfl
   ·exact qgD (a:=loose b 0) h3' rfl hfl.symm
  refine⟨.slice (some (loose (H ++ [Blk.row e false]).length 0)) (es.length+1) n,(H ++ [Blk.row e false]).set b Blk.dead ++ [Blk.row (es.flatten++e) false], ?_,
   ⟨hall,.inr ⟨by simp,(H ++ [Blk.row e false]).length,by simp,by simp;omega, ?_⟩⟩,fun h hh hx=>((hx.app _).set (by omega)).app _⟩
  ·simp only [qaE,qaB,hsrc 1 rfl]
   rw [if_pos (.inl ⟨hn,hb⟩)]
   simp only [loose]at hold h3'|-
   simp only [hold,h3']
   simp [h2]
  ·rw [zzB (by simp)]
   simp
def Out.waC {H:qab}{l0 lo n bytes:Nat}{v:Value}{es:List (List Value)}{e:List Value}(o:Out H lo n v es)(he:e.length=n)(hl0:l0<=lo)(hlo:lo<=H.length)(hn:es.length+1<=2 ^ 30)(hb:bytes<=2 ^ 12) :
  ∃v' H',qaE l0 n bytes (H ++ [.row e false]) v (.slice (some ⟨H.length,0,none⟩) 1 1)=some (v',H')/\Out H' lo n v' (es ++ [e])/\(∀h:qab,h.length<=lo->Ext h H->Ext h H'):=by
 have hsrc:∀m,m=1->qaC (H ++ [.row e false]) n m (.slice (some ⟨H.length,0,none⟩) 1 1)=some e:=fun m hm=>by
  subst hm
  unfold qaC
  simp only
  rw [if_neg (by decide),qgD (a:=⟨H.length,0,none⟩) (cs:=e) (ro:=false) (zzC) rfl (by omega)]
 have hall:∀x∈es ++ [e],x.length=n:=fun x hx=>by
  rcases List.mem_append.1 hx with hx|hx
  ·exact o.1 x hx
  ·simp at hx;subst hx;exact he
 rcases o.2 with⟨rfl,rfl⟩|⟨h0,b,rfl,h2,h3⟩
 ·refine⟨.slice (some (loose (H ++ [Blk.row e false]).length 0)) 1 n,H ++ [Blk.row e false] ++ [Blk.row e false], ?_,⟨hall,.inr ⟨by simp,(H ++ [Blk.row e false]).length,by simp,by simp;omega,by rw [zzC];simp⟩⟩,fun h hh he=>(he.app _).app _⟩
  simp only [qaE,qaB,Nat.zero_add,hsrc 1 rfl]
  rw [if_pos (.inl ⟨by omega,hb⟩)]
  simp
 ·have hbl:=(zzS.1 h3).1
  have hfl:=qgz o.1
  have h3':(H ++ [Blk.row e false])[b]? = some (.row es.flatten false):=by rw [zzA hbl];exact h3
  have hold:qaC (H ++ [.row e false]) n es.length (.slice (some (loose b 0)) es.length n)=some es.flatten:=by
   unfold qaC
   simp only
   split
   ·rename_i h0
    have:es = []:=List.length_eq_zero_iff.1 h0
    subst this;rfl
   ·exact qgD (a:=loose b 0) h3' rfl hfl.symm
  refine⟨.slice (some (loose (H ++ [Blk.row e false]).length 0)) (es.length+1) n,(H ++ [Blk.row e false]).set b Blk.dead ++ [Blk.row (es.flatten++e) false], ?_,
   ⟨hall,.inr ⟨by simp,(H ++ [Blk.row e false]).length,by simp,by simp;omega, ?_⟩⟩,fun h hh hx=>((hx.app _).set (by omega)).app _⟩
  ·simp only [qaE,qaB,hsrc 1 rfl]
   rw [if_pos (.inl ⟨hn,hb⟩)]
   simp only [loose]at hold h3'|-
   simp only [hold,h3']
   simp [show l0<=b by omega]
  ·rw [zzB (by simp)]
   simp
section
variable {call:qaM}{lo:Nat}{f:Fr}{h h':qab}{v:Value}
def qgF {esz:Nat}{x i:Operand}{a:Addr}{len cap:Nat}{k:IntKind}{j:Nat}(hx:ev f x=some (.slice (some a) len cap))(hi:ev f i=some (.int k (j:Nat)))(hj:j<len) :
  yf call lo (.yn none esz x i) f h=some (.pointer (some ⟨a.block,a.off+j*esz,none⟩),h):=by
 simp only [yf,hx,hi]
 rw [if_pos ⟨by omega,by omega⟩]
 simp
def qgG {n:Option Nat}{x:Operand}{a:Addr}(hx:ev f x=some (.pointer (some a)))(hl:qau h n a=some v):yf call lo (.load n x) f h=some (v,h):=by
 simp only [yf,hx,hl]
def qgH {g:Nat}{xs:List Operand}{vs:List Value}{r:Value×qab}(hx:evs f xs=some vs)(hc:call g vs h=some r):yf call lo (.call g xs) f h=some r:=by
 simp only [yf,hx,hc]
def qgI {esz bytes:Nat}{x y:Operand}{vx vy:Value}(hx:ev f x=some vx)(hy:ev f y=some vy)(ha:qaE lo esz bytes h vx vy=some (v,h')):yf call lo (.append esz bytes x y) f h=some (v,h'):=by
 simp only [yf,hx,hy,ha]
end
def made (h:qab)(n:Nat)(es:List (List Value)):Value×qab :=
 if es = []then(.slice none 0 0,h)else(.slice (some (loose h.length 0)) es.length n,h ++ [.row es.flatten false])
def Out.tidy {h H:qab}{n:Nat}{v:Value}{es:List (List Value)}(o:Out H h.length n v es)(hf:∀e∈es,e.all yl=true):Ir.tidy h v H=some (made h n es):=by
 rcases o.2 with⟨rfl,rfl⟩|⟨h0,b,rfl,h2,h3⟩
 ·simp [Ir.tidy,qaW,made,qae,yl]
 ·have hfl:es.flatten.all yl=true:=by
   simp only [List.all_eq_true,List.mem_flatten]
   rintro x ⟨e,he,hx⟩
   exact List.all_eq_true.1 (hf e he) x hx
  simp only [Ir.tidy,qaW,loose]
  rw [if_neg (by omega),h3]
  simp only
  rw [if_pos (by simpa using hfl)]
  unfold made
  rw [if_neg h0]
  rfl
def qgJ {h:qab}{n:Nat}{es:List (List Value)}(hl:∀e∈es,e.length=n):Sl (made h n es).2 n (made h n es).1 es/\Ext h (made h n es).2:=by
 unfold made
 split
 ·rename_i he
  exact⟨⟨hl,.inl ⟨he,none,0,rfl⟩⟩,.refl _⟩
 ·exact⟨⟨hl,.inr ⟨_,_,rfl,qgD (a:=loose h.length 0) zzC rfl (qgz hl).symm⟩⟩,(Ext.refl h).app _⟩
instance (n:Nat):OfNat Operand n:=⟨.tmp n⟩
abbrev oi (n:Int):Operand := .const (.int .i64 n)
abbrev ob (b:Bool):Operand := .const (.bool b)
abbrev IOper.m (d x:Nat):IOper:=⟨some d,.yy (.tmp x),none,0⟩
abbrev IOper.o (d:Nat)(x:IOp):IOper:=⟨some d,x,none,0⟩
abbrev IOper.e (x:IOp):IOper:=⟨none,x,none,0⟩
abbrev IOper.w (d:Nat)(x:IOp)(t:Nat)(b:Bool):IOper:=⟨some d,x,some (t,b),0⟩
abbrev IOper.k (d:Nat)(x:Operand):IOper := .o d (.ym x)
abbrev IOper.f (d n:Nat)(x:Operand):IOper := .o d (.yo n x)
abbrev IOper.l (d:Nat)(x:Operand):IOper := .o d (.load none x)
abbrev IOper.x (d:Nat)(x:Operand)(n:Nat):IOper := .o d (.extract x n)
abbrev IOper.c (d m:Nat)(xs:List Operand):IOper := .o d (.call m xs)
abbrev IOper.i (d:Nat)(n:Int):IOper := .o d (.yy (oi n))
abbrev IOper.b (d:Nat)(b:Bool):IOper := .o d (.yy (ob b))
abbrev IOper.j (d:Nat)(op:BinOp)(x y:Operand):IOper := .o d (.bin op x y)
abbrev IOper.A (d b o:Nat):IOper := .o d (.yd none b o)
abbrev IOper.B (d s b o:Nat):IOper := .o d (.yc (some s) b o none)
abbrev IOper.C (d b o n:Nat):IOper := .o d (.yc none b o (some n))
abbrev IOper.D (d b o n:Nat)(x:Operand):IOper := .o d (.yu none b o n x)
abbrev IOper.E (d:Nat)(t x:Operand):IOper := .o d (.pick t (ob true) x)
abbrev IOper.F (d:Nat)(t x:Operand):IOper := .o d (.pick t x (ob false))
abbrev IOper.G (d n:Nat)(x:Operand):IOper := .o d (.load (some n) x)
abbrev IOper.H (d:Nat)(x:Operand):IOper := .o d (.yi x)
abbrev IOper.I (d n:Nat)(x y:Operand):IOper := .o d (.yn none n x y)
abbrev IOper.N (d:Nat)(x:Operand):IOper := .o d (.un .not x)
abbrev IOper.p (d:Nat)(x:IOp)(t:Nat):IOper := .w d x t false
abbrev IOper.q (d:Nat)(x:IOp)(t:Nat):IOper := .w d x t true
abbrev IOper.u (d x t:Nat):IOper := .w d (.yy (.tmp x)) t false
abbrev IOper.v (d x t:Nat):IOper := .w d (.yy (.tmp x)) t true
abbrev ICode.r (ops:List IOper):ICode := .region ops
abbrev ICode.s (ops:List IOper)(c:ICode):ICode := .seq (.region ops) c
section
variable {E:Env}{lo:Nat}{os:List IOper}{f:Fr}{h h':qab}{hs hs':List qab}{v:Value}{k:List Item}{rs:List qaj}{Q:Value->qab->Prop}{d:Nat}{g:Option (Nat×Bool)}
def EG.go {op:IOp}(hw:want g f=some true)(hi:yf (qfU E lo) lo op f h=some (v,h'))(he:(if qaQ op then h::hs else hs)=hs')
  (x:EG E lo os hs' k ((d,v)::f) h' rs Q):EG E lo (⟨some d,op,g,0⟩::os) hs k f h rs Q:=⟨.by (by subst he;unfold exG;simp only [yw,hw,hi,List.take_zero,yj,if_true,yG]) x.out⟩
def EG.wat {op:IOp}(hw:want g f=some true)(hi:yf (qfU E lo) lo op f h=some (v,h'))(he:(if qaQ op then h::hs else hs)=hs')
  (x:EG E lo os hs' k f h' rs Q):EG E lo (⟨none,op,g,0⟩::os) hs k f h rs Q:=⟨.by (by subst he;unfold exG;simp only [yw,hw,hi,List.take_zero,yj,if_true,yG]) x.out⟩
def EG.wai {op:IOp}{t:Nat×Bool}{c:Nat}(hw:want (some t) f=some false)(x:EG E lo os hs k f h rs Q) :
  EG E lo (⟨none,op,some t,c⟩::os) hs k f h rs Q:=⟨.by (by unfold exG;simp only [yw,hw,yG]) x.out⟩
section
variable {x y:Operand}{j:IntKind}{a b:Int}
def EG.lss (hw:want g f=some true)(hx:ev f x=some (.int j a))(hy:ev f y=some (.int j b))(t:a<b->EG E lo os hs k ((d,.bool true)::f) h rs Q)(n:¬a<b->EG E lo os hs k ((d,.bool false)::f) h rs Q) :
  EG E lo (⟨some d,.bin .lss x y,g,0⟩::os) hs k f h rs Q:=by
 by_cases hc:a<b
 ·exact .go hw (by simp [yf,hx,hy,qaq,qam,qap,hc]) rfl (t hc)
 ·exact .go hw (by simp [yf,hx,hy,qaq,qam,qap,hc]) rfl (n hc)
def EG.leq (hw:want g f=some true)(hx:ev f x=some (.int j a))(hy:ev f y=some (.int j b))(t:a<=b->EG E lo os hs k ((d,.bool true)::f) h rs Q)(n:¬a<=b->EG E lo os hs k ((d,.bool false)::f) h rs Q) :
  EG E lo (⟨some d,.bin .leq x y,g,0⟩::os) hs k f h rs Q:=by
 by_cases hc:a<=b
 ·exact .go hw (by simp [yf,hx,hy,qaq,qam,qap,hc]) rfl (t hc)
 ·exact .go hw (by simp [yf,hx,hy,qaq,qam,qap,hc]) rfl (n hc)
def EG.gtr (hw:want g f=some true)(hx:ev f x=some (.int j a))(hy:ev f y=some (.int j b))(t:b<a->EG E lo os hs k ((d,.bool true)::f) h rs Q)(n:¬b<a->EG E lo os hs k ((d,.bool false)::f) h rs Q) :
  EG E lo (⟨some d,.bin .gtr x y,g,0⟩::os) hs k f h rs Q:=by
 by_cases hc:b<a
 ·exact .go hw (by simp [yf,hx,hy,qaq,qam,qap,hc]) rfl (t hc)
 ·exact .go hw (by simp [yf,hx,hy,qaq,qam,qap,hc]) rfl (n hc)
def EG.geq (hw:want g f=some true)(hx:ev f x=some (.int j a))(hy:ev f y=some (.int j b))(t:b<=a->EG E lo os hs k ((d,.bool true)::f) h rs Q)(n:¬b<=a->EG E lo os hs k ((d,.bool false)::f) h rs Q) :
  EG E lo (⟨some d,.bin .geq x y,g,0⟩::os) hs k f h rs Q:=by
 by_cases hc:b<=a
 ·exact .go hw (by simp [yf,hx,hy,qaq,qam,qap,hc]) rfl (t hc)
 ·exact .go hw (by simp [yf,hx,hy,qaq,qam,qap,hc]) rfl (n hc)
def EG.eql (hw:want g f=some true)(hx:ev f x=some (.int j a))(hy:ev f y=some (.int j b))(t:a=b->EG E lo os hs k ((d,.bool true)::f) h rs Q)(n:¬a=b->EG E lo os hs k ((d,.bool false)::f) h rs Q) :
  EG E lo (⟨some d,.bin .eql x y,g,0⟩::os) hs k f h rs Q:=by
 by_cases hc:a=b
 ·exact .go hw (by simp [yf,hx,hy,qaq,qam,qap,hc]) rfl (t hc)
 ·exact .go hw (by simp [yf,hx,hy,qaq,qam,qap,hc]) rfl (n hc)
def EG.neq (hw:want g f=some true)(hx:ev f x=some (.int j a))(hy:ev f y=some (.int j b))(t:¬a=b->EG E lo os hs k ((d,.bool true)::f) h rs Q)(n:a=b->EG E lo os hs k ((d,.bool false)::f) h rs Q) :
  EG E lo (⟨some d,.bin .neq x y,g,0⟩::os) hs k f h rs Q:=by
 by_cases hc:a=b
 ·exact .go hw (by simp [yf,hx,hy,qaq,qam,qap,hc]) rfl (n hc)
 ·exact .go hw (by simp [yf,hx,hy,qaq,qam,qap,hc]) rfl (t hc)
end
def EG.bl {op:IOp}{b:Bool}(hw:want g f=some true)(hi:yf (qfU E lo) lo op f h=some (.bool b,h'))(he:(if qaQ op then h::hs else hs)=hs')
  (t:b=true->EG E lo os hs' k ((d,.bool true)::f) h' rs Q) (n:b=false->EG E lo os hs' k ((d,.bool false)::f) h' rs Q):EG E lo (⟨some d,op,g,0⟩::os) hs k f h rs Q:=by
 cases b
 ·exact .go hw hi he (n rfl)
 ·exact .go hw hi he (t rfl)
def ER.br {c:Operand}{x y:ICode}{b:Bool}(hc:ev f c=some (.bool b))(t:b=true->ER E lo (.code x::k) f h rs Q)(n:b=false->ER E lo (.code y::k) f h rs Q):ER E lo (.code (.cond c x y)::k) f h rs Q:=by
 cases b
 ·exact .no hc (n rfl)
 ·exact .yes hc (t rfl)
def EG.load {n:Option Nat}{x:Operand}{a:Addr}(hw:want g f=some true)(hx:ev f x=some (.pointer (some a)))(hl:qau h n a=some v)(c:EG E lo os hs k ((d,v)::f) h rs Q) :
  EG E lo (⟨some d,.load n x,g,0⟩::os) hs k f h rs Q := .go hw (qgG hx hl) rfl c
def EG.yn {esz:Nat}{x i:Operand}{a:Addr}{len cap:Nat}{kk:IntKind}{j:Nat}(hw:want g f=some true)(hx:ev f x=some (.slice (some a) len cap))(hi:ev f i=some (.int kk (j:Nat)))(hj:j<len)
  (c:EG E lo os hs k ((d,.pointer (some ⟨a.block,a.off+j*esz,none⟩))::f) h rs Q):EG E lo (⟨some d,.yn none esz x i,g,0⟩::os) hs k f h rs Q := .go hw (qgF hx hi hj) rfl c
def EG.call {m:Nat}{xs:List Operand}{vs:List Value}(hw:want g f=some true)(hx:evs f xs=some vs)(hc:qfU E lo m vs h=some (v,h'))(c:EG E lo os (h::hs) k ((d,v)::f) h' rs Q) :
  EG E lo (⟨some d,.call m xs,g,0⟩::os) hs k f h rs Q := .go hw (qgH hx hc) rfl c
def EG.y7 {m:Nat}{xs:List Operand}{vs:List Value}{b:Bool}(hw:want g f=some true)(hx:evs f xs=some vs)(hc:qfU E lo m vs h=some (.bool b,h'))
  (t:b=true->EG E lo os (h::hs) k ((d,.bool true)::f) h' rs Q) (n:b=false->EG E lo os (h::hs) k ((d,.bool false)::f) h' rs Q) :
  EG E lo (⟨some d,.call m xs,g,0⟩::os) hs k f h rs Q := .bl hw (qgH hx hc) rfl t n
def EG.yt {m:Nat}{x:Operand}{fv:Value}{caps:List Value}{xs:List Operand}{vs:List Value}(hw:want g f=some true)(hf:ev f x=some fv)(hk:callee fv=some (m,caps))(hx:evs f xs=some vs)
  (hc:qfU E lo m (vs++caps) h=some (v,h')) (c:EG E lo os (h::hs) k ((d,v)::f) h' rs Q) :
  EG E lo (⟨some d,.yt x xs,g,0⟩::os) hs k f h rs Q := .go hw (by simp only [yf,hf,hx,hk,hc]) rfl c
def EG.waA {m:Nat}{x:Operand}{fv:Value}{caps:List Value}{xs:List Operand}{vs:List Value}{b:Bool}(hw:want g f=some true)(hf:ev f x=some fv)(hk:callee fv=some (m,caps))(hx:evs f xs=some vs)
  (hc:qfU E lo m (vs++caps) h=some (.bool b,h'))
  (t:b=true->EG E lo os (h::hs) k ((d,.bool true)::f) h' rs Q) (n:b=false->EG E lo os (h::hs) k ((d,.bool false)::f) h' rs Q) :
  EG E lo (⟨some d,.yt x xs,g,0⟩::os) hs k f h rs Q := .bl hw (by simp only [yf,hf,hx,hk,hc]) rfl t n
def EG.app {esz bytes:Nat}{x y:Operand}{vx vy:Value}(hw:want g f=some true)(hx:ev f x=some vx)(hy:ev f y=some vy)(ha:qaE lo esz bytes h vx vy=some (v,h'))(c:EG E lo os (h::hs) k ((d,v)::f) h' rs Q) :
  EG E lo (⟨some d,.append esz bytes x y,g,0⟩::os) hs k f h rs Q := .go hw (qgI hx hy ha) rfl c
def EG.store {n:Nat}{x y:Operand}{a:Addr}{u:Value}(hw:want g f=some true)(hx:ev f x=some (.pointer (some a)))(hy:ev f y=some u)(hl:(qaf u).length=n)(ho:(qaf u).all qad=true)(hst:stN lo h a (qaf u)=some h')
  (c:EG E lo os (h::hs) k f h' rs Q):EG E lo (⟨none,.store n x y,g,0⟩::os) hs k f h rs Q :=
 .wat (v:=qag) hw (by simp only [yf,hx,hy];rw [if_pos ⟨hl,ho⟩,hst]) rfl c
def EG.yy {x:Operand}(hw:want g f=some true)(hx:ev f x=some v)(c:EG E lo os hs k ((d,v)::f) h rs Q) :
  EG E lo (⟨some d,.yy x,g,0⟩::os) hs k f h rs Q := .go hw (by simp only [yf,hx]) rfl c
def EG.yc {s n:Option Nat}{b off:Nat}{cs:Array Value}(hw:want g f=some true)(hs':yM f s=true)(hb:qaa f b=some (.agg cs))(hp:part n cs.toList off=some v)(c:EG E lo os hs k ((d,v)::f) h rs Q) :
  EG E lo (⟨some d,.yc s b off n,g,0⟩::os) hs k f h rs Q := .go hw (by simp only [yf,hs',hb,hp,if_true]) rfl c
def EG.yd {s:Option Nat}{b off:Nat}{cs:Array Value}(hw:want g f=some true)(hs':yM f s=true)(hb:qaa f b=some (.agg cs))(c:EG E lo os hs k ((d,qah)::f) h rs Q) :
  EG E lo (⟨some d,.yd s b off,g,0⟩::os) hs k f h rs Q := .go hw (by simp only [yf,hs',hb,if_true]) rfl c
end
def okB (r:Option (Value×qab)):Bool:=match r with|some (.bool true,_)=>true|_=>false
def qgK {P:Program}{E0:Env}(ok:qfK P E0)(hmix:P.follows .mixedOrders=true){n g:Nat}
  (hv:okB (qaZ E0 (yq E0 n) 0 g [] [])=true):qfJ P g (qgl (.bool true)):=by
 unfold okB at hv
 split at hv<;>try (cases hv;done)
 rename_i h' hr
 exact qgo ok hmix rfl hr
noncomputable def qgL (f:Fr)(t:Nat):Option Value:=List.rec (motive:=fun _=>Option Value) none (fun p _ ih=>cond (Nat.beq p.1 t) (some p.2) ih) f
def qgM:qgL=qaa:=by
 funext f t
 induction f with
 | nil=>rfl
 | cons p f ih =>
   obtain⟨k,v⟩:=p
   show cond (Nat.beq k t) (some v) (qgL f t)=if k=t then some v else qaa f t
   rw [ih]
   by_cases h:k=t
   ·subst h;simp
   ·rw [if_neg h]
    have:Nat.beq k t=false:=by
     cases hb:Nat.beq k t with
     | false=>rfl
     | true=>exact absurd (Nat.eq_of_beq_eq_true hb) h
    rw [this];rfl
noncomputable def evF (f:Fr)(x:Operand):Option Value :=
 match x with
 | .tmp t=>qgL f t
 | .const v=>some v
 | .func g=>some (.func (.func g) #[] #[])
 | .global _=>none
def qgN:evF=ev:=by
 funext f x
 cases x<;>simp [evF,ev,qgM]
noncomputable def qgO (f:Fr)(l:List Operand):Option (List Value):=List.rec (motive:=fun _=>Option (List Value)) (some []) (fun x _ ih =>
 match evF f x with
 | some v =>
   match ih with
   | some vs=>some (v::vs)
   | none=>none
 | none=>none) l
def qgP:qgO=evs:=by
 funext f l
 induction l with
 | nil=>rfl
 | cons x l ih =>
   show(match evF f x with|some v=>(match qgO f l with|some vs=>some (v::vs)|none=>none)|none=>none)=evs f (x::l)
   rw [ih,qgN,evs]
   rfl
noncomputable def qgQ (f:Fr)(l:List (Nat×Nat×Operand)):Option (List (Nat×Nat×Value)):=List.rec (motive:=fun _=>Option (List (Nat×Nat×Value))) (some []) (fun p _ ih =>
 match p with
 | (o,n,x) =>
   match evF f x with
   | some v =>
     match ih with
     | some vs=>some ((o,n,v)::vs)
     | none=>none
   | none=>none) l
def qgR:qgQ=wan:=by
 funext f l
 induction l with
 | nil=>rfl
 | cons p l ih =>
   obtain⟨o,n,x⟩:=p
   show(match evF f x with|some v=>(match qgQ f l with|some vs=>some ((o,n,v)::vs)|none=>none)|none=>none)=wan f ((o,n,x)::l)
   rw [ih,qgN,wan]
   rfl
noncomputable def qgS (f:Fr)(x:Option Operand):Option (Option Value) :=
 match x with
 | none=>some none
 | some x =>
   match evF f x with
   | some v=>some (some v)
   | none=>none
def qgT:qgS=waa:=by
 funext f x
 cases x
 ·rfl
 ·simp only [qgS,waa,qgN];rfl
noncomputable def qgU (f:Fr)(s:Option Nat):Bool :=
 match s with
 | none=>true
 | some s =>
   match qgL f s with
   | some (.chan (some n))=>n==0
   | _=>false
def qgV:qgU=yM:=by
 funext f s
 cases s
 ·rfl
 ·simp only [qgU,yM,qgM];rfl
def qgW {m:Nat}(h:m<2 ^ 63):IntKind.i64.wrap (m:Int)=(m:Int):=by
 rw [IntKind.wrap_i64];omega
def qgX {m:Nat}(h:m<2 ^ 64):IntKind.u64.wrap (m:Int)=(m:Int):=by
 have:IntKind.u64.wrap (m:Int)=(m:Int)%2 ^ 64:=by
  unfold IntKind.wrap
  simp [IntKind.bits,IntKind.signed]
 rw [this];omega
noncomputable def qgY (k:IntKind)(m:Nat):Int :=
 match m with
 | 0=>(match k with | .i64=>0 | .u64=>0|k=>k.wrap (0:Nat))
 | p+1 =>
   match k with
   | .i64=>cond (Nat.ble p 9223372036854775806) (.ofNat (p+1)) (IntKind.i64.wrap (.ofNat (p+1)))
   | .u64=>cond (Nat.ble p 18446744073709551614) (.ofNat (p+1)) (IntKind.u64.wrap (.ofNat (p+1)))
   | k=>k.wrap (.ofNat (p+1))
def qgZ (k:IntKind)(m:Nat):qgY k m=k.wrap (m:Int):=by
 cases m with
 | zero=>cases k<;>rfl
 | succ p =>
   cases k<;>try rfl
   ·show cond (Nat.ble p 9223372036854775806) (Int.ofNat (p+1)) (IntKind.i64.wrap (.ofNat (p+1)))=IntKind.i64.wrap (.ofNat (p+1))
    cases hb:Nat.ble p 9223372036854775806 with
    | false=>rfl
    | true =>
      have:=zzL hb
      exact(qgW (m:=p+1) (by omega)).symm
   ·show cond (Nat.ble p 18446744073709551614) (Int.ofNat (p+1)) (IntKind.u64.wrap (.ofNat (p+1)))=IntKind.u64.wrap (.ofNat (p+1))
    cases hb:Nat.ble p 18446744073709551614 with
    | false=>rfl
    | true =>
      have:=zzL hb
      exact(qgX (m:=p+1) (by omega)).symm
noncomputable def qg0 (k k':IntKind):Bool:=Nat.beq k.ctorIdx k'.ctorIdx
def qg1 {k k':IntKind}(h:qg0 k k'=true):k=k':=by
 cases k<;>cases k'<;>first|rfl|cases h
noncomputable def qg2 (op:BinOp):Nat->Nat->IntKind->Option Value->Option Value :=
 match op with
 | .add=>fun a b k _=>some (.int k (qgY k (a+b)))
 | .mul=>fun a b k _=>some (.int k (qgY k (a*b)))
 | .sub=>fun a b k z=>cond (Nat.ble b a) (some (.int k (qgY k (a-b)))) z
 | .eql=>fun a b _ _=>some (.bool (Nat.beq a b))
 | .neq=>fun a b _ _=>some (.bool (cond (Nat.beq a b) false true))
 | .lss=>fun a b _ _=>some (.bool (Nat.ble (a+1) b))
 | .leq=>fun a b _ _=>some (.bool (Nat.ble a b))
 | .gtr=>fun a b _ _=>some (.bool (Nat.ble (b+1) a))
 | .geq=>fun a b _ _=>some (.bool (Nat.ble b a))
 | _=>fun _ _ _ z=>z
def qg3 {a b:Nat} : Nat.ble a b=decide (a<=b):=by
 cases h:Nat.ble a b with
 | true=>exact(zzT (zzL h)).symm
 | false=>exact(zzF (fun hc=>by rw [Nat.ble_eq_true_of_le hc]at h;cases h)).symm
def qg4 {a b:Nat} : Nat.beq a b=decide (a=b):=by
 cases h:Nat.beq a b with
 | true=>exact(zzT (Nat.eq_of_beq_eq_true h)).symm
 | false=>exact(zzF (fun hc=>by subst hc;simp at h)).symm
def qg5 (op:BinOp)(a b:Nat)(k:IntKind):qg2 op a b k (qaq op (.int k (a:Nat)) (.int k (b:Nat)))=qaq op (.int k (a:Nat)) (.int k (b:Nat)):=by
 cases op<;>simp [qg2,qaq,qap,qam,qgZ,qg3,qg4]
 ·cases h:decide (b<=a)with
  | false=>rfl
  | true=>rw [<-Int.ofNat_sub (of_decide_eq_true h)];rfl
 ·by_cases h:a=b<;>simp [h]<;>omega
 ·by_cases h:a=b<;>simp [h]<;>omega
 ·omega
 ·omega
noncomputable def qg6 (op:BinOp)(x y:Value):Option Value :=
 match x with
 | .int k (.ofNat a) =>
   match y with
   | .int k' (.ofNat b)=>cond (qg0 k k') (qg2 op a b k (qaq op x y)) (qaq op x y)
   | _=>qaq op x y
 | _=>qaq op x y
def qg7:qg6=qaq:=by
 funext op x y
 cases x<;>try rfl
 rename_i k n
 cases n<;>try rfl
 rename_i a
 cases y<;>try rfl
 rename_i k' n
 cases n<;>try rfl
 rename_i b
 show cond (qg0 k k') (qg2 op a b k (qaq op (.int k (a:Nat)) (.int k' (b:Nat)))) (qaq op (.int k (a:Nat)) (.int k' (b:Nat)))=_
 cases hk:qg0 k k' with
 | false=>rfl
 | true =>
   have:=qg1 hk
   subst this
   exact qg5 op a b k
noncomputable def qg8 (len:Option Nat)(v:Value)(i off:Nat)(h:qab):Option (Value×qab) :=
 match len with
 | some len =>
   match v with
   | .pointer (some a)=>cond (Nat.ble (i+1) len) (some (.pointer (some ⟨a.block,a.off+off,none⟩),h)) none
   | _=>none
 | none =>
   match v with
   | .slice (some a) len _=>cond (Nat.ble (i+1) len) (some (.pointer (some ⟨a.block,a.off+off,none⟩),h)) none
   | _=>none
noncomputable def qg9 (x:Operand)(call:qaM)(lo:Nat)(f:Fr)(h:qab):Option (Value×qab) :=
  match evF f x with
  | some v=>some (v,h)
  | none=>none
noncomputable def qha (c:Operand)(a:Operand)(b:Operand)(call:qaM)(lo:Nat)(f:Fr)(h:qab):Option (Value×qab) :=
  match evF f c with
  | some (.bool t) =>
    match (if t then evF f a else evF f b)with
    | some v=>some (v,h)
    | none=>none
  | _=>none
noncomputable def qhb (n:Option Nat)(x:Operand)(call:qaM)(lo:Nat)(f:Fr)(h:qab):Option (Value×qab) :=
  match evF f x with
  | some (.pointer (some a)) =>
    match qau h n a with
    | some v=>some (v,h)
    | none=>none
  | _=>none
noncomputable def qhc (n:Nat)(x:Operand)(v:Operand)(call:qaM)(lo:Nat)(f:Fr)(h:qab):Option (Value×qab) :=
  match evF f x,evF f v with
  | some (.pointer (some a)),some v =>
    if(qaf v).length=n/\(qaf v).all qad=true then
     match stN lo h a (qaf v)with
     | some h'=>some (qag,h')
     | none=>none
    else none
  | _,_=>none
noncomputable def qhd (v:Operand)(call:qaM)(lo:Nat)(f:Fr)(h:qab):Option (Value×qab) :=
  match evF f v with
  | some v=>if(qaf v).all qad then some (.pointer (some ⟨h.length,0,none⟩),h ++ [.row (qaf v) false])else none
  | none=>none
noncomputable def qhe (v:Operand)(call:qaM)(lo:Nat)(f:Fr)(h:qab):Option (Value×qab) :=
  match evF f v with
  | some v=>some (.agg (qaf v).toArray,h)
  | none=>none
noncomputable def qhf (s:Option Nat)(b:Nat)(_x:Nat)(call:qaM)(lo:Nat)(f:Fr)(h:qab):Option (Value×qab) :=
  if qgU f s then
   match qgL f b with
   | some (.agg _)=>some (qah,h)
   | _=>none
  else none
noncomputable def qhg (s:Option Nat)(b:Nat)(off:Nat)(n:Option Nat)(call:qaM)(lo:Nat)(f:Fr)(h:qab):Option (Value×qab) :=
  if qgU f s then
   match qgL f b with
   | some (.agg cs) =>
     match part n cs.toList off with
     | some v=>some (v,h)
     | none=>none
   | _=>none
  else none
noncomputable def qhh (s:Option Nat)(b:Nat)(off:Nat)(n:Nat)(v:Operand)(call:qaM)(lo:Nat)(f:Fr)(h:qab):Option (Value×qab) :=
  if qgU f s then
   match qgL f b,evF f v with
   | some (.agg cs),some v =>
     if(qaf v).length=n/\(qaf v).all qad=true then
      if off+n<=cs.toList.length then some (.agg (splice cs.toList off (qaf v)).toArray,h)else none
     else none
   | _,_=>none
  else none
noncomputable def qhi (zero:List Value)(parts:List (Nat×Nat×Operand))(call:qaM)(lo:Nat)(f:Fr)(h:qab):Option (Value×qab) :=
  match qgQ f parts with
  | some ps =>
    match qal zero ps with
    | some cs=>some (.agg cs.toArray,h)
    | none=>none
  | none=>none
noncomputable def qhj (esz:Nat)(len:Nat)(zero:List Value)(parts:List (Nat×Nat×Operand))(call:qaM)(lo:Nat)(f:Fr)(h:qab):Option (Value×qab) :=
  match qgQ f parts with
  | some ps =>
    match qal zero ps with
    | some cs=>if cs.all qad then some (.slice (some ⟨h.length,0,none⟩) len len,h ++ [.row cs false])else none
    | none=>none
  | none=>none
noncomputable def qhk (off:Nat)(x:Operand)(call:qaM)(lo:Nat)(f:Fr)(h:qab):Option (Value×qab) :=
  match evF f x with
  | some (.pointer (some a))=>some (.pointer (some ⟨a.block,a.off+off,none⟩),h)
  | _=>none
noncomputable def qhl (off:Nat)(n:Option Nat)(x:Operand)(call:qaM)(lo:Nat)(f:Fr)(h:qab):Option (Value×qab) :=
  match evF f x with
  | some (.agg cs) =>
    match part n cs.toList off with
    | some v=>some (v,h)
    | none=>none
  | _=>none
noncomputable def qhm (len:Option Nat)(esz:Nat)(x:Operand)(i:Operand)(call:qaM)(lo:Nat)(f:Fr)(h:qab):Option (Value×qab) :=
 match evF f x with
 | none=>none
 | some v =>
   match evF f i with
   | some (.int _ (.ofNat i))=>qg8 len v i (i*esz) h
   | _=>none
noncomputable def qhn (len:Nat)(esz:Nat)(n:Option Nat)(x:Operand)(i:Operand)(call:qaM)(lo:Nat)(f:Fr)(h:qab):Option (Value×qab) :=
  match evF f x,evF f i with
  | some (.agg cs),some (.int _ i) =>
    if 0<=i/\i<(len:Int)then
     match part n cs.toList (i.toNat*esz)with
     | some v=>some (v,h)
     | none=>none
    else none
  | _,_=>none
noncomputable def qho (x:Operand)(i:Operand)(call:qaM)(lo:Nat)(f:Fr)(h:qab):Option (Value×qab) :=
  match evF f x,evF f i with
  | some (.string s),some (.int _ i) =>
    if 0<=i then
     match s.data.toList[i.toNat]? with
     | some b=>some (.int .u8 b.toNat,h)
     | none=>none
    else none
  | _,_=>none
noncomputable def qhp (x:Operand)(call:qaM)(lo:Nat)(f:Fr)(h:qab):Option (Value×qab) :=
  match evF f x with
  | some (.pointer (some a))=>some (.pointer (some a),h)
  | some (.iface t v)=>some (.iface t v,h)
  | some (.func (.func g) a b)=>some (.func (.func g) a b,h)
  | _=>none
noncomputable def qhq (name:String)(tab:List (Nat×Nat))(x:Operand)(call:qaM)(lo:Nat)(f:Fr)(h:qab):Option (Value×qab) :=
  match evF f x with
  | some (.func (.method n) a b) =>
    if n=name then
     match a.toList with
     | .iface t _::_ =>
       match tab.lookup t with
       | some _=>some (.func (.method n) a b,h)
       | none=>none
     | _=>none
    else none
  | _=>none
noncomputable def qhr (op:BinOp)(x:Operand)(y:Operand)(call:qaM)(lo:Nat)(f:Fr)(h:qab):Option (Value×qab) :=
 match evF f x with
 | none=>none
 | some x =>
   match evF f y with
   | none=>none
   | some y =>
     match qg6 op x y with
     | some v=>some (v,h)
     | none=>none
noncomputable def qhs (neg:Bool)(k:EqK)(x:Operand)(y:Operand)(call:qaM)(lo:Nat)(f:Fr)(h:qab):Option (Value×qab) :=
  match evF f x,evF f y with
  | some x,some y =>
    match ieq k x y with
    | some b=>some (.bool (if neg then !b else b),h)
    | none=>none
  | _,_=>none
noncomputable def qht (op:UnOp)(x:Operand)(call:qaM)(lo:Nat)(f:Fr)(h:qab):Option (Value×qab) :=
  match evF f x with
  | some x =>
    match iun op x with
    | some v=>some (v,h)
    | none=>none
  | none=>none
noncomputable def qhu (k:qai)(x:Operand)(call:qaM)(lo:Nat)(f:Fr)(h:qab):Option (Value×qab) :=
  match evF f x with
  | some x =>
    match qat k x with
    | some v=>some (v,h)
    | none=>none
  | none=>none
noncomputable def qhv (t:Nat)(x:Operand)(call:qaM)(lo:Nat)(f:Fr)(h:qab):Option (Value×qab) :=
  match evF f x with
  | some v=>some (.iface t v,h)
  | none=>none
noncomputable def qhw (fn:Fn)(first:List Operand)(caps:List Operand)(call:qaM)(lo:Nat)(f:Fr)(h:qab):Option (Value×qab) :=
  match qgO f first,qgO f caps with
  | some first,some caps=>some (.func fn first.toArray caps.toArray,h)
  | _,_=>none
noncomputable def qhx (esz:Nat)(bytes:Nat)(zero:List Value)(n:Operand)(c:Operand)(call:qaM)(lo:Nat)(f:Fr)(h:qab):Option (Value×qab) :=
  match evF f n,evF f c with
  | some (.int .i64 n),some (.int .i64 c) =>
    if 0<=n/\n<=c/\c<=2 ^ 30/\bytes<=2 ^ 12 then
     some (.slice (some ⟨h.length,0,none⟩) n.toNat c.toNat,h ++ [.row (qaL zero c.toNat) false])
    else none
  | _,_=>none
noncomputable def qhy (esz:Nat)(x:Operand)(lo0:Option Operand)(hi:Option Operand)(mx:Option Operand)(call:qaM)(lo:Nat)(f:Fr)(h:qab):Option (Value×qab) :=
  match evF f x,qgS f lo0,qgS f hi,qgS f mx with
  | some x,some lo0,some hi,some mx =>
    match qaA esz x lo0 hi mx with
    | some v=>some (v,h)
    | none=>none
  | _,_,_,_=>none
noncomputable def qhz (len:Nat)(esz:Nat)(x:Operand)(lo0:Option Operand)(hi:Option Operand)(mx:Option Operand)(call:qaM)(lo:Nat)(f:Fr)(h:qab):Option (Value×qab) :=
  match evF f x,qgS f lo0,qgS f hi,qgS f mx with
  | some (.pointer (some a)),some lo0,some hi,some mx =>
    match qaz len len lo0 hi mx with
    | some (l,hh,m)=>some (.slice (some (if m=l then a else a.add (l*esz))) (hh-l) (m-l),h)
    | none=>none
  | _,_,_,_=>none
noncomputable def qhA (x:Operand)(lo0:Option Operand)(hi:Option Operand)(call:qaM)(lo:Nat)(f:Fr)(h:qab):Option (Value×qab) :=
  match evF f x,qgS f lo0,qgS f hi with
  | some (.string s),some lo0,some hi =>
    match qaz s.size s.size lo0 hi none with
    | some (l,hh,_)=>some (.string (s.extract l hh),h)
    | none=>none
  | _,_,_=>none
noncomputable def qhB (x:Operand)(i:Nat)(call:qaM)(lo:Nat)(f:Fr)(h:qab):Option (Value×qab) :=
  match evF f x with
  | some (.tuple vs) =>
    match vs.toList[i]? with
    | some v=>some (v,h)
    | none=>none
  | _=>none
noncomputable def qhC (g:Nat)(args:List Operand)(call:qaM)(lo:Nat)(f:Fr)(h:qab):Option (Value×qab) :=
  match qgO f args with
  | some vs=>call g vs h
  | none=>none
noncomputable def qhD (x:Operand)(args:List Operand)(call:qaM)(lo:Nat)(f:Fr)(h:qab):Option (Value×qab) :=
  match evF f x,qgO f args with
  | some fv,some vs =>
    match callee fv with
    | some (g,caps)=>call g (vs++caps) h
    | none=>none
  | _,_=>none
noncomputable def qhE (tab:List (Nat×Nat))(x:Operand)(args:List Operand)(call:qaM)(lo:Nat)(f:Fr)(h:qab):Option (Value×qab) :=
  match evF f x,qgO f args with
  | some (.iface t v),some vs =>
    match tab.lookup t with
    | some g=>call g (v::vs) h
    | none=>none
  | _,_=>none
noncomputable def qhF (esz:Nat)(bytes:Nat)(x:Operand)(y:Operand)(call:qaM)(lo:Nat)(f:Fr)(h:qab):Option (Value×qab) :=
  match evF f x,evF f y with
  | some x,some y=>qaE lo esz bytes h x y
  | _,_=>none
noncomputable def qhG (str:Bool)(x:Operand)(call:qaM)(lo:Nat)(f:Fr)(h:qab):Option (Value×qab) :=
  match evF f x with
  | some (.slice _ n _)=>if str then none else some (.int .i64 n,h)
  | some (.string s)=>if str then some (.int .i64 s.size,h)else none
  | _=>none
noncomputable def qhH (esz:Nat)(x:Operand)(y:Operand)(call:qaM)(lo:Nat)(f:Fr)(h:qab):Option (Value×qab) :=
  match evF f x,evF f y with
  | some (.slice base dlen _),some y =>
    match qaB y with
    | none=>none
    | some slen =>
      match qaC h esz (min slen dlen) y with
      | none=>none
      | some cs =>
        match base with
        | none=>some (.int .i64 (min slen dlen:Nat),h)
        | some a =>
          if min slen dlen=0 then some (.int .i64 (0:Nat),h)
          else match stN lo h (tight a) cs with
           | some h'=>some (.int .i64 (min slen dlen:Nat),h')
           | none=>none
  | _,_=>none
noncomputable def qhI (esz:Nat)(zero:List Value)(x:Operand)(call:qaM)(lo:Nat)(f:Fr)(h:qab):Option (Value×qab) :=
  match evF f x with
  | some (.slice base n _) =>
    match base with
    | none=>some (qag,h)
    | some a =>
      if n=0 then some (qag,h)
      else match stN lo h (tight a) (qaL zero n)with
       | some h'=>some (qag,h')
       | none=>none
  | _=>none
noncomputable def qhJ (xs:List Operand)(call:qaM)(lo:Nat)(f:Fr)(h:qab):Option (Value×qab) :=
  match qgO f xs with
  | some (.int k n::r) =>
    match qaJ k n r with
    | some m=>some (.int k m,h)
    | none=>none
  | _=>none
noncomputable def qhK (xs:List Operand)(call:qaM)(lo:Nat)(f:Fr)(h:qab):Option (Value×qab) :=
  match qgO f xs with
  | some (.int k n::r) =>
    match qaK k n r with
    | some m=>some (.int k m,h)
    | none=>none
  | _=>none
noncomputable def qhL (x:Operand)(y:Operand)(call:qaM)(lo:Nat)(f:Fr)(h:qab):Option (Value×qab) :=
  match evF f x,evF f y with
  | some (.float k a),some (.float k' b)=>if k=k' then some (.complex k a b,h)else none
  | _,_=>none
noncomputable def qhM (x:Operand)(call:qaM)(lo:Nat)(f:Fr)(h:qab):Option (Value×qab) :=
  match evF f x with
  | some (.complex k a _)=>some (.float k a,h)
  | _=>none
noncomputable def qhN (x:Operand)(call:qaM)(lo:Nat)(f:Fr)(h:qab):Option (Value×qab) :=
  match evF f x with
  | some (.complex k _ b)=>some (.float k b,h)
  | _=>none
noncomputable def qhO (call:qaM)(lo:Nat)(f:Fr)(h:qab):Option (Value×qab) :=
 some (.map (some h.length),h ++ [.map []])
noncomputable def qhP (zero:Value)(ok:Bool)(m:Operand)(k:Operand)(call:qaM)(lo:Nat)(f:Fr)(h:qab):Option (Value×qab) :=
  match evF f m,evF f k with
  | some (.map r),some k =>
    if qaI k then
     match (match r with|none=>some []|some r=>hmap h r)with
     | none=>none
     | some es =>
       match qaF k es with
       | none=>none
       | some none=>some (if ok then .tuple #[zero,.bool false]else zero,h)
       | some (some v)=>some (if ok then .tuple #[v,.bool true]else v,h)
    else none
  | _,_=>none
noncomputable def qhQ (m:Operand)(k:Operand)(v:Operand)(call:qaM)(lo:Nat)(f:Fr)(h:qab):Option (Value×qab) :=
  match evF f m,evF f k,evF f v with
  | some (.map (some r)),some k,some v =>
    if qaI k/\lo<=r then
     match hmap h r with
     | none=>none
     | some es =>
       match qaG k v es with
       | some es'=>some (qag,h.set r (.map es'))
       | none=>none
    else none
  | _,_,_=>none
noncomputable def qhR (m:Operand)(k:Operand)(call:qaM)(lo:Nat)(f:Fr)(h:qab):Option (Value×qab) :=
  match evF f m,evF f k with
  | some (.map r),some k =>
    if qaI k then
     match r with
     | none=>some (qag,h)
     | some r =>
       if lo<=r then
        match hmap h r with
        | none=>none
        | some es =>
          match qaH k es with
          | some es'=>some (qag,h.set r (.map es'))
          | none=>none
       else none
    else none
  | _,_=>none
noncomputable def qhS (m:Operand)(call:qaM)(lo:Nat)(f:Fr)(h:qab):Option (Value×qab) :=
  match evF f m with
  | some (.map r) =>
    match (match r with|none=>some []|some r=>hmap h r)with
    | some es=>some (.int .i64 (es.length:Nat),h)
    | none=>none
  | _=>none
def qhT (op:BinOp)(x y:Operand)(call:qaM)(lo:Nat)(f:Fr)(h:qab):qhr op x y call lo f h=yf call lo (.bin op x y) f h:=by
 simp only [qhr,yf,qgN,qg7]
 cases ev f x<;>cases ev f y<;>rfl
def qhU {i len:Nat}{r:Option (Value×qab)} : cond (Nat.ble (i+1) len) r none=if(0:Int)<=(i:Int)/\(i:Int)<(len:Int)then r else none:=by
 rw [qg3]
 by_cases h:i+1<=len
 ·rw [zzT h,if_pos ⟨by omega,by omega⟩];rfl
 ·rw [zzF h,if_neg (by omega)];rfl
def qhV (len:Option Nat)(esz:Nat)(x i:Operand)(call:qaM)(lo:Nat)(f:Fr)(h:qab):qhm len esz x i call lo f h=yf call lo (.yn len esz x i) f h:=by
 simp only [qhm,yf,qgN]
 cases hx:ev f x with
 | none=>rfl
 | some v =>
   cases hi:ev f i with
   | none=>rfl
   | some u =>
     cases u<;>try rfl
     rename_i k n
     cases n with
     | ofNat i =>
       cases len with
       | some len =>
         cases v<;>try rfl
         rename_i p
         cases p with
         | none=>rfl
         | some a=>exact qhU
       | none =>
         cases v<;>try rfl
         rename_i p n c
         cases p with
         | none=>rfl
         | some a=>exact qhU
     | negSucc n =>
       have hneg:¬(0:Int)<=Int.negSucc n:=by omega
       cases len with
       | some len =>
         cases v<;>try rfl
         rename_i p
         cases p with
         | none=>rfl
         | some a=>show none=if _/\_ then _ else none;rw [if_neg (fun hc=>hneg hc.1)]
       | none =>
         cases v<;>try rfl
         rename_i p m c
         cases p with
         | none=>rfl
         | some a=>show none=if _/\_ then _ else none;rw [if_neg (fun hc=>hneg hc.1)]
noncomputable def qhW (o:IOp):qaM->Nat->Fr->qab->Option (Value×qab) :=
 match o with
 | .yy a=>qg9 a
 | .pick a b c=>qha a b c
 | .load a b=>qhb a b
 | .store a b c=>qhc a b c
 | .box a=>qhd a
 | .yi a=>qhe a
 | .yd a b c=>qhf a b c
 | .yc a b c d=>qhg a b c d
 | .yu a b c d e=>qhh a b c d e
 | .build a b=>qhi a b
 | .buildSlice a b c d=>qhj a b c d
 | .yo a b=>qhk a b
 | .field a b c=>qhl a b c
 | .yn a b c d=>qhm a b c d
 | .index a b c d e=>qhn a b c d e
 | .yN a b=>qho a b
 | .ym a=>qhp a
 | .ye a b c=>qhq a b c
 | .bin a b c=>qhr a b c
 | .eqv a b c d=>qhs a b c d
 | .un a b=>qht a b
 | .conv a b=>qhu a b
 | .yJ a b=>qhv a b
 | .yr a b c=>qhw a b c
 | .yA a b c d e=>qhx a b c d e
 | .slice a b c d e=>qhy a b c d e
 | .yY a b c d e f=>qhz a b c d e f
 | .yW a b c=>qhA a b c
 | .extract a b=>qhB a b
 | .call a b=>qhC a b
 | .yt a b=>qhD a b
 | .invoke a b c=>qhE a b c
 | .append a b c d=>qhF a b c d
 | .len a b=>qhG a b
 | .copy a b c=>qhH a b c
 | .clear a b c=>qhI a b c
 | .min a=>qhJ a
 | .max a=>qhK a
 | .wac a b=>qhL a b
 | .re a=>qhM a
 | .im a=>qhN a
 | .yK=>qhO
 | .lookup a b c d=>qhP a b c d
 | .yH a b c=>qhQ a b c
 | .yF a b=>qhR a b
 | .yE a=>qhS a
def qhX (o:IOp)(call:qaM)(lo:Nat)(f:Fr)(h:qab):qhW o call lo f h=yf call lo o f h:=by
 cases o
 case yy=>simp only [qhW,qg9,yf,qgN,qgP,qgR,qgT,qgM,qgV]<;>rfl
 case pick=>simp only [qhW,qha,yf,qgN,qgP,qgR,qgT,qgM,qgV]<;>rfl
 case load=>simp only [qhW,qhb,yf,qgN,qgP,qgR,qgT,qgM,qgV]<;>rfl
 case store=>simp only [qhW,qhc,yf,qgN,qgP,qgR,qgT,qgM,qgV]<;>rfl
 case box=>simp only [qhW,qhd,yf,qgN,qgP,qgR,qgT,qgM,qgV]<;>rfl
 case yi=>simp only [qhW,qhe,yf,qgN,qgP,qgR,qgT,qgM,qgV]<;>rfl
 case yd=>simp only [qhW,qhf,yf,qgN,qgP,qgR,qgT,qgM,qgV]<;>rfl
 case yc=>simp only [qhW,qhg,yf,qgN,qgP,qgR,qgT,qgM,qgV]<;>rfl
 case yu=>simp only [qhW,qhh,yf,qgN,qgP,qgR,qgT,qgM,qgV]<;>rfl
 case build=>simp only [qhW,qhi,yf,qgN,qgP,qgR,qgT,qgM,qgV]<;>rfl
 case buildSlice=>simp only [qhW,qhj,yf,qgN,qgP,qgR,qgT,qgM,qgV]<;>rfl
 case yo=>simp only [qhW,qhk,yf,qgN,qgP,qgR,qgT,qgM,qgV]<;>rfl
 case field=>simp only [qhW,qhl,yf,qgN,qgP,qgR,qgT,qgM,qgV]<;>rfl
 case yn=>exact qhV ..
 case index=>simp only [qhW,qhn,yf,qgN,qgP,qgR,qgT,qgM,qgV]<;>rfl
 case yN=>simp only [qhW,qho,yf,qgN,qgP,qgR,qgT,qgM,qgV]<;>rfl
 case ym=>simp only [qhW,qhp,yf,qgN,qgP,qgR,qgT,qgM,qgV]<;>rfl
 case ye=>simp only [qhW,qhq,yf,qgN,qgP,qgR,qgT,qgM,qgV]<;>rfl
 case bin=>exact qhT ..
 case eqv=>simp only [qhW,qhs,yf,qgN,qgP,qgR,qgT,qgM,qgV]<;>rfl
 case un=>simp only [qhW,qht,yf,qgN,qgP,qgR,qgT,qgM,qgV]<;>rfl
 case conv=>simp only [qhW,qhu,yf,qgN,qgP,qgR,qgT,qgM,qgV]<;>rfl
 case yJ=>simp only [qhW,qhv,yf,qgN,qgP,qgR,qgT,qgM,qgV]<;>rfl
 case yr=>simp only [qhW,qhw,yf,qgN,qgP,qgR,qgT,qgM,qgV]<;>rfl
 case yA=>simp only [qhW,qhx,yf,qgN,qgP,qgR,qgT,qgM,qgV]<;>rfl
 case slice=>simp only [qhW,qhy,yf,qgN,qgP,qgR,qgT,qgM,qgV]<;>rfl
 case yY=>simp only [qhW,qhz,yf,qgN,qgP,qgR,qgT,qgM,qgV]<;>rfl
 case yW=>simp only [qhW,qhA,yf,qgN,qgP,qgR,qgT,qgM,qgV]<;>rfl
 case extract=>simp only [qhW,qhB,yf,qgN,qgP,qgR,qgT,qgM,qgV]<;>rfl
 case call=>simp only [qhW,qhC,yf,qgN,qgP,qgR,qgT,qgM,qgV]<;>rfl
 case yt=>simp only [qhW,qhD,yf,qgN,qgP,qgR,qgT,qgM,qgV]<;>rfl
 case invoke=>simp only [qhW,qhE,yf,qgN,qgP,qgR,qgT,qgM,qgV]<;>rfl
 case append=>simp only [qhW,qhF,yf,qgN,qgP,qgR,qgT,qgM,qgV]<;>rfl
 case len=>simp only [qhW,qhG,yf,qgN,qgP,qgR,qgT,qgM,qgV]<;>rfl
 case copy=>simp only [qhW,qhH,yf,qgN,qgP,qgR,qgT,qgM,qgV]<;>rfl
 case clear=>simp only [qhW,qhI,yf,qgN,qgP,qgR,qgT,qgM,qgV]<;>rfl
 case min=>simp only [qhW,qhJ,yf,qgN,qgP,qgR,qgT,qgM,qgV]<;>rfl
 case max=>simp only [qhW,qhK,yf,qgN,qgP,qgR,qgT,qgM,qgV]<;>rfl
 case wac=>simp only [qhW,qhL,yf,qgN,qgP,qgR,qgT,qgM,qgV]<;>rfl
 case re=>simp only [qhW,qhM,yf,qgN,qgP,qgR,qgT,qgM,qgV]<;>rfl
 case im=>simp only [qhW,qhN,yf,qgN,qgP,qgR,qgT,qgM,qgV]<;>rfl
 case yK=>simp only [qhW,qhO,yf,qgN,qgP,qgR,qgT,qgM,qgV]<;>rfl
 case lookup=>simp only [qhW,qhP,yf,qgN,qgP,qgR,qgT,qgM,qgV]<;>rfl
 case yH=>simp only [qhW,qhQ,yf,qgN,qgP,qgR,qgT,qgM,qgV]<;>rfl
 case yF=>simp only [qhW,qhR,yf,qgN,qgP,qgR,qgT,qgM,qgV]<;>rfl
 case yE=>simp only [qhW,qhS,yf,qgN,qgP,qgR,qgT,qgM,qgV]<;>rfl
noncomputable def qhY (g:Option (Nat×Bool))(f:Fr):Option Bool :=
 match g with
 | none=>some true
 | some (t,w) =>
   match qgL f t with
   | some (.bool b)=>some (b==w)
   | some (.tuple vs)=>if vs.size=0 then some false else none
   | _=>none
def qhZ:qhY=want:=by
 funext g f
 cases g
 ·rfl
 ·simp only [qhY,want,qgM];rfl
noncomputable def qh0 (call:qaM)(lo:Nat)(o:IOper)(ih:Fr->qab->List qab->Option (Fr×qab))(f:Fr)(h:qab)(hs:List qab):Option (Fr×qab) :=
 match qhY o.guard f with
 | none=>none
 | some false=>ih (yG f o.dst qag) h hs
 | some true =>
   match qhW o.op call lo f h with
   | none=>none
   | some (v,h') =>
     match cond (Nat.beq o.wam 0) true (yj call lo o.op f v (hs.take o.wam))with
     | true=>ih (yG f o.dst v) h' (if qaQ o.op then h::hs else hs)
     | false=>none
noncomputable def qh1 (call:qaM)(lo:Nat)(os:List IOper):Fr->qab->List qab->Option (Fr×qab) :=
 List.rec (motive:=fun _=>Fr->qab->List qab->Option (Fr×qab)) (fun f h _=>some (f,h)) (fun o _ ih=>qh0 call lo o ih) os
def qh2 {call:qaM}{lo:Nat} : ∀(os:List IOper) (f:Fr) (h:qab) (hs:List qab),qh1 call lo os f h hs=yw call lo os f h hs
 | [],f,h,hs=>rfl
 | o::os,f,h,hs=>by
   show qh0 call lo o (qh1 call lo os) f h hs=_
   rw [show qh1 call lo os=yw call lo os from funext fun f=>funext fun h=>funext fun hs=>qh2 os f h hs]
   simp only [qh0,yw,qhZ,qhX]
   have hc:∀v,cond (Nat.beq o.wam 0) true (yj call lo o.op f v (hs.take o.wam))=yj call lo o.op f v (hs.take o.wam):=fun v=>by
    cases hk:o.wam with
    | zero=>simp [yj]
    | succ n=>rfl
   cases want o.guard f with
   | none=>rfl
   | some b =>
     cases b
     ·rfl
     ·simp only
      cases yf call lo o.op f h with
      | none=>rfl
      | some r =>
        obtain⟨v,h'⟩:=r
        simp only [hc]
        cases yj call lo o.op f v (hs.take o.wam)<;>rfl
abbrev StF:=Env->ExF->Nat->List Item->Fr->qab->Option (Fr×qab)
noncomputable def qh3:StF:=fun _ ih lo k f h=>ih lo k f h
noncomputable def qh4 (ls:List Nat)(b:ICode):StF:=fun _ ih lo k f h=>ih lo (.code b :: .again ls b::k) (keep ls f) h
noncomputable def qh5 (ops:List IOper):StF:=fun E ih lo k f h =>
 match qh1 (qaZ E ih lo) lo ops f h []with
 | some (f',h')=>ih lo k f' h'
 | none=>none
noncomputable def qh6 (a b:ICode):StF:=fun _ ih lo k f h=>ih lo (.code a :: .code b::k) f h
noncomputable def qh7 (c:Operand)(a b:ICode):StF:=fun _ ih lo k f h =>
 match evF f c with
 | some (.bool t)=>ih lo (.code (match t with|true=>a|false=>b)::k) f h
 | _=>none
noncomputable def qh8 (id:Nat)(b:ICode):StF:=fun _ ih lo k f h=>ih lo (.code b :: .yC id::k) f h
noncomputable def qh9 (id:Nat):StF:=fun _ ih lo k f h =>
 match qaR id k with
 | some k'=>ih lo k' f h
 | none=>none
noncomputable def qia (b:ICode):StF:=fun _ ih lo k f h=>ih lo (.code b :: .inScope b::k) f h
noncomputable def qib (l:Nat)(ls:List Nat):StF:=fun _ ih lo k f h =>
 match qaT l k with
 | some k'=>ih lo k' (keep ls f) h
 | none=>none
noncomputable def qic:StF:=fun _ _ _ _ f h=>some (f,h)
noncomputable def cS (c:ICode):StF :=
 match c with
 | .skip=>qh3
 | .region ops=>qh5 ops
 | .seq a b=>qh6 a b
 | .cond c a b=>qh7 c a b
 | .block id b=>qh8 id b
 | .loop ls b=>qh4 ls b
 | .exit id=>qh9 id
 | .scope b=>qia b
 | .label _=>qh3
 | .goto l ls=>qib l ls
 | .ret=>qic
noncomputable def itS (it:Item):StF :=
 match it with
 | .yC _=>qh3
 | .again ls b=>qh4 ls b
 | .inScope _=>qh3
 | .code c=>cS c
noncomputable def exS (E:Env)(ih:ExF):ExF:=fun lo items f h =>
 match items with
 | []=>some (f,h)
 | it::k=>itS it E ih lo k f h
noncomputable def exF (E:Env)(n:Nat):ExF:=Nat.rec (motive:=fun _=>ExF) (fun _ _ _ _=>none) (fun _ ih=>exS E ih) n
def qid (E:Env):∀n,exF E n=yq E n
 | 0=>rfl
 | n+1=>by
   show exS E (exF E n)=_
   rw [qid E n]
   funext lo items f h
   cases items with
   | nil=>rfl
   | cons it k =>
     cases it with
     | yC _=>rfl
     | again ls b=>rfl
     | inScope _=>rfl
     | code c =>
       cases c with
       | region ops=>simp only [exS,itS,cS,qh5,yq,qh2];rfl
       | cond c a b =>
         simp only [exS,itS,cS,qh7,yq,qgN]
         cases ev f c with
         | none=>rfl
         | some v =>
           cases v<;>try rfl
           rename_i t
           cases t<;>rfl
       | _=>rfl
abbrev Sta:=List Item×Fr×qab
abbrev Nx:=List Item->Fr->qab->Option Sta
abbrev StJ:=qaM->Nat->Nx->List Item->Fr->qab->Option Sta
noncomputable def qie:StJ:=fun _ _ nx k f h=>nx k f h
noncomputable def qif (ls:List Nat)(b:ICode):StJ:=fun _ _ nx k f h=>nx (.code b :: .again ls b::k) (keep ls f) h
noncomputable def qig (ops:List IOper):StJ:=fun call lo nx k f h =>
 match qh1 call lo ops f h []with
 | some (f',h')=>nx k f' h'
 | none=>none
noncomputable def qih (a b:ICode):StJ:=fun _ _ nx k f h=>nx (.code a :: .code b::k) f h
noncomputable def qii (c:Operand)(a b:ICode):StJ:=fun _ _ nx k f h =>
 match evF f c with
 | some (.bool t)=>nx (.code (match t with|true=>a|false=>b)::k) f h
 | _=>none
noncomputable def qij (id:Nat)(b:ICode):StJ:=fun _ _ nx k f h=>nx (.code b :: .yC id::k) f h
noncomputable def qik (id:Nat):StJ:=fun _ _ nx k f h =>
 match qaR id k with
 | some k'=>nx k' f h
 | none=>none
noncomputable def qil:StJ:=fun _ _ _ _ _ _=>none
noncomputable def jC (c:ICode):StJ :=
 match c with
 | .skip=>qie
 | .region ops=>qig ops
 | .seq a b=>qih a b
 | .cond c a b=>qii c a b
 | .block id b=>qij id b
 | .loop ls b=>qif ls b
 | .exit id=>qik id
 | .label _=>qie
 | .scope _ | .goto .. | .ret=>qil
noncomputable def jI (it:Item):StJ :=
 match it with
 | .yC _=>qie
 | .again ls b=>qif ls b
 | .inScope _=>qie
 | .code c=>jC c
noncomputable def qim (call:qaM)(lo:Nat)(nx:Nx):Nx:=fun items f h =>
 match items with
 | []=>none
 | it::k=>jI it call lo nx k f h
noncomputable def exJ (call:qaM)(lo n:Nat):Nx:=Nat.rec (motive:=fun _=>Nx) (fun items f h=>some (items,f,h)) (fun _ ih=>qim call lo ih) n
section
variable {E:Env}{lo N:Nat}
def exJ_ok:∀(n:Nat) {items items':List Item} {f f':Fr} {h h':qab},exJ (qaZ E (exF E N) lo) lo n items f h=some (items',f',h')->exR E lo items f h=exR E lo items' f' h'
 | 0,items,items',f,f',h,h',hv=>by
   injection hv with hv
   injection hv with e1 e2
   injection e2 with e2 e3
   rw [e1,e2,e3]
 | n+1,items,items',f,f',h,h',hv=>by
   have hv:qim (qaZ E (exF E N) lo) lo (exJ (qaZ E (exF E N) lo) lo n) items f h=some (items',f',h'):=hv
   have ih := @exJ_ok n
   have hle:CLe (qaZ E (exF E N) lo) (qfU E lo):=fun g vs h r hr=>by
    rw [qid]at hr
    exact callR_iff.2 ⟨N,hr⟩
   cases items with
   | nil=>cases hv
   | cons it k =>
     cases it with
     | yC _=>rw [qf1];exact ih hv
     | again ls b=>rw [qf3];exact ih hv
     | inScope _=>rw [qf2];exact ih hv
     | code c =>
       cases c with
       | skip=>rw [qf4];exact ih hv
       | region ops =>
         simp only [qim,jI,jC,qig,qh2]at hv
         split at hv<;>try (cases hv;done)
         rename_i f1 h1 hr
         rw [qge (qfP hle hr)]
         exact ih hv
       | seq a b=>rw [qf5];exact ih hv
       | cond c a b =>
         simp only [qim,jI,jC,qii,qgN]at hv
         split at hv<;>try (cases hv;done)
         rename_i t ht
         rw [qgb ht]
         cases t<;>exact ih hv
       | block id b=>rw [qf6];exact ih hv
       | loop ls b=>rw [qf7];exact ih hv
       | exit id =>
         simp only [qim,jI,jC,qik]at hv
         split at hv<;>try (cases hv;done)
         rename_i k' hk
         rw [qgc hk]
         exact ih hv
       | label _=>rw [qf9];exact ih hv
       | scope _=>cases hv
       | goto _ _=>cases hv
       | ret=>cases hv
def qin:Nat->ICode->ICode
 | 0,c=>c
 | n+1,.seq _ b=>qin n b
 | _+1,c=>c
def qio:List Nat->ICode->ICode
 | [],c=>c
 | i::p,c =>
   match c with
   | .seq a b=>qio p (if i=0 then a else b)
   | .cond _ a b=>qio p (if i=0 then a else b)
   | .block _ b=>qio p b
   | .loop _ b=>qio p b
   | .scope b=>qio p b
   | c=>c
noncomputable def qip (E:Env)(N:Nat)(rs:List qaj)(items:List Item)(f:Fr)(h:qab):Bool :=
 match exF E N 0 items f h with
 | some (f',h') =>
   match results rs f' h' with
   | some (.bool true)=>true
   | _=>false
 | none=>false
def qiq {g:Nat}{fn:qak}{f:Fr}{h:qab}{items:List Item}(hp:E.yS g=none)(hf:E.fn g=some fn)(ha:0=fn.yT)(hs:fn.wau=false)
  (hr:exR E 0 [.code fn.body] [] []=exR E 0 items f h) (he:qip E N fn.res items f h=true):∃n,okB (qaZ E (yq E n) 0 g [] [])=true:=by
 unfold qip at he
 split at he<;>try (cases he;done)
 rename_i f' h' h1
 split at he<;>try (cases he;done)
 rename_i h2
 rw [qid]at h1
 have h3:exR E 0 [.code fn.body] (number 0 []) []=some (f',h'):=by rw [show number 0 [] = []from rfl,hr];exact qfT N _ _ _ _ _ h1
 have:=qgf (lo:=0) (args := []) hp hf ha hs h3 h2
 obtain⟨n,hn⟩:=callR_iff.1 this
 exact⟨n,by rw [hn];rfl⟩
end
def qir {P:Program}{E0:Env}(ok:qfK P E0)(hmix:P.follows .mixedOrders=true){g:Nat}(hv:∃n,okB (qaZ E0 (yq E0 n) 0 g [] [])=true):qfJ P g (qgl (.bool true)):=by
 obtain⟨n,hn⟩:=hv
 exact qgK ok hmix hn
def qis {n:Nat}(h:n<2 ^ 62):IntKind.i64.wrap (n:Int)=(n:Int):=by rw [IntKind.wrap_i64];omega
def qit {n:Nat}(h:n<2 ^ 62):IntKind.u64.wrap (n:Int)=(n:Int):=by
 unfold IntKind.wrap
 simp only [IntKind.bits,IntKind.signed,Bool.false_and]
 rw [if_neg (by decide)]
 omega
section
variable {E:Env}{lo:Nat}{os:List IOper}{f:Fr}{h h':qab}{hs hs':List qab}{v:Value}{k:List Item}{rs:List qaj}{Q:Value->qab->Prop}{d:Nat}{g:Option (Nat×Bool)}
variable {x y:Operand}{a b:Nat}
def EG.addN (hw:want g f=some true)(hx:ev f x=some (.int .i64 (a:Nat)))(hy:ev f y=some (.int .i64 (b:Nat)))(hb:a+b<2 ^ 62)(c:EG E lo os hs k ((d,.int .i64 ((a+b:Nat):Int))::f) h rs Q) :
  EG E lo (⟨some d,.bin .add x y,g,0⟩::os) hs k f h rs Q := .go hw (by
   simp only [yf,hx,hy,qaq,qap,qam,if_true]
   rw [show((a:Int)+(b:Int))=((a+b:Nat):Int) by omega,qis hb];rfl) rfl c
def EG.waI (hw:want g f=some true)(hx:ev f x=some (.int .i64 (a:Nat)))(hy:ev f y=some (.int .i64 (b:Nat)))(hb:b<=a/\a<2 ^ 62)(c:EG E lo os hs k ((d,.int .i64 ((a-b:Nat):Int))::f) h rs Q) :
  EG E lo (⟨some d,.bin .sub x y,g,0⟩::os) hs k f h rs Q := .go hw (by
   simp only [yf,hx,hy,qaq,qap,qam,if_true]
   rw [show((a:Int)-(b:Int))=((a-b:Nat):Int) by omega,qis (by omega)];rfl) rfl c
def EG.mulN (hw:want g f=some true)(hx:ev f x=some (.int .i64 (a:Nat)))(hy:ev f y=some (.int .i64 (b:Nat)))(hb:a*b<2 ^ 62)(c:EG E lo os hs k ((d,.int .i64 ((a*b:Nat):Int))::f) h rs Q) :
  EG E lo (⟨some d,.bin .mul x y,g,0⟩::os) hs k f h rs Q := .go hw (by
   simp only [yf,hx,hy,qaq,qap,qam,if_true]
   rw [show((a:Int)*(b:Int))=((a*b:Nat):Int) by simp,qis hb];rfl) rfl c
def EG.toU (hw:want g f=some true)(hx:ev f x=some (.int .i64 (a:Nat)))(hb:a<2 ^ 62)(c:EG E lo os hs k ((d,.int .u64 (a:Nat))::f) h rs Q) :
  EG E lo (⟨some d,.conv (.int .u64) x,g,0⟩::os) hs k f h rs Q := .go hw (by simp only [yf,hx,qat,qit hb]) rfl c
def EG.toI (hw:want g f=some true)(hx:ev f x=some (.int .u64 (a:Nat)))(hb:a<2 ^ 62)(c:EG E lo os hs k ((d,.int .i64 (a:Nat))::f) h rs Q) :
  EG E lo (⟨some d,.conv (.int .i64) x,g,0⟩::os) hs k f h rs Q := .go hw (by simp only [yf,hx,qat,qis hb]) rfl c
def EG.wap (hw:want g f=some true)(hx:ev f x=some (.int .u64 (a:Nat)))(c:EG E lo os hs k ((d,.int .u64 ((a/2:Nat):Int))::f) h rs Q) :
  EG E lo (⟨some d,.bin .shr x (.const (.int .u64 1)),g,0⟩::os) hs k f h rs Q := .go hw (by
   have hy:ev f (.const (.int .u64 1))=some (.int .u64 1):=rfl
   simp only [yf,hx,hy,qaq,qap,if_true,qan]
   rw [if_neg (by decide)]
   have:(a:Int).fdiv (2 ^ (min (1:Int).toNat IntKind.u64.bits))=((a/2:Nat):Int):=by
    rw [show min (1:Int).toNat IntKind.u64.bits=1 from rfl,Int.fdiv_eq_ediv_of_nonneg _ (by decide)]
    omega
   simp only [this]) rfl c
def EG.lssT {p q:Int}{j:IntKind}(hw:want g f=some true)(hx:ev f x=some (.int j p))(hy:ev f y=some (.int j q))(hc:p<q)(c:EG E lo os hs k ((d,.bool true)::f) h rs Q):EG E lo (⟨some d,.bin .lss x y,g,0⟩::os) hs k f h rs Q := .lss hw hx hy (fun _=>c) (fun n=>absurd hc n)
def EG.lssF {p q:Int}{j:IntKind}(hw:want g f=some true)(hx:ev f x=some (.int j p))(hy:ev f y=some (.int j q))(hc:¬p<q)(c:EG E lo os hs k ((d,.bool false)::f) h rs Q):EG E lo (⟨some d,.bin .lss x y,g,0⟩::os) hs k f h rs Q := .lss hw hx hy (fun n=>absurd n hc) (fun _=>c)
def EG.leqT {p q:Int}{j:IntKind}(hw:want g f=some true)(hx:ev f x=some (.int j p))(hy:ev f y=some (.int j q))(hc:p<=q)(c:EG E lo os hs k ((d,.bool true)::f) h rs Q):EG E lo (⟨some d,.bin .leq x y,g,0⟩::os) hs k f h rs Q := .leq hw hx hy (fun _=>c) (fun n=>absurd hc n)
def EG.leqF {p q:Int}{j:IntKind}(hw:want g f=some true)(hx:ev f x=some (.int j p))(hy:ev f y=some (.int j q))(hc:¬p<=q)(c:EG E lo os hs k ((d,.bool false)::f) h rs Q):EG E lo (⟨some d,.bin .leq x y,g,0⟩::os) hs k f h rs Q := .leq hw hx hy (fun n=>absurd n hc) (fun _=>c)
def EG.gtrT {p q:Int}{j:IntKind}(hw:want g f=some true)(hx:ev f x=some (.int j p))(hy:ev f y=some (.int j q))(hc:q<p)(c:EG E lo os hs k ((d,.bool true)::f) h rs Q):EG E lo (⟨some d,.bin .gtr x y,g,0⟩::os) hs k f h rs Q := .gtr hw hx hy (fun _=>c) (fun n=>absurd hc n)
def EG.gtrF {p q:Int}{j:IntKind}(hw:want g f=some true)(hx:ev f x=some (.int j p))(hy:ev f y=some (.int j q))(hc:¬q<p)(c:EG E lo os hs k ((d,.bool false)::f) h rs Q):EG E lo (⟨some d,.bin .gtr x y,g,0⟩::os) hs k f h rs Q := .gtr hw hx hy (fun n=>absurd n hc) (fun _=>c)
def EG.geqT {p q:Int}{j:IntKind}(hw:want g f=some true)(hx:ev f x=some (.int j p))(hy:ev f y=some (.int j q))(hc:q<=p)(c:EG E lo os hs k ((d,.bool true)::f) h rs Q):EG E lo (⟨some d,.bin .geq x y,g,0⟩::os) hs k f h rs Q := .geq hw hx hy (fun _=>c) (fun n=>absurd hc n)
def EG.geqF {p q:Int}{j:IntKind}(hw:want g f=some true)(hx:ev f x=some (.int j p))(hy:ev f y=some (.int j q))(hc:¬q<=p)(c:EG E lo os hs k ((d,.bool false)::f) h rs Q):EG E lo (⟨some d,.bin .geq x y,g,0⟩::os) hs k f h rs Q := .geq hw hx hy (fun n=>absurd n hc) (fun _=>c)
def EG.eqlT {p q:Int}{j:IntKind}(hw:want g f=some true)(hx:ev f x=some (.int j p))(hy:ev f y=some (.int j q))(hc:p=q)(c:EG E lo os hs k ((d,.bool true)::f) h rs Q):EG E lo (⟨some d,.bin .eql x y,g,0⟩::os) hs k f h rs Q := .eql hw hx hy (fun _=>c) (fun n=>absurd hc n)
def EG.eqlF {p q:Int}{j:IntKind}(hw:want g f=some true)(hx:ev f x=some (.int j p))(hy:ev f y=some (.int j q))(hc:¬p=q)(c:EG E lo os hs k ((d,.bool false)::f) h rs Q):EG E lo (⟨some d,.bin .eql x y,g,0⟩::os) hs k f h rs Q := .eql hw hx hy (fun n=>absurd n hc) (fun _=>c)
def EG.neqT {p q:Int}{j:IntKind}(hw:want g f=some true)(hx:ev f x=some (.int j p))(hy:ev f y=some (.int j q))(hc:¬p=q)(c:EG E lo os hs k ((d,.bool true)::f) h rs Q):EG E lo (⟨some d,.bin .neq x y,g,0⟩::os) hs k f h rs Q := .neq hw hx hy (fun _=>c) (fun n=>absurd n hc)
def EG.neqF {p q:Int}{j:IntKind}(hw:want g f=some true)(hx:ev f x=some (.int j p))(hy:ev f y=some (.int j q))(hc:p=q)(c:EG E lo os hs k ((d,.bool false)::f) h rs Q):EG E lo (⟨some d,.bin .neq x y,g,0⟩::os) hs k f h rs Q := .neq hw hx hy (fun n=>absurd hc n) (fun _=>c)
end
def qiu {E:Env}{lo:Nat}{h:qab}{g:Nat}{fn:qak}{args:List Value}{Q:Value->qab->Prop}(hp:E.yS g=none)(hf:E.fn g=some fn)(ha:args.length=fn.yT)(hs:fn.wau=false)
  (he:ER E lo [.code fn.body] (number 0 args) h fn.res Q):∃v h',qfU E lo g args h=some (v,h')/\Q v h':=by
 obtain⟨f',h',v,h1,h2,h3⟩:=he.out
 exact⟨v,h',qgf hp hf ha hs h1 h2,h3⟩
def FE (f f':Fr):Prop:=qaa f=qaa f'
def FE.ev {f f':Fr}(h:FE f f'):Ir.ev f=Ir.ev f':=by
 funext x
 cases x with
 | tmp t=>exact congrFun h t
 | _=>rfl
def FE.evs {f f':Fr}(h:FE f f'):Ir.evs f=Ir.evs f':=by
 funext l
 induction l with
 | nil=>rfl
 | cons x l ih=>simp only [Ir.evs,h.ev,ih]
def FE.wan {f f':Fr}(h:FE f f'):Ir.wan f=Ir.wan f':=by
 funext l
 induction l with
 | nil=>rfl
 | cons x l ih =>
   obtain⟨o,n,x⟩:=x
   simp only [Ir.wan,h.ev,ih]
def FE.waa {f f':Fr}(h:FE f f'):Ir.waa f=Ir.waa f':=by
 funext x
 cases x with
 | none=>rfl
 | some x=>simp only [Ir.waa,h.ev]
def FE.yM {f f':Fr}(h:FE f f'):Ir.yM f=Ir.yM f':=by
 funext x
 cases x with
 | none=>rfl
 | some s =>
   have:qaa f s=qaa f' s:=congrFun h s
   simp only [Ir.yM,this]
def FE.yf {f f':Fr}(h:FE f f')(call:qaM)(lo:Nat)(o:IOp)(H:qab):Ir.yf call lo o f H=Ir.yf call lo o f' H:=by
 have h1:=h.ev
 have h2:=h.evs
 have h3:=h.wan
 have h4:=h.waa
 have h5:=h.yM
 have h6:qaa f=qaa f':=h
 cases o<;>simp only [Ir.yf,h1,h2,h3,h4,h5,h6]
def FE.yj {f f':Fr}(h:FE f f')(call:qaM)(lo:Nat)(o:IOp)(v:Value):∀hs,Ir.yj call lo o f v hs=Ir.yj call lo o f' v hs
 | []=>rfl
 | H::hs=>by simp only [Ir.yj,h.yf,FE.yj h call lo o v hs]
def FE.want {f f':Fr}(h:FE f f')(g:Option (Nat×Bool)):Ir.want g f=Ir.want g f':=by
 have h6:qaa f=qaa f':=h
 cases g with
 | none=>rfl
 | some p=>obtain⟨t,w⟩:=p;simp only [Ir.want,h6]
def FE.yG {f f':Fr}(h:FE f f')(d:Option Nat)(v:Value):FE (Ir.yG f d v) (Ir.yG f' d v):=by
 have h6:qaa f=qaa f':=h
 cases d with
 | none=>exact h
 | some d=>funext t;simp only [Ir.yG,qaa,h6]
def FE.keep {f f':Fr}(h:FE f f'):∀ls,Ir.keep ls f=Ir.keep ls f'
 | []=>rfl
 | t::ls=>by
   have h6:qaa f=qaa f':=h
   simp only [Ir.keep,h6,FE.keep h ls]
def FE.yw {call:qaM}{lo:Nat} : ∀{os:List IOper} {f f' f1:Fr} {h h1:qab} {hs:List qab},FE f f'->Ir.yw call lo os f h hs=some (f1,h1)->∃f1',Ir.yw call lo os f' h hs=some (f1',h1)/\FE f1 f1'
 | [],f,f',f1,h,h1,hs,e,hv=>by
   simp only [Ir.yw]at hv|-
   injection hv with hv
   injection hv with e1 e2
   subst e1 e2
   exact⟨f',rfl,e⟩
 | o::os,f,f',f1,h,h1,hs,e,hv=>by
   simp only [Ir.yw,e.want,e.yf,e.yj]at hv|-
   cases hw:Ir.want o.guard f' with
   | none=>rw [hw]at hv;cases hv
   | some b =>
     rw [hw]at hv
     cases b with
     | false=>exact FE.yw (e.yG _ _) hv
     | true =>
       simp only at hv|-
       cases hi:Ir.yf call lo o.op f' h with
       | none=>rw [hi]at hv;cases hv
       | some r =>
         obtain⟨v,h'⟩:=r
         rw [hi]at hv
         simp only at hv|-
         by_cases ha:Ir.yj call lo o.op f' v (hs.take o.wam)=true
         ·rw [if_pos ha]at hv|-
          exact FE.yw (e.yG _ _) hv
         ·rw [if_neg ha]at hv;cases hv
def FE.yq {E:Env} : ∀{n lo:Nat} {items:List Item} {f f' f1:Fr} {h h1:qab},FE f f'->Ir.yq E n lo items f h=some (f1,h1)->∃f1',Ir.yq E n lo items f' h=some (f1',h1)/\FE f1 f1'
 | 0,lo,items,f,f',f1,h,h1,e,hv=>by simp only [Ir.yq]at hv;cases hv
 | n+1,lo,[],f,f',f1,h,h1,e,hv=>by
   simp only [Ir.yq]at hv|-
   injection hv with hv
   injection hv with e1 e2
   subst e1 e2
   exact⟨f',rfl,e⟩
 | n+1,lo,it::k,f,f',f1,h,h1,e,hv=>by
   cases it with
   | yC _=>simp only [Ir.yq]at hv|-;exact FE.yq e hv
   | again ls b=>simp only [Ir.yq,e.keep]at hv|-;exact⟨f1,hv,rfl⟩
   | inScope _=>simp only [Ir.yq]at hv|-;exact FE.yq e hv
   | code c =>
     cases c with
     | skip=>simp only [Ir.yq]at hv|-;exact FE.yq e hv
     | region ops =>
       simp only [Ir.yq]at hv|-
       cases hr:Ir.yw (qaZ E (Ir.yq E n) lo) lo ops f h []with
       | none=>rw [hr]at hv;cases hv
       | some r =>
         obtain⟨f2,h2⟩:=r
         rw [hr]at hv
         obtain⟨f2',g1,g2⟩:=FE.yw e hr
         rw [g1]
         exact FE.yq g2 hv
     | seq a b=>simp only [Ir.yq]at hv|-;exact FE.yq e hv
     | cond c a b =>
       simp only [Ir.yq,e.ev]at hv|-
       split at hv<;>try (cases hv;done)
       rename_i t ht
       exact FE.yq e hv
     | block id b=>simp only [Ir.yq]at hv|-;exact FE.yq e hv
     | loop ls b=>simp only [Ir.yq,e.keep]at hv|-;exact⟨f1,hv,rfl⟩
     | exit id =>
       simp only [Ir.yq]at hv|-
       split at hv<;>try (cases hv;done)
       rename_i k' hk
       exact FE.yq e hv
     | scope b=>simp only [Ir.yq]at hv|-;exact FE.yq e hv
     | label _=>simp only [Ir.yq]at hv|-;exact FE.yq e hv
     | goto l ls =>
       simp only [Ir.yq,e.keep]at hv|-
       split at hv<;>try (cases hv;done)
       rename_i k' hk
       exact⟨f1,hv,rfl⟩
     | ret =>
       simp only [Ir.yq]at hv|-
       injection hv with hv
       injection hv with e1 e2
       subst e1 e2
       exact⟨f',rfl,e⟩
def FE.results {f f':Fr}(e:FE f f')(h:qab)(rs:List qaj):Ir.results rs f h=Ir.results rs f' h:=by
 have h6:qaa f=qaa f':=e
 have:∀rs,qaV f h rs=qaV f' h rs:=by
  intro rs
  induction rs with
  | nil=>rfl
  | cons r rs ih =>
    have h1:qaU f h r=qaU f' h r:=by cases r<;>simp only [qaU,h6]
    simp only [qaV,h1,ih]
 simp only [Ir.results,this]
def ER.fe {E:Env}{lo:Nat}{items:List Item}{f f':Fr}{h:qab}{rs:List qaj}{Q:Value->qab->Prop}(e:FE f' f)(x:ER E lo items f' h rs Q):ER E lo items f h rs Q:=by
 obtain⟨f1,h1,v,g1,g2,g3⟩:=x.out
 obtain⟨n,hn⟩:=exR_iff.1 g1
 obtain⟨f2,k1,k2⟩:=FE.yq e hn
 exact⟨f2,h1,v,exR_iff.2 ⟨n,k1⟩,by rw [<-k2.results];exact g2,g3⟩
def ER.fe' {E:Env}{lo:Nat}{items:List Item}{f f':Fr}{h:qab}{rs:List qaj}{Q:Value->qab->Prop}(x:ER E lo items f' h rs Q)(e:FE f' f):ER E lo items f h rs Q:=x.fe e
def FE.refl (f:Fr):FE f f:=rfl
def FE.cons {f:Fr}{k:Nat}{v:Value}(h:qaa f k=some v){f':Fr}(e:FE f' f):FE ((k,v)::f') f:=by
 have h6:qaa f'=qaa f:=e
 funext t
 simp only [qaa,h6]
 split
 ·rename_i hk;subst hk;exact h.symm
 ·rfl
def qiv {W:World}{a:Addr}{v:Value}(h:W.cell? a=some v):∃C t fz,W.heap[a.block]? = some (.cells C t fz)/\C[a.off]? = some v/\a.spot=none:=by
 unfold World.cell? at h
 split at h<;>try (cases h;done)
 rename_i C t fz hb
 split at h
 ·cases h
 ·rename_i hs
  exact⟨C,t,fz,hb,h,by simpa using hs⟩
def qiw {H:Type}{enc:TypeId×Value->H}{P:Program}{f:Func}{s:ChangeSpec}{apart fresh handsOn:Bool}{W W':World}{args:Array Value}{v:Value}{ds gs:List (DataW H)}{before pa pv:List MemPlace}
  (hW:DataW.Whole enc P f.params.toList s.vars apart W args.toList ds gs before)
  (hres:∀(b:Nat) (sp:Nat->Bool) (hd:Bool),DataW.TrodAll enc P W' b sp hd f.resultTypes.toList (v.resultList f.resultTypes.size) (s.fn H (ds++gs)).results [])
  (hargs:DataW.TrodAll enc P W' 0 (fun b=>decide (b<W.heap.size)) true f.params.toList args.toList (s.fn H (ds++gs)).args pa)
  (hvars:∀sp:Nat->Bool,(∀p∈before,sp p.block=true)->DataW.TrodVars enc P W' sp s.vars (s.fn H (ds++gs)).vars pv)
  (hps:before=pa++pv) (hk:W.keptBut W' (·∈before)) :
  s.post enc P f apart fresh handsOn false W args v W':=by
 have hold:∀p∈before,(fun b=>decide (b<W.heap.size)) p.block=true:=fun p hp=>by simpa using hW.lt p hp
 refine⟨ds,gs,before,[],pa,pv,hW,hres _ _ _,hargs,hvars _ hold,World.keptBut_mono (fun p hp=>⟨hp, ?_⟩) hk,fun h=>by cases h⟩
 rw [hps,List.mem_append]at hp
 exact Or.inr hp
def qix {P:Program}{E:Env}(ok:qfK P E)(hmix:P.follows .mixedOrders=true){g:Nat}{vs:List Value}{cs:Array Value}{Em:Emb}{h h':qab}{W:World}(hs:Sim W.heap.size W Em h W)(hv:VRs Em vs cs.toList)
  (hr:qfU E 0 g vs h=some (.bool true,h')):Calls P g cs W fun e w'=>e = .returned (.bool true)/\Go.RowKit.Below W.heap.size W w':=by
 obtain⟨n,hn⟩:=callR_iff.1 hr
 have hc:=(qfM ok hmix n W.heap.size W 0 (zzR _) g _ _ _ _ hn).2 Em W cs hs hv
 refine Calls.mono hc fun e w' he => ?_
 obtain⟨c,E',rfl,g1,g2,g3⟩:=he
 cases g3
 exact⟨rfl,g1.below⟩
def qiy {h:qab}{b:Nat}{k:Blk}(hb:b<h.length):(h.set b k)[b]? = some k:=by simp [hb]
def qiz {h:qab}{b c:Nat}{k:Blk}{r:Option Blk}(hne:b≠c)(hc:h[c]? = r):(h.set b k)[c]? = r:=by rw [zzN hne];exact hc
def qiA {h k:qab}{b:Nat}{r:Blk}(hb:h[b]? = some r):(h++k)[b]? = some r:=by rw [zzA (zzS.1 hb).1];exact hb
def qiB {h:qab}{b:Nat}{r:Blk}(hb:h[b]? = some r):b<h.length:=(zzS.1 hb).1
def Ext.take (h:qab)(n:Nat):Ext (h.take n) h:=⟨by rw [List.length_take];omega,fun j hj=>by rw [List.length_take]at hj;rw [List.getElem?_take,if_pos (by omega)]⟩
def qiC {h:qab}{b o:Nat}{s:Option Nat}{cs:List Value}{ro:Bool}{v:Value}(hb:h[b]? = some (.row cs ro))(hv:cs[o]? = some v):qau h none ⟨b,o,s⟩=some v:=by
 simp only [qau,ld1,qac,hb,hv]
def qiD {h:qab}{b o n:Nat}{s:Option Nat}{cs:List Value}{ro:Bool}{w:List Value}(hb:h[b]? = some (.row cs ro))(ho:o+n<=cs.length)(hw:(cs.drop o).take n=w):qau h (some n) ⟨b,o,s⟩=some (.agg w.toArray):=by
 simp only [qau,ldN,qac,hb,ho,if_true,hw]
def qiE {lo:Nat}{h:qab}{b o:Nat}{s:Option Nat}{cs vs w:List Value}(hb:h[b]? = some (.row cs false))(hlo:lo<=b)(ho:o+vs.length<=cs.length)(hw:splice cs o vs=w):stN lo h ⟨b,o,s⟩ vs=some (h.set b (.row w false)):=by
 simp only [stN,hb,hlo,ho,if_true,hw]
def Out.at {H:qab}{lo n:Nat}{v:Value}{es:List (List Value)}(o:Out H lo n v es)(h0:es≠[]):∃b,v = .slice (some (loose b 0)) es.length n/\lo<=b/\H[b]? = some (.row es.flatten false):=by
 rcases o.2 with h1|⟨_,b,h1,h2,h3⟩
 ·exact absurd h1.1 h0
 ·exact⟨b,h1,h2,h3⟩
def Out.of {H:qab}{lo n b:Nat}{es:List (List Value)}(hl:∀e∈es,e.length=n)(h0:es≠[])(hlo:lo<=b)(hb:H[b]? = some (.row es.flatten false)):Out H lo n (.slice (some (loose b 0)) es.length n) es :=
 ⟨hl,.inr ⟨h0,b,rfl,hlo,hb⟩⟩
def Sl.part {h:qab}{n:Nat}{v:Value}{es:List (List Value)}(s:Sl h n v es){i o m:Nat}{e:List Value}(hi:es[i]? = some e)(hm:o+m<=n){a:Addr}{len cap:Nat}(hv:v = .slice (some a) len cap) :
  qau h (some m) ⟨a.block,a.off+i*n+o,none⟩=some (.agg ((e.drop o).take m).toArray):=by
 subst hv
 have hil:=(zzS.1 hi).1
 rcases s.2 with⟨h1,_⟩|⟨a',cap',h1,h2⟩
 ·rw [h1]at hi;simp at hi
 ·injection h1 with h1 _ _
  injection h1 with h1
  subst h1
  obtain⟨cs,ro,hb,h3,h4⟩:=qgB h2
  have hmul:i*n+n<=es.length*n:=by rw [<-Nat.succ_mul];exact Nat.mul_le_mul_right n hil
  have hel:=s.1 e (List.mem_of_getElem? hi)
  refine qiD hb (by omega) (List.ext_getElem? fun q => ?_)
  rw [List.getElem?_take,List.getElem?_take]
  split
  ·rename_i hq
   rw [List.getElem?_drop,List.getElem?_drop,<-qgy s.1 hi (by omega),h4,List.getElem?_take,if_pos (by omega),List.getElem?_drop]
   congr 1
   omega
  ·rfl
def qiF (v:Value)(len:Nat):Prop:=(v = .slice none 0 0/\len=0)\/∃a cap,v = .slice (some a) len cap/\a.spot=none/\len<=cap
def Sl.take {h:qab}{n:Nat}{v:Value}{es:List (List Value)}(s:Sl h n v es)(t:qiF v es.length){k:Nat}(hk:k<=es.length) :
  ∃v',qaA n v none (some (.int .i64 (k:Nat))) none=some v'/\Sl h n v' (es.take k)/\qiF v' k:=by
 have hmem:∀e∈es.take k,e.length=n:=fun e he=>s.1 e (List.mem_of_mem_take he)
 rcases t with⟨rfl,h0⟩|⟨a,cap,rfl,hsp,hle⟩
 ·have hk0:k=0:=by omega
  subst hk0
  exact⟨.slice none 0 0,rfl,⟨hmem,.inl ⟨rfl,none,0,rfl⟩⟩,.inl ⟨rfl,rfl⟩⟩
 ·refine⟨.slice (some (if cap=0 then a else a.add (0*n))) (k-0) (cap-0), ?_,⟨hmem, ?_⟩,.inr ⟨_,_,rfl,by split<;>simp [Addr.add,hsp],by omega⟩⟩
  ·have hb:qaz es.length cap none (some (.int .i64 (k:Nat))) none=some (0,k,cap):=by
    simp only [qaz,qaw,qax,qay,qav]
    rw [if_pos ⟨by omega,by omega⟩]
    simp
   simp only [qaA,hsp,hb]
  ·have hadd:(if cap=0 then a else a.add (0*n))=a:=by
    split
    ·rfl
    ·simp [Addr.add]
   rw [hadd]
   by_cases hk0:k=0
   ·subst hk0
    exact .inl ⟨rfl,_,_,rfl⟩
   ·rcases s.2 with⟨h1,_⟩|⟨a',cap',h1,h2⟩
    ·rw [h1]at hk;simp at hk;exact absurd hk hk0
    ·injection h1 with h1 _ _
     injection h1 with h1
     subst h1
     refine .inr ⟨a,cap,by rw [List.length_take,Nat.min_eq_left hk];rfl, ?_⟩
     obtain⟨cs,ro,hb,h3,h4⟩:=qgB h2
     have hmul:k*n<=es.length*n:=Nat.mul_le_mul_right n hk
     rw [List.length_take,Nat.min_eq_left hk,qgC hb (by omega)]
     congr 1
     have hf:es.flatten=(es.take k).flatten++(es.drop k).flatten:=by rw [<-List.flatten_append,List.take_append_drop]
     have hl:=qgz hmem
     rw [List.length_take,Nat.min_eq_left hk]at hl
     have:(es.flatten).take (k*n)=(es.take k).flatten:=by rw [hf,List.take_append_of_le_length (by omega),List.take_of_length_le (by omega)]
     rw [<-this,h4,List.take_take,Nat.min_eq_left hmul]
def Out.more {H:qab}{l0 lo n bytes:Nat}{v u:Value}{es fs:List (List Value)}(o:Out H lo n v es)(s:Sl H n u fs)(hl0:l0<=lo)(hlo:lo<=H.length)(hn:es.length+fs.length<=2 ^ 30)(hb:bytes<=2 ^ 12) :
  ∃v' H',qaE l0 n bytes H v u=some (v',H')/\Out H' lo n v' (es++fs)/\(∀h:qab,h.length<=lo->Ext h H->Ext h H'):=by
 have hall:∀x∈es++fs,x.length=n:=fun x hx=>by
  rcases List.mem_append.1 hx with hx|hx
  ·exact o.1 x hx
  ·exact s.1 x hx
 obtain⟨ub,uc,hu⟩:=s.len
 by_cases hf0:fs = []
 ·subst hf0
  rw [List.append_nil]
  refine⟨v,H, ?_,o,fun h _ e=>e⟩
  rw [hu]
  have hs0:qaC H n 0 (.slice ub 0 uc)=some []:=by
   unfold qaC
   cases ub with
   | none=>rfl
   | some a=>simp
  rcases o.2 with⟨rfl,rfl⟩|⟨h0,b,rfl,h2,h3⟩
  ·simp only [qaE,qaB,List.length_nil,hs0]
   rw [if_pos (.inl ⟨by omega,hb⟩)]
   simp
  ·simp only [qaE,qaB,List.length_nil,hs0,loose]
   rw [if_pos (.inl ⟨by simpa using hn,hb⟩)]
   simp
 ·have hsrc:qaC H n fs.length u=some fs.flatten:=by
   rcases s.2 with⟨h1,_⟩|⟨a,cap,rfl,h2⟩
   ·exact absurd h1 hf0
   ·unfold qaC
    simp only
    rw [if_neg (fun e=>hf0 (List.length_eq_zero_iff.1 e)),h2]
  have hfl:fs.length≠0:=fun e=>hf0 (List.length_eq_zero_iff.1 e)
  have hlv:qaB u=some fs.length:=by rw [hu];rfl
  rcases o.2 with⟨rfl,rfl⟩|⟨h0,b,rfl,h2,h3⟩
  ·refine⟨.slice (some (loose H.length 0)) fs.length n,H ++ [.row fs.flatten false], ?_,⟨hall,.inr ⟨by simpa using hf0,H.length,by simp,hlo,by rw [zzC];simp⟩⟩,fun h _ e=>e.app _⟩
   simp only [qaE,hlv,hsrc]
   rw [if_pos (.inl ⟨by simpa using hn,hb⟩),if_neg hfl]
  ·have hbl:=(zzS.1 h3).1
   have hold:qaC H n es.length (.slice (some (loose b 0)) es.length n)=some es.flatten:=by
    unfold qaC
    simp only
    rw [if_neg (fun e=>h0 (List.length_eq_zero_iff.1 e))]
    exact qgD (a:=loose b 0) h3 rfl (qgz o.1).symm
   refine⟨.slice (some (loose H.length 0)) (es.length+fs.length) n,H.set b .dead ++ [.row (es.flatten++fs.flatten) false], ?_,⟨hall,.inr ⟨by simp [h0],H.length,by simp,hlo, ?_⟩⟩,fun h hh he=>(he.set (by omega)).app _⟩
   ·simp only [loose]at hold|-
    simp only [qaE,hlv,hsrc,hold,h3]
    rw [if_pos (.inl ⟨hn,hb⟩),if_neg hfl]
    simp [show l0<=b by omega,loose]
   ·rw [zzB (by simp)]
    simp
section
variable {E:Env}{lo:Nat}{os:List IOper}{f:Fr}{h h':qab}{hs hs':List qab}{v:Value}{k:List Item}{rs:List qaj}{Q:Value->qab->Prop}{d:Nat}{g:Option (Nat×Bool)}
def EG.yI {esz len:Nat}{x i:Operand}{a:Addr}{kk:IntKind}{j:Nat}(hw:want g f=some true)(hx:ev f x=some (.pointer (some a)))(hi:ev f i=some (.int kk (j:Nat)))(hj:j<len)
  (c:EG E lo os hs k ((d,.pointer (some ⟨a.block,a.off+j*esz,none⟩))::f) h rs Q):EG E lo (⟨some d,.yn (some len) esz x i,g,0⟩::os) hs k f h rs Q := .go hw (by
    simp only [yf,hx,hi]
    rw [if_pos ⟨by omega,by omega⟩]
    simp) rfl c
def qiG {call:qaM}{o:IOp} : ∀{hs:List qab},(∀h0∈hs,yf call lo o f h0=some (v,h0))->qaP v v=true->yj call lo o f v hs=true
 | [],_,_=>rfl
 | h0::hs,h1,h2=>by
   unfold yj
   rw [h1 h0 (by simp)]
   simp only [h2,Bool.true_and]
   exact qiG (fun x hx=>h1 x (by simp [hx])) h2
def qiH {P:qab->Prop}{H:qab}{hs:List qab}(h:P H):∀h0∈(H::hs).take 1,P h0:=fun h0 hm=>by
 simp at hm
 subst hm
 exact h
def EG.loadc {n:Option Nat}{x:Operand}{a:Addr}{c:Nat}(hw:want g f=some true)(hx:ev f x=some (.pointer (some a)))(hl:qau h n a=some v)(ha:∀h0∈hs.take c,qau h0 n a=some v)(hv:qaP v v=true)
  (y:EG E lo os hs k ((d,v)::f) h rs Q):EG E lo (⟨some d,.load n x,g,c⟩::os) hs k f h rs Q:=⟨.by (by
    unfold exG
    simp only [yw,hw,qgG hx hl,qiG (fun h0 hm=>qgG hx (ha h0 hm)) hv,if_true,yG]
    rfl) y.out⟩
def EG.eqc {neg:Bool}{l:List (Nat×Nat)}{x y:Operand}{a b:Value}{r:Bool}(hw:want g f=some true)(hx:ev f x=some a)(hy:ev f y=some b)(hr:ieq (.cells l) a b=some r)
  (t:r = !neg->EG E lo os hs k ((d,.bool true)::f) h rs Q) (n:r=neg->EG E lo os hs k ((d,.bool false)::f) h rs Q):EG E lo (⟨some d,.eqv neg (.cells l) x y,g,0⟩::os) hs k f h rs Q:=by
 refine .bl (b:=if neg then !r else r) hw (by simp only [yf,hx,hy,hr]) rfl (fun e=>t ?_) (fun e=>n ?_)
 all_goals (cases neg<;>cases r<;>simp_all)
end
def VRs.waM {E:Emb} : ∀{vs cs:List Value},vs.length=cs.length->(∀(i:Nat) v c,vs[i]? = some v->cs[i]? = some c->VR E v c)->VRs E vs cs
 | [],[],_,_ => .nil
 | [],_::_,h,_=>by simp at h
 | _::_,[],h,_=>by simp at h
 | v::vs,c::cs,h,g => .cons _ _ _ _ (g 0 v c rfl rfl) (VRs.waM (by simpa using h) fun i v c h1 h2=>g (i+1) v c h1 h2)
def RoH (h:qab):Prop:=∀(i:Nat) (k:Blk),h[i]? = some k->qa3 (some k)=true\/k = .dead
def qiI:RoH []:=fun i k h=>by simp at h
def RoH.push {h:qab}(r:RoH h){k:Blk}(hk:qa3 (some k)=true\/k = .dead):RoH (h ++ [k]):=fun i j hj=>by
 by_cases hi:i<h.length
 ·rw [zzA hi]at hj;exact r i j hj
 ·rw [zzB (by omega)]at hj
  have:=(zzS.1 hj).1
  simp at this
  rw [show i-h.length=0 by omega]at hj
  injection hj with hj
  subst hj
  exact hk
def qiJ (E:Emb)(n:Nat)(e:Option Ent):Emb:=fun i=>if i=n then some e else E i
section
variable {W:World}{E:Emb}{h:qab}
def qiK (s:Sim W.heap.size W E h W)(e:Option Ent):E.le (qiJ E h.length e):=fun i x hx=>by
 refine .inl ?_
 unfold qiJ
 rw [if_neg]
 ·exact hx
 ·intro hi
  rw [s.out i (by omega)]at hx
  cases hx
def qiL (s:Sim W.heap.size W E h W):Sim W.heap.size W (qiJ E h.length none) (h ++ [.dead]) W:=by
 have hle:=qiK s none
 refine⟨.refl _ _,fun i hi => ?_,fun i hi => ?_,fun i k hi hk => ?_,fun i j x y hij hx hy hxy => ?_⟩
 ·simp at hi
  unfold qiJ
  rw [if_neg (by omega)]
  exact s.out i (by omega)
 ·unfold qiJ
  by_cases hil:i=h.length
  ·rw [if_pos hil]
  ·rw [if_neg hil]
   by_cases hlt:i<h.length
   ·rw [zzA hlt]at hi
    exact s.dead i hi
   ·rw [zzE (by simp;omega)]at hi;cases hi
 ·by_cases hlt:i<h.length
  ·rw [zzA hlt]at hi
   obtain⟨x,h1,h2⟩:=s.live i k hi hk
   exact⟨x,by unfold qiJ;rw [if_neg (by omega)];exact h1,h2.mono hle⟩
  ·rw [zzB (by omega)]at hi
   have:=(zzS.1 hi).1
   simp at this
   rw [show i-h.length=0 by omega]at hi
   injection hi with hi
   exact absurd hi.symm hk
 ·unfold qiJ at hx hy
  split at hx
  ·injection hx with hx;cases hx
  ·split at hy
   ·injection hy with hy;cases hy
   ·have h1:=s.inj i j x y hij hx hy hxy
    have hi:i<h.length:=Decidable.byContradiction fun hn=>by rw [s.out i (by omega)]at hx;cases hx
    have hj:j<h.length:=Decidable.byContradiction fun hn=>by rw [s.out j (by omega)]at hy;cases hy
    rw [zzA hi,zzA hj]
    exact h1
def qiM (s:Sim W.heap.size W E h W)(hro:RoH h){b off:Nat}{C:Array Value}{t:TypeId}{fz:Nat×Nat}(hb:W.heap[b]? = some (.cells C t fz)){cs:List Value}(hv:VRs E cs ((C.toList.drop off).take cs.length))
  (hle:off+cs.length<=C.size) (ho:cs.all qad=true):Sim W.heap.size W (qiJ E h.length (some ⟨b,off,C.size⟩)) (h ++ [.row cs true]) W:=by
 have hE:=qiK s (some ⟨b,off,C.size⟩)
 have hr:∀i x,qiJ E h.length (some ⟨b,off,C.size⟩) i=some (some x)->qa3 (h ++ [.row cs true])[i]? = true:=fun i x hx=>by
  unfold qiJ at hx
  split at hx
  ·rename_i hi;subst hi
   rw [zzC];rfl
  ·have hi:i<h.length:=Decidable.byContradiction fun hn=>by rw [s.out i (by omega)]at hx;cases hx
   rw [zzA hi,zzG hi]
   rcases hro i _ (zzG hi)with h1|h1
   ·exact h1
   ·have:=s.dead i (by rw [zzG hi,h1])
    rw [hx]at this;cases this
 refine⟨.refl _ _,fun i hi => ?_,fun i hi => ?_,fun i k hi hk => ?_,fun i j x y hij hx hy hxy=>⟨hr i x hx,hr j y hy⟩⟩
 ·simp at hi
  unfold qiJ
  rw [if_neg (by omega)]
  exact s.out i (by omega)
 ·by_cases hlt:i<h.length
  ·rw [zzA hlt]at hi
   unfold qiJ
   rw [if_neg (by omega)]
   exact s.dead i hi
  ·rw [zzB (by omega)]at hi
   have:=(zzS.1 hi).1
   simp at this
   rw [show i-h.length=0 by omega]at hi
   cases hi
 ·by_cases hlt:i<h.length
  ·rw [zzA hlt]at hi
   obtain⟨x,h1,h2⟩:=s.live i k hi hk
   exact⟨x,by unfold qiJ;rw [if_neg (by omega)];exact h1,h2.mono hE⟩
  ·rw [zzB (by omega)]at hi
   have:=(zzS.1 hi).1
   simp at this
   have h0:i=h.length:=by omega
   subst h0
   rw [Nat.sub_self]at hi
   injection hi with hi
   subst hi
   refine⟨⟨b,off,C.size⟩,by unfold qiJ;rw [if_pos rfl],C,t,fz,hb,rfl,hle,hv.mono hE,(fun h=>by cases h),ho⟩
def qiN (s:Sim W.heap.size W E h W)(hro:RoH h){a:Addr}{len cap n:Nat}(hlc:len<=cap)(X:Nat->List Value)(hn:0<n)(hX:∀i,i<len->(X i).length=n/\(X i).all qad=true)
  (hc:∀i j x,i<len->(X i)[j]? = some x->∃u,W.cell? (a.add (i*n+j))=some u/\VR E x u) :
  ∃E' h' v,Sim W.heap.size W E' h' W/\E.le E'/\RoH h'/\Ext h h'/\VR E' v (.slice (some a) len cap)/\Sl h' n v ((List.range len).map X)/\qiF v len:=by
 by_cases h0:len=0
 ·subst h0
  refine⟨_,_,.slice (some ⟨h.length,0,none⟩) 0 cap,qiL s,qiK s _,hro.push (.inr rfl),(Ext.refl h).app _, ?_,⟨fun e he=>by simp at he,.inl ⟨rfl,_,_,rfl⟩⟩,.inr ⟨_,_,rfl,rfl,zzZ _⟩⟩
  exact .slice _ _ _ _ none rfl (by unfold qiJ;rw [if_pos rfl]) (zzZ _) (fun x hx=>by cases hx)
 ·have hpos:0<len:=by omega
  obtain⟨u0,hu0,_⟩:=hc 0 0 ((X 0)[0]'(by rw [(hX 0 hpos).1];exact hn)) hpos (zzG _)
  obtain⟨C,t,fz,hb,hC0,hsp⟩:=qiv hu0
  have ha0:a.add (0*n+0)=a:=by simp [Addr.add]
  rw [ha0]at hb hC0 hsp
  obtain⟨ab,ao,as⟩:=a
  simp only at hsp hb hC0
  subst hsp
  have hcell:∀i j x,i<len->(X i)[j]? = some x->∃u,C[ao+(i*n+j)]? = some u/\VR E x u:=fun i j x hi hj=>by
   obtain⟨u,h1,h2⟩:=hc i j x hi hj
   refine⟨u, ?_,h2⟩
   obtain⟨C',t',fz',hb',hC',_⟩:=qiv h1
   have hadd:(⟨ab,ao,none⟩:Addr).add (i*n+j)=⟨ab,ao+(i*n+j),none⟩:=by
    unfold Addr.add
    split
    ·rename_i h0;rw [h0];simp
    ·rfl
   rw [hadd]at hb' hC'
   simp only at hb' hC'
   rw [hb]at hb'
   injection hb' with hb'
   injection hb' with hb'
   subst hb'
   exact hC'
  have hel:((List.range len).map X).length=len:=by simp
  have hen:∀e∈(List.range len).map X,e.length=n:=fun e he=>by
   obtain⟨i,hi,rfl⟩:=List.mem_map.1 he
   exact(hX i (by simpa using hi)).1
  have hfl:=qgz hen
  rw [hel]at hfl
  have hat:∀p x,((List.range len).map X).flatten[p]? = some x->∃u,C[ao+p]? = some u/\VR E x u:=fun p x hp=>by
   have hpl:p<len*n:=by rw [<-hfl];exact(zzS.1 hp).1
   have hi:p/n<len:=Nat.div_lt_of_lt_mul (by rw [Nat.mul_comm];exact hpl)
   have hpe:p/n*n+p%n=p:=by rw [Nat.mul_comm];exact Nat.div_add_mod p n
   have hg:((List.range len).map X)[p/n]? = some (X (p/n)):=by simp [hi]
   have:=qgy hen hg (Nat.mod_lt p hn)
   rw [hpe,hp]at this
   obtain⟨u,h1,h2⟩:=hcell (p/n) (p%n) x hi this.symm
   rw [hpe]at h1
   exact⟨u,h1,h2⟩
  have hsize:ao+len*n<=C.size:=by
   have hp:((List.range len).map X).flatten[len*n-1]? = some (((List.range len).map X).flatten[len*n-1]'(by rw [hfl];have:=Nat.mul_pos hpos hn;omega)):=zzG _
   obtain⟨u,h1,_⟩:=hat _ _ hp
   have:=(Array.getElem?_eq_some_iff.1 h1).1
   have:=Nat.mul_pos hpos hn
   omega
  have hvrs:VRs E ((List.range len).map X).flatten ((C.toList.drop ao).take ((List.range len).map X).flatten.length):=by
   refine VRs.waM (by rw [List.length_take,List.length_drop,hfl,Array.length_toList];omega) fun i v c h1 h2 => ?_
   obtain⟨u,h3,h4⟩:=hat i v h1
   rw [List.getElem?_take]at h2
   split at h2
   ·rw [List.getElem?_drop,Array.getElem?_toList,h3]at h2
    injection h2 with h2
    subst h2
    exact h4
   ·cases h2
  have hone:((List.range len).map X).flatten.all qad=true:=by
   rw [List.all_eq_true]
   intro v hv
   obtain⟨e,he,hve⟩:=List.mem_flatten.1 hv
   obtain⟨i,hi,rfl⟩:=List.mem_map.1 he
   exact List.all_eq_true.1 (hX i (by simpa using hi)).2 v hve
  refine⟨_,_,.slice (some ⟨h.length,0,none⟩) len cap,qiM s hro hb hvrs (by rw [hfl];exact hsize) hone,qiK s _,hro.push (.inl rfl),(Ext.refl h).app _, ?_,⟨hen,.inr ⟨_,cap,by rw [hel], ?_⟩⟩,.inr ⟨_,_,rfl,rfl,hlc⟩⟩
  ·exact .slice _ _ _ _ (some ⟨ab,ao,C.size⟩) rfl (by unfold qiJ;rw [if_pos rfl]) hlc (fun x hx _=>by injection hx with hx;subst hx;rfl)
  ·exact qgD (a:=⟨h.length,0,none⟩) (ro:=true) zzC rfl (by rw [hel,hfl])
end
open Go Go.ChangeShapes Go.WideShapes
def qiO {α:Type}(l:List α){i:Nat}{x:α}(h:(l.drop i).take 1 = [x]):l[i]? = some x:=by
 have:=congrArg (·[0]?) h
 simpa using this
def qiP {P:Program}{S T n:Nat}{α:Type}[Inhabited α](f:α->List Value)(hu:P.underlying S=some (.slice T))(hcl:P.cellsOf T=n)(hn:0<n)(hf:∀a,(f a).length=n/\(f a).all yl=true/\(f a).all qad=true)
  {H:Type} {enc:TypeId×Value->H} {W:World} {spare:Nat->Bool} {held:Bool}
  (op:∀{base k:Nat} {cs:List Value} {x:DataW H×List MemPlace},DataW.trod enc P W base spare held k T cs=some x->∃a,cs=f a)
  {E:Emb} {h:qab} (s:Sim W.heap.size W E h W) (hro:RoH h) {b0 base:Nat} {r:Reach} {v0:Value} {d0:DataW H} {p0:List MemPlace} (hval:Value.okWide P W r b0 S v0) (hd:DataW.Trod enc P W base spare held S v0 d0 p0) :
  ∃E' h' v l,Sim W.heap.size W E' h' W/\E.le E'/\RoH h'/\Ext h h'/\VR E' v v0/\Sl h' n v (List.map f l)/\qiF v l.length:=by
 obtain⟨p,len,cap,rfl⟩:=okWide_slice hu hval
 obtain⟨k,hk⟩:=hd
 rcases Deep.open_slice hu hk with⟨hc,_⟩|⟨a,len',cap',m,k',D,Pl,hc,_,hlc,_,hm,_,hX⟩
 ·have hc:Value.slice p len cap = .slice none 0 0:=by simpa [Value.cells]using hc
  injection hc with e1 e2 e3
  subst e1 e2 e3
  exact⟨E,h,.slice none 0 0,[],s,Emb.le_refl E,hro,.refl _,.yB,⟨fun e he=>(by cases he),.inl ⟨rfl,none,0,rfl⟩⟩,.inl ⟨rfl,rfl⟩⟩
 ·have hc:Value.slice p len cap = .slice (some a) len' cap':=by simpa [Value.cells]using hc
  injection hc with e1 e2 e3
  subst e1 e2 e3
  simp only [hcl]at hX
  have hlm:len<=m:=by
   rw [hm];split<;>omega
  obtain⟨X,hXX⟩:=Deep.choose_lt (α:=List Value) (n:=len) (p:=fun i cs=>(∃o:α,cs=f o)/\∀j,j<n->W.cell? (a.add (i*n+j))=cs[j]?) (fun i hi=>by
   obtain⟨cs',g1,g2⟩:=hX i (by omega)
   obtain⟨_,_,g3⟩:=World.cells?_some g1
   refine⟨cs',op g2,fun j hj => ?_⟩
   have:=g3 j hj
   rw [Deep.add_add]at this
   exact this)
  obtain⟨O,hO⟩:=Deep.choose_lt (α:=α) (n:=len) (p:=fun i o=>X i=f o) (fun i hi=>(hXX i hi).1)
  obtain⟨E',h',v,s1,s2,s3,s4,s5,s6,s7⟩:=qiN (a:=a) (len:=len) (cap:=cap) (n:=n) s hro hlc X hn (fun i hi=>by rw [hO i hi];exact⟨(hf _).1,(hf _).2.2⟩) (fun i j x hi hj=>by
   have hjn:j<n:=by
    have:=(zzS.1 hj).1
    rw [hO i hi,(hf _).1]at this
    exact this
   refine⟨x,by rw [(hXX i hi).2 j hjn,hj],VR.flat ?_⟩
   rw [hO i hi]at hj
   have:=List.all_eq_true.1 (hf (O i)).2.1 x (List.mem_of_getElem? hj)
   unfold qae
   split<;>simp_all [yl])
  refine⟨E',h',v,(List.range len).map O,s1,s2,s3,s4,s5, ?_,by simpa using s7⟩
  have:List.map f ((List.range len).map O)=(List.range len).map X:=by
   rw [List.map_map]
   exact List.map_congr_left fun i hi=>(hO i (by simpa using hi)).symm
  rw [this]
  exact s6
open Go
def EG.slFrom {E:Env}{lo:Nat}{os:List IOper}{f:Fr}{h:qab}{hs':List qab}{v:Value}{k:List Item}{rs:List qaj}{Q:Value->qab->Prop}{d:Nat}{g:Option (Nat×Bool)}{esz:Nat}{x y:Operand}{u w:Value}
  (hw:want g f=some true) (hx:ev f x=some v) (hy:ev f y=some u) (hs:qaA esz v (some u) none none=some w)
  (c:EG E lo os hs' k ((d,w)::f) h rs Q):EG E lo (⟨some d,.slice esz x (some y) none none,g,0⟩::os) hs' k f h rs Q := .go hw (by simp only [yf,waa,hx,hy,hs]) rfl c
def EG.clr {E:Env}{lo:Nat}{os:List IOper}{f:Fr}{h h':qab}{hs:List qab}{k:List Item}{rs:List qaj}{Q:Value->qab->Prop}{g:Option (Nat×Bool)}{esz n cap:Nat}{zero:List Value}{x:Operand}{a:Addr}
  (hw:want g f=some true) (hx:ev f x=some (.slice (some a) n cap)) (hn:n≠0) (hst:stN lo h (Ir.tight a) (qaL zero n)=some h')
  (c:EG E lo os (h::hs) k f h' rs Q):EG E lo (⟨none,.clear esz zero x,g,0⟩::os) hs k f h rs Q := .wat (v:=qag) hw (by simp only [yf,hx];rw [if_neg hn,hst]) rfl c
def EG.inv {E:Env}{lo:Nat}{os:List IOper}{f:Fr}{h h':qab}{hs:List qab}{v:Value}{k:List Item}{rs:List qaj}{Q:Value->qab->Prop}{d:Nat}{g:Option (Nat×Bool)}{tab:List (Nat×Nat)}{x:Operand}{xs:List Operand}{t m:Nat}{r:Value}{vs:List Value}
  (hw:want g f=some true) (hx:ev f x=some (.iface t r)) (hk:tab.lookup t=some m) (hv:evs f xs=some vs) (hc:qfU E lo m (r::vs) h=some (v,h')) (c:EG E lo os (h::hs) k ((d,v)::f) h' rs Q) :
  EG E lo (⟨some d,.invoke tab x xs,g,0⟩::os) hs k f h rs Q := .go hw (by simp only [yf,hx,hk,hv,hc]) rfl c
def EG.remN {E:Env}{lo:Nat}{os:List IOper}{f:Fr}{h:qab}{hs:List qab}{k:List Item}{rs:List qaj}{Q:Value->qab->Prop}{d:Nat}{g:Option (Nat×Bool)}{x y:Operand}{a b:Nat}
  (hw:want g f=some true) (hx:ev f x=some (.int .i64 (a:Nat))) (hy:ev f y=some (.int .i64 (b:Nat))) (hb:b≠0) (c:EG E lo os hs k ((d,.int .i64 ((a%b:Nat):Int))::f) h rs Q) :
  EG E lo (⟨some d,.bin .rem x y,g,0⟩::os) hs k f h rs Q := .go hw (by
   have hb':¬((b:Int)=0):=by omega
   have e1:(a:Int).tmod (b:Int)=((a%b:Nat):Int):=by rw [Int.tmod_eq_emod_of_nonneg (by omega)];rfl
   simp only [yf,hx,hy,qaq,qap,qam,if_true,if_neg hb',e1]
   rfl) rfl c
def EG.mks {E:Env}{lo:Nat}{os:List IOper}{f:Fr}{h:qab}{hs:List qab}{k:List Item}{rs:List qaj}{Q:Value->qab->Prop}{d:Nat}{g:Option (Nat×Bool)}{esz bytes n m:Nat}{zero:List Value}{x y:Operand}
  (hw:want g f=some true) (hx:ev f x=some (.int .i64 (n:Nat))) (hy:ev f y=some (.int .i64 (m:Nat))) (hb:n<=m/\m<=2 ^ 30/\bytes<=2 ^ 12)
  (c:EG E lo os hs k ((d,.slice (some ⟨h.length,0,none⟩) n m)::f) (h ++ [.row (qaL zero m) false]) rs Q):EG E lo (⟨some d,.yA esz bytes zero x y,g,0⟩::os) hs k f h rs Q := .go hw (by
    simp only [yf,hx,hy]
    rw [if_pos ⟨by omega,by omega,by omega,hb.2.2⟩]
    simp) rfl c
def qiQ (l:List Int):List Value:=l.map (.int .i64)
end Go.Ir
namespace Go.Ir
section
variable {E:Env}{lo:Nat}{os:List IOper}{f:Fr}{h h':qab}{hs hs':List qab}{v:Value}{k k':List Item}{rs:List qaj}{Q:Value->qab->Prop}{d:Nat}{g:Option (Nat×Bool)}{x y:Operand}
def ER.A {a b:ICode}(x:ER E lo (.code a :: .code b::k) f h rs Q):ER E lo (.code (.seq a b)::k) f h rs Q := .seq x
def ER.B (x:EG E lo os [] k f h rs Q):ER E lo (.code (.region os)::k) f h rs Q := .reg x
def ER.C {c:Operand}{a b:ICode}(x:ER E lo (.code a::k) f h rs Q)(hc:ev f c=some (.bool true):=by exact rfl):ER E lo (.code (.cond c a b)::k) f h rs Q := .yes hc x
def ER.D {c:Operand}{a b:ICode}(x:ER E lo (.code b::k) f h rs Q)(hc:ev f c=some (.bool false):=by exact rfl):ER E lo (.code (.cond c a b)::k) f h rs Q := .no hc x
def ER.F (x:ER E lo k f h rs Q):ER E lo (.code .skip::k) f h rs Q := .skip x
def ER.G {id:Nat}{b:ICode}(x:ER E lo (.code b :: .yC id::k) f h rs Q):ER E lo (.code (.block id b)::k) f h rs Q := .block x
def ER.H {id:Nat}(x:ER E lo k f h rs Q):ER E lo (.yC id::k) f h rs Q := .yC x
def ER.I {id:Nat}(x:ER E lo k' f h rs Q)(hk:qaR id k=some k':=by exact rfl):ER E lo (.code (.exit id)::k) f h rs Q := .exit hk x
def ER.J (hq:Q v h)(hr:results rs f h=some v:=by exact rfl):ER E lo (.code .ret::k) f h rs Q := .ret hr hq
def EG.A (c:EG E lo os hs k ((d,v)::f) h rs Q)(hw:want g f=some true:=by exact rfl)(hx:ev f x=some v:=by exact rfl):EG E lo (⟨some d,.yy x,g,0⟩::os) hs k f h rs Q := .yy hw hx c
def EG.B {s n:Option Nat}{b off:Nat}{cs:Array Value}(c:EG E lo os hs k ((d,v)::f) h rs Q)(hw:want g f=some true:=by exact rfl)(hs':yM f s=true:=by exact rfl)(hb:qaa f b=some (.agg cs):=by exact rfl)(hp:part n cs.toList off=some v:=by exact rfl):EG E lo (⟨some d,.yc s b off n,g,0⟩::os) hs k f h rs Q := .yc hw hs' hb hp c
def EG.C {s:Option Nat}{b off:Nat}{cs:Array Value}(c:EG E lo os hs k ((d,qah)::f) h rs Q)(hw:want g f=some true:=by exact rfl)(hs':yM f s=true:=by exact rfl)(hb:qaa f b=some (.agg cs):=by exact rfl):EG E lo (⟨some d,.yd s b off,g,0⟩::os) hs k f h rs Q := .yd hw hs' hb c
def EG.D {op:IOp}{t:Nat×Bool}{c:Nat}(x:EG E lo os hs k ((d,qag)::f) h rs Q)(hw:want (some t) f=some false:=by exact rfl):EG E lo (⟨some d,op,some t,c⟩::os) hs k f h rs Q := .skip hw x
def EG.F (x:ER E lo k f h rs Q):EG E lo [] hs k f h rs Q := .fin x
def EG.Y {op:IOp}(x:EG E lo os hs' k ((d,v)::f) h' rs Q)(hw:want g f=some true:=by exact rfl)(hi:yf (qfU E lo) lo op f h=some (v,h'):=by exact rfl)(he:(if qaQ op then h::hs else hs)=hs':=by exact rfl):EG E lo (⟨some d,op,g,0⟩::os) hs k f h rs Q := .go hw hi he x
def EG.I {op:IOp}{t:Nat×Bool}{c:Nat}(x:EG E lo os hs k f h rs Q)(hw:want (some t) f=some false:=by exact rfl):EG E lo (⟨none,op,some t,c⟩::os) hs k f h rs Q := .wai hw x
def EG.t1 {p q:Int}{j:IntKind}(c:EG E lo os hs k ((d,.bool true)::f) h rs Q)(hw:want g f=some true:=by exact rfl)(hx:ev f x=some (.int j p):=by exact rfl)(hy:ev f y=some (.int j q):=by exact rfl)(hc:p<q:=by omega):EG E lo (⟨some d,.bin .lss x y,g,0⟩::os) hs k f h rs Q := .lssT hw hx hy hc c
def EG.f1 {p q:Int}{j:IntKind}(c:EG E lo os hs k ((d,.bool false)::f) h rs Q)(hw:want g f=some true:=by exact rfl)(hx:ev f x=some (.int j p):=by exact rfl)(hy:ev f y=some (.int j q):=by exact rfl)(hc:¬p<q:=by omega):EG E lo (⟨some d,.bin .lss x y,g,0⟩::os) hs k f h rs Q := .lssF hw hx hy hc c
def EG.k1 {p q:Int}{j:IntKind}(t:p<q->EG E lo os hs k ((d,.bool true)::f) h rs Q)(n:¬p<q->EG E lo os hs k ((d,.bool false)::f) h rs Q)(hw:want g f=some true:=by exact rfl)(hx:ev f x=some (.int j p):=by exact rfl)(hy:ev f y=some (.int j q):=by exact rfl):EG E lo (⟨some d,.bin .lss x y,g,0⟩::os) hs k f h rs Q := .lss hw hx hy t n
def EG.t2 {p q:Int}{j:IntKind}(c:EG E lo os hs k ((d,.bool true)::f) h rs Q)(hw:want g f=some true:=by exact rfl)(hx:ev f x=some (.int j p):=by exact rfl)(hy:ev f y=some (.int j q):=by exact rfl)(hc:p<=q:=by omega):EG E lo (⟨some d,.bin .leq x y,g,0⟩::os) hs k f h rs Q := .leqT hw hx hy hc c
def EG.f2 {p q:Int}{j:IntKind}(c:EG E lo os hs k ((d,.bool false)::f) h rs Q)(hw:want g f=some true:=by exact rfl)(hx:ev f x=some (.int j p):=by exact rfl)(hy:ev f y=some (.int j q):=by exact rfl)(hc:¬p<=q:=by omega):EG E lo (⟨some d,.bin .leq x y,g,0⟩::os) hs k f h rs Q := .leqF hw hx hy hc c
def EG.k2 {p q:Int}{j:IntKind}(t:p<=q->EG E lo os hs k ((d,.bool true)::f) h rs Q)(n:¬p<=q->EG E lo os hs k ((d,.bool false)::f) h rs Q)(hw:want g f=some true:=by exact rfl)(hx:ev f x=some (.int j p):=by exact rfl)(hy:ev f y=some (.int j q):=by exact rfl):EG E lo (⟨some d,.bin .leq x y,g,0⟩::os) hs k f h rs Q := .leq hw hx hy t n
def EG.t3 {p q:Int}{j:IntKind}(c:EG E lo os hs k ((d,.bool true)::f) h rs Q)(hw:want g f=some true:=by exact rfl)(hx:ev f x=some (.int j p):=by exact rfl)(hy:ev f y=some (.int j q):=by exact rfl)(hc:q<p:=by omega):EG E lo (⟨some d,.bin .gtr x y,g,0⟩::os) hs k f h rs Q := .gtrT hw hx hy hc c
def EG.f3 {p q:Int}{j:IntKind}(c:EG E lo os hs k ((d,.bool false)::f) h rs Q)(hw:want g f=some true:=by exact rfl)(hx:ev f x=some (.int j p):=by exact rfl)(hy:ev f y=some (.int j q):=by exact rfl)(hc:¬q<p:=by omega):EG E lo (⟨some d,.bin .gtr x y,g,0⟩::os) hs k f h rs Q := .gtrF hw hx hy hc c
def EG.k3 {p q:Int}{j:IntKind}(t:q<p->EG E lo os hs k ((d,.bool true)::f) h rs Q)(n:¬q<p->EG E lo os hs k ((d,.bool false)::f) h rs Q)(hw:want g f=some true:=by exact rfl)(hx:ev f x=some (.int j p):=by exact rfl)(hy:ev f y=some (.int j q):=by exact rfl):EG E lo (⟨some d,.bin .gtr x y,g,0⟩::os) hs k f h rs Q := .gtr hw hx hy t n
def EG.t4 {p q:Int}{j:IntKind}(c:EG E lo os hs k ((d,.bool true)::f) h rs Q)(hw:want g f=some true:=by exact rfl)(hx:ev f x=some (.int j p):=by exact rfl)(hy:ev f y=some (.int j q):=by exact rfl)(hc:q<=p:=by omega):EG E lo (⟨some d,.bin .geq x y,g,0⟩::os) hs k f h rs Q := .geqT hw hx hy hc c
def EG.f4 {p q:Int}{j:IntKind}(c:EG E lo os hs k ((d,.bool false)::f) h rs Q)(hw:want g f=some true:=by exact rfl)(hx:ev f x=some (.int j p):=by exact rfl)(hy:ev f y=some (.int j q):=by exact rfl)(hc:¬q<=p:=by omega):EG E lo (⟨some d,.bin .geq x y,g,0⟩::os) hs k f h rs Q := .geqF hw hx hy hc c
def EG.k4 {p q:Int}{j:IntKind}(t:q<=p->EG E lo os hs k ((d,.bool true)::f) h rs Q)(n:¬q<=p->EG E lo os hs k ((d,.bool false)::f) h rs Q)(hw:want g f=some true:=by exact rfl)(hx:ev f x=some (.int j p):=by exact rfl)(hy:ev f y=some (.int j q):=by exact rfl):EG E lo (⟨some d,.bin .geq x y,g,0⟩::os) hs k f h rs Q := .geq hw hx hy t n
def EG.t5 {p q:Int}{j:IntKind}(c:EG E lo os hs k ((d,.bool true)::f) h rs Q)(hw:want g f=some true:=by exact rfl)(hx:ev f x=some (.int j p):=by exact rfl)(hy:ev f y=some (.int j q):=by exact rfl)(hc:p=q:=by omega):EG E lo (⟨some d,.bin .eql x y,g,0⟩::os) hs k f h rs Q := .eqlT hw hx hy hc c
def EG.f5 {p q:Int}{j:IntKind}(c:EG E lo os hs k ((d,.bool false)::f) h rs Q)(hw:want g f=some true:=by exact rfl)(hx:ev f x=some (.int j p):=by exact rfl)(hy:ev f y=some (.int j q):=by exact rfl)(hc:¬p=q:=by omega):EG E lo (⟨some d,.bin .eql x y,g,0⟩::os) hs k f h rs Q := .eqlF hw hx hy hc c
def EG.k5 {p q:Int}{j:IntKind}(t:p=q->EG E lo os hs k ((d,.bool true)::f) h rs Q)(n:¬p=q->EG E lo os hs k ((d,.bool false)::f) h rs Q)(hw:want g f=some true:=by exact rfl)(hx:ev f x=some (.int j p):=by exact rfl)(hy:ev f y=some (.int j q):=by exact rfl):EG E lo (⟨some d,.bin .eql x y,g,0⟩::os) hs k f h rs Q := .eql hw hx hy t n
def EG.t6 {p q:Int}{j:IntKind}(c:EG E lo os hs k ((d,.bool true)::f) h rs Q)(hw:want g f=some true:=by exact rfl)(hx:ev f x=some (.int j p):=by exact rfl)(hy:ev f y=some (.int j q):=by exact rfl)(hc:¬p=q:=by omega):EG E lo (⟨some d,.bin .neq x y,g,0⟩::os) hs k f h rs Q := .neqT hw hx hy hc c
def EG.f6 {p q:Int}{j:IntKind}(c:EG E lo os hs k ((d,.bool false)::f) h rs Q)(hw:want g f=some true:=by exact rfl)(hx:ev f x=some (.int j p):=by exact rfl)(hy:ev f y=some (.int j q):=by exact rfl)(hc:p=q:=by omega):EG E lo (⟨some d,.bin .neq x y,g,0⟩::os) hs k f h rs Q := .neqF hw hx hy hc c
def EG.k6 {p q:Int}{j:IntKind}(t:¬p=q->EG E lo os hs k ((d,.bool true)::f) h rs Q)(n:p=q->EG E lo os hs k ((d,.bool false)::f) h rs Q)(hw:want g f=some true:=by exact rfl)(hx:ev f x=some (.int j p):=by exact rfl)(hy:ev f y=some (.int j q):=by exact rfl):EG E lo (⟨some d,.bin .neq x y,g,0⟩::os) hs k f h rs Q := .neq hw hx hy t n
def EG.n1 {a b:Nat}(c:EG E lo os hs k ((d,.int .i64 ((a+b:Nat):Int))::f) h rs Q)(hw:want g f=some true:=by exact rfl)(hx:ev f x=some (.int .i64 (a:Nat)):=by exact rfl)(hy:ev f y=some (.int .i64 (b:Nat)):=by exact rfl)(hb:a+b<2 ^ 62:=by omega):EG E lo (⟨some d,.bin .add x y,g,0⟩::os) hs k f h rs Q := .addN hw hx hy hb c
def EG.n2 {a:Nat}(c:EG E lo os hs k ((d,.int .i64 ((a+1:Nat):Int))::f) h rs Q)(hw:want g f=some true:=by exact rfl)(hx:ev f x=some (.int .i64 (a:Nat)):=by exact rfl)(hy:ev f y=some (.int .i64 (1:Nat)):=by exact rfl)(hb:a+1<2 ^ 62:=by omega):EG E lo (⟨some d,.bin .add x y,g,0⟩::os) hs k f h rs Q := .addN hw hx hy hb c
def EG.s1 {a b:Nat}(c:EG E lo os hs k ((d,.int .i64 ((a-b:Nat):Int))::f) h rs Q)(hw:want g f=some true:=by exact rfl)(hx:ev f x=some (.int .i64 (a:Nat)):=by exact rfl)(hy:ev f y=some (.int .i64 (b:Nat)):=by exact rfl)(hb:b<=a/\a<2 ^ 62:=by omega):EG E lo (⟨some d,.bin .sub x y,g,0⟩::os) hs k f h rs Q := .waI hw hx hy hb c
def EG.s2 {a:Nat}(c:EG E lo os hs k ((d,.int .i64 ((a-1:Nat):Int))::f) h rs Q)(hw:want g f=some true:=by exact rfl)(hx:ev f x=some (.int .i64 (a:Nat)):=by exact rfl)(hy:ev f y=some (.int .i64 (1:Nat)):=by exact rfl)(hb:1<=a/\a<2 ^ 62:=by omega):EG E lo (⟨some d,.bin .sub x y,g,0⟩::os) hs k f h rs Q := .waI hw hx hy hb c
def EG.P {m:Nat}{xs:List Operand}{vs:List Value}(hc:qfU E lo m vs h=some (v,h'))(c:EG E lo os (h::hs) k ((d,v)::f) h' rs Q)(hw:want g f=some true:=by exact rfl)(hx:evs f xs=some vs:=by exact rfl):EG E lo (⟨some d,.call m xs,g,0⟩::os) hs k f h rs Q := .call hw hx hc c
def EG.L {n:Option Nat}{a:Addr}(hl:qau h n a=some v)(c:EG E lo os hs k ((d,v)::f) h rs Q)(hw:want g f=some true:=by exact rfl)(hx:ev f x=some (.pointer (some a)):=by exact rfl):EG E lo (⟨some d,.load n x,g,0⟩::os) hs k f h rs Q := .load hw hx hl c
def EG.R {esz:Nat}{i:Operand}{a:Addr}{len cap:Nat}{kk:IntKind}{j:Nat}(hj:j<len)(c:EG E lo os hs k ((d,.pointer (some ⟨a.block,a.off+j*esz,none⟩))::f) h rs Q)(hw:want g f=some true:=by exact rfl)(hx:ev f x=some (.slice (some a) len cap):=by exact rfl)(hi:ev f i=some (.int kk (j:Nat)):=by exact rfl):EG E lo (⟨some d,.yn none esz x i,g,0⟩::os) hs k f h rs Q := .yn hw hx hi hj c
def EG.U {esz bytes:Nat}{vx vy:Value}(ha:qaE lo esz bytes h vx vy=some (v,h'))(c:EG E lo os (h::hs) k ((d,v)::f) h' rs Q)(hw:want g f=some true:=by exact rfl)(hx:ev f x=some vx:=by exact rfl)(hy:ev f y=some vy:=by exact rfl):EG E lo (⟨some d,.append esz bytes x y,g,0⟩::os) hs k f h rs Q := .app hw hx hy ha c
def EG.S {n:Nat}{a:Addr}{u:Value}(hst:stN lo h a (qaf u)=some h')(c:EG E lo os (h::hs) k f h' rs Q)(hw:want g f=some true:=by exact rfl)(hx:ev f x=some (.pointer (some a)):=by exact rfl)(hy:ev f y=some u:=by exact rfl)(hl:(qaf u).length=n:=by exact rfl)(ho:(qaf u).all qad=true:=by exact rfl):EG E lo (⟨none,.store n x y,g,0⟩::os) hs k f h rs Q := .store hw hx hy hl ho hst c
def EG.W {tab:List (Nat×Nat)}{xs:List Operand}{t m:Nat}{r:Value}{vs:List Value}(hc:qfU E lo m (r::vs) h=some (v,h'))(c:EG E lo os (h::hs) k ((d,v)::f) h' rs Q)(hw:want g f=some true:=by exact rfl)(hx:ev f x=some (.iface t r):=by exact rfl)(hk:tab.lookup t=some m:=by exact rfl)(hv:evs f xs=some vs:=by exact rfl):EG E lo (⟨some d,.invoke tab x xs,g,0⟩::os) hs k f h rs Q := .inv hw hx hk hv hc c
def EG.X {n:Option Nat}{a:Addr}{c:Nat}(hl:qau h n a=some v)(ha:∀h0∈hs.take c,qau h0 n a=some v)(hv:qaP v v=true)(y:EG E lo os hs k ((d,v)::f) h rs Q)(hw:want g f=some true:=by exact rfl)(hx:ev f x=some (.pointer (some a)):=by exact rfl):EG E lo (⟨some d,.load n x,g,c⟩::os) hs k f h rs Q := .loadc hw hx hl ha hv y
end
end Go.Ir
