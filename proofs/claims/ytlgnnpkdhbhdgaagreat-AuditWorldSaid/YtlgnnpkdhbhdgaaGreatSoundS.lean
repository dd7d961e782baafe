/- Ops of many threads, and picks, as arguments. -/
import Derived.Test.YtlgnnpkdhbhdgaaGreatSoundE
import Derived.Test.YtlgnnpkdhbhdgaaGreatSoundR
import Derived.Test.YtlgnnpkdhbhdgaaGreatSoundQ
set_option linter.all false
set_option linter.constructorNameAsVariable false
namespace Go.Proofs.YtlgnnpkdhbhdgaaGreat
open Go Go.Ir Go.ChangeShapes Go.WideShapes
def qwo:Tryz.prog.bytesOf 70=32:=by kernel_rfl
def qwp:Tryz.prog.bytesOf 68=24:=by kernel_rfl
def qwq:Tryz.prog.cellsOf 70=4:=by kernel_rfl
def qwr:Tryz.prog.cellsOf 68=1:=by kernel_rfl
def qws {n:Int}(h:(Lit.int .i64 n).wf=true) : -9223372036854775808<=n/\n<9223372036854775808:=by
 simp only [Lit.wf,Bool.and_eq_true,decide_eq_true_eq]at h
 have h1:IntKind.min .i64 = -9223372036854775808:=by decide
 have h2:IntKind.max .i64=9223372036854775807:=by decide
 omega
section
variable {H:Type}{enc:TypeId×Value->H}{W:World}{base:Nat}{spare:Nat->Bool}{held:Bool}{n:Nat}{cs:List Value}{x:DataW H×List MemPlace}
def qwt (h:DataW.trod enc Tryz.prog W base spare held n 70 cs=some x):∃t:Op4,cs=t.cs:=by
 obtain⟨xs,m,_,_,hlen,hxl,hf⟩:=DataW.trod_struct Tryz.underlying70 h
 rw [qwq]at hlen
 have hx:xs.length=4:=hxl
 have g0:DataW.trod enc Tryz.prog W base spare held m 3 ((cs.drop 0).take (Tryz.prog.cellsOf 3))=xs[0]? := hf 0 _ rfl
 rw [qtn,zzG (by omega)]at g0
 have g1:DataW.trod enc Tryz.prog W base spare held m 3 ((cs.drop 1).take (Tryz.prog.cellsOf 3))=xs[1]? := hf 1 _ rfl
 rw [qtn,zzG (by omega)]at g1
 have g2:DataW.trod enc Tryz.prog W base spare held m 3 ((cs.drop 2).take (Tryz.prog.cellsOf 3))=xs[2]? := hf 2 _ rfl
 rw [qtn,zzG (by omega)]at g2
 have g3:DataW.trod enc Tryz.prog W base spare held m 3 ((cs.drop 3).take (Tryz.prog.cellsOf 3))=xs[3]? := hf 3 _ rfl
 rw [qtn,zzG (by omega)]at g3
 obtain⟨b0,e0,_,w0⟩:=DataW.trod_int Tryz.underlying3 g0
 obtain⟨b1,e1,_,w1⟩:=DataW.trod_int Tryz.underlying3 g1
 obtain⟨b2,e2,_,w2⟩:=DataW.trod_int Tryz.underlying3 g2
 obtain⟨b3,e3,_,w3⟩:=DataW.trod_int Tryz.underlying3 g3
 refine⟨⟨b0,b1,b2,b3,qws w1,qws w3⟩,List.ext_getElem? fun i => ?_⟩
 match i with
 | 0=>exact qiO cs e0
 | 1=>exact qiO cs e1
 | 2=>exact qiO cs e2
 | 3=>exact qiO cs e3
 | i+4=>rw [zzE (by omega)];rfl
instance:Inhabited Op4:=⟨⟨0,0,0,0,by omega,by omega⟩⟩
def qwu (h:DataW.trod enc Tryz.prog W base spare held n 3 cs=some x):∃a:Int,cs = [I a]:=by
 obtain⟨b,e,_,_⟩:=DataW.trod_int Tryz.underlying3 h
 exact⟨b,e⟩
set_option maxRecDepth 8000 in
def qwv {E:Emb}{h:qab}(s:Sim W.heap.size W E h W)(hro:RoH h){b0:Nat}{r:Reach}{v0:Value}{d0:DataW H}{p0:List MemPlace}(hval:Value.okWide Tryz.prog W r b0 25 v0)(hd:DataW.Trod enc Tryz.prog W base spare held 25 v0 d0 p0) :
  ∃E' h' v l,Sim W.heap.size W E' h' W/\E.le E'/\RoH h'/\Ext h h'/\VR E' v v0/\Sl h' 1 v (kcs l)/\qiF v l.length :=
 qiP (fun n:Int => [I n]) Tryz.underlying25 qtn (by decide) (fun a=>⟨rfl,rfl,rfl⟩) qwu s hro hval hd
set_option maxRecDepth 8000 in
def qww {ts:List TypeId}{ds:List (DataW H)}(hsz:(DataW.weightsEach Tryz.prog ts ds).all (·<=reachBytes)=true){j:Nat}{E:Emb}{h:qab}(s:Sim W.heap.size W E h W)(hro:RoH h){b0:Nat}{r:Reach}{v0:Value}{d0:DataW H}{p0:List MemPlace}
  (ht:ts[j]? = some 24) (hdd:ds[j]? = some d0) (hval:Value.okWide Tryz.prog W r b0 24 v0) (hd:DataW.Trod enc Tryz.prog W base spare held 24 v0 d0 p0) :
  ∃E' h' v l,Sim W.heap.size W E' h' W/\E.le E'/\RoH h'/\Ext h h'/\VR E' v v0/\Pgs h' v l/\l.length<4611686018427387904:=by
 obtain⟨E',h',v,l,s1,s2,s3,s4,s5,s6,s7,s8,s9⟩:=qwl Op4.cs Tryz.underlying24 Tryz.underlying68 qwr qwq (by decide) (fun a=>⟨rfl,rfl,rfl⟩) qwt s hro hval hd (fun w hw=>by
  have:=List.all_eq_true.1 hsz _ (DataW.weights_mem_each ht hdd w hw)
  simpa using this)
 have hr:=reachBytes_lt
 rw [qwp]at s8
 refine⟨E',h',v,l,s1,s2,s3,s4,s5,⟨s6,fun p hp=>⟨(s9 p hp).1,(s9 p hp).2.1, ?_⟩⟩,by omega⟩
 have:=(s9 p hp).2.2
 rw [qwo]at this
 omega
end
end Go.Proofs.YtlgnnpkdhbhdgaaGreat
