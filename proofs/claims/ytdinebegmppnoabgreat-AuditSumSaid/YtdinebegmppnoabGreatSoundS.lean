/- Ops of many threads, and picks, as arguments. -/
import Derived.Test.YtdinebegmppnoabGreatSoundE
import Derived.Test.YtdinebegmppnoabGreatSoundR
import Derived.Test.YtdinebegmppnoabGreatSoundQ
set_option linter.unusedVariables false
set_option linter.unusedSimpArgs false

set_option linter.constructorNameAsVariable false
namespace Go.Proofs.YtdinebegmppnoabGreat
open Go Go.Ir Go.ChangeShapes Go.WideShapes

theorem qud:Tryz.prog.bytesOf 46=32:=by kernel_rfl
theorem que:Tryz.prog.bytesOf 44=24:=by kernel_rfl
theorem quf:Tryz.prog.cellsOf 46=4:=by kernel_rfl
theorem qug:Tryz.prog.cellsOf 44=1:=by kernel_rfl
theorem quh {n:Int}(h:(Lit.int .i64 n).wf=true) : -9223372036854775808≤n∧n<9223372036854775808:=by
 simp only [Lit.wf,Bool.and_eq_true,decide_eq_true_eq]at h
 have h1:IntKind.min .i64 = -9223372036854775808:=by decide
 have h2:IntKind.max .i64=9223372036854775807:=by decide
 omega
section
variable {H:Type}{enc:TypeId×Value→H}{W:World}{base:Nat}{spare:Nat→Bool}{held:Bool}{n:Nat}{cs:List Value}{x:DataW H×List MemPlace}
theorem qui (h:DataW.trod enc Tryz.prog W base spare held n 46 cs=some x):∃t:Op4,cs=t.cs:=by
 obtain⟨xs,m,_,_,hlen,hxl,hf⟩:=DataW.trod_struct Tryz.underlying46 h
 rw [quf]at hlen
 have hx:xs.length=4:=hxl
 have g0:DataW.trod enc Tryz.prog W base spare held m 3 ((cs.drop 0).take (Tryz.prog.cellsOf 3))=xs[0]? := hf 0 _ rfl
 rw [qrd,List.getElem?_eq_getElem (by omega)]at g0
 have g1:DataW.trod enc Tryz.prog W base spare held m 3 ((cs.drop 1).take (Tryz.prog.cellsOf 3))=xs[1]? := hf 1 _ rfl
 rw [qrd,List.getElem?_eq_getElem (by omega)]at g1
 have g2:DataW.trod enc Tryz.prog W base spare held m 3 ((cs.drop 2).take (Tryz.prog.cellsOf 3))=xs[2]? := hf 2 _ rfl
 rw [qrd,List.getElem?_eq_getElem (by omega)]at g2
 have g3:DataW.trod enc Tryz.prog W base spare held m 3 ((cs.drop 3).take (Tryz.prog.cellsOf 3))=xs[3]? := hf 3 _ rfl
 rw [qrd,List.getElem?_eq_getElem (by omega)]at g3
 obtain⟨b0,e0,_,w0⟩:=DataW.trod_int Tryz.underlying3 g0
 obtain⟨b1,e1,_,w1⟩:=DataW.trod_int Tryz.underlying3 g1
 obtain⟨b2,e2,_,w2⟩:=DataW.trod_int Tryz.underlying3 g2
 obtain⟨b3,e3,_,w3⟩:=DataW.trod_int Tryz.underlying3 g3
 refine⟨⟨b0,b1,b2,b3,quh w1,quh w3⟩,List.ext_getElem? fun i => ?_⟩
 match i with
 | 0=>exact qiP cs e0
 | 1=>exact qiP cs e1
 | 2=>exact qiP cs e2
 | 3=>exact qiP cs e3
 | i+4=>rw [List.getElem?_eq_none (by omega)];rfl
instance:Inhabited Op4:=⟨⟨0,0,0,0,by omega,by omega⟩⟩
theorem quj (h:DataW.trod enc Tryz.prog W base spare held n 3 cs=some x):∃a:Int,cs = [I a]:=by
 obtain⟨b,e,_,_⟩:=DataW.trod_int Tryz.underlying3 h
 exact⟨b,e⟩
set_option maxRecDepth 8000 in
theorem quk {E:Emb}{h:qab}(s:Sim W.heap.size W E h W)(hro:RoH h){b0:Nat}{r:Reach}{v0:Value}{d0:DataW H}{p0:List MemPlace}(hval:Value.okWide Tryz.prog W r b0 25 v0)(hd:DataW.Trod enc Tryz.prog W base spare held 25 v0 d0 p0) :
  ∃E' h' v l,Sim W.heap.size W E' h' W∧E.le E'∧RoH h'∧Ext h h'∧VR E' v v0∧Sl h' 1 v (kcs l)∧qiG v l.length :=
 qiQ (fun n:Int => [I n]) Tryz.underlying25 qrd (by decide) (fun a=>⟨rfl,rfl,rfl⟩) quj s hro hval hd
set_option maxRecDepth 8000 in
theorem qul {ts:List TypeId}{ds:List (DataW H)}(hsz:(DataW.weightsEach Tryz.prog ts ds).all (·≤reachBytes)=true){j:Nat}{E:Emb}{h:qab}(s:Sim W.heap.size W E h W)(hro:RoH h){b0:Nat}{r:Reach}{v0:Value}{d0:DataW H}{p0:List MemPlace}
  (ht:ts[j]? = some 24) (hdd:ds[j]? = some d0) (hval:Value.okWide Tryz.prog W r b0 24 v0) (hd:DataW.Trod enc Tryz.prog W base spare held 24 v0 d0 p0) :
  ∃E' h' v l,Sim W.heap.size W E' h' W∧E.le E'∧RoH h'∧Ext h h'∧VR E' v v0∧Pgs h' v l∧l.length<4611686018427387904:=by
 obtain⟨E',h',v,l,s1,s2,s3,s4,s5,s6,s7,s8,s9⟩:=qt5 Op4.cs Tryz.underlying24 Tryz.underlying44 qug quf (by decide) (fun a=>⟨rfl,rfl,rfl⟩) qui s hro hval hd (fun w hw=>by
  have:=List.all_eq_true.1 hsz _ (DataW.weights_mem_each ht hdd w hw)
  simpa using this)
 have hr:=reachBytes_lt
 rw [que]at s8
 refine⟨E',h',v,l,s1,s2,s3,s4,s5,⟨s6,fun p hp=>⟨(s9 p hp).1,(s9 p hp).2.1, ?_⟩⟩,by omega⟩
 have:=(s9 p hp).2.2
 rw [qud]at this
 omega
end
end Go.Proofs.YtdinebegmppnoabGreat

