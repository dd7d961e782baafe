/- The seat's environment; a config as an argument. -/
import Derived.Test.YtlgnnpkdhbhdgaaGreatSoundOk
import Derived.Test.YtlgnnpkdhbhdgaaGreatThreadP1
import Derived.Test.YtlgnnpkdhbhdgaaGreatSoundG
import Derived.Test.YtlgnnpkdhbhdgaaGreatIrD
set_option linter.all false
set_option linter.constructorNameAsVariable false
namespace Go.Proofs.YtlgnnpkdhbhdgaaGreat
open Go Go.Ir Go.ChangeShapes Go.WideShapes
def qtj:Tryz.prog.follows .mixedOrders=true:=by kernel_rfl
def qtk:qfK Tryz.prog qiR:=qgi qiS [] (by simp)
def qtl:qfK Tryz.prog En:=qgi qiS pr (by
 intro p hp
 obtain rfl:p=(Id.zcK,qgl (.bool true)):=by simpa [pr]using hp
 exact⟨qgm _,qir qtk qtj qti⟩)
def qtm:Tryz.prog.cellsOf 23=3:=by kernel_rfl
def qtn:Tryz.prog.cellsOf 3=1:=by kernel_rfl
def qto {H:Type}{enc:TypeId×Value->H}{W:World}{base:Nat}{spare:Nat->Bool}{held:Bool}{n:Nat}{cs:List Value}{x:DataW H×List MemPlace}(h:DataW.trod enc Tryz.prog W base spare held n 23 cs=some x) :
  ∃(a0:Int) (a1:Int) (a2:Int),cs = [.int .i64 a0,.int .i64 a1,.int .i64 a2]:=by
 obtain⟨xs,m,_,_,hlen,hxl,hf⟩:=DataW.trod_struct Tryz.underlying23 h
 rw [qtm]at hlen
 have hx:xs.length=3:=hxl
 have g0:DataW.trod enc Tryz.prog W base spare held m 3 ((cs.drop 0).take (Tryz.prog.cellsOf 3))=xs[0]? := hf 0 _ rfl
 rw [qtn,zzG (by omega)]at g0
 have g1:DataW.trod enc Tryz.prog W base spare held m 3 ((cs.drop 1).take (Tryz.prog.cellsOf 3))=xs[1]? := hf 1 _ rfl
 rw [qtn,zzG (by omega)]at g1
 have g2:DataW.trod enc Tryz.prog W base spare held m 3 ((cs.drop 2).take (Tryz.prog.cellsOf 3))=xs[2]? := hf 2 _ rfl
 rw [qtn,zzG (by omega)]at g2
 obtain⟨b0,e0,_,_⟩:=DataW.trod_int Tryz.underlying3 g0
 obtain⟨b1,e1,_,_⟩:=DataW.trod_int Tryz.underlying3 g1
 obtain⟨b2,e2,_,_⟩:=DataW.trod_int Tryz.underlying3 g2
 refine⟨b0,b1,b2,List.ext_getElem? fun i => ?_⟩
 match i with
 | 0=>exact qiO cs e0
 | 1=>exact qiO cs e1
 | 2=>exact qiO cs e2
 | i+3=>rw [zzE (by omega)];rfl
def qtp {H:Type}{enc:TypeId×Value->H}{W:World}{base:Nat}{spare:Nat->Bool}{held:Bool}{v0:Value}{d0:DataW H}{p0:List MemPlace}{r:Reach}{b:Nat}(hval:Value.okWide Tryz.prog W r b 23 v0)(h:DataW.Trod enc Tryz.prog W base spare held 23 v0 d0 p0):∃c:Cfg,v0 = .agg c.cs.toArray:=by
 simp only [Value.okWide,Tryz.underlying23]at hval
 obtain⟨cs,rfl,_,_⟩:=hval
 obtain⟨n,hn⟩:=h
 obtain⟨a0,a1,a2,hc⟩:=qto (cs:=cs.toList) (by simpa [Value.cells]using hn)
 exact⟨⟨a0,a1,a2⟩,congrArg Value.agg (Array.toList_inj.1 hc)⟩
end Go.Proofs.YtlgnnpkdhbhdgaaGreat
