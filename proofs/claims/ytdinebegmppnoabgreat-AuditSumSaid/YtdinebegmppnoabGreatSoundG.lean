/- The closed part of the statements: evaluated by the kernel, in parts. -/
import Derived.Test.YtdinebegmppnoabGreatSoundIr
import Derived.Test.YtdinebegmppnoabGreatIrD
import Derived.KernelRfl
set_option linter.unusedVariables false
set_option linter.unusedSimpArgs false

namespace Go.Proofs.YtdinebegmppnoabGreat
open Go Go.Ir

def cI (n:Int):Value := .int .i64 n
def cU (n:Int):Value := .int .u8 n
def cT:Value := .bool true
def cF:Value := .bool false
def cP (b:Nat):Value := .pointer (some ⟨b,0,none⟩)
def cS (b n k:Nat):Value := .slice (some ⟨b,0,none⟩) n k
def cX {α:Type}(n:Nat)(v:α):List α:=List.replicate n v
def cW (l:List Value):Blk := .row l false
def cR (l:List Int):Blk := .row (l.map cI) false

def cf1:Fr := [(4,cI 18),(26,cI 18),(25,cI 17),(31,cT),(30,cP 6),(29,cF),(28,cI 0),(27,cP 6),(24,cT),(23,cI 17),(1,.agg #[.int .i64 64,.int .i64 2,.int .i64 1]),(2,cP 6),(4,cI 17)]
def ch1:qab := [cR [0,0,0,9],cW [cS 0 1 1],cR [16,1048578,1,0,1,0,0,2,0,0,0],cW (cX 64 (cU 0)),cW [cS 2 11 11,cS 3 64 64,cI 165],cW ([cI 1,cI 2,cI 64,cI 2,cI 1,cI 1]++cX 6 (cI 0) ++ [cF,cF,.slice none 0 0]++cX 70 (cI 0) ++ [.pointer none,cF]),cW [cP 4,cI 64,cI 2,cI 1,.slice (some ⟨11,0,some 0⟩) 1 1,cP 5,.slice (some ⟨19,0,some 0⟩) 1 8,cI 0,cI 0,cI 0],cW [cI 64,cI 2,cI 1,cI 0,.slice (some ⟨9,0,some 0⟩) 1 4,cI 2,cP 17,.iface 107 (.pointer (some ⟨26,0,none⟩)),cP 26,cI 0,cI 0],cW [],cR [0,0,0,9],cW [cP 7],cW [cP 7],cW ([cT,cT]++cX 62 cF),cR [0],.dead,cR [1],cR [0,1],cR [1,2,4,0,0],cW [cI 0,cF,cI 0,cI 0,cI 0,cI 9,cI 0,cI 0],cW [cI 0,cF,cI 0,cI 0,cI 0,cI 9,cI 0,cI 0],cW ([cT,cT]++cX 62 cF),cR [0],.dead,cR [1],cR [0,1],cR [1,2,0,0,1,1048578],cW ([cP 25,.pointer none,cI 1,cI 2,cI 64,cI 9,cI 16,cI 7]++cX 4 (cI 0) ++ [cI 9,cI 0,cI 0,cT]),cW ([cT,cT]++cX 62 cF),cR [0],.dead,cR [1],cR [0,1],cW ([cT,cT]++cX 62 cF),cR [0],.dead,cR [1],cR [0,1],cW ([cT,cT]++cX 62 cF),cR [0],.dead,cR [1],cR [0,1],cW ([cT,cT]++cX 62 cF),cR [0],.dead,cR [1],cR [0,1],cW ([cT,cT]++cX 62 cF),cR [0],.dead,cR [1],cR [0,1],cW ([cF,cT]++cX 62 cF),cR [1],cR [1],cW ([cF,cT]++cX 62 cF),cR [1],cR [1],cW [cI (-1),cI 0,cI 16,cF],cW [cI (-1),cI 0,cI 16,cF],cW [cI (-1),cI 0,cI 16,cF],cW ([cF,cT]++cX 62 cF),cR [1],cR [1],cW [cI (-1),cI 0,cI 16,cF],cW [cI (-1),cI 0,cI 16,cF],cW [cI (-1),cI 0,cI 16,cF],cW ([cF,cT]++cX 62 cF),cR [1],cR [1],cW [cI (-1),cI 0,cI 16,cF],cW [cI (-1),cI 0,cI 16,cF],cW [cI (-1),cI 0,cI 16,cF],cW ([cF,cT]++cX 62 cF),cR [1],cR [1],cW [cI (-1),cI 0,cI 16,cF],cW [cI (-1),cI 0,cI 16,cF],cW [cI (-1),cI 0,cI 16,cF],cW ([cF,cT]++cX 62 cF),cR [1],cR [1],cW [cI (-1),cI 0,cI 16,cF],cW [cI (-1),cI 0,cI 16,cF],cW [cI (-1),cI 0,cI 16,cF],cW ([cF,cT]++cX 62 cF),cR [1],cR [1],cW [cI (-1),cI 0,cI 16,cF],cW [cI (-1),cI 0,cI 16,cF],cW [cI (-1),cI 0,cI 16,cF],cW ([cF,cT]++cX 62 cF),cR [1],cR [1],cW [cI (-1),cI 0,cI 16,cF],cW [cI (-1),cI 0,cI 16,cF],cW [cI (-1),cI 0,cI 16,cF],cW ([cF,cT]++cX 62 cF),cR [1],cR [1],cW [cI (-1),cI 0,cI 16,cF],cW [cI (-1),cI 0,cI 16,cF],cW [cI (-1),cI 0,cI 16,cF],cW ([cF,cT]++cX 62 cF),cR [1],cR [1],cW [cI (-1),cI 0,cI 16,cF],cW [cI (-1),cI 0,cI 16,cF],cW [cI (-1),cI 0,cI 16,cF],cW ([cF,cT]++cX 62 cF),cR [1],cR [1]]
theorem qq5:exJ (qa0 qiS (exF qiS 20000) 0) 0 303 [.code F.zcJ.body] [] []=some ([.again [1,2,4] (qip [1,1,1,1,0,1,0,0] F.zcJ.body),.endB 0,.code (qip [1,1,1,1,1] F.zcJ.body)],cf1,ch1):=by kernel_rfl

theorem qq6:qiq qiS 20000 F.zcJ.res [.again [1,2,4] (qip [1,1,1,1,0,1,0,0] F.zcJ.body),.endB 0,.code (qip [1,1,1,1,1] F.zcJ.body)] cf1 ch1=true:=by kernel_rfl
theorem qq7:tbl.lookup Id.zcJ=some F.zcJ:=by kernel_rfl
theorem qq8:∃n,okB (qa0 qiS (exN qiS n) 0 Id.zcJ [] [])=true:=qir (fn:=F.zcJ) rfl qq7 rfl rfl (exJ_ok _ qq5) qq6
end Go.Proofs.YtdinebegmppnoabGreat

