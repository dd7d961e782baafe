/- The closed part of the statements: evaluated by the kernel, in parts. -/
import Derived.Test.YtlgnnpkdhbhdgaaGreatSoundIr
import Derived.Test.YtlgnnpkdhbhdgaaGreatIrD
import Derived.KernelRfl
set_option linter.all false
namespace Go.Proofs.YtlgnnpkdhbhdgaaGreat
open Go Go.Ir
def cI (n:Int):Value := .int .i64 n
def cU (n:Int):Value := .int .u8 n
def cT:Value := .bool true
def cF:Value := .bool false
def cP (b:Nat):Value := .pointer (some ⟨b,0,none⟩)
def cS (b n k:Nat):Value := .slice (some ⟨b,0,none⟩) n k
def cX {α:Type}(n:Nat)(v:α):List α:=List.replicate n v
def cW (l:List Value):Blk := .row l false
def cR (l:List Int):Blk := .row (l.map cI) false
def cf1:Fr := [(4,cI 18),(26,cI 18),(25,cI 17),(31,cT),(30,cP 6),(29,cF),(28,cI 0),(27,cP 6),(24,cT),(23,cI 17),(1,.agg #[.int .i64 64,.int .i64 2,.int .i64 1]),(2,cP 6),(4,cI 17)]
def ch1:qab := [cR [0,0,0,9],cW [cS 0 1 1],cR [16,1048578,1,0,1,0,0,2,0,0,0],cW (cX 64 (cU 0)),cW [cS 2 11 11,cS 3 64 64,cI 165],cW ([cI 1,cI 2,cI 64,cI 2,cI 1,cI 1]++cX 6 (cI 0) ++ [cF,cF,.slice none 0 0]++cX 70 (cI 0) ++ [.pointer none,cF]),cW [cP 4,cI 64,cI 2,cI 1,.slice (some ⟨11,0,some 0⟩) 1 1,cP 5,.slice (some ⟨19,0,some 0⟩) 1 8,cI 0,cI 0,cI 0],cW [cI 64,cI 2,cI 1,cI 0,.slice (some ⟨9,0,some 0⟩) 1 4,cI 2,cP 17,.iface 149 (.pointer (some ⟨26,0,none⟩)),cP 26,cI 0,cI 0],cW [],cR [0,0,0,9],cW [cP 7],cW [cP 7],cW ([cT,cT]++cX 62 cF),cR [0],.dead,cR [1],cR [0,1],cR [1,2,4,0,0],cW [cI 0,cF,cI 0,cI 0,cI 0,cI 9,cI 0,cI 0],cW [cI 0,cF,cI 0,cI 0,cI 0,cI 9,cI 0,cI 0],cW ([cT,cT]++cX 62 cF),cR [0],.dead,cR [1],cR [0,1],cR [1,2,0,0,1,1048578],cW ([cP 25,.pointer none,cI 1,cI 2,cI 64,cI 9,cI 16,cI 7]++cX 4 (cI 0) ++ [cI 9,cI 0,cI 0,cT]),cW ([cT,cT]++cX 62 cF),cR [0],.dead,cR [1],cR [0,1],cW ([cT,cT]++cX 62 cF),cR [0],.dead,cR [1],cR [0,1],cW ([cT,cT]++cX 62 cF),cR [0],.dead,cR [1],cR [0,1],cW ([cT,cT]++cX 62 cF),cR [0],.dead,cR [1],cR [0,1],cW ([cT,cT]++cX 62 cF),cR [0],.dead,cR [1],cR [0,1],cW ([cF,cT]++cX 62 cF),cR [1],cR [1],cW ([cF,cT]++cX 62 cF),cR [1],cR [1],cW [cI (-1),cI 0,cI 16,cF],cW [cI (-1),cI 0,cI 16,cF],cW [cI (-1),cI 0,cI 16,cF],cW ([cF,cT]++cX 62 cF),cR [1],cR [1],cW [cI (-1),cI 0,cI 16,cF],cW [cI (-1),cI 0,cI 16,cF],cW [cI (-1),cI 0,cI 16,cF],cW ([cF,cT]++cX 62 cF),cR [1],cR [1],cW [cI (-1),cI 0,cI 16,cF],cW [cI (-1),cI 0,cI 16,cF],cW [cI (-1),cI 0,cI 16,cF],cW ([cF,cT]++cX 62 cF),cR [1],cR [1],cW [cI (-1),cI 0,cI 16,cF],cW [cI (-1),cI 0,cI 16,cF],cW [cI (-1),cI 0,cI 16,cF],cW ([cF,cT]++cX 62 cF),cR [1],cR [1],cW [cI (-1),cI 0,cI 16,cF],cW [cI (-1),cI 0,cI 16,cF],cW [cI (-1),cI 0,cI 16,cF],cW ([cF,cT]++cX 62 cF),cR [1],cR [1],cW [cI (-1),cI 0,cI 16,cF],cW [cI (-1),cI 0,cI 16,cF],cW [cI (-1),cI 0,cI 16,cF],cW ([cF,cT]++cX 62 cF),cR [1],cR [1],cW [cI (-1),cI 0,cI 16,cF],cW [cI (-1),cI 0,cI 16,cF],cW [cI (-1),cI 0,cI 16,cF],cW ([cF,cT]++cX 62 cF),cR [1],cR [1],cW [cI (-1),cI 0,cI 16,cF],cW [cI (-1),cI 0,cI 16,cF],cW [cI (-1),cI 0,cI 16,cF],cW ([cF,cT]++cX 62 cF),cR [1],cR [1],cW [cI (-1),cI 0,cI 16,cF],cW [cI (-1),cI 0,cI 16,cF],cW [cI (-1),cI 0,cI 16,cF],cW ([cF,cT]++cX 62 cF),cR [1],cR [1]]
def qtf:exJ (qaZ qiR (exF qiR 20000) 0) 0 303 [.code F.zcK.body] [] []=some ([.again [1,2,4] (qio [1,1,1,1,0,1,0,0] F.zcK.body),.yC 0,.code (qio [1,1,1,1,1] F.zcK.body)],cf1,ch1):=by kernel_rfl
def qtg:qip qiR 20000 F.zcK.res [.again [1,2,4] (qio [1,1,1,1,0,1,0,0] F.zcK.body),.yC 0,.code (qio [1,1,1,1,1] F.zcK.body)] cf1 ch1=true:=by kernel_rfl
def qth:tbl.lookup Id.zcK=some F.zcK:=by kernel_rfl
def qti:∃n,okB (qaZ qiR (yq qiR n) 0 Id.zcK [] [])=true:=qiq (fn:=F.zcK) rfl qth rfl rfl (exJ_ok _ qtf) qtg
end Go.Proofs.YtlgnnpkdhbhdgaaGreat
