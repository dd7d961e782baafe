/- An object made, step by step: by the document. -/
import Derived.Test.YtlgnnpkdhbhdgaaGreatThreadP8
import Derived.Test.YtlgnnpkdhbhdgaaGreatThreadP7
set_option linter.all false
namespace Go.Proofs.YtlgnnpkdhbhdgaaGreat
open Go Go.Ir
def dnx (k:Int):Int:=if k=6 then 40 else if k=7 then 6 else if k=8 then 60 else if k=9 then 7 else if k=10 then 70 else if k=11 then 8 else if k=12 then 9 else k
def qpu (c:Cfg)(s:Al)(k:Int)(pv gv:Value):List Value :=
 [I c.A,I c.S,I c.T,I s.n,I k,pv,gv,I s.seen,I s.kept,I s.slot,I s.f,I s.at_,I s.gen,I s.word,.bool s.cl]
structure AlI (s:Al):Prop where
 nx:0<=s.nx/\s.nx<=12
 p0:s.nx=1\/s.nx=2->s.p=⟨1,0,0,0⟩
 a0:0<s.nx->s.nx<7->s.at_=0
 a7:s.nx=7->0<=s.at_/\s.at_<qpc s.n
 by_:2<=s.nx->0<qpc s.n
 pw:s.p.word<9223372036854775808
 qw:s.q.word<9223372036854775808
structure AlR (H:qab)(own:List Nat)(c:Cfg)(s:Al)(b:Nat):Prop where
 mem:b∈own
 inv:AlI s
 row:∃pv gv,H[b]? = some (.row (qpu c s (dnx s.nx) pv gv) false)/\(s.nx=3->∃t,pv=qkt t/\H[t]? = some (.row (qnX c false s.p) false)/\b≠t/\t∈own)/\
  (s.nx=6->∃g,gv=qkt g/\H[g]? = some (.row (qnX c true s.q) false)/\b≠g/\g∈own)
section
variable {H:qab}{b:Nat}{c:Cfg}{s:Al}{k:Int}{pv gv:Value}{cb:CB}{ws bs:List Int}{own:List Nat}
def AlR.of {H':qab}{s':Al}{ws' bs':List Int}(hmem:b∈own)(d:DidR H H' b (qpu c s' k pv gv) cb ws' bs')(hk:k=dnx s'.nx)(hi:AlI s')(h3:s'.nx≠3)(h6:s'.nx≠6):AlR H' own c s' b :=
 ⟨hmem,hi,pv,gv,by rw [<-hk];exact d.row,fun h=>absurd h h3,fun h=>absurd h h6⟩
end
section
variable {H:qab}{b:Nat}{c:Cfg}{s:Al}{k:Int}{pv gv:Value}{cb:CB}{ws bs:List Int}{own:List Nat}
end
end Go.Proofs.YtlgnnpkdhbhdgaaGreat
