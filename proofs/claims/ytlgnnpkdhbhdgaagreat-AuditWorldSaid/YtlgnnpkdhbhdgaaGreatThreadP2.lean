/- Entries, packed and unpacked. -/
import Derived.Test.YtlgnnpkdhbhdgaaGreatThreadP1
set_option linter.all false
namespace Go.Proofs.YtlgnnpkdhbhdgaaGreat
open Go Go.Ir
def unV:Option Ent->Value
 | some e => .tuple #[.agg e.cs.toArray,I 0]
 | none => .tuple #[.agg Ent.zero.cs.toArray,I 2]
def fv (n:Nat):Nat->Nat
 | 0=>n/2 ^ 0%2 ^ 20
 | 1=>n/2 ^ 20%2 ^ 20
 | 2=>n/2 ^ 40%2 ^ 4
 | 3=>n/2 ^ 44%2 ^ 4
 | 4=>n/2 ^ 48%2 ^ 1
 | _=>n/2 ^ 49%2 ^ 1
def qkm (n i:Nat):List Value:=(List.range 6).map fun j=>if j<i then N (fv n j)else I 0
set_option maxHeartbeats 3200000 in
def qkn (lo:Nat)(h:qab)(w:Int):qfU En lo Id.zbk [I w] h=some (unV (qkb w),h):=by
 have hF:=fun lo h=>qkl lo h
 by_cases hr:0<=w/\w<1125899906842624
 ·refine zzX (show ∃n:Nat,w=n from⟨w.toNat,by omega⟩) fun n hn => ?_
  subst hn
  have hn62:n<2 ^ 62:=by omega
  have g0:∀lo h,qfU En lo Id.zbz [N n,.agg #[I 0,I 20]] h=some (N (fv n 0),h):=fun lo h=>qj7 lo h (a:=0) (b:=20) (by decide) (by decide) hn62
  have g1:∀lo h,qfU En lo Id.zbz [N n,.agg #[I 20,I 20]] h=some (N (fv n 1),h):=fun lo h=>qj7 lo h (a:=20) (b:=20) (by decide) (by decide) hn62
  have g2:∀lo h,qfU En lo Id.zbz [N n,.agg #[I 40,I 4]] h=some (N (fv n 2),h):=fun lo h=>qj7 lo h (a:=40) (b:=4) (by decide) (by decide) hn62
  have g3:∀lo h,qfU En lo Id.zbz [N n,.agg #[I 44,I 4]] h=some (N (fv n 3),h):=fun lo h=>qj7 lo h (a:=44) (b:=4) (by decide) (by decide) hn62
  have g4:∀lo h,qfU En lo Id.zbz [N n,.agg #[I 48,I 1]] h=some (N (fv n 4),h):=fun lo h=>qj7 lo h (a:=48) (b:=1) (by decide) (by decide) hn62
  have g5:∀lo h,qfU En lo Id.zbz [N n,.agg #[I 49,I 1]] h=some (N (fv n 5),h):=fun lo h=>qj7 lo h (a:=49) (b:=1) (by decide) (by decide) hn62
  have hun:qkb (n:Int)=if(qka n).may then some (qka n)else none:=by
   unfold qkb
   rw [Int.toNat_natCast]
   by_cases hm:(qka n).may
   ·rw [if_pos ⟨by omega,by omega,hm⟩,if_pos hm]
   ·rw [if_neg (fun hh=>hm hh.2.2),if_neg hm]
  rw [hun]
  refine qgx rfl Fn.zbk rfl rfl ?_
  repeat' first|refine .A ?_|refine .B ?_|refine .D ?_|refine .F ?_|refine .G ?_|refine .f1 ?_|refine .f4 ?_|refine .P (hF _ _) ?_|refine .Y ?_|fail
  refine .loop (fun m f H=>∃i:Nat,m+i=6/\f = [(0,N n),(2,.agg Ent.zero.cs.toArray),(4,.pointer (some ⟨h.length,0,none⟩)),(15,.agg #[I 0,I 20,I 20,I 20,I 40,I 4,I 44,I 4,I 48,I 1,I 49,I 1]),(16,N i)]/\H=h ++ [.row (qkm n i) false]) (n:=6) ⟨0,rfl,rfl,rfl⟩ ?_
  rintro m f H ⟨i,hm,rfl,rfl⟩ next
  have hst:∀i,i<6->stN h.length (h ++ [.row (qkm n i) false]) ⟨h.length,0+i*1,none⟩ (qaf (N (fv n i)))=some (h ++ [.row (qkm n (i+1)) false]):=fun i hi=>by
   have e1:splice (qkm n i) (0+i*1) [N (fv n i)]=qkm n (i+1):=by
    match i,hi with
    | 0,_|1,_|2,_|3,_|4,_|5,_=>rfl
   have hcat:(h ++ [Blk.row (qkm n i) false])[h.length]? = some (.row (qkm n i) false):=zzC
   refine(qiE hcat (zzR _) (by show 0+i*1+1<=6;omega) e1).trans ?_
   exact congrArg some (by rw [List.set_append_right _ _ (zzR _),Nat.sub_self];rfl)
  by_cases hi:i<6
  ·have hs:=hst i hi
   match i,hi with
   | 0,_|1,_|2,_|3,_|4,_|5,_ =>
     repeat' first|refine .A ?_|refine .B ?_|refine .C ?_|refine .F ?_|refine .G ?_|refine .H ?_|refine .t1 ?_|refine .n2 ?_|(show EG _ _ (⟨_,.call _ _,_,_⟩::_) _ _ _ _ _ _;first|refine .P (g0 _ _) ?_|refine .P (g1 _ _) ?_|refine .P (g2 _ _) ?_|refine .P (g3 _ _) ?_|refine .P (g4 _ _) ?_|refine .P (g5 _ _) ?_)|refine .S hs ?_|refine .Y ?_|fail
     exact next (m-1) _ _ (by omega) ⟨_,by omega,rfl,rfl⟩
  ·have h6:i=6:=by omega
   subst h6
   have hld:∀j,j<6->qau (h ++ [.row (qkm n 6) false]) none ⟨h.length,0+j*1,none⟩=some (N (fv n j)):=fun j hj=>by
    refine qiC zzC ?_
    match j,hj with
    | 0,_|1,_|2,_|3,_|4,_|5,_=>rfl
   have l0:=hld 0 (by decide)
   have l1:=hld 1 (by decide)
   have l2:=hld 2 (by decide)
   have l3:=hld 3 (by decide)
   have l4:=hld 4 (by decide)
   have l5:=hld 5 (by decide)
   have hcs:(qka n).cs = [N (fv n 0),N (fv n 1),N (fv n 2),N (fv n 3),.bool (decide (fv n 4=1)),.bool (decide (fv n 5=1))]:=rfl
   have hE:=fun lo h=>qkj lo h (qka n)
   rw [hcs]at hE
   have fin:∀b4 b5:Bool,decide (fv n 4=1)=b4->decide (fv n 5=1)=b5->∀lo h,qfU En lo Id.zaY [.agg #[N (fv n 0),N (fv n 1),N (fv n 2),N (fv n 3),.bool b4,.bool b5]] h=some (.bool (decide (qka n).may),h):=fun b4 b5 e4 e5 lo h=>by
    subst e4 e5
    exact hE lo h
   have res:∀b4 b5:Bool,decide (fv n 4=1)=b4->decide (fv n 5=1)=b5->(qka n).cs = [N (fv n 0),N (fv n 1),N (fv n 2),N (fv n 3),.bool b4,.bool b5]:=fun b4 b5 e4 e5=>by
    subst e4 e5
    exact hcs
   by_cases h4:fv n 4=1<;>by_cases h5:fv n 5=1
   all_goals
    have hf:=fin _ _ rfl rfl
    have hr:=res _ _ rfl rfl
    first|rw [zzT h4]at hf hr|rw [zzF h4]at hf hr
    first|rw [zzT h5]at hf hr|rw [zzF h5]at hf hr
    by_cases hm:(qka n).may
    ·rw [zzT hm]at hf
     rw [if_pos hm]
     repeat' first|refine .A ?_|refine .B ?_|refine .D ?_|refine .F ?_|refine .I ?_|refine .J ?_|refine .f1 ?_|refine .t5 ?_|refine .f5 ?_|(show EG _ _ (⟨_,.load _ _,_,_⟩::_) _ _ _ _ _ _;first|refine .L l0 ?_|refine .L l1 ?_|refine .L l2 ?_|refine .L l3 ?_|refine .L l4 ?_|refine .L l5 ?_)|refine .P (hf _ _) ?_|refine .Y ?_|fail
     show _=some (Value.tuple #[.agg (qka n).cs.toArray,I 0],h)
     rw [hr]
     rfl
    ·rw [zzF hm]at hf
     rw [if_neg hm]
     repeat' first|refine .A ?_|refine .B ?_|refine .C ?_|refine .D ?_|refine .I ?_|refine .J ?_|refine .f1 ?_|refine .t5 ?_|refine .f5 ?_|(show EG _ _ (⟨_,.load _ _,_,_⟩::_) _ _ _ _ _ _;first|refine .L l0 ?_|refine .L l1 ?_|refine .L l2 ?_|refine .L l3 ?_|refine .L l4 ?_|refine .L l5 ?_)|refine .P (hf _ _) ?_|refine .F ?_|refine .Y ?_|fail
     rfl
 ·have hun:qkb w=none:=by unfold qkb;rw [if_neg (fun hh=>hr ⟨hh.1,hh.2.1⟩)]
  rw [hun]
  refine qgx rfl Fn.zbk rfl rfl ?_
  repeat' first|refine .A ?_|refine .B ?_|refine .C ?_|refine .D ?_|refine .F ?_|refine .J ?_|refine .k1 (fun hc => ?_) fun hc => ?_|refine .k4 (fun hc => ?_) fun hc => ?_|refine .Y ?_|fail
  all_goals first|rfl|(exfalso;omega)
def pkV (e:Ent):Value:=if e.may then .tuple #[N (qkc e),I 0]else .tuple #[I 0,I 1]
def qko (e:Ent):Nat->Nat
 | 0=>e.o.toNat
 | 1=>e.g.toNat
 | 2=>e.p.toNat
 | 3=>e.u.toNat
 | 4=>qj9 e.lk
 | _=>qj9 e.lv
def pw (e:Ent):Nat->Nat
 | 0=>0
 | 1=>0+qko e 0*2 ^ 0
 | 2=>0+qko e 0*2 ^ 0+qko e 1*2 ^ 20
 | 3=>0+qko e 0*2 ^ 0+qko e 1*2 ^ 20+qko e 2*2 ^ 40
 | 4=>0+qko e 0*2 ^ 0+qko e 1*2 ^ 20+qko e 2*2 ^ 40+qko e 3*2 ^ 44
 | 5=>0+qko e 0*2 ^ 0+qko e 1*2 ^ 20+qko e 2*2 ^ 40+qko e 3*2 ^ 44+qko e 4*2 ^ 48
 | _=>0+qko e 0*2 ^ 0+qko e 1*2 ^ 20+qko e 2*2 ^ 40+qko e 3*2 ^ 44+qko e 4*2 ^ 48+qko e 5*2 ^ 49
set_option maxHeartbeats 3200000 in
def qkp (lo:Nat)(h:qab)(e:Ent):qfU En lo Id.zbh [.agg e.cs.toArray] h=some (pkV e,h):=by
 have hF:=fun lo h=>qkl lo h
 have hE:=fun lo=>qkj lo h e
 unfold pkV
 by_cases hm:e.may
 ·rw [if_pos hm]
  rw [zzT hm]at hE
  have hm':=hm
  unfold Ent.may at hm'
  have b4:qj9 e.lk<=1:=by unfold qj9;split<;>decide
  have b5:qj9 e.lv<=1:=by unfold qj9;split<;>decide
  have hB4:=fun lo=>qkk lo h e.lk
  have hB5:=fun lo=>qkk lo h e.lv
  have i0:e.o=((qko e 0:Nat):Int):=by simp only [qko];omega
  have i1:e.g=((qko e 1:Nat):Int):=by simp only [qko];omega
  have i2:e.p=((qko e 2:Nat):Int):=by simp only [qko];omega
  have i3:e.u=((qko e 3:Nat):Int):=by simp only [qko];omega
  have v0:qko e 0<2 ^ 20:=by simp only [qko];omega
  have v1:qko e 1<2 ^ 20:=by simp only [qko];omega
  have v2:qko e 2<2 ^ 4:=by simp only [qko];omega
  have v3:qko e 3<2 ^ 4:=by simp only [qko];omega
  have v4:qko e 4<2 ^ 1:=by simp only [qko];omega
  have v5:qko e 5<2 ^ 1:=by simp only [qko];omega
  have p0:∀lo h,qfU En lo Id.zbA [N (pw e 0),.agg #[I 0,I 20],N (qko e 0)] h=some (.tuple #[N (pw e 1),I 0],h):=fun lo h=>qj8 lo h (a:=0) (b:=20) (by decide) (by decide) (by simp only [pw];omega) v0
  have p1:∀lo h,qfU En lo Id.zbA [N (pw e 1),.agg #[I 20,I 20],N (qko e 1)] h=some (.tuple #[N (pw e 2),I 0],h):=fun lo h=>qj8 lo h (a:=20) (b:=20) (by decide) (by decide) (by simp only [pw];omega) v1
  have p2:∀lo h,qfU En lo Id.zbA [N (pw e 2),.agg #[I 40,I 4],N (qko e 2)] h=some (.tuple #[N (pw e 3),I 0],h):=fun lo h=>qj8 lo h (a:=40) (b:=4) (by decide) (by decide) (by simp only [pw];omega) v2
  have p3:∀lo h,qfU En lo Id.zbA [N (pw e 3),.agg #[I 44,I 4],N (qko e 3)] h=some (.tuple #[N (pw e 4),I 0],h):=fun lo h=>qj8 lo h (a:=44) (b:=4) (by decide) (by decide) (by simp only [pw];omega) v3
  have p4:∀lo h,qfU En lo Id.zbA [N (pw e 4),.agg #[I 48,I 1],N (qko e 4)] h=some (.tuple #[N (pw e 5),I 0],h):=fun lo h=>qj8 lo h (a:=48) (b:=1) (by decide) (by decide) (by simp only [pw];omega) v4
  have p5:∀lo h,qfU En lo Id.zbA [N (pw e 5),.agg #[I 49,I 1],N (qko e 5)] h=some (.tuple #[N (pw e 6),I 0],h):=fun lo h=>qj8 lo h (a:=49) (b:=1) (by decide) (by decide) (by simp only [pw];omega) v5
  have hres:qkc e=pw e 6:=by unfold qkc;simp only [pw,qko];omega
  rw [hres]
  have hcs:e.cs = [N (qko e 0),N (qko e 1),N (qko e 2),N (qko e 3),.bool e.lk,.bool e.lv]:=by
   unfold Ent.cs
   rw [i0,i1,i2,i3]
  rw [hcs]at hE|-
  refine qgx rfl Fn.zbh rfl rfl ?_
  repeat' first|refine .A ?_|refine .B ?_|refine .D ?_|refine .F ?_|refine .G ?_|refine .C ?_|refine .P (hE _) ?_|refine .P (hB4 _) ?_|refine .P (hB5 _) ?_|refine .Y ?_|fail
  refine .loop (fun m f H=>∃i:Nat,m+i=6/\f = [(4,N (pw e i)),(24,.agg #[N (qko e 0),N (qko e 1),N (qko e 2),N (qko e 3),N (qko e 4),N (qko e 5)]),(25,N i)]/\H=h) (n:=6) ⟨0,rfl,rfl,rfl⟩ ?_
  rintro m f H ⟨i,hmi,rfl,rfl⟩ next
  by_cases hi:i<6
  ·match i,hi with
   | 0,_|1,_|2,_|3,_|4,_|5,_ =>
     repeat' first|refine .A ?_|refine .B ?_|refine .C ?_|refine .F ?_|refine .G ?_|refine .H ?_|refine .t1 ?_|refine .n2 ?_|(show EG _ _ (⟨_,.call _ _,_,_⟩::_) _ _ _ _ _ _;first|refine .P (hF _ _) ?_|refine .P (p0 _ _) ?_|refine .P (p1 _ _) ?_|refine .P (p2 _ _) ?_|refine .P (p3 _ _) ?_|refine .P (p4 _ _) ?_|refine .P (p5 _ _) ?_)|refine .Y ?_|fail
     exact next (m-1) _ _ (by omega) ⟨_,by omega,rfl,rfl⟩
  ·have h6:i=6:=by omega
   subst h6
   repeat' first|refine .A ?_|refine .B ?_|refine .D ?_|refine .I ?_|refine .J ?_|refine .f1 ?_|refine .F ?_|fail
   rfl
 ·rw [if_neg hm]
  rw [zzF hm]at hE
  refine qgx rfl Fn.zbh rfl rfl ?_
  repeat' first|refine .A ?_|refine .B ?_|refine .C ?_|refine .J ?_|refine .P (hE _) ?_|refine .F ?_|refine .Y ?_|fail
  rfl
def qkq (n:Int):Int:=(n+7)/8*8
def qkr (n:Int):Value:=if 1<=n/\n<=256 then .tuple #[I (qkq n),I 0]else .tuple #[I 0,I 9]
def qks (lo:Nat)(h:qab)(n:Int):qfU En lo Id.zbK [I n] h=some (qkr n,h):=by
 refine qgx rfl Fn.zbK rfl rfl ?_
 unfold qkr
 by_cases hr:1<=n/\n<=256
 ·rw [if_pos hr]
  refine zzX (show ∃k:Nat,n=k from⟨n.toNat,by omega⟩) fun k hk => ?_
  subst hk
  have hd:∀m:Nat,m%8=0->k<=m->m<k+8->qkq (k:Int)=(m:Int):=fun m h1 h2 h3=>by unfold qkq;omega
  rcases(show k%8=0\/k%8=1\/k%8=2\/k%8=3\/k%8=4\/k%8=5\/k%8=6\/k%8=7 by omega)with h8|h8|h8|h8|h8|h8|h8|h8
  all_goals
   repeat' first|refine .goto rfl rfl ?_|refine .A ?_|refine .B ?_|refine .C ?_|refine .D ?_|refine .F ?_|refine .scope ?_|refine .label ?_|refine .J ?_|(show EG _ _ (⟨_,.bin _ _ _,_,_⟩::_) _ _ _ _ _ _;first|refine .f1 ?_|refine .f3 ?_|refine .t5 ?_|refine .f5 ?_|refine .n2 ?_)|refine .remN (b:=8) rfl rfl rfl (by decide) ?_|refine .Y ?_|fail
   exact congrArg (fun z=>some (Value.tuple #[I z,I 0],h)) (hd _ (by omega) (by omega) (by omega)).symm
 ·rw [if_neg hr]
  repeat' first|refine .A ?_|refine .B ?_|refine .C ?_|refine .D ?_|refine .F ?_|refine .scope ?_|refine .label ?_|refine .J ?_|refine .k1 (fun hc => ?_) fun hc => ?_|refine .k3 (fun hc => ?_) fun hc => ?_|refine .k5 (fun hc => ?_) fun hc => ?_|refine .Y ?_|fail
  all_goals first|rfl|(exfalso;omega)
abbrev w64 (n:Int):Int:=IntKind.i64.wrap n
structure Chg (S:List Nat)(H H':qab):Prop where
 len:H.length<=H'.length
 same:∀j,j<H.length->j∉S->H'[j]? = H[j]?
def Chg.refl (S:List Nat)(H:qab):Chg S H H:=⟨zzR _,fun _ _ _=>rfl⟩
def Chg.of {S:List Nat}{H H':qab}(o:Only S H H'):Chg S H H':=⟨Nat.le_of_eq o.len.symm,fun j _ hj=>o.same j hj⟩
def Chg.trans {S:List Nat}{H H' H'':qab}(a:Chg S H H')(b:Chg S H' H''):Chg S H H'':=⟨Nat.le_trans a.len b.len,fun j hl hj=>(b.same j (Nat.lt_of_lt_of_le hl a.len) hj).trans (a.same j hl hj)⟩
def Chg.mono {S S':List Nat}{H H':qab}(a:Chg S H H')(h:∀i∈S,i∈S'):Chg S' H H':=⟨a.len,fun j hl hj=>a.same j hl fun hs=>hj (h j hs)⟩
def Chg.set {S:List Nat}{H H':qab}(a:Chg S H H'){i:Nat}{k:Blk}(hi:i∈S):Chg S H (H'.set i k):=⟨by rw [zzQ];exact a.len,fun j hl hj=>by rw [zzN (fun e=>hj (by rw [<-e];exact hi))];exact a.same j hl hj⟩
def Chg.app {S:List Nat}{H H':qab}(a:Chg S H H')(k:List Blk):Chg S H (H'++k):=⟨by rw [zzM];have:=a.len;omega,fun j hl hj=>by rw [zzA (Nat.lt_of_lt_of_le hl a.len)];exact a.same j hl hj⟩
def Chg.get {S:List Nat}{H H':qab}(a:Chg S H H'){i:Nat}{k:Blk}(h:H[i]? = some k)(hi:i∉S):H'[i]? = some k:=(a.same i (qiB h) hi).trans h
def IsC.yz {S:List Nat}{H H':qab}{c:CB}{ws bs:List Int}(hC:IsC H c ws bs)(a:Chg S H H')(h:c.P∉S/\c.W∉S/\c.Y∉S):IsC H' c ws bs:=by
 obtain⟨st,hp⟩:=hC.p
 exact⟨⟨st,a.get hp h.1⟩,a.get hC.w h.2.1,a.get hC.y h.2.2,hC.pw,hC.py,hC.wy,hC.byte⟩
abbrev qkt (b:Nat):Value := .pointer (some ⟨b,0,none⟩)
def qku {P:qab->Prop}{H1 H2:qab}{hs:List qab}(h1:P H1)(h2:P H2):∀h0∈(H1::H2::hs).take 2,P h0:=fun h0 hm=>by
 simp at hm
 rcases hm with rfl|rfl
 ·exact h1
 ·exact h2
def qkv (a:Int):qaP (I a) (I a)=true:=by simp [qaP,qaO]
def qkw (a b:Int):qaP (lay a b) (lay a b)=true:=by simp [lay,qaP,yO,qaO]
def IsC.app {H:qab}{cb:CB}{ws bs:List Int}(h:IsC H cb ws bs)(k:List Blk):IsC (H++k) cb ws bs:=h.yz (S := []) ((Chg.refl [] H).app k) (by simp)
end Go.Proofs.YtlgnnpkdhbhdgaaGreat
