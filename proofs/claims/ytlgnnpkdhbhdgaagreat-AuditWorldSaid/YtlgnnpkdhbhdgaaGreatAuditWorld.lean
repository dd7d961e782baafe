/- 'Rows.AuditWorldSaid' ('sidings/sidingslaw21.AuditWorld'): for every input it returns true, and its arguments read as before. No condition. -/
import Derived.Test.YtlgnnpkdhbhdgaaGreatRows
import Derived.WalkKit
import Derived.ProofKit
import Derived.OpenShut
import Derived.SizedLaws
import Derived.Test.YtlgnnpkdhbhdgaaGreatSoundS
set_option linter.all false
namespace Go.Proofs.YtlgnnpkdhbhdgaaGreat.auditWorld
open Go Go.Ir Go.ChangeShapes Go.WideShapes Go.ChangeAt Go.RowKit
theorem own:ownKnob Tryz.prog.godebug=none:=by kernel_rfl
set_option maxRecDepth 100000 in
theorem lifted (os:Os)(started:os.Started)(H:Type)(enc:TypeId×Value->H) :
  ReturnsInHanded {} Tryz.checked os 3 .any (Rows.auditWorldSpec.pre6 enc Tryz.prog Tryz.f3 Rows.auditWorldRow.domain false) (Rows.auditWorldSpec.post enc Tryz.prog Tryz.f3 false true false false):=by
 refine returnsInHanded_of_change_sized (C:=Tryz.checked) own started (by kernel_rfl) Tryz.func3
  (ChangeSpec.witness6 (enc:=enc) (C:=Tryz.checked) false ⟨#[],#[.agg #[.int .i64 0,.int .i64 0,.int .i64 0],.slice none 0 0,.slice none 0 0],[]⟩ 8 (by kernel_rfl) (by kernel_rfl) (by kernel_rfl) (by kernel_rfl)) ?_
 intro W base args ds gs before hval0 hW hcnd hsz _
 have hval:∀(j:Nat) t v,Tryz.f3.params[j]? = some t->args[j]? = some v->Value.okWide Tryz.prog W .any base t v:=hval0
 have hW':=hW
 have hlt:=fun p hp=>hW.lt p hp
 obtain⟨p,q,hA0,hV,rfl,hfz,hnd⟩:=hW
 have hA:DataW.TrodAll enc Tryz.prog W 0 (fun _=>true) true Tryz.f3.params.toList args.toList ds p:=hA0
 rw [Tryz.params3]at hA hval
 obtain⟨v0,vs0,d0,ds0,p0,q0,hargs,rfl,rfl,h0,r0⟩:=trodAll_cons hA
 obtain⟨v1,vs1,d1,ds1,p1,q1,rfl,rfl,rfl,h1,r1⟩:=trodAll_cons r0
 obtain⟨v2,vs2,d2,ds2,p2,q2,rfl,rfl,rfl,h2,r2⟩:=trodAll_cons r1
 obtain⟨rfl,rfl,rfl⟩:=trodAll_nil r2
 obtain rfl:args = #[v0,v1,v2]:=by cases args;simp_all
 obtain⟨rfl,rfl⟩:=trodVars_none hV
 obtain⟨c0,rfl⟩:=qtp (hval 0 23 v0 rfl rfl) h0
 obtain⟨E1,hp1,b1,l1,s1,le1,ro1,ex1,vr1,pg1,bd1⟩:=qww hsz (j:=1) (qgn W) qiI (by rw [Tryz.params3];rfl) rfl (hval 1 24 v1 rfl rfl) h1
 obtain⟨E2,hp2,b2,l2,s2,le2,ro2,ex2,vr2,sl2,ti2⟩:=qwv s1 ro1 (hval 2 25 v2 rfl rfl) h2
 clear hA0 hval0 hsz
 simp only [List.append_nil]at hW' hlt
 obtain⟨h',hr⟩:=qwn c0 (pg1.ext ex2) sl2 bd1
 refine(qix qtl qtj (cs := #[.agg (Cfg.cs c0).toArray,v1,v2]) s2 (.cons _ _ _ _ (VR.flat rfl) (.cons _ _ _ _ (VR.mono le2 vr1) (.cons _ _ _ _ vr2 .nil))) hr).mono fun e W' ⟨he,hg⟩ => ?_
 subst he
 have t0:=Below.trod (by kernel_rfl) (by kernel_rfl) (by decide +kernel) h0 hg (fun x hx=>hlt x (by simp [hx]))
 have t1:=Below.trod (by kernel_rfl) (by kernel_rfl) (by decide +kernel) h1 hg (fun x hx=>hlt x (by simp [hx]))
 have t2:=Below.trod (by kernel_rfl) (by kernel_rfl) (by decide +kernel) h2 hg (fun x hx=>hlt x (by simp [hx]))
 exact⟨_,rfl,qiw (pa:=p0++p1++p2) (pv := []) hW' (fun _ _ _=>(trodAll_cons_mk (shut_bool Tryz.underlying4 _) trodAll_mk0))
  (by have:=(trodAll_cons_mk t0 (trodAll_cons_mk t1 (trodAll_cons_mk t2 trodAll_mk0)));have hh:DataW.TrodAll enc Tryz.prog W' 0 (fun b=>decide (b<W.heap.size)) true [23,24,25] [.agg (Cfg.cs c0).toArray,v1,v2] [d0,d1,d2] (p0++p1++p2):=(by simpa using this);exact hh) (fun _ _=>rfl) (by simp) (hg.frame _)⟩
theorem over:Rows.auditWorldRow.holds Tryz.pinned (OpenSpec.ofChange Rows.auditWorldSpec) :=
 OpenClaim.holds_of_wide 3 Tryz.f3 rfl rfl rfl rfl rfl rfl rfl ⟨rfl,rfl,rfl,rfl,rfl⟩ rfl rfl rfl rfl rfl (by kernel_rfl) Tryz.func3 (by kernel_rfl)
  (of_decide_eq_true (by kernel_rfl)) (by unfold Func.isWrapper;first|(rw [if_pos (by decide +kernel)];kernel_rfl)|(rw [if_neg (by decide +kernel)];exact⟨rfl,rfl⟩))
  (fun os started H enc _=>lifted os started H enc)
theorem holds:Rows.AuditWorldSaid:=over
end Go.Proofs.YtlgnnpkdhbhdgaaGreat.auditWorld
