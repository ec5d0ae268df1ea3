/-
  Texts of this proof, one after the other.
  Conditions: none.
-/
import Derived.Test.YtkonebkblgemkaaGreatW16
set_option linter.unusedVariables false
set_option linter.unusedSimpArgs false
set_option maxRecDepth 100000
set_option maxHeartbeats 4000000
noncomputable section
variable{i j m b:Nat}{x y z u v:Int}{h g:Go.Pv.Heap}{c d l:List Go.Pv.IV}{A B C:List Go.M15.Nd}{K L:Y12}{s t:Go.Pv.IV}{F:List Go.M10.E}{D:Go.Pv.Meta}{V W:List Go.Value}{T U:Go.TypeId}{o:Bool}{X Y:Go.Value}{r:Y11}{G:Go.M10.BSt}{O:Go.Oper}{N:Y10}{H:Array Go.Value}
section
namespace Go.Proofs.YtkonebkblgemkaaGreat.analysisReference
open Go.Pv Go.ChangeShapes Go.WideShapes Go.ChangeAt Go.RowKit
theorem e7J{xs:Y14}(h:OkC Tryz.prog 22 xs): ∃l:Y12,xs=[.vslice none 0 l.length 1 (l.map (IV.int .i64))]/\(∀a∈l,Go.M15.bE a)/\l.length<=9223372036854775807:=by
 obtain⟨n,cs,rfl,m,i⟩:=h.slice_inv Tryz.underlying22;obtain⟨l,rfl,rfl,j⟩:=i.ints Tryz.underlying3;have e:Tryz.prog.cellsOf 3=1:=by kernel_rfl
 exact⟨l,by rw [e],λa g=>G1 (j a g),by unfold maxLen at m;omega⟩
theorem f4F{xs:Y14}(h:OkC Tryz.prog 54 xs): ∃g i:Int,xs=[.int .i64 g,.int .i64 i]/\IntKind.i64.has g/\IntKind.i64.has i:=by
 have h0:=h.struct_inv Tryz.underlying54;obtain⟨y,A,e0,j,h1⟩:=OkF.cons_inv h0;obtain⟨g,rfl,m⟩:=j.int_inv Tryz.underlying2;obtain⟨z,D,u,l,h2⟩:=OkF.cons_inv h1;obtain⟨i,rfl,r⟩:=l.int_inv Tryz.underlying2;obtain rfl:=OkF.nil_inv h2;subst u;subst e0;exact⟨g,i,rfl,m,r⟩
theorem f4E{xs:Y14}(h:OkC Tryz.prog 60 xs): ∃H:List (Int×Int),xs=[.vslice none 0 H.length 2 (H.flatMap Go.M14.cR)]/\∀r∈H,Go.M14.cF r:=by
 obtain⟨n,cs,rfl,z,j⟩:=h.slice_inv Tryz.underlying60;obtain⟨H,rfl,rfl,l⟩:=j.list (c:=Go.M14.cR) (good:=λr=>Go.M14.cF r) (λA m=>by
  obtain⟨u,y,rfl,g,i⟩:=f4F m;exact⟨(u,y),rfl,G1 g,G1 i⟩)
 have e:Tryz.prog.cellsOf 54=2:=by kernel_rfl
 exact⟨H,by rw [e],l⟩
theorem e0Z(os:Os)(j:os.Started)(H:Type)(enc:TypeId×Value->H):
  ReturnsInHanded {} Tryz.checked os 6 .any (Rows.analysisReferenceSpec.pre6 enc Tryz.prog Tryz.f6 Rows.analysisReferenceRow.domain false) (Rows.analysisReferenceSpec.post enc Tryz.prog Tryz.f6 false true false false):=by
 refine returnsInHanded_of_change (C:=Tryz.checked) (s:=Rows.analysisReferenceSpec) own j (by kernel_rfl) Tryz.func6
  (ChangeSpec.witness6 (enc:=enc) (C:=Tryz.checked) (s:=Rows.analysisReferenceSpec) false ⟨#[],#[.slice none 0 0,.int .i64 0,.int .i64 0,.slice none 0 0,.slice none 0 0],[]⟩ 8 (by kernel_rfl) (by kernel_rfl) (by kernel_rfl) (by kernel_rfl)) ?_
 intro W base i ds gs A g hW _ _;have O:=hW;obtain⟨p,q,l,hV,rfl,a8,a9⟩:=hW;have hA:DataW.TrodAll enc Tryz.prog W 0 (λ_=>true) true Tryz.f6.params.toList i.toList ds p:=l;rw [Tryz.params6]at hA;obtain⟨v0,b4,d0,a3,p0,q0,e0,f0,g0,Y,l⟩:=trodAll_cons hA;obtain⟨v1,b5,d1,a4,p1,q1,e1,f1,g1,b0,D⟩:=trodAll_cons l;obtain⟨v2,b6,d2,a5,p2,q2,e2,f2,g2,b3,G⟩:=trodAll_cons D;obtain⟨v3,b7,d3,a6,p3,q3,e3,f3,g3,Z,K⟩:=trodAll_cons G;obtain⟨v4,b8,d4,a7,p4,q4,e4,f4,g4,a0,L⟩:=trodAll_cons K;obtain⟨ez,rfl,rfl⟩:=trodAll_nil L;subst ez;subst f4;subst e4;subst f3;subst e3;subst f2;subst e2;subst f1;subst e1;subst f0;obtain rfl:i= #[v0,v1,v2,v3,v4]:=by cases i;simp_all
 obtain⟨b9,T,vr0⟩:=a0I (P:=Tryz.prog) 8 (by kernel_rfl) (g 0 22 v0 (by kernel_rfl) rfl) Y;obtain⟨y,rfl,r⟩:=e7J T;have w0:=vr0 (.vslice none 0 y.length 1 (y.map (IV.int .i64))) (by kernel_rfl);obtain⟨n1,rfl,b1⟩:=a6U Tryz.underlying3 (g 1 3 v1 (by kernel_rfl) rfl);have r1:=G1 b1;obtain⟨n2,rfl,b2⟩:=a6U Tryz.underlying3 (g 2 3 v2 (by kernel_rfl) rfl);have r2:=G1 b2;obtain⟨c0,V,a1⟩:=a0I (P:=Tryz.prog) 8 (by kernel_rfl) (g 3 22 v3 (by kernel_rfl) rfl) Z;obtain⟨z,rfl,u⟩:=e7J V;have w3:=a1 (.vslice none 0 z.length 1 (z.map (IV.int .i64))) (by kernel_rfl);obtain⟨c1,X,a2⟩:=a0I (P:=Tryz.prog) 8 (by kernel_rfl) (g 4 60 v4 (by kernel_rfl) rfl) a0;obtain⟨m,rfl,R⟩:=f4E X;have w4:=a2 (.vslice none 0 m.length 2 (m.flatMap Go.M14.cR)) (by kernel_rfl);obtain⟨rfl,rfl⟩:=trodVars_none hV;have hc:aM env 6 [.vslice none 0 y.length 1 (y.map (IV.int .i64)),.int .i64 n1,.int .i64 n2,.vslice none 0 z.length 1 (z.map (IV.int .i64)),.vslice none 0 m.length 2 (m.flatMap Go.M14.cR)] Heap.empty λv _=>v= .bool true:=f0T _ _ _ ⟨y,z,m,⟨rfl,rfl,rfl,rfl,rfl,rfl⟩,⟨r.1,r.2,u.1,u.2,⟨r1,r2⟩,R⟩,rfl⟩
 refine(b2M (E:=env) b7H e8A hc W (rs:=[v0,.int .i64 n1,.int .i64 n2,v3,v4]) (f4H W) (cU.cons w0 (cU.cons (.int _ _) (cU.cons (.int _ _) (cU.cons w3 (cU.cons w4 (cU.nil _))))))).mono λe W' ⟨he,hb⟩=>?_
 exact⟨_,he,Ma (tb:=4) c8J (by kernel_rfl) (by kernel_rfl) Tryz.underlying4 O rfl hb rfl rfl rfl⟩
theorem over:Rows.analysisReferenceRow.holds Tryz.pinned (OpenSpec.ofChange Rows.analysisReferenceSpec):=
 OpenClaim.holds_of_wide 6 Tryz.f6 rfl rfl rfl rfl rfl rfl rfl ⟨rfl,rfl,rfl,rfl,rfl⟩ rfl rfl rfl rfl rfl (by kernel_rfl) Tryz.func6 (by kernel_rfl)
  (of_decide_eq_true (by kernel_rfl)) (by unfold Func.isWrapper;first| (rw [if_pos (by decide+kernel)];kernel_rfl)| (rw [if_neg (by decide+kernel)];exact⟨rfl,rfl⟩))
  (λi g H enc _=>e0Z i g H enc)
theorem proved:Rows.AnalysisReferenceSaid:=
 over
end Go.Proofs.YtkonebkblgemkaaGreat.analysisReference
end
end
