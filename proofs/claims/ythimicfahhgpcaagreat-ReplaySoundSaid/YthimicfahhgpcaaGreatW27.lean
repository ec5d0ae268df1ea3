/-
  Texts of this proof, one after the other.
  Conditions: none.
-/
import Derived.Test.YthimicfahhgpcaaGreatW26
set_option linter.unusedVariables false
set_option linter.unusedSimpArgs false
set_option maxRecDepth 100000
set_option maxHeartbeats 4000000
noncomputable section
variable{i j k m n b q:Nat}{x y z u w:Int}{h g:Go.Pv.Heap}{d l:List Go.Pv.IV}{A B C:List Go.M15.Nd}{K L:Y12}{p s t:Go.Pv.IV}{F:List Go.M10.E}{D:Go.Pv.Meta}{V W:List Go.Value}{U:Go.TypeId}{o:Bool}{X Y:Go.Value}{r e:Y11}{O:Go.Oper}{N:Y10}{H:Array Go.Value}
section
namespace Go.Proofs.YthimicfahhgpcaaGreat.replaySound
open Go.Pv Go.ChangeShapes Go.WideShapes Go.ChangeAt Go.RowKit
theorem d5N{xs:Y14}(h:OkC Tryz.prog 22 xs): ∃l:Y12,xs=[.vslice none 0 l.length 1 (l.map (IV.int .i64))]/\(∀a∈l,Go.M15.aU a)/\l.length<=9223372036854775807:=by
 obtain⟨n,cs,rfl,p,j⟩:=h.slice_inv Tryz.underlying22;obtain⟨l,rfl,rfl,m⟩:=j.ints Tryz.underlying3;have e:Tryz.prog.cellsOf 3=1:=by kernel_rfl
 exact⟨l,by rw [e],fun a g=>qW (m a g),by unfold maxLen at p;omega⟩
theorem c9N(os:Os)(j:os.Started)(H:Type)(enc:TypeId×Value->H):
  ReturnsInHanded {} Tryz.checked os 3 .any (Rows.replaySoundSpec.pre6 enc Tryz.prog Tryz.f3 Rows.replaySoundRow.domain false) (Rows.replaySoundSpec.post enc Tryz.prog Tryz.f3 false true false false):=by
 refine returnsInHanded_of_change (C:=Tryz.checked) (s:=Rows.replaySoundSpec) own j (by kernel_rfl) Tryz.func3
  (ChangeSpec.witness6 (enc:=enc) (C:=Tryz.checked) (s:=Rows.replaySoundSpec) false ⟨#[],#[.slice none 0 0,.slice none 0 0,.int .i64 0,.int .i64 0,.int .i64 0,.int .i64 0,.int .i64 0,.int .i64 0],[]⟩ 8 (by kernel_rfl) (by kernel_rfl) (by kernel_rfl) (by kernel_rfl)) ?_
 intro W base args ds gs A g hW _ _;have X:=hW;obtain⟨p,q,l,hV,rfl,b0,b1⟩:=hW;have hA:DataW.TrodAll enc Tryz.prog W 0 (fun _=>true) true Tryz.f3.params.toList args.toList ds p:=l;rw [Tryz.params3]at hA;obtain⟨v0,c5,d0,a2,p0,q0,e0,f0,g0,a0,l⟩:=trodAll_cons hA;obtain⟨v1,c6,d1,a3,p1,q1,e1,f1,g1,a1,D⟩:=trodAll_cons l;obtain⟨v2,c7,d2,a4,p2,q2,e2,f2,g2,b9,G⟩:=trodAll_cons D;obtain⟨v3,c8,d3,a5,p3,q3,e3,f3,g3,c0,K⟩:=trodAll_cons G;obtain⟨v4,c9,d4,a6,p4,q4,e4,f4,g4,c1,L⟩:=trodAll_cons K;obtain⟨v5,d8,d5,a7,p5,q5,e5,f5,g5,c2,O⟩:=trodAll_cons L;obtain⟨v6,d9,d6,a8,p6,q6,e6,f6,g6,c3,R⟩:=trodAll_cons O;obtain⟨v7,e8,d7,a9,p7,q7,e7,f7,g7,c4,V⟩:=trodAll_cons R;obtain⟨ez,rfl,rfl⟩:=trodAll_nil V;subst ez;subst f7;subst e7;subst f6;subst e6;subst f5;subst e5;subst f4;subst e4;subst f3;subst e3;subst f2;subst e2;subst f1;subst e1;subst f0;obtain rfl:args= #[v0,v1,v2,v3,v4,v5,v6,v7]:=by cases args;simp_all
 obtain⟨e9,Y,vr0⟩:=a3M (P:=Tryz.prog) 8 (by kernel_rfl) (g 0 22 v0 (by kernel_rfl) rfl) a0;obtain⟨y,rfl,m⟩:=d5N Y;have w0:=vr0 (.vslice none 0 y.length 1 (y.map (IV.int .i64))) (by kernel_rfl);obtain⟨f8,Z,vr1⟩:=a3M (P:=Tryz.prog) 8 (by kernel_rfl) (g 1 22 v1 (by kernel_rfl) rfl) a1;obtain⟨z,rfl,r⟩:=d5N Z;have w1:=vr1 (.vslice none 0 z.length 1 (z.map (IV.int .i64))) (by kernel_rfl);obtain⟨n2,rfl,b2⟩:=uD Tryz.underlying3 (g 2 3 v2 (by kernel_rfl) rfl);have r2:=qW b2;obtain⟨n3,rfl,b3⟩:=uD Tryz.underlying3 (g 3 3 v3 (by kernel_rfl) rfl);have r3:=qW b3;obtain⟨n4,rfl,b4⟩:=uD Tryz.underlying3 (g 4 3 v4 (by kernel_rfl) rfl);have r4:=qW b4;obtain⟨n5,rfl,b5⟩:=uD Tryz.underlying3 (g 5 3 v5 (by kernel_rfl) rfl);have r5:=qW b5;obtain⟨n6,rfl,b6⟩:=uD Tryz.underlying3 (g 6 3 v6 (by kernel_rfl) rfl);have r6:=qW b6;obtain⟨n7,rfl,b7⟩:=uD Tryz.underlying2 (g 7 2 v7 (by kernel_rfl) rfl);have r7:=qW b7;obtain⟨rfl,rfl⟩:=trodVars_none hV;have hc:aL env 3 [.vslice none 0 y.length 1 (y.map (IV.int .i64)),.vslice none 0 z.length 1 (z.map (IV.int .i64)),.int .i64 n2,.int .i64 n3,.int .i64 n4,.int .i64 n5,.int .i64 n6,.int .i64 n7] Heap.empty fun v _=>v= .bool true:=d7X _ _ _ ⟨y,z,⟨rfl,rfl,rfl,rfl⟩,⟨m.1,m.2,r.1,r.2,r2,r3,r4,r7⟩,rfl⟩
 refine(a1N (E:=env) a5W d5W hc W (rs:=[v0,v1,.int .i64 n2,.int .i64 n3,.int .i64 n4,.int .i64 n5,.int .i64 n6,.int .i64 n7]) (e1U W) (cO.cons w0 (cO.cons w1 (cO.cons (.int _ _) (cO.cons (.int _ _) (cO.cons (.int _ _) (cO.cons (.int _ _) (cO.cons (.int _ _) (cO.cons (.int _ _) (cO.nil _)))))))))).mono fun e W' ⟨he,hb⟩=>?_
 exact⟨_,he,W8 (tb:=4) b9D (by kernel_rfl) (by kernel_rfl) Tryz.underlying4 X rfl hb rfl rfl rfl⟩
theorem over:Rows.replaySoundRow.holds Tryz.pinned (OpenSpec.ofChange Rows.replaySoundSpec):=
 OpenClaim.holds_of_wide 3 Tryz.f3 rfl rfl rfl rfl rfl rfl rfl ⟨rfl,rfl,rfl,rfl,rfl⟩ rfl rfl rfl rfl rfl (by kernel_rfl) Tryz.func3 (by kernel_rfl)
  (of_decide_eq_true (by kernel_rfl)) (by unfold Func.isWrapper;first| (rw [if_pos (by decide+kernel)];kernel_rfl)| (rw [if_neg (by decide+kernel)];exact⟨rfl,rfl⟩))
  (fun j g H enc _=>c9N j g H enc)
theorem proved:Rows.ReplaySoundSaid:=
 over
end Go.Proofs.YthimicfahhgpcaaGreat.replaySound
end
end
