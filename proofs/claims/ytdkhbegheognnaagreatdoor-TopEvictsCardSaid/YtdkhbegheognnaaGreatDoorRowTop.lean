/- THE ROW AND THE TIED CARD of TopEvicts: for every configuration, programs and picks that the row speaks of the law returns true and the arguments read as before. Condition: errors.errorType is as the program lays it (the card ties it). -/
import Derived.Test.YtdkhbegheognnaaGreatDoorJ23
import Derived.Test.YtdkhbegheognnaaGreatDoorLaid
import Derived.Test.YtdkhbegheognnaaGreatDoorTie
import Derived.Test.YtdkhbegheognnaaGreatDoorCards
import Derived.SizedLaws
import Derived.OpenShut
import Derived.ShutString
import Derived.ChangeOld
import Derived.ChangeAt
import Derived.Below
namespace Go.Proofs.YtdkhbegheognnaaGreatDoor.topEvicts
open Go Go.ChangeShapes Go.WideShapes Go.ChangeAt Go.RowKit
set_option linter.unusedVariables false
theorem laidOut : laidOutB Tryz.prog = true := by kernel_rfl
set_option maxHeartbeats 4000000 in
set_option maxRecDepth 100000 in
theorem lifted (os : Os) (started : os.Started) (H : Type) (enc : TypeId × Value → H) :
  ReturnsInHanded {} Tryz.checked os 3 .any (fun w args => (Rows.topEvictsSpec.pre enc Tryz.prog Tryz.f3 [] false w args ∧ laidMetH Tryz.prog Rows.topEvictsRow.laid w) ∧ sizedMet enc Tryz.prog Tryz.f3 (OpenSpec.ofChange Rows.topEvictsSpec) false w args)
   (Rows.topEvictsSpec.post enc Tryz.prog Tryz.f3 false true false false) := by
 refine returnsInHanded_of_change_and (C:=Tryz.checked) (X:=fun w _ => laidMetH Tryz.prog Rows.topEvictsRow.laid w) (fun _ _ _ hh h => h.of_heap hh) L.own started (by kernel_rfl) Tryz.func3
  (ChangeSpec.witness_at (enc:=enc) (C:=Tryz.checked) (os:=os) (X:=fun w _ => laidMetH Tryz.prog Rows.topEvictsRow.laid w) false (L.laidWorld os) #[.agg #[.int .i64 0,.int .i64 0,.int .i64 0,.int .i64 0,.int .i64 0,.int .i64 0],.slice none 0 0,.slice none 0 0] 8 rfl (by kernel_rfl) (by kernel_rfl) (by kernel_rfl) (by kernel_rfl) (by kernel_rfl) (L.laidWorld_met os _)) ?_
 intro W base args ds gs before hval0 hW _ hz hL _
 have hval : ∀ (j : Nat) t v,Tryz.f3.params[j]? = some t → args[j]? = some v → Value.okWide Tryz.prog W .any base t v := hval0
 have hW' := hW
 obtain ⟨p,q,hA0,hV0,rfl,hfz,hnd⟩ := hW
 have hA : DataW.TrodAll enc Tryz.prog W 0 (fun _ => true) true Tryz.f3.params.toList args.toList ds p := hA0
 have hV : DataW.TrodVars enc Tryz.prog W (fun _ => true) [] gs q := hV0
 rw [Tryz.params3] at hA hval
 obtain ⟨v0,vs0,d0,ds0,p0,q0,hargs,rfl,rfl,h0,r0⟩ := trodAll_cons hA
 obtain ⟨v1,vs1,d1,ds1,p1,q1,rfl,rfl,rfl,h1,r1⟩ := trodAll_cons r0
 obtain ⟨v2,vs2,d2,ds2,p2,q2,rfl,rfl,rfl,h2,r2⟩ := trodAll_cons r1
 obtain ⟨rfl,rfl,rfl⟩ := trodAll_nil r2
 obtain rfl : args = #[v0,v1,v2] := by cases args; simp_all
 obtain ⟨rfl,rfl⟩ : gs = [] ∧ q = [] := by
  cases gs with
  | nil => exact ⟨rfl,hV⟩
  | cons g r => exact absurd hV (by intro h; cases h)
 have hz' : ∀ n ∈ d1.weights Tryz.prog 24,n ≤ reachBytes := fun n hn => by
  have := List.all_eq_true.1 hz n (DataW.weights_mem_each (j:=1) (t:=24) (d:=d1) (by rw [Tryz.params3]; rfl) rfl n hn)
  simpa using this
 have k0 := h0
 have k1 := h1
 have k2 := h2
 have lt0 : ∀ x ∈ p0,x.block < W.heap.size := by obtain ⟨m,hm⟩ := k0; exact DataW.trod_lt m _ _ _ hm
 have lt1 : ∀ x ∈ p1,x.block < W.heap.size := by obtain ⟨m,hm⟩ := k1; exact DataW.trod_lt m _ _ _ hm
 have lt2 : ∀ x ∈ p2,x.block < W.heap.size := by obtain ⟨m,hm⟩ := k2; exact DataW.trod_lt m _ _ _ hm
 obtain ⟨c,rfl⟩ := _root_.Go.Proofs.YtdkhbegheognnaaGreatDoor.W.open_cfg (hval 0 23 v0 rfl rfl) h0
 obtain ⟨a1,len1,cap1,rfl⟩ := okWide_slice Tryz.underlying24 (hval 1 24 v1 rfl rfl)
 obtain ⟨a2,len2,cap2,rfl⟩ := okWide_slice Tryz.underlying25 (hval 2 25 v2 rfl rfl)
 obtain ⟨f1,hf1⟩ := h1
 obtain ⟨f2,hf2⟩ := h2
 obtain ⟨a,cp,ps,e1,hp,hc,hn,he,hk⟩ := _root_.Go.Proofs.YtdkhbegheognnaaGreatDoor.W.open_progs hf1 hz'
 obtain ⟨a3,c3,l,e2,hl⟩ := _root_.Go.Proofs.YtdkhbegheognnaaGreatDoor.W.open_picks hf2
 cases e1
 cases e2
 refine (_root_.Go.Proofs.YtdkhbegheognnaaGreatDoor.W.top_any c ⟨L.handle_of_laid hL,hp,hc,hn,he,hk,hl⟩).mono fun e W' ⟨he,bel⟩ => ?_
 subst he
 exact ⟨_,rfl,_,_,_,[],_,[],hW',trodAll_mk1 (shut_bool Tryz.underlying4 _),(trodAll_cons_mk (Below.trod laidOut (by kernel_rfl) (of_decide_eq_true (by kernel_rfl)) k0 bel lt0) (trodAll_cons_mk (Below.trod laidOut (by kernel_rfl) (of_decide_eq_true (by kernel_rfl)) k1 bel lt1) (trodAll_cons_mk (Below.trod laidOut (by kernel_rfl) (of_decide_eq_true (by kernel_rfl)) k2 bel lt2) trodAll_mk0))),rfl,bel.frame _,fun h => by cases h⟩
theorem over : Rows.topEvictsRow.holds Tryz.pinned (OpenSpec.ofChange Rows.topEvictsSpec) :=
 OpenClaim.holds_of_wide 3 Tryz.f3 rfl rfl rfl rfl rfl rfl rfl ⟨rfl,rfl,rfl,rfl,rfl⟩ rfl rfl rfl rfl rfl (by kernel_rfl) Tryz.func3 (by kernel_rfl)
  (of_decide_eq_true (by kernel_rfl)) (by unfold Func.isWrapper; first | (rw [if_pos (by decide +kernel)]; kernel_rfl) | (rw [if_neg (by decide +kernel)]; exact ⟨rfl,rfl⟩))
  (fun os started H enc _ => lifted os started H enc)
theorem proved : Rows.TopEvictsSaid := over
theorem card : Rows.TopEvictsCardSaid :=
 Claim7.holds_tied_plain_at .later [] [.handle] true Rows.topEvictsCard.stood.harness true
  proved (fun _ h => by cases h) (by kernel_rfl) (fun _ h => by cases h) topEvicts_row_tie rfl ⟨rfl,rfl⟩ (by kernel_rfl) rfl
  (fun f fn hf hfn => by
    obtain rfl : f = 3 := Option.some.inj ((show Tryz.prog.funcNamed "pantry/pantrytop.TopEvicts" = some 3 by kernel_rfl).symm.trans hf) |>.symm
    obtain rfl : fn = Tryz.f3 := (Option.some.inj (Tryz.func3.symm.trans hfn)).symm
    exact ⟨by kernel_rfl,fun j t ht => by
     rw [Tryz.params3] at ht
     rcases j with _ | _ | _ | j
     ·obtain rfl : t = 23 := by simpa using ht.symm
      exact (show Tryz.prog.wantsStandIn 23 = false by kernel_rfl)
     ·obtain rfl : t = 24 := by simpa using ht.symm
      exact (show Tryz.prog.wantsStandIn 24 = false by kernel_rfl)
     ·obtain rfl : t = 25 := by simpa using ht.symm
      exact (show Tryz.prog.wantsStandIn 25 = false by kernel_rfl)
     ·simp at ht⟩)
  (by kernel_rfl)
#print axioms card
end Go.Proofs.YtdkhbegheognnaaGreatDoor.topEvicts
namespace Go.Proofs.YtdkhbegheognnaaGreatDoor
theorem topEvicts_holds : Rows.TopEvictsCardSaid := topEvicts.card
end Go.Proofs.YtdkhbegheognnaaGreatDoor
