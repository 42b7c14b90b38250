/- DceIdle answers true for every two numbers, and leaves what was there as it was. No condition. -/
import Derived.Test.YtplblmhnccdgcaaGreatIdleR0
import Derived.Test.YtplblmhnccdgcaaGreatIdleR1
import Derived.Test.YtplblmhnccdgcaaGreatIdleR2
import Derived.Test.YtplblmhnccdgcaaGreatIdleR3
import Derived.Test.YtplblmhnccdgcaaGreatIdleR4
import Derived.Test.YtplblmhnccdgcaaGreatRows
import Derived.ProofKit
import Derived.IntWalk
import Derived.Below
namespace Go.Proofs.YtplblmhnccdgcaaGreat
open Go.ChangeShapes Go.WideShapes Go.ChangeAt Go.RowKit
/-! ### from the abstract machine's run to a call -/
namespace AM
/-- the last 8 bits, as a number -/
def low8 (a : Int) : Int := ((BitVec.ofInt 64 (IntKind.i64.wrap a) &&& BitVec.ofInt 64 255).toNat : Int)
theorem low8_in (a : Int) : 0 ≤ low8 a ∧ low8 a ≤ 255 := by
  unfold low8
  have h : (BitVec.ofInt 64 (IntKind.i64.wrap a) &&& BitVec.ofInt 64 255).toNat ≤ 255 := by
    rw [BitVec.toNat_and]
    exact Nat.le_trans Nat.and_le_right (by decide)
  omega
theorem low8_wrap (a : Int) : IntKind.i64.wrap (low8 a) = low8 a := by
  have := low8_in a
  exact IntWalk.i64_in _ (by omega)
theorem low8_run (P : Program) (t : TypeId) (w : World) (a : Int) : (binOp .and t (.int .i64 (IntKind.i64.wrap a)) (.int .i64 255)).run P w = .ok (.int .i64 (IntKind.i64.wrap (low8 a))) w := by
  rw [binOp_and]
  rfl
theorem rest_run (P : Program) (t : TypeId) (w : World) (x : Int) : (binOp .rem t (.int .i64 x) (.int .i64 5)).run P w = .ok (.int .i64 (x.tmod 5)) w := by
  rw [binOp_rem]
  rfl
def symV (a b : Int) : Nat → Int
  | 0 => a
  | 1 => b
  | 2 => low8 a
  | 3 => low8 b
  | _ => 0
theorem symI_ok (a b : Int) : SymOKs (symV a b) (symI ((low8 a).tmod 5) ((low8 b).tmod 5)) := by
  intro Z
  refine ⟨fun i p h => (by cases h), fun op i n v h P t w => ?_⟩
  unfold symI at h
  simp only at h
  split at h
  · injection h with h; subst h
    exact ⟨_, low8_run P t w a, fun π N => .sym 2 0⟩
  · injection h with h; subst h
    exact ⟨_, low8_run P t w b, fun π N => .sym 3 0⟩
  · injection h with h; subst h
    refine ⟨_, rest_run P t w _, fun π N => ?_⟩
    show VR _ π N _ (.int .i64 ((IntKind.i64.wrap (low8 a)).tmod 5))
    rw [low8_wrap]; exact .int _ _
  · injection h with h; subst h
    refine ⟨_, rest_run P t w _, fun π N => ?_⟩
    show VR _ π N _ (.int .i64 ((IntKind.i64.wrap (low8 b)).tmod 5))
    rw [low8_wrap]; exact .int _ _
  · cases h
theorem runI_all (r q : Int) (h1 : 0 ≤ r ∧ r ≤ 4) (h2 : 0 ≤ q ∧ q ≤ 4) : runI r q = true := by
  obtain ⟨a1, a2⟩ := h1
  obtain ⟨b1, b2⟩ := h2
  have hr : r = 0 ∨ r = 1 ∨ r = 2 ∨ r = 3 ∨ r = 4 := by omega
  have hq : q = 0 ∨ q = 1 ∨ q = 2 ∨ q = 3 ∨ q = 4 := by omega
  rcases hr with rfl | rfl | rfl | rfl | rfl <;> rcases hq with rfl | rfl | rfl | rfl | rfl
  · exact runI00
  · exact runI01
  · exact runI02
  · exact runI03
  · exact runI04
  · exact runI10
  · exact runI11
  · exact runI12
  · exact runI13
  · exact runI14
  · exact runI20
  · exact runI21
  · exact runI22
  · exact runI23
  · exact runI24
  · exact runI30
  · exact runI31
  · exact runI32
  · exact runI33
  · exact runI34
  · exact runI40
  · exact runI41
  · exact runI42
  · exact runI43
  · exact runI44
theorem tmod5 (a : Int) : 0 ≤ (low8 a).tmod 5 ∧ (low8 a).tmod 5 ≤ 4 := by
  have h := low8_in a
  have e : (low8 a).tmod 5 = low8 a % 5 := Int.tmod_eq_emod_of_nonneg h.1
  rw [e]; omega
theorem mixed : Tryz.prog.follows .mixedOrders = true := Tryz.checked.mixed
theorem first14_call (v : Nat → Int) : CallOKs v Tryz.prog (oneF 14 (.bool true)) := by
  obtain ⟨h1, e⟩ := okB_ok first14
  have hs : SymOKs v ⟨fun _ => none, fun _ _ _ => none⟩ := fun Z => ⟨fun i p h => (by cases h), fun op i n v h => (by cases h)⟩
  exact oneF_ok (sound mixed tyOk fnOk hs (noF_ok _ _) noF_keep 100000 60) e rfl
theorem idle_call (a b : Int) (wa : IntKind.i64.wrap a = a) (wb : IntKind.i64.wrap b = b) (w : World) : Calls Tryz.prog 5 #[.int .i64 a, .int .i64 b] w fun e w' => e = .returned (.bool true) ∧ Below w.heap.size w w' := by
  have hrun := runI_all _ _ (tmod5 a) (tmod5 b)
  obtain ⟨h1, e⟩ := okB_ok hrun
  have hT : TabTy Tryz.prog tab14 := fun t ti h => AllT.get tyOk h
  have hF : TabFn Tryz.prog tab14 := fun k fn h => AllT.del fnOk 14 k fn h
  have hc := callF_ok hT hF (symI_ok a b) (first14_call (symV a b)) 100000 (fun d hc Z => draw_ok (val := ⟨symV a b, Z⟩) mixed hT (symI_ok a b) hc (callF_keep (oneF_keep 14 (.bool true)) 100000 d)) 60
  obtain ⟨_, hC⟩ := hc (fun _ => False) _ _ _ _ _ e
  refine (hC (fun _ => ⟨0, 0, 0⟩) w #[.int .i64 a, .int .i64 b] ?_ ⟨fun n o hn => (by cases hn), fun n hn => False.elim hn, fun n o hn => (by cases hn), fun n m o o' _ hn => (by cases hn)⟩).mono ?_
  · refine .cons ?_ (.cons ?_ .nil)
    · have := VR.sym (val := ⟨symV a b, fun _ => False⟩) (π := fun _ => ⟨0, 0, 0⟩) (N := 0) 0 0
      have e0 : IntKind.i64.wrap ((⟨symV a b, fun _ => False⟩ : Cx).val 0 + 0) = a := by rw [Int.add_zero]; exact wa
      rwa [e0] at this
    · have := VR.sym (val := ⟨symV a b, fun _ => False⟩) (π := fun _ => ⟨0, 0, 0⟩) (N := 0) 1 0
      have e0 : IntKind.i64.wrap ((⟨symV a b, fun _ => False⟩ : Cx).val 1 + 0) = b := by rw [Int.add_zero]; exact wb
      rwa [e0] at this
  · rintro e w' ⟨V, rfl, _, π', hV, hS⟩
    refine ⟨by rw [hV.bool_inv], hS.os, hS.tape, hS.output, hS.size, fun k hk => ?_⟩
    rcases hS.blk k hk with h | ⟨n, hn, _⟩
    · exact h
    · exact absurd hn.1 (Nat.not_lt_zero n)
end AM

/-! ### the row's last step, where nothing that was there has changed -/
section
variable {H : Type} {enc : TypeId × Value → H} {P : Program}
theorem post_of_below {f : Func} {s : ChangeSpec} {apart fresh handsOn again : Bool} {W W' : World} {args : Array Value} {v : Value} {ds gs : List (DataW H)} {before pa pv : List MemPlace}
    (hW : DataW.Whole enc P f.params.toList s.vars apart W args.toList ds gs before)
    (hres : ∀ (b : Nat) (sp : Nat → Bool) (hd : Bool), DataW.TrodAll enc P W' b sp hd f.resultTypes.toList (v.resultList f.resultTypes.size) (s.fn H (ds ++ gs)).results [])
    (hargs : ∀ sp : Nat → Bool, (∀ p ∈ before, sp p.block = true) → DataW.TrodAll enc P W' 0 sp true f.params.toList args.toList (s.fn H (ds ++ gs)).args pa)
    (hvars : ∀ sp : Nat → Bool, (∀ p ∈ before, sp p.block = true) → DataW.TrodVars enc P W' sp s.vars (s.fn H (ds ++ gs)).vars pv)
    (hps : before = pa ++ pv) (hb : Below W.heap.size W W')
    (hok : ∀ (j : Nat) (t : TypeId) (r : Value), f.resultTypes[j]? = some t → (v.resultList f.resultTypes.size)[j]? = some r → Value.okWide P W' .any 0 t r) :
    s.post enc P f apart fresh handsOn again W args v W' := by
  have hlt : ∀ p ∈ before, p.block < W.heap.size := fun p hp => hW.lt p hp
  have hold : ∀ p ∈ before, (fun b => decide (b < W.heap.size)) p.block = true := fun p hp => by simpa using hlt p hp
  refine ⟨ds, gs, before, [], pa, pv, hW, hres _ _ _, hargs _ hold, hvars _ hold, World.keptBut_mono (fun p hp => ⟨hp, ?_⟩) (hb.frame (· ∈ before)), fun _ => ?_⟩
  · rw [hps, List.mem_append] at hp
    exact Or.inr hp
  · obtain ⟨_, _, _, _, _, hz, hn⟩ := hW
    refine ⟨hok, _, _, ([] ++ pa) ++ pv, ⟨[] ++ pa, pv, trodAll_append (hargs _ (fun _ _ => rfl)) (hres _ _ _), hvars _ (fun _ _ => rfl), rfl, ?_, ?_⟩, ?_⟩
    · intro b off hp
      have hin : MemPlace.cell b off ∈ before := by rw [hps]; simpa using hp
      rw [hb.frozen (hlt _ hin)]
      exact hz b off hin
    · intro ha
      have := hn ha
      rw [hps] at this
      simpa using this
    · intro p hp _
      rw [hps]
      simpa using hp
end

theorem wrap_of_wf {n : Int} (h : (Lit.int .i64 n).wf = true) : IntKind.i64.wrap n = n := by
  refine IntWalk.i64_in n ?_
  simpa [Lit.wf, IntKind.min, IntKind.max, IntKind.signed, IntKind.bits] using h
theorem Tryz.own : ownKnob Tryz.prog.godebug = none := by kernel_rfl
set_option maxRecDepth 100000 in
theorem dceIdle_lifted (os : Os) (started : os.Started) (H : Type) (enc : TypeId × Value → H) :
    ReturnsInHanded {} Tryz.checked os 5 .any (Rows.dceIdleSpec.pre6 enc Tryz.prog Tryz.f5 Rows.dceIdleRow.domain false) (Rows.dceIdleSpec.post enc Tryz.prog Tryz.f5 false true false false) := by
  refine returnsInHanded_of_change (C := Tryz.checked) Tryz.own started (by kernel_rfl) Tryz.func5
    (ChangeSpec.witness6 (enc := enc) (C := Tryz.checked) false ⟨#[], #[.int .i64 0, .int .i64 0], []⟩ 8 (by kernel_rfl) (by kernel_rfl) (by kernel_rfl) (by kernel_rfl)) ?_
  intro W base args ds gs before hval0 hW hcnd _
  have hval : ∀ (j : Nat) t v, Tryz.f5.params[j]? = some t → args[j]? = some v → Value.okWide Tryz.prog W .any base t v := hval0
  have hW' := hW
  obtain ⟨p, q, hA0, hV, rfl, hfz, hnd⟩ := hW
  have hA : DataW.TrodAll enc Tryz.prog W 0 (fun _ => true) true Tryz.f5.params.toList args.toList ds p := hA0
  rw [Tryz.params5] at hA hval
  obtain ⟨v0, v1, d0, d1, p0, p1, rfl, rfl, rfl, h0, h1⟩ := trodAll_two hA
  obtain ⟨rfl, rfl⟩ := trodVars_none hV
  obtain ⟨a, rfl, rfl, rfl, wa⟩ := open_int Tryz.underlying3 (hval 0 3 v0 rfl rfl) h0
  obtain ⟨b, rfl, rfl, rfl, wb⟩ := open_int Tryz.underlying3 (hval 1 3 v1 rfl rfl) h1
  clear hA0 hval0
  simp only [List.append_nil] at hW'
  refine (AM.idle_call a b (wrap_of_wf wa) (wrap_of_wf wb) W).mono fun e W' ⟨he, hw⟩ => ?_
  subst he
  exact ⟨_, rfl, post_of_below (pa := []) (pv := []) hW' (fun _ _ _ => trodAll_mk1 (shut_bool Tryz.underlying4 true)) (fun sp _ => trodAll_mk2 (shut_int Tryz.underlying3 wa) (shut_int Tryz.underlying3 wb)) (fun _ _ => rfl) rfl
    hw (ok_one (by kernel_rfl) rfl (okWide_bool_mk Tryz.underlying4 true))⟩

theorem dceIdle_holds : Rows.DceIdleSaid :=
  OpenClaim.holds_of_wide 5 Tryz.f5 rfl rfl rfl rfl rfl rfl rfl ⟨rfl, rfl, rfl, rfl, rfl⟩ rfl rfl rfl rfl rfl (by kernel_rfl) Tryz.func5 (by kernel_rfl)
    (of_decide_eq_true (by kernel_rfl)) (by unfold Func.isWrapper; first | (rw [if_pos (by decide +kernel)]; kernel_rfl) | (rw [if_neg (by decide +kernel)]; exact ⟨rfl, rfl⟩))
    (fun os started H enc _ => dceIdle_lifted os started H enc)
end Go.Proofs.YtplblmhnccdgcaaGreat
