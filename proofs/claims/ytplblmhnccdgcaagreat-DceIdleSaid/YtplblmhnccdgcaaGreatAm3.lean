/- The abstract machine is sound, second part: slices, maps, append, calls. Conditions: those of each theorem, named there. -/
import Derived.Test.YtplblmhnccdgcaaGreatAm2
import Derived.MapKept
import Derived.Laws.Append
import Derived.Laws.NewFold
import GoSem.Dispatch
import Derived.Laws.Externs
namespace Go.Proofs.YtplblmhnccdgcaaGreat.AM
open Go
section
variable {val : Cx} {P : Program} {T : Tab} {Γ : Syms} {π : Nat → Loc} {N : Nat} {h h' : Hp} {env : Tr AV} {a : Act} {w : World} {v : AV}
theorem evO_ok (he : EnvR val π N env a) {x : Option Operand} {r : Option AV} (h : evO env x = .ok r) :
    (r = none ∧ x.map a.eval = none) ∨ ∃ u U, r = some u ∧ x.map a.eval = some U ∧ VR val π N u U := by
  cases x with
  | none => injection h with h; exact .inl ⟨h.symm, rfl⟩
  | some o =>
    obtain ⟨u, h1, h⟩ := R.bind_eq (x := ev env o) h
    injection h with h
    exact .inr ⟨u, _, h.symm, rfl, ev_ok he h1⟩
/-- A bound that is a number, or is not given. -/
theorem bound_ok {x : Option AV} {X : Option Value} {d n : Nat} (hx : (x = none ∧ X = none) ∨ ∃ u U, x = some u ∧ X = some U ∧ VR val π N u U) (hb : bound x d = .ok n) :
    (X = none ∧ x = none ∧ n = d) ∨ ∃ k, X = some (.int k (n : Int)) := by
  rcases hx with ⟨rfl, rfl⟩ | ⟨u, U, rfl, rfl, hv⟩
  · injection hb with hb; exact .inl ⟨rfl, rfl, hb.symm⟩
  · obtain ⟨k, e⟩ := asN_ok hv hb
    exact .inr ⟨k, by rw [e]⟩
theorem run_sliceBound {k : IntKind} {n y : Nat} {c : BoundsCode} (h : n ≤ y) : (Instr.sliceBound (.int k (n : Int)) y c).run P w = .ok n w := by
  simp only [Instr.sliceBound, asIntOf, Sem.run_bind, Sem.run_pure, Result.andThen_ok]
  rw [if_pos (by omega)]
  simp
/-- The three bounds of a slice expression. -/
theorem run_sliceBounds {isS : Bool} {len cap l m x : Nat} {Lo Hi Mx : Option Value} (hlo : (Lo = none ∧ l = 0) ∨ ∃ k, Lo = some (.int k (l : Int))) (hhi : (Hi = none ∧ m = len ∧ Mx = none) ∨ ∃ k, Hi = some (.int k (m : Int)))
    (hmx : (Mx = none ∧ x = cap) ∨ ∃ k, Mx = some (.int k (x : Int))) (h1 : l ≤ m) (h2 : m ≤ x) (h3 : x ≤ cap) :
    (Instr.sliceBounds isS len cap Lo Hi Mx).run P w = .ok (l, m, x) w := by
  have b1 : ∀ k c, (Instr.sliceBound (.int k (x : Int)) cap c).run P w = .ok x w := fun k c => run_sliceBound h3
  have b2 : ∀ k c, (Instr.sliceBound (.int k (m : Int)) x c).run P w = .ok m w := fun k c => run_sliceBound h2
  have b3 : ∀ k c, (Instr.sliceBound (.int k (l : Int)) m c).run P w = .ok l w := fun k c => run_sliceBound h1
  rcases hmx with ⟨rfl, rfl⟩ | ⟨k1, rfl⟩ <;> rcases hhi with ⟨rfl, rfl, h0⟩ | ⟨k2, rfl⟩ <;> rcases hlo with ⟨rfl, rfl⟩ | ⟨k3, rfl⟩ <;>
    first | (cases h0; done) | simp only [Instr.sliceBounds, Sem.run_bind, Sem.run_pure, Result.andThen_ok, b1, b2, b3]
theorem sliceS_ok (hr : HR val π h.next h.heap.get w) {t : TypeId} {ti : TI} (hty : TyOK P t ti) (hk : ti.kind = 1) {n off len es : Nat} {cap : Option Nat} {X : Value} {lo hi mx : Option AV} {Lo Hi Mx : Option Value}
    (hx : VR val π h.next (.slice n off len es cap) X) (hes : es = ti.es)
    (hlo : (lo = none ∧ Lo = none) ∨ ∃ u U, lo = some u ∧ Lo = some U ∧ VR val π h.next u U) (hhi : (hi = none ∧ Hi = none) ∨ ∃ u U, hi = some u ∧ Hi = some U ∧ VR val π h.next u U) (hmx : (mx = none ∧ Mx = none) ∨ ∃ u U, mx = some u ∧ Mx = some U ∧ VR val π h.next u U)
    (hop : sliceS h n off len es cap lo hi mx = .ok v) : ∃ V, (Instr.sliceAt t X Lo Hi Mx).run P w = .ok V w ∧ VR val π h.next v V := by
  obtain ⟨el, hel, hE⟩ := hty.slice hk
  obtain ⟨A, K, rfl, hn, hA, hK, hc1, hc2⟩ := hx.slice_inv
  have hfin : (π n).base + off + K * es ≤ (π n).fin := by
    cases cap with
    | none => have := hc2 rfl; omega
    | some c => exact (hc1 c rfl).2
  have hpos : 1 ≤ es := by rw [hes]; exact hE.pos
  unfold sliceS at hop
  obtain ⟨l, hl, hop0⟩ := R.bind_eq hop; clear hop
  obtain ⟨m, hm, hop1⟩ := R.bind_eq hop0; clear hop0
  obtain ⟨b, hop⟩ := B_ok hop1; clear hop1
  have hlm := nble_true b
  have hlo' : (Lo = none ∧ l = 0) ∨ ∃ k, Lo = some (.int k (l : Int)) := (bound_ok hlo hl).imp (fun h => ⟨h.1, h.2.2⟩) id
  -- what is common: the result, once the bounds are known
  have fin : ∀ x, (Instr.sliceBounds true len K Lo Hi Mx).run P w = .ok (l, m, x) w → m ≤ x → x ≤ K → ∀ cap', (∀ c, cap' = some c → x - l = c) → (cap' = none → x = K ∧ cap = none) →
      ∃ V, (Instr.sliceAt t (.slice (some A) len K) Lo Hi Mx).run P w = .ok V w ∧ VR val π h.next (.slice n (Nat.add off (Nat.mul l es)) (Nat.sub m l) es cap') V := by
    intro x hb hmx' hxK cap' hcap hcap2
    refine ⟨.slice (if x = l then some A else (some A).map (·.add (l * es))) (m - l) (x - l), ?_, ?_⟩
    · simp only [Instr.sliceAt, Instr.slice, Sem.run_bind, run_underlying hel, Result.andThen_ok, hb, hE.size, ← hes, Sem.run_pure]
    · have hA2 : ∃ A', (if x = l then some A else (some A).map (·.add (l * es))) = some A' ∧ (x - l = 0 ∨ A' = ⟨(π n).blk, (π n).base + (off + l * es), none⟩) := by
        by_cases e : x = l
        · exact ⟨A, by rw [if_pos e], .inl (by omega)⟩
        · refine ⟨A.add (l * es), by rw [if_neg e]; rfl, .inr ?_⟩
          have hA' : A = ⟨(π n).blk, (π n).base + off, none⟩ := by
            rcases hA with h0 | h0
            · omega
            · exact h0
          rw [hA', addr_add, Nat.add_assoc]
      obtain ⟨A', e1, e2⟩ := hA2
      rw [e1]
      have hmul : l * es + (x - l) * es = x * es := by rw [← Nat.add_mul]; congr 1; omega
      have hmul2 : x * es ≤ K * es := Nat.mul_le_mul_right _ hxK
      have hmul3 : (π n).base + (off + l * es) + (x - l) * es = (π n).base + off + x * es := by rw [← hmul]; simp only [Nat.add_assoc]
      refine VR.slice _ _ _ _ _ _ _ hn e2 (Nat.sub_le_sub_right hmx' l) (fun c hc => ⟨hcap c hc, ?_⟩) (fun hc => ?_)
      · show (π n).base + (off + l * es) + (x - l) * es ≤ (π n).fin
        rw [hmul3]; omega
      · obtain ⟨e3, e4⟩ := hcap2 hc
        have := hc2 e4
        show (π n).base + (off + l * es) + (x - l) * es = (π n).fin
        rw [hmul3, e3]; exact this
  split at hop
  · -- no max
    have hMx : Mx = none := by rcases hmx with ⟨_, e⟩ | ⟨u, U, e, _⟩ <;> first | exact e | cases e
    subst hMx
    have hhi' : m ≤ K → (Hi = none ∧ m = len ∧ (none : Option Value) = none) ∨ ∃ k, Hi = some (.int k (m : Int)) := fun _ => (bound_ok hhi hm).imp (fun h => ⟨h.1, h.2.2, rfl⟩) id
    have hb : m ≤ K → (Instr.sliceBounds true len K Lo Hi none).run P w = .ok (l, m, K) w := fun hmK => run_sliceBounds hlo' (hhi' hmK) (.inl ⟨rfl, rfl⟩) hlm hmK (Nat.le_refl _)
    split at hop
    · rename_i c
      obtain ⟨b2, hop⟩ := B_ok hop
      injection hop with hop; subst hop
      have hcK := (hc1 c rfl).1
      have hmc := nble_true b2
      exact fin K (hb (by omega)) (by omega) (Nat.le_refl _) _ (fun c' e => by injection e with e; rw [hcK]; exact e) (fun e => by cases e)
    · cases e : Nat.ble m len with
      | true =>
        rw [e, B_true] at hop
        injection hop with hop; subst hop
        have := nble_true e
        exact fin K (hb (by omega)) (by omega) (Nat.le_refl _) _ (fun c' e => by cases e) (fun _ => ⟨rfl, rfl⟩)
      | false =>
        rw [e, B_false] at hop
        obtain ⟨c, h2, hop⟩ := R.bind_eq hop
        obtain ⟨b2, hop⟩ := B_ok hop
        obtain ⟨b3, hop⟩ := B_ok hop
        injection hop with hop; subst hop
        have hle := nble_true b2
        simp only [lenL_eq, Nat.add_eq, Nat.mul_eq] at hle
        obtain ⟨C, e', fr, g1, g2, g3, _⟩ := hr.ob n _ (getCells_ok h2) hn.2
        have h5 := hc2 rfl
        have hmK : m ≤ K := by
          have : m * es ≤ K * es := by omega
          exact Nat.le_of_mul_le_mul_right this hpos
        exact fin K (hb hmK) hmK (Nat.le_refl _) _ (fun c' e => by cases e) (fun _ => ⟨rfl, rfl⟩)
  · rename_i xm
    obtain ⟨x, h2, hop⟩ := R.bind_eq hop
    obtain ⟨b2, hop⟩ := B_ok hop
    obtain ⟨b3, hop⟩ := B_ok hop
    injection hop with hop; subst hop
    rcases hmx with ⟨e, _⟩ | ⟨u, U, e, rfl, hu⟩
    · cases e
    · injection e with e; subst e
      obtain ⟨k, rfl⟩ : ∃ k, U = .int k (x : Int) := by
        cases hi with
        | none => cases h2
        | some _ => exact asN_ok hu h2
      have hmx' := nble_true b2
      have hxc := nble_true b3
      have hxK : x ≤ K := by
        cases cap with
        | none => simp only [] at hxc; omega
        | some c => simp only [] at hxc; rw [(hc1 c rfl).1]; exact hxc
      have hhi' : (Hi = none ∧ m = len ∧ (some (Value.int k (x : Int)) : Option Value) = none) ∨ ∃ k, Hi = some (.int k (m : Int)) := by
        rcases bound_ok hhi hm with ⟨a1, a2, a3⟩ | h
        · rw [a2] at h2; cases h2
        · exact .inr h
      exact fin x (run_sliceBounds hlo' hhi' (.inr ⟨k, rfl⟩) hlm hmx' hxK) hmx' hxK _ (fun c' e => by injection e with e) (fun e => by cases e)
end
end Go.Proofs.YtplblmhnccdgcaaGreat.AM

namespace Go.Proofs.YtplblmhnccdgcaaGreat.AM
open Go
section
variable {val : Cx} {P : Program} {T : Tab} {Γ : Syms} {π : Nat → Loc} {N : Nat} {h h' : Hp} {env : Tr AV} {a : Act} {w : World} {v : AV}
theorem sliceStr_ok {t : TypeId} {ti : TI} (hty : TyOK P t ti) {b : List Nat} {X : Value} {lo hi mx : Option AV} {Lo Hi Mx : Option Value} {u : AV}
    (hp : VR val π N (.str b) X)
    (hlo : (lo = none ∧ Lo = none) ∨ ∃ u U, lo = some u ∧ Lo = some U ∧ VR val π N u U) (hhi : (hi = none ∧ Hi = none) ∨ ∃ u U, hi = some u ∧ Hi = some U ∧ VR val π N u U) (hmx : (mx = none ∧ Mx = none) ∨ ∃ u U, mx = some u ∧ Mx = some U ∧ VR val π N u U)
    (h5 : B (Nat.beq ti.kind 4) ((bound lo 0).bind fun l => (bound hi (lenL b)).bind fun m =>
    B (Nat.ble l m) (B (Nat.ble m (lenL b)) (match mx with | none => .ok (.str (sub b l (Nat.sub m l))) | some _ => .no 26) (.no 26)) (.no 27)) (.no 27) = .ok u) :
    ∃ V, (Instr.sliceAt t X Lo Hi Mx).run P w = .ok V w ∧ VR val π N u V := by
  obtain ⟨b0, h6⟩ := B_ok h5; clear h5
  obtain ⟨l, hl, h7⟩ := R.bind_eq h6; clear h6
  obtain ⟨m, hm, h8⟩ := R.bind_eq h7; clear h7
  obtain ⟨b1, h9⟩ := B_ok h8; clear h8
  obtain ⟨b2, h10⟩ := B_ok h9; clear h9
  have hst := hty.string (nbeq_true b0)
  obtain ⟨S, rfl, hS⟩ := hp.str_inv
  have hsz : S.size = b.length := by rw [← hS]; simp
  have hlm := nble_true b1
  have hmb := nble_true b2
  rw [lenL_eq] at hmb
  split at h10
  · injection h10 with h10; subst h10
    have hMx : Mx = none := by rcases hmx with ⟨_, e⟩ | ⟨u, U, e, _⟩ <;> first | exact e | cases e
    subst hMx
    have hb : (Instr.sliceBounds false S.size S.size Lo Hi none).run P w = .ok (l, m, S.size) w := by
      refine run_sliceBounds ((bound_ok hlo hl).imp (fun h => ⟨h.1, h.2.2⟩) id) ?_ (.inl ⟨rfl, rfl⟩) hlm (by omega) (Nat.le_refl _)
      exact (bound_ok hhi hm).imp (fun h => ⟨h.1, by rw [h.2.2, lenL_eq, hsz], rfl⟩) id
    refine ⟨.string (S.extract l m), ?_, .str _ _ ?_⟩
    · simp only [Instr.sliceAt, Instr.slice, Sem.run_bind, run_underlying hst, Result.andThen_ok, Option.isSome_none, Bool.false_eq_true, if_false, Sem.run_pure, hb]
    · rw [sub_eq, ← hS]
      rw [ByteArray.data_extract, Array.toList_extract, List.extract_eq_take_drop, List.map_take, List.map_drop]
      rfl
  · cases h10
theorem opSlice_ok (hT : TabTy P T) (he : EnvR val π h.next env a) (hr : HR val π h.next h.heap.get w) {t : TypeId} {x : Operand} {lo hi mx : Option Operand} (hop : opSlice T env h t x lo hi mx = .ok (v, h')) :
    ∃ V, (Instr.sliceAt t (a.eval x) (lo.map a.eval) (hi.map a.eval) (mx.map a.eval)).run P w = .ok V w ∧ Post val π h w v h' V w := by
  unfold opSlice at hop
  obtain ⟨ti, h0, hop⟩ := R.bind_eq hop
  obtain ⟨p, h1, hop⟩ := R.bind_eq hop
  obtain ⟨l', h2, hop⟩ := R.bind_eq hop
  obtain ⟨m', h3, hop⟩ := R.bind_eq hop
  obtain ⟨x', h4, hop⟩ := R.bind_eq hop
  obtain ⟨u, h5, hop⟩ := R.bind_eq hop
  injection hop with hop; injection hop with e1 e2; subst e1; subst e2
  have hp := ev_ok he h1
  have hlo := evO_ok he h2
  have hhi := evO_ok he h3
  have hmx := evO_ok he h4
  have hty := tyOf_ok hT h0
  have key : ∃ V, (Instr.sliceAt t (a.eval x) (lo.map a.eval) (hi.map a.eval) (mx.map a.eval)).run P w = .ok V w ∧ VR val π h.next u V := by
    generalize a.eval x = X at hp
    generalize lo.map a.eval = Lo at hlo
    generalize hi.map a.eval = Hi at hhi
    generalize mx.map a.eval = Mx at hmx
    clear h1 h2 h3 h4
    clear hop
    unfold sliceOp at h5
    split at h5
    · exact sliceStr_ok hty hp hlo hhi hmx h5
    · obtain ⟨b0, h6⟩ := B_ok h5; clear h5
      obtain ⟨l, hl, h7⟩ := R.bind_eq h6; clear h6
      obtain ⟨m, hm, h8⟩ := R.bind_eq h7; clear h7
      obtain ⟨y, hy, h9⟩ := R.bind_eq h8; clear h8
      obtain ⟨b1, h10⟩ := B_ok h9; clear h9
      injection h10 with h10; subst h10
      obtain ⟨el, hel, hE⟩ := hty.slice (nbeq_true b0)
      have hz := nbeq_true b1
      simp only [Nat.add_eq] at hz
      obtain ⟨rfl, rfl, rfl⟩ : l = 0 ∧ m = 0 ∧ y = 0 := by omega
      rw [hp.nilslice_inv]
      have hb : (Instr.sliceBounds true 0 0 Lo Hi Mx).run P w = .ok (0, 0, 0) w := by
        refine run_sliceBounds ((bound_ok hlo hl).imp (fun h => ⟨h.1, rfl⟩) id) ?_ ?_ (Nat.le_refl _) (Nat.le_refl _) (Nat.le_refl _)
        · rcases bound_ok hhi hm with h | h
          · refine .inl ⟨h.1, rfl, ?_⟩
            rcases hmx with ⟨_, e⟩ | ⟨u, U, e, _⟩
            · exact e
            · subst e; rw [h.2.1] at hy; cases hy
          · exact .inr h
        · rcases hmx with ⟨_, e⟩ | ⟨u, U, e, e', hu⟩
          · exact .inl ⟨e, rfl⟩
          · subst e
            right
            cases hi' : m' with
            | none => rw [hi'] at hy; cases hy
            | some _ =>
              rw [hi'] at hy
              obtain ⟨k, ek⟩ := asN_ok hu hy
              exact ⟨k, by rw [e', ek]⟩
      refine ⟨.slice none 0 0, ?_, .nilslice⟩
      simp only [Instr.sliceAt, Instr.slice, Sem.run_bind, run_underlying hel, Result.andThen_ok, hb, hE.size, Sem.run_pure]
      rfl
    · obtain ⟨b0, h6⟩ := B_ok h5; clear h5
      obtain ⟨b1, h7⟩ := B_ok h6; clear h6
      exact sliceS_ok hr hty (nbeq_true b0) hp (nbeq_true b1) hlo hhi hmx h7
    · cases h5
  obtain ⟨V, g1, g2⟩ := key
  exact ⟨V, g1, .same hr g2⟩
theorem opMakeSlice_made (hT : TabTy P T) (he : EnvR val π h.next env a) {t : TypeId} {l c : Operand} (hop : opMakeSlice T env h t l c = .ok (v, h')) :
    ∃ f o V w' q, (∀ h0, opMakeSlice T env h0 t l c = new h0 o f) ∧ (Instr.makeSlice t (a.eval l) (a.eval c)).run P w = .ok V w' ∧ Made val π h.next w f o V w' q := by
  unfold opMakeSlice at hop
  obtain ⟨ti, h0, hop⟩ := R.bind_eq hop
  obtain ⟨u, h1, hop⟩ := R.bind_eq hop
  obtain ⟨n, h2, hop⟩ := R.bind_eq hop
  obtain ⟨u', h3, hop⟩ := R.bind_eq hop
  obtain ⟨m, h4, hop⟩ := R.bind_eq hop
  obtain ⟨b0, hop⟩ := B_ok hop
  obtain ⟨b1, hop⟩ := B_ok hop
  obtain ⟨b2, hop⟩ := B_ok hop
  obtain ⟨b3, hop⟩ := B_ok hop
  obtain ⟨k1, e1⟩ := asN_ok (ev_ok he h1) h2
  obtain ⟨k2, e2⟩ := asN_ok (ev_ok he h3) h4
  obtain ⟨el, hel, hE⟩ := (tyOf_ok hT h0).slice (nbeq_true b0)
  have hnm := nble_true b1
  have hlim := nble_true b2
  have hbytes := nble_true b3
  simp only [LIM] at hlim
  obtain ⟨j, hj, hjb, hjs⟩ := hE.typeInfo (w := w)
  obtain ⟨z, hz, hc, hzs⟩ := hE.zero (w := w)
  have hw1 : IntKind.i64.wrap (n : Int) = n := IntWalk.i64_in _ (by omega)
  have hw2 : IntKind.i64.wrap (m : Int) = m := IntWalk.i64_in _ (by omega)
  have hmul : ti.eb * m ≤ 4096 * 1048576 := Nat.mul_le_mul hbytes hlim
  have hmul2 : ti.eb * n ≤ 4096 * 1048576 := Nat.mul_le_mul hbytes (Nat.le_trans hnm hlim)
  have hmulI : ¬ ((ti.eb : Int) * (m : Int) > 2 ^ 48) := by
    have : (ti.eb : Int) * (m : Int) = ((ti.eb * m : Nat) : Int) := by simp
    rw [this]; omega
  refine ⟨fun p => .slice p 0 n ti.es (some m), .cells (repL ti.ez m) false, .slice (some ⟨w.heap.size, 0, none⟩) n m, w.alloc (.cells ((Array.range (m * ti.es)).map (z.cells[· % z.cells.size]!)) el), ⟨w.heap.size, 0, ((Array.range (m * ti.es)).map (z.cells[· % z.cells.size]!)).size⟩, ?_, ?_, ?_⟩
  · intro hh; unfold opMakeSlice; simp only [h0, h1, h2, h3, h4, R.bind_ok, b0, b1, b2, b3, B_true]
  · simp only [Instr.makeSlice, Sem.run_bind, run_underlying hel, Result.andThen_ok, e1, e2, asInt, asIntOf, Sem.run_pure, hj, hjb, hw1, hw2]
    rw [if_neg]
    · simp only [Sem.run_bind, run_askRoom, Result.andThen_ok, hE.size, Int.toNat_natCast]
      by_cases h0 : m * ti.es = 0
      · rw [if_pos h0]
        simp only [Sem.run_bind, Sem.run_pure, Result.andThen_ok]
        have e3 : (Array.map (fun x => (#[] : Array Value)[x % (#[] : Array Value).size]!) (Array.range (m * ti.es))) = Array.map (fun x => z.cells[x % z.cells.size]!) (Array.range (m * ti.es)) := by simp [h0]
        rw [e3]
        simp [newRow]
      · rw [if_neg h0]
        simp only [Sem.run_bind, Sem.run_pure, Result.andThen_ok, hz]
        simp [newRow]
    · simp only [Bool.or_eq_true, decide_eq_true_eq, not_or]
      refine ⟨⟨⟨by omega, hmulI⟩, by omega⟩, by omega⟩
  · refine Made.cells el (repL_VRs (constsB_VRs hc val π h.next) hzs m) (sc_rep (constsB_sc hc) m) (slice_made _ rfl hnm (fun c hc => ?_) (fun hc => by cases hc) rfl)
    injection hc with hc
    exact ⟨hc, by simp⟩
theorem opMakeSlice_ok (hT : TabTy P T) (he : EnvR val π h.next env a) (hr : HR val π h.next h.heap.get w) {t : TypeId} {l c : Operand} (hop : opMakeSlice T env h t l c = .ok (v, h')) :
    ∃ V w', (Instr.makeSlice t (a.eval l) (a.eval c)).run P w = .ok V w' ∧ Post val π h w v h' V w' := by
  obtain ⟨f, o, V, w', q, h1, h2, h3⟩ := opMakeSlice_made (w := w) hT he hop
  exact ⟨V, w', h2, h3.post hr (by rw [← h1]; exact hop)⟩
end
end Go.Proofs.YtplblmhnccdgcaaGreat.AM

namespace Go.Proofs.YtplblmhnccdgcaaGreat.AM
open Go
section
variable {val : Cx} {P : Program} {T : Tab} {Γ : Syms} {π : Nat → Loc} {N : Nat} {h h' : Hp} {env : Tr AV} {a : Act} {w : World} {v : AV}
theorem TyOK.map {t : TypeId} {ti : TI} (h : TyOK P t ti) (hk : ti.kind = 3) : ∃ k e, P.underlying t = some (.map k e) ∧ (∃ dk, P.underlying k = some dk ∧ descLike dk ti.kz = true) ∧ ∃ j z, P.info? e = some j ∧ j.zero = some z ∧ constsB ti.ez z.cells.toList = true ∧ (∃ c, z.cells = #[c] ∧ z = c) := by
  obtain ⟨d, hd, hk'⟩ := h.und
  cases d <;> simp only [KindOK] at hk' <;> first | exact hk'.elim | (omega) | exact ⟨_, _, hd, hk'.2⟩
/-- A plain key. -/
def Plain (d : TypeDesc) (V : Value) : Prop := match d, V with | .int _, .int _ _ => True | .bool, .bool _ => True | .string, .string _ => True | _, _ => False
theorem likeZ_plain {d : TypeDesc} {z k : AV} {K : Value} (hd : descLike d z = true) (hz : likeZ z k = true) (hk : VR val π N k K) : Plain d K := by
  unfold descLike at hd
  split at hd
  · unfold likeZ at hz
    cases k <;> first | (cases hz; done) | (cases hk; trivial)
  · unfold likeZ at hz
    cases k <;> first | (cases hz; done) | (cases hk; trivial)
  · unfold likeZ at hz
    cases k <;> first | (cases hz; done) | (cases hk; trivial)
  · cases hd
theorem SameR.sameNow {b : Bool} {X Y : Value} (h : SameR b X Y) {d : TypeDesc} (hp : Plain d X) : Instr.sameNow d X Y = some b := by
  cases h with
  | int k m n e => cases d <;> first | (cases hp; done) | simp [Instr.sameNow, e]
  | bool x y e => cases d <;> first | (cases hp; done) | simp [Instr.sameNow, e]
  | str x y e =>
    cases d <;> first | (cases hp; done) | skip
    simp only [Instr.sameNow]
    congr 1
    rw [ByteArray.toList_eq, ByteArray.toList_eq] at e
    rw [← e]
    apply Bool.eq_iff_iff.2
    rw [MapKept.bytes_beq]
    constructor
    · intro h; rw [h]; simp
    · intro h
      have h' : x.data.toList = y.data.toList := by simpa using h
      exact ByteArray.ext (Array.ext' h')
theorem SameR.sameBits {X Y : Value} (h : SameR true X Y) (n : Nat) : Instr.sameBits n Y X = true := by
  cases h with
  | int k m n e => have : m = n := by simpa using e
                   subst this; simp [Instr.sameBits]
  | bool x y e => have : x = y := by simpa using e
                  subst this; simp [Instr.sameBits]
  | str x y e =>
    rw [ByteArray.toList_eq, ByteArray.toList_eq] at e
    have h' : x.data.toList = y.data.toList := by simpa using e
    have : x = y := ByteArray.ext (Array.ext' h')
    subst this
    simp only [Instr.sameBits]
    exact (MapKept.bytes_beq x x).2 rfl
def EsR (val : Cx) (π : Nat → Loc) (N : Nat) (es : List (AV × AV)) (E : List MapEntry) : Prop :=
  es.length = E.length ∧ ∀ (i : Nat) (e : AV × AV) (x : MapEntry), es[i]? = some e → E[i]? = some x → VR val π N e.1 x.key ∧ VR val π N e.2 x.val
theorem EsR.cons_inv {e : AV × AV} {es : List (AV × AV)} {E : List MapEntry} (h : EsR val π N (e :: es) E) : ∃ x E', E = x :: E' ∧ VR val π N e.1 x.key ∧ VR val π N e.2 x.val ∧ EsR val π N es E' := by
  cases E with
  | nil => have := h.1; simp at this
  | cons x E => exact ⟨x, E, rfl, (h.2 0 e x rfl rfl).1, (h.2 0 e x rfl rfl).2, by simpa using h.1, fun i e' x' h1 h2 => h.2 (i + 1) e' x' (by simpa using h1) (by simpa using h2)⟩
theorem EsR.cons {e : AV × AV} {es : List (AV × AV)} {x : MapEntry} {E : List MapEntry} (h1 : VR val π N e.1 x.key) (h2 : VR val π N e.2 x.val) (h : EsR val π N es E) : EsR val π N (e :: es) (x :: E) :=
  ⟨by simp [h.1], fun i e' x' a b => by
    cases i with
    | zero => simp at a b; subst a; subst b; exact ⟨h1, h2⟩
    | succ i => exact h.2 i e' x' (by simpa using a) (by simpa using b)⟩
theorem find_ok {d : TypeDesc} {k : AV} {K : Value} (hk : VR val π N k K) (hp : Plain d K) : ∀ {es : List (AV × AV)} {E : List MapEntry} {r : Option AV} (i : Nat), EsR val π N es E → find k es = .ok r →
    (r = none ∧ Instr.findNow d K E i = some none) ∨ ∃ v V j, r = some v ∧ Instr.findNow d K E i = some (some (j, V)) ∧ VR val π N v V
  | [], E, r, i, he, hf => by
    injection hf with hf
    have : E = [] := by simpa using he.1.symm
    subst this
    exact .inl ⟨hf.symm, rfl⟩
  | e :: es, E, r, i, he, hf => by
    obtain ⟨x, E', rfl, h1, h2, h3⟩ := he.cons_inv
    simp only [find] at hf
    split at hf
    · rename_i hs
      injection hf with hf
      have := (sameS_ok hk h1 hs).sameNow hp
      exact .inr ⟨e.2, x.val, i, hf.symm, by simp only [Instr.findNow, this], h2⟩
    · rename_i hs
      have := (sameS_ok hk h1 hs).sameNow hp
      simp only [Instr.findNow, this]
      exact find_ok hk hp (i + 1) h3 hf
    · cases hf
theorem upd_ok {d : TypeDesc} {k v : AV} {K V : Value} (hk : VR val π N k K) (hv : VR val π N v V) (hp : Plain d K) : ∀ {es es' : List (AV × AV)} {E : List MapEntry} (i : Nat), EsR val π N es E → upd k v es = .ok es' →
    (Instr.findNow d K E i = some none ∧ ∀ cl, EsR val π N es' (E ++ [{ key := K, val := V, born := cl }])) ∨
    ∃ j x, Instr.findNow d K E i = some (some (i + j, x.val)) ∧ E[j]? = some x ∧ (∀ n, Instr.sameBits n x.key K = true) ∧ EsR val π N es' (E.modify j fun e => { e with key := K, val := V })
  | [], es', E, i, he, hf => by
    injection hf with hf
    have : E = [] := by simpa using he.1.symm
    subst this; subst hf
    exact .inl ⟨rfl, fun cl => .cons hk hv ⟨rfl, fun i e x h => by simp at h⟩⟩
  | e :: es, es', E, i, he, hf => by
    obtain ⟨x, E', rfl, h1, h2, h3⟩ := he.cons_inv
    simp only [upd] at hf
    split at hf
    · rename_i hs
      injection hf with hf
      have hS := sameS_ok hk h1 hs
      subst hf
      refine .inr ⟨0, x, by simp only [Instr.findNow, hS.sameNow hp, Nat.add_zero], rfl, hS.sameBits, ?_⟩
      exact .cons hk hv h3
    · rename_i hs
      have hS := (sameS_ok hk h1 hs).sameNow hp
      obtain ⟨l, h4, hf⟩ := R.bind_eq hf
      injection hf with hf; subst hf
      rcases upd_ok hk hv hp (i + 1) h3 h4 with ⟨a, b⟩ | ⟨j, y, a, b, c, dd⟩
      · exact .inl ⟨by simp only [Instr.findNow, hS, a], fun cl => .cons h1 h2 (b cl)⟩
      · refine .inr ⟨j + 1, y, ?_, by simpa using b, c, .cons h1 h2 dd⟩
        simp only [Instr.findNow, hS, a]
        congr 3; omega
    · cases hf
theorem run_checkKeyP {kt : TypeId} {d : TypeDesc} {k : Value} (hd : P.underlying kt = some d) (hk : Plain d k) (e : Bool) (n : Nat) : (Instr.checkKey e (n + 1) kt k).run P w = .ok () w := by
  unfold Instr.checkKey
  simp only [Sem.run_bind, run_underlying hd, Result.andThen_ok]
  cases d <;> cases k <;> first | (cases hk; done) | rfl
theorem OR.map_inv {n : Nat} {es : List (AV × AV)} (h : OR val π N n w (.mp es)) : ∃ E clock, w.heap[(π n).blk]? = some (.map E clock) ∧ EsR val π N es E.toList := by
  obtain ⟨E, cl, h1, h2, h3⟩ := h
  exact ⟨E, cl, h1, by simpa using h2, fun i e x a b => h3 i e x a (by simpa using b)⟩
theorem okOf_ok {ok b : Bool} {u : AV} {U : Value} (h : VR val π N u U) : VR val π N (okOf ok u b) (if ok then .tuple #[U, .bool b] else U) := by
  cases ok with
  | true => exact VR.tup' (.cons h (.cons (.bool b) .nil))
  | false => exact h
theorem opLookup_ok (hT : TabTy P T) (he : EnvR val π h.next env a) (hr : HR val π h.next h.heap.get w) {t : TypeId} {x k : Operand} {ok : Bool} (hop : opLookup T env h t x k ok = .ok (v, h')) :
    ∃ V, (Instr.lookup t (a.eval x) (a.eval k) ok).run P w = .ok V w ∧ Post val π h w v h' V w := by
  unfold opLookup at hop
  obtain ⟨p, h1, hop1⟩ := R.bind_eq hop; clear hop
  have hp := ev_ok he h1
  split at hop1
  · rename_i n
    split at hop1
    · rename_i es hes
      obtain ⟨ti, h2, hop2⟩ := R.bind_eq hop1; clear hop1
      obtain ⟨b0, hop3⟩ := B_ok hop2; clear hop2
      obtain ⟨q, h3, hop4⟩ := R.bind_eq hop3; clear hop3
      obtain ⟨b1, hop5⟩ := B_ok hop4; clear hop4
      obtain ⟨r, h4, hop6⟩ := R.bind_eq hop5; clear hop5
      have hq := ev_ok he h3
      obtain ⟨kt, et, hm, ⟨dk, hdk, hlike⟩, j, z, hj, hz, hc, c, hc1, hc2⟩ := (tyOf_ok hT h2).map (nbeq_true b0)
      have hpl := likeZ_plain hlike b1 hq
      have hnn : Live val h.next n := by generalize a.eval x = X at hp; cases hp; assumption
      obtain ⟨E, cl, hE, hR⟩ := (hr.ob n _ hes hnn.2).map_inv
      have hx : a.eval x = .map (some (π n).blk) := by generalize a.eval x = X at hp; cases hp; rfl
      have hzv : (zeroValue et).run P w = .ok z w := by simp [zeroValue, run_ti w hj, hz]
      rcases find_ok hq hpl 0 hR h4 with ⟨rfl, hf⟩ | ⟨u, U, jj, rfl, hf, hU⟩
      · simp only [] at hop6
        split at hop6
        · rename_i z0 hez
          injection hop6 with hop6; injection hop6 with e1 e2; subst e1; subst e2
          have hzr : VR val π h.next z0 z := by
            have := constsB_VRs hc val π h.next
            rw [hez, hc1] at this
            rw [hc2]
            exact this.2 0 z0 c rfl rfl
          refine ⟨_, ?_, .same hr (okOf_ok hzr)⟩
          simp only [Instr.lookup, Sem.run_bind, run_underlying hm, Result.andThen_ok, hx, MapKept.run_getObj_map hE, Sem.run_pure, run_checkKeyP hdk hpl, MapKept.run_findKey hdk hf, hzv]
        · cases hop6
      · simp only [] at hop6
        injection hop6 with hop6; injection hop6 with e1 e2; subst e1; subst e2
        refine ⟨_, ?_, .same hr (okOf_ok hU)⟩
        simp only [Instr.lookup, Sem.run_bind, run_underlying hm, Result.andThen_ok, hx, MapKept.run_getObj_map hE, Sem.run_pure, run_checkKeyP hdk hpl, MapKept.run_findKey hdk hf]
    · cases hop1
  · cases hop1
theorem Post.write {n : Nat} {o o' : AO} {O : Obj} {V : Value} (hr : HR val π h.next h.heap.get w) (hn : h.heap.get n = some o) (hro : isRo o = false) (hro' : isRo o' = false) (hz : ¬ val.Z n)
    (ho : OR val π h.next n { w with heap := w.heap.setIfInBounds (π n).blk O } o') (hv : VR val π h.next v V) :
    Post val π h w v { heap := h.heap.putR n o', next := h.next, wl := lower h.wl n } V { w with heap := w.heap.setIfInBounds (π n).blk O } := by
  refine ⟨(lower_le _ _).1, π, hv, ?_⟩
  show Step val π h.next h.heap.get w π h.next (h.heap.putR n o').get _ _
  rw [get_putR_fun]
  exact Step.write hr hn hro hro' hz ho (lower_le _ _).2
theorem opMapUpdate_ok (hT : TabTy P T) (he : EnvR val π h.next env a) (hr : HR val π h.next h.heap.get w) {t : TypeId} {x k y : Operand} (hop : opMapUpdate T env h t x k y = .ok (v, h')) :
    ∃ w', (Instr.mapUpdate t (a.eval x) (a.eval k) (a.eval y)).run P w = .ok () w' ∧ Post val π h w v h' undef w' := by
  unfold opMapUpdate at hop
  obtain ⟨p, h1, hop1⟩ := R.bind_eq hop; clear hop
  have hp := ev_ok he h1
  split at hop1
  · rename_i n
    split at hop1
    · rename_i es hes
      obtain ⟨ti, h2, hop2⟩ := R.bind_eq hop1; clear hop1
      obtain ⟨b0, hop3⟩ := B_ok hop2; clear hop2
      obtain ⟨q, h3, hop4⟩ := R.bind_eq hop3; clear hop3
      obtain ⟨u, h4, hop5⟩ := R.bind_eq hop4; clear hop4
      obtain ⟨b1, hop6⟩ := B_ok hop5; clear hop5
      obtain ⟨es', h5, hop7⟩ := R.bind_eq hop6; clear hop6
      injection hop7 with hop7; injection hop7 with e1 e2; subst e1; subst e2
      have hq := ev_ok he h3
      have hu := ev_ok he h4
      obtain ⟨kt, et, hm, ⟨dk, hdk, hlike⟩, _⟩ := (tyOf_ok hT h2).map (nbeq_true b0)
      have hpl := likeZ_plain hlike b1 hq
      have hnn : Live val h.next n := by generalize a.eval x = X at hp; cases hp; assumption
      obtain ⟨E, cl, hE, hR⟩ := (hr.ob n _ hes hnn.2).map_inv
      have hx : a.eval x = .map (some (π n).blk) := by generalize a.eval x = X at hp; cases hp; rfl
      have hlt : (π n).blk < w.heap.size := (Array.getElem?_eq_some_iff.1 hE).1
      have fin : ∀ (E' : Array MapEntry) (cl' : Nat), EsR val π h.next es' E'.toList → Post val π h w undefA { heap := h.heap.putR n (.mp es'), next := h.next, wl := lower h.wl n } undef { w with heap := w.heap.setIfInBounds (π n).blk (.map E' cl') } := by
        intro E' cl' hE'
        refine Post.write hr hes rfl rfl hnn.2 ⟨E', cl', by simp [hlt], by simpa using hE'.1, fun i e x h1 h2 => hE'.2 i e x h1 (by simpa using h2)⟩ (VR_undef _ _ _)
      rcases upd_ok hq hu hpl 0 hR h5 with ⟨hf, hn⟩ | ⟨j, e0, hf, hj, hb, hn⟩
      · refine ⟨_, ?_, fin (E.push { key := a.eval k, val := a.eval y, born := cl }) (cl + 1) (by simpa using hn cl)⟩
        simp only [Instr.mapUpdate, Sem.run_bind, run_underlying hm, Result.andThen_ok, hx, MapKept.run_getObj_map hE, run_checkKeyP hdk hpl, MapKept.run_findKey hdk hf, MapKept.run_setObj_map _ hE]
      · have hj' : E[j]? = some e0 := by simpa using hj
        have hst : (Instr.keyThatStays e0.key (a.eval k)).run P w = .ok (a.eval k) w := by simp [Instr.keyThatStays, hb 10000]
        refine ⟨_, ?_, fin (E.modify j fun e => { e with key := a.eval k, val := a.eval y }) cl (by simpa using hn)⟩
        simp only [Instr.mapUpdate, Sem.run_bind, run_underlying hm, Result.andThen_ok, hx, MapKept.run_getObj_map hE, run_checkKeyP hdk hpl, MapKept.run_findKey hdk hf, Nat.zero_add, hj', Option.map_some, Option.getD_some, hst, MapKept.run_setObj_map _ hE]
    · cases hop1
  · cases hop1
end
end Go.Proofs.YtplblmhnccdgcaaGreat.AM

namespace Go.Proofs.YtplblmhnccdgcaaGreat.AM
open Go
section
variable {val : Cx} {P : Program} {T : Tab} {Γ : Syms} {π : Nat → Loc} {N : Nat} {g : Nat → Option AO} {h h' : Hp} {env : Tr AV} {a : Act} {w : World} {v : AV} {wl : Nat}

/-! ### names that move; a draw -/
theorem Step.move (h : HR val π N g w) {n : Nat} {o o' : AO} {O : Obj} {l : Loc} (hn : g n = some o) (hz : ¬ val.Z n) (hro : isRo o = false) (hl : l.blk = (π n).blk)
    (ho : OR val (upd1 π N l) (N + 1) N { w with heap := w.heap.setIfInBounds (π n).blk O } o') (hwl : wl ≤ n) :
    Step val π N g w (upd1 π N l) (N + 1) (gput (gdel g n) N o') { w with heap := w.heap.setIfInBounds (π n).blk O } wl := by
  have hblk : ∀ b, b ≠ (π n).blk → (w.heap.setIfInBounds (π n).blk O)[b]? = w.heap[b]? := fun b hb => by rw [Array.getElem?_setIfInBounds_ne (Ne.symm hb)]
  have hnN := h.lt n o hn
  have hother : ∀ m x, m ≠ N → gput (gdel g n) N o' m = some x → m ≠ n ∧ g m = some x := by
    intro m x e hm
    unfold gput gdel at hm
    rw [if_neg e] at hm
    split at hm
    · cases hm
    · exact ⟨by assumption, hm⟩
  have hself : ∀ x, gput (gdel g n) N o' N = some x → x = o' := by
    intro x hx
    unfold gput at hx
    rw [if_pos rfl] at hx
    injection hx with hx; exact hx.symm
  refine ⟨⟨?_, fun m hm => Nat.lt_succ_of_lt (h.zb m hm), ?_, ?_⟩, h.zb, fun m hm => upd1_old l hm.1, by omega, rfl, rfl, rfl, by simp, ?_, ?_, ?_⟩
  · intro m x hm
    by_cases e : m = N
    · omega
    · have := h.lt m x (hother m x e hm).2; omega
  · intro m x hm hzm
    by_cases e : m = N
    · subst e; rw [hself x hm]; exact ho
    · obtain ⟨h1, h2⟩ := hother m x e hm
      refine (h.ob m x h2 hzm).keep (by omega) (fun k hk => upd1_old l hk.1) ⟨h.lt m x h2, hzm⟩ (hblk _ ?_)
      exact h.ne m n x o h1 h2 hn hzm hz (by rw [hro]; simp)
  · intro m k x y hmk hm hk hzm hzk hr
    by_cases e1 : m = N
    · subst e1
      obtain ⟨h1, h2⟩ := hother k y (Ne.symm hmk) hk
      rw [upd1_new, upd1_old l (h.lt k y h2), hl]
      exact h.ne n k o y (Ne.symm h1) hn h2 hz hzk (by rw [hro]; simp)
    · obtain ⟨h1, h2⟩ := hother m x e1 hm
      by_cases e2 : k = N
      · subst e2
        rw [upd1_new, upd1_old l (h.lt m x h2), hl]
        exact h.ne m n x o h1 h2 hn hzm hz (by rw [hro]; simp)
      · obtain ⟨h3, h4⟩ := hother k y e2 hk
        rw [upd1_old l (h.lt m x h2), upd1_old l (h.lt k y h4)]
        exact h.ne m k x y hmk h2 h4 hzm hzk hr
  · intro b hb
    by_cases e : b = (π n).blk
    · exact .inr ⟨n, ⟨hnN, hz⟩, by rw [hn]; rfl, e.symm, hwl⟩
    · exact .inl (hblk b e)
  · intro m hs hm
    obtain ⟨x, hx⟩ := Option.isSome_iff_exists.1 hs
    by_cases e : m = N
    · subst e
      exact .inr ⟨n, ⟨hnN, hz⟩, by rw [hn]; rfl, by rw [upd1_new, hl], hwl⟩
    · have := h.lt m x (hother m x e hx).2; omega
  · intro m hm hs
    obtain ⟨x, hx⟩ := Option.isSome_iff_exists.1 hs
    rw [(hother m x (by omega) hx).2]; rfl
theorem Step.drew (h : HR val π N g w) (wl : Nat) : Step val π N g w π N g w.drew wl :=
  ⟨h.keep (fun _ _ => rfl), h.zb, fun _ _ => rfl, Nat.le_refl _, rfl, rfl, rfl, Nat.le_refl _, fun _ _ => .inl rfl, fun n hs hn => by
    obtain ⟨o, ho⟩ := Option.isSome_iff_exists.1 hs
    have := h.lt n o ho
    omega, fun _ _ h => h⟩

/-! ### the first cells of a slice -/
theorem getSub_ok {n off m : Nat} {c : List AV × Bool} (hg : getSub h n off m = .ok c) : ∃ cs, h.heap.get n = some (.cells cs c.2) ∧ off + m ≤ cs.length ∧ c.1 = sub cs off m := by
  unfold getSub at hg
  obtain ⟨d, h1, hg⟩ := R.bind_eq hg
  obtain ⟨b, hg⟩ := B_ok hg
  injection hg with hg; subst hg
  have := nble_true b
  rw [lenL_eq] at this
  exact ⟨d.1, getCells_ok h1, this, rfl⟩
theorem first_slice (hr : HR val π h.next h.heap.get w) {n off len es k : Nat} {cap : Option Nat} {X : Value} (hx : VR val π h.next (.slice n off len es cap) X) (hk : k ≤ len) {c : List AV × Bool} (hg : getSub h n off (k * es) = .ok c) :
    ∃ Xs : Array Value, (∀ w' : World, w'.heap = w.heap → (Builtin.firstCells es k X).run P w' = .ok Xs w') ∧ VRs val π h.next c.1 Xs.toList ∧ (∀ v ∈ c.1, sc v = true) ∧ c.1.length = k * es := by
  obtain ⟨cs, h1, h2, h3⟩ := getSub_ok hg
  obtain ⟨A, K, rfl, hn, hA, hK, _⟩ := hx.slice_inv
  obtain ⟨C, e, fr, g1, g2, g3, g4, g5, g6⟩ := hr.ob n _ h1 hn.2
  have hR := VRs.of_row g5 off (k * es) h2 (by omega)
  rw [← h3] at hR
  have hlen : c.1.length = k * es := by rw [h3, sub_eq]; simp; omega
  refine ⟨_, ?_, by simpa using hR, by rw [h3]; exact sc_sub g4 _ _, hlen⟩
  intro w' hw'
  rcases hA with h0 | h0
  · have : k = 0 := by omega
    subst this
    simp only [Builtin.firstCells, Nat.zero_mul]
    rfl
  · subst h0
    simp only [Builtin.firstCells]
    exact run_loadCells' (by rw [hw']; exact g1) (by omega)
theorem appNew_ok (hr : HR val π h.next h.heap.get w) {y : AV} {Y : Value} (hy : VR val π h.next y Y) {es k : Nat} {xs : List AV} (hn : appNew h es y = .ok (xs, k)) :
    (∀ w' : World, (Builtin.lenOf Y).run P w' = .ok k w') ∧ ∃ Xs : Array Value, (∀ w' : World, w'.heap = w.heap → (Builtin.firstCells es k Y).run P w' = .ok Xs w') ∧ VRs val π h.next xs Xs.toList ∧ (∀ v ∈ xs, sc v = true) ∧ xs.length = k * es := by
  unfold appNew at hn
  split at hn
  · injection hn with hn; injection hn with e1 e2; subst e1; subst e2
    rw [hy.nilslice_inv]
    exact ⟨fun _ => rfl, #[], fun _ _ => rfl, .nil, by simp, by simp⟩
  · rename_i n off len e cap
    obtain ⟨b, hn⟩ := B_ok hn
    have he := nbeq_true b
    subst he
    obtain ⟨c, h1, hn⟩ := R.bind_eq hn
    injection hn with hn; injection hn with e1 e2; subst e1; subst e2
    refine ⟨fun w' => ?_, first_slice hr hy (Nat.le_refl _) h1⟩
    obtain ⟨A, K, e, _⟩ := hy.slice_inv
    rw [e]; rfl
  · rename_i s
    obtain ⟨b, hn⟩ := B_ok hn
    have he := nbeq_true b
    subst he
    injection hn with hn; injection hn with e1 e2; subst e1; subst e2
    obtain ⟨S, rfl, hS⟩ := hy.str_inv
    have hsz : S.size = s.length := by rw [← hS]; simp
    rw [lenL_eq]
    refine ⟨fun w' => by simp [Builtin.lenOf, hsz], _, fun w' _ => rfl, ?_, ?_, by simp⟩
    · rw [← hsz]
      have e : (ByteArray.extract S 0 S.size).data = S.data := by
        rw [ByteArray.data_extract]
        exact Array.extract_size
      rw [e, ← hS]
      refine ⟨by simp, fun i u U hi hU => ?_⟩
      simp only [List.map_map, List.getElem?_map, Array.toList_map] at hi hU
      cases hc : S.data.toList[i]? with
      | none => rw [hc] at hi; cases hi
      | some c =>
        rw [hc] at hi hU
        injection hi with hi; injection hU with hU
        subst hi; subst hU
        exact .int _ _
    · intro u hu
      obtain ⟨c, _, rfl⟩ := List.mem_map.1 hu
      rfl
  · cases hn

/-! ### append, in the model's own words -/
theorem run_append_head {ats : Array TypeId} {As : Array Value} {ty t u e : TypeId} {du : TypeDesc} {es k sLen sCap : Nat} {base : Option Addr} {Y : Value} (ht : ats[0]? = some t) (hu : ats[1]? = some u) (hX : As[0]? = some (.slice base sLen sCap)) (hY : As[1]? = some Y)
    (hel : P.underlying t = some (.slice e)) (hdu : P.underlying u = some du) (hni : ∀ k, du ≠ .int k) (hsz : ∀ w, (Go.sizeOf e).run P w = .ok es w) (hlen : ∀ w', (Builtin.lenOf Y).run P w' = .ok k w') {Xs : Array Value} (hXs : ∀ w', w'.heap = w.heap → (Builtin.firstCells es k Y).run P w' = .ok Xs w') :
    (sLen + k ≤ sCap → ∀ w', (match base with | some A => (storeCells (A.add (sLen * es)) Xs.toList).run P w = .ok () w' | none => w' = w) → (Builtin.append_ ats ty As).run P w = .ok (.slice base (sLen + k) sCap) w') ∧
    (¬ sLen + k ≤ sCap → ∀ (i : TypeInfo) (z : Value) (Os : Array Value), P.info? e = some i → i.zero = some z → i.bytes ≤ 4096 → sLen + k ≤ 1048576 → (∀ w' : World, w'.heap = w.heap → (Builtin.firstCells es sLen (.slice base sLen sCap)).run P w' = .ok Os w') →
      (Builtin.append_ ats ty As).run P w = .ok (.slice (some ⟨w.heap.size, 0, none⟩) (sLen + k) (grownCap w (sLen + k) sCap e)) (w.drew.alloc (.cells (Os ++ Xs ++ Builtin.zeroCells z.cells (grownCap w (sLen + k) sCap e - (sLen + k))) e))) := by
  constructor
  · intro hfit w' hst
    simp only [Builtin.append_, ht, hu, hX, hY, Sem.run_bind, run_underlying hel, run_underlying hdu, Result.andThen_ok, hsz, Sem.run_pure, Bool.false_eq_true, if_false, hlen]
    rw [if_pos hfit]
    simp only [Bool.not_false, if_true, Sem.run_bind, hXs w rfl, Result.andThen_ok]
    cases base with
    | none => simp only [] at hst; subst hst; rfl
    | some A => simp only [] at hst; simp only [Sem.run_bind, hst, Result.andThen_ok, Sem.run_pure]
  · intro hno i z Os hi hz hb hL hOs
    have hc : Builtin.nextslicecap (sLen + k) sCap * i.bytes ≤ 281474976710656 := by
      refine growslice_fits (by omega) ?_
      have : (sLen + k) * i.bytes ≤ 1048576 * 4096 := Nat.mul_le_mul hL hb
      omega
    have e1 : ¬ (((sLen + k : Nat) : Int) > IntKind.i64.max ∧ (false = true ∨ i.bytes = 0)) := by
      intro h
      have : IntKind.i64.max = 9223372036854775807 := rfl
      omega
    simp only [Builtin.append_, ht, hu, hX, hY, Sem.run_bind, run_underlying hel, run_underlying hdu, Result.andThen_ok, hsz, Sem.run_pure, Bool.false_eq_true, if_false, hlen]
    rw [if_neg hno]
    have e2 : ¬ (((sLen + k : Nat) : Int) > IntKind.i64.max ∧ (False ∨ i.bytes = 0)) := fun h => e1 ⟨h.1, h.2.elim False.elim .inr⟩
    have e3 : ¬ (Builtin.nextslicecap (sLen + k) sCap * i.bytes > 2 ^ 48) := by
      have : (2 : Nat) ^ 48 = 281474976710656 := rfl
      omega
    have e4 : ∀ w' : World, (typeInfo e).run P w' = .ok i w' := fun w' => run_ti w' hi
    have e5 : ∀ w' : World, (zeroValue e).run P w' = .ok z w' := fun w' => by simp [zeroValue, e4, hz]
    simp only [Sem.run_bind, e4, Result.andThen_ok]
    rw [if_neg e2]
    simp only [Sem.run_bind, e4, Result.andThen_ok]
    rw [if_neg e3]
    simp only [Sem.run_bind, e4, Result.andThen_ok, run_choose_drew, Question.forced, Bool.false_eq_true, if_false, run_askRoom, hOs w.drew rfl, Bool.not_false, if_true, hXs w.drew rfl, e5, newRow, Sem.run_pure]
    rfl
end
end Go.Proofs.YtplblmhnccdgcaaGreat.AM

namespace Go.Proofs.YtplblmhnccdgcaaGreat.AM
open Go
section
variable {val : Cx} {P : Program} {T : Tab} {Γ : Syms} {π : Nat → Loc} {N : Nat} {g : Nat → Option AO} {h h' : Hp} {env : Tr AV} {a : Act} {w : World} {v : AV} {wl : Nat}
theorem grownCap_ge (w : World) (need old : Nat) (e : TypeId) : need ≤ grownCap w need old e := by
  unfold grownCap Question.cut
  exact Nat.le_add_right _ _
theorem zeroCells_size (z : Array Value) (n : Nat) : (Builtin.zeroCells z n).size = n * z.size := by simp [Builtin.zeroCells]
/-- A new row for what is appended. -/
theorem appFresh_ok (hr : HR val π h.next h.heap.get w) {ti : TI} {e : TypeId} {cs : List AV} {k : Nat} (hlen : cs.length = k * ti.es) {Cs : Array Value} (hv : VRs val π h.next cs Cs.toList) (hs : ∀ v ∈ cs, sc v = true)
    {z : Value} {m : Nat} (hz : z.cells.size = ti.es) (hm : k ≤ m) (hop : appFresh h ti.eb cs k ti.es = .ok (v, h')) :
    k ≤ 1048576 ∧ ti.eb ≤ 4096 ∧ Post val π h w v h' (.slice (some ⟨w.heap.size, 0, none⟩) k m) (w.drew.alloc (.cells (Cs ++ Builtin.zeroCells z.cells (m - k)) e)) := by
  unfold appFresh at hop
  obtain ⟨b1, hop⟩ := B_ok hop
  obtain ⟨b2, hop⟩ := B_ok hop
  refine ⟨nble_true b1, nble_true b2, ?_⟩
  unfold new at hop
  injection hop with hop; injection hop with e1 e2; subst e1; subst e2
  have hr2 : HR val π h.next h.heap.get w.drew := hr.keep (fun _ _ => rfl)
  have hsize : (Cs ++ Builtin.zeroCells z.cells (m - k)).size = m * ti.es := by
    have := hv.1
    simp only [Array.length_toList] at this
    rw [Array.size_append, zeroCells_size, hz, ← this, hlen, ← Nat.add_mul]
    congr 1; omega
  have hle : cs.length ≤ m * ti.es := by rw [hlen]; exact Nat.mul_le_mul_right _ hm
  refine ⟨Nat.le_refl _, upd1 π h.next ⟨w.heap.size, 0, m * ti.es⟩, ?_, ?_⟩
  · exact slice_made ⟨w.heap.size, 0, m * ti.es⟩ rfl hm (fun c hc => by cases hc) (fun _ => rfl) rfl _ _ _ _ (Live.top hr) (upd1_new _ _)
  · show Step val π h.next h.heap.get w _ (h.next + 1) (h.heap.putR h.next (.cells cs false)).get _ h.wl
    rw [get_putR_fun]
    refine (Step.drew hr h.wl).trans ?_ (Nat.le_refl _)
    refine Step.alloc hr2 _ _ _ rfl ?_ _
    refine OR.cells_new π ?_ hs _ (by rw [hsize]; exact Nat.le_refl _) hle
    have : (Cs ++ Builtin.zeroCells z.cells (m - k)).toList.take cs.length = Cs.toList := by
      rw [Array.toList_append, hv.1, List.take_left]
    rw [this]; exact hv
theorem append_ok (hT : TabTy P T) (hr : HR val π h.next h.heap.get w) {ats : Array TypeId} {As : Array Value} {ty t u : TypeId} {x y : AV} {X Y : Value} (ht : ats[0]? = some t) (hu : ats[1]? = some u) (hX : As[0]? = some X) (hY : As[1]? = some Y)
    (hx : VR val π h.next x X) (hy : VR val π h.next y Y) (hop : append T h t u x y = .ok (v, h')) :
    ∃ V w', (Builtin.append_ ats ty As).run P w = .ok V w' ∧ Post val π h w v h' V w' := by
  unfold append at hop
  obtain ⟨ti, h1, hop1⟩ := R.bind_eq hop; clear hop
  obtain ⟨tu, h2, hop2⟩ := R.bind_eq hop1; clear hop1
  obtain ⟨b0, hop3⟩ := B_no hop2; clear hop2
  obtain ⟨b1, hop4⟩ := B_ok hop3; clear hop3
  obtain ⟨⟨xs, k⟩, h3, hop5⟩ := R.bind_eq hop4; clear hop4
  simp only [] at hop5
  obtain ⟨e, hel, hE⟩ := (tyOf_ok hT h1).slice (nbeq_true b1)
  obtain ⟨du, hdu, hku⟩ := (tyOf_ok hT h2).und
  have hni : ∀ k, du ≠ .int k := by
    intro k e; subst e
    simp only [KindOK] at hku
    exact nbeq_false b0 hku.1
  obtain ⟨hlen, Xs, hXs, hv, hs, hxl⟩ := appNew_ok (P := P) hr hy h3
  obtain ⟨i, z, hi, hi1, hi2, hz, hzc, hzl⟩ := hE.info
  have hzs : z.cells.size = ti.es := by
    have := (constsB_VRs hzc (⟨fun _ => 0, fun _ => False⟩) (fun _ => ⟨0, 0, 0⟩) 0).1
    simp at this
    omega
  split at hop5
  · -- nothing yet
    have hX' := hx.nilslice_inv
    subst hX'
    obtain ⟨r1, r2⟩ := run_append_head (ty := ty) ht hu hX hY hel hdu hni (fun w => hE.size) hlen hXs
    cases hk : Nat.beq k 0 with
    | true =>
      rw [hk, B_true] at hop5
      injection hop5 with hop5; injection hop5 with e1 e2; subst e1; subst e2
      have hk0 := nbeq_true hk
      subst hk0
      exact ⟨_, _, r1 (Nat.le_refl _) w rfl, .same hr .nilslice⟩
    | false =>
      rw [hk, B_false] at hop5
      have hk0 := nbeq_false hk
      obtain ⟨q1, q2, q3⟩ := appFresh_ok (e := e) hr hxl hv hs hzs (grownCap_ge w k 0 e) hop5
      have r3 := r2 (by omega) i z #[] hi hz (by omega) (by omega) (fun w' _ => rfl)
      simp only [Nat.zero_add, Array.empty_append] at r3
      exact ⟨_, _, r3, q3⟩
  · rename_i n off len es cap
    obtain ⟨b2, hop6⟩ := B_ok hop5; clear hop5
    have hes := nbeq_true b2
    subst hes
    obtain ⟨A, K, rfl, hn, hA, hK, hc1, hc2⟩ := hx.slice_inv
    have hpos := hE.pos
    have hxl2 : xs.length = Xs.size := by simpa using hv.1
    obtain ⟨r1, r2⟩ := run_append_head (ty := ty) ht hu hX hY hel hdu hni (fun w => hE.size) hlen hXs
    -- in place, at the name itself
    have inplace : ∀ h2, len + k ≤ K → writeAt h n (Nat.add off (Nat.mul len ti.es)) xs = .ok h2 →
        ∃ V w', (Builtin.append_ ats ty As).run P w = .ok V w' ∧ Post val π h w (.slice n off (Nat.add len k) ti.es cap) h2 V w' := by
      intro h2 hfit hw
      obtain ⟨w', g1, g2, g3, g4, ⟨cs, g5, g6⟩, g7⟩ := writeAt_ok (P := P) hr hn.2 hv hs hw
      refine ⟨_, w', r1 hfit w' ?_, g3, π, ?_, g7⟩
      · show (storeCells (A.add (len * ti.es)) Xs.toList).run P w = .ok () w'
        rcases hA with h0 | h0
        · have hl0 : Xs = #[] := by
            have : Xs.size = 0 := by rw [← hxl2, hxl]; have : k = 0 := by omega
                                     subst this; simp
            exact Array.eq_empty_of_size_eq_zero this
          subst hl0
          have : w' = w := by
            have : (storeCells ⟨(π n).blk, (π n).base + Nat.add off (Nat.mul len ti.es), none⟩ ([] : List Value)).run P w = .ok () w := rfl
            rw [this] at g1
            injection g1 with _ g1; exact g1.symm
          rw [this]; rfl
        · rw [h0, addr_add, Nat.add_assoc]; exact g1
      · rw [g2]
        exact .slice n off _ _ cap A K hn hA hfit hc1 hc2
    -- a new row
    have fresh : ∀ (h0 : Hp) (c : List AV × Bool), h0.next = h.next → HR val π h.next h0.heap.get w → ¬ len + k ≤ K → getSub h n off (Nat.mul len ti.es) = .ok c → appFresh h0 ti.eb (catL c.1 xs) (Nat.add len k) ti.es = .ok (v, h') →
        ∃ V w', (Builtin.append_ ats ty As).run P w = .ok V w' ∧ Post val π h0 w v h' V w' := by
      intro h0 c hnx hr0 hno hg hf
      obtain ⟨Os, o1, o2, o3, o4⟩ := first_slice (P := P) hr hx (Nat.le_refl _) hg
      rw [catL_eq] at hf
      have hlen2 : (c.1 ++ xs).length = (len + k) * ti.es := by rw [List.length_append, o4, hxl, Nat.add_mul]
      have hv2 : VRs val π h0.next (c.1 ++ xs) (Os ++ Xs).toList := by rw [Array.toList_append, hnx]; exact o2.append hv
      have hs2 : ∀ v ∈ c.1 ++ xs, sc v = true := fun v hv => (List.mem_append.1 hv).elim (o3 v) (hs v)
      obtain ⟨q1, q2, q3⟩ := appFresh_ok (h := h0) (by rw [hnx]; exact hr0) (e := e) hlen2 hv2 hs2 hzs (grownCap_ge w (len + k) K e) hf
      exact ⟨_, _, r2 hno i z Os hi hz (by omega) q1 o1, q3⟩
    unfold appS at hop6
    split at hop6
    · rename_i cp
      have hKc := (hc1 cp rfl).1
      cases hf : Nat.ble (Nat.add len k) cp with
      | true =>
        rw [hf, B_true] at hop6
        have hfit : len + k ≤ K := by have := nble_true hf; rw [Nat.add_eq] at this; omega
        cases hk : Nat.beq k 0 with
        | true =>
          rw [hk, B_true] at hop6
          injection hop6 with hop6; injection hop6 with e1 e2; subst e1; subst e2
          have hk0 := nbeq_true hk
          subst hk0
          have hl0 : Xs = #[] := Array.eq_empty_of_size_eq_zero (by rw [← hxl2, hxl]; simp)
          subst hl0
          exact ⟨_, _, r1 hfit w rfl, .same hr hx⟩
        | false =>
          rw [hk, B_false] at hop6
          obtain ⟨h2, hw, hop7⟩ := R.bind_eq hop6
          injection hop7 with hop7; injection hop7 with e1 e2; subst e1; subst e2
          exact inplace h2 hfit hw
      | false =>
        rw [hf, B_false] at hop6
        obtain ⟨c, hg, hop7⟩ := R.bind_eq hop6
        have := nble_false hf
        rw [Nat.add_eq] at this
        exact fresh h c rfl hr (by omega) hg hop7
    · have hfin := hc2 rfl
      cases hk : Nat.beq k 0 with
      | true =>
        rw [hk, B_true] at hop6
        injection hop6 with hop6; injection hop6 with e1 e2; subst e1; subst e2
        have hk0 := nbeq_true hk
        subst hk0
        have hl0 : Xs = #[] := Array.eq_empty_of_size_eq_zero (by rw [← hxl2, hxl]; simp)
        subst hl0
        exact ⟨_, _, r1 hK w rfl, .same hr hx⟩
      | false =>
        rw [hk, B_false] at hop6
        obtain ⟨c, hg, hop7⟩ := R.bind_eq hop6; clear hop6
        obtain ⟨b3, hop8⟩ := B_no hop7; clear hop7
        have hob := getCells_ok hg
        rw [b3] at hob
        obtain ⟨C, e', fr, g1, g2, g3, g4, g5, g6⟩ := hr.ob n _ hob hn.2
        cases hf : Nat.ble (Nat.add (Nat.add off (Nat.mul len ti.es)) (lenL xs)) (lenL c.1) with
        | true =>
          rw [hf, B_true] at hop8
          obtain ⟨h2, hw, hop9⟩ := R.bind_eq hop8
          injection hop9 with hop9; injection hop9 with e1 e2; subst e1; subst e2
          have hb := nble_true hf
          simp only [lenL_eq, Nat.add_eq, Nat.mul_eq, hxl] at hb
          have hfit : len + k ≤ K := by
            have h5 : (len + k) * ti.es ≤ K * ti.es := by rw [Nat.add_mul]; omega
            exact Nat.le_of_mul_le_mul_right h5 hpos
          exact inplace h2 hfit hw
        | false =>
          rw [hf, B_false] at hop8
          obtain ⟨b4, hop9⟩ := B_ok hop8; clear hop8
          have hend := nbeq_true b4
          simp only [lenL_eq, Nat.add_eq, Nat.mul_eq] at hend
          have hgs : getSub h n off (Nat.mul len ti.es) = .ok (sub c.1 off (Nat.mul len ti.es), c.2) := by
            unfold getSub
            rw [hg, R.bind_ok]
            have : Nat.ble (Nat.add off (Nat.mul len ti.es)) (lenL c.1) = true := by
              rw [lenL_eq]; exact Nat.ble_eq_true_of_le (by simp only [Nat.add_eq, Nat.mul_eq]; omega)
            rw [this]; rfl
          have hfg : Step val π h.next h.heap.get w π h.next (h.heap.del n).get w (lower h.wl n) := by
            rw [get_del_fun]
            exact Step.forget hr (fun m o hm => by unfold gdel at hm; split at hm; · cases hm
                                                   · exact hm) _
          by_cases hfit : len + k ≤ K
          · -- in place, under a new name
            have hl2 : ¬ (k = 0) := nbeq_false hk
            unfold appFresh at hop9
            obtain ⟨_, hop10⟩ := B_ok hop9; clear hop9
            obtain ⟨_, hop11⟩ := B_ok hop10; clear hop10
            unfold new at hop11
            injection hop11 with hop11; injection hop11 with e1 e2; subst e1; subst e2
            have hA' : A = ⟨(π n).blk, (π n).base + off, none⟩ := by
              rcases hA with h0 | h0
              · omega
              · exact h0
            have hmulf : (len + k) * ti.es ≤ K * ti.es := Nat.mul_le_mul_right _ hfit
            rw [Nat.add_mul] at hmulf
            have hroom : (π n).base + off + len * ti.es + Xs.toList.length ≤ C.size := by
              rw [← hv.1, hxl]; omega
            have hst := run_storeCells (P := P) Xs.toList 0 w C ((π n).base + off + len * ti.es) (by rw [g1, g6 rfl]) (by omega) (oneCells hv hs)
            rw [Nat.add_zero] at hst
            refine ⟨_, _, r1 hfit _ (by show (storeCells (A.add (len * ti.es)) Xs.toList).run P w = .ok () _; rw [hA', addr_add]; exact hst), (lower_le _ _).1, upd1 π h.next ⟨(π n).blk, (π n).base + off, (π n).fin⟩, ?_, ?_⟩
            · refine VR.slice _ _ _ _ _ _ _ ⟨Nat.lt_succ_self _, fun hz => by have := hr.zb _ hz; simp at this⟩ (.inr ?_) hfit (fun c hc => by cases hc) (fun _ => ?_)
              · rw [upd1_new, hA']; rfl
              · rw [upd1_new]; show (π n).base + off + 0 + K * ti.es = (π n).fin; omega
            · show Step val π h.next h.heap.get w _ (h.next + 1) ((h.heap.del n).putR h.next (.cells _ false)).get _ (lower h.wl n)
              rw [get_putR_fun, get_del_fun]
              refine Step.move hr hob hn.2 rfl rfl ?_ (lower_le _ _).2
              rw [catL_eq]
              have hsl : (sub c.1 off (Nat.mul len ti.es)).length = len * ti.es := by rw [sub_eq]; simp only [List.length_take, List.length_drop, Nat.mul_eq]; omega
              refine ⟨layA C ((π n).base + off + len * ti.es) Xs.toList, e', (0, 0), ?_, ?_, ?_, ?_, ?_, fun _ => rfl⟩
              · have := (Array.getElem?_eq_some_iff.1 g1).1
                rw [upd1_new]
                simp [this]
              · rw [upd1_new, layA_size]; exact g2
              · rw [upd1_new, List.length_append, hsl, hxl]; show (π n).base + off + (len * ti.es + k * ti.es) ≤ (π n).fin; omega
              · intro u hu
                exact (List.mem_append.1 hu).elim (sc_sub g4 _ _ u) (hs u)
              · intro j u hj
                rw [upd1_new]
                show ∃ V, (layA C ((π n).base + off + len * ti.es) Xs.toList)[(π n).base + off + j]? = some V ∧ _
                rw [layA_get]
                have hjl : j < len * ti.es + k * ti.es := by
                  have := (List.getElem?_eq_some_iff.1 hj).1
                  rw [List.length_append, hsl, hxl] at this; exact this
                rw [if_pos (by omega)]
                rw [List.getElem?_append, hsl] at hj
                split at hj
                · rename_i hjs
                  rw [if_neg (by omega)]
                  rw [sub_eq, List.getElem?_take, List.getElem?_drop] at hj
                  split at hj
                  · obtain ⟨V, hV, hr'⟩ := g5 _ u hj
                    refine ⟨V, by rw [← hV]; congr 1; omega, hr'.mono (by omega) (fun m hm => upd1_old _ hm.1)⟩
                  · cases hj
                · rename_i hjs
                  have hxx : Xs.toList.length = k * ti.es := by rw [← hv.1, hxl]
                  rw [if_pos (by omega)]
                  have ej : (π n).base + off + j - ((π n).base + off + len * ti.es) = j - len * ti.es := by omega
                  rw [ej]
                  obtain ⟨V, hV, hr'⟩ := hv.get hj
                  exact ⟨V, hV, hr'.mono (by omega) (fun m hm => upd1_old _ hm.1)⟩
          · obtain ⟨V, w', q1, q2, π', q3, q4⟩ := fresh { heap := h.heap.del n, next := h.next, wl := lower h.wl n } _ rfl hfg.hr hfit hgs hop9
            refine ⟨V, w', q1, Nat.le_trans q2 (lower_le _ _).1, π', q3, ?_⟩
            exact hfg.trans q4 q2
  · cases hop5
end
end Go.Proofs.YtplblmhnccdgcaaGreat.AM

namespace Go.Proofs.YtplblmhnccdgcaaGreat.AM
open Go
section
variable {val : Cx} {P : Program} {T : Tab} {Γ : Syms} {π : Nat → Loc} {N : Nat} {g : Nat → Option AO} {h h' : Hp} {env : Tr AV} {a : Act} {w : World} {v : AV} {wl : Nat}
theorem nat_VR (n : Nat) : VR val π N (nat n) (goInt (n : Int)) := .int _ _
theorem TyOK.map' {t : TypeId} {ti : TI} (h : TyOK P t ti) (hk : ti.kind = 3) : ∃ k e, P.underlying t = some (.map k e) := by
  obtain ⟨k, e, hm, _⟩ := h.map hk
  exact ⟨k, e, hm⟩
theorem lenV_ok (hr : HR val π h.next h.heap.get w) {ats : Array TypeId} {As : Array Value} {ty t : TypeId} {ti : TI} (hty : TyOK P t ti) {x : AV} {X : Value} (ht : ats[0]? = some t) (hX : As[0]? = some X)
    (hx : VR val π h.next x X) (hop : lenV ti h x = .ok v) : ∃ V, (Builtin.len_ ats ty As).run P w = .ok V w ∧ VR val π h.next v V := by
  unfold lenV at hop
  split at hop
  · obtain ⟨b, hop⟩ := B_ok hop
    injection hop with hop; subst hop
    obtain ⟨e, hel, _⟩ := hty.slice (nbeq_true b)
    rw [hx.nilslice_inv] at hX
    refine ⟨_, ?_, nat_VR 0⟩
    simp only [Builtin.len_, ht, hX, Sem.run_bind, run_underlying hel, Result.andThen_ok, Sem.run_pure]
  · obtain ⟨b, hop⟩ := B_ok hop
    injection hop with hop; subst hop
    obtain ⟨e, hel, _⟩ := hty.slice (nbeq_true b)
    obtain ⟨A, K, rfl, _⟩ := hx.slice_inv
    refine ⟨_, ?_, nat_VR _⟩
    simp only [Builtin.len_, ht, hX, Sem.run_bind, run_underlying hel, Result.andThen_ok, Sem.run_pure]
  · obtain ⟨b, hop⟩ := B_ok hop
    injection hop with hop; subst hop
    have hel := hty.string (nbeq_true b)
    obtain ⟨S, rfl, hS⟩ := hx.str_inv
    refine ⟨_, ?_, nat_VR _⟩
    simp only [Builtin.len_, ht, hX, Sem.run_bind, run_underlying hel, Result.andThen_ok, Sem.run_pure]
    have hsz : S.size = S.data.toList.length := by simp
    rw [lenL_eq, ← hS, List.length_map, hsz]
  · obtain ⟨b, hop⟩ := B_ok hop
    injection hop with hop; subst hop
    obtain ⟨k, e, hel⟩ := hty.map' (nbeq_true b)
    have : X = .map none := by cases hx; rfl
    subst this
    refine ⟨goInt 0, ?_, nat_VR 0⟩
    simp only [Builtin.len_, ht, hX, Sem.run_bind, run_underlying hel, Result.andThen_ok, Sem.run_pure]
  · rename_i n
    obtain ⟨b, hop⟩ := B_ok hop
    obtain ⟨k, e, hel⟩ := hty.map' (nbeq_true b)
    split at hop
    · rename_i es hes
      injection hop with hop; subst hop
      have hnn : Live val h.next n := by cases hx; assumption
      have : X = .map (some (π n).blk) := by cases hx; rfl
      subst this
      obtain ⟨E, cl, hE, hR⟩ := (hr.ob n _ hes hnn.2).map_inv
      refine ⟨_, ?_, nat_VR _⟩
      simp only [Builtin.len_, ht, hX, Sem.run_bind, run_underlying hel, Result.andThen_ok, Sem.run_pure, MapKept.run_getObj_map hE]
      have := hR.1
      rw [lenL_eq, this]
      simp
    · cases hop
  · cases hop
theorem capV_ok (hr : HR val π h.next h.heap.get w) {ats : Array TypeId} {As : Array Value} {ty t : TypeId} {ti : TI} (hty : TyOK P t ti) {x : AV} {X : Value} (ht : ats[0]? = some t) (hX : As[0]? = some X)
    (hx : VR val π h.next x X) (hop : capV ti h x = .ok v) : ∃ V, (Builtin.cap_ ats ty As).run P w = .ok V w ∧ VR val π h.next v V := by
  unfold capV at hop
  obtain ⟨b, hop'⟩ := B_ok hop
  clear hop
  have hop := hop'
  clear hop'
  obtain ⟨e, hel, _⟩ := hty.slice (nbeq_true b)
  split at hop
  · injection hop with hop; subst hop
    rw [hx.nilslice_inv] at hX
    refine ⟨_, ?_, nat_VR 0⟩
    simp only [Builtin.cap_, ht, hX, Sem.run_bind, run_underlying hel, Result.andThen_ok, Sem.run_pure]
  · injection hop with hop; subst hop
    obtain ⟨A, K, rfl, _, _, _, hc, _⟩ := hx.slice_inv
    have := (hc _ rfl).1
    subst this
    refine ⟨_, ?_, nat_VR _⟩
    simp only [Builtin.cap_, ht, hX, Sem.run_bind, run_underlying hel, Result.andThen_ok, Sem.run_pure]
  · rename_i n off len es
    obtain ⟨c, hg, hop⟩ := R.bind_eq hop
    obtain ⟨b2, hop⟩ := B_ok hop
    injection hop with hop; subst hop
    obtain ⟨A, K, rfl, hn, _, _, _, hc⟩ := hx.slice_inv
    have hc := hc rfl
    obtain ⟨C, e', fr, g1, g2, g3, g4, g5, g6⟩ := hr.ob n _ (getCells_ok hg) hn.2
    refine ⟨.int .i64 (K : Int), ?_, .ge _ _ ?_⟩
    · simp only [Builtin.cap_, ht, hX, Sem.run_bind, run_underlying hel, Result.andThen_ok, Sem.run_pure]; rfl
    · have hpos := nble_true b2
      rw [lenL_eq]
      show (c.1.length - off) / es ≤ K
      have : c.1.length - off ≤ K * es := by omega
      exact (Nat.div_le_iff_le_mul_add_pred hpos).2 (by rw [Nat.mul_comm]; omega)
  · cases hop
theorem isSeq_ok {y : AV} {Y : Value} (hy : VR val π N y Y) (hs : isSeq y = true) : ∃ k, ∀ w : World, (Builtin.lenOf Y).run P w = .ok k w := by
  cases y <;> first | (cases hs; done) | skip
  · obtain ⟨S, rfl, _⟩ := hy.str_inv
    exact ⟨S.size, fun _ => rfl⟩
  · rw [hy.nilslice_inv]; exact ⟨0, fun _ => rfl⟩
  · obtain ⟨A, K, rfl, _⟩ := hy.slice_inv
    exact ⟨_, fun _ => rfl⟩
theorem store_slice {n off len es K : Nat} {A : Addr} (hA : K = 0 ∨ A = ⟨(π n).blk, (π n).base + off, none⟩) (hK : len ≤ K) {Xs : List Value} {m : Nat} (hm : m ≤ len) (hX : Xs.length = m * es) {w' : World}
    (hst : (storeCells ⟨(π n).blk, (π n).base + off, none⟩ Xs).run P w = .ok () w') : (storeCells A Xs).run P w = .ok () w' := by
  rcases hA with h0 | h0
  · have : m = 0 := by omega
    subst this
    have : Xs = [] := by simpa using hX
    subst this
    have e1 : (storeCells ⟨(π n).blk, (π n).base + off, none⟩ ([] : List Value)).run P w = .ok () w := rfl
    rw [e1] at hst
    injection hst with _ hst
    rw [← hst]; rfl
  · rw [h0]; exact hst
theorem lower_min (a b : Nat) : lower a b = Nat.min a b := by
  unfold lower
  cases e : Nat.ble a b with
  | true => have := nble_true e; simp only []; show a = min a b; omega
  | false => have := nble_false e; simp only []; show b = min a b; omega
theorem copyV_ok (hr : HR val π h.next h.heap.get w) {ats : Array TypeId} {As : Array Value} {ty t : TypeId} {ti : TI} (hty : TyOK P t ti) {x y : AV} {X Y : Value} (ht : ats[0]? = some t) (hX : As[0]? = some X) (hY : As[1]? = some Y)
    (hx : VR val π h.next x X) (hy : VR val π h.next y Y) (hop : copyV ti h x y = .ok (v, h')) :
    ∃ V w', (Builtin.copy_ ats ty As).run P w = .ok V w' ∧ Post val π h w v h' V w' := by
  unfold copyV at hop
  obtain ⟨b, hop1⟩ := B_ok hop; clear hop
  obtain ⟨e, hel, hE⟩ := hty.slice (nbeq_true b)
  split at hop1
  · obtain ⟨b2, hop2⟩ := B_ok hop1; clear hop1
    injection hop2 with hop2; injection hop2 with e1 e2; subst e1; subst e2
    rw [hx.nilslice_inv] at hX
    obtain ⟨k, hk⟩ := isSeq_ok (P := P) hy b2
    refine ⟨goInt 0, w, ?_, .same hr (nat_VR 0)⟩
    have hf : ∀ n, n = 0 → ∃ c, (Builtin.firstCells ti.es n Y).run P w = .ok c w := by
      intro n hn
      subst hn
      cases y <;> first | (cases b2; done) | skip
      · obtain ⟨S, rfl, _⟩ := hy.str_inv
        exact ⟨_, rfl⟩
      · rw [hy.nilslice_inv]; exact ⟨_, rfl⟩
      · obtain ⟨A, K, rfl, _⟩ := hy.slice_inv
        simp only [Builtin.firstCells, Nat.zero_mul]
        exact ⟨_, rfl⟩
    have hm : Nat.min k 0 = 0 := by show min k 0 = 0; omega
    obtain ⟨c, hc⟩ := hf 0 rfl
    simp only [Builtin.copy_, ht, hX, hY, Sem.run_bind, run_underlying hel, Result.andThen_ok, hk, hE.size, hc, Sem.run_pure, hm]
    rfl
  · rename_i n off len es cap
    obtain ⟨b2, hop2⟩ := B_ok hop1; clear hop1
    have hes := nbeq_true b2
    subst hes
    obtain ⟨A, K, rfl, hn, hA, hK, _⟩ := hx.slice_inv
    split at hop2
    · rename_i n' off' len' es' cap'
      obtain ⟨b3, hop3⟩ := B_ok hop2; clear hop2
      have hes := nbeq_true b3
      subst hes
      obtain ⟨c, hg, hop4⟩ := R.bind_eq hop3; clear hop3
      obtain ⟨h2, hw, hop5⟩ := R.bind_eq hop4; clear hop4
      injection hop5 with hop5; injection hop5 with e1 e2; subst e1; subst e2
      obtain ⟨Xs, hXs, hv, hs, hl⟩ := first_slice (P := P) hr hy (lower_le len' len).1 hg
      obtain ⟨w', g1, g2, g3, g4, ⟨cs, g5, g6⟩, g7⟩ := writeAt_ok (P := P) hr hn.2 hv hs hw
      have hlY : ∀ w : World, (Builtin.lenOf Y).run P w = .ok len' w := by
        obtain ⟨A', K', e, _⟩ := hy.slice_inv
        rw [e]; exact fun _ => rfl
      have hst := store_slice (P := P) hA hK (lower_le len' len).2 (by rw [← hv.1, hl]) g1
      refine ⟨_, w', ?_, g3, π, nat_VR _, g7⟩
      rw [lower_min] at hXs ⊢
      simp only [Builtin.copy_, ht, hX, hY, Sem.run_bind, run_underlying hel, Result.andThen_ok, hlY, hE.size, hXs w rfl, hst, Sem.run_pure]
    · injection hop2 with hop2; injection hop2 with e1 e2; subst e1; subst e2
      rw [hy.nilslice_inv] at hY
      refine ⟨goInt 0, w, ?_, .same hr (nat_VR 0)⟩
      have hm : Nat.min 0 len = 0 := by show min 0 len = 0; omega
      simp only [Builtin.copy_, ht, hX, hY, Sem.run_bind, run_underlying hel, Result.andThen_ok, hE.size, Builtin.lenOf, Builtin.firstCells, Sem.run_pure, hm]
      rfl
    · cases hop2
  · cases hop1
theorem clearV_ok (hr : HR val π h.next h.heap.get w) {ats : Array TypeId} {As : Array Value} {ty t : TypeId} {ti : TI} (hty : TyOK P t ti) {x : AV} {X : Value} (ht : ats[0]? = some t) (hX : As[0]? = some X)
    (hx : VR val π h.next x X) (hop : clearV ti h x = .ok (v, h')) :
    ∃ V w', (Builtin.clear_ ats ty As).run P w = .ok V w' ∧ Post val π h w v h' V w' := by
  unfold clearV at hop
  obtain ⟨b, hop1⟩ := B_ok hop; clear hop
  obtain ⟨e, hel, hE⟩ := hty.slice (nbeq_true b)
  split at hop1
  · rename_i n off len es cap
    obtain ⟨b2, hop2⟩ := B_ok hop1; clear hop1
    have hes := nbeq_true b2
    subst hes
    obtain ⟨A, K, rfl, hn, hA, hK, _⟩ := hx.slice_inv
    cases hl : Nat.beq len 0 with
    | true =>
      rw [hl, B_true] at hop2
      injection hop2 with hop2; injection hop2 with e1 e2; subst e1; subst e2
      have := nbeq_true hl
      subst this
      refine ⟨undef, w, ?_, .same hr (VR_undef _ _ _)⟩
      simp only [Builtin.clear_, ht, hX, Sem.run_bind, run_underlying hel, Result.andThen_ok, Sem.run_pure]
      rfl
    | false =>
      rw [hl, B_false] at hop2
      have hl0 := nbeq_false hl
      obtain ⟨h2, hw, hop3⟩ := R.bind_eq hop2; clear hop2
      injection hop3 with hop3; injection hop3 with e1 e2; subst e1; subst e2
      obtain ⟨z, hz, hc, hzs⟩ := hE.zero (w := w)
      have hv := repL_VRs (constsB_VRs hc val π h.next) hzs len
      obtain ⟨w', g1, g2, g3, g4, ⟨cs, g5, g6⟩, g7⟩ := writeAt_ok (P := P) hr hn.2 hv (sc_rep (constsB_sc hc) len) hw
      have e3 : Builtin.zeroCells z.cells len = (Array.range (len * ti.es)).map (z.cells[· % z.cells.size]!) := by
        unfold Builtin.zeroCells; rw [hzs]
      rw [← e3] at g1
      have hst := store_slice (P := P) (es := ti.es) hA hK (Nat.le_refl _) (by simp [Builtin.zeroCells, hzs]) g1
      obtain ⟨m, rfl⟩ : ∃ m, len = m + 1 := ⟨len - 1, by omega⟩
      refine ⟨undef, w', ?_, g3, π, VR_undef _ _ _, g7⟩
      simp only [Builtin.clear_, ht, hX, Sem.run_bind, run_underlying hel, Result.andThen_ok, hz, hst, Sem.run_pure]
      rfl
  · injection hop1 with hop1; injection hop1 with e1 e2; subst e1; subst e2
    rw [hx.nilslice_inv] at hX
    refine ⟨undef, w, ?_, .same hr (VR_undef _ _ _)⟩
    simp only [Builtin.clear_, ht, hX, Sem.run_bind, run_underlying hel, Result.andThen_ok, Sem.run_pure]
    rfl
  · cases hop1
theorem minV_ok {x y : AV} {X Y : Value} {ats : Array TypeId} {As : Array Value} {ty : TypeId} (hA : As.toList = [X, Y]) (hx : VR val π N x X) (hy : VR val π N y Y) (hop : minV x y = .ok v) :
    ∃ V, (Builtin.min_ ats ty As).run P w = .ok V w ∧ VR val π N v V := by
  unfold minV at hop
  split at hop
  · rename_i j p k q
    obtain ⟨b, hop'⟩ := B_ok hop
    clear hop
    have hjk := of_decide_eq_true b
    subst hjk
    injection hop' with hop; subst hop
    rw [hx.int_inv, hy.int_inv] at hA
    refine ⟨.int j (if q < p then q else p), ?_, ?_⟩
    · simp only [Builtin.min_, hA, List.foldlM_cons, List.foldlM_nil, Sem.run_bind, Builtin.min2, Sem.run_pure, Result.andThen_ok]
    · rw [ile_eq]
      by_cases h : p ≤ q
      · have h2 : ¬ q < p := by omega
        simp [h, h2]; exact .int _ _
      · have h2 : q < p := by omega
        simp [h, h2]; exact .int _ _
  · cases hop
theorem builtin_ok (hT : TabTy P T) (hr : HR val π h.next h.heap.get w) {b : Builtin} {ats : Array TypeId} {ty : TypeId} {cs : Array Bool} {vs : List AV} {As : Array Value} (hv : VRs val π h.next vs As.toList) (hop : builtin T h b ats.toList vs = .ok (v, h')) :
    ∃ V w', (Go.builtin b ats ty cs As).run P w = .ok (.value V) w' ∧ Post val π h w v h' V w' := by
  have hats : ∀ {t : TypeId} {l : List TypeId}, ats.toList = t :: l → ats[0]? = some t := by
    intro t l e
    rw [← Array.getElem?_toList, e]; rfl
  have hats1 : ∀ {t u : TypeId} {l : List TypeId}, ats.toList = t :: u :: l → ats[1]? = some u := by
    intro t u l e
    rw [← Array.getElem?_toList, e]; rfl
  have hA0 : ∀ {X : Value} {l : List Value}, As.toList = X :: l → As[0]? = some X := by
    intro t l e
    rw [← Array.getElem?_toList, e]; rfl
  have hA1 : ∀ {X Y : Value} {l : List Value}, As.toList = X :: Y :: l → As[1]? = some Y := by
    intro t u l e
    rw [← Array.getElem?_toList, e]; rfl
  unfold builtin at hop
  split at hop
  · rename_i x t l hl
    obtain ⟨ti, h1, hop1⟩ := R.bind_eq hop; clear hop
    obtain ⟨u, h2, hop2⟩ := R.bind_eq hop1; clear hop1
    injection hop2 with hop2; injection hop2 with e1 e2; subst e1; subst e2
    obtain ⟨X, l', hA, hx, _⟩ := hv.head
    obtain ⟨V, r1, r2⟩ := lenV_ok (ty := ty) hr (tyOf_ok hT h1) (hats hl) (hA0 hA) hx h2
    exact ⟨V, w, by simp [Go.builtin, r1], .same hr r2⟩
  · rename_i x t l hl
    obtain ⟨ti, h1, hop1⟩ := R.bind_eq hop; clear hop
    obtain ⟨u, h2, hop2⟩ := R.bind_eq hop1; clear hop1
    injection hop2 with hop2; injection hop2 with e1 e2; subst e1; subst e2
    obtain ⟨X, l', hA, hx, _⟩ := hv.head
    obtain ⟨V, r1, r2⟩ := capV_ok (ty := ty) hr (tyOf_ok hT h1) (hats hl) (hA0 hA) hx h2
    exact ⟨V, w, by simp [Go.builtin, r1], .same hr r2⟩
  · rename_i x y t u l hl
    obtain ⟨X, l', hA, hx, hv'⟩ := hv.head
    obtain ⟨Y, l'', rfl, hy, _⟩ := hv'.head
    obtain ⟨V, w', r1, r2⟩ := append_ok (ty := ty) hT hr (hats hl) (hats1 hl) (hA0 hA) (hA1 hA) hx hy hop
    exact ⟨V, w', by simp [Go.builtin, r1], r2⟩
  · rename_i x y t l hl
    obtain ⟨ti, h1, hop1⟩ := R.bind_eq hop; clear hop
    obtain ⟨X, l', hA, hx, hv'⟩ := hv.head
    obtain ⟨Y, l'', rfl, hy, _⟩ := hv'.head
    obtain ⟨V, w', r1, r2⟩ := copyV_ok (ty := ty) hr (tyOf_ok hT h1) (hats hl) (hA0 hA) (hA1 hA) hx hy hop1
    exact ⟨V, w', by simp [Go.builtin, r1], r2⟩
  · rename_i x t l hl
    obtain ⟨ti, h1, hop1⟩ := R.bind_eq hop; clear hop
    obtain ⟨X, l', hA, hx, _⟩ := hv.head
    obtain ⟨V, w', r1, r2⟩ := clearV_ok (ty := ty) hr (tyOf_ok hT h1) (hats hl) (hA0 hA) hx hop1
    exact ⟨V, w', by simp [Go.builtin, r1], r2⟩
  · rename_i x y l
    obtain ⟨u, h2, hop2⟩ := R.bind_eq hop; clear hop
    injection hop2 with hop2; injection hop2 with e1 e2; subst e1; subst e2
    obtain ⟨X, l', hA, hx, hv'⟩ := hv.head
    obtain ⟨Y, l'', rfl, hy, hn⟩ := hv'.head
    rw [hn.of_nil] at hA
    obtain ⟨V, r1, r2⟩ := minV_ok (P := P) (w := w) (ats := ats) (ty := ty) hA hx hy h2
    exact ⟨V, w, by simp [Go.builtin, r1], .same hr r2⟩
  · cases hop
end
end Go.Proofs.YtplblmhnccdgcaaGreat.AM

namespace Go.Proofs.YtplblmhnccdgcaaGreat.AM
open Go

/-- What an operation brings about, in plain words. -/
def Runs (P : Program) (o : Oper) (a : Act) (w : World) (Q : Value → World → Prop) : Prop :=
  match (execOp a.eval o).run P w with
  | .ok (.value V) w' => Q V w'
  | .ok .skip w' => Q undef w'
  | .ok (.enter f args) w' => Calls P f args w' (fun e w'' => ∃ V, e = .returned V ∧ Q V w'')
  | _ => False
theorem Runs.wp {P : Program} {o : Oper} {a : Act} {w : World} {R : Value → World → Prop} (h : Runs P o a w R) {K : Act → World → Prop} {Q : Exit → Act → World → Prop} (hK : ∀ V w', R V w' → K (a.put o.dst V) w') : o.wp P a w K Q := by
  unfold Runs at h
  unfold Oper.wp
  generalize (execOp a.eval o).run P w = r at h
  cases r with
  | ok n w' =>
    cases n <;> simp only [] at h <;> simp only [Oper.upon] <;> first | exact h.elim | skip
    · exact hK _ _ h
    · exact hK _ _ h
    · exact h.mono fun e w'' he => by obtain ⟨V, rfl, hR⟩ := he; exact hK _ _ hR
  | halt x w' => exact h.elim
theorem Runs.of_value {P : Program} {o : Oper} {a : Act} {w w' : World} {R : Value → World → Prop} {V : Value} (h : (execOp a.eval o).run P w = .ok (.value V) w') (hR : R V w') : Runs P o a w R := by
  unfold Runs; rw [h]; exact hR
theorem Runs.of_skip {P : Program} {o : Oper} {a : Act} {w w' : World} {R : Value → World → Prop} (h : (execOp a.eval o).run P w = .ok .skip w') (hR : R undef w') : Runs P o a w R := by
  unfold Runs; rw [h]; exact hR
theorem Runs.mono {P : Program} {o : Oper} {a : Act} {w : World} {R R' : Value → World → Prop} (h : Runs P o a w R) (hR : ∀ V w', R V w' → R' V w') : Runs P o a w R' := by
  unfold Runs at *
  generalize (execOp a.eval o).run P w = r at h ⊢
  cases r with
  | ok n w' =>
    cases n <;> simp only [] at h ⊢
    · exact hR _ _ h
    · exact hR _ _ h
    · exact h.mono fun e w'' he => by obtain ⟨V, e1, hR'⟩ := he; exact ⟨V, e1, hR _ _ hR'⟩
  | halt x w' => exact h.elim

/-- A function that the abstract machine may call. -/
def CallOK (val : Cx) (P : Program) (call : CallF) : Prop :=
  ∀ f args h v h', call f args h = .ok (v, h') → (∃ fn, P.funcs[f]? = some fn ∧ fn.body.isNone = false ∧ (fn.name == "runtime.NumGoroutine") = false) ∧
    ∀ (π : Nat → Loc) (w : World) (Args : Array Value), VRs val π h.next args Args.toList → HR val π h.next h.heap.get w →
      Calls P f Args w (fun e w' => ∃ V, e = .returned V ∧ Post val π h w v h' V w')
section
variable {val : Cx} {P : Program} {T : Tab} {Γ : Syms} {π : Nat → Loc} {N : Nat} {h h' : Hp} {env : Tr AV} {a : Act} {w : World} {v : AV} {call : CallF}
theorem run_callFunc_enter {f : FuncId} {fn : Func} {args : Array Value} (h1 : P.funcs[f]? = some fn) (h2 : fn.body.isNone = false) (h3 : (fn.name == "runtime.NumGoroutine") = false) : (callFunc f args).run P w = .ok (.enter f args) w := by
  simp only [callFunc, Sem.run_bind, run_program, Result.andThen_ok, h1, h2, h3, Bool.false_eq_true, if_false, Sem.run_pure]
theorem doCall_ok (hc : CallOK val P call) (hr : HR val π h.next h.heap.get w) {f : Nat} {vs : List AV} {Args : Array Value} (hv : VRs val π h.next vs Args.toList) (hop : doCall call h f vs = .ok (v, h')) :
    (∃ fn, P.funcs[f]? = some fn ∧ fn.body.isNone = false ∧ (fn.name == "runtime.NumGoroutine") = false) ∧ Calls P f Args w (fun e w' => ∃ V, e = .returned V ∧ Post val π h w v h' V w') := by
  unfold doCall at hop
  obtain ⟨⟨u, h1⟩, hcall, hop1⟩ := R.bind_eq hop; clear hop
  obtain ⟨hfn, hC⟩ := hc f vs _ u h1 hcall
  refine ⟨hfn, (hC π w Args hv hr).mono ?_⟩
  rintro e w' ⟨V, rfl, hwl, π', hV, hS⟩
  refine ⟨V, rfl, ?_⟩
  simp only [] at hop1
  cases hb : Nat.ble h.next h1.wl with
  | true =>
    rw [hb, cond_true] at hop1
    have hle := nble_true hb
    have hno : ∀ b, b < w.heap.size → w'.heap[b]? = w.heap[b]? := by
      intro b hb
      rcases hS.blk b hb with h2 | ⟨n, h2, _, _, h3⟩
      · exact h2
      · have h4 : n < h.next := h2.1
        omega
    cases hl : lowV h.next u with
    | true =>
      rw [hl, cond_true] at hop1
      injection hop1 with hop1; injection hop1 with e1 e2; subst e1; subst e2
      refine ⟨Nat.le_refl _, π, ?_, ?_⟩
      · exact (hV.low hl).mono (Nat.le_refl _) (fun n hn => (hS.ext n hn).symm)
      · exact ⟨hr.keep hno, hr.zb, fun _ _ => rfl, Nat.le_refl _, hS.os, hS.tape, hS.output, hS.size, fun b hb => .inl (hno b hb), fun n hs hn => by
          obtain ⟨o, ho⟩ := Option.isSome_iff_exists.1 hs
          have := hr.lt n o ho
          omega, fun _ _ h => h⟩
    | false =>
      rw [hl, cond_false] at hop1
      injection hop1 with hop1; injection hop1 with e1 e2; subst e1; subst e2
      refine ⟨Nat.le_refl _, π', hV, ⟨hS.hr, hS.zb, hS.ext, hS.le, hS.os, hS.tape, hS.output, hS.size, fun b hb => .inl (hno b hb), fun n hs hn => ?_, hS.old⟩⟩
      rcases hS.nw n hs hn with h2 | ⟨m, h2, _, _, h3⟩
      · exact .inl h2
      · have h4 : m < h.next := h2.1
        omega
  | false =>
    rw [hb, cond_false] at hop1
    injection hop1 with hop1; injection hop1 with e1 e2; subst e1; subst e2
    exact ⟨(lower_le _ _).1, π', hV, hS.wl_mono (lower_le _ _).2⟩
theorem opCall_ok (hT : TabTy P T) (hc : CallOK val P call) (he : EnvR val π h.next env a) (hr : HR val π h.next h.heap.get w) {o : Oper} {c : Call} (ho : o.op = .call c) (hop : opCall T call env h c = .ok (v, h')) :
    Runs P o a w (fun V w' => Post val π h w v h' V w') := by
  unfold opCall at hop
  split at hop
  · rename_i b hb
    obtain ⟨vs, h1, hop1⟩ := R.bind_eq hop; clear hop
    have hvs := evs_ok he h1
    have hvs' : VRs val π h.next vs (c.args.map a.eval).toList := by simpa using hvs
    obtain ⟨V, w', r1, r2⟩ := builtin_ok (cs := c.args.map fun | .const _ => true | _ => false) (ty := o.type) hT hr hvs' hop1
    refine Runs.of_value ?_ r2
    simp only [execOp, ho, Sem.run_bind, resolve, hb, Sem.run_pure, Result.andThen_ok, Go.invoke]
    exact r1
  · rename_i f hf
    obtain ⟨u, h1, hop1⟩ := R.bind_eq hop; clear hop
    split at hop1
    · rename_i g caps
      obtain ⟨vs, h2, hop2⟩ := R.bind_eq hop1; clear hop1
      obtain ⟨Cs, e, hCs⟩ := (ev_ok he h1).of_func
      have hvs := evs_ok he h2
      have hvs' : VRs val π h.next (catL vs caps) ((c.args.map a.eval) ++ Cs).toList := by
        rw [catL_eq, Array.toList_append]
        exact VRs.append (by simpa using hvs) hCs
      obtain ⟨⟨fn, g1, g2, g3⟩, hC⟩ := doCall_ok hc hr hvs' hop2
      unfold Runs
      have e2 : (execOp a.eval o).run P w = .ok (.enter g ((c.args.map a.eval) ++ Cs)) w := by
        simp only [execOp, ho, Sem.run_bind, resolve, hf, e, Deferred.ofValue, Sem.run_pure, Result.andThen_ok, Go.invoke, Array.empty_append]
        exact run_callFunc_enter g1 g2 g3
      rw [e2]
      exact hC
    · cases hop1
  · cases hop
theorem op_ok (hT : TabTy P T) (hΓ : SymOK val Γ) (hc : CallOK val P call) (he : EnvR val π h.next env a) (hr : HR val π h.next h.heap.get w) {o : Oper} (hop : op T Γ call env h o.op = .ok (v, h')) :
    Runs P o a w (fun V w' => Post val π h w v h' V w') := by
  obtain ⟨dst, oo, ty, pos, after, guard⟩ := o
  have V1 : ∀ {V : Value} {w' : World} {s : Sem Value}, (execOp a.eval ⟨dst, oo, ty, pos, after, guard⟩ = (do pure (.value (← s)))) → s.run P w = .ok V w' → Post val π h w v h' V w' → Runs P ⟨dst, oo, ty, pos, after, guard⟩ a w (fun V w' => Post val π h w v h' V w') := by
    intro V w' s e hs hp
    exact Runs.of_value (by rw [e]; simp [hs]) hp
  have V2 : ∀ {w' : World} {s : Sem Unit}, (execOp a.eval ⟨dst, oo, ty, pos, after, guard⟩ = (do s; pure .skip)) → s.run P w = .ok () w' → Post val π h w v h' undef w' → Runs P ⟨dst, oo, ty, pos, after, guard⟩ a w (fun V w' => Post val π h w v h' V w') := by
    intro w' s e hs hp
    exact Runs.of_skip (by rw [e]; simp [hs]) hp
  cases oo with
  | move x => exact Runs.of_value (by simp [execOp]) (opMove_ok he hr hop)
  | assign x => exact Runs.of_value (by simp [execOp]) (opMove_ok he hr hop)
  | pick c x y =>
    obtain ⟨b, e, hp⟩ := opPick_ok he hr hop
    exact Runs.of_value (by simp [execOp, e, asBool]) hp
  | alloc t => obtain ⟨V, w', r1, r2⟩ := opAlloc_ok hT hr hop; exact V1 rfl r1 r2
  | box t x => obtain ⟨V, w', r1, r2⟩ := opBox_ok (t := t) he hr hop; exact V1 rfl r1 r2
  | build t ps => obtain ⟨V, r1, r2⟩ := opBuild_ok hT he hr hop; exact V1 rfl r1 r2
  | buildSlice t n ps => obtain ⟨V, w', r1, r2⟩ := opBuildSlice_ok hT he hr hop; exact V1 rfl r1 r2
  | load t x => obtain ⟨V, r1, r2⟩ := opLoad_ok hT he hr hop; exact V1 rfl r1 r2
  | store t x y => obtain ⟨w', r1, r2⟩ := opStore_ok hT he hr hop; exact V2 rfl r1 r2
  | nilCheck x => obtain ⟨V, r1, r2⟩ := opNilCheck_ok he hr hop; exact Runs.of_value (by simp only [execOp]; exact r1) r2
  | binOp b t x y u => obtain ⟨V, r1, r2⟩ := opBin_ok hT hΓ he hr hop; exact V1 rfl r1 r2
  | unOp u t x => obtain ⟨V, r1, r2⟩ := opUn_ok he hr hop; exact V1 rfl r1 r2
  | convert s d x => obtain ⟨V, r1, r2⟩ := opConvert_ok hT he hr hop; exact V1 rfl r1 r2
  | makeInterface t x => obtain ⟨V, r1, r2⟩ := opIface_ok he hr hT hop; exact V1 rfl r1 r2
  | makeFunc f x y => obtain ⟨V, r1, r2⟩ := opMakeFunc_ok he hr hop; exact V1 rfl r1 r2
  | makeMap t r => obtain ⟨V, w', r1, r2⟩ := opMakeMap_ok (a := a) (t := t) hr hop; exact V1 rfl r1 r2
  | makeSlice t l c => obtain ⟨V, w', r1, r2⟩ := opMakeSlice_ok hT he hr hop; exact V1 rfl r1 r2
  | slice t x lo hi mx => obtain ⟨V, r1, r2⟩ := opSlice_ok hT he hr hop; exact V1 rfl r1 r2
  | fieldAddr t x f => obtain ⟨V, r1, r2⟩ := opFieldAddr_ok hT he hr hop; exact V1 rfl r1 r2
  | field t x f => obtain ⟨V, r1, r2⟩ := opField_ok hT he hr hop; exact V1 rfl r1 r2
  | indexAddr t x f => obtain ⟨V, r1, r2⟩ := opIndexAddr_ok hT he hr hop; exact V1 rfl r1 r2
  | index t x f => obtain ⟨V, r1, r2⟩ := opIndex_ok hT he hr hop; exact V1 rfl r1 r2
  | lookup t x k ok => obtain ⟨V, r1, r2⟩ := opLookup_ok hT he hr hop; exact V1 rfl r1 r2
  | mapUpdate t x k y => obtain ⟨w', r1, r2⟩ := opMapUpdate_ok hT he hr hop; exact V2 rfl r1 r2
  | extract x i => obtain ⟨V, r1, r2⟩ := opExtract_ok he hr hop; exact V1 rfl r1 r2
  | call c => exact opCall_ok hT hc he hr rfl hop
  | _ => cases hop
end
end Go.Proofs.YtplblmhnccdgcaaGreat.AM
