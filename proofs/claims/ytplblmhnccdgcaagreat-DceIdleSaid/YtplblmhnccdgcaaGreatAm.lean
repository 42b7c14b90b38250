/- The abstract machine is sound, third part: regions, regions that draw their order, all code, a table of functions. Conditions: those of each theorem, named there. -/
import Derived.Test.YtplblmhnccdgcaaGreatAm3
import Derived.LoopN
import Derived.Scope
namespace Go.Proofs.YtplblmhnccdgcaaGreat.AM
open Go

/-! ### from one place in a function to a later one -/
structure Aft (val : Cx) (π : Nat → Loc) (h : Hp) (a : Act) (w : World) (env' : Tr AV) (h' : Hp) (a' : Act) (w' : World) : Prop where
  defers : a'.defers = a.defers
  size : a'.tmps.size = a.tmps.size
  wl : h'.wl ≤ h.wl
  st : ∃ π', EnvR val π' h'.next env' a' ∧ Step val π h.next h.heap.get w π' h'.next h'.heap.get w' h'.wl
theorem act_put_size (a : Act) (d : Option Tmp) (V : Value) : (a.put d V).tmps.size = a.tmps.size := by cases d <;> simp [Act.put]
theorem act_put_defers (a : Act) (d : Option Tmp) (V : Value) : (a.put d V).defers = a.defers := by cases d <;> rfl
section
variable {val : Cx} {P : Program} {T : Tab} {Γ : Syms} {π : Nat → Loc} {N : Nat} {h h' h'' : Hp} {env env' env'' : Tr AV} {a a' a'' : Act} {w w' w'' : World} {v : AV} {call : CallF}
theorem Aft.refl (he : EnvR val π h.next env a) (hr : HR val π h.next h.heap.get w) : Aft val π h a w env h a w :=
  ⟨rfl, rfl, Nat.le_refl _, π, he, Step.refl hr _⟩
/-- A later place behind a place, whatever the map of names there. -/
theorem Aft.trans (x : Aft val π h a w env' h' a' w') (y : ∀ π', EnvR val π' h'.next env' a' → HR val π' h'.next h'.heap.get w' → Aft val π' h' a' w' env'' h'' a'' w'') : Aft val π h a w env'' h'' a'' w'' := by
  obtain ⟨d1, s1, l1, π', e1, st1⟩ := x
  obtain ⟨d2, s2, l2, π'', e2, st2⟩ := y π' e1 st1.hr
  exact ⟨d2.trans d1, s2.trans s1, Nat.le_trans l2 l1, π'', e2, st1.trans st2 l2⟩
/-- Where a place is later than this one, in the world that is known. -/
def Later (val : Cx) (h : Hp) (env : Tr AV) (a : Act) (w : World) (K : (Nat → Loc) → Prop) : Prop := ∀ π, EnvR val π h.next env a → HR val π h.next h.heap.get w → K π

/-! ### is an operation wanted? -/
theorem wanted_ok (he : EnvR val π N env a) {all : Array Oper} {o : Oper} {b : Bool} (hw : wanted all.toList env o.guard = .ok b) : Region.wanted o (yielded all a.tmps) = b := by
  unfold Region.wanted
  cases hg : o.guard with
  | none => rw [hg] at hw; injection hw
  | some p =>
    obtain ⟨j, want⟩ := p
    rw [hg] at hw
    have hw' : (match nthL all.toList j with
      | some og => (match og.dst with
        | some t => (match env.get t with
          | some (.bool c) => R.ok (bif c then want else !want)
          | some (.tup []) => .ok false
          | none => .ok false
          | _ => .no 81)
        | none => .no 82)
      | none => .no 83) = R.ok b := hw
    clear hw
    rw [nthL_eq] at hw'
    simp only []
    split at hw'
    · rename_i og hog
      split at hw'
      · rename_i t ht
        have hog' : all[j]? = some og := by simpa using hog
        have hyb : ∀ c, a.tmps[t]? = some (.bool c) → yielded all a.tmps j = some c := by
          intro c e; unfold yielded; simp [hog', ht, e]
        have hyn : (∀ c, a.tmps[t]? ≠ some (.bool c)) → yielded all a.tmps j = none := by
          intro hne; unfold yielded; simp [hog', ht]
        have het := he t
        unfold envGet at het
        split at hw'
        · rename_i c hc
          injection hw' with hw'; subst hw'
          rw [hc] at het
          have e1 := het.bool_inv
          have e2 : a.tmps[t]? = some (.bool c) := by
            cases e3 : a.tmps[t]? with
            | none => simp [Array.getD_eq_getD_getElem?, e3, undef] at e1
            | some V => simp [Array.getD_eq_getD_getElem?, e3] at e1; rw [e1]
          rw [hyb c e2]
          cases c <;> cases want <;> rfl
        · rename_i hc
          injection hw' with hw'; subst hw'
          rw [hc] at het
          obtain ⟨Vs, e1, _⟩ := het.of_tup
          rw [hyn (fun c e3 => by simp [Array.getD_eq_getD_getElem?, e3] at e1)]; rfl
        · rename_i hc
          injection hw' with hw'; subst hw'
          rw [hc] at het
          obtain ⟨Vs, e1, _⟩ := VR.of_tup het
          rw [hyn (fun c e3 => by simp [Array.getD_eq_getD_getElem?, e3] at e1)]; rfl
        · cases hw'
      · cases hw'
    · cases hw'

/-! ### a region in its own order -/
def dstB (n : Nat) : List Oper → Bool
  | [] => true
  | o :: l => (match o.dst with | some t => Nat.blt t n | none => true) && dstB n l
theorem ops_cons (all : List Oper) (o : Oper) (l : List Oper) (env : Tr AV) (h : Hp) : ops T Γ call all (o :: l) env h =
    (wanted all env o.guard).bind fun b => Bool.rec (motive := fun _ => R (Tr AV × Hp)) (ops T Γ call all l (setD env o.dst undefA) h)
      ((op T Γ call env h o.op).bind fun r => ops T Γ call all l (setD env o.dst r.1) r.2) b := rfl
theorem Aft.put {o : Option Tmp} (he : EnvR val π h.next env a) (hd : ∀ t, o = some t → t < a.tmps.size) {V : Value} (hp : Post val π h w v h' V w') : Aft val π h a w (setD env o v) h' (a.put o V) w' := by
  obtain ⟨hwl, π', hv, hs⟩ := hp
  exact ⟨act_put_defers _ _ _, act_put_size _ _ _, hwl, π', (he.mono hs.le hs.ext).put hd hv, hs⟩
theorem ops_ok (hT : TabTy P T) (hΓ : SymOK val Γ) (hc : CallOK val P call) {all : Array Oper} {Q : Exit → Act → World → Prop} : ∀ (l : List Oper) (π : Nat → Loc) (env : Tr AV) (h : Hp) (a : Act) (w : World), EnvR val π h.next env a → HR val π h.next h.heap.get w → dstB a.tmps.size l = true →
    ops T Γ call all.toList l env h = .ok (env', h') → (∀ a' w', Aft val π h a w env' h' a' w' → Q .normal a' w') → wpList P all Q l a w
  | [], π, env, h, a, w, he, hr, _, hop, hQ => by
    injection hop with hop; injection hop with e1 e2; subst e1; subst e2
    exact hQ a w (Aft.refl he hr)
  | o :: l, π, env, h, a, w, he, hr, hd, hop, hQ => by
    rw [ops_cons] at hop
    obtain ⟨b, h1, hop1⟩ := R.bind_eq hop; clear hop
    simp only [dstB, Bool.and_eq_true] at hd
    have hd1 : ∀ t, o.dst = some t → t < a.tmps.size := fun t ht => by rw [ht] at hd; exact nble_true hd.1
    have hw := wanted_ok he h1
    unfold wpList
    rw [hw]
    cases b with
    | false =>
      simp only [Bool.false_eq_true, if_false]
      have hx : Aft val π h a w (setD env o.dst undefA) h (a.put o.dst undef) w := Aft.put he hd1 (Post.same hr (VR_undef _ _ _))
      refine ops_ok hT hΓ hc l π _ h _ w (he.put hd1 (VR_undef _ _ _)) hr (by rw [act_put_size]; exact hd.2) hop1 (fun a' w' hA => hQ a' w' ?_)
      exact ⟨hA.defers.trans (act_put_defers _ _ _), hA.size.trans (act_put_size _ _ _), hA.wl, hA.st⟩
    | true =>
      obtain ⟨⟨v, h1'⟩, h2, hop2⟩ := R.bind_eq hop1; clear hop1
      simp only [if_true]
      refine .inl ((op_ok hT hΓ hc he hr h2).wp fun V w1 hp => ?_)
      have hx := Aft.put (o := o.dst) he hd1 hp
      obtain ⟨hwl, π1, hv, hs⟩ := hp
      refine ops_ok hT hΓ hc l π1 _ h1' _ w1 ((he.mono hs.le hs.ext).put hd1 hv) hs.hr (by rw [act_put_size]; exact hd.2) hop2 (fun a' w' hA => hQ a' w' ?_)
      obtain ⟨k1, k2, k3, π2, k4, k5⟩ := hA
      exact ⟨k1.trans (act_put_defers _ _ _), k2.trans (act_put_size _ _ _), Nat.le_trans k3 hwl, π2, k4, hs.trans k5 k3⟩
end
end Go.Proofs.YtplblmhnccdgcaaGreat.AM

namespace Go.Proofs.YtplblmhnccdgcaaGreat.AM
open Go

/-! ### what is asked of a function's text -/
def msk (acc : List Nat) (o : Oper) : Nat := o.after.toList.foldl (fun s e => if Region.binds .any e then s ||| 2 ^ e.on ||| acc.getD e.on 0 else s) 0
def mks : List Nat → List Oper → List Nat
  | acc, [] => acc
  | acc, o :: l => mks (acc ++ [msk acc o]) l
/-- what floats: it makes one new thing, and reads nothing -/
def fk (o : Op) : Bool := match o with | .alloc _ | .box .. | .buildSlice .. | .makeSlice .. | .makeMap .. => true | _ => false
/-- 3: it floats -/
def clsP (prs : List (Nat × Nat)) (i : Nat) (x : Oper) : Nat := bif memP (i, i) prs then 3 else cls x.op
def heapB (prs : List (Nat × Nat)) (i j : Nat) (x y : Oper) : Bool :=
  match clsP prs i x, clsP prs j y with
  | 0, _ => true
  | _, 0 => true
  | 1, 1 => true
  | 1, 2 => memP (i, j) prs
  | 2, 1 => memP (j, i) prs
  | 3, 3 => true
  | 3, 1 => true
  | 2, 3 => true
  | 1, 3 => memP (i, j) prs
  | 3, 2 => memP (i, j) prs
  | _, _ => false
def flB (prs : List (Nat × Nat)) : Nat → List Oper → Bool
  | _, [] => true
  | k, o :: l => (!memP (k, k) prs || (anyFl prs && fk o.op)) && flB prs (k + 1) l
def pairB (all : Array Oper) (prs : List (Nat × Nat)) (ms : List Nat) (j : Nat) (y : Oper) : Nat → List Oper → Bool
  | _, [] => true
  | i, x :: l => (Nat.ble j i || (ms.getD j 0).testBit i || (x.apart all y && heapB prs i j x y)) && pairB all prs ms j y (i + 1) l
def pairsB (all : Array Oper) (prs : List (Nat × Nat)) (ms : List Nat) (os : List Oper) : Nat → List Oper → Bool
  | _, [] => true
  | j, y :: l => pairB all prs ms j y 0 os && pairsB all prs ms os (j + 1) l
def edgesB : Nat → List Oper → Bool
  | _, [] => true
  | j, o :: l => o.after.toList.all (fun e => !Region.binds .any e || Nat.blt e.on j) && edgesB (j + 1) l
def regB (all : Array Oper) (prs : List (Nat × Nat)) : Bool :=
  Region.noSelect all && edgesB 0 all.toList && flB prs 0 all.toList && pairsB all prs (mks [] all.toList) all.toList 0 all.toList
def codeB (n : Nat) (L : Prs) : Code → Bool
  | .region id os dr => dstB n os.toList && (bif dr then regB os (prsOf L id) else true)
  | .seq a b => codeB n L a && codeB n L b
  | .cond _ a b => codeB n L a && codeB n L b
  | .block _ b => codeB n L b
  | .loop b => codeB n L b
  | .scope b => codeB n L b
  | _ => true

def DrawOK (val : Cx) (P : Program) (T : Tab) (Γ : Syms) (call : CallF) : Prop :=
  ∀ (id : Nat) (all : Array Oper) (prs : List (Nat × Nat)) (π : Nat → Loc) (env : Tr AV) (h : Hp) (a : Act) (w : World) (env' : Tr AV) (h' : Hp) (Q : Exit → Act → World → Prop),
    EnvR val π h.next env a → HR val π h.next h.heap.get w → dstB a.tmps.size all.toList = true → regB all prs = true →
    opsD T Γ call prs all.toList env h = .ok (env', h') → (∀ a' w', Aft val π h a w env' h' a' w' → Q .normal a' w') → (Code.region id all true).wp P Q a w

section
variable {val : Cx} {P : Program} {T : Tab} {Γ : Syms} {π : Nat → Loc} {N : Nat} {h h' h'' : Hp} {env env' env'' : Tr AV} {a a' a'' : Act} {w w' w'' : World} {v : AV} {call : CallF}
theorem Aft.next {π' : Nat → Loc} (d1 : a'.defers = a.defers) (s1 : a'.tmps.size = a.tmps.size) (l1 : h'.wl ≤ h.wl) (st1 : Step val π h.next h.heap.get w π' h'.next h'.heap.get w' h'.wl)
    (y : Aft val π' h' a' w' env'' h'' a'' w'') : Aft val π h a w env'' h'' a'' w'' := by
  obtain ⟨d2, s2, l2, π'', e2, st2⟩ := y
  exact ⟨d2.trans d1, s2.trans s1, Nat.le_trans l2 l1, π'', e2, st1.trans st2 l2⟩
def exOf : Ex → Exit
  | .normal => .normal
  | .exit id => .exit id
  | .ret => .ret
theorem execF_succ (f : Nat) (L : Prs) (c : Code) (env : Tr AV) (h : Hp) : execF (f + 1) T Γ call L c env h = execR c (execF f) T Γ call L env h := rfl
theorem thenR_ok {x : Res} {k : Tr AV → Hp → Res} {r : Ex × Tr AV × Hp} (hx : thenR x k = .ok r) : ∃ e env h, x = .ok (e, env, h) ∧ ((e = .normal ∧ k env h = .ok r) ∨ (e ≠ .normal ∧ r = (e, env, h))) := by
  unfold thenR at hx
  obtain ⟨⟨e, env, h⟩, h1, h2⟩ := R.bind_eq hx
  refine ⟨e, env, h, h1, ?_⟩
  cases e with
  | normal => exact .inl ⟨rfl, h2⟩
  | exit id => injection h2 with h2; exact .inr ⟨by simp, h2.symm⟩
  | ret => injection h2 with h2; exact .inr ⟨by simp, h2.symm⟩
theorem exec_ok (hT : TabTy P T) (hΓ : SymOK val Γ) (hc : CallOK val P call) (hD : DrawOK val P T Γ call) (L : Prs) (n : Nat) : ∀ (f : Nat),
    (∀ (c : Code) (env : Tr AV) (h : Hp) (ex : Ex) (env' : Tr AV) (h' : Hp), codeB n L c = true → execF f T Γ call L c env h = .ok (ex, env', h') →
      ∀ (π : Nat → Loc) (a : Act) (w : World), EnvR val π h.next env a → HR val π h.next h.heap.get w → a.tmps.size = n → ∀ (Q : Exit → Act → World → Prop), (∀ a' w', Aft val π h a w env' h' a' w' → Q (exOf ex) a' w') → c.wp P Q a w) ∧
    (∀ (b : Code) (env : Tr AV) (h : Hp) (ex : Ex) (env' : Tr AV) (h' : Hp), codeB n L b = true → execF f T Γ call L (.loop b) env h = .ok (ex, env', h') →
      ∀ (π : Nat → Loc) (a : Act) (w : World), EnvR val π h.next env a → HR val π h.next h.heap.get w → a.tmps.size = n → ∀ (Q : Exit → Act → World → Prop), (∀ a' w', Aft val π h a w env' h' a' w' → Q (exOf ex) a' w') → Code.rounds P b Q f a w) := by
  intro f
  induction f with
  | zero =>
    constructor
    · intro c env h ex env' h' _ hx; cases hx
    · intro c env h ex env' h' _ hx; cases hx
  | succ f ih =>
    obtain ⟨ihA, ihB⟩ := ih
    have hB : ∀ (b : Code) (env : Tr AV) (h : Hp) (ex : Ex) (env' : Tr AV) (h' : Hp), codeB n L b = true → execF (f + 1) T Γ call L (.loop b) env h = .ok (ex, env', h') →
      ∀ (π : Nat → Loc) (a : Act) (w : World), EnvR val π h.next env a → HR val π h.next h.heap.get w → a.tmps.size = n → ∀ (Q : Exit → Act → World → Prop), (∀ a' w', Aft val π h a w env' h' a' w' → Q (exOf ex) a' w') → Code.rounds P b Q (f + 1) a w := by
      intro b env h ex env' h' hb hx π a w he hr hn Q hQ
      rw [execF_succ] at hx
      obtain ⟨e1, env1, h1, hx1, hx2⟩ := thenR_ok (x := execF f T Γ call L b env h) hx
      rw [rounds_succ]
      refine ihA b env h e1 env1 h1 hb hx1 π a w he hr hn _ (fun a1 w1 hA => ?_)
      rcases hx2 with ⟨rfl, hx2⟩ | ⟨hne, hx2⟩
      · obtain ⟨k1, k2, k3, π1, k4, k5⟩ := hA
        exact ihB b env1 h1 ex env' h' hb hx2 π1 a1 w1 k4 k5.hr (by rw [k2]; exact hn) Q (fun a' w' hA' => hQ a' w' (Aft.next k1 k2 k3 k5 hA'))
      · injection hx2 with e2 e3; injection e3 with e3 e4; subst e2; subst e3; subst e4
        have := hQ a1 w1 hA
        cases ex with
        | normal => exact absurd rfl hne
        | exit id => exact this
        | ret => exact this
    refine ⟨?_, hB⟩
    intro c env h ex env' h' hb hx π a w he hr hn Q hQ
    cases c with
    | skip =>
      injection hx with hx; injection hx with e1 e2; injection e2 with e2 e3; subst e1; subst e2; subst e3
      exact wp_skip (hQ a w (Aft.refl he hr))
    | region id os dr =>
      rw [execF_succ] at hx
      simp only [codeB, Bool.and_eq_true] at hb
      obtain ⟨⟨env1, h1⟩, hx1, hx2⟩ := R.bind_eq (x := B dr (opsD T Γ call (prsOf L id) os.toList env h) (ops T Γ call os.toList os.toList env h)) hx
      injection hx2 with hx2; injection hx2 with e1 e2; injection e2 with e2 e3; subst e1; subst e2; subst e3
      cases dr with
      | false => exact wp_region_list (ops_ok hT hΓ hc os.toList π env h a w he hr (by rw [hn]; exact hb.1) hx1 hQ)
      | true => exact hD id os (prsOf L id) π env h a w env1 h1 Q he hr (by rw [hn]; exact hb.1) hb.2 hx1 hQ
    | seq x y =>
      rw [execF_succ] at hx
      simp only [codeB, Bool.and_eq_true] at hb
      obtain ⟨e1, env1, h1, hx1, hx2⟩ := thenR_ok (x := execF f T Γ call L x env h) hx
      refine wp_seq (ihA x env h e1 env1 h1 hb.1 hx1 π a w he hr hn _ (fun a1 w1 hA => ?_))
      rcases hx2 with ⟨rfl, hx2⟩ | ⟨hne, hx2⟩
      · obtain ⟨k1, k2, k3, π1, k4, k5⟩ := hA
        exact ihA y env1 h1 ex env' h' hb.2 hx2 π1 a1 w1 k4 k5.hr (by rw [k2]; exact hn) Q (fun a' w' hA' => hQ a' w' (Aft.next k1 k2 k3 k5 hA'))
      · injection hx2 with e2 e3; injection e3 with e3 e4; subst e2; subst e3; subst e4
        have := hQ a1 w1 hA
        cases ex with
        | normal => exact absurd rfl hne
        | exit id => exact this
        | ret => exact this
    | cond c x y =>
      rw [execF_succ] at hx
      simp only [codeB, Bool.and_eq_true] at hb
      obtain ⟨u, hx1, hx2⟩ := R.bind_eq (x := ev env c) hx
      have hu := ev_ok he hx1
      cases u with
      | bool t =>
        refine wp_cond hu.bool_inv ?_
        cases t with
        | true => exact ihA x env h ex env' h' hb.1 hx2 π a w he hr hn Q hQ
        | false => exact ihA y env h ex env' h' hb.2 hx2 π a w he hr hn Q hQ
      | _ => cases hx2
    | block id b =>
      rw [execF_succ] at hx
      simp only [codeB] at hb
      obtain ⟨⟨e1, env1, h1⟩, hx1, hx2⟩ := R.bind_eq (x := execF f T Γ call L b env h) hx
      refine wp_block (ihA b env h e1 env1 h1 hb hx1 π a w he hr hn _ (fun a1 w1 hA => ?_))
      cases e1 with
      | normal =>
        injection hx2 with hx2; injection hx2 with e1 e2; injection e2 with e2 e3; subst e1; subst e2; subst e3
        exact hQ a1 w1 hA
      | exit id' =>
        simp only [exOf, Exit.inBlock]
        injection hx2 with hx2
        by_cases hid : id' = id
        · rw [if_pos hid]
          have hb2 : Nat.beq id' id = true := by rw [hid]; exact Nat.beq_refl id
          rw [hb2] at hx2
          injection hx2 with e1 e2; injection e2 with e2 e3; subst e1; subst e2; subst e3
          exact hQ a1 w1 hA
        · rw [if_neg hid]
          rw [nbeq_ne hid] at hx2
          injection hx2 with e1 e2; injection e2 with e2 e3; subst e1; subst e2; subst e3
          exact hQ a1 w1 hA
      | ret =>
        injection hx2 with hx2; injection hx2 with e1 e2; injection e2 with e2 e3; subst e1; subst e2; subst e3
        exact hQ a1 w1 hA
    | loop b =>
      exact wp_loop_rounds (f + 1) (hB b env h ex env' h' hb hx π a w he hr hn Q hQ)
    | exit id =>
      injection hx with hx; injection hx with e1 e2; injection e2 with e2 e3; subst e1; subst e2; subst e3
      exact wp_exit (hQ a w (Aft.refl he hr))
    | scope b =>
      rw [execF_succ] at hx
      simp only [codeB] at hb
      refine wp_scope_straight (ihA b env h ex env' h' hb hx π a w he hr hn _ (fun a1 w1 hA => ?_))
      have := hQ a1 w1 hA
      cases ex <;> exact this
    | label l =>
      injection hx with hx; injection hx with e1 e2; injection e2 with e2 e3; subst e1; subst e2; subst e3
      exact wp_label (hQ a w (Aft.refl he hr))
    | ret =>
      injection hx with hx; injection hx with e1 e2; injection e2 with e2 e3; subst e1; subst e2; subst e3
      exact wp_ret (hQ a w (Aft.refl he hr))
    | _ => cases hx

/-! ### a call -/
/-- What the table's functions are. -/
structure FnOK (P : Program) (f : Nat) (fn : Fn) : Prop where
  ex : ∃ F, P.funcs[f]? = some F ∧ F.body = some fn.body ∧ F.ntmps = fn.ntmps ∧ F.results.toList = fn.res ∧ (F.name == "runtime.NumGoroutine") = false
  ok : codeB fn.ntmps fn.prs fn.body = true
def TabFn (P : Program) (T : Tab) : Prop := ∀ f fn, T.fn.get f = some fn → FnOK P f fn
end
end Go.Proofs.YtplblmhnccdgcaaGreat.AM

namespace Go.Proofs.YtplblmhnccdgcaaGreat.AM
open Go
section
variable {val : Cx} {P : Program} {T : Tab} {Γ : Syms} {π : Nat → Loc} {N : Nat} {h h' h'' : Hp} {env env' env'' : Tr AV} {a a' a'' : Act} {w w' w'' : World} {v : AV} {call : CallF}
theorem envOf_get : ∀ (l : List AV) (i : Nat) (t : Tr AV) (j : Nat), (envOf l i t).get j = if i ≤ j ∧ j < i + l.length then l[j - i]? else t.get j
  | [], i, t, j => by rw [if_neg (by simp)]; rfl
  | v :: l, i, t, j => by
    simp only [envOf, envOf_get l (i + 1), Tr.get_putR, List.length_cons]
    by_cases h1 : i + 1 ≤ j ∧ j < i + 1 + l.length
    · rw [if_pos h1, if_pos (by omega)]
      obtain ⟨k, rfl⟩ : ∃ k, j = i + 1 + k := ⟨j - (i + 1), by omega⟩
      have e1 : i + 1 + k - (i + 1) = k := by omega
      have e2 : i + 1 + k - i = k + 1 := by omega
      rw [e1, e2]; simp
    · rw [if_neg h1]
      by_cases h2 : j = i
      · subst h2; rw [if_pos rfl, if_pos (by omega)]; simp
      · rw [if_neg h2, if_neg (by omega)]
theorem EnvR.enter {vs : List AV} {Args : Array Value} (hv : VRs val π N vs Args.toList) (k : Nat) : EnvR val π N (envOf vs 0 .nil) { tmps := Args ++ Array.replicate k undef, defers := [] } := by
  intro t
  unfold envGet
  rw [envOf_get]
  have hl : vs.length = Args.size := by simpa using hv.1
  simp only [Array.getD_eq_getD_getElem?, Array.getElem?_append]
  by_cases ht : t < Args.size
  · rw [if_pos (by omega), if_pos ht]
    have hv1 : vs[t]? = some (vs[t]'(by omega)) := List.getElem?_eq_getElem (by omega)
    obtain ⟨V, hV, hr⟩ := hv.get hv1
    rw [Nat.sub_zero, hv1]
    have : Args[t]? = some V := by simpa using hV
    rw [this]; exact hr
  · rw [if_neg (by omega), if_neg ht]
    have e : ((Array.replicate k undef)[t - Args.size]?).getD undef = undef := by
      rw [Array.getElem?_replicate]; split <;> rfl
    rw [e]
    exact VR_undef _ _ _
theorem run_mapM_at {α : Type} {f : α → Sem Value} : ∀ {l : List α} {Vs : List Value}, l.length = Vs.length → (∀ (i : Nat) (x : α) (V : Value), l[i]? = some x → Vs[i]? = some V → (f x).run P w = .ok V w) → (l.mapM f).run P w = .ok Vs w
  | [], [], _, _ => by simp
  | x :: l, V :: Vs, hl, h => by
    have h0 := h 0 x V rfl rfl
    have ih := run_mapM_at (l := l) (Vs := Vs) (by simpa using hl) (fun i y U h1 h2 => h (i + 1) y U (by simpa using h1) (by simpa using h2))
    simp [List.mapM_cons, h0, ih]
  | [], _ :: _, hl, _ => by simp at hl
  | _ :: _, [], hl, _ => by simp at hl
theorem resOf_ok (hT : TabTy P T) (he : EnvR val π h.next env a) (hr : HR val π h.next h.heap.get w) : ∀ {l : List ResultVar} {vs : List AV}, resOf T env h l = .ok vs →
    ∃ Vs : List Value, VRs val π h.next vs Vs ∧ l.length = Vs.length ∧ ∀ (i : Nat) (x : ResultVar) (V : Value), l[i]? = some x → Vs[i]? = some V →
      (match x with | .tmp t => pure (a.tmps.getD t undef) | .cell b t => do loadVar t (← asAddr (a.tmps.getD b undef)) : Sem Value).run P w = .ok V w
  | [], vs, hop => by injection hop with hop; subst hop; exact ⟨[], .nil, rfl, fun i x V h => by simp at h⟩
  | .tmp t :: l, vs, hop => by
    obtain ⟨u, h1, hop1⟩ := R.bind_eq (x := ev env (.tmp t)) hop
    obtain ⟨us, h2, hop2⟩ := R.bind_eq hop1
    injection hop2 with hop2; subst hop2
    obtain ⟨Vs, k1, k2, k3⟩ := resOf_ok hT he hr h2
    injection h1 with h1; subst h1
    refine ⟨a.tmps.getD t undef :: Vs, .cons (he t) k1, by simp [k2], fun i x V hx hV => ?_⟩
    cases i with
    | zero => simp at hx hV; subst hx; subst hV; simp
    | succ i => exact k3 i x V (by simpa using hx) (by simpa using hV)
  | .cell b t :: l, vs, hop => by
    obtain ⟨⟨u, h0⟩, h1, hop1⟩ := R.bind_eq (x := opLoad T env h t (.tmp b)) hop
    obtain ⟨us, h2, hop2⟩ := R.bind_eq hop1
    injection hop2 with hop2; subst hop2
    obtain ⟨Vs, k1, k2, k3⟩ := resOf_ok hT he hr h2
    unfold opLoad at h1
    obtain ⟨p, g1, h1a⟩ := R.bind_eq h1; clear h1
    have hp := ev_ok he g1
    cases p with
    | ptr n off =>
      simp only [] at h1a
      obtain ⟨c, g2, h1b⟩ := R.bind_eq h1a; clear h1a
      obtain ⟨ti, g3, h1c⟩ := R.bind_eq h1b; clear h1b
      obtain ⟨u', g4, h1d⟩ := R.bind_eq h1c; clear h1c
      injection h1d with h1d; injection h1d with e1 e2; subst e1
      obtain ⟨e, hn⟩ := hp.ptr_inv
      obtain ⟨V, r1, r2⟩ := loadC_ok (tyOf_ok hT g3) (hr.ob n _ (getCells_ok g2) hn.2) g4
      refine ⟨V :: Vs, .cons r2 k1, by simp [k2], fun i x V' hx hV => ?_⟩
      cases i with
      | zero =>
        simp at hx hV; subst hx; subst hV
        have e' : a.tmps.getD b undef = .pointer (some ⟨(π n).blk, (π n).base + off, none⟩) := by
          have : a.eval (.tmp b) = a.tmps.getD b undef := rfl
          rw [← this]; exact e
        simp only [Sem.run_bind, e', asAddr, Sem.run_pure, Result.andThen_ok]
        exact r1
      | succ i => exact k3 i x V' (by simpa using hx) (by simpa using hV)
    | _ => cases h1a
theorem retOf_ok {vs : List AV} {Vs : List Value} (hv : VRs val π N vs Vs) : VR val π N (retOf vs) (if h : Vs.toArray.size = 1 then Vs.toArray[0] else .tuple Vs.toArray) := by
  cases vs with
  | nil =>
    rw [hv.of_nil]
    exact VR.tup' (by simpa using VRs.nil)
  | cons v l =>
    obtain ⟨V, Vs', rfl, h1, h2⟩ := hv.head
    cases l with
    | nil => rw [h2.of_nil]; exact h1
    | cons u l =>
      obtain ⟨U, Us, rfl, _, _⟩ := h2.head
      rw [dif_neg (by simp)]
      exact VR.tup' (by simpa using hv)
theorem results_ok (hT : TabTy P T) (he : EnvR val π h.next env a) (hr : HR val π h.next h.heap.get w) {F : Func} {res : List ResultVar} (hF : F.results.toList = res) {vs : List AV} (hop : resOf T env h res = .ok vs) :
    ∃ V, (results F a.tmps).run P w = .ok V w ∧ VR val π h.next (retOf vs) V := by
  obtain ⟨Vs, k1, k2, k3⟩ := resOf_ok hT he hr hop
  refine ⟨_, ?_, retOf_ok k1⟩
  unfold results
  have hm := run_mapM_at (P := P) (w := w) k2 k3
  rw [Array.mapM_eq_mapM_toList, hF]
  have hm' : (List.toArray <$> List.mapM
        (fun x : ResultVar => (match x with
          | .tmp t => pure (a.tmps.getD t undef)
          | .cell b t => do loadVar t (← asAddr (a.tmps.getD b undef)) : Sem Value)) res).run P w = .ok Vs.toArray w := by
    rw [map_eq_pure_bind, Sem.run_bind, hm]
    rfl
  rw [Sem.run_bind]
  exact congrArg (fun r : Result (Array Value) => Result.andThen r (fun a w' => Sem.run P (pure (if h : a.size = 1 then a[0] else Value.tuple a)) w')) hm'
def CallOKs (v : Nat → Int) (P : Program) (call : CallF) : Prop := ∀ Z, CallOK ⟨v, Z⟩ P call
def SymOKs (v : Nat → Int) (Γ : Syms) : Prop := ∀ Z, SymOK ⟨v, Z⟩ Γ
theorem callF_ok {v : Nat → Int} {g0 : CallF} (hT : TabTy P T) (hF : TabFn P T) (hΓ : SymOKs v Γ) (h0 : CallOKs v P g0) (loops : Nat) (hD : ∀ d, CallOKs v P (callF T Γ g0 loops d) → ∀ Z, DrawOK ⟨v, Z⟩ P T Γ (callF T Γ g0 loops d)) : ∀ d, CallOKs v P (callF T Γ g0 loops d)
  | 0 => h0
  | d + 1 => by
    intro Z f args h u h' hop
    have hop' : Option.rec (motive := fun _ => R (AV × Hp)) (g0 f args h) (fun fn =>
      B (Nat.ble (lenL args) fn.ntmps) (retR T fn (exec T Γ (callF T Γ g0 loops d) fn.prs loops fn.body (envOf args 0 .nil) h)) (.no 88)) (T.fn.get f) = R.ok (u, h') := hop
    clear hop
    cases hg : T.fn.get f with
    | none => rw [hg] at hop'; exact h0 Z f args h u h' hop'
    | some fn =>
      rw [hg] at hop'
      obtain ⟨b, hop1⟩ := B_ok (x := retR T fn (exec T Γ (callF T Γ g0 loops d) fn.prs loops fn.body (envOf args 0 .nil) h)) hop'
      clear hop'
      have hn := nble_true b
      rw [lenL_eq] at hn
      obtain ⟨⟨F, f1, f2, f3, f4, f5⟩, hcode⟩ := hF f fn hg
      refine ⟨⟨F, f1, by rw [f2]; rfl, f5⟩, fun π w Args hv hr => ?_⟩
      have ih := callF_ok hT hF hΓ h0 loops hD d
      unfold retR at hop1
      obtain ⟨⟨ex, env', h2⟩, hx, hop2⟩ := R.bind_eq hop1; clear hop1
      have hl : args.length = Args.size := by simpa using hv.1
      refine calls_of_wp f1 f2 ?_
      have hsz : (Args ++ Array.replicate (F.ntmps - Args.size) undef).size = fn.ntmps := by
        simp; omega
      refine (exec_ok hT (hΓ Z) (ih Z) (hD _ ih Z) fn.prs fn.ntmps loops).1 fn.body _ h ex env' h2 hcode hx π _ w (EnvR.enter hv _) hr hsz _ (fun a' w' hA => ?_)
      obtain ⟨k1, k2, k3, π', k4, k5⟩ := hA
      have fin : ∀ vs, resOf T env' h2 fn.res = .ok vs → (R.ok (retOf vs, h2) : R (AV × Hp)) = .ok (u, h') → a'.defers = [] ∧ ∃ V, (results F a'.tmps).run P w' = .ok V w' ∧ ∃ V', Ending.returned V = .returned V' ∧ Post ⟨v, Z⟩ π h w u h' V' w' := by
        intro vs hvs e
        injection e with e; injection e with e1 e2; subst e1; subst e2
        obtain ⟨V, r1, r2⟩ := results_ok hT k4 k5.hr f4 hvs
        exact ⟨k1, V, r1, V, rfl, k3, π', r2, k5⟩
      cases ex with
      | normal =>
        obtain ⟨vs, hvs, e⟩ := R.bind_eq hop2
        exact fin vs hvs e
      | exit id => cases hop2
      | ret =>
        obtain ⟨vs, hvs, e⟩ := R.bind_eq hop2
        exact fin vs hvs e
theorem noF_ok (v : Nat → Int) (P : Program) : CallOKs v P noF := fun Z f args h u h' hop => by cases hop
end
end Go.Proofs.YtplblmhnccdgcaaGreat.AM

namespace Go.Proofs.YtplblmhnccdgcaaGreat.AM
open Go

/-- What a step leaves alone: every old name below the lowest that was written. -/
def Keep (h h' : Hp) : Prop := h'.wl ≤ h.wl ∧ h.next ≤ h'.next ∧ (∀ n, n < h.next → n < h'.wl → h'.heap.get n = h.heap.get n) ∧ ∀ n, n < h.next → (h'.heap.get n).isSome = true → (h.heap.get n).isSome = true
theorem Keep.refl (h : Hp) : Keep h h := ⟨Nat.le_refl _, Nat.le_refl _, fun _ _ _ => rfl, fun _ _ h => h⟩
theorem Keep.trans {h h' h'' : Hp} (x : Keep h h') (y : Keep h' h'') : Keep h h'' :=
  ⟨Nat.le_trans y.1 x.1, Nat.le_trans x.2.1 y.2.1, fun n h1 h2 => (y.2.2.1 n (Nat.lt_of_lt_of_le h1 x.2.1) h2).trans (x.2.2.1 n h1 (Nat.lt_of_lt_of_le h2 y.1)), fun n h1 h2 => x.2.2.2 n h1 (y.2.2.2 n (Nat.lt_of_lt_of_le h1 x.2.1) h2)⟩
/-- Whatever comes out is so. -/
def Sat {α : Type} (x : R α) (K : α → Prop) : Prop := ∀ a, x = .ok a → K a
theorem Sat.ok {α : Type} {a : α} {K : α → Prop} (h : K a) : Sat (.ok a) K := fun b e => by injection e with e; exact e ▸ h
theorem Sat.no {α : Type} {w : Nat} {K : α → Prop} : Sat (.no w : R α) K := fun b e => by cases e
theorem Sat.bind {α β : Type} {x : R α} {f : α → R β} {K : β → Prop} (h : ∀ a, x = .ok a → Sat (f a) K) : Sat (x.bind f) K := fun b e => by
  obtain ⟨a, h1, h2⟩ := R.bind_eq e
  exact h a h1 b h2
theorem Sat.B {α : Type} {c : Bool} {x y : R α} {K : α → Prop} (h1 : Sat x K) (h2 : Sat y K) : Sat (B c x y) K := by cases c <;> assumption
theorem Sat.bif {α : Type} {c : Bool} {x y : R α} {K : α → Prop} (h1 : Sat x K) (h2 : Sat y K) : Sat (bif c then x else y) K := by cases c <;> assumption
theorem Sat.mono {α : Type} {x : R α} {K K' : α → Prop} (h : Sat x K) (hK : ∀ a, K a → K' a) : Sat x K' := fun a e => hK a (h a e)

section
variable {T : Tab} {Γ : Syms} {h h' : Hp} {env : Tr AV} {call : CallF}
abbrev Sm (h : Hp) : AV × Hp → Prop := fun r => r.2 = h
abbrev Kp (h : Hp) : AV × Hp → Prop := fun r => Keep h r.2
theorem Sat.same {x : R (AV × Hp)} (hs : Sat x (Sm h)) : Sat x (Kp h) := hs.mono fun a e => by show Keep h a.2; rw [show a.2 = h from e]; exact Keep.refl h
theorem new_keep {o : AO} {f : Nat → AV} : Sat (new h o f) (Kp h) := by
  have e : ∀ n, n < h.next → (h.heap.putR h.next o).get n = h.heap.get n := fun n hn => by rw [Tr.get_putR, if_neg (by omega)]
  exact Sat.ok ⟨Nat.le_refl _, Nat.le_succ _, fun n hn _ => e n hn, fun n hn hs => by rw [← e n hn]; exact hs⟩
theorem put_keep {n : Nat} {o : AO} (hs : (h.heap.get n).isSome = true) : Keep h { heap := h.heap.putR n o, next := h.next, wl := lower h.wl n } := by
  refine ⟨(lower_le _ _).1, Nat.le_refl _, fun m hm hw => ?_, fun m hm ho => ?_⟩
  · show (h.heap.putR n o).get m = _
    have := (lower_le h.wl n).2
    simp only at hw
    rw [Tr.get_putR, if_neg (by omega)]
  by_cases e : m = n
  · subst e; exact hs
  · have : (h.heap.putR n o).get m = h.heap.get m := by rw [Tr.get_putR, if_neg e]
    rw [← this]; exact ho
theorem del_keep {n : Nat} : Keep h { heap := h.heap.del n, next := h.next, wl := lower h.wl n } := by
  refine ⟨(lower_le _ _).1, Nat.le_refl _, fun m hm hw => ?_, fun m hm ho => ?_⟩
  · show (h.heap.del n).get m = _
    have := (lower_le h.wl n).2
    simp only at hw
    rw [Tr.get_del, if_neg (by omega)]
  · by_cases e : m = n
    · subst e
      have : (h.heap.del m).get m = none := by rw [Tr.get_del, if_pos rfl]
      simp only [this] at ho; cases ho
    · have : (h.heap.del n).get m = h.heap.get m := by rw [Tr.get_del, if_neg e]
      rw [← this]; exact ho
theorem writeAt_keep {n off : Nat} {vs : List AV} : Sat (writeAt h n off vs) (Keep h) := by
  unfold writeAt
  refine Sat.bind fun c e => Sat.B Sat.no (Sat.B (Sat.ok (put_keep (by rw [getCells_ok e]; rfl))) Sat.no)
theorem appFresh_keep {eb : Nat} {cs : List AV} {k es : Nat} : Sat (appFresh h eb cs k es) (Kp h) := Sat.B (Sat.B new_keep Sat.no) Sat.no
theorem write_then {n off : Nat} {vs : List AV} {f : Hp → AV × Hp} (hf : ∀ h, (f h).2 = h) : Sat ((writeAt h n off vs).bind fun h => .ok (f h)) (Kp h) :=
  Sat.bind fun h2 e => Sat.ok (by show Keep h (f h2).2; rw [hf]; exact writeAt_keep h2 e)
theorem appS_keep {eb n off len es : Nat} {cap : Option Nat} {xs : List AV} {k : Nat} : Sat (appS h eb n off len es cap xs k) (Kp h) := by
  unfold appS
  split
  · refine Sat.B (Sat.B (Sat.ok (Keep.refl h)) (write_then fun _ => rfl)) (Sat.bind fun _ _ => appFresh_keep)
  · refine Sat.B (Sat.ok (Keep.refl h)) (Sat.bind fun _ _ => Sat.B Sat.no (Sat.B (write_then fun _ => rfl) (Sat.B ?_ Sat.no)))
    exact appFresh_keep.mono fun a ha => del_keep.trans ha
theorem append_keep {t u : Nat} {x y : AV} : Sat (append T h t u x y) (Kp h) := by
  unfold append
  refine Sat.bind fun _ _ => Sat.bind fun _ _ => Sat.B Sat.no (Sat.B (Sat.bind fun _ _ => ?_) Sat.no)
  split
  · exact Sat.B (Sat.ok (Keep.refl h)) appFresh_keep
  · exact Sat.B appS_keep Sat.no
  · exact Sat.no
theorem builtin_keep {b : Builtin} {ts : List Nat} {vs : List AV} : Sat (builtin T h b ts vs) (Kp h) := by
  unfold builtin
  split
  · exact Sat.bind fun _ _ => Sat.bind fun _ _ => Sat.ok (Keep.refl h)
  · exact Sat.bind fun _ _ => Sat.bind fun _ _ => Sat.ok (Keep.refl h)
  · exact append_keep
  · refine Sat.bind fun _ _ => ?_
    unfold copyV
    refine Sat.B ?_ Sat.no
    split
    · exact Sat.B (Sat.ok (Keep.refl h)) Sat.no
    · refine Sat.B ?_ Sat.no
      split
      · exact Sat.B (Sat.bind fun _ _ => write_then fun _ => rfl) Sat.no
      · exact Sat.ok (Keep.refl h)
      · exact Sat.no
    · exact Sat.no
  · refine Sat.bind fun _ _ => ?_
    unfold clearV
    refine Sat.B ?_ Sat.no
    split
    · exact Sat.B (Sat.B (Sat.ok (Keep.refl h)) (write_then fun _ => rfl)) Sat.no
    · exact Sat.ok (Keep.refl h)
    · exact Sat.no
  · exact Sat.bind fun _ _ => Sat.ok (Keep.refl h)
  · exact Sat.no
def CallKeep (call : CallF) : Prop := ∀ f args h, Sat (call f args h) (Kp h)
theorem doCall_keep (hc : CallKeep call) {f : Nat} {vs : List AV} : Sat (doCall call h f vs) (Kp h) := by
  unfold doCall
  refine Sat.bind fun r e => ?_
  have hk : Keep { heap := h.heap, next := h.next, wl := h.next } r.2 := hc f vs _ r e
  cases hb : Nat.ble h.next r.2.wl with
  | true =>
    have hle := nble_true hb
    rw [cond_true]
    refine Sat.bif (Sat.ok (Keep.refl h)) (Sat.ok ⟨Nat.le_refl _, hk.2.1, fun n hn _ => hk.2.2.1 n hn (Nat.lt_of_lt_of_le hn hle), hk.2.2.2⟩)
  | false =>
    rw [cond_false]
    refine Sat.ok ⟨(lower_le _ _).1, hk.2.1, fun n hn hw => hk.2.2.1 n hn (Nat.lt_of_lt_of_le hw (lower_le _ _).2), hk.2.2.2⟩
theorem opCall_keep (hc : CallKeep call) {c : Call} : Sat (opCall T call env h c) (Kp h) := by
  unfold opCall
  split
  · exact Sat.bind fun _ _ => builtin_keep
  · refine Sat.bind fun _ _ => ?_
    split
    · exact Sat.bind fun _ _ => doCall_keep hc
    · exact Sat.no
  · exact Sat.no
theorem opMapUpdate_keep {t : Nat} {x k v : Operand} : Sat (opMapUpdate T env h t x k v) (Kp h) := by
  unfold opMapUpdate
  refine Sat.bind fun _ _ => ?_
  split
  · split
    · rename_i hes
      exact Sat.bind fun _ _ => Sat.B (Sat.bind fun _ _ => Sat.bind fun _ _ => Sat.B (Sat.bind fun _ _ => Sat.ok (put_keep (by rw [hes]; rfl))) Sat.no) Sat.no
    · exact Sat.no
  · exact Sat.no
theorem op_keep (hc : CallKeep call) (o : Op) : Sat (op T Γ call env h o) (Kp h) := by
  cases o with
  | move x => exact Sat.same (by show Sat (opMove env h x) _; unfold opMove; repeat (first | with_reducible exact Sat.no | (with_reducible refine Sat.ok ?_; exact rfl) | (with_reducible refine Sat.B ?_ ?_) | (with_reducible refine Sat.bif ?_ ?_) | (with_reducible refine Sat.bind (fun _ _ => ?_)) | split))
  | assign x => exact Sat.same (by show Sat (opMove env h x) _; unfold opMove; repeat (first | with_reducible exact Sat.no | (with_reducible refine Sat.ok ?_; exact rfl) | (with_reducible refine Sat.B ?_ ?_) | (with_reducible refine Sat.bif ?_ ?_) | (with_reducible refine Sat.bind (fun _ _ => ?_)) | split))
  | pick c x y => exact Sat.same (by show Sat (opPick env h c x y) _; unfold opPick; repeat (first | with_reducible exact Sat.no | (with_reducible refine Sat.ok ?_; exact rfl) | (with_reducible refine Sat.B ?_ ?_) | (with_reducible refine Sat.bif ?_ ?_) | (with_reducible refine Sat.bind (fun _ _ => ?_)) | split))
  | alloc t => exact Sat.bind fun _ _ => new_keep
  | box t x => exact Sat.bind fun _ _ => Sat.bind fun _ _ => new_keep
  | build t ps => exact Sat.same (by show Sat (opBuild T env h t ps.toList) _; unfold opBuild; repeat (first | with_reducible exact Sat.no | (with_reducible refine Sat.ok ?_; exact rfl) | (with_reducible refine Sat.B ?_ ?_) | (with_reducible refine Sat.bif ?_ ?_) | (with_reducible refine Sat.bind (fun _ _ => ?_)) | split))
  | buildSlice t n ps => exact Sat.bind fun _ _ => Sat.B (Sat.B (Sat.bind fun _ _ => Sat.bind fun _ _ => new_keep) Sat.no) Sat.no
  | load t x => exact Sat.same (by show Sat (opLoad T env h t x) _; unfold opLoad; repeat (first | with_reducible exact Sat.no | (with_reducible refine Sat.ok ?_; exact rfl) | (with_reducible refine Sat.B ?_ ?_) | (with_reducible refine Sat.bif ?_ ?_) | (with_reducible refine Sat.bind (fun _ _ => ?_)) | split))
  | store t x y =>
    show Sat (opStore T env h t x y) _
    unfold opStore
    refine Sat.bind fun _ _ => ?_
    split
    · exact Sat.bind fun _ _ => Sat.bind fun _ _ => Sat.bind fun _ _ => Sat.B (write_then fun _ => rfl) Sat.no
    · exact Sat.no
  | nilCheck x => exact Sat.same (by show Sat (opNilCheck env h x) _; unfold opNilCheck; repeat (first | with_reducible exact Sat.no | (with_reducible refine Sat.ok ?_; exact rfl) | (with_reducible refine Sat.B ?_ ?_) | (with_reducible refine Sat.bif ?_ ?_) | (with_reducible refine Sat.bind (fun _ _ => ?_)) | split))
  | binOp b t x y u => exact Sat.same (by show Sat (opBin T Γ env h b t x y) _; unfold opBin; repeat (first | with_reducible exact Sat.no | (with_reducible refine Sat.ok ?_; exact rfl) | (with_reducible refine Sat.B ?_ ?_) | (with_reducible refine Sat.bif ?_ ?_) | (with_reducible refine Sat.bind (fun _ _ => ?_)) | split))
  | unOp u t x => exact Sat.same (by show Sat (opUn env h u x) _; unfold opUn; repeat (first | with_reducible exact Sat.no | (with_reducible refine Sat.ok ?_; exact rfl) | (with_reducible refine Sat.B ?_ ?_) | (with_reducible refine Sat.bif ?_ ?_) | (with_reducible refine Sat.bind (fun _ _ => ?_)) | split))
  | convert s d x => exact Sat.same (by show Sat (opConvert T env h s d x) _; unfold opConvert; repeat (first | with_reducible exact Sat.no | (with_reducible refine Sat.ok ?_; exact rfl) | (with_reducible refine Sat.B ?_ ?_) | (with_reducible refine Sat.bif ?_ ?_) | (with_reducible refine Sat.bind (fun _ _ => ?_)) | split))
  | makeInterface t x => exact Sat.same (by show Sat (opIface T env h t x) _; unfold opIface; repeat (first | with_reducible exact Sat.no | (with_reducible refine Sat.ok ?_; exact rfl) | (with_reducible refine Sat.B ?_ ?_) | (with_reducible refine Sat.bif ?_ ?_) | (with_reducible refine Sat.bind (fun _ _ => ?_)) | split))
  | makeFunc f x y => exact Sat.same (by show Sat (opMakeFunc env h f x.toList y.toList) _; unfold opMakeFunc; repeat (first | with_reducible exact Sat.no | (with_reducible refine Sat.ok ?_; exact rfl) | (with_reducible refine Sat.B ?_ ?_) | (with_reducible refine Sat.bif ?_ ?_) | (with_reducible refine Sat.bind (fun _ _ => ?_)) | split))
  | makeMap t r =>
    show Sat (opMakeMap h r) _
    unfold opMakeMap
    split
    · exact new_keep
    · exact Sat.no
  | makeSlice t l c =>
    show Sat (opMakeSlice T env h t l c) _
    unfold opMakeSlice
    exact Sat.bind fun _ _ => Sat.bind fun _ _ => Sat.bind fun _ _ => Sat.bind fun _ _ => Sat.bind fun _ _ => Sat.B (Sat.B (Sat.B (Sat.B new_keep Sat.no) Sat.no) Sat.no) Sat.no
  | slice t x lo hi mx => exact Sat.same (by show Sat (opSlice T env h t x lo hi mx) _; unfold opSlice; repeat (first | with_reducible exact Sat.no | (with_reducible refine Sat.ok ?_; exact rfl) | (with_reducible refine Sat.B ?_ ?_) | (with_reducible refine Sat.bif ?_ ?_) | (with_reducible refine Sat.bind (fun _ _ => ?_)) | split))
  | fieldAddr t x f => exact Sat.same (by show Sat (opFieldAddr T env h t x f) _; unfold opFieldAddr; repeat (first | with_reducible exact Sat.no | (with_reducible refine Sat.ok ?_; exact rfl) | (with_reducible refine Sat.B ?_ ?_) | (with_reducible refine Sat.bif ?_ ?_) | (with_reducible refine Sat.bind (fun _ _ => ?_)) | split))
  | field t x f => exact Sat.same (by show Sat (opField T env h t x f) _; unfold opField; repeat (first | with_reducible exact Sat.no | (with_reducible refine Sat.ok ?_; exact rfl) | (with_reducible refine Sat.B ?_ ?_) | (with_reducible refine Sat.bif ?_ ?_) | (with_reducible refine Sat.bind (fun _ _ => ?_)) | split))
  | indexAddr t x f => exact Sat.same (by show Sat (opIndexAddr T env h t x f) _; unfold opIndexAddr; repeat (first | with_reducible exact Sat.no | (with_reducible refine Sat.ok ?_; exact rfl) | (with_reducible refine Sat.B ?_ ?_) | (with_reducible refine Sat.bif ?_ ?_) | (with_reducible refine Sat.bind (fun _ _ => ?_)) | split))
  | index t x f => exact Sat.same (by show Sat (opIndex T env h t x f) _; unfold opIndex; repeat (first | with_reducible exact Sat.no | (with_reducible refine Sat.ok ?_; exact rfl) | (with_reducible refine Sat.B ?_ ?_) | (with_reducible refine Sat.bif ?_ ?_) | (with_reducible refine Sat.bind (fun _ _ => ?_)) | split))
  | lookup t x k ok => exact Sat.same (by show Sat (opLookup T env h t x k ok) _; unfold opLookup; repeat (first | with_reducible exact Sat.no | (with_reducible refine Sat.ok ?_; exact rfl) | (with_reducible refine Sat.B ?_ ?_) | (with_reducible refine Sat.bif ?_ ?_) | (with_reducible refine Sat.bind (fun _ _ => ?_)) | split))
  | mapUpdate t x k y => exact opMapUpdate_keep
  | extract x i => exact Sat.same (by show Sat (opExtract env h x i) _; unfold opExtract; repeat (first | with_reducible exact Sat.no | (with_reducible refine Sat.ok ?_; exact rfl) | (with_reducible refine Sat.B ?_ ?_) | (with_reducible refine Sat.bif ?_ ?_) | (with_reducible refine Sat.bind (fun _ _ => ?_)) | split))
  | call c => exact opCall_keep hc
  | _ => exact Sat.no
end
end Go.Proofs.YtplblmhnccdgcaaGreat.AM

namespace Go.Proofs.YtplblmhnccdgcaaGreat.AM
open Go
section
variable {T : Tab} {Γ : Syms} {h h' : Hp} {env env' : Tr AV} {call : CallF} {L : Prs}
/-! ### all code keeps -/
abbrev KpE (h : Hp) : Tr AV × Hp → Prop := fun r => Keep h r.2
theorem ops_keep (hc : CallKeep call) (all : List Oper) : ∀ (l : List Oper) (env : Tr AV) (h : Hp), Sat (ops T Γ call all l env h) (KpE h)
  | [], env, h => Sat.ok (Keep.refl h)
  | o :: l, env, h => by
    rw [ops_cons]
    refine Sat.bind fun b _ => ?_
    cases b with
    | false => exact ops_keep hc all l _ h
    | true => exact Sat.bind fun r e => (ops_keep hc all l _ r.2).mono fun a ha => (op_keep hc o.op r e).trans ha
theorem opsDR_cons (all : List Oper) (prs : List (Nat × Nat)) (base k : Nat) (o : Oper) (l : List Oper) (env : Tr AV) (h : Hp) : opsDR (o :: l) T Γ call all prs base k env h =
    (wanted all env o.guard).bind fun b => Bool.rec (motive := fun _ => DR) (consR ⟨0, h.next, 0, 0⟩ (opsDR l T Γ call all prs base (k + 1) (setD env o.dst undefA) h))
      (Bool.rec (motive := fun _ => DR)
        ((op T Γ call env { heap := h.heap, next := h.next, wl := h.next } o.op).bind fun r => consR ⟨rdOf env o.op, lower r.2.wl h.next, wrOf env o.op, h.next⟩ (opsDR l T Γ call all prs base (k + 1) (setD env o.dst r.1) { heap := r.2.heap, next := r.2.next, wl := lower h.wl r.2.wl }))
        ((flR T Γ call (base + k) env h o.op).bind fun r => consR ⟨base + k + 1, base + k, 0, 0⟩ (opsDR l T Γ call all prs base (k + 1) (setD env o.dst r.1) r.2))
        (memP (k, k) prs)) b := rfl
theorem flR_ok {n : Nat} {o : Op} {r : AV × Hp} (e : flR T Γ call n env h o = .ok r) : ∃ h1 ob, op T Γ call env { heap := .nil, next := n, wl := 0 } o = .ok (r.1, h1) ∧ h1.heap.get n = some ob ∧ r.2 = { heap := h.heap.putR n ob, next := h.next, wl := h.wl } := by
  unfold flR at e
  obtain ⟨⟨v, h1⟩, e1, e2⟩ := R.bind_eq e
  obtain ⟨ob, e3, e4⟩ := R.bind_eq e2
  injection e4 with e4; subst e4
  refine ⟨h1, ob, e1, ?_, rfl⟩
  unfold someR at e3
  cases hg : h1.heap.get n with
  | none => simp only [hg] at e3; cases e3
  | some x => simp only [hg] at e3; injection e3 with e3; rw [e3]
/-- What a region that draws leaves alone: names below the ones that are kept for it. -/
def KeepB (base : Nat) (h h' : Hp) : Prop := h'.wl ≤ h.wl ∧ h.next ≤ h'.next ∧ (∀ n, n < base → n < h'.wl → h'.heap.get n = h.heap.get n) ∧ ∀ n, n < base → (h'.heap.get n).isSome = true → (h.heap.get n).isSome = true
theorem KeepB.refl (base : Nat) (h : Hp) : KeepB base h h := ⟨Nat.le_refl _, Nat.le_refl _, fun _ _ _ => rfl, fun _ _ h => h⟩
theorem KeepB.trans {base : Nat} {h h' h'' : Hp} (x : KeepB base h h') (y : KeepB base h' h'') : KeepB base h h'' :=
  ⟨Nat.le_trans y.1 x.1, Nat.le_trans x.2.1 y.2.1, fun n h1 h2 => (y.2.2.1 n h1 h2).trans (x.2.2.1 n h1 (Nat.lt_of_lt_of_le h2 y.1)), fun n h1 h2 => x.2.2.2 n h1 (y.2.2.2 n h1 h2)⟩
theorem keep_low {base : Nat} {r : Hp} (hb : base ≤ h.next) (hk : Keep { heap := h.heap, next := h.next, wl := h.next } r) : KeepB base h { heap := r.heap, next := r.next, wl := lower h.wl r.wl } :=
  ⟨(lower_le _ _).1, hk.2.1, fun n hn hw => hk.2.2.1 n (Nat.lt_of_lt_of_le hn hb) (Nat.lt_of_lt_of_le hw (lower_le _ _).2), fun n hn => hk.2.2.2 n (Nat.lt_of_lt_of_le hn hb)⟩
theorem keep_fl {base n : Nat} {ob : AO} (hn : base ≤ n) : KeepB base h { heap := h.heap.putR n ob, next := h.next, wl := h.wl } := by
  have e : ∀ m, m < base → (h.heap.putR n ob).get m = h.heap.get m := fun m hm => by rw [Tr.get_putR, if_neg (by omega)]
  exact ⟨Nat.le_refl _, Nat.le_refl _, fun m hm _ => e m hm, fun m hm hs => by rw [← e m hm]; exact hs⟩
theorem opsDR_keep (hc : CallKeep call) (all : List Oper) (prs : List (Nat × Nat)) (base : Nat) : ∀ (l : List Oper) (k : Nat) (env : Tr AV) (h : Hp), base ≤ h.next → Sat (opsDR l T Γ call all prs base k env h) (fun r => KeepB base h r.1.2)
  | [], k, env, h, _ => Sat.ok (KeepB.refl base h)
  | o :: l, k, env, h, hb => by
    rw [opsDR_cons]
    refine Sat.bind fun b _ => ?_
    cases b with
    | false => exact Sat.bind fun r e => Sat.ok (opsDR_keep hc all prs base l _ _ h hb r e)
    | true =>
      cases hm : memP (k, k) prs with
      | false =>
        refine Sat.bind fun r e => Sat.bind fun q e2 => Sat.ok ?_
        have hk := op_keep hc o.op r e
        exact (keep_low hb hk).trans (opsDR_keep hc all prs base l _ _ { heap := r.2.heap, next := r.2.next, wl := lower h.wl r.2.wl } (Nat.le_trans hb hk.2.1) q e2)
      | true =>
        refine Sat.bind fun r e => Sat.bind fun q e2 => Sat.ok ?_
        obtain ⟨h1, ob, _, _, e3⟩ := flR_ok e
        rw [e3] at e2
        exact (keep_fl (by omega)).trans (opsDR_keep hc all prs base l _ _ _ (by exact hb) q e2)
theorem opsD_keep (hc : CallKeep call) (prs : List (Nat × Nat)) (l : List Oper) (env : Tr AV) (h : Hp) : Sat (opsD T Γ call prs l env h) (KpE h) := by
  unfold opsD
  have hle : h.next ≤ bif anyFl prs then Nat.add h.next (lenL l) else h.next := by
    cases anyFl prs with
    | true => exact Nat.le_add_right _ _
    | false => exact Nat.le_refl _
  refine Sat.bind fun p e => Sat.B (Sat.ok ?_) Sat.no
  have := opsDR_keep hc l prs h.next l 0 env { heap := h.heap, next := bif anyFl prs then Nat.add h.next (lenL l) else h.next, wl := h.wl } hle p e
  exact ⟨this.1, Nat.le_trans hle this.2.1, this.2.2.1, this.2.2.2⟩
abbrev KpX (h : Hp) : Ex × Tr AV × Hp → Prop := fun r => Keep h r.2.2
theorem thenR_keep {x : Res} {k : Tr AV → Hp → Res} (hx : Sat x (KpX h)) (hk : ∀ env h1, Sat (k env h1) (KpX h1)) : Sat (thenR x k) (KpX h) := by
  intro r e
  obtain ⟨e1, env1, h1, g1, g2⟩ := thenR_ok e
  rcases g2 with ⟨_, g2⟩ | ⟨_, g2⟩
  · exact (hx _ g1).trans (hk env1 h1 r g2)
  · subst g2; exact hx _ g1
theorem exec_keep (hc : CallKeep call) : ∀ (f : Nat) (c : Code) (env : Tr AV) (h : Hp), Sat (execF f T Γ call L c env h) (KpX h)
  | 0, c, env, h => Sat.no
  | f + 1, c, env, h => by
    have ih := exec_keep hc f
    cases c with
    | skip => exact Sat.ok (Keep.refl h)
    | region id os dr =>
      show Sat (normR (B dr (opsD T Γ call (prsOf L id) os.toList env h) (ops T Γ call os.toList os.toList env h))) _
      refine Sat.bind fun r e => Sat.ok ?_
      have : Sat (B dr (opsD T Γ call (prsOf L id) os.toList env h) (ops T Γ call os.toList os.toList env h)) (KpE h) := by
        exact Sat.B (opsD_keep hc _ _ _ _) (ops_keep hc _ _ _ _)
      exact this r e
    | seq x y => exact thenR_keep (ih x env h) (fun env h => ih y env h)
    | cond c x y =>
      show Sat ((ev env c).bind fun v => condR v (execF f T Γ call L x env h) (execF f T Γ call L y env h)) _
      refine Sat.bind fun v _ => ?_
      unfold condR
      split
      · exact Sat.B (ih x env h) (ih y env h)
      · exact Sat.no
    | block id b =>
      show Sat (inBlock id (execF f T Γ call L b env h)) _
      unfold inBlock
      refine Sat.bind fun r e => ?_
      have := ih b env h r e
      obtain ⟨ex, q⟩ := r
      cases ex with
      | normal => exact Sat.ok this
      | exit id' => exact Sat.ok this
      | ret => exact Sat.ok this
    | loop b => exact thenR_keep (ih b env h) (fun env h => ih (.loop b) env h)
    | exit id => exact Sat.ok (Keep.refl h)
    | scope b => exact ih b env h
    | label l => exact Sat.ok (Keep.refl h)
    | ret => exact Sat.ok (Keep.refl h)
    | _ => exact Sat.no
theorem callF_keep {g0 : CallF} (h0 : CallKeep g0) (loops : Nat) : ∀ d, CallKeep (callF T Γ g0 loops d)
  | 0 => h0
  | d + 1 => by
    intro f args h
    show Sat (Option.rec (motive := fun _ => R (AV × Hp)) (g0 f args h) (fun fn =>
      B (Nat.ble (lenL args) fn.ntmps) (retR T fn (exec T Γ (callF T Γ g0 loops d) fn.prs loops fn.body (envOf args 0 .nil) h)) (.no 88)) (T.fn.get f)) _
    cases T.fn.get f with
    | none => exact h0 f args h
    | some fn =>
      refine Sat.B ?_ Sat.no
      unfold retR
      refine Sat.bind fun r e => ?_
      have := exec_keep (callF_keep h0 loops d) loops fn.body _ h r e
      obtain ⟨ex, q⟩ := r
      cases ex with
      | normal => exact Sat.bind fun _ _ => Sat.ok this
      | exit id => exact Sat.no
      | ret => exact Sat.bind fun _ _ => Sat.ok this

/-! ### what an operation looks at -/
theorem ev_congr {x : Operand} (hx : ∀ t, x = .tmp t → envGet env t = envGet env' t) : ev env x = ev env' x := by
  cases x with
  | tmp t => show R.ok (envGet env t) = .ok (envGet env' t); rw [hx t rfl]
  | _ => rfl
theorem evs_congr : ∀ {l : List Operand}, (∀ t, .tmp t ∈ l → envGet env t = envGet env' t) → evs env l = evs env' l
  | [], _ => rfl
  | x :: l, h => by
    rw [evs_cons, evs_cons, ev_congr (fun t e => h t (by simp [e])), evs_congr (fun t e => h t (by simp [e]))]
theorem evO_congr {x : Option Operand} (h : ∀ t, x = some (.tmp t) → envGet env t = envGet env' t) : evO env x = evO env' x := by
  cases x with
  | none => rfl
  | some o => show (ev env o).bind _ = (ev env' o).bind _; rw [ev_congr (fun t e => h t (by rw [e]))]
theorem parts_congr : ∀ {l : List (Nat × Operand)}, (∀ t, .tmp t ∈ l.map (·.2) → envGet env t = envGet env' t) → parts env l = parts env' l
  | [], _ => rfl
  | (i, x) :: l, h => by
    rw [parts_cons, parts_cons, ev_congr (fun t e => h t (by simp [e])), parts_congr (fun t e => h t (by simp at e ⊢; exact .inr e))]
theorem op_congr {o : Op} (hx : ∀ t, .tmp t ∈ o.operands → envGet env t = envGet env' t) : op T Γ call env h o = op T Γ call env' h o ∧ rdOf env o = rdOf env' o := by
  cases o with
  | move x => simp only [Op.operands] at hx; exact ⟨by show opMove env h x = opMove env' h x; unfold opMove; rw [ev_congr (fun t e => hx t (by simp [e]))], rfl⟩
  | assign x => simp only [Op.operands] at hx; exact ⟨by show opMove env h x = opMove env' h x; unfold opMove; rw [ev_congr (fun t e => hx t (by simp [e]))], rfl⟩
  | pick c x y =>
    simp only [Op.operands] at hx
    exact ⟨by show opPick env h c x y = opPick env' h c x y; unfold opPick; rw [ev_congr (x := c) (fun t e => hx t (by simp [e])), ev_congr (x := x) (fun t e => hx t (by simp [e])), ev_congr (x := y) (fun t e => hx t (by simp [e]))], rfl⟩
  | alloc t => exact ⟨rfl, rfl⟩
  | box t x => simp only [Op.operands] at hx; exact ⟨by show opBox env h x = opBox env' h x; unfold opBox; rw [ev_congr (fun t e => hx t (by simp [e]))], rfl⟩
  | build t ps =>
    simp only [Op.operands] at hx
    exact ⟨by show opBuild T env h t ps.toList = opBuild T env' h t ps.toList; unfold opBuild; rw [parts_congr (fun t e => hx t (by simpa using e))], rfl⟩
  | buildSlice t n ps =>
    simp only [Op.operands] at hx
    exact ⟨by show opBuildSlice T env h t n ps.toList = opBuildSlice T env' h t n ps.toList; unfold opBuildSlice; rw [parts_congr (fun t e => hx t (by simpa using e))], rfl⟩
  | load t x =>
    simp only [Op.operands] at hx
    have e1 := ev_congr (x := x) (fun t e => hx t (by simp [e]))
    exact ⟨by show opLoad T env h t x = opLoad T env' h t x; unfold opLoad; rw [e1], by simp only [rdOf, e1]⟩
  | store t x y =>
    simp only [Op.operands] at hx
    exact ⟨by show opStore T env h t x y = opStore T env' h t x y; unfold opStore; rw [ev_congr (x := x) (fun t e => hx t (by simp [e])), ev_congr (x := y) (fun t e => hx t (by simp [e]))], rfl⟩
  | nilCheck x => simp only [Op.operands] at hx; exact ⟨by show opNilCheck env h x = opNilCheck env' h x; unfold opNilCheck; rw [ev_congr (fun t e => hx t (by simp [e]))], rfl⟩
  | binOp b t x y u =>
    simp only [Op.operands] at hx
    exact ⟨by show opBin T Γ env h b t x y = opBin T Γ env' h b t x y; unfold opBin; rw [ev_congr (x := x) (fun t e => hx t (by simp [e])), ev_congr (x := y) (fun t e => hx t (by simp [e]))], rfl⟩
  | unOp u t x => simp only [Op.operands] at hx; exact ⟨by show opUn env h u x = opUn env' h u x; unfold opUn; rw [ev_congr (fun t e => hx t (by simp [e]))], rfl⟩
  | convert s d x => simp only [Op.operands] at hx; exact ⟨by show opConvert T env h s d x = opConvert T env' h s d x; unfold opConvert; rw [ev_congr (fun t e => hx t (by simp [e]))], rfl⟩
  | makeInterface t x => simp only [Op.operands] at hx; exact ⟨by show opIface T env h t x = opIface T env' h t x; unfold opIface; rw [ev_congr (fun t e => hx t (by simp [e]))], rfl⟩
  | makeFunc f x y =>
    simp only [Op.operands] at hx
    exact ⟨by show opMakeFunc env h f x.toList y.toList = opMakeFunc env' h f x.toList y.toList; unfold opMakeFunc; rw [evs_congr (l := y.toList) (fun t e => hx t (by simp at e ⊢; exact .inr e))], rfl⟩
  | makeMap t r => exact ⟨rfl, rfl⟩
  | makeSlice t l c =>
    simp only [Op.operands] at hx
    exact ⟨by show opMakeSlice T env h t l c = opMakeSlice T env' h t l c; unfold opMakeSlice; rw [ev_congr (x := l) (fun t e => hx t (by simp [e])), ev_congr (x := c) (fun t e => hx t (by simp [e]))], rfl⟩
  | slice t x lo hi mx =>
    simp only [Op.operands] at hx
    have e1 := ev_congr (x := x) (fun t e => hx t (by simp [e]))
    have e2 := evO_congr (x := lo) (fun t e => hx t (by simp [e]))
    have e3 := evO_congr (x := hi) (fun t e => hx t (by simp [e]))
    have e4 := evO_congr (x := mx) (fun t e => hx t (by simp [e]))
    exact ⟨by show opSlice T env h t x lo hi mx = opSlice T env' h t x lo hi mx; unfold opSlice; rw [e1, e2, e3, e4], by simp only [rdOf, e1]⟩
  | fieldAddr t x f => simp only [Op.operands] at hx; exact ⟨by show opFieldAddr T env h t x f = opFieldAddr T env' h t x f; unfold opFieldAddr; rw [ev_congr (fun t e => hx t (by simp [e]))], rfl⟩
  | field t x f => simp only [Op.operands] at hx; exact ⟨by show opField T env h t x f = opField T env' h t x f; unfold opField; rw [ev_congr (fun t e => hx t (by simp [e]))], rfl⟩
  | indexAddr t x f =>
    simp only [Op.operands] at hx
    exact ⟨by show opIndexAddr T env h t x f = opIndexAddr T env' h t x f; unfold opIndexAddr; rw [ev_congr (x := x) (fun t e => hx t (by simp [e])), ev_congr (x := f) (fun t e => hx t (by simp [e]))], rfl⟩
  | index t x f =>
    simp only [Op.operands] at hx
    exact ⟨by show opIndex T env h t x f = opIndex T env' h t x f; unfold opIndex; rw [ev_congr (x := x) (fun t e => hx t (by simp [e])), ev_congr (x := f) (fun t e => hx t (by simp [e]))], rfl⟩
  | lookup t x k ok =>
    simp only [Op.operands] at hx
    have e1 := ev_congr (x := x) (fun t e => hx t (by simp [e]))
    have e2 := ev_congr (x := k) (fun t e => hx t (by simp [e]))
    exact ⟨by show opLookup T env h t x k ok = opLookup T env' h t x k ok; unfold opLookup; rw [e1, e2], by simp only [rdOf, e1]⟩
  | mapUpdate t x k y =>
    simp only [Op.operands] at hx
    exact ⟨by show opMapUpdate T env h t x k y = opMapUpdate T env' h t x k y; unfold opMapUpdate; rw [ev_congr (x := x) (fun t e => hx t (by simp [e])), ev_congr (x := k) (fun t e => hx t (by simp [e])), ev_congr (x := y) (fun t e => hx t (by simp [e]))], rfl⟩
  | extract x i => simp only [Op.operands] at hx; exact ⟨by show opExtract env h x i = opExtract env' h x i; unfold opExtract; rw [ev_congr (fun t e => hx t (by simp [e]))], rfl⟩
  | call c =>
    simp only [Op.operands, Call.operands] at hx
    have e1 : evs env c.args.toList = evs env' c.args.toList := evs_congr (fun t e => hx t (by simp at e ⊢; first | exact .inr e | exact .inl e | exact e))
    refine ⟨?_, ?_⟩
    · show opCall T call env h c = opCall T call env' h c
      unfold opCall
      rw [e1]
      cases hc : c.callee with
      | value f => rw [hc] at hx; simp only []; rw [ev_congr (x := f) (fun t e => hx t (by simp [e]))]
      | builtin b => rfl
      | invoke r m => rfl
    · simp only [rdOf]
      split
      · rename_i x hl
        have hm : x ∈ c.args := by
          have : x ∈ c.args.toList := by rw [hl]; simp
          simpa using this
        rw [ev_congr (x := x) (fun t e => hx t (by subst e; exact Array.mem_append.2 (.inr hm)))]
      · rfl
  | _ => exact ⟨rfl, rfl⟩
end
end Go.Proofs.YtplblmhnccdgcaaGreat.AM

namespace Go.Proofs.YtplblmhnccdgcaaGreat.AM
open Go
/-- Two runs in two heaps: the first leaves its heap alone; the second answers alike. -/
def U2 (h h2 : Hp) (F F2 : R (AV × Hp)) : Prop := ∀ v h', F = .ok (v, h') → h' = h ∧ F2 = .ok (v, h2)
section
variable {T : Tab} {Γ : Syms} {h h' h2 : Hp} {env env' : Tr AV} {call : CallF} {v : AV}
theorem U2.no {w : Nat} {y : R (AV × Hp)} : U2 h h2 (.no w) y := fun v h' e => by cases e
theorem U2.ok {u : AV} : U2 h h2 (.ok (u, h)) (.ok (u, h2)) := fun v h' e => by injection e with e; injection e with e1 e2; subst e1; subst e2; exact ⟨rfl, rfl⟩
theorem U2.bind {α : Type} {x : R α} {f g : α → R (AV × Hp)} (hx : ∀ a, x = .ok a → U2 h h2 (f a) (g a)) : U2 h h2 (x.bind f) (x.bind g) := fun v h' e => by
  obtain ⟨a, e1, e2⟩ := R.bind_eq e
  rw [e1]
  exact hx a e1 v h' e2
theorem U2.B {c : Bool} {x y x' y' : R (AV × Hp)} (h1 : U2 h h2 x x') (k : U2 h h2 y y') : U2 h h2 (B c x y) (B c x' y') := by cases c <;> assumption
theorem getCells_same {n : Nat} (hn : h2.heap.get n = h.heap.get n) : getCells h2 n = getCells h n := by unfold getCells; rw [hn]
theorem sliceS_same {n off len es : Nat} {cap : Option Nat} {lo hi mx : Option AV} (hn : h2.heap.get n = h.heap.get n) : sliceS h2 n off len es cap lo hi mx = sliceS h n off len es cap lo hi mx := by
  unfold sliceS; rw [getCells_same hn]
theorem plain_u2 {o : Op} (hc : cls o ≠ 2) (hn : ∀ n, rdOf env o = n + 1 → h2.heap.get n = h.heap.get n) : U2 h h2 (op T Γ call env h o) (op T Γ call env h2 o) := by
  cases o with
  | move x => show U2 h h2 (opMove env h x) (opMove env h2 x); unfold opMove; repeat (first | with_reducible exact U2.no | with_reducible exact U2.ok | (with_reducible refine U2.B ?_ ?_) | (with_reducible refine U2.bind (fun _ _ => ?_)) | split)
  | pick c x y =>
    show U2 h h2 (opPick env h c x y) (opPick env h2 c x y); unfold opPick
    refine U2.bind fun p hp => ?_
    clear hp
    cases p <;> first | exact U2.no | skip
    rename_i b
    cases b
    · exact U2.bind fun _ _ => U2.ok
    · exact U2.bind fun _ _ => U2.ok
  | build t ps => show U2 h h2 (opBuild T env h t ps.toList) (opBuild T env h2 t ps.toList); unfold opBuild; repeat (first | with_reducible exact U2.no | with_reducible exact U2.ok | (with_reducible refine U2.B ?_ ?_) | (with_reducible refine U2.bind (fun _ _ => ?_)) | split)
  | nilCheck x =>
    show U2 h h2 (opNilCheck env h x) (opNilCheck env h2 x); unfold opNilCheck
    refine U2.bind fun p _ => ?_
    cases p <;> first | exact U2.no | exact U2.ok
  | binOp b t x y u => show U2 h h2 (opBin T Γ env h b t x y) (opBin T Γ env h2 b t x y); unfold opBin; repeat (first | with_reducible exact U2.no | with_reducible exact U2.ok | (with_reducible refine U2.B ?_ ?_) | (with_reducible refine U2.bind (fun _ _ => ?_)) | split)
  | unOp u t x =>
    show U2 h h2 (opUn env h u x) (opUn env h2 u x); unfold opUn
    refine U2.bind fun p _ => ?_
    cases u <;> cases p <;> first | exact U2.no | exact U2.ok
  | convert s d x =>
    show U2 h h2 (opConvert T env h s d x) (opConvert T env h2 s d x); unfold opConvert
    refine U2.bind fun p _ => U2.bind fun td _ => U2.bind fun ts _ => ?_
    cases p <;> first | exact U2.no | skip
    · refine U2.B ?_ U2.no
      split <;> first | exact U2.no | exact U2.ok
    · refine U2.B ?_ U2.no
      split <;> first | exact U2.no | exact U2.ok
    · exact U2.B (U2.B U2.ok U2.no) U2.no
  | makeInterface t x => show U2 h h2 (opIface T env h t x) (opIface T env h2 t x); unfold opIface; repeat (first | with_reducible exact U2.no | with_reducible exact U2.ok | (with_reducible refine U2.B ?_ ?_) | (with_reducible refine U2.bind (fun _ _ => ?_)) | split)
  | makeFunc f x y =>
    show U2 h h2 (opMakeFunc env h f x.toList y.toList) (opMakeFunc env h2 f x.toList y.toList); unfold opMakeFunc
    split
    · exact U2.bind fun _ _ => U2.ok
    · exact U2.no
  | fieldAddr t x f =>
    show U2 h h2 (opFieldAddr T env h t x f) (opFieldAddr T env h2 t x f); unfold opFieldAddr
    refine U2.bind fun p _ => ?_
    cases p <;> first | exact U2.no | skip
    refine U2.bind fun ti _ => U2.B ?_ U2.no
    split <;> first | exact U2.no | exact U2.ok
  | field t x f =>
    show U2 h h2 (opField T env h t x f) (opField T env h2 t x f); unfold opField
    refine U2.bind fun p _ => ?_
    cases p <;> first | exact U2.no | skip
    refine U2.bind fun ti _ => U2.B ?_ U2.no
    split
    · refine U2.B U2.ok ?_
      split <;> first | exact U2.no | exact U2.ok
    · exact U2.no
  | indexAddr t x f =>
    show U2 h h2 (opIndexAddr T env h t x f) (opIndexAddr T env h2 t x f); unfold opIndexAddr
    refine U2.bind fun p _ => U2.bind fun q _ => U2.bind fun j _ => U2.bind fun ti _ => ?_
    cases p <;> first | exact U2.no | skip
    · exact U2.B (U2.B (U2.B U2.ok U2.no) U2.no) U2.no
    · exact U2.B (U2.B (U2.B U2.ok U2.no) U2.no) U2.no
  | index t x f =>
    show U2 h h2 (opIndex T env h t x f) (opIndex T env h2 t x f); unfold opIndex
    refine U2.bind fun p _ => U2.bind fun q _ => U2.bind fun j _ => U2.bind fun ti _ => U2.B ?_ U2.no
    cases p <;> first | exact U2.no | skip
    simp only []
    split <;> first | exact U2.no | exact U2.ok
  | extract x i =>
    show U2 h h2 (opExtract env h x i) (opExtract env h2 x i); unfold opExtract
    refine U2.bind fun p _ => ?_
    cases p <;> first | exact U2.no | skip
    simp only []
    split <;> first | exact U2.no | exact U2.ok
  | load t x =>
    show U2 h h2 (opLoad T env h t x) (opLoad T env h2 t x); unfold opLoad
    refine U2.bind fun p hp => ?_
    cases p <;> first | exact U2.no | skip
    rename_i n off
    have e := getCells_same (hn n (by simp only [rdOf, hp, nameOf]))
    simp only [e]
    exact U2.bind fun _ _ => U2.bind fun _ _ => U2.bind fun _ _ => U2.ok
  | slice t x lo hi mx =>
    show U2 h h2 (opSlice T env h t x lo hi mx) (opSlice T env h2 t x lo hi mx); unfold opSlice
    refine U2.bind fun ti _ => U2.bind fun p hp => U2.bind fun l _ => U2.bind fun m _ => U2.bind fun k _ => ?_
    have e : sliceOp ti h2 p l m k = sliceOp ti h p l m k := by
      unfold sliceOp
      cases p <;> first | rfl | skip
      rename_i n off len es cap
      simp only [sliceS_same (hn n (by simp only [rdOf, hp, nameOf]))]
    rw [e]
    exact U2.bind fun _ _ => U2.ok
  | lookup t x k ok =>
    show U2 h h2 (opLookup T env h t x k ok) (opLookup T env h2 t x k ok); unfold opLookup
    refine U2.bind fun p hp => ?_
    cases p <;> first | exact U2.no | skip
    rename_i n
    simp only [hn n (by simp only [rdOf, hp, nameOf])]
    split
    · refine U2.bind fun ti _ => U2.B (U2.bind fun q _ => U2.B (U2.bind fun r _ => ?_) U2.no) U2.no
      split
      · exact U2.ok
      · split <;> first | exact U2.no | exact U2.ok
    · exact U2.no
  | call c =>
    show U2 h h2 (opCall T call env h c) (opCall T call env h2 c)
    unfold opCall
    simp only [cls] at hc
    cases hcc : c.callee with
    | value f => rw [hcc] at hc; exact absurd rfl hc
    | invoke r m => exact U2.no
    | builtin b =>
      rw [hcc] at hc
      simp only []
      refine U2.bind fun vs hvs => ?_
      have one : ∀ x, vs = [x] → rdOf env (.call c) = nameOf (.ok x) := by
        intro x e
        subst e
        simp only [rdOf]
        cases hl : c.args.toList with
        | nil => rw [hl] at hvs; cases hvs
        | cons y l =>
          rw [hl, evs_cons] at hvs
          obtain ⟨u, e1, hvs1⟩ := R.bind_eq hvs
          obtain ⟨us, e2, hvs2⟩ := R.bind_eq hvs1
          injection hvs2 with hvs2; injection hvs2 with e3 e4; subst e3; subst e4
          cases l with
          | nil => simp only [e1]
          | cons z l =>
            rw [evs_cons] at e2
            obtain ⟨u', _, e5⟩ := R.bind_eq e2
            obtain ⟨us', _, e6⟩ := R.bind_eq e5
            injection e6 with e6; cases e6
      generalize c.argTypes.toList = ts
      cases b <;> first | (exact absurd rfl hc; done) | skip
      · -- cap
        cases vs with
        | nil => exact U2.no
        | cons x l =>
          cases l with
          | cons y l => exact U2.no
          | nil =>
            cases ts with
            | nil => exact U2.no
            | cons t ts =>
              refine U2.bind fun ti _ => ?_
              have hone := one x rfl
              have e : capV ti h2 x = capV ti h x := by
                unfold capV
                cases x <;> first | rfl | skip
                rename_i n off len es cap
                cases cap with
                | some c => rfl
                | none => simp only [getCells_same (hn n (by rw [hone]; rfl))]
              rw [e]
              exact U2.bind fun _ _ => U2.ok
      · cases vs with
        | nil => exact U2.no
        | cons x l =>
          cases l with
          | cons y l => exact U2.no
          | nil =>
            cases ts with
            | nil => exact U2.no
            | cons t ts =>
              refine U2.bind fun ti _ => ?_
              have hone := one x rfl
              have e : lenV ti h2 x = lenV ti h x := by
                unfold lenV
                cases x <;> first | rfl | skip
                rename_i n
                have e0 := hn n (by rw [hone]; rfl)
                simp only []
                rw [e0]
              rw [e]
              exact U2.bind fun _ _ => U2.ok
      · cases vs with
        | nil => exact U2.no
        | cons x l =>
          cases l with
          | nil => exact U2.no
          | cons y l =>
            cases l with
            | nil => exact U2.bind fun _ _ => U2.ok
            | cons z l => exact U2.no
  | _ => exact absurd rfl hc
end
end Go.Proofs.YtplblmhnccdgcaaGreat.AM

namespace Go.Proofs.YtplblmhnccdgcaaGreat.AM
open Go
section
variable {val : Cx} {P : Program} {T : Tab} {Γ : Syms} {h h' h2 : Hp} {env env' : Tr AV} {call : CallF} {v : AV} {all : Array Oper} {a : Act} {w : World}

/-! ### the lexical run, step by step -/
/-- what step k (in the region's own count) is -/
def LexAt (T : Tab) (Γ : Syms) (call : CallF) (all : Array Oper) (prs : List (Nat × Nat)) (base k : Nat) (o : Oper) (E : Tr AV) (H : Hp) (V : AV) (H' : Hp) (rc : Rc) : Prop :=
  (wanted all.toList E o.guard = .ok false ∧ V = undefA ∧ H' = H) ∨
  (wanted all.toList E o.guard = .ok true ∧ memP (k, k) prs = false ∧ ∃ h1, op T Γ call E { heap := H.heap, next := H.next, wl := H.next } o.op = .ok (V, h1) ∧
        H' = { heap := h1.heap, next := h1.next, wl := lower H.wl h1.wl } ∧ rc = ⟨rdOf E o.op, lower h1.wl H.next, wrOf E o.op, H.next⟩) ∨
  (wanted all.toList E o.guard = .ok true ∧ memP (k, k) prs = true ∧ ∃ h1 ob, op T Γ call E { heap := .nil, next := base + k, wl := 0 } o.op = .ok (V, h1) ∧ h1.heap.get (base + k) = some ob ∧
        H' = { heap := H.heap.putR (base + k) ob, next := H.next, wl := H.wl } ∧ rc = ⟨base + k + 1, base + k, 0, 0⟩)
def Lex (T : Tab) (Γ : Syms) (call : CallF) (all : Array Oper) (prs : List (Nat × Nat)) (base k0 : Nat) (l : List Oper) (E : Nat → Tr AV) (H : Nat → Hp) (V : Nat → AV) (rc : Nat → Rc) : Prop :=
  ∀ k o, l[k]? = some o → E (k + 1) = setD (E k) o.dst (V k) ∧ LexAt T Γ call all prs base (k0 + k) o (E k) (H k) (V k) (H (k + 1)) (rc k)
def sh {α : Type} (x : α) (f : Nat → α) : Nat → α
  | 0 => x
  | k + 1 => f k
theorem opsDR_lex {prs : List (Nat × Nat)} {base : Nat} : ∀ (l : List Oper) (k0 : Nat) (env : Tr AV) (h : Hp) (env' : Tr AV) (h' : Hp) (rs : List Rc), opsDR l T Γ call all.toList prs base k0 env h = .ok ((env', h'), rs) →
    ∃ E H V rc, E 0 = env ∧ H 0 = h ∧ E l.length = env' ∧ H l.length = h' ∧ (∀ k, k < l.length → rs[k]? = some (rc k)) ∧ Lex T Γ call all prs base k0 l E H V rc
  | [], k0, env, h, env', h', rs, e => by
    injection e with e; injection e with e1 e2; injection e1 with e1 e3; subst e1; subst e2; subst e3
    exact ⟨fun _ => env, fun _ => h, fun _ => undefA, fun _ => ⟨0, 0, 0, 0⟩, rfl, rfl, rfl, rfl, fun k hk => by simp at hk, fun k o hk => by simp at hk⟩
  | o :: l, k0, env, h, env', h', rs, e => by
    rw [opsDR_cons] at e
    obtain ⟨b, hb, e1⟩ := R.bind_eq e; clear e
    -- what is alike in all three
    have key : ∀ (u : AV) (h2 : Hp) (r0 : Rc), consR r0 (opsDR l T Γ call all.toList prs base (k0 + 1) (setD env o.dst u) h2) = .ok ((env', h'), rs) → LexAt T Γ call all prs base k0 o env h u h2 r0 →
        ∃ E H V rc, E 0 = env ∧ H 0 = h ∧ E (o :: l).length = env' ∧ H (o :: l).length = h' ∧ (∀ k, k < (o :: l).length → rs[k]? = some (rc k)) ∧ Lex T Γ call all prs base k0 (o :: l) E H V rc := by
      intro u h2 r0 e2 hat
      obtain ⟨⟨⟨env1, h1⟩, rs1⟩, g1, g2⟩ := R.bind_eq (x := opsDR l T Γ call all.toList prs base (k0 + 1) (setD env o.dst u) h2) e2
      injection g2 with g2; injection g2 with g3 g4; injection g3 with g3 g5; subst g3; subst g4; subst g5
      obtain ⟨E, H, V, rc, x1, x2, x3, x4, x5, x6⟩ := opsDR_lex l _ _ _ _ _ _ g1
      refine ⟨sh env E, sh h H, sh u V, sh r0 rc, rfl, rfl, x3, x4, ?_, ?_⟩
      · intro k hk
        cases k with
        | zero => rfl
        | succ k => exact x5 k (by simpa using hk)
      · intro k o' hk
        cases k with
        | zero =>
          simp at hk; subst hk
          refine ⟨x1, ?_⟩
          show LexAt T Γ call all prs base (k0 + 0) o env h u (H 0) r0
          rw [x2]; exact hat
        | succ k =>
          have := x6 k o' (by simpa using hk)
          have e3 : k0 + 1 + k = k0 + (k + 1) := by omega
          rw [e3] at this; exact this
    cases b with
    | false => exact key undefA h _ e1 (.inl ⟨hb, rfl, rfl⟩)
    | true =>
      cases hm : memP (k0, k0) prs with
      | false =>
        rw [hm] at e1
        obtain ⟨⟨u, h1⟩, g0, e2⟩ := R.bind_eq (x := op T Γ call env { heap := h.heap, next := h.next, wl := h.next } o.op) e1
        exact key u _ _ e2 (.inr (.inl ⟨hb, hm, h1, g0, rfl, rfl⟩))
      | true =>
        rw [hm] at e1
        obtain ⟨⟨u, h2⟩, g0, e2⟩ := R.bind_eq (x := flR T Γ call (base + k0) env h o.op) e1
        obtain ⟨h1, ob, y1, y2, y3⟩ := flR_ok g0
        refine key u h2 _ e2 (.inr (.inr ⟨hb, hm, h1, ob, y1, y2, y3, rfl⟩))

/-! ### temporaries, when some have run -/
theorem setD_get (env : Tr AV) (d : Option Tmp) (v : AV) (t : Nat) : envGet (setD env d v) t = if d = some t then v else envGet env t := by
  cases d with
  | none => simp; rfl
  | some d =>
    show envGet (env.putR d v) t = _
    unfold envGet
    rw [Tr.get_putR]
    by_cases h : t = d
    · subst h; simp
    · have : ¬ (d = t) := fun e => h e.symm
      simp [h, this]
noncomputable def EnD (all : Array Oper) (V : Nat → AV) (env0 : Tr AV) (D : Nat → Bool) : Nat → Tr AV
  | 0 => env0
  | k + 1 => if D k then setD (EnD all V env0 D k) ((all[k]?).bind (·.dst)) (V k) else EnD all V env0 D k
theorem en_agree {E : Nat → Tr AV} {V : Nat → AV} {D : Nat → Bool} {m t j : Nat} (hE : ∀ k, k < m → E (k + 1) = setD (E k) ((all[k]?).bind (·.dst)) (V k))
    (hD : ∀ k, k < m → (all[k]?).bind (·.dst) = some t → (D k = true ↔ k < j)) : ∀ i, i ≤ m → envGet (EnD all V (E 0) D i) t = envGet (E (min i j)) t
  | 0, _ => by simp [EnD]
  | i + 1, hi => by
    have ih := en_agree hE hD i (by omega)
    simp only [EnD]
    by_cases hd : (all[i]?).bind (·.dst) = some t
    · have := hD i (by omega) hd
      by_cases hij : i < j
      · rw [if_pos (this.2 hij), setD_get, if_pos hd]
        have e : min (i + 1) j = i + 1 := by omega
        rw [e, hE i (by omega), setD_get, if_pos hd]
      · have hn : ¬ D i = true := fun h => hij (this.1 h)
        rw [if_neg hn, ih]
        have e1 : min (i + 1) j = j := by omega
        have e2 : min i j = j := by omega
        rw [e1, e2]
    · have hl : envGet (if D i then setD (EnD all V (E 0) D i) ((all[i]?).bind (·.dst)) (V i) else EnD all V (E 0) D i) t = envGet (EnD all V (E 0) D i) t := by
        split
        · rw [setD_get, if_neg hd]
        · rfl
      rw [hl, ih]
      by_cases hij : i < j
      · have e1 : min (i + 1) j = i + 1 := by omega
        have e2 : min i j = i := by omega
        rw [e1, e2, hE i (by omega), setD_get, if_neg hd]
      · have e1 : min (i + 1) j = j := by omega
        have e2 : min i j = j := by omega
        rw [e1, e2]
theorem en_other {V : Nat → AV} {env0 : Tr AV} {D D' : Nat → Bool} {t j : Nat} (hD : ∀ k, k ≠ j → D' k = D k) (hj : D j = false) (hd : (all[j]?).bind (·.dst) ≠ some t) : ∀ i, envGet (EnD all V env0 D' i) t = envGet (EnD all V env0 D i) t
  | 0 => rfl
  | i + 1 => by
    have ih := en_other (V := V) (env0 := env0) hD hj hd i
    simp only [EnD]
    by_cases hij : i = j
    · subst hij
      rw [hj]
      simp only [Bool.false_eq_true, if_false]
      split
      · rw [setD_get, if_neg hd, ih]
      · exact ih
    · rw [hD i hij]
      split
      · rw [setD_get, setD_get, ih]
      · exact ih
theorem en_self {V : Nat → AV} {env0 : Tr AV} {D' : Nat → Bool} {t j m : Nat} (hj : D' j = true) (hd : (all[j]?).bind (·.dst) = some t) (hl : ∀ k, j < k → k < m → D' k = true → (all[k]?).bind (·.dst) ≠ some t) : ∀ i, j < i → i ≤ m → envGet (EnD all V env0 D' i) t = V j
  | 0, h1, _ => by omega
  | i + 1, h1, h2 => by
    simp only [EnD]
    by_cases hij : i = j
    · subst hij
      rw [if_pos hj, setD_get, if_pos hd]
    · have ih := en_self (V := V) (env0 := env0) hj hd hl i (by omega) (by omega)
      split
      · rename_i hi
        rw [setD_get, if_neg (hl i (by omega) (by omega) hi), ih]
      · exact ih

/-! ### what is asked of the text, spelled out -/
def Closed (all : Array Oper) (D : Nat → Bool) : Prop := ∀ j o, all[j]? = some o → D j = true → ∀ e ∈ o.after, Region.binds .any e = true → D e.on = true
theorem msk_bit (acc : List Nat) : ∀ (l : List Edge) (s i : Nat), (l.foldl (fun s e => if Region.binds .any e then s ||| 2 ^ e.on ||| acc.getD e.on 0 else s) s).testBit i = true →
    s.testBit i = true ∨ ∃ e ∈ l, Region.binds .any e = true ∧ (i = e.on ∨ (acc.getD e.on 0).testBit i = true)
  | [], s, i, h => .inl h
  | e :: l, s, i, h => by
    simp only [List.foldl_cons] at h
    rcases msk_bit acc l _ i h with h1 | ⟨e', h1, h2, h3⟩
    · by_cases hb : Region.binds .any e = true
      · rw [if_pos hb, Nat.testBit_or, Nat.testBit_or, Nat.testBit_two_pow] at h1
        simp only [Bool.or_eq_true, decide_eq_true_eq] at h1
        rcases h1 with (h1 | h1) | h1
        · exact .inl h1
        · exact .inr ⟨e, by simp, hb, .inl h1.symm⟩
        · exact .inr ⟨e, by simp, hb, .inr h1⟩
      · rw [if_neg hb] at h1; exact .inl h1
    · exact .inr ⟨e', by simp [h1], h2, h3⟩
def MsOK (all : Array Oper) (acc : List Nat) : Prop := ∀ j o i, all[j]? = some o → (acc.getD j 0).testBit i = true → ∀ D, Closed all D → (∀ e ∈ o.after, Region.binds .any e = true → D e.on = true) → D i = true
theorem mks_ok : ∀ (l : List Oper) (acc : List Nat), MsOK all acc → (∀ k, l[k]? = all[acc.length + k]?) → MsOK all (mks acc l)
  | [], acc, h, _ => h
  | o :: l, acc, h, hl => by
    refine mks_ok l (acc ++ [msk acc o]) ?_ (fun k => by have := hl (k + 1); simp at this ⊢; rw [this]; congr 1; omega)
    intro j o' i hj hi D hD hA
    rcases Nat.lt_trichotomy j acc.length with hlt | heq | hgt
    · refine h j o' i hj ?_ D hD hA
      rw [List.getD_eq_getElem?_getD, List.getElem?_append_left hlt, ← List.getD_eq_getElem?_getD] at hi
      exact hi
    · subst heq
      have ho : o' = o := by
        have := hl 0
        simp at this
        rw [← this] at hj
        injection hj with hj; exact hj.symm
      subst ho
      have e1 : (acc ++ [msk acc o']).getD acc.length 0 = msk acc o' := by simp
      rw [e1] at hi
      rcases msk_bit acc _ _ _ hi with h1 | ⟨e, h1, h2, h3⟩
      · simp at h1
      · have hDe := hA e (by simpa using h1) h2
        rcases h3 with rfl | h3
        · exact hDe
        · cases hoe : all[e.on]? with
          | none =>
            have : acc.length ≤ e.on := by
              rcases Nat.lt_or_ge e.on acc.length with h4 | h4
              · have h5 := (Array.getElem?_eq_some_iff.1 hj).1
                have : e.on < all.size := by omega
                rw [Array.getElem?_eq_getElem this] at hoe
                cases hoe
              · exact h4
            rw [List.getD_eq_getElem?_getD, List.getElem?_eq_none this] at h3
            simp at h3
          | some oe => exact h e.on oe i hoe h3 D hD (hD e.on oe hoe hDe)
    · rw [List.getD_eq_getElem?_getD, List.getElem?_eq_none (by simp; omega)] at hi
      simp at hi
theorem pairB_ok {prs : List (Nat × Nat)} {ms : List Nat} {j : Nat} {y : Oper} : ∀ (l : List Oper) (i : Nat), pairB all prs ms j y i l = true → ∀ k x, l[k]? = some x → i + k < j → (ms.getD j 0).testBit (i + k) = true ∨ (x.apart all y = true ∧ heapB prs (i + k) j x y = true)
  | [], i, _, k, x, hk, _ => by simp at hk
  | o :: l, i, h, k, x, hk, hlt => by
    simp only [pairB, Bool.and_eq_true] at h
    cases k with
    | zero =>
      simp at hk; subst hk
      have h1 := h.1
      simp only [Bool.or_eq_true, Bool.and_eq_true] at h1
      rcases h1 with (h1 | h1) | h1
      · have := nble_true h1; omega
      · exact .inl h1
      · exact .inr h1
    | succ k =>
      have := pairB_ok l (i + 1) h.2 k x (by simpa using hk) (by omega)
      have e : i + 1 + k = i + (k + 1) := by omega
      rw [e] at this; exact this
theorem pairsB_ok {prs : List (Nat × Nat)} {ms : List Nat} {os : List Oper} : ∀ (l : List Oper) (j : Nat), pairsB all prs ms os j l = true → ∀ k y, l[k]? = some y → pairB all prs ms (j + k) y 0 os = true
  | [], j, _, k, y, hk => by simp at hk
  | o :: l, j, h, k, y, hk => by
    simp only [pairsB, Bool.and_eq_true] at h
    cases k with
    | zero => simp at hk; subst hk; exact h.1
    | succ k =>
      have := pairsB_ok l (j + 1) h.2 k y (by simpa using hk)
      have e : j + 1 + k = j + (k + 1) := by omega
      rw [e] at this; exact this
theorem edgesB_ok : ∀ (l : List Oper) (j : Nat), edgesB j l = true → ∀ k o, l[k]? = some o → ∀ e ∈ o.after, Region.binds .any e = true → e.on < j + k
  | [], j, _, k, o, hk => by simp at hk
  | o :: l, j, h, k, o', hk => by
    simp only [edgesB, Bool.and_eq_true] at h
    cases k with
    | zero =>
      simp at hk; subst hk
      intro e he hb
      have := List.all_eq_true.1 h.1 e (by simpa using he)
      rw [hb] at this
      simp only [Bool.not_true, Bool.false_or] at this
      exact nble_true this
    | succ k =>
      intro e he hb
      have := edgesB_ok l (j + 1) h.2 k o' (by simpa using hk) e he hb
      omega
theorem memP_ok {p : Nat × Nat} : ∀ {l : List (Nat × Nat)}, memP p l = true → p ∈ l
  | [], h => by cases h
  | q :: l, h => by
    simp only [memP] at h
    cases h1 : Nat.beq p.1 q.1 with
    | true =>
      cases h2 : Nat.beq p.2 q.2 with
      | true =>
        have : p = q := Prod.ext (nbeq_true h1) (nbeq_true h2)
        rw [this]; exact .head _
      | false => rw [h1, h2] at h; exact .tail _ (memP_ok h)
    | false => rw [h1] at h; exact .tail _ (memP_ok h)
theorem prsB_ok {rs : List Rc} : ∀ {l : List (Nat × Nat)}, prsB rs l = true → ∀ p ∈ l, p.1 ≠ p.2 → ∃ r c, rs[p.1]? = some r ∧ rs[p.2]? = some c ∧ rcOk r c = true
  | [], _, p, hp, _ => by cases hp
  | q :: l, h, p, hp, hne => by
    simp only [prsB, nthL_eq] at h
    cases hq : Nat.beq q.1 q.2 with
    | true =>
      rw [hq, cond_true] at h
      rcases List.mem_cons.1 hp with rfl | hp
      · exact absurd (nbeq_true hq) hne
      · exact prsB_ok h p hp hne
    | false =>
      rw [hq, cond_false] at h
      split at h
      · rename_i r c hr hc
        cases hb : rcOk r c with
        | false => rw [hb] at h; cases h
        | true =>
          rw [hb, cond_true] at h
          rcases List.mem_cons.1 hp with rfl | hp
          · exact ⟨r, c, hr, hc, hb⟩
          · exact prsB_ok h p hp hne
      · cases h
theorem rd_pure {o : Op} (hc : cls o = 0) (env : Tr AV) : rdOf env o = 0 := by
  cases o <;> first | rfl | (cases hc; done) | skip
  rename_i c
  simp only [cls] at hc
  split at hc <;> cases hc
theorem wanted_congr {all : List Oper} {g : Option (Nat × Bool)} (hg : ∀ j wt og t, g = some (j, wt) → all[j]? = some og → og.dst = some t → envGet env t = envGet env' t) : wanted all env g = wanted all env' g := by
  cases g with
  | none => rfl
  | some p =>
    obtain ⟨j, wt⟩ := p
    show (match nthL all j with
      | some og => (match og.dst with
        | some t => (match env.get t with
          | some (.bool c) => R.ok (bif c then wt else !wt)
          | some (.tup []) => .ok false
          | none => .ok false
          | _ => .no 81)
        | none => .no 82)
      | none => .no 83) = (match nthL all j with
      | some og => (match og.dst with
        | some t => (match env'.get t with
          | some (.bool c) => R.ok (bif c then wt else !wt)
          | some (.tup []) => .ok false
          | none => .ok false
          | _ => .no 81)
        | none => .no 82)
      | none => .no 83)
    rw [nthL_eq]
    cases ho : all[j]? with
    | none => rfl
    | some og =>
      simp only []
      cases ht : og.dst with
      | none => rfl
      | some t =>
        simp only []
        have := hg j wt og t rfl ho ht
        unfold envGet at this
        cases e1 : env.get t with
        | none =>
          cases e2 : env'.get t with
          | none => rfl
          | some v =>
            rw [e1, e2] at this
            have : v = undefA := this.symm
            subst this; rfl
        | some u =>
          cases e2 : env'.get t with
          | none =>
            rw [e1, e2] at this
            have : u = undefA := this
            subst this; rfl
          | some v =>
            rw [e1, e2] at this
            have : u = v := this
            subst this; rfl
end
end Go.Proofs.YtplblmhnccdgcaaGreat.AM

namespace Go.Proofs.YtplblmhnccdgcaaGreat.AM
open Go
section
variable {val : Cx} {P : Program} {T : Tab} {Γ : Syms} {call : CallF} {all : Array Oper} {prs : List (Nat × Nat)} {base : Nat} {E : Nat → Tr AV} {H : Nat → Hp} {V : Nat → AV} {rc : Nat → Rc} {rs : List Rc}
  {π0 : Nat → Loc} {a0 : Act} {w0 : World} {h h' : Hp} {env : Tr AV}

theorem EnvR.congr {π : Nat → Loc} {N : Nat} {env env' : Tr AV} {a : Act} (he : EnvR val π N env a) (h : ∀ t, envGet env' t = envGet env t) : EnvR val π N env' a := fun t => by rw [h t]; exact he t
theorem cls_cases (o : Op) : cls o = 0 ∨ cls o = 1 ∨ cls o = 2 := by
  unfold cls
  split <;> first | (left; rfl) | (right; left; rfl) | (right; right; rfl) | skip
  split <;> first | (left; rfl) | (right; left; rfl) | (right; right; rfl)
theorem fk_cls {o : Op} (h : fk o = true) : cls o = 2 := by
  cases o <;> first | rfl | cases h
/-- What floats makes one new thing, whatever the heap. -/
theorem fk_new {o : Op} (hf : fk o = true) {v : AV} (hop : op T Γ call env h o = .ok (v, h')) : ∃ f ob, isRo ob = false ∧ ∀ h0, op T Γ call env h0 o = new h0 ob f := by
  cases o with
  | alloc t =>
    have hop : opAlloc T h t = .ok (v, h') := hop
    unfold opAlloc at hop
    obtain ⟨ti, h1, _⟩ := R.bind_eq hop
    exact ⟨fun n => .ptr n 0, .cells ti.zero false, rfl, fun h0 => by show opAlloc T h0 t = _; unfold opAlloc; rw [h1]; rfl⟩
  | box t x =>
    have hop : opBox env h x = .ok (v, h') := hop
    unfold opBox at hop
    obtain ⟨u, h1, hop⟩ := R.bind_eq hop
    obtain ⟨cs, h2, _⟩ := R.bind_eq hop
    exact ⟨fun n => .ptr n 0, .cells cs false, rfl, fun h0 => by show opBox env h0 x = _; unfold opBox; rw [h1]; show (cellsOf u).bind _ = _; rw [h2]; rfl⟩
  | buildSlice t len ps =>
    have hop : opBuildSlice T env h t len ps.toList = .ok (v, h') := hop
    unfold opBuildSlice at hop
    obtain ⟨ti, h1, hop⟩ := R.bind_eq hop
    obtain ⟨b1, hop⟩ := B_ok hop
    obtain ⟨b2, hop⟩ := B_ok hop
    obtain ⟨l, h2, hop⟩ := R.bind_eq hop
    obtain ⟨cs, h3, _⟩ := R.bind_eq hop
    exact ⟨fun n => .slice n 0 len ti.es (some len), .cells cs false, rfl, fun h0 => by show opBuildSlice T env h0 t len ps.toList = _; unfold opBuildSlice; rw [h1]; simp only [R.bind_ok, b1, b2, B_true, h2, h3]⟩
  | makeSlice t l c =>
    have hop : opMakeSlice T env h t l c = .ok (v, h') := hop
    unfold opMakeSlice at hop
    obtain ⟨ti, h0, hop⟩ := R.bind_eq hop
    obtain ⟨u, h1, hop⟩ := R.bind_eq hop
    obtain ⟨n, h2, hop⟩ := R.bind_eq hop
    obtain ⟨u', h3, hop⟩ := R.bind_eq hop
    obtain ⟨m, h4, hop⟩ := R.bind_eq hop
    obtain ⟨b0, hop⟩ := B_ok hop
    obtain ⟨b1, hop⟩ := B_ok hop
    obtain ⟨b2, hop⟩ := B_ok hop
    obtain ⟨b3, hop⟩ := B_ok hop
    exact ⟨fun p => .slice p 0 n ti.es (some m), .cells (repL ti.ez m) false, rfl, fun hh => by show opMakeSlice T env hh t l c = _; unfold opMakeSlice; simp only [h0, h1, h2, h3, h4, R.bind_ok, b0, b1, b2, b3, B_true]⟩
  | makeMap t r =>
    have hop : opMakeMap h r = .ok (v, h') := hop
    unfold opMakeMap at hop
    cases r with
    | none => exact ⟨.map, .mp [], rfl, fun h0 => rfl⟩
    | some _ => cases hop
  | _ => cases hf
theorem new_inj {o1 o2 : AO} {f1 f2 : Nat → AV} (e : ∀ h0, new h0 o1 f1 = new h0 o2 f2) : o1 = o2 ∧ ∀ n, f1 n = f2 n := by
  have h1 : ∀ n, f1 n = f2 n ∧ (Tr.nil.putR n o1 : Tr AO) = Tr.nil.putR n o2 := by
    intro n
    have := e { heap := .nil, next := n, wl := 0 }
    unfold new at this
    injection this with this
    injection this with a b
    injection b with b
    exact ⟨a, b⟩
  refine ⟨?_, fun n => (h1 n).1⟩
  have h2 := congrArg (fun t : Tr AO => t.get 0) (h1 0).2
  simp only [Tr.get_putR, if_pos] at h2
  injection h2
/-- What floats, run: in the world, and what it makes. -/
theorem fk_made (hT : TabTy P T) {π : Nat → Loc} {N : Nat} {a : Act} {w : World} (he : EnvR val π N env a) {o : Oper} (hf : fk o.op = true) {v : AV} (hop : op T Γ call env h o.op = .ok (v, h')) :
    ∃ f ob U w' l, isRo ob = false ∧ (∀ h0, op T Γ call env h0 o.op = new h0 ob f) ∧ Runs P o a w (fun V w2 => V = U ∧ w2 = w') ∧ Made val π N w f ob U w' l := by
  obtain ⟨f, ob, hro, hnew⟩ := fk_new hf hop
  obtain ⟨dst, oo, ty, pos, after, guard⟩ := o
  have he' : EnvR val π ({ heap := .nil, next := N, wl := 0 } : Hp).next env a := he
  have fin : ∀ {f2 : Nat → AV} {o2 : AO} {U : Value} {w' : World} {l : Loc} {s : Sem Value}, (∀ h0, op T Γ call env h0 oo = new h0 o2 f2) → (execOp a.eval ⟨dst, oo, ty, pos, after, guard⟩ = (do pure (.value (← s)))) → s.run P w = .ok U w' → Made val π N w f2 o2 U w' l →
      ∃ f ob U w' l, isRo ob = false ∧ (∀ h0, op T Γ call env h0 oo = new h0 ob f) ∧ Runs P ⟨dst, oo, ty, pos, after, guard⟩ a w (fun V w2 => V = U ∧ w2 = w') ∧ Made val π N w f ob U w' l := by
    intro f2 o2 U w' l s h1 h2 h3 h4
    have := new_inj (fun h0 => (hnew h0).symm.trans (h1 h0))
    refine ⟨f2, o2, U, w', l, by rw [← this.1]; exact hro, h1, Runs.of_value (by rw [h2]; simp [h3]) ⟨rfl, rfl⟩, h4⟩
  have hop0 : ∃ v0 h0', op T Γ call env { heap := .nil, next := N, wl := 0 } oo = .ok (v0, h0') := ⟨_, _, hnew _⟩
  obtain ⟨v0, h0', hop0⟩ := hop0
  cases oo with
  | alloc t => obtain ⟨f2, o2, U, w', l, h1, h2, h3⟩ := opAlloc_made (val := val) (π := π) (w := w) hT (h := { heap := .nil, next := N, wl := 0 }) hop0; exact fin h1 rfl h2 h3
  | box t x => obtain ⟨f2, o2, U, w', l, h1, h2, h3⟩ := opBox_made (P := P) (w := w) (t := t) he' hop0; exact fin h1 rfl h2 h3
  | buildSlice t len ps => obtain ⟨f2, o2, U, w', l, h1, h2, h3⟩ := opBuildSlice_made (w := w) hT he' hop0; exact fin h1 rfl h2 h3
  | makeSlice t l c => obtain ⟨f2, o2, U, w', q, h1, h2, h3⟩ := opMakeSlice_made (w := w) hT he' hop0; exact fin h1 rfl h2 h3
  | makeMap t r => obtain ⟨f2, o2, U, w', l, h1, h2, h3⟩ := opMakeMap_made (P := P) (val := val) (π := π) (w := w) (a := a) (t := t) (h := { heap := .nil, next := N, wl := 0 }) hop0; exact fin h1 rfl h2 h3
  | _ => cases hf

/-! ### the lexical run: what a step leaves alone -/
def Wd (all : Array Oper) (E : Nat → Tr AV) (k : Nat) : Prop := ∃ o, all[k]? = some o ∧ wanted all.toList (E k) o.guard = .ok true
/-- It floats, and it runs. -/
def Fl (all : Array Oper) (prs : List (Nat × Nat)) (E : Nat → Tr AV) (k : Nat) : Prop := memP (k, k) prs = true ∧ Wd all E k
/-- The lexical run of a region, whole. -/
structure LexOK (T : Tab) (Γ : Syms) (call : CallF) (all : Array Oper) (prs : List (Nat × Nat)) (base : Nat) (E : Nat → Tr AV) (H : Nat → Hp) (V : Nat → AV) (rc : Nat → Rc) : Prop where
  keep : CallKeep call
  lex : Lex T Γ call all prs base 0 all.toList E H V rc
  fl : ∀ j o, all[j]? = some o → memP (j, j) prs = true → fk o.op = true
  low : ∀ n, ((H 0).heap.get n).isSome = true → n < base
  le : base ≤ (H 0).next
  res : ∀ k, Fl all prs E k → base + k < (H 0).next
theorem Fl.lt {k : Nat} (h : Fl all prs E k) : k < all.size := by obtain ⟨_, o, ho, _⟩ := h; exact (Array.getElem?_eq_some_iff.1 ho).1
theorem LexOK.at (hX : LexOK T Γ call all prs base E H V rc) {k : Nat} {o : Oper} (hk : all[k]? = some o) : E (k + 1) = setD (E k) o.dst (V k) ∧ LexAt T Γ call all prs base k o (E k) (H k) (V k) (H (k + 1)) (rc k) := by
  have := hX.lex k o (by simpa using hk)
  rwa [Nat.zero_add] at this
theorem lex_float (hX : LexOK T Γ call all prs base E H V rc) {k : Nat} {o : Oper} (hk : all[k]? = some o) (hm : memP (k, k) prs = true) :
    (H (k + 1)).next = (H k).next ∧ (H (k + 1)).wl = (H k).wl ∧ (∀ n, n ≠ base + k → (H (k + 1)).heap.get n = (H k).heap.get n) := by
  rcases (hX.at hk).2 with ⟨_, _, h⟩ | ⟨_, h, _⟩ | ⟨_, _, h1, ob, _, _, h3, _⟩
  · rw [h]; exact ⟨rfl, rfl, fun _ _ => rfl⟩
  · rw [hm] at h; cases h
  · rw [h3]; exact ⟨rfl, rfl, fun n hn => by show ((H k).heap.putR (base + k) ob).get n = _; rw [Tr.get_putR, if_neg hn]⟩
theorem lex_plain (hX : LexOK T Γ call all prs base E H V rc) {k : Nat} {o : Oper} (hk : all[k]? = some o) (hc : cls o.op ≠ 2) : (H (k + 1)).heap = (H k).heap ∧ (H (k + 1)).next = (H k).next := by
  rcases (hX.at hk).2 with ⟨_, _, h⟩ | ⟨_, _, h1, h2, h3, _⟩ | ⟨_, h, _⟩
  · rw [h]; exact ⟨rfl, rfl⟩
  · have := (plain_u2 (h2 := { heap := (H k).heap, next := (H k).next, wl := (H k).next }) hc (fun _ _ => rfl) _ _ h2).1
    rw [h3, this]; exact ⟨rfl, rfl⟩
  · exact absurd (fk_cls (hX.fl k o hk h)) hc
/-- Where what it writes is known, it writes no other old thing. -/
theorem op_one {o : Op} {v : AV} (hop : op T Γ call env h o = .ok (v, h')) {m : Nat} (hw : wrOf env o = m + 1) : ∀ n, n < h.next → n ≠ m → h'.heap.get n = h.heap.get n := by
  have wr : ∀ {h h2 : Hp} {n off : Nat} {us : List AV}, writeAt h n off us = .ok h2 → ∀ k, k ≠ n → h2.heap.get k = h.heap.get k := by
    intro h h2 n off us e k hk
    unfold writeAt at e
    obtain ⟨c, _, e⟩ := R.bind_eq e
    obtain ⟨_, e⟩ := B_no e
    obtain ⟨_, e⟩ := B_ok e
    injection e with e; subst e
    show (h.heap.putR n _).get k = _
    rw [Tr.get_putR, if_neg hk]
  have fr : ∀ {h h2 : Hp} {eb k es : Nat} {cs : List AV} {v : AV}, appFresh h eb cs k es = .ok (v, h2) → ∀ n, n < h.next → h2.heap.get n = h.heap.get n := by
    intro h h2 eb k es cs v e n hn
    unfold appFresh at e
    obtain ⟨_, e⟩ := B_ok e
    obtain ⟨_, e⟩ := B_ok e
    unfold new at e
    injection e with e; injection e with _ e; subst e
    show (h.heap.putR h.next _).get n = _
    rw [Tr.get_putR, if_neg (by omega)]
  have nm : ∀ {x : Operand} {u : AV}, ev env x = .ok u → nameOf (ev env x) = m + 1 → (∃ off, u = .ptr m off) ∨ (∃ off len es cap, u = .slice m off len es cap) ∨ u = .map m := by
    intro x u e hx
    rw [e] at hx
    cases u <;> simp only [nameOf] at hx <;> first | (cases hx; done) | (injection hx with hx; subst hx; first | exact .inl ⟨_, rfl⟩ | exact .inr (.inl ⟨_, _, _, _, rfl⟩) | exact .inr (.inr rfl))
  intro n hn hne
  cases o with
  | store t x y =>
    have hop : opStore T env h t x y = .ok (v, h') := hop
    unfold opStore at hop
    obtain ⟨p, h1, hop⟩ := R.bind_eq hop
    have hp := nm h1 hw
    split at hop
    · rename_i n' off
      rcases hp with ⟨_, e⟩ | ⟨_, _, _, _, e⟩ | e <;> cases e
      obtain ⟨u, _, hop⟩ := R.bind_eq hop
      obtain ⟨ti, _, hop⟩ := R.bind_eq hop
      obtain ⟨cs, _, hop⟩ := R.bind_eq hop
      obtain ⟨_, hop⟩ := B_ok hop
      obtain ⟨h2, h3, hop⟩ := R.bind_eq hop
      injection hop with hop; injection hop with _ hop; subst hop
      exact wr h3 n hne
    · cases hop
  | mapUpdate t x k y =>
    have hop : opMapUpdate T env h t x k y = .ok (v, h') := hop
    unfold opMapUpdate at hop
    obtain ⟨p, h1, hop⟩ := R.bind_eq hop
    have hp := nm h1 hw
    split at hop
    · rename_i n'
      rcases hp with ⟨_, e⟩ | ⟨_, _, _, _, e⟩ | e <;> cases e
      split at hop
      · obtain ⟨ti, _, hop⟩ := R.bind_eq hop
        obtain ⟨_, hop⟩ := B_ok hop
        obtain ⟨_, _, hop⟩ := R.bind_eq hop
        obtain ⟨_, _, hop⟩ := R.bind_eq hop
        obtain ⟨_, hop⟩ := B_ok hop
        obtain ⟨es, _, hop⟩ := R.bind_eq hop
        injection hop with hop; injection hop with _ hop; subst hop
        show (h.heap.putR _ _).get n = _
        rw [Tr.get_putR, if_neg hne]
      · cases hop
    · cases hop
  | call c =>
    have hop : opCall T call env h c = .ok (v, h') := hop
    unfold opCall at hop
    simp only [wrOf] at hw
    split at hw
    · rename_i x l hcal hargs
      rw [hcal, hargs, evs_cons] at hop
      simp only at hop
      obtain ⟨vs, h1, hop⟩ := R.bind_eq hop
      obtain ⟨u, h2, h1⟩ := R.bind_eq h1
      obtain ⟨us, _, h1⟩ := R.bind_eq h1
      injection h1 with h1; subst h1
      have hp := nm h2 hw
      generalize c.argTypes.toList = ts at hop
      cases us with
      | nil => cases hop
      | cons y us =>
      cases us with
      | cons _ _ => cases hop
      | nil =>
      cases ts with
      | nil => cases hop
      | cons t ts =>
      cases ts with
      | nil => cases hop
      | cons t' ts =>
      have hop : append T h t t' u y = .ok (v, h') := hop
      unfold append at hop
      obtain ⟨ti, _, hop⟩ := R.bind_eq hop
      obtain ⟨tu, _, hop⟩ := R.bind_eq hop
      obtain ⟨_, hop⟩ := B_no hop
      obtain ⟨_, hop⟩ := B_ok hop
      obtain ⟨p, _, hop⟩ := R.bind_eq hop
      rcases hp with ⟨_, rfl⟩ | ⟨off, len, es, cap, rfl⟩ | rfl
      · cases hop
      rotate_left
      · cases hop
      · have hop : B (Nat.beq es ti.es) (appS h ti.eb m off len es cap p.1 p.2) (.no 33) = .ok (v, h') := hop
        obtain ⟨_, hop⟩ := B_ok hop
        unfold appS at hop
        cases cap with
        | some cp =>
          simp only at hop
          cases hb : Nat.ble (Nat.add len p.2) cp with
          | true =>
            rw [hb, B_true] at hop
            cases hk : Nat.beq p.2 0 with
            | true => rw [hk, B_true] at hop; injection hop with hop; injection hop with _ hop; subst hop; rfl
            | false =>
              rw [hk, B_false] at hop
              obtain ⟨h3, h4, hop⟩ := R.bind_eq hop
              injection hop with hop; injection hop with _ hop; subst hop
              exact wr h4 n hne
          | false =>
            rw [hb, B_false] at hop
            obtain ⟨c2, _, hop⟩ := R.bind_eq hop
            exact fr hop n hn
        | none =>
          simp only at hop
          cases hk : Nat.beq p.2 0 with
          | true => rw [hk, B_true] at hop; injection hop with hop; injection hop with _ hop; subst hop; rfl
          | false =>
            rw [hk, B_false] at hop
            obtain ⟨c2, _, hop⟩ := R.bind_eq hop
            obtain ⟨_, hop⟩ := B_no hop
            cases hf : Nat.ble (Nat.add (Nat.add off (Nat.mul len es)) (lenL p.1)) (lenL c2.1) with
            | true =>
              rw [hf, B_true] at hop
              obtain ⟨h3, h4, hop⟩ := R.bind_eq hop
              injection hop with hop; injection hop with _ hop; subst hop
              exact wr h4 n hne
            | false =>
              rw [hf, B_false] at hop
              obtain ⟨_, hop⟩ := B_ok hop
              rw [fr hop n hn]
              show (h.heap.del _).get n = _
              rw [Tr.get_del, if_neg hne]
    · rename_i x l hcal hargs
      rw [hcal, hargs, evs_cons] at hop
      simp only at hop
      obtain ⟨vs, h1, hop⟩ := R.bind_eq hop
      obtain ⟨u, h2, h1⟩ := R.bind_eq h1
      obtain ⟨us, _, h1⟩ := R.bind_eq h1
      injection h1 with h1; subst h1
      have hp := nm h2 hw
      generalize c.argTypes.toList = ts at hop
      cases us with
      | nil => cases hop
      | cons y us =>
      cases us with
      | cons _ _ => cases hop
      | nil =>
      cases ts with
      | nil => cases hop
      | cons t ts =>
      have hop : ((tyOf T t).bind fun ti => copyV ti h u y) = .ok (v, h') := hop
      obtain ⟨ti, _, hop⟩ := R.bind_eq hop
      unfold copyV at hop
      obtain ⟨_, hop⟩ := B_ok hop
      rcases hp with ⟨_, rfl⟩ | ⟨off, len, es, cap, rfl⟩ | rfl
      · cases hop
      rotate_left
      · cases hop
      · simp only at hop
        obtain ⟨_, hop⟩ := B_ok hop
        split at hop
        · obtain ⟨_, hop⟩ := B_ok hop
          obtain ⟨_, _, hop⟩ := R.bind_eq hop
          obtain ⟨h3, h4, hop⟩ := R.bind_eq hop
          injection hop with hop; injection hop with _ hop; subst hop
          exact wr h4 n hne
        · injection hop with hop; injection hop with _ hop; subst hop; rfl
        · cases hop
    · cases hw
  | _ => cases hw
theorem rcOk_cases {r c : Rc} (h : rcOk r c = true) : r.rd ≤ c.lo ∨ (∃ m, c.wr = m + 1 ∧ r.rd ≠ c.wr ∧ r.rd ≤ c.nx) := by
  unfold rcOk at h
  cases h1 : Nat.ble r.rd c.lo with
  | true => exact .inl (nble_true h1)
  | false =>
    rw [h1, cond_false] at h
    cases h2 : Nat.beq c.wr 0 with
    | true => rw [h2] at h; cases h
    | false =>
      rw [h2, cond_false] at h
      cases h3 : Nat.beq r.rd c.wr with
      | true => rw [h3] at h; cases h
      | false =>
        rw [h3, cond_false] at h
        have := nbeq_false h2
        exact .inr ⟨c.wr - 1, by omega, nbeq_false h3, nble_true h⟩
theorem lex_touch (hX : LexOK T Γ call all prs base E H V rc) {k : Nat} {o : Oper} (hk : all[k]? = some o) (hm : memP (k, k) prs = false) {n : Nat} {r : Rc} (hr : r.rd = n + 1) (hn : rcOk r (rc k) = true) : (H (k + 1)).heap.get n = (H k).heap.get n := by
  rcases (hX.at hk).2 with ⟨_, _, h⟩ | ⟨_, _, h1, h2, h3, h4⟩ | ⟨_, h, _⟩
  · rw [h]
  · have hkp : Keep { heap := (H k).heap, next := (H k).next, wl := (H k).next } h1 := op_keep hX.keep o.op _ h2
    rw [h3]
    rcases rcOk_cases hn with hn | ⟨m, g1, g2, g3⟩
    · rw [h4] at hn
      simp only at hn
      have := lower_le h1.wl (H k).next
      exact hkp.2.2.1 n (by show n < (H k).next; omega) (by omega)
    · rw [h4] at g1 g2 g3
      simp only at g1 g2 g3
      exact op_one h2 g1 n (by show n < (H k).next; omega) (by omega)
  · rw [hm] at h; cases h
theorem lex_wl (hX : LexOK T Γ call all prs base E H V rc) {k : Nat} {o : Oper} (hk : all[k]? = some o) : (H (k + 1)).wl ≤ (H k).wl := by
  rcases (hX.at hk).2 with ⟨_, _, h⟩ | ⟨_, _, h1, _, h3, _⟩ | ⟨_, _, h1, ob, _, _, h3, _⟩
  · rw [h]; exact Nat.le_refl _
  · rw [h3]; exact (lower_le _ _).1
  · rw [h3]; exact Nat.le_refl _
theorem lex_next (hX : LexOK T Γ call all prs base E H V rc) {k : Nat} {o : Oper} (hk : all[k]? = some o) : (H k).next ≤ (H (k + 1)).next := by
  rcases (hX.at hk).2 with ⟨_, _, h⟩ | ⟨_, _, h1, h2, h3, _⟩ | ⟨_, _, h1, ob, _, _, h3, _⟩
  · rw [h]; exact Nat.le_refl _
  · have hkp : Keep { heap := (H k).heap, next := (H k).next, wl := (H k).next } h1 := op_keep hX.keep o.op _ h2
    rw [h3]; exact hkp.2.1
  · rw [h3]; exact Nat.le_refl _
/-- Step by step, from one place to a later one. -/
theorem lex_ind {R : Nat → Nat → Prop} (hr : ∀ i, R i i) (ht : ∀ i j k, R i j → R j k → R i k) {i j : Nat} (hij : i ≤ j) (hj : j ≤ all.size) (h : ∀ k o, i ≤ k → k < j → all[k]? = some o → R k (k + 1)) : R i j := by
  induction j with
  | zero => have : i = 0 := by omega
            subst this; exact hr _
  | succ j ih =>
    rcases Nat.lt_or_ge i (j + 1) with h1 | h1
    · have hk : all[j]? = some all[j] := Array.getElem?_eq_getElem (by omega)
      exact ht _ _ _ (ih (by omega) (by omega) (fun k o a b c => h k o a (by omega) c)) (h j _ (by omega) (by omega) hk)
    · have : i = j + 1 := by omega
      subst this; exact hr _
theorem lex_wls (hX : LexOK T Γ call all prs base E H V rc) {i j : Nat} (hij : i ≤ j) (hj : j ≤ all.size) : (H j).wl ≤ (H i).wl :=
  lex_ind (R := fun i j => (H j).wl ≤ (H i).wl) (fun _ => Nat.le_refl _) (fun _ _ _ a b => Nat.le_trans b a) hij hj (fun _ _ _ _ hk => lex_wl hX hk)
theorem lex_nexts (hX : LexOK T Γ call all prs base E H V rc) {i j : Nat} (hij : i ≤ j) (hj : j ≤ all.size) : (H i).next ≤ (H j).next :=
  lex_ind (R := fun i j => (H i).next ≤ (H j).next) (fun _ => Nat.le_refl _) (fun _ _ _ a b => Nat.le_trans a b) hij hj (fun _ _ _ _ hk => lex_next hX hk)
/-- From one place to a later one, an object that nothing between has touched. -/
theorem lex_chain (n : Nat) {i j : Nat} (hij : i ≤ j) (hj : j ≤ all.size) (h : ∀ k o, i ≤ k → k < j → all[k]? = some o → (H (k + 1)).heap.get n = (H k).heap.get n) : (H j).heap.get n = (H i).heap.get n :=
  lex_ind (R := fun i j => (H j).heap.get n = (H i).heap.get n) (fun _ => rfl) (fun _ _ _ a b => b.trans a) hij hj h
/-- Where nothing between may do more but what floats. -/
theorem lex_still (hX : LexOK T Γ call all prs base E H V rc) {i j : Nat} (hij : i ≤ j) (hj : j ≤ all.size) (h : ∀ k o, i ≤ k → k < j → all[k]? = some o → cls o.op = 2 → memP (k, k) prs = true) :
    (H j).next = (H i).next ∧ ∀ n, (∀ k, i ≤ k → k < j → Fl all prs E k → n ≠ base + k) → (H j).heap.get n = (H i).heap.get n := by
  have one : ∀ k o, i ≤ k → k < j → all[k]? = some o → (H (k + 1)).next = (H k).next ∧ ∀ n, (Fl all prs E k → n ≠ base + k) → (H (k + 1)).heap.get n = (H k).heap.get n := by
    intro k o a b hk
    by_cases hc : cls o.op = 2
    · have hm := h k o a b hk hc
      obtain ⟨f1, _, f3⟩ := lex_float hX hk hm
      refine ⟨f1, fun n hn => ?_⟩
      by_cases e : n = base + k
      · rcases (hX.at hk).2 with ⟨_, _, h5⟩ | ⟨_, h5, _⟩ | ⟨hw, _⟩
        · rw [h5]
        · rw [hm] at h5; cases h5
        · exact absurd e (hn ⟨hm, o, hk, hw⟩)
      · exact f3 n e
    · obtain ⟨e1, e2⟩ := lex_plain hX hk hc
      exact ⟨e2, fun n _ => by rw [e1]⟩
  refine ⟨lex_ind (R := fun i j => (H j).next = (H i).next) (fun _ => rfl) (fun _ _ _ a b => b.trans a) hij hj (fun k o a b hk => (one k o a b hk).1), fun n hn => lex_chain n hij hj (fun k o a b hk => (one k o a b hk).2 n (hn k a b))⟩
/-- What a step makes lies at no name that is kept for another one. -/
theorem lex_lack (hX : LexOK T Γ call all prs base E H V rc) {k : Nat} (hk : Fl all prs E k) : ∀ i, i ≤ k → (H i).heap.get (base + k) = none := by
  intro i
  induction i with
  | zero =>
    intro _
    cases hg : (H 0).heap.get (base + k) with
    | none => rfl
    | some o =>
      have := hX.low (base + k) (by rw [hg]; rfl)
      omega
  | succ i ih =>
    intro hi
    have ih := ih (by omega)
    have hks := hk.lt
    have ho : all[i]? = some all[i] := Array.getElem?_eq_getElem (by omega)
    cases hm : memP (i, i) prs with
    | true => rw [(lex_float hX ho hm).2.2 _ (by omega)]; exact ih
    | false =>
      rcases (hX.at ho).2 with ⟨_, _, h⟩ | ⟨_, _, h1, h2, h3, _⟩ | ⟨_, h, _⟩
      · rw [h]; exact ih
      · have hkp : Keep { heap := (H i).heap, next := (H i).next, wl := (H i).next } h1 := op_keep hX.keep _ _ h2
        have hlt : base + k < (H i).next := Nat.lt_of_lt_of_le (hX.res k hk) (lex_nexts hX (Nat.zero_le _) (by omega))
        rw [h3]
        cases hg : h1.heap.get (base + k) with
        | none => rfl
        | some o =>
          have := hkp.2.2.2 (base + k) hlt (by simp only [hg]; rfl)
          simp only [ih] at this
          cases this
      · rw [hm] at h; cases h
theorem lex_made (hX : LexOK T Γ call all prs base E H V rc) {k : Nat} (hk : Fl all prs E k) : ∃ ob, (H (k + 1)).heap.get (base + k) = some ob ∧ isRo ob = false := by
  obtain ⟨hm, o, ho, hw⟩ := hk
  rcases (hX.at ho).2 with ⟨h, _⟩ | ⟨_, h, _⟩ | ⟨_, _, h1, ob, h2, h4, h3, _⟩
  · rw [hw] at h; cases h
  · rw [hm] at h; cases h
  · obtain ⟨f, ob', hro, hnew⟩ := fk_new (hX.fl k o ho hm) h2
    have h5 := (hnew { heap := .nil, next := base + k, wl := 0 }).symm.trans h2
    unfold new at h5
    injection h5 with h5; injection h5 with _ h6; subst h6
    have h7 : ((Tr.nil : Tr AO).putR (base + k) ob').get (base + k) = some ob := h4
    rw [Tr.get_putR, if_pos rfl] at h7
    injection h7 with h7; subst h7
    exact ⟨ob', by rw [h3]; show ((H k).heap.putR (base + k) ob').get _ = _; rw [Tr.get_putR, if_pos rfl], hro⟩

/-! ### when some have run -/
abbrev Dof (listed : Array Bool) : Nat → Bool := fun k => listed.getD k false
/-- dead, too: the names kept for what has not come yet -/
def vD (val : Cx) (all : Array Oper) (prs : List (Nat × Nat)) (E : Nat → Tr AV) (base : Nat) (D : Nat → Bool) : Cx := ⟨val.val, fun n => val.Z n ∨ ∃ k, Fl all prs E k ∧ n = base + k ∧ D k = false⟩
def Early (all : Array Oper) (prs : List (Nat × Nat)) (E : Nat → Tr AV) (base : Nat) (D : Nat → Bool) (c n : Nat) : Prop := ∃ k, c ≤ k ∧ Fl all prs E k ∧ D k = true ∧ n = base + k
open Classical in
/-- the heap, when D have run, the ordered ones up to c -/
noncomputable def gD (all : Array Oper) (prs : List (Nat × Nat)) (E : Nat → Tr AV) (base : Nat) (H : Nat → Hp) (D : Nat → Bool) (c n : Nat) : Option AO :=
  if Early all prs E base D c n then (H (n - base + 1)).heap.get n else (H c).heap.get n
theorem gD_early {D : Nat → Bool} {c n : Nat} (h : Early all prs E base D c n) : gD all prs E base H D c n = (H (n - base + 1)).heap.get n := by unfold gD; rw [if_pos h]
theorem gD_rest {D : Nat → Bool} {c n : Nat} (h : ¬ Early all prs E base D c n) : gD all prs E base H D c n = (H c).heap.get n := by unfold gD; rw [if_neg h]
theorem gD_low {D : Nat → Bool} {c n : Nat} (h : n < base) : gD all prs E base H D c n = (H c).heap.get n := gD_rest (fun ⟨k, _, _, _, e⟩ => by omega)
theorem vD_congr {D D' : Nat → Bool} (h : ∀ k, Fl all prs E k → D' k = D k) : vD val all prs E base D' = vD val all prs E base D := by
  unfold vD
  congr 1
  funext n
  apply propext
  constructor
  · rintro (h1 | ⟨k, a, b, c⟩)
    · exact .inl h1
    · exact .inr ⟨k, a, b, by rw [← h k a]; exact c⟩
  · rintro (h1 | ⟨k, a, b, c⟩)
    · exact .inl h1
    · exact .inr ⟨k, a, b, by rw [h k a]; exact c⟩
theorem early_congr {D D' : Nat → Bool} (h : ∀ k, Fl all prs E k → D' k = D k) {c n : Nat} : Early all prs E base D' c n ↔ Early all prs E base D c n := by
  constructor
  · rintro ⟨k, a, b, d, e⟩; exact ⟨k, a, b, by rw [← h k b]; exact d, e⟩
  · rintro ⟨k, a, b, d, e⟩; exact ⟨k, a, b, by rw [h k b]; exact d, e⟩
theorem gD_congr {D D' : Nat → Bool} (h : ∀ k, Fl all prs E k → D' k = D k) (c : Nat) : gD all prs E base H D' c = gD all prs E base H D c := by
  funext n
  by_cases e : Early all prs E base D c n
  · rw [gD_early e, gD_early ((early_congr h).2 e)]
  · rw [gD_rest e, gD_rest (fun x => e ((early_congr h).1 x))]

/-! ### from one choice of dead names to another -/
theorem VR.wk {c c' : Cx} {π π' : Nat → Loc} {N N' : Nat} (hv : c'.val = c.val) (hl : ∀ n, Live c N n → Live c' N' n ∧ π' n = π n) {v : AV} {U : Value} (h : VR c π N v U) : VR c' π' N' v U := by
  induction h with
  | int k n => exact .int k n
  | sym i d => rw [← hv]; exact .sym i d
  | ge lo n h => exact .ge lo n h
  | bool b => exact .bool b
  | str s b h => exact .str s b h
  | nilptr => exact .nilptr
  | ptr n off h => rw [← (hl n h).2]; exact .ptr n off (hl n h).1
  | nilslice => exact .nilslice
  | slice n off len es cap A K h h1 h2 h3 h4 => exact .slice n off len es cap A K (hl n h).1 (by rw [(hl n h).2]; exact h1) h2 (by rw [(hl n h).2]; exact h3) (by rw [(hl n h).2]; exact h4)
  | nilmap => exact .nilmap
  | map n h => rw [← (hl n h).2]; exact .map n (hl n h).1
  | nilchan => exact .nilchan
  | chan n h => rw [← (hl n h).2]; exact .chan n (hl n h).1
  | nilfunc => exact .nilfunc
  | func f caps Cs hl' _ ih => exact .func f caps Cs hl' ih
  | niliface => exact .niliface
  | iface t v V _ ih => exact .iface t v V ih
  | agg cs Cs hl' hs _ ih => exact .agg cs Cs hl' hs ih
  | tup vs Vs hl' _ ih => exact .tup vs Vs hl' ih
theorem OR.wk {c c' : Cx} {π π' : Nat → Loc} {N N' : Nat} (hv : c'.val = c.val) (hl : ∀ n, Live c N n → Live c' N' n ∧ π' n = π n) {n : Nat} {w w' : World} {o : AO} (h : OR c π N n w o) (hn : π' n = π n) (hw : w'.heap[(π n).blk]? = w.heap[(π n).blk]?) : OR c' π' N' n w' o := by
  cases o with
  | cells cs ro =>
    obtain ⟨C, e, fr, h1, h2, h3, h4, h5, h6⟩ := h
    refine ⟨C, e, fr, ?_, ?_, ?_, h4, ?_, h6⟩
    · rw [hn, hw]; exact h1
    · rw [hn]; exact h2
    · rw [hn]; exact h3
    · intro i v hi
      obtain ⟨U, hU, hv'⟩ := h5 i v hi
      exact ⟨U, by rw [hn]; exact hU, hv'.wk hv hl⟩
  | mp es =>
    obtain ⟨Es, cl, h1, h2, h3⟩ := h
    refine ⟨Es, cl, ?_, h2, fun i e x a b => ⟨(h3 i e x a b).1.wk hv hl, (h3 i e x a b).2.wk hv hl⟩⟩
    rw [hn, hw]; exact h1
  | ch cap buf =>
    obtain ⟨C, s, r, h1, h2⟩ := h
    refine ⟨C, s, r, ?_, h2.1, fun i x y a b => (h2.2 i x y a b).wk hv hl⟩
    rw [hn, hw]; exact h1
theorem EnvR.wk {c c' : Cx} {π π' : Nat → Loc} {N N' : Nat} (hv : c'.val = c.val) (hl : ∀ n, Live c N n → Live c' N' n ∧ π' n = π n) {env : Tr AV} {a : Act} (h : EnvR c π N env a) : EnvR c' π' N' env a := fun t => (h t).wk hv hl
theorem HR.sub' {c : Cx} {π : Nat → Loc} {N N' : Nat} {g g' : Nat → Option AO} {w : World} (h : HR c π N g w) (hN : N ≤ N') (hg : ∀ n o, ¬ c.Z n → g' n = some o → g n = some o) : HR c π N' g' w := by
  refine ⟨fun n o hn => ?_, fun n hz => Nat.lt_of_lt_of_le (h.zb n hz) hN, fun n o hn hz => ?_, fun n m o o' hnm hn hm hz1 hz2 => h.ne n m o o' hnm (hg n o hz1 hn) (hg m o' hz2 hm) hz1 hz2⟩
  · by_cases hz : c.Z n
    · exact Nat.lt_of_lt_of_le (h.zb n hz) hN
    · exact Nat.lt_of_lt_of_le (h.lt n o (hg n o hz hn)) hN
  · have h1 := hg n o hz hn
    exact (h.ob n o h1 hz).keep hN (fun _ _ => rfl) ⟨h.lt n o h1, hz⟩ rfl

/-! ### what is so while a region draws -/
/-- As a step; the heap's own relation apart. -/
structure Step0 (val vd : Cx) (π0 : Nat → Loc) (base : Nat) (g0 : Nat → Option AO) (w0 : World) (π : Nat → Loc) (N : Nat) (g : Nat → Option AO) (w : World) (wl : Nat) : Prop where
  ext : ∀ n, Live val base n → π n = π0 n
  le : base ≤ N
  os : w.os = w0.os
  tape : w.tape = w0.tape
  output : w.output = w0.output
  size : w0.heap.size ≤ w.heap.size
  blk : ∀ b, b < w0.heap.size → w.heap[b]? = w0.heap[b]? ∨ ∃ n, Live val base n ∧ (g0 n).isSome = true ∧ (π0 n).blk = b ∧ wl ≤ n
  nw : ∀ n, (g n).isSome = true → ¬ vd.Z n → base ≤ n → w0.heap.size ≤ (π n).blk ∨ ∃ m, Live val base m ∧ (g0 m).isSome = true ∧ (π0 m).blk = (π n).blk ∧ wl ≤ m
  old : ∀ n, n < base → (g n).isSome = true → (g0 n).isSome = true
theorem Step0.sub {vd : Cx} {π0 : Nat → Loc} {g0 g g' : Nat → Option AO} {w0 w : World} {π : Nat → Loc} {N wl : Nat} (h : Step0 val vd π0 base g0 w0 π N g w wl) (h1 : ∀ n, ¬ vd.Z n → (g' n).isSome = true → (g n).isSome = true) (h2 : ∀ n, n < base → (g' n).isSome = true → (g n).isSome = true) : Step0 val vd π0 base g0 w0 π N g' w wl :=
  { h with nw := fun n a b c => h.nw n (h1 n b a) b c, old := fun n a b => h.old n a (h2 n a b) }
structure Good (val : Cx) (all : Array Oper) (prs : List (Nat × Nat)) (base : Nat) (E : Nat → Tr AV) (H : Nat → Hp) (V : Nat → AV) (π0 : Nat → Loc) (a0 : Act) (w0 : World) (listed : Array Bool) (a : Act) (w : World) : Prop where
  closed : Closed all (Dof listed)
  sz : listed.size = all.size
  defers : a.defers = a0.defers
  size : a.tmps.size = a0.tmps.size
  st : ∃ c, c ≤ all.size ∧ (∀ k o, all[k]? = some o → cls o.op = 2 → memP (k, k) prs = false → (Dof listed k = true ↔ k < c)) ∧ ∃ π,
    EnvR (vD val all prs E base (Dof listed)) π (H c).next (EnD all V (E 0) (Dof listed) all.size) a ∧ HR (vD val all prs E base (Dof listed)) π (H c).next (gD all prs E base H (Dof listed) c) w ∧
    Step0 val (vD val all prs E base (Dof listed)) π0 base (H 0).heap.get w0 π (H c).next (gD all prs E base H (Dof listed) c) w (H all.size).wl
theorem rd_live {π : Nat → Loc} {N : Nat} {env : Tr AV} {a : Act} (he : EnvR val π N env a) {o : Op} {n : Nat} (h : rdOf env o = n + 1) : Live val N n := by
  have key : ∀ (x : Operand), nameOf (ev env x) = n + 1 → Live val N n := by
    intro x hx
    unfold nameOf at hx
    split at hx
    · rename_i m off e
      obtain ⟨_, hl⟩ := (ev_ok he e).ptr_inv
      injection hx with hx; subst hx; exact hl
    · rename_i m off len es cap e
      obtain ⟨_, _, _, hl, _⟩ := (ev_ok he e).slice_inv
      injection hx with hx; subst hx; exact hl
    · rename_i m e
      have hm := ev_ok he e
      injection hx with hx; subst hx
      generalize a.eval x = X at hm
      cases hm; assumption
    · cases hx
  unfold rdOf at h
  split at h
  · exact key _ h
  · exact key _ h
  · exact key _ h
  · split at h
    · exact key _ h
    · cases h
  · cases h
structure RegOK (all : Array Oper) (prs : List (Nat × Nat)) (ms : List Nat) : Prop where
  msk : MsOK all ms
  pair : ∀ i j x y, i < j → all[i]? = some x → all[j]? = some y → (ms.getD j 0).testBit i = true ∨ (x.apart all y = true ∧ heapB prs i j x y = true)
  edge : ∀ j o, all[j]? = some o → ∀ e ∈ o.after, Region.binds .any e = true → e.on < j
  fl : ∀ j o, all[j]? = some o → memP (j, j) prs = true → anyFl prs = true ∧ fk o.op = true
theorem flB_ok {prs : List (Nat × Nat)} : ∀ (l : List Oper) (k0 : Nat), flB prs k0 l = true → ∀ k o, l[k]? = some o → memP (k0 + k, k0 + k) prs = true → anyFl prs = true ∧ fk o.op = true
  | [], _, _, k, o, hk, _ => by simp at hk
  | x :: l, k0, h, k, o, hk, hm => by
    simp only [flB, Bool.and_eq_true, Bool.or_eq_true, Bool.not_eq_true'] at h
    cases k with
    | zero =>
      simp at hk; subst hk
      rcases h.1 with h1 | h1
      · rw [Nat.add_zero] at hm; rw [hm] at h1; cases h1
      · exact h1
    | succ k =>
      have e : k0 + 1 + k = k0 + (k + 1) := by omega
      exact flB_ok l (k0 + 1) h.2 k o (by simpa using hk) (by rw [e]; exact hm)
theorem regB_ok (h : regB all prs = true) : RegOK all prs (mks [] all.toList) := by
  simp only [regB, Bool.and_eq_true] at h
  refine ⟨mks_ok all.toList [] (fun j o i _ h => by simp at h) (by simp), ?_, ?_, fun j o hj hm => flB_ok all.toList 0 h.1.2 j o (by simpa using hj) (by simpa using hm)⟩
  · intro i j x y hij hx hy
    have := pairsB_ok all.toList 0 h.2 j y (by simpa using hy)
    rw [Nat.zero_add] at this
    have := pairB_ok all.toList 0 this i x (by simpa using hx) (by omega)
    rwa [Nat.zero_add] at this
  · intro j o ho e he hb
    have := edgesB_ok all.toList 0 h.1.1.2 j o (by simpa using ho) e he hb
    omega
theorem dof_set {listed : Array Bool} {j : Nat} (hj : j < listed.size) (k : Nat) : Dof (listed.setIfInBounds j true) k = if k = j then true else Dof listed k := by
  unfold Dof
  simp only [Array.getD_eq_getD_getElem?, Array.getElem?_setIfInBounds]
  by_cases h : j = k
  · subst h; simp [hj]
  · have : ¬ (k = j) := fun e => h e.symm
    simp [h, this]
theorem dst_some {j : Nat} {o : Oper} (h : all[j]? = some o) : (all[j]?).bind (·.dst) = o.dst := by rw [h]; rfl

theorem draw_step (hT : TabTy P T) (hΓ : ∀ D, SymOK (vD val all prs E base D) Γ) (hc : ∀ D, CallOK (vD val all prs E base D) P call) {ms : List Nat} (hR : RegOK all prs ms) (hX : LexOK T Γ call all prs base E H V rc) (hzb : ∀ n, val.Z n → n < base)
    (hrs : ∀ k, k < all.size → rs[k]? = some (rc k)) (hprs : prsB rs prs = true) (hd : dstB a0.tmps.size all.toList = true) {Q : Exit → Act → World → Prop} {listed : Array Bool} {a : Act} {w : World} (hG : Good val all prs base E H V π0 a0 w0 listed a w)
    {j : Nat} (hj : j ∈ Region.ready .any all listed) {K : Act → World → Prop} (hKK : ∀ a' w', Good val all prs base E H V π0 a0 w0 (listed.setIfInBounds j true) a' w' → K a' w') : wpOp P all Q j K a w := by
  obtain ⟨hun, o, ho, hall⟩ := mem_ready.1 hj
  have hjm : j < all.size := (Array.getElem?_eq_some_iff.1 ho).1
  have hjl : j < listed.size := by rw [hG.sz]; exact hjm
  have hDj : Dof listed j = false := by
    unfold Dof
    simp only [Array.getD_eq_getD_getElem?, Array.getElem?_eq_getElem hjl, Option.getD_some] at hun ⊢
    exact hun
  obtain ⟨c, hcm, hcc, π, he, hr, hst⟩ := hG.st
  -- what is not in order with j
  have U1 : ∀ k x, all[k]? = some x → k < j → Dof listed k = false → x.apart all o = true ∧ heapB prs k j x o = true := by
    intro k x hx hkj hDk
    rcases hR.pair k j x o hkj hx ho with h | h
    · have := hR.msk j o k ho h (Dof listed) hG.closed hall
      rw [hDk] at this; cases this
    · exact h
  have U2' : ∀ k x, all[k]? = some x → j < k → Dof listed k = true → o.apart all x = true ∧ heapB prs j k o x = true := by
    intro k x hx hkj hDk
    rcases hR.pair j k o x hkj ho hx with h | h
    · have := hR.msk k x j hx h (Dof listed) hG.closed (hG.closed k x hx hDk)
      rw [hDj] at this; cases this
    · exact h
  have hE : ∀ k, k < all.size → E (k + 1) = setD (E k) ((all[k]?).bind (·.dst)) (V k) := by
    intro k hk
    have h1 : all[k]? = some all[k] := Array.getElem?_eq_getElem hk
    rw [dst_some h1]
    exact (hX.at h1).1
  -- what j looks at is as in the lexical run
  have agree : ∀ t, t ∈ o.looksAt all → envGet (EnD all V (E 0) (Dof listed) all.size) t = envGet (E j) t := by
    intro t ht
    have := en_agree (all := all) (E := E) (V := V) (D := Dof listed) (m := all.size) (t := t) (j := j) hE ?_ all.size (Nat.le_refl _)
    · rw [this, Nat.min_eq_right (by omega)]
    · intro k hk hdk
      have hxk : all[k]? = some all[k] := Array.getElem?_eq_getElem hk
      rw [dst_some hxk] at hdk
      constructor
      · intro hDk
        rcases Nat.lt_trichotomy k j with h | h | h
        · exact h
        · subst h; rw [hDj] at hDk; cases hDk
        · have := (Oper.apart_spec (U2' k _ hxk h hDk).1).2.2 t hdk
          exact absurd ht this
      · intro hkj
        cases hDk : Dof listed k with
        | true => rfl
        | false =>
          have := (Oper.apart_spec (U1 k _ hxk hkj hDk).1).1 t hdk
          exact absurd ht this
  have agreeO : ∀ t, Operand.tmp t ∈ o.op.operands → envGet (E j) t = envGet (EnD all V (E 0) (Dof listed) all.size) t := by
    intro t ht
    refine (agree t ?_).symm
    unfold Oper.looksAt
    exact List.mem_append_left _ (List.mem_filterMap.2 ⟨.tmp t, by simpa using ht, rfl⟩)
  have hw : wanted all.toList (EnD all V (E 0) (Dof listed) all.size) o.guard = wanted all.toList (E j) o.guard := by
    refine wanted_congr ?_
    intro g wt og t hg hog hdt
    refine agree t ?_
    unfold Oper.looksAt
    refine List.mem_append_right _ ?_
    rw [hg]
    have hog' : all[g]? = some og := by simpa using hog
    simp [hog', hdt]
  have hdst : ∀ t, o.dst = some t → t < a.tmps.size := by
    intro t ht
    rw [hG.size]
    have : ∀ (l : List Oper) (k : Nat), dstB a0.tmps.size l = true → l[k]? = some o → t < a0.tmps.size := by
      intro l
      induction l with
      | nil => intro k _ h; simp at h
      | cons x l ih =>
        intro k hb hk
        simp only [dstB, Bool.and_eq_true] at hb
        cases k with
        | zero => simp at hk; subst hk; rw [ht] at hb; exact nble_true hb.1
        | succ k => exact ih k hb.2 (by simpa using hk)
    exact this all.toList j hd (by simpa using ho)
  -- the state behind
  have closed' : Closed all (Dof (listed.setIfInBounds j true)) := by
    intro k x hx hDk e heb hb
    rw [dof_set hjl] at hDk ⊢
    split
    · rfl
    · split at hDk
      · rename_i hkj
        subst hkj
        rw [ho] at hx; injection hx with hx; subst hx
        exact hall e heb hb
      · exact hG.closed k x hx hDk e heb hb
  have enPut : ∀ {val : Cx} {π' : Nat → Loc} {N' : Nat} {U : Value}, EnvR val π' N' (EnD all V (E 0) (Dof listed) all.size) a → VR val π' N' (V j) U → EnvR val π' N' (EnD all V (E 0) (Dof (listed.setIfInBounds j true)) all.size) (a.put o.dst U) := by
    intro _ π' N' U he' hU
    refine (he'.put hdst hU).congr (fun t => ?_)
    rw [setD_get]
    have hD' : ∀ k, k ≠ j → Dof (listed.setIfInBounds j true) k = Dof listed k := fun k hk => by rw [dof_set hjl, if_neg hk]
    have hDj' : Dof (listed.setIfInBounds j true) j = true := by rw [dof_set hjl, if_pos rfl]
    by_cases hdt : o.dst = some t
    · rw [if_pos hdt]
      refine en_self (j := j) (m := all.size) hDj' (by rw [dst_some ho]; exact hdt) ?_ all.size hjm (Nat.le_refl _)
      intro k hjk hkm hDk
      have hxk : all[k]? = some all[k] := Array.getElem?_eq_getElem hkm
      rw [hD' k (by omega)] at hDk
      rw [dst_some hxk]
      exact (Oper.apart_spec (U2' k _ hxk hjk hDk).1).2.1 t hdt
    · rw [if_neg hdt]
      exact en_other hD' hDj (by rw [dst_some ho]; exact hdt) all.size
  have hDne : ∀ k, k ≠ j → Dof (listed.setIfInBounds j true) k = Dof listed k := fun k hk => by rw [dof_set hjl, if_neg hk]
  have hDjj : Dof (listed.setIfInBounds j true) j = true := by rw [dof_set hjl, if_pos rfl]
  have mk : ∀ {c' : Nat} {a' : Act} {w' : World} {π' : Nat → Loc}, a'.defers = a.defers → a'.tmps.size = a.tmps.size → c' ≤ all.size → (∀ k x, all[k]? = some x → cls x.op = 2 → memP (k, k) prs = false → (Dof (listed.setIfInBounds j true) k = true ↔ k < c')) →
      EnvR (vD val all prs E base (Dof (listed.setIfInBounds j true))) π' (H c').next (EnD all V (E 0) (Dof (listed.setIfInBounds j true)) all.size) a' → HR (vD val all prs E base (Dof (listed.setIfInBounds j true))) π' (H c').next (gD all prs E base H (Dof (listed.setIfInBounds j true)) c') w' →
      Step0 val (vD val all prs E base (Dof (listed.setIfInBounds j true))) π0 base (H 0).heap.get w0 π' (H c').next (gD all prs E base H (Dof (listed.setIfInBounds j true)) c') w' (H all.size).wl → Good val all prs base E H V π0 a0 w0 (listed.setIfInBounds j true) a' w' := by
    intro c' a' w' π' e1 e2 e3 e4 e5 e6 e7
    exact ⟨closed', by simp [hG.sz], e1.trans hG.defers, e2.trans hG.size, c', e3, e4, π', e5, e6, e7⟩
  have hle0 : ∀ i, i ≤ all.size → (H 0).next ≤ (H i).next := fun i hi => lex_nexts hX (Nat.zero_le _) hi
  have noFl : ∀ {D : Nat → Bool} {n k : Nat}, Fl all prs E k → D k = true → n = base + k → ¬ (vD val all prs E base D).Z n := by
    intro D n k hk hD e hz
    rcases hz with hz | ⟨k', a1, a2, a3⟩
    · have := hzb n hz; omega
    · have : k' = k := by omega
      subst this; rw [hD] at a3; cases a3
  unfold wpOp
  simp only [ho]
  obtain ⟨hEj, hcase⟩ := hX.at ho
  by_cases h2 : cls o.op = 2 ∧ memP (j, j) prs = false
  · -- it may do more: all such before it have run, none behind it
    obtain ⟨h2, hmj⟩ := h2
    have hkj : ∀ k x, all[k]? = some x → cls x.op = 2 → memP (k, k) prs = false → k ≠ j → (k < c ↔ k < j) := by
      intro k x hx hx2 hxm hne
      rw [← hcc k x hx hx2 hxm]
      constructor
      · intro hDk
        rcases Nat.lt_or_ge k j with h | h
        · exact h
        · have := (U2' k x hx (by omega) hDk).2
          simp only [heapB, clsP, h2, hx2, hxm, hmj, cond_false] at this
          cases this
      · intro hlt
        cases hDk : Dof listed k with
        | true => rfl
        | false =>
          have := (U1 k x hx hlt hDk).2
          simp only [heapB, clsP, h2, hx2, hxm, hmj, cond_false] at this
          cases this
    have hcj : c ≤ j := by
      rcases Nat.lt_or_ge j c with h | h
      · have := (hcc j o ho h2 hmj).2 h
        rw [hDj] at this; cases this
      · exact h
    have hfl : ∀ i, c ≤ i → ∀ k x, i ≤ k → k < j → all[k]? = some x → cls x.op = 2 → memP (k, k) prs = true := by
      intro i hi k x a1 a2 a3 a4
      cases hm : memP (k, k) prs with
      | true => rfl
      | false => have := (hkj k x a3 a4 hm (by omega)).2 a2; omega
    obtain ⟨q1, q2⟩ := lex_still hX hcj (by omega) (hfl c (Nat.le_refl _))
    have notFl : ¬ Fl all prs E j := fun h => by have := h.1; rw [hmj] at this; cases this
    have hFD : ∀ k, Fl all prs E k → Dof (listed.setIfInBounds j true) k = Dof listed k := fun k hk => hDne k (fun e => by subst e; exact notFl hk)
    have hvD := vD_congr (val := val) (base := base) hFD
    have hsub : ∀ n o', ¬ (vD val all prs E base (Dof listed)).Z n → (H j).heap.get n = some o' → gD all prs E base H (Dof listed) c n = some o' := by
      intro n o' hz hn
      by_cases he1 : Early all prs E base (Dof listed) c n
      · rw [gD_early he1]
        obtain ⟨k, k1, k2, k3, rfl⟩ := he1
        have e2 : base + k - base + 1 = k + 1 := by omega
        rw [e2]
        rcases Nat.lt_or_ge k j with h3 | h3
        · have := (lex_still hX (i := k + 1) (j := j) (by omega) (by omega) (hfl (k + 1) (by omega))).2 (base + k) (fun i a1 _ _ => by omega)
          rw [← this]; exact hn
        · rw [lex_lack hX k2 j h3] at hn; cases hn
      · rw [gD_rest he1, ← q2 n ?_]
        · exact hn
        · intro k a1 a2 a3 e
          refine hz (.inr ⟨k, a3, e, ?_⟩)
          cases hb : Dof listed k with
          | false => rfl
          | true => exact absurd ⟨k, a1, a3, hb, e⟩ he1
    have hlow : ∀ n, n < base → (H j).heap.get n = gD all prs E base H (Dof listed) c n := fun n hn => by rw [gD_low hn]; exact q2 n (fun k _ _ _ => by omega)
    have eD : ∀ n, Early all prs E base (Dof (listed.setIfInBounds j true)) (j + 1) n → Early all prs E base (Dof listed) c n := by
      rintro n ⟨k, a1, a2, a3, a4⟩
      exact ⟨k, by omega, a2, by rw [← hDne k (by omega)]; exact a3, a4⟩
    have cc' : ∀ k x, all[k]? = some x → cls x.op = 2 → memP (k, k) prs = false → (Dof (listed.setIfInBounds j true) k = true ↔ k < j + 1) := by
      intro k x hx hx2 hxm
      by_cases e : k = j
      · subst e; simp [hDjj]
      · rw [hDne k e, hcc k x hx hx2 hxm, hkj k x hx hx2 hxm e]; omega
    rcases hcase with ⟨hwf, hV, hH⟩ | ⟨hwt, _, h1, hop, hH, _⟩ | ⟨_, h, _⟩
    · rw [wanted_ok he (by rw [hw]; exact hwf)]
      simp only [Bool.false_eq_true, if_false]
      have hsub' : ∀ n o', ¬ (vD val all prs E base (Dof listed)).Z n → gD all prs E base H (Dof (listed.setIfInBounds j true)) (j + 1) n = some o' → gD all prs E base H (Dof listed) c n = some o' := by
        intro n o' hz hn
        by_cases e1 : Early all prs E base (Dof (listed.setIfInBounds j true)) (j + 1) n
        · rw [gD_early e1] at hn
          rw [gD_early (eD n e1)]; exact hn
        · rw [gD_rest e1, hH] at hn
          exact hsub n o' hz hn
      have hlow' : ∀ n, n < base → gD all prs E base H (Dof (listed.setIfInBounds j true)) (j + 1) n = gD all prs E base H (Dof listed) c n := fun n hn => by rw [gD_low hn, hH]; exact hlow n hn
      have hnx : (H (j + 1)).next = (H c).next := by rw [hH, q1]
      refine hKK _ _ (mk (c' := j + 1) (π' := π) (act_put_defers _ _ _) (act_put_size _ _ _) (by omega) cc' ?_ ?_ ?_)
      · rw [hnx, hvD]; exact enPut he (by rw [hV]; exact VR_undef _ _ _)
      · rw [hnx, hvD]; exact hr.sub' (Nat.le_refl _) hsub'
      · rw [hnx, hvD]
        refine hst.sub (fun n hz hs => ?_) (fun n hn hs => by rw [← hlow' n hn]; exact hs)
        obtain ⟨x, hx⟩ := Option.isSome_iff_exists.1 hs
        rw [hsub' n x hz hx]; rfl
    · rw [wanted_ok he (by rw [hw]; exact hwt)]
      simp only [if_true]
      have hop' : op T Γ call (EnD all V (E 0) (Dof listed) all.size) { heap := (H j).heap, next := (H j).next, wl := (H j).next } o.op = .ok (V j, h1) := by
        rw [← (op_congr agreeO).1]; exact hop
      have he1 : EnvR (vD val all prs E base (Dof listed)) π (H j).next (EnD all V (E 0) (Dof listed) all.size) a := by rw [q1]; exact he
      have hr1 : HR (vD val all prs E base (Dof listed)) π (H j).next (H j).heap.get w := hr.sub' (Nat.le_of_eq q1.symm) hsub
      refine .inl ((op_ok (h := { heap := (H j).heap, next := (H j).next, wl := (H j).next }) hT (hΓ _) (hc _) he1 hr1 hop').wp fun U w' hp => ?_)
      obtain ⟨_, π', hU, hS⟩ := hp
      have hS : Step (vD val all prs E base (Dof listed)) π (H j).next (H j).heap.get w π' h1.next h1.heap.get w' h1.wl := hS
      have hnx : (H (j + 1)).next = h1.next := by rw [hH]
      have hhp : (H (j + 1)).heap = h1.heap := by rw [hH]
      have hwl : (H all.size).wl ≤ h1.wl := by
        have := lex_wls hX (i := j + 1) (j := all.size) (by omega) (Nat.le_refl _)
        rw [hH] at this
        have := (lower_le (H j).wl h1.wl).2
        simp only at *
        omega
      -- what floats and came early
      have hE1 : ∀ n, Early all prs E base (Dof (listed.setIfInBounds j true)) (j + 1) n → ∃ ob, gD all prs E base H (Dof (listed.setIfInBounds j true)) (j + 1) n = some ob ∧ gD all prs E base H (Dof listed) c n = some ob ∧ isRo ob = false ∧
          Live (vD val all prs E base (Dof listed)) (H j).next n ∧ (H j).heap.get n = none := by
        intro n e1
        have e2 := eD n e1
        rw [gD_early e1, gD_early e2]
        obtain ⟨k, k1, k2, k3, rfl⟩ := e1
        have e3 : base + k - base + 1 = k + 1 := by omega
        rw [e3]
        obtain ⟨ob, g1, g2⟩ := lex_made hX k2
        refine ⟨ob, g1, g1, g2, ⟨Nat.lt_of_lt_of_le (hX.res k k2) (hle0 j (by omega)), noFl k2 (by rw [← hDne k (by omega)]; exact k3) rfl⟩, lex_lack hX k2 j (by omega)⟩
      have hEne : ∀ n, Early all prs E base (Dof (listed.setIfInBounds j true)) (j + 1) n → ∀ m, Live (vD val all prs E base (Dof listed)) (H j).next m → ((H j).heap.get m).isSome = true → (π m).blk ≠ (π n).blk := by
        intro n e1 m hm hs
        obtain ⟨ob, g1, g2, g3, g4, g5⟩ := hE1 n e1
        obtain ⟨x, hx⟩ := Option.isSome_iff_exists.1 hs
        refine hr.ne m n x ob (fun e => by subst e; rw [hx] at g5; cases g5) (hsub m x hm.2 hx) g2 hm.2 g4.2 (by rw [g3]; simp)
      have hEw : ∀ n, Early all prs E base (Dof (listed.setIfInBounds j true)) (j + 1) n → w'.heap[(π n).blk]? = w.heap[(π n).blk]? := by
        intro n e1
        obtain ⟨ob, g1, g2, g3, g4, g5⟩ := hE1 n e1
        rcases hS.blk (π n).blk ((hr.ob n ob g2 g4.2).blk_lt) with h | ⟨m, m1, m2, m3, _⟩
        · exact h
        · exact absurd m3 (hEne n e1 m m1 m2)
      have hEx : ∀ n, Early all prs E base (Dof (listed.setIfInBounds j true)) (j + 1) n → ∀ m x, ¬ (vD val all prs E base (Dof listed)).Z m → h1.heap.get m = some x → (π' m).blk ≠ (π' n).blk := by
        intro n e1 m x hz hx
        obtain ⟨ob, g1, g2, g3, g4, g5⟩ := hE1 n e1
        rw [hS.ext n g4]
        rcases Nat.lt_or_ge m (H j).next with h3 | h3
        · rw [hS.ext m ⟨h3, hz⟩]
          exact hEne n e1 m ⟨h3, hz⟩ (hS.old m h3 (by rw [hx]; rfl))
        · rcases hS.nw m (by rw [hx]; rfl) h3 with h4 | ⟨m2, m3, m4, m5, _⟩
          · have := (hr.ob n ob g2 g4.2).blk_lt
            omega
          · rw [← m5]; exact hEne n e1 m2 m3 m4
      have back : ∀ n, Live (vD val all prs E base (Dof listed)) (H j).next n → ((H j).heap.get n).isSome = true → h1.wl ≤ n → w0.heap.size ≤ (π n).blk ∨ ∃ m, Live val base m ∧ ((H 0).heap.get m).isSome = true ∧ (π0 m).blk = (π n).blk ∧ (H all.size).wl ≤ m := by
        intro n hn hs hw1
        obtain ⟨x, hx⟩ := Option.isSome_iff_exists.1 hs
        have hgs : (gD all prs E base H (Dof listed) c n).isSome = true := by rw [hsub n x hn.2 hx]; rfl
        rcases Nat.lt_or_ge n base with h3 | h3
        · have hl : Live val base n := ⟨h3, fun hz => hn.2 (.inl hz)⟩
          exact .inr ⟨n, hl, hst.old n h3 hgs, by rw [hst.ext n hl], by omega⟩
        · exact hst.nw n hgs hn.2 h3
      refine hKK _ _ (mk (c' := j + 1) (π' := π') (act_put_defers _ _ _) (act_put_size _ _ _) (by omega) cc' ?_ ?_ ?_)
      · rw [hnx, hvD]; exact enPut (he1.mono hS.le hS.ext) hU
      · rw [hnx, hvD]
        refine ⟨fun n x hn => ?_, hS.hr.zb, fun n x hn hz => ?_, fun n m x y hnm hn hm hz1 hz2 hro => ?_⟩
        · by_cases e1 : Early all prs E base (Dof (listed.setIfInBounds j true)) (j + 1) n
          · obtain ⟨ob, g1, g2, g3, g4, g5⟩ := hE1 n e1
            exact Nat.lt_of_lt_of_le g4.1 hS.le
          · rw [gD_rest e1, hhp] at hn; exact hS.hr.lt n x hn
        · by_cases e1 : Early all prs E base (Dof (listed.setIfInBounds j true)) (j + 1) n
          · obtain ⟨ob, g1, g2, g3, g4, g5⟩ := hE1 n e1
            rw [g1] at hn; injection hn with hn; subst hn
            exact ((hr.ob n ob g2 g4.2).keep (N' := (H j).next) (Nat.le_of_eq q1.symm) (fun _ _ => rfl) ⟨by rw [← q1]; exact g4.1, g4.2⟩ rfl).keep hS.le hS.ext g4 (hEw n e1)
          · rw [gD_rest e1, hhp] at hn; exact hS.hr.ob n x hn hz
        · by_cases e1 : Early all prs E base (Dof (listed.setIfInBounds j true)) (j + 1) n
          · obtain ⟨ob, g1, g2, g3, g4, g5⟩ := hE1 n e1
            by_cases e2 : Early all prs E base (Dof (listed.setIfInBounds j true)) (j + 1) m
            · obtain ⟨ob', g1', g2', g3', g4', g5'⟩ := hE1 m e2
              rw [hS.ext n g4, hS.ext m g4']
              exact hr.ne n m ob ob' hnm g2 g2' g4.2 g4'.2 (by rw [g3]; rfl)
            · rw [gD_rest e2, hhp] at hm
              exact (hEx n e1 m y hz2 hm).symm
          · rw [gD_rest e1, hhp] at hn
            by_cases e2 : Early all prs E base (Dof (listed.setIfInBounds j true)) (j + 1) m
            · exact hEx m e2 n x hz1 hn
            · rw [gD_rest e2, hhp] at hm
              exact hS.hr.ne n m x y hnm hn hm hz1 hz2 hro
      · rw [hnx, hvD]
        refine ⟨fun n hn => ?_, Nat.le_trans hst.le (by rw [← q1]; exact hS.le), by rw [hS.os, hst.os], by rw [hS.tape, hst.tape], by rw [hS.output, hst.output], Nat.le_trans hst.size hS.size, fun b hb => ?_, fun n hs hz hn => ?_, fun n hn hs => ?_⟩
        · have hl : Live (vD val all prs E base (Dof listed)) (H j).next n := ⟨Nat.lt_of_lt_of_le hn.1 (Nat.le_trans hX.le (hle0 j (by omega))), fun hz => by
            rcases hz with hz | ⟨k, _, e, _⟩
            · exact hn.2 hz
            · have := hn.1; omega⟩
          rw [hS.ext n hl, hst.ext n hn]
        · rcases hS.blk b (Nat.lt_of_lt_of_le hb hst.size) with h | ⟨n, n1, n2, n3, n4⟩
          · rcases hst.blk b hb with h3 | h3
            · exact .inl (h.trans h3)
            · exact .inr h3
          · rcases back n n1 n2 n4 with h | ⟨m, m1, m2, m3, m4⟩
            · omega
            · exact .inr ⟨m, m1, m2, m3.trans n3, m4⟩
        · by_cases e1 : Early all prs E base (Dof (listed.setIfInBounds j true)) (j + 1) n
          · obtain ⟨ob, g1, g2, g3, g4, g5⟩ := hE1 n e1
            rw [hS.ext n g4]
            exact hst.nw n (by rw [g2]; rfl) hz hn
          · rw [gD_rest e1, hhp] at hs
            rcases Nat.lt_or_ge n (H j).next with h3 | h3
            · rw [hS.ext n ⟨h3, hz⟩]
              obtain ⟨x, hx⟩ := Option.isSome_iff_exists.1 (hS.old n h3 hs)
              exact hst.nw n (by rw [hsub n x hz hx]; rfl) hz hn
            · rcases hS.nw n hs h3 with h4 | ⟨m2, m3, m4, m5, m6⟩
              · exact .inl (Nat.le_trans hst.size h4)
              · rw [← m5]; exact back m2 m3 m4 m6
        · rw [gD_low hn, hhp] at hs
          have := hS.old n (Nat.lt_of_lt_of_le hn (Nat.le_trans hX.le (hle0 j (by omega)))) hs
          rw [hlow n hn] at this
          exact hst.old n hn this
    · rw [hmj] at h; cases h
  · by_cases hmj : memP (j, j) prs = true
    · -- it floats
      have h2 : cls o.op = 2 := fk_cls (hX.fl j o ho hmj)
      have cc' : ∀ k x, all[k]? = some x → cls x.op = 2 → memP (k, k) prs = false → (Dof (listed.setIfInBounds j true) k = true ↔ k < c) := by
        intro k x hx hx2 hxm
        rw [hDne k (fun e => by subst e; rw [hmj] at hxm; cases hxm)]
        exact hcc k x hx hx2 hxm
      rcases hcase with ⟨hwf, hV, hH⟩ | ⟨_, h, _⟩ | ⟨hwt, _, h1, ob, hop, hgo, hH, hrc⟩
      · have notFl : ¬ Fl all prs E j := fun h => by
          obtain ⟨_, x, hx, hwx⟩ := h
          rw [ho] at hx; injection hx with hx; subst hx
          rw [hwf] at hwx; cases hwx
        have hFD : ∀ k, Fl all prs E k → Dof (listed.setIfInBounds j true) k = Dof listed k := fun k hk => hDne k (fun e => by subst e; exact notFl hk)
        have hvD := vD_congr (val := val) (base := base) hFD
        have hgc := gD_congr (H := H) (base := base) hFD c
        rw [wanted_ok he (by rw [hw]; exact hwf)]
        simp only [Bool.false_eq_true, if_false]
        refine hKK _ _ (mk (c' := c) (π' := π) (act_put_defers _ _ _) (act_put_size _ _ _) hcm cc' ?_ ?_ ?_)
        · rw [hvD]; exact enPut he (by rw [hV]; exact VR_undef _ _ _)
        · rw [hvD, hgc]; exact hr
        · rw [hvD, hgc]; exact hst
      · rw [hmj] at h; cases h
      · rw [wanted_ok he (by rw [hw]; exact hwt)]
        simp only [if_true]
        have hFj : Fl all prs E j := ⟨hmj, o, ho, hwt⟩
        have hop' : op T Γ call (EnD all V (E 0) (Dof listed) all.size) { heap := .nil, next := base + j, wl := 0 } o.op = .ok (V j, h1) := by
          rw [← (op_congr agreeO).1]; exact hop
        obtain ⟨f, ob', U, w', l, hro, hnew, hrun, ⟨O, hwO, hlO, hOR⟩, hname⟩ := fk_made hT (w := w) he (hX.fl j o ho hmj) hop'
        have h5 := (hnew { heap := .nil, next := base + j, wl := 0 }).symm.trans hop'
        unfold new at h5
        injection h5 with h5; injection h5 with hVj h6; subst h6
        have h7 : ((Tr.nil : Tr AO).putR (base + j) ob').get (base + j) = some ob := hgo
        rw [Tr.get_putR, if_pos rfl] at h7
        injection h7 with h7; subst h7
        have hval : (vD val all prs E base (Dof (listed.setIfInBounds j true))).val = (vD val all prs E base (Dof listed)).val := rfl
        have hZj : (vD val all prs E base (Dof listed)).Z (base + j) := .inr ⟨j, hFj, rfl, hDj⟩
        have hnej : ∀ {n N : Nat}, Live (vD val all prs E base (Dof listed)) N n → n ≠ base + j := fun hl e => by subst e; exact hl.2 hZj
        have hZle : ∀ n, (vD val all prs E base (Dof (listed.setIfInBounds j true))).Z n → (vD val all prs E base (Dof listed)).Z n := by
          rintro n (hz | ⟨k, k1, k2, k3⟩)
          · exact .inl hz
          · refine .inr ⟨k, k1, k2, ?_⟩
            rw [← hDne k (fun e => by subst e; rw [hDjj] at k3; cases k3)]; exact k3
        have hZge : ∀ n, n ≠ base + j → ¬ (vD val all prs E base (Dof (listed.setIfInBounds j true))).Z n → ¬ (vD val all prs E base (Dof listed)).Z n := by
          intro n hn hz hz'
          rcases hz' with h | ⟨k, k1, k2, k3⟩
          · exact hz (.inl h)
          · exact hz (.inr ⟨k, k1, k2, by rw [hDne k (fun e => by subst e; exact hn k2)]; exact k3⟩)
        have hlN : base + j < (H c).next := Nat.lt_of_lt_of_le (hX.res j hFj) (hle0 c hcm)
        have hlj : Live (vD val all prs E base (Dof (listed.setIfInBounds j true))) (H c).next (base + j) := ⟨hlN, noFl hFj hDjj rfl⟩
        -- the heap behind, name by name
        have hgo : gD all prs E base H (Dof (listed.setIfInBounds j true)) c (base + j) = some ob' := by
          have hj1 : (H (j + 1)).heap.get (base + j) = some ob' := by rw [hH]; show ((H j).heap.putR (base + j) ob').get _ = _; rw [Tr.get_putR, if_pos rfl]
          rcases Nat.lt_or_ge j c with h3 | h3
          · rw [gD_rest (fun ⟨k, k1, _, _, k4⟩ => by omega)]
            rw [lex_chain (all := all) (H := H) (base + j) (i := j + 1) (j := c) (by omega) hcm ?_]
            · exact hj1
            · intro k x a1 a2 hx
              cases hm : memP (k, k) prs with
              | true => exact (lex_float hX hx hm).2.2 _ (by omega)
              | false =>
                by_cases hx2 : cls x.op = 2
                · have hDk := (hcc k x hx hx2 hm).2 a2
                  have := (U2' k x hx (by omega) hDk).2
                  simp only [heapB, clsP, hmj, hm, hx2, cond_true, cond_false] at this
                  obtain ⟨r, cr, g1, g2, g3⟩ := prsB_ok hprs (j, k) (memP_ok this) (show j ≠ k by omega)
                  rw [hrs j hjm] at g1
                  injection g1 with g1
                  rw [hrs k (Array.getElem?_eq_some_iff.1 hx).1] at g2
                  injection g2 with g2
                  rw [← g1, ← g2, hrc] at g3
                  exact lex_touch hX hx hm rfl g3
                · rw [(lex_plain hX hx hx2).1]
          · rw [gD_early ⟨j, h3, hFj, hDjj, rfl⟩]
            have e2 : base + j - base + 1 = j + 1 := by omega
            rw [e2]; exact hj1
        have hgr : ∀ n, n ≠ base + j → gD all prs E base H (Dof (listed.setIfInBounds j true)) c n = gD all prs E base H (Dof listed) c n := by
          intro n hn
          have : Early all prs E base (Dof (listed.setIfInBounds j true)) c n ↔ Early all prs E base (Dof listed) c n := by
            constructor
            · rintro ⟨k, k1, k2, k3, k4⟩
              exact ⟨k, k1, k2, by rw [← hDne k (fun e => by subst e; exact hn k4)]; exact k3, k4⟩
            · rintro ⟨k, k1, k2, k3, k4⟩
              exact ⟨k, k1, k2, by rw [hDne k (fun e => by subst e; exact hn k4)]; exact k3, k4⟩
          by_cases e : Early all prs E base (Dof listed) c n
          · rw [gD_early e, gD_early (this.2 e)]
          · rw [gD_rest e, gD_rest (fun x => e (this.1 x))]
        have hπ : ∀ n, Live (vD val all prs E base (Dof listed)) (H c).next n → Live (vD val all prs E base (Dof (listed.setIfInBounds j true))) (H c).next n ∧ upd1 π (base + j) l n = π n := by
          intro n hn
          exact ⟨⟨hn.1, fun hz => hn.2 (hZle n hz)⟩, by unfold upd1; rw [if_neg (hnej hn)]⟩
        have hπj : upd1 π (base + j) l (base + j) = l := upd1_new _ _
        refine .inl (hrun.wp fun U2 w2 hp => ?_)
        obtain ⟨rfl, rfl⟩ := hp
        have hkeep : ∀ b, b < w.heap.size → w2.heap[b]? = w.heap[b]? := fun b hb => by rw [hwO, heap_alloc, if_neg (by omega)]
        have hgD : ∀ n x, gD all prs E base H (Dof (listed.setIfInBounds j true)) c n = some x → ¬ (vD val all prs E base (Dof (listed.setIfInBounds j true))).Z n → (n = base + j ∧ x = ob') ∨ (n ≠ base + j ∧ gD all prs E base H (Dof listed) c n = some x ∧ ¬ (vD val all prs E base (Dof listed)).Z n ∧ upd1 π (base + j) l n = π n) := by
          intro n x hx hz
          by_cases e : n = base + j
          · subst e; rw [hgo] at hx; injection hx with hx; exact .inl ⟨rfl, hx.symm⟩
          · rw [hgr n e] at hx
            have hz' := hZge n e hz
            exact .inr ⟨e, hx, hz', (hπ n ⟨hr.lt n x hx, hz'⟩).2⟩
        refine hKK _ _ (mk (c' := c) (π' := upd1 π (base + j) l) (act_put_defers _ _ _) (act_put_size _ _ _) hcm cc' ?_ ?_ ?_)
        · refine enPut (he.wk hval hπ) ?_
          rw [← hVj]
          exact hname _ _ _ _ hlj hπj
        · refine ⟨fun n x hn => ?_, fun n hz => hr.zb n (hZle n hz), fun n x hn hz => ?_, fun n m x y hnm hn hm hz1 hz2 hroo => ?_⟩
          · by_cases e : n = base + j
            · subst e; exact hlN
            · rw [hgr n e] at hn; exact hr.lt n x hn
          · rcases hgD n x hn hz with ⟨rfl, rfl⟩ | ⟨e, e1, e2, e3⟩
            · have := hOR (upd1 π (base + j) l) (H c).next (base + j) w2 (Nat.le_refl _) (fun m hm => (hπ m hm).2) hπj (by rw [hwO, hlO, heap_alloc]; simp)
              exact this.wk hval (fun n hn => ⟨⟨hn.1, fun hz => hn.2 (hZle n hz)⟩, rfl⟩) rfl rfl
            · have h0 := hr.ob n x e1 e2
              exact h0.wk hval hπ e3 (hkeep _ h0.blk_lt)
          · rcases hgD n x hn hz1 with ⟨rfl, rfl⟩ | ⟨e, e1, e2, e3⟩
            · rcases hgD m y hm hz2 with ⟨rfl, rfl⟩ | ⟨e', e1', e2', e3'⟩
              · exact absurd rfl hnm
              · rw [hπj, e3', hlO]
                have := (hr.ob m y e1' e2').blk_lt
                omega
            · rcases hgD m y hm hz2 with ⟨rfl, rfl⟩ | ⟨e', e1', e2', e3'⟩
              · rw [hπj, e3, hlO]
                have := (hr.ob n x e1 e2).blk_lt
                omega
              · rw [e3, e3']
                exact hr.ne n m x y hnm e1 e1' e2 e2' hroo
        · refine ⟨fun n hn => ?_, hst.le, by rw [hwO]; exact hst.os, by rw [hwO]; exact hst.tape, by rw [hwO]; exact hst.output, by rw [hwO]; exact Nat.le_trans hst.size (by simp), fun b hb => ?_, fun n hs hz hn => ?_, fun n hn hs => ?_⟩
          · unfold upd1
            rw [if_neg (by have := hn.1; omega)]
            exact hst.ext n hn
          · rw [hkeep b (Nat.lt_of_lt_of_le hb hst.size)]
            exact hst.blk b hb
          · obtain ⟨x, hx⟩ := Option.isSome_iff_exists.1 hs
            rcases hgD n x hx hz with ⟨rfl, rfl⟩ | ⟨e, e1, e2, e3⟩
            · rw [hπj, hlO]; exact .inl hst.size
            · rw [e3]; exact hst.nw n (by rw [e1]; rfl) e2 hn
          · rw [hgr n (by omega)] at hs
            exact hst.old n hn hs
    · -- it reads one thing at most
      have hmj : memP (j, j) prs = false := by
        cases h : memP (j, j) prs with
        | false => rfl
        | true => exact absurd h hmj
      have hc2 : cls o.op ≠ 2 := fun h => h2 ⟨h, hmj⟩
      clear h2
      have notFl : ¬ Fl all prs E j := fun h => by have := h.1; rw [hmj] at this; cases this
      have hFD : ∀ k, Fl all prs E k → Dof (listed.setIfInBounds j true) k = Dof listed k := fun k hk => hDne k (fun e => by subst e; exact notFl hk)
      have hvD := vD_congr (val := val) (base := base) hFD
      have hgc := gD_congr (H := H) (base := base) hFD c
      have cc' : ∀ k x, all[k]? = some x → cls x.op = 2 → memP (k, k) prs = false → (Dof (listed.setIfInBounds j true) k = true ↔ k < c) := by
        intro k x hx hx2 hxm
        by_cases e : k = j
        · subst e
          rw [ho] at hx; injection hx with hx; subst hx
          exact absurd hx2 hc2
        · rw [hDne k e]; exact hcc k x hx hx2 hxm
      rcases hcase with ⟨hwf, hV, hH⟩ | ⟨hwt, _, h1, hop, hH, hrc⟩ | ⟨_, h, _⟩
      · rw [wanted_ok he (by rw [hw]; exact hwf)]
        simp only [Bool.false_eq_true, if_false]
        refine hKK _ _ (mk (c' := c) (π' := π) (act_put_defers _ _ _) (act_put_size _ _ _) hcm cc' ?_ ?_ ?_)
        · rw [hvD]; exact enPut he (by rw [hV]; exact VR_undef _ _ _)
        · rw [hvD, hgc]; exact hr
        · rw [hvD, hgc]; exact hst
      · rw [wanted_ok he (by rw [hw]; exact hwt)]
        simp only [if_true]
        -- a heap in which what it reads is as in the lexical run
        have pick : ∃ g2 : Tr AO, (∀ n x, ¬ (vD val all prs E base (Dof listed)).Z n → g2.get n = some x → gD all prs E base H (Dof listed) c n = some x) ∧ (∀ n, n < base → g2.get n = gD all prs E base H (Dof listed) c n) ∧ ∀ n, rdOf (E j) o.op = n + 1 → g2.get n = (H j).heap.get n := by
          -- what the reader reads is live
          have hlive : ∀ n, rdOf (E j) o.op = n + 1 → ¬ (vD val all prs E base (Dof listed)).Z n := by
            intro n hn
            have := rd_live he (o := o.op) (by rw [← (op_congr (T := T) (Γ := Γ) (call := call) (h := H j) agreeO).2]; exact hn)
            exact this.2
          have cl1 : ∀ n, rdOf (E j) o.op = n + 1 → cls o.op = 1 := by
            intro n hn
            have h0 : cls o.op ≠ 0 := fun h0 => by rw [rd_pure h0] at hn; cases hn
            rcases cls_cases o.op with h | h | h
            · exact absurd h h0
            · exact h
            · exact absurd h hc2
          have touch : ∀ n, rdOf (E j) o.op = n + 1 → ∀ k x, all[k]? = some x → j ≠ k → memP (k, k) prs = false → memP (j, k) prs = true → (H (k + 1)).heap.get n = (H k).heap.get n := by
            intro n hn k x hx hjk hxm hm
            obtain ⟨r, cr, g1, g2, g3⟩ := prsB_ok hprs (j, k) (memP_ok hm) (show j ≠ k from hjk)
            rw [hrs j hjm] at g1
            injection g1 with g1
            rw [hrs k (Array.getElem?_eq_some_iff.1 hx).1] at g2
            injection g2 with g2
            rw [← g1, ← g2, hrc] at g3
            exact lex_touch hX hx hxm hn g3
          -- no name of what floats behind it
          have ahead : ∀ n, rdOf (E j) o.op = n + 1 → ∀ k, j < k → Fl all prs E k → Dof listed k = true → n ≠ base + k := by
            intro n hn k hjk hk hDk e
            obtain ⟨hmk, x, hx, hwx⟩ := hk
            have := (U2' k x hx hjk hDk).2
            simp only [heapB, clsP, hmj, hmk, cl1 n hn, cond_true, cond_false] at this
            obtain ⟨r, cr, g1, g2, g3⟩ := prsB_ok hprs (j, k) (memP_ok this) (show j ≠ k by omega)
            rw [hrs j hjm] at g1
            injection g1 with g1
            rw [hrs k (Array.getElem?_eq_some_iff.1 hx).1] at g2
            injection g2 with g2
            rw [← g1, ← g2, hrc] at g3
            rcases (hX.at hx).2 with ⟨h, _⟩ | ⟨_, h, _⟩ | ⟨_, _, _, _, _, _, _, hrk⟩
            · rw [hwx] at h; cases h
            · rw [hmk] at h; cases h
            · rw [hrk] at g3
              rcases rcOk_cases g3 with g3 | ⟨m, g4, _⟩
              · simp only at g3; omega
              · cases g4
          -- one step, between c and j
          have one : ∀ n, rdOf (E j) o.op = n + 1 → ∀ k x, all[k]? = some x → (j ≤ k → cls x.op = 2 → memP (k, k) prs = false → Dof listed k = true) → (k < j → cls x.op = 2 → memP (k, k) prs = false → Dof listed k = false) → (Fl all prs E k → n ≠ base + k) → (H (k + 1)).heap.get n = (H k).heap.get n := by
            intro n hn k x hx hd1 hd2 hnf
            by_cases hx2 : cls x.op = 2
            · cases hm : memP (k, k) prs with
              | true =>
                by_cases e : n = base + k
                · rcases (hX.at hx).2 with ⟨_, _, h⟩ | ⟨_, h, _⟩ | ⟨hwx, _⟩
                  · rw [h]
                  · rw [hm] at h; cases h
                  · exact absurd e (hnf ⟨hm, x, hx, hwx⟩)
                · exact (lex_float hX hx hm).2.2 n e
              | false =>
                rcases Nat.lt_trichotomy k j with h | h | h
                · have := (U1 k x hx h (hd2 h hx2 hm)).2
                  simp only [heapB, clsP, hmj, hm, cl1 n hn, hx2, cond_false] at this
                  exact touch n hn k x hx (by omega) hm this
                · subst h
                  rw [ho] at hx; injection hx with hx; subst hx
                  exact absurd hx2 hc2
                · have := (U2' k x hx h (hd1 (by omega) hx2 hm)).2
                  simp only [heapB, clsP, hmj, hm, cl1 n hn, hx2, cond_false] at this
                  exact touch n hn k x hx (by omega) hm this
            · rw [(lex_plain hX hx hx2).1]
          by_cases hrd : ∃ n, rdOf (E j) o.op = n + 1 ∧ Early all prs E base (Dof listed) c n
          · obtain ⟨n, hn, k, k1, k2, k3, rfl⟩ := hrd
            obtain ⟨ob, g1, g2⟩ := lex_made hX k2
            have hkj : k < j := by
              rcases Nat.lt_trichotomy k j with h | h | h
              · exact h
              · subst h; rw [hDj] at k3; cases k3
              · exact absurd rfl (ahead _ hn k h k2 k3)
            have hgo : gD all prs E base H (Dof listed) c (base + k) = some ob := by
              rw [gD_early ⟨k, k1, k2, k3, rfl⟩]
              have e2 : base + k - base + 1 = k + 1 := by omega
              rw [e2]; exact g1
            refine ⟨(H c).heap.putR (base + k) ob, fun m x hz hm => ?_, fun m hm => ?_, fun m hm => ?_⟩
            · rw [Tr.get_putR] at hm
              split at hm
              · rename_i e; subst e; injection hm with hm; subst hm; exact hgo
              · by_cases e1 : Early all prs E base (Dof listed) c m
                · obtain ⟨i, i1, i2, i3, rfl⟩ := e1
                  rw [lex_lack hX i2 c i1] at hm; cases hm
                · rw [gD_rest e1]; exact hm
            · rw [Tr.get_putR, if_neg (by omega), gD_low hm]
            · have : m = base + k := by rw [hn] at hm; omega
              subst this
              rw [Tr.get_putR, if_pos rfl, ← g1]
              refine (lex_chain (all := all) (H := H) (base + k) (i := k + 1) (j := j) (by omega) (by omega) (fun i x a1 a2 hx => ?_)).symm
              refine one _ hn i x hx (fun h => by omega) (fun _ hx2 hxm => ?_) (fun _ => by omega)
              cases hb : Dof listed i with
              | false => rfl
              | true => have := (hcc i x hx hx2 hxm).1 hb; omega
          · refine ⟨(H c).heap, fun m x hz hm => ?_, fun m hm => by rw [gD_low hm], fun n hn => ?_⟩
            · by_cases e1 : Early all prs E base (Dof listed) c m
              · obtain ⟨i, i1, i2, i3, rfl⟩ := e1
                rw [lex_lack hX i2 c i1] at hm; cases hm
              · rw [gD_rest e1]; exact hm
            · have hnE : ¬ Early all prs E base (Dof listed) c n := fun h => hrd ⟨n, hn, h⟩
              have dead : ∀ k, c ≤ k → Fl all prs E k → n ≠ base + k := by
                intro k k1 k2 e
                cases hb : Dof listed k with
                | true => exact hnE ⟨k, k1, k2, hb, e⟩
                | false => exact hlive n hn (.inr ⟨k, k2, e, hb⟩)
              rcases Nat.le_total c j with hcj | hcj
              · refine (lex_chain (all := all) (H := H) n hcj (by omega) (fun k x a1 a2 hx => ?_)).symm
                refine one n hn k x hx (fun h => by omega) (fun _ hx2 hxm => ?_) (dead k a1)
                cases hb : Dof listed k with
                | false => rfl
                | true => have := (hcc k x hx hx2 hxm).1 hb; omega
              · refine lex_chain (all := all) (H := H) n hcj hcm (fun k x a1 a2 hx => ?_)
                refine one n hn k x hx (fun _ hx2 hxm => (hcc k x hx hx2 hxm).2 a2) (fun h => by omega) (fun hk e => ?_)
                have hkj : k ≠ j := fun h => by subst h; exact notFl hk
                cases hb : Dof listed k with
                | true => exact ahead n hn k (by omega) hk hb e
                | false => exact hlive n hn (.inr ⟨k, hk, e, hb⟩)
        obtain ⟨g2, hg2, hg3, hg4⟩ := pick
        have hop2 : op T Γ call (E j) { heap := g2, next := (H c).next, wl := (H c).next } o.op = .ok (V j, { heap := g2, next := (H c).next, wl := (H c).next }) :=
          (plain_u2 (h := { heap := (H j).heap, next := (H j).next, wl := (H j).next }) (h2 := { heap := g2, next := (H c).next, wl := (H c).next }) hc2 hg4 _ _ hop).2
        have hop' : op T Γ call (EnD all V (E 0) (Dof listed) all.size) { heap := g2, next := (H c).next, wl := (H c).next } o.op = .ok (V j, { heap := g2, next := (H c).next, wl := (H c).next }) := by
          rw [← (op_congr agreeO).1]; exact hop2
        have hr2 : HR (vD val all prs E base (Dof listed)) π (H c).next g2.get w := hr.sub' (Nat.le_refl _) hg2
        refine .inl ((op_ok (h := { heap := g2, next := (H c).next, wl := (H c).next }) hT (hΓ _) (hc _) he hr2 hop').wp fun U w' hp => ?_)
        obtain ⟨_, π', hU, hS⟩ := hp
        have hS : Step (vD val all prs E base (Dof listed)) π (H c).next g2.get w π' (H c).next g2.get w' (H c).next := hS
        have hw' : ∀ b, b < w.heap.size → w'.heap[b]? = w.heap[b]? := by
          intro b hb
          rcases hS.blk b hb with h | ⟨n, n1, _, _, n4⟩
          · exact h
          · have := n1.1; omega
        refine hKK _ _ (mk (c' := c) (π' := π') (act_put_defers _ _ _) (act_put_size _ _ _) hcm cc' ?_ ?_ ?_)
        · rw [hvD]; exact enPut (he.mono hS.le hS.ext) hU
        · rw [hvD, hgc]
          refine ⟨hr.lt, hr.zb, fun n x hn hz => (hr.ob n x hn hz).keep (Nat.le_refl _) hS.ext ⟨hr.lt n x hn, hz⟩ (hw' _ (hr.ob n x hn hz).blk_lt), fun n m x y hnm hn hm hz1 hz2 hroo => ?_⟩
          rw [hS.ext n ⟨hr.lt n x hn, hz1⟩, hS.ext m ⟨hr.lt m y hm, hz2⟩]
          exact hr.ne n m x y hnm hn hm hz1 hz2 hroo
        · rw [hvD, hgc]
          refine ⟨fun n hn => ?_, hst.le, by rw [hS.os, hst.os], by rw [hS.tape, hst.tape], by rw [hS.output, hst.output], Nat.le_trans hst.size hS.size, fun b hb => ?_, fun n hs hz hn => ?_, hst.old⟩
          · have hl : Live (vD val all prs E base (Dof listed)) (H c).next n := ⟨Nat.lt_of_lt_of_le hn.1 hst.le, fun hz => by
              rcases hz with hz | ⟨k, _, e, _⟩
              · exact hn.2 hz
              · have := hn.1; omega⟩
            rw [hS.ext n hl, hst.ext n hn]
          · rw [hw' b (Nat.lt_of_lt_of_le hb hst.size)]
            exact hst.blk b hb
          · obtain ⟨x, hx⟩ := Option.isSome_iff_exists.1 hs
            rw [hS.ext n ⟨hr.lt n x hx, hz⟩]
            exact hst.nw n hs hz hn
      · rw [hmj] at h; cases h
/-- How many are still to come. -/
def cnt (listed : Array Bool) : Nat := listed.toList.countP (!·)
theorem cnt_set {listed : Array Bool} {j : Nat} (hj : j < listed.size) (h : listed.getD j true = false) : cnt (listed.setIfInBounds j true) + 1 = cnt listed := by
  unfold cnt
  have hl : listed.toList[j]'(by simpa using hj) = false := by
    simp only [Array.getD_eq_getD_getElem?, Array.getElem?_eq_getElem hj, Option.getD_some] at h
    simpa using h
  rw [Array.toList_setIfInBounds, List.countP_set (by simpa using hj), hl]
  have : 0 < listed.toList.countP (!·) := List.countP_pos_iff.2 ⟨false, by rw [← hl]; exact List.getElem_mem _, rfl⟩
  simp only [Bool.not_false, Bool.not_true, if_true, Bool.false_eq_true, if_false]
  omega
theorem cnt_zero {listed : Array Bool} (h : cnt listed = 0) {k : Nat} (hk : k < listed.size) : Dof listed k = true := by
  unfold cnt at h
  rw [List.countP_eq_zero] at h
  have := h (listed.toList[k]'(by simpa using hk)) (List.getElem_mem _)
  unfold Dof
  simp only [Array.getD_eq_getD_getElem?, Array.getElem?_eq_getElem hk, Option.getD_some]
  simpa using this
theorem none_ready {ms : List Nat} (hR : RegOK all prs ms) {listed : Array Bool} (hs : listed.size = all.size) (h : Region.ready .any all listed = []) : ∀ n k, k < n → k < all.size → Dof listed k = true := by
  intro n
  induction n with
  | zero => intro k hk; omega
  | succ n ih =>
    intro k hk hkm
    cases hD : Dof listed k with
    | true => rfl
    | false =>
      have hx : all[k]? = some all[k] := Array.getElem?_eq_getElem hkm
      have : k ∈ Region.ready .any all listed := by
        refine mem_ready.2 ⟨?_, all[k], hx, fun e he hb => ?_⟩
        · have hkl : k < listed.size := by omega
          unfold Dof at hD
          simp only [Array.getD_eq_getD_getElem?, Array.getElem?_eq_getElem hkl, Option.getD_some] at hD ⊢
          exact hD
        · have := hR.edge k _ hx e he hb
          exact ih e.on (by omega) (by omega)
      rw [h] at this; cases this
theorem draw_any (hT : TabTy P T) (hΓ : ∀ D, SymOK (vD val all prs E base D) Γ) (hc : ∀ D, CallOK (vD val all prs E base D) P call) {ms : List Nat} (hR : RegOK all prs ms) (hX : LexOK T Γ call all prs base E H V rc) (hzb : ∀ n, val.Z n → n < base)
    (hrs : ∀ k, k < all.size → rs[k]? = some (rc k)) (hprs : prsB rs prs = true) (hd : dstB a0.tmps.size all.toList = true) {Q : Exit → Act → World → Prop}
    (hQ : ∀ listed a w, Good val all prs base E H V π0 a0 w0 listed a w → (∀ k, k < all.size → Dof listed k = true) → Q .normal a w) : ∀ (fuel : Nat) (listed : Array Bool) (a : Act) (w : World), cnt listed = fuel → Good val all prs base E H V π0 a0 w0 listed a w → wpAny P .any all Q fuel listed a w
  | 0, listed, a, w, hn, hG => by
    have hA : ∀ k, k < all.size → Dof listed k = true := fun k hk => cnt_zero hn (by rw [hG.sz]; exact hk)
    refine ⟨?_, hQ listed a w hG hA⟩
    cases hr : Region.ready .any all listed with
    | nil => rfl
    | cons i l =>
      have hi : i ∈ Region.ready .any all listed := by rw [hr]; simp
      obtain ⟨h0, o, ho, _⟩ := mem_ready.1 hi
      have hlt := (Array.getElem?_eq_some_iff.1 ho).1
      have := hA i hlt
      have hil : i < listed.size := by rw [hG.sz]; exact hlt
      unfold Dof at this
      simp only [Array.getD_eq_getD_getElem?, Array.getElem?_eq_getElem hil, Option.getD_some] at this h0
      rw [h0] at this; cases this
  | fuel + 1, listed, a, w, hn, hG => by
    refine ⟨fun h => hQ listed a w hG (fun k hk => none_ready hR hG.sz h all.size k hk hk), fun i hi => ?_⟩
    obtain ⟨h0, o, ho, _⟩ := mem_ready.1 hi
    have hlt := (Array.getElem?_eq_some_iff.1 ho).1
    refine draw_step hT hΓ hc hR hX hzb hrs hprs hd hG hi (fun a' w' hG' => ?_)
    refine draw_any hT hΓ hc hR hX hzb hrs hprs hd hQ fuel _ a' w' ?_ hG'
    have := cnt_set (listed := listed) (j := i) (by rw [hG.sz]; exact hlt) h0
    omega
theorem draw_ok (hm : P.follows .mixedOrders = true) (hT : TabTy P T) (hΓ : SymOKs val.val Γ) (hc : CallOKs val.val P call) (hK : CallKeep call) : DrawOK val P T Γ call := by
  intro id all prs π env h a w env' h' Q he hr hd hB hop hQ
  have hR := regB_ok hB
  unfold opsD at hop
  obtain ⟨⟨⟨e1, h1⟩, rs⟩, g1, g2⟩ := R.bind_eq hop
  obtain ⟨hprs, g3⟩ := B_ok g2
  injection g3 with g3
  simp only at g3
  injection g3 with g4 g5; subst g4; subst g5
  obtain ⟨E, H, V, rc, x1, x2, x3, x4, x5, x6⟩ := opsDR_lex (all := all) all.toList 0 env _ _ _ rs g1
  simp only [Array.length_toList] at x3 x4 x5
  have hX : LexOK T Γ call all prs h.next E H V rc := by
    refine ⟨hK, x6, fun j o hj hmj => (hR.fl j o hj hmj).2, fun n hn => ?_, ?_, fun k hk => ?_⟩
    · rw [x2] at hn
      obtain ⟨o, ho⟩ := Option.isSome_iff_exists.1 hn
      exact hr.lt n o ho
    · rw [x2]
      cases anyFl prs with
      | true => exact Nat.le_add_right _ _
      | false => exact Nat.le_refl _
    · have hlt := hk.lt
      obtain ⟨hmk, o, ho, _⟩ := hk
      rw [x2, (hR.fl k o ho hmk).1]
      show h.next + k < h.next + lenL all.toList
      rw [lenL_eq, Array.length_toList]; omega
  have hw : ({ w with drawn := w.drawn + 1 } : World) = w.drew := rfl
  have hcz : cnt (Array.replicate all.size false) = all.size := by unfold cnt; simp [List.countP_replicate]
  have hh0 : (H 0).heap = h.heap := by rw [x2]
  refine wp_region_any hm ?_
  rw [hw]
  refine draw_any (val := val) (base := h.next) (π0 := π) (a0 := a) (w0 := w) hT (fun D => hΓ _) (fun D => hc _) hR hX hr.zb x5 hprs hd ?_ all.size _ a w.drew hcz ?_
  · intro listed a' w' hG hA
    obtain ⟨_, _, k1, k2, c, k3, k4, π', k5, k6, k7⟩ := hG
    have hstill : ∀ k o, c ≤ k → k < all.size → all[k]? = some o → cls o.op = 2 → memP (k, k) prs = true := by
      intro k o a1 a2 hk hk2
      cases hmk : memP (k, k) prs with
      | true => rfl
      | false => have := (k4 k o hk hk2 hmk).1 (hA k a2); omega
    obtain ⟨q1, q2⟩ := lex_still hX k3 (Nat.le_refl _) hstill
    have hvv : vD val all prs E h.next (Dof listed) = val := by
      unfold vD
      have : (fun n => val.Z n ∨ ∃ k, Fl all prs E k ∧ n = h.next + k ∧ Dof listed k = false) = val.Z := by
        funext n
        apply propext
        constructor
        · rintro (h1 | ⟨k, a1, _, a3⟩)
          · exact h1
          · rw [hA k a1.lt] at a3; cases a3
        · exact .inl
      rw [this]
    have hsub : ∀ n, (H all.size).heap.get n = gD all prs E h.next H (Dof listed) c n := by
      intro n
      by_cases e1 : Early all prs E h.next (Dof listed) c n
      · rw [gD_early e1]
        obtain ⟨k, b1, b2, b3, rfl⟩ := e1
        have e2 : h.next + k - h.next + 1 = k + 1 := by omega
        have := b2.lt
        rw [e2]
        exact (lex_still hX (i := k + 1) (by omega) (Nat.le_refl _) (fun i o a1 a2 => hstill i o (by omega) a2)).2 _ (fun i _ _ _ => by omega)
      · rw [gD_rest e1]
        exact q2 n (fun k a1 a2 a3 e => e1 ⟨k, a1, a3, hA k a2, e⟩)
    have hsf : (H all.size).heap.get = gD all prs E h.next H (Dof listed) c := funext hsub
    rw [hvv] at k5 k6 k7
    rw [← hsf, ← q1] at k6 k7
    rw [← q1] at k5
    have hwl : (H all.size).wl ≤ h.wl := by
      have := lex_wls hX (Nat.zero_le _) (Nat.le_refl all.size)
      rw [x2] at this; exact this
    refine hQ a' w' ⟨k1, k2, by rw [← x4]; exact hwl, π', ?_, ?_⟩
    · rw [← x4, ← x3]
      refine k5.congr (fun t => ?_)
      have hE : ∀ k, k < all.size → E (k + 1) = setD (E k) ((all[k]?).bind (·.dst)) (V k) := by
        intro k hk
        have h1 : all[k]? = some all[k] := Array.getElem?_eq_getElem hk
        rw [dst_some h1]
        exact (hX.at h1).1
      have := en_agree (all := all) (E := E) (V := V) (D := Dof listed) (m := all.size) (t := t) (j := all.size) hE (fun k hk _ => by simp [hA k hk, hk]) all.size (Nat.le_refl _)
      rw [this, Nat.min_self]
    · rw [← x4]
      rw [hh0] at k7
      exact ⟨k6, hr.zb, k7.ext, k7.le, k7.os, k7.tape, k7.output, k7.size, k7.blk, fun n hs hn => k7.nw n hs (fun hz => by have := hr.zb n hz; omega) hn, k7.old⟩
  · have hf : ∀ k, Dof (Array.replicate all.size false) k = false := by
      intro k
      unfold Dof
      simp only [Array.getD_eq_getD_getElem?, Array.getElem?_replicate]
      split <;> rfl
    have hlv : ∀ n, Live val h.next n → Live (vD val all prs E h.next (Dof (Array.replicate all.size false))) (H 0).next n ∧ π n = π n := by
      intro n hn
      refine ⟨⟨Nat.lt_of_lt_of_le hn.1 hX.le, fun hz => ?_⟩, rfl⟩
      rcases hz with hz | ⟨k, _, e, _⟩
      · exact hn.2 hz
      · have := hn.1; omega
    have hg0 : gD all prs E h.next H (Dof (Array.replicate all.size false)) 0 = h.heap.get := by
      funext n
      rw [gD_rest (fun ⟨k, _, _, k3, _⟩ => by rw [hf] at k3; cases k3), hh0]
    have hval : (vD val all prs E h.next (Dof (Array.replicate all.size false))).val = val.val := rfl
    refine ⟨fun k o _ hk => (by rw [hf] at hk; cases hk), by simp, rfl, rfl, 0, Nat.zero_le _, fun k o _ _ _ => by rw [hf]; simp, π, ?_, ?_, ?_⟩
    · have e : ∀ i, EnD all V (E 0) (Dof (Array.replicate all.size false)) i = E 0 := by
        intro i
        induction i with
        | zero => rfl
        | succ i ih => simp only [EnD, hf, Bool.false_eq_true, if_false]; exact ih
      rw [e, x1]
      exact he.wk hval hlv
    · rw [hg0]
      have hnz : ∀ n, ¬ (vD val all prs E h.next (Dof (Array.replicate all.size false))).Z n → ¬ val.Z n := fun n hn hz => hn (.inl hz)
      refine ⟨fun n o hn => Nat.lt_of_lt_of_le (hr.lt n o hn) hX.le, fun n hz => ?_, fun n o hn hz => (hr.ob n o hn (hnz n hz)).wk hval hlv rfl rfl, fun n m o o' hnm hn hm hz1 hz2 hro => hr.ne n m o o' hnm hn hm (hnz n hz1) (hnz m hz2) hro⟩
      rcases hz with hz | ⟨k, k1, rfl, _⟩
      · exact Nat.lt_of_lt_of_le (hr.zb n hz) hX.le
      · exact hX.res k k1
    · rw [hg0, hh0]
      exact ⟨fun _ _ => rfl, hX.le, rfl, rfl, rfl, Nat.le_refl _, fun _ _ => .inl rfl, fun n hs _ hn => by
        obtain ⟨o, ho⟩ := Option.isSome_iff_exists.1 hs
        have := hr.lt n o ho
        omega, fun _ _ h => h⟩
end
end Go.Proofs.YtplblmhnccdgcaaGreat.AM

namespace Go.Proofs.YtplblmhnccdgcaaGreat.AM
open Go

/-! ### a table's checks -/
def allB {α : Type} (f : Nat → α → Bool) : Tr α → (Nat → Nat) → Bool
  | .nil, _ => true
  | .nd l v r, ix => (match v with | none => true | some x => f (ix 0) x) && (allB f l (fun q => ix (2 * q + 1)) && allB f r (fun q => ix (2 * q + 2)))
def AllT {α : Type} (p : Nat → α → Prop) : Tr α → (Nat → Nat) → Prop
  | .nil, _ => True
  | .nd l v r, ix => (match v with | none => True | some x => p (ix 0) x) ∧ AllT p l (fun q => ix (2 * q + 1)) ∧ AllT p r (fun q => ix (2 * q + 2))
theorem AllT.get {α : Type} {p : Nat → α → Prop} : ∀ {t : Tr α} {ix : Nat → Nat}, AllT p t ix → ∀ {k : Nat} {x : α}, t.get k = some x → p (ix k) x
  | .nil, _, _, k, x, h => by cases h
  | .nd l v r, ix, hA, k, x, h => by
    obtain ⟨h0, h1, h2⟩ := hA
    rw [Tr.get_nd] at h
    split at h
    · rename_i e; subst e; subst h; exact h0
    · split at h
      · rename_i e0 e1
        have := h1.get h
        have e : 2 * (k / 2) + 1 = k := by omega
        rwa [e] at this
      · rename_i e0 e1
        have := h2.get h
        have e : 2 * (k / 2 - 1) + 2 = k := by omega
        rwa [e] at this
theorem AllT.of_bool {α : Type} {f : Nat → α → Bool} : ∀ {t : Tr α} {ix : Nat → Nat}, allB f t ix = true → AllT (fun k x => f k x = true) t ix
  | .nil, _, _ => trivial
  | .nd l v r, ix, h => by
    simp only [allB, Bool.and_eq_true] at h
    refine ⟨?_, AllT.of_bool h.2.1, AllT.of_bool h.2.2⟩
    cases v with
    | none => trivial
    | some x => exact h.1
theorem AllT.mono {α : Type} {p q : Nat → α → Prop} (hp : ∀ k x, p k x → q k x) : ∀ {t : Tr α} {ix : Nat → Nat}, AllT p t ix → AllT q t ix
  | .nil, _, _ => trivial
  | .nd l v r, ix, h => ⟨by cases v with
    | none => trivial
    | some x => exact hp _ _ h.1, h.2.1.mono hp, h.2.2.mono hp⟩

def elemB (P : Program) (e : TypeId) (ti : TI) : Bool :=
  match P.info? e with
  | some j => (match j.zero with
    | some z => Nat.beq j.size ti.es && Nat.beq j.bytes ti.eb && constsB ti.ez z.cells.toList && Nat.beq ti.ez.length ti.es && Nat.ble 1 ti.es
    | none => false)
  | none => false
theorem elemB_ok {P : Program} {e : TypeId} {ti : TI} (h : elemB P e ti = true) : ElemOK P e ti := by
  unfold elemB at h
  split at h
  · rename_i j hj
    split at h
    · rename_i z hz
      simp only [Bool.and_eq_true] at h
      obtain ⟨⟨⟨⟨h1, h2⟩, h3⟩, h4⟩, h5⟩ := h
      exact ⟨⟨j, z, hj, nbeq_true h1, nbeq_true h2, hz, h3, nbeq_true h4⟩, nble_true h5⟩
    · cases h
  · cases h
def fieldB (P : Program) (fs : Array Field) (l : List (Nat × Nat × Bool)) : Nat → List (Nat × Nat × Bool) → Bool
  | _, [] => true
  | i, q :: r => (match fs[i]? with
    | some f => (match P.info? f.type, P.underlying f.type with
      | some j, some d => Nat.beq f.offset q.1 && Nat.beq j.size q.2.1 && Nat.ble 1 j.size && (match descAgg d, q.2.2 with | true, true => true | false, false => true | _, _ => false)
      | _, _ => false)
    | none => false) && fieldB P fs l (i + 1) r
theorem fieldB_ok {P : Program} {fs : Array Field} {l : List (Nat × Nat × Bool)} : ∀ (r : List (Nat × Nat × Bool)) (i : Nat), fieldB P fs l i r = true → ∀ k q, r[k]? = some q →
    ∃ f j d, fs[i + k]? = some f ∧ f.offset = q.1 ∧ P.info? f.type = some j ∧ j.size = q.2.1 ∧ 1 ≤ j.size ∧ P.underlying f.type = some d ∧ descAgg d = q.2.2
  | [], i, _, k, q, hk => by simp at hk
  | q0 :: r, i, h, k, q, hk => by
    simp only [fieldB, Bool.and_eq_true] at h
    cases k with
    | zero =>
      simp at hk; subst hk
      have h1 := h.1
      split at h1
      · rename_i f hf
        split at h1
        · rename_i j d hj hd
          simp only [Bool.and_eq_true] at h1
          obtain ⟨⟨⟨g1, g2⟩, g3⟩, g4⟩ := h1
          refine ⟨f, j, d, hf, nbeq_true g1, hj, nbeq_true g2, nble_true g3, hd, ?_⟩
          cases e1 : descAgg d <;> cases e2 : q0.2.2 <;> first | rfl | (rw [e1, e2] at g4; cases g4)
        · cases h1
      · cases h1
    | succ k =>
      have := fieldB_ok r (i + 1) h.2 k q (by simpa using hk)
      have e : i + 1 + k = i + (k + 1) := by omega
      rw [e] at this; exact this
def kindB (P : Program) (ti : TI) (d : TypeDesc) : Bool :=
  match d with
  | .slice e => Nat.beq ti.kind 1 && elemB P e ti
  | .array len e => Nat.beq ti.kind 2 && (match ti.fields with | [] => true | _ => false) && Nat.beq ti.elem len && Nat.ble 1 ti.es && (match P.info? e with | some j => Nat.beq j.size ti.es | none => false)
  | .struct fs => Nat.beq ti.kind 2 && Nat.beq ti.es 0 && Nat.beq fs.size ti.fields.length && fieldB P fs ti.fields 0 ti.fields
  | .map k e => Nat.beq ti.kind 3 && (match P.underlying k with | some dk => descLike dk ti.kz | none => false) &&
      (match P.info? e with
      | some j => (match j.zero with
        | some (.agg _) => false
        | some (.tuple _) => false
        | some z => constsB ti.ez z.cells.toList
        | none => false)
      | none => false)
  | .string => Nat.beq ti.kind 4
  | .int k => Nat.beq ti.kind 5 && (match ti.zero with | [.int j 0] => decide (j = k) | _ => false)
  | .bool => Nat.beq ti.kind 6
  | .pointer _ => Nat.beq ti.kind 7
  | _ => false
theorem one_cell (z : Value) (h1 : ∀ c, z ≠ .agg c) (h2 : ∀ c, z ≠ .tuple c) : z.cells = #[z] := by
  cases z <;> first | rfl | exact absurd rfl (h1 _) | exact absurd rfl (h2 _)
theorem kindB_ok {P : Program} {ti : TI} {d : TypeDesc} (h : kindB P ti d = true) : KindOK P ti d := by
  unfold kindB at h
  split at h <;> simp only [KindOK]
  · simp only [Bool.and_eq_true] at h; exact ⟨nbeq_true h.1, elemB_ok h.2⟩
  · rename_i len e
    simp only [Bool.and_eq_true] at h
    obtain ⟨⟨⟨⟨h1, h2⟩, h3⟩, h4⟩, h5⟩ := h
    refine ⟨nbeq_true h1, ?_, nbeq_true h3, nble_true h4, ?_⟩
    · split at h2
      · assumption
      · cases h2
    · split at h5
      · rename_i j hj; exact ⟨j, hj, nbeq_true h5⟩
      · cases h5
  · rename_i fs
    simp only [Bool.and_eq_true] at h
    refine ⟨nbeq_true h.1.1.1, nbeq_true h.1.1.2, nbeq_true h.1.2, fun i f hf => ?_⟩
    have hl : i < ti.fields.length := by
      have := (Array.getElem?_eq_some_iff.1 hf).1
      have e := nbeq_true h.1.2
      omega
    have hq : ti.fields[i]? = some ti.fields[i] := List.getElem?_eq_getElem hl
    obtain ⟨f', j, d, g1, g2, g3, g4, g5, g6, g7⟩ := fieldB_ok ti.fields 0 h.2 i _ hq
    rw [Nat.zero_add, hf] at g1
    injection g1 with g1; subst g1
    exact ⟨_, j, d, hq, g2, g3, g4, g5, g6, g7⟩
  · rename_i k e
    simp only [Bool.and_eq_true] at h
    obtain ⟨⟨h1, h2⟩, h3⟩ := h
    refine ⟨nbeq_true h1, ?_, ?_⟩
    · split at h2
      · rename_i dk hdk; exact ⟨dk, hdk, h2⟩
      · cases h2
    · split at h3
      · rename_i j hj
        split at h3
        · cases h3
        · cases h3
        · rename_i z ha ht hz
          exact ⟨j, z, hj, hz, h3, z, one_cell z (fun c e => ha c e) (fun c e => ht c e), rfl⟩
        · cases h3
      · cases h3
  · exact nbeq_true h
  · simp only [Bool.and_eq_true] at h
    refine ⟨nbeq_true h.1, ?_⟩
    have h2 := h.2
    split at h2
    · rename_i j hz
      rw [hz, of_decide_eq_true h2]
    · cases h2
  · exact nbeq_true h
  · exact nbeq_true h
  · cases h
def fldEqB (P : Program) (fs : Array Field) : Nat → List AV → Bool
  | _, [] => true
  | i, z :: r => (match fs[i]? with
    | some f => (match P.underlying f.type with
      | some d => decide (f.name ≠ "_") && Nat.beq f.offset i && descLike d z
      | none => false)
    | none => false) && fldEqB P fs (i + 1) r
theorem fldEqB_ok {P : Program} {fs : Array Field} : ∀ (r : List AV) (i : Nat), fldEqB P fs i r = true → ∀ k z, r[k]? = some z → ∃ f d, fs[i + k]? = some f ∧ P.underlying f.type = some d ∧ f.name ≠ "_" ∧ f.offset = i + k ∧ descLike d z = true
  | [], i, _, k, z, hk => by simp at hk
  | z0 :: r, i, h, k, z, hk => by
    simp only [fldEqB, Bool.and_eq_true] at h
    cases k with
    | zero =>
      simp at hk; subst hk
      have h1 := h.1
      split at h1
      · rename_i f hf
        split at h1
        · rename_i d hd
          simp only [Bool.and_eq_true] at h1
          exact ⟨f, d, hf, hd, of_decide_eq_true h1.1.1, nbeq_true h1.1.2, h1.2⟩
        · cases h1
      · cases h1
    | succ k =>
      have := fldEqB_ok r (i + 1) h.2 k z (by simpa using hk)
      have e : i + 1 + k = i + (k + 1) := by omega
      rw [e] at this; exact this
def eqB (P : Program) (t : TypeId) (ti : TI) : Bool :=
  !P.eqGuardType P.depth t && !P.stoodInHeld t && (match P.underlying t with | some (.struct _) => true | _ => false) && Nat.beq (P.fieldsOf t).size ti.size && Nat.beq ti.zero.length ti.size && fldEqB P (P.fieldsOf t) 0 ti.zero
def tyB (P : Program) (t : TypeId) (ti : TI) : Bool :=
  (match P.info? t with
  | some i => (match i.zero with
    | some z => Nat.beq i.size ti.size && constsB ti.zero z.cells.toList && Nat.beq ti.zero.length ti.size
    | none => false)
  | none => false) && (match P.underlying t with | some d => kindB P ti d | none => false) && (!ti.eagg || eqB P t ti)
theorem tyB_ok {P : Program} {t : TypeId} {ti : TI} (h : tyB P t ti = true) : TyOK P t ti := by
  simp only [tyB, Bool.and_eq_true, Bool.or_eq_true] at h
  obtain ⟨⟨h1, h2⟩, h3⟩ := h
  refine ⟨fun he => ?_, ?_, ?_⟩
  · have h3 : eqB P t ti = true := by rcases h3 with h3 | h3
                                      · rw [he] at h3; cases h3
                                      · exact h3
    simp only [eqB, Bool.and_eq_true, Bool.not_eq_true'] at h3
    obtain ⟨⟨⟨⟨⟨g1, g2⟩, g3⟩, g4⟩, g5⟩, g6⟩ := h3
    refine ⟨g1, g2, ?_, nbeq_true g4, fun i f hf => ?_⟩
    · split at g3
      · rename_i fs hu
        rw [hu]; unfold Program.fieldsOf; rw [hu]
      · cases g3
    · have hl : i < ti.zero.length := by
        have := (Array.getElem?_eq_some_iff.1 hf).1
        have e1 := nbeq_true g4
        have e2 := nbeq_true g5
        omega
      have hq : ti.zero[i]? = some ti.zero[i] := List.getElem?_eq_getElem hl
      obtain ⟨f', d, k1, k2, k3, k4, k5⟩ := fldEqB_ok ti.zero 0 g6 i _ hq
      rw [Nat.zero_add] at k1 k4
      rw [hf] at k1
      injection k1 with k1; subst k1
      exact ⟨k3, k4, d, _, k2, hq, k5⟩
  · split at h1
    · rename_i i hi
      split at h1
      · rename_i z hz
        simp only [Bool.and_eq_true] at h1
        exact ⟨i, z, hi, nbeq_true h1.1.1, hz, h1.1.2, nbeq_true h1.2⟩
      · cases h1
    · cases h1
  · split at h2
    · rename_i d hd; exact ⟨d, hd, kindB_ok h2⟩
    · cases h2
/-- A table of functions, as the program has them, each with its pairs. -/
def bodyOf (f : Func) : Code := match f.body with | some c => c | none => .skip
noncomputable def fnOf (f : Func) (prs : Prs) : AM.Fn := { ntmps := f.ntmps, body := bodyOf f, res := f.results.toList, prs := prs }
def fnB (f : Func) (prs : Prs) : Bool := (match f.body with | some _ => true | none => false) && !(f.name == "runtime.NumGoroutine") && codeB f.ntmps prs (bodyOf f)
theorem fn_ok {P : Program} {k : Nat} {f : Func} {prs : Prs} (h1 : P.funcs[k]? = some f) (h2 : fnB f prs = true) : FnOK P k (fnOf f prs) := by
  simp only [fnB, Bool.and_eq_true, Bool.not_eq_true'] at h2
  obtain ⟨⟨g1, g2⟩, g3⟩ := h2
  refine ⟨⟨f, h1, ?_, rfl, rfl, g2⟩, g3⟩
  show f.body = some (bodyOf f)
  unfold bodyOf
  split at g1
  · rename_i c hc; rw [hc]
  · cases g1
/-- The whole. -/
theorem sound {v : Nat → Int} {P : Program} {T : Tab} {Γ : Syms} {g0 : CallF} (hm : P.follows .mixedOrders = true) (hT : AllT (fun t ti => TyOK P t ti) T.ty id) (hF : AllT (fun k fn => FnOK P k fn) T.fn id) (hΓ : SymOKs v Γ)
    (h0 : CallOKs v P g0) (k0 : CallKeep g0) (loops d : Nat) : CallOKs v P (callF T Γ g0 loops d) := by
  have hT' : TabTy P T := fun t ti h => hT.get h
  have hF' : TabFn P T := fun k fn h => hF.get h
  exact callF_ok hT' hF' hΓ h0 loops (fun d hc Z => draw_ok (val := ⟨v, Z⟩) hm hT' hΓ hc (callF_keep k0 loops d)) d
theorem noF_keep : CallKeep noF := fun _ _ _ => Sat.no

/-! ### a function of no arguments, whose answer is known -/
def oneF (f0 : Nat) (v0 : AV) : CallF := fun f args h => bif Nat.beq f f0 then (match args with | [] => .ok (v0, h) | _ => .no 87) else .no 87
theorem oneF_keep (f0 : Nat) (v0 : AV) : CallKeep (oneF f0 v0) := by
  intro f args h
  unfold oneF
  refine Sat.bif ?_ Sat.no
  split
  · exact Sat.ok (Keep.refl h)
  · exact Sat.no
theorem oneF_ok {v : Nat → Int} {P : Program} {call : CallF} (hc : CallOKs v P call) {f0 : Nat} {v0 : AV} {h1 : Hp} (hrun : call f0 [] { heap := .nil, next := 0, wl := 0 } = .ok (v0, h1)) (hv : lowV 0 v0 = true) : CallOKs v P (oneF f0 v0) := by
  intro Z f args h u h' hop
  unfold oneF at hop
  cases hf : Nat.beq f f0 with
  | false => rw [hf] at hop; cases hop
  | true =>
    rw [hf, cond_true] at hop
    have := nbeq_true hf
    subst this
    split at hop
    · injection hop with hop; injection hop with e1 e2; subst e1; subst e2
      obtain ⟨hfn, hC⟩ := hc (fun _ => False) _ _ _ _ _ hrun
      refine ⟨hfn, fun π w Args hA hr => ?_⟩
      have hA0 : Args.toList = [] := hA.of_nil
      have hr0 : HR ⟨v, fun _ => False⟩ π 0 (Tr.nil : Tr AO).get w := ⟨fun n o hn => (by cases hn), fun n hn => False.elim hn, fun n o hn => (by cases hn), fun n m o o' _ hn => (by cases hn)⟩
      refine (hC π w Args (by rw [hA0]; exact VRs.nil) hr0).mono ?_
      rintro e w' ⟨V, rfl, _, π', hV, hS⟩
      have hS : Step ⟨v, fun _ => False⟩ π 0 (Tr.nil : Tr AO).get w π' h1.next h1.heap.get w' h1.wl := hS
      have hno : ∀ b, b < w.heap.size → w'.heap[b]? = w.heap[b]? := by
        intro b hb
        rcases hS.blk b hb with h2 | ⟨n, h2, _, _, h3⟩
        · exact h2
        · have := h2.1; omega
      refine ⟨V, rfl, Nat.le_refl _, π, ?_, ?_⟩
      · have h0 : VR ⟨v, fun _ => False⟩ π' 0 v0 V := hV.low hv
        have hval : (⟨v, Z⟩ : Cx).val = (⟨v, fun _ => False⟩ : Cx).val := rfl
        exact h0.wk hval (fun n hn => absurd hn.1 (Nat.not_lt_zero n))
      · exact ⟨hr.keep hno, hr.zb, fun _ _ => rfl, Nat.le_refl _, hS.os, hS.tape, hS.output, hS.size, fun b hb => .inl (hno b hb), fun n hs hn => by
          obtain ⟨o, ho⟩ := Option.isSome_iff_exists.1 hs
          have := hr.lt n o ho
          omega, fun _ _ h => h⟩
    · cases hop
/-- A table without one of its functions. -/
theorem AllT.del {α : Type} {p : Nat → α → Prop} {t : Tr α} (h : AllT p t id) (f : Nat) : ∀ k x, (t.del f).get k = some x → p k x := by
  intro k x hx
  rw [Tr.get_del] at hx
  split at hx
  · cases hx
  · exact h.get hx
end Go.Proofs.YtplblmhnccdgcaaGreat.AM
