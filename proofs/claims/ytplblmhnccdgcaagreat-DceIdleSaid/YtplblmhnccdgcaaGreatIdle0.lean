/- What the abstract machine is told of the two numbers of DceIdle, and its run of first(). No condition. -/
import Derived.Test.YtplblmhnccdgcaaGreatTab
set_option maxRecDepth 1000000
namespace Go.Proofs.YtplblmhnccdgcaaGreat.AM
open Go Go.Proofs
/-- symbols: 0, 1: the arguments; 2, 3: their last 8 bits; r, q: the rests of these by 5 -/
def symI (r q : Int) : Syms := ⟨fun _ => none, fun op i n => match op, i, n with
  | .and, 0, 255 => some (.sym 2 0)
  | .and, 1, 255 => some (.sym 3 0)
  | .rem, 2, 5 => some (.int .i64 r)
  | .rem, 3, 5 => some (.int .i64 q)
  | _, _, _ => none⟩
def okB (r : R (AV × Hp)) : Bool := match r with | .ok r => (match r.1 with | .bool b => b | _ => false) | _ => false
theorem okB_ok {r : R (AV × Hp)} (h : okB r = true) : ∃ h1, r = .ok (.bool true, h1) := by
  unfold okB at h
  split at h
  · rename_i r
    obtain ⟨v, h1⟩ := r
    split at h
    · rename_i b e
      simp only at e h
      subst e; subst h
      exact ⟨h1, rfl⟩
    · cases h
  · cases h
def hp0 : Hp := { heap := .nil, next := 0, wl := 0 }
theorem first14 : okB (callF tab ⟨fun _ => none, fun _ _ _ => none⟩ noF 100000 60 14 [] hp0) = true := by kernel_rfl
/-- the table without first() -/
noncomputable def tab14 : Tab := ⟨tyT, fnT.del 14⟩
noncomputable def runI (r q : Int) : Bool := okB (callF tab14 (symI r q) (oneF 14 (.bool true)) 100000 60 5 [.sym 0 0, .sym 1 0] hp0)
end Go.Proofs.YtplblmhnccdgcaaGreat.AM
