/- A part of the proof: walks of the seat's functions, by the rules of the texts that it imports. -/
import Derived.Test.YtplekpdckcidjaaQuInst
import Derived.Test.YtplekpdckcidjaaSxStr
import Derived.Test.YtplekpdckcidjaaSxRank
namespace SX.Wd
open Go Go.Proofs SX
abbrev WI : Type := ByteArray
abbrev wiV (x : WI) : Value := .string x
def wiZ : WI := ⟨#[]⟩
/-- the greater bytes first -/
def ltW (a b : WI) : Bool := !(strLt a b || strEq a b)
theorem ltW_ord : Hp.Ord ltW := strGt_ord
theorem before_w (a b : WI) : Spec Try.prog 61 [wiV a, wiV b] [] (fun v L => v = .bool (ltW a b) ∧ L = []) := by
  refine Spec.of 8 Try.func61 rfl rfl rfl ?_
  refine swp_seq ?_
  refine swp_region ?_
  refine s_pu (pu_assign rfl) ?_
  refine swl_sub _ (.cons (t := 0) rfl (.cons (t := 1) rfl .nil)) ?_
  refine swl_nil ?_
  refine then_n ?_
  refine swp_seq ?_
  refine swp_region ?_
  refine s_pu (pu_move rfl) ?_
  refine s_pu (pu_move rfl) ?_
  refine s_pu (pu_str_gtr rfl rfl) ?_
  refine s_pu (pu_assign rfl) ?_
  refine swl_sub _ (.cons (t := 4) rfl .nil) ?_
  refine swl_nil ?_
  refine then_n ?_
  refine swp_ret ?_
  exact done_ret [] (.tmp rfl .nil) ⟨rfl, rfl⟩ (by repeat (first | exact Split.nil | (apply Split.cons; (repeat (first | with_reducible exact Take.here | apply Take.there)))))
end SX.Wd
