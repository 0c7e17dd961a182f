/- Own: What is to be known of the program beside its code, reckoned out. -/
import Derived.Test.YtmiajnodoigndaaGreatAbsW
import Derived.Test.YtmiajnodoigndaaGreatTrK
namespace Go.Abs
open Go.RowKit
set_option maxRecDepth 1000000
set_option maxHeartbeats 16000000
theorem eqL_ok : eqL.all (fun x => eqOK P x.1 x.2) = true := by kernel_rfl
theorem codeL_ok : codeL.all (fun x => codeOK P x) = true := by kernel_rfl
theorem types_size : P.types.size = 329 := by kernel_rfl
theorem funcs_size : P.funcs.size = 245 := by kernel_rfl
theorem zeros_ok : upTo0 329 (zeroOK P) = true := by kernel_rfl
theorem marks_ok : upTo0 245 (marksOK P) = true := by kernel_rfl
theorem names_ok : upTo0 245 (nameOK P) = true := by kernel_rfl
theorem mixed_ok : P.follows .mixedOrders = true := by kernel_rfl
theorem meth244 (v : Value) (W : World) : (method (P.types.size + Made.depth) 244 v "fusee/choose.who").run P W = .ok (232, v) W := by kernel_rfl
theorem meth245 (v : Value) (W : World) : (method (P.types.size + Made.depth) 245 v "fusee/choose.who").run P W = .ok (233, v) W := by kernel_rfl
theorem meth246 (v : Value) (W : World) : (method (P.types.size + Made.depth) 246 v "fusee/choose.who").run P W = .ok (234, v) W := by kernel_rfl
theorem known_eq : KEq P KK := fun t a b c ρ a' b' W h ha hb => by
 have h : (match eqShape t eqL with | some s => eqRow s a b | none => none) = some c := h
 split at h
 · rename_i s hs
   have := List.all_eq_true.1 eqL_ok _ (eqShape_mem hs)
   exact eqOK_sound this h ha hb W
 · cases h
theorem known_code : KCode P KK := fun e c s h hs => by
 have := List.all_eq_true.1 codeL_ok _ (codeOf_mem h)
 simp only [codeOK, hs] at this
 exact beq_eq this
theorem known_zero : ZeroAgg P := zeroAgg_of types_size zeros_ok
theorem callMethod_of {t : TypeId} {m : String} {f : FuncId} {v : Value} {W : World} (h : (method (P.types.size + Made.depth) t v m).run P W = .ok (f, v) W) (args : Array Value) : (callMethod (.iface t v) m args).run P W = (callFunc f (#[v] ++ args)).run P W := by
 simp only [callMethod, Sem.run_bind, run_program, Result.andThen_ok, h]
theorem known_meth : KMeth P KK := fun t m f h v args W => by
 have := methOf_mem (show methOf t m methL = some f from h)
 simp only [methL, List.mem_cons, List.not_mem_nil, or_false, Prod.mk.injEq] at this
 rcases this with ⟨rfl, rfl, rfl⟩ | ⟨rfl, rfl, rfl⟩ | ⟨rfl, rfl, rfl⟩
 · exact callMethod_of (meth244 v W) args
 · exact callMethod_of (meth245 v W) args
 · exact callMethod_of (meth246 v W) args
theorem ground : Ground P KK where
 eq := known_eq
 code := known_code
 zero := known_zero
 meth := known_meth
 mixed := mixed_ok
 good := fun f => by
  rcases Nat.lt_or_ge f 245 with h | h
  · exact distinct_nodup (upTo0_get marks_ok f h)
  · have : P.funcs[f]? = none := Array.getElem?_eq_none (by rw [funcs_size]; exact h)
    simp [bodyMarks, this]
 nonum := fun f fn hf _ => by
  rcases Nat.lt_or_ge f 245 with h | h
  · have := upTo0_get names_ok f h
    simpa [nameOK, hf] using this
  · have : P.funcs[f]? = none := Array.getElem?_eq_none (by rw [funcs_size]; exact h)
    rw [this] at hf
    cases hf
end Go.Abs
