/- Who is first, in plain Lean. -/
import Derived.Test.YtmknoiiflciclaaDoverSpec
import Derived.Test.YtmknoiiflciclaaPAx0
import Derived.Test.YtmknoiiflciclaaPAx19
import Derived.Test.YtmknoiiflciclaaPAx20
import Derived.Test.YtmknoiiflciclaaDoverVal
import Derived.Test.YtmknoiiflciclaaQSort
namespace Go.Proofs.Ytmknoiiflciclaa.PA
open Go.RowKit Go.Proofs.YtmknoiiflciclaaW.PrintWords Go.Proofs.YtmknoiiflciclaaW.PrintLast Go.Proofs.YtmknoiiflciclaaW.PrintMore
set_option linter.unusedVariables false
set_option linter.unusedSimpArgs false
theorem osucc {i : Nat} (h : i < 1000000) : wrap64 ((i : Int) + 1) = ((i + 1 : Nat) : Int) := by
  rw [show wrap64 ((i : Int) + 1) = (i : Int) + 1 from by unfold wrap64; omega]
  omega
/-! ### who is first -/
def itm (a : S29) : S50 := ⟨a.f1, a.f0⟩
theorem order_l1 (s : List S50) (hs : s.length ≤ 100) : ∀ (m k i : Nat) (o : List Int), m + i = s.length → o.length ≤ 1000 + i → m < k → dover_Order.l1 k o s (s.length : Int) (i : Int) = some (o ++ (s.drop i).map (·.f1))
  | 0, k, i, o, hm, ho, hk => by
    obtain ⟨k, rfl⟩ : ∃ k', k = k' + 1 := ⟨k - 1, by omega⟩
    rw [dover_Order.l1, if_neg (by omega), List.drop_eq_nil_of_le (by omega)]
    simp
  | m + 1, k, i, o, hm, ho, hk => by
    obtain ⟨k, rfl⟩ : ∃ k', k = k' + 1 := ⟨k - 1, by omega⟩
    have hrd : rd_T50 s (i : Int) = s[i]'(by omega) := by
      unfold rd_T50
      rw [Int.toNat_natCast, List.getD_eq_getElem?_getD, List.getElem?_eq_getElem (by omega), Option.getD_some]
    rw [dover_Order.l1, if_pos (by omega), if_pos (by omega), if_pos (by omega), if_pos (by omega), hrd, osucc (by omega), order_l1 s hs m k (i + 1) _ (by omega) (by simp; omega) (by omega), List.drop_eq_getElem_cons (show i < s.length by omega)]
    simp only [List.map_cons, List.append_assoc, List.cons_append, List.nil_append]
theorem order_l0 (l : List S29) (hl : l.length ≤ 100) : ∀ (m k i : Nat) (q : List S50), m + i = l.length → q.length = i → m + 200 < k → dover_Order.l0 k q l (l.length : Int) (i : Int) = some ((isortI (q ++ (l.drop i).map itm)).map (·.f1))
  | 0, k, i, q, hm, hq, hk => by
    obtain ⟨k, rfl⟩ : ∃ k', k = k' + 1 := ⟨k - 1, by omega⟩
    have hlen : (isortI q).length = i := by
      rw [(isortI_perm q).length_eq, hq]
    rw [dover_Order.l0, if_neg (by omega), List.drop_eq_nil_of_le (by omega), List.map_nil, List.append_nil]
    unfold queue_Sort.f
    rw [if_pos (by omega), Option.bind_some]
    have := order_l1 (isortI q) (by omega) (isortI q).length k 0 [] (by omega) (by simp) (by omega)
    rw [show ((0 : Nat) : Int) = 0 from rfl] at this
    rw [this]
    simp
  | m + 1, k, i, q, hm, hq, hk => by
    obtain ⟨k, rfl⟩ : ∃ k', k = k' + 1 := ⟨k - 1, by omega⟩
    rw [dover_Order.l0, if_pos (by omega), if_pos (by omega), if_pos (by omega), if_pos (by omega), rd_at, osucc (by omega), order_l0 l hl m k (i + 1) _ (by omega) (by simp [hq]) (by omega), List.drop_eq_getElem_cons (show i < l.length by omega), at_get (show i < l.length by omega)]
    simp only [List.map_cons, List.append_assoc, List.cons_append, List.nil_append]
    rfl
theorem order_f {k : Nat} {l : List S29} (hl : l.length ≤ 100) (hk : 400 < k) : dover_Order.f k l = some ((isortI (l.map itm)).map (·.f1)) := by
  have := order_l0 l hl l.length k 0 [] (by omega) rfl (by omega)
  rw [show ((0 : Nat) : Int) = 0 from rfl, List.drop_zero, List.nil_append] at this
  exact this
theorem order_perm {l l' : List S29} (p : l'.Perm l) : isortI (l'.map itm) = isortI (l.map itm) :=
  isortI_unique (isortI_ord _) ((isortI_perm _).trans (p.map itm).symm)
end Go.Proofs.Ytmknoiiflciclaa.PA
