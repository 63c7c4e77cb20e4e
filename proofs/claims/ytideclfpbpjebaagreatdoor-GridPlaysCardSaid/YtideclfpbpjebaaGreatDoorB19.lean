import Derived.Test.YtideclfpbpjebaaGreatDoorB2
import Derived.Test.YtideclfpbpjebaaGreatDoorB4
import Derived.Shelf.SlSortCmp.NoneTotal
namespace Go.Proofs.YtideclfpbpjebaaGreatDoor
section
open Go.Shelf Go.RowKit Go.Lib Go.Sort

theorem ltOf_ad : ltOf adCmp = adLt := by funext a b; exact adCmp_lt a b
theorem sortAd_row (g cap : Nat) (l : List Ad) (w : World) (hH : HoldsK adC 2 w g 0 l.toArray) (hg : g < w.heap.size) (hsz : l.length < 4611686018427387904) :
    Calls Tryz.prog 79 #[.slice (some ⟨g, 0, none⟩) l.length cap, .func (.func 55) #[] #[]] w fun e w' => e = .returned (.tuple #[]) ∧ ∃ n os, w' = sortWorldK adC 2 w g 0 n (sortL adLt l).toArray os := by
  have eg : ∀ args w, (callFunc 55 args).run Tryz.prog w = .ok (.enter 55 args) w := enters_of Tryz.func55 (by kernel_rfl) rfl
  have hcmp : CmpLays Tryz.prog 55 #[] adC 2 adCmp g 0 l.toArray.size w := fun _ _ _ _ x y => order_any x.1 x.2 y.1 y.2 _
  have hcon := AnyQ.slices_SortFunc Tryz.sortAd 2 Tryz.isAgg36 Tryz.sizeOf36 adC adC_len adC_one adCmp (by rw [ltOf_ad]; exact swo_ad) 55 #[] g 0 cap l.toArray w eg hcmp hH hg (by simpa using hsz)
  change Calls Tryz.prog 79 _ _ _ at hcon
  rw [show l.toArray.size = l.length from by simp] at hcon
  refine hcon.mono fun e w' ⟨he, d', n, os, hp, hs, hw⟩ => ⟨he, n, os, ?_⟩
  rw [hw]
  congr 1
  rw [ltOf_ad] at hs
  have := sorted_unique_holds swo_ad (fun x y h1 h2 => tot_ad x y h1 h2) l.toArray d' (by simpa using hp) (by simpa using hs)
  rw [show d' = d'.toList.toArray from by simp, this]; rfl
theorem sortL_len {α : Type} (lt : α → α → Bool) (l : List α) : (sortL lt l).length = l.length := by simp [sortL]
theorem sortAd_own {B : Nat} {v : Value} {l : List Ad} {w : World} (h : OwnL w B 36 2 adC v l) (hsz : l.length < 4611686018427387904) :
    Calls Tryz.prog 79 #[v, .func (.func 55) #[] #[]] w fun e w' => e = .returned (.tuple #[]) ∧ OwnL w' B 36 2 adC v (sortL adLt l) ∧ w.grownBy w' v.ownBlock := by
  have h0 := h
  obtain ⟨h1, h2⟩ := h
  rcases h2 with ⟨rfl, hn⟩ | ⟨g, cap, cur, rfl, hb, hg, hn, hc, hs, ht⟩
  · have hl : l = [] := List.length_eq_zero_iff.1 hn
    subst hl
    have hcon := AnyF.slices_SortFunc_none Tryz.sortAd none 0 (.func (.func 55) #[] #[]) w
    change Calls Tryz.prog 79 _ _ _ at hcon
    refine hcon.mono fun e w' ⟨he, hw⟩ => ?_
    subst hw
    exact ⟨he, by simpa [sortL] using h0, ⟨rfl, rfl, rfl, Nat.le_refl _, fun _ _ _ => rfl⟩⟩
  · refine (sortAd_row g cap l w (holdsK_of adC_len hg ht) (Array.getElem?_eq_some_iff.1 hg).1 hsz).mono fun e w' ⟨he, n, os, hw⟩ => ?_
    have := owns_sortWorld (m := n) (os := os) (d := (sortL adLt l).toArray) adC_len hg hb (by simpa [sortL_len] using hn) hc hs
    subst hw
    exact ⟨he, by simpa [OwnL, sortL_len] using this.1, this.2⟩
end
end Go.Proofs.YtideclfpbpjebaaGreatDoor
