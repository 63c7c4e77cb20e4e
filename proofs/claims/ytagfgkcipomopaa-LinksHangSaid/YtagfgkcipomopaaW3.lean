import Derived.Test.YtagfgkcipomopaaW2
import Derived.Test.YtagfgkcipomopaaS1
import Derived.Test.YtagfgkcipomopaaL3
import Derived.Shelf.SlSortCmp.NoneTotal
namespace Go.Proofs.Ytagfgkcipomopaa
open Go.Shelf Go.RowKit Go.Lib Go.Sort

/-! ### the two orders -/
def adCmp (a b : Ad) : Int := orI (cmpI a.2 b.2) (cmpI a.1 b.1)
def adLt (a b : Ad) : Bool := decide (a.2 < b.2) || (decide (a.2 = b.2) && decide (a.1 < b.1))
theorem adCmp_lt (a b : Ad) : decide (adCmp a b < 0) = adLt a b := by
  unfold adCmp adLt orI cmpI
  by_cases h1 : a.2 < b.2
  · have : ¬ a.2 = b.2 := by omega
    simp [h1]
  · by_cases h2 : b.2 < a.2
    · have : ¬ a.2 = b.2 := by omega
      simp [h1, h2, this]
    · have : a.2 = b.2 := by omega
      by_cases h3 : a.1 < b.1
      · simp [this, h3]
      · by_cases h4 : b.1 < a.1 <;> simp [this, h3, h4]
theorem adCmp_0 (a b : Ad) : adCmp a b = 0 ↔ a = b := by
  unfold adCmp orI cmpI
  rw [Prod.ext_iff]
  by_cases h1 : a.2 < b.2
  · simp [h1]; omega
  · by_cases h2 : b.2 < a.2
    · simp [h1, h2]; omega
    · have : a.2 = b.2 := by omega
      by_cases h3 : a.1 < b.1
      · simp [this, h3]; omega
      · by_cases h4 : b.1 < a.1
        · simp [this, h3, h4]; omega
        · simp [this, h3, h4]; omega
theorem ltOf_ad : ltOf adCmp = adLt := by funext a b; exact adCmp_lt a b
theorem adLt_iff (a b : Ad) : adLt a b = true ↔ a.2 < b.2 ∨ a.2 = b.2 ∧ a.1 < b.1 := by simp [adLt]
theorem adLt_false (a b : Ad) : adLt a b = false ↔ ¬ (a.2 < b.2 ∨ a.2 = b.2 ∧ a.1 < b.1) := by rw [← adLt_iff]; simp
theorem swo_ad : SWO adLt where
  irrefl x := by rw [adLt_false]; omega
  trans x y z h1 h2 := by rw [adLt_iff] at *; omega
  ntrans x y z h1 h2 := by rw [adLt_false] at *; omega
theorem tot_ad (x y : Ad) (h1 : adLt x y = false) (h2 : adLt y x = false) : x = y := by
  rw [adLt_false] at *; rw [Prod.ext_iff]; omega
def arCmp (x y : Ar) : Int := orI (adCmp x.1 y.1) (adCmp x.2 y.2)
def arLt (x y : Ar) : Bool := adLt x.1 y.1 || (decide (x.1 = y.1) && adLt x.2 y.2)
theorem arCmp_lt (x y : Ar) : decide (arCmp x y < 0) = arLt x y := by
  unfold arCmp arLt orI
  rw [← adCmp_lt, ← adCmp_lt]
  by_cases h : adCmp x.1 y.1 = 0
  · have := (adCmp_0 _ _).1 h
    rw [if_pos h, this]
    have z : decide (adCmp y.1 y.1 < 0) = false := by rw [(adCmp_0 _ _).2 rfl]; rfl
    rw [z]; simp
  · have : ¬ x.1 = y.1 := fun e => h ((adCmp_0 _ _).2 e)
    simp [h, this]
theorem ltOf_ar : ltOf arCmp = arLt := by funext a b; exact arCmp_lt a b
theorem arLt_iff (x y : Ar) : arLt x y = true ↔ adLt x.1 y.1 = true ∨ x.1 = y.1 ∧ adLt x.2 y.2 = true := by simp [arLt]
theorem arLt_false (x y : Ar) : arLt x y = false ↔ ¬ (adLt x.1 y.1 = true ∨ x.1 = y.1 ∧ adLt x.2 y.2 = true) := by rw [← arLt_iff]; simp
theorem swo_ar : SWO arLt where
  irrefl x := by rw [arLt_false]; simp only [swo_ad.irrefl]; simp
  trans x y z h1 h2 := by
    rw [arLt_iff] at *
    rcases h1 with h1 | ⟨e1, h1⟩ <;> rcases h2 with h2 | ⟨e2, h2⟩
    · exact Or.inl (swo_ad.trans _ _ _ h1 h2)
    · exact Or.inl (e2 ▸ h1)
    · exact Or.inl (e1 ▸ h2)
    · exact Or.inr ⟨e1.trans e2, swo_ad.trans _ _ _ h1 h2⟩
  ntrans x y z h1 h2 := by
    rw [arLt_false, Prod.ext_iff] at *
    simp only [adLt_iff] at *
    omega
theorem tot_ar (x y : Ar) (h1 : arLt x y = false) (h2 : arLt y x = false) : x = y := by
  rw [arLt_false] at *
  simp only [adLt_iff, Prod.ext_iff] at *
  omega

/-! ### slices.SortFunc at the two -/
def sortL {α : Type} (lt : α → α → Bool) (l : List α) : List α := l.mergeSort fun x y => !lt y x
theorem adC_len (x : Ad) : (adC x).length = 2 := rfl
theorem arC_len (x : Ar) : (arC x).length = 4 := rfl
theorem adC_one (x : Ad) : ∀ v ∈ adC x, v.oneCell' = true := by intro v hv; simp [adC] at hv; rcases hv with rfl | rfl <;> rfl
theorem arC_one (x : Ar) : ∀ v ∈ arC x, v.oneCell' = true := by intro v hv; simp [arC] at hv; rcases hv with rfl | rfl | rfl | rfl <;> rfl
theorem sortAd_row (g cap : Nat) (l : List Ad) (w : World) (hH : HoldsK adC 2 w g 0 l.toArray) (hg : g < w.heap.size) (hsz : l.length < 4611686018427387904) :
    Calls Try.prog 37 #[.slice (some ⟨g, 0, none⟩) l.length cap, .func (.func 38) #[] #[]] w fun e w' => e = .returned (.tuple #[]) ∧ ∃ n os, w' = sortWorldK adC 2 w g 0 n (sortL adLt l).toArray os := by
  have eg : ∀ args w, (callFunc 38 args).run Try.prog w = .ok (.enter 38 args) w := enters_of Try.func38 (by kernel_rfl) rfl
  have hcmp : CmpLays Try.prog 38 #[] adC 2 adCmp g 0 l.toArray.size w := fun _ _ _ _ x y => order_any x.1 x.2 y.1 y.2 _
  have hcon := AnyQ.slices_SortFunc Try.sortAd 2 Try.isAgg34 Try.sizeOf34 adC adC_len adC_one adCmp (by rw [ltOf_ad]; exact swo_ad) 38 #[] g 0 cap l.toArray w eg hcmp hH hg (by simpa using hsz)
  change Calls Try.prog 37 _ _ _ at hcon
  rw [show l.toArray.size = l.length from by simp] at hcon
  refine hcon.mono fun e w' ⟨he, d', n, os, hp, hs, hw⟩ => ⟨he, n, os, ?_⟩
  rw [hw]
  congr 1
  rw [ltOf_ad] at hs
  have := sorted_unique_holds swo_ad (fun x y h1 h2 => tot_ad x y h1 h2) l.toArray d' (by simpa using hp) (by simpa using hs)
  rw [show d' = d'.toList.toArray from by simp, this]; rfl
theorem sortAr_row (g cap : Nat) (l : List Ar) (w : World) (hH : HoldsK arC 4 w g 0 l.toArray) (hg : g < w.heap.size) (hsz : l.length < 4611686018427387904) :
    Calls Try.prog 45 #[.slice (some ⟨g, 0, none⟩) l.length cap, .func (.func 46) #[] #[]] w fun e w' => e = .returned (.tuple #[]) ∧ ∃ n os, w' = sortWorldK arC 4 w g 0 n (sortL arLt l).toArray os := by
  have eg : ∀ args w, (callFunc 46 args).run Try.prog w = .ok (.enter 46 args) w := enters_of Try.func46 (by kernel_rfl) rfl
  have hcmp : CmpLays Try.prog 46 #[] arC 4 arCmp g 0 l.toArray.size w := fun _ _ _ _ x y => areaOrder_any x.1.1 x.1.2 x.2.1 x.2.2 y.1.1 y.1.2 y.2.1 y.2.2 _
  have hcon := AnyQ.slices_SortFunc Try.sortAr 4 Try.isAgg41 Try.sizeOf41 arC arC_len arC_one arCmp (by rw [ltOf_ar]; exact swo_ar) 46 #[] g 0 cap l.toArray w eg hcmp hH hg (by simpa using hsz)
  change Calls Try.prog 45 _ _ _ at hcon
  rw [show l.toArray.size = l.length from by simp] at hcon
  refine hcon.mono fun e w' ⟨he, d', n, os, hp, hs, hw⟩ => ⟨he, n, os, ?_⟩
  rw [hw]
  congr 1
  rw [ltOf_ar] at hs
  have := sorted_unique_holds swo_ar (fun x y h1 h2 => tot_ar x y h1 h2) l.toArray d' (by simpa using hp) (by simpa using hs)
  rw [show d' = d'.toList.toArray from by simp, this]; rfl

theorem sortL_len {α : Type} (lt : α → α → Bool) (l : List α) : (sortL lt l).length = l.length := by simp [sortL]
theorem sortAd_own {B : Nat} {v : Value} {l : List Ad} {w : World} (h : OwnL w B 34 2 adC v l) (hsz : l.length < 4611686018427387904) :
    Calls Try.prog 37 #[v, .func (.func 38) #[] #[]] w fun e w' => e = .returned (.tuple #[]) ∧ OwnL w' B 34 2 adC v (sortL adLt l) ∧ w.grownBy w' v.ownBlock := by
  have h0 := h
  obtain ⟨h1, h2⟩ := h
  rcases h2 with ⟨rfl, hn⟩ | ⟨g, cap, cur, rfl, hb, hg, hn, hc, hs, ht⟩
  · have hl : l = [] := List.length_eq_zero_iff.1 hn
    subst hl
    have hcon := AnyF.slices_SortFunc_none Try.sortAd none 0 (.func (.func 38) #[] #[]) w
    change Calls Try.prog 37 _ _ _ at hcon
    refine hcon.mono fun e w' ⟨he, hw⟩ => ?_
    subst hw
    exact ⟨he, by simpa [sortL] using h0, ⟨rfl, rfl, rfl, Nat.le_refl _, fun _ _ _ => rfl⟩⟩
  · refine (sortAd_row g cap l w (holdsK_of adC_len hg ht) (Array.getElem?_eq_some_iff.1 hg).1 hsz).mono fun e w' ⟨he, n, os, hw⟩ => ?_
    have := owns_sortWorld (m := n) (os := os) (d := (sortL adLt l).toArray) adC_len hg hb (by simpa [sortL_len] using hn) hc hs
    subst hw
    exact ⟨he, by simpa [OwnL, sortL_len] using this.1, this.2⟩
theorem sortAr_own {B : Nat} {v : Value} {l : List Ar} {w : World} (h : OwnL w B 41 4 arC v l) (hsz : l.length < 4611686018427387904) :
    Calls Try.prog 45 #[v, .func (.func 46) #[] #[]] w fun e w' => e = .returned (.tuple #[]) ∧ OwnL w' B 41 4 arC v (sortL arLt l) ∧ w.grownBy w' v.ownBlock := by
  have h0 := h
  obtain ⟨h1, h2⟩ := h
  rcases h2 with ⟨rfl, hn⟩ | ⟨g, cap, cur, rfl, hb, hg, hn, hc, hs, ht⟩
  · have hl : l = [] := List.length_eq_zero_iff.1 hn
    subst hl
    have hcon := AnyF.slices_SortFunc_none Try.sortAr none 0 (.func (.func 46) #[] #[]) w
    change Calls Try.prog 45 _ _ _ at hcon
    refine hcon.mono fun e w' ⟨he, hw⟩ => ?_
    subst hw
    exact ⟨he, by simpa [sortL] using h0, ⟨rfl, rfl, rfl, Nat.le_refl _, fun _ _ _ => rfl⟩⟩
  · refine (sortAr_row g cap l w (holdsK_of arC_len hg ht) (Array.getElem?_eq_some_iff.1 hg).1 hsz).mono fun e w' ⟨he, n, os, hw⟩ => ?_
    have := owns_sortWorld (m := n) (os := os) (d := (sortL arLt l).toArray) arC_len hg hb (by simpa [sortL_len] using hn) hc hs
    subst hw
    exact ⟨he, by simpa [OwnL, sortL_len] using this.1, this.2⟩
end Go.Proofs.Ytagfgkcipomopaa
