import Derived.Test.YtdoeejhdenifpaaGreatDoorB5
import Derived.Test.YtdoeejhdenifpaaGreatDoorB2
import Derived.Shelf.SlSortCmp.NoneTotal
namespace Go.Proofs.YtdoeejhdenifpaaGreatDoor
section
open Go.Shelf Go.RowKit Go.Lib Go.Sort
theorem jFY : ltOf jix = adLt := by funext a b; exact z35 a b
theorem yhK (g cap : Nat) (l : List Ad) (w : World) (hH : HoldsK adC 2 w g 0 l.toArray) (hg : g < w.heap.size) (hsz : l.length < 4611686018427387904) :
    Calls Tryz.prog 151 #[.slice (some ⟨g, 0, none⟩) l.length cap, .func (.func 119) #[] #[]] w fun e w' => e = .returned (.tuple #[]) /\ ∃ n os, w' = sortWorldK adC 2 w g 0 n (yoF adLt l).toArray os := by
 have eg : ∀ args w, (callFunc 119 args).run Tryz.prog w = .ok (.enter 119 args) w := enters_of Tryz.func119 (by kernel_rfl) rfl;have hcmp : CmpLays Tryz.prog 119 #[] adC 2 jix g 0 l.toArray.size w := fun _ _ _ _ x y => z3a x.1 x.2 y.1 y.2 _;have hcon := AnyQ.slices_SortFunc Tryz.sortAd 2 Tryz.isAgg24 Tryz.sizeOf24 adC jPW j4A jix (by rw [jFY]; exact swo_ad) 119 #[] g 0 cap l.toArray w eg hcmp hH hg (by simpa using hsz);change Calls Tryz.prog 151 _ _ _ at hcon;rw [show l.toArray.size = l.length from by simp] at hcon;refine hcon.mono fun e w' ⟨he, d', n, os, hp, hs, hw⟩ => ⟨he, n, os, ?_⟩;rw [hw];congr 1;rw [jFY] at hs
 have := sorted_unique_holds swo_ad (fun x y h1 h2 => tot_ad x y h1 h2) l.toArray d' (by simpa using hp) (by simpa using hs);rw [show d' = d'.toList.toArray from by simp, this]; rfl
theorem zZP {α : Type} (lt : α -> α -> Bool) (l : List α) : (yoF lt l).length = l.length := by simp [yoF]
theorem joI {B : Nat} {v : Value} {l : List Ad} {w : World} (h : OwnL w B 24 2 adC v l) (hsz : l.length < 4611686018427387904) :
    Calls Tryz.prog 151 #[v, .func (.func 119) #[] #[]] w fun e w' => e = .returned (.tuple #[]) /\ OwnL w' B 24 2 adC v (yoF adLt l) /\ w.grownBy w' v.ownBlock := by
 have h0 := h;obtain ⟨h1, h2⟩ := h;rcases h2 with ⟨rfl, hn⟩ | ⟨g, cap, cur, rfl, hb, hg, hn, hc, hs, ht⟩
 . have hl : l = [] := List.length_eq_zero_iff.1 hn;subst hl;have hcon := AnyF.slices_SortFunc_none Tryz.sortAd none 0 (.func (.func 119) #[] #[]) w;change Calls Tryz.prog 151 _ _ _ at hcon;refine hcon.mono fun e w' ⟨he, hw⟩ => ?_;subst hw;exact ⟨he, by simpa [yoF] using h0, ⟨rfl, rfl, rfl, Nat.le_refl _, fun _ _ _ => rfl⟩⟩
 . refine (yhK g cap l w (jHe jPW hg ht) (g_ hg).1 hsz).mono fun e w' ⟨he, n, os, hw⟩ => ?_;have := zwC (m := n) (os := os) (d := (yoF adLt l).toArray) jPW hg hb (by simpa [zZP] using hn) hc hs;subst hw;exact ⟨he, by simpa [OwnL, zZP] using this.1, this.2⟩
end
end Go.Proofs.YtdoeejhdenifpaaGreatDoor
