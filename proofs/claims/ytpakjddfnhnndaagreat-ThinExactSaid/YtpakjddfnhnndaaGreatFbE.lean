/-
  package family: Names.
  Conditions: as each theorem says.
-/
import Derived.Shelf.SlIter.Nil
import Derived.Shelf.SortM.Plain
import Derived.Shelf.SortM.SortNone
import Derived.Ground.GgzProg
import Derived.Ground.SlgmProg
import Derived.Test.YtpakjddfnhnndaaGreatFaJ
namespace Go.Proofs.YtpakjddfnhnndaaGreat
set_option linter.unusedSimpArgs false
set_option linter.unusedVariables false
set_option maxRecDepth 100000
open Go.RowKit Go.Maps Go.Sort Go.Shelf

shelf_lay_g SlLaysZ.n7 Ggz 7 at Tryz 72 as Tryz.keysV
shelf_lay_g SlLaysZ.n6 Ggz 6 at Tryz 71 as Tryz.sortedV
shelf_lay_g SlLaysM.n6 Slgm 6 at Tryz 109 as Tryz.sortV
theorem sortsV (m : Nat) : AnyZ.SortsIn Tryz.prog Tryz.sortedV_ren Fence.wide m :=
  ⟨fun blk off cap ss W hH hblk hsz => callsIn_wide.2 (AnyM.slices_Sort_string Tryz.sortV blk off cap ss W hH hblk hsz),
   fun p cap W => callsIn_wide.2 (AnyM.slices_Sort_string_none Tryz.sortV p cap W)⟩
/-- A slice of strings. -/
def OwnS (w : World) (B : Nat) (v : Value) (l : List (List UInt8)) : Prop := w.ownsRow B 9 1 v l.length (l.map nmV)
theorem OwnS.keep {w w' : World} {B : Nat} {v : Value} {l : List (List UInt8)} (h : OwnS w B v l) (hb : Below w.heap.size w w') : OwnS w' B v l :=
  World.ownsRow.kept h (row := none) ⟨hb.os, hb.tape, hb.output, hb.size, fun k hk _ => hb.block k hk⟩ (by cases hv : v.ownBlock <;> simp)
theorem OwnS.mono {w : World} {B B' : Nat} {v : Value} {l : List (List UInt8)} (h : OwnS w B v l) (hB : B' ≤ B) : OwnS w B' v l := ownsRow_base_a h hB
theorem before_le : ∀ (a b : List UInt8), bytesBefore a b = true → a ≤ b
  | [], _, _ => List.nil_le _
  | _ :: _, [], h => by simp [bytesBefore] at h
  | x :: r, y :: s, h => by
    simp only [bytesBefore, Bool.or_eq_true, decide_eq_true_eq, Bool.and_eq_true, beq_iff_eq] at h
    rw [List.cons_le_cons_iff]
    rcases h with h | ⟨h1, h2⟩
    · exact .inl h
    · exact .inr ⟨h1, before_le r s h2⟩
theorem names_sorted {F : Fam} (hF : F.ok) {ts : List VT} (h : ts.map VT.vol = F.vs) {ss : List (List UInt8)} (hp : ss.Perm (strKeys (dataT ts))) : ss.mergeSort leB = F.vs.map (·.nm) := by
  have h1 : strKeys (dataT ts) = F.vs.map (·.nm) := by
    rw [← h]
    simp [strKeys, dataT, VT.ent, VT.vol, strOf]
  rw [mergeSort_of_perm hp, h1]
  refine List.mergeSort_of_pairwise (List.pairwise_map.2 (hF.sorted.imp fun hab => ?_))
  exact decide_eq_true (before_le _ _ hab)
set_option maxHeartbeats 4000000 in
theorem fnames_is (F : Fam) (fv : Value) (w : World) (hF : F.ok) (h : FamV w fv F) :
    Calls Tryz.prog 22 #[fv] w fun e w' => ∃ v, e = .returned v ∧ OwnS w' w.heap.size v (F.vs.map (·.nm)) ∧ Below w.heap.size w w' := by
  obtain ⟨a, c, mb, rfl, hr, ts, hts, hT⟩ := h
  have hb0 := (Below.refl w.heap.size w).onAlloc (.cells #[.slice a F.N c, .map mb] 28)
  have hlen : ts.length ≤ 32 := by
    have := hF.few
    rw [← hts, List.length_map] at this
    exact this
  have hT0 := hT.keep hb0
  have hns : ∀ ss : List (List UInt8), ss.Perm (strKeys (dataT ts)) → ss.mergeSort leB = F.vs.map (·.nm) := fun ss hp => names_sorted hF hts hp
  have HB := Lib.hid hb0
  have HNS := Lib.hid hns
  rcases hT0.2 with ⟨rfl, rfl⟩ | ⟨b, rfl, hm⟩
  · have HSEQ : Hid (SeqGives Fence.wide 2 Tryz.prog 110 #[.pointer (some ⟨w.heap.size + 1, 0, none⟩)] encStr (fun ss : List (List UInt8) => ss = []) 0 ((w.alloc (.cells #[.slice a F.N c, .map none] 28)).alloc (.cells #[.map none] 26))) := Lib.hid (
      AnyZ.keys_gives_nil (ρ := Tryz.keysV_ren) { Tryz.keysV with } Fence.wide _ trivial rfl (w.heap.size + 1) _ (by simp) (by simp))
    have cK : ∀ mb W, CallsIn Fence.wide 5 Tryz.prog 72 #[.map mb] W fun e w' => e = .returned (.func (.func 110) #[] #[.pointer (some ⟨W.heap.size, 0, none⟩)]) ∧ w' = W.alloc (.cells #[.map mb] 26) := fun mb W => AnyZ.keys_in Tryz.keysV Fence.wide 5 trivial rfl mb W
    have cS := AnyZ.sorted_in Tryz.sortedV Fence.wide 5 trivial trivial trivial trivial rfl (by omega) (sortsV _) (enters_of Tryz.func109 (by kernel_rfl) rfl) 110 #[.pointer (some ⟨w.heap.size + 1, 0, none⟩)] trivial (enters_of Tryz.func110 (by kernel_rfl) rfl) _ 0 (Nat.zero_le _) (by omega) _ HSEQ.out
    change CallsIn _ _ Tryz.prog 71 _ _ _ at cS
    have HK := Lib.hid (callsIn_wide.1 (cK none (w.alloc (.cells #[.slice a F.N c, .map none] 28))))
    have HSO := Lib.hid (callsIn_wide.1 cS)
    have hv0 : F.vs = [] := by rw [← hts]; rfl
    clear cK cS HSEQ hT0 hb0 hns hlen hT hr hF hts
    rw [hv0]
    clear hv0
    go_enter Tryz.func22, Tryz.ntmps22
    go_wp2_with fail
    refine HK.out.mono ?_
    rintro e w1 ⟨rfl, rfl⟩
    go_wp2_with fail
    refine HSO.out.mono ?_
    rintro e w2 ⟨v, ss, rfl, hS, hrow, hnil, hb⟩
    obtain rfl : v = .slice none 0 0 := hnil.2 hS
    have HQ := Lib.hid ((HB.out.onAlloc (.cells #[.map none] 26)).on hb)
    clear hS hrow hnil hb
    go_wp2_with fail
    go_ret
    exact ⟨_, rfl, World.ownsRow_nil _ _ _ _, HQ.out⟩
  · have hms : Maps.size (dataT ts) = ts.length := by show (ts.map VT.ent).length = _; simp
    have HSEQ : Hid (SeqGives Fence.wide 2 Tryz.prog 110 #[.pointer (some ⟨w.heap.size + 1, 0, none⟩)] encStr (fun ss => ss.Perm (strKeys (dataT ts))) (Maps.size (dataT ts)) ((w.alloc (.cells #[.slice a F.N c, .map (some b)] 28)).alloc (.cells #[.map (some b)] 26))) := Lib.hid (
      AnyZ.keys_gives (ρ := Tryz.keysV_ren) { Tryz.keysV with } Fence.wide _ trivial rfl (by omega) (w.heap.size + 1) b _ (dataT ts) _ (by simp) (by simp) (map_below hm ((Below.refl _ _).onAlloc _)))
    have cK : ∀ mb W, CallsIn Fence.wide 5 Tryz.prog 72 #[.map mb] W fun e w' => e = .returned (.func (.func 110) #[] #[.pointer (some ⟨W.heap.size, 0, none⟩)]) ∧ w' = W.alloc (.cells #[.map mb] 26) := fun mb W => AnyZ.keys_in Tryz.keysV Fence.wide 5 trivial rfl mb W
    have cS := AnyZ.sorted_in Tryz.sortedV Fence.wide 5 trivial trivial trivial trivial rfl (by omega) (sortsV _) (enters_of Tryz.func109 (by kernel_rfl) rfl) 110 #[.pointer (some ⟨w.heap.size + 1, 0, none⟩)] trivial (enters_of Tryz.func110 (by kernel_rfl) rfl) _ _ (by rw [hms]; have : maxLen = 9223372036854775807 := rfl; omega) (by rw [hms]; omega) _ HSEQ.out
    change CallsIn _ _ Tryz.prog 71 _ _ _ at cS
    have HK := Lib.hid (callsIn_wide.1 (cK (some b) (w.alloc (.cells #[.slice a F.N c, .map (some b)] 28))))
    have HSO := Lib.hid (callsIn_wide.1 cS)
    clear cK cS HSEQ hms hm hT0 hb0 hns hlen hT hts hr hF
    go_enter Tryz.func22, Tryz.ntmps22
    go_wp2_with fail
    refine HK.out.mono ?_
    rintro e w1 ⟨rfl, rfl⟩
    go_wp2_with fail
    refine HSO.out.mono ?_
    rintro e w2 ⟨v, ss, rfl, hS, hrow, hnil, hb⟩
    have HR := Lib.hid (ownsRow_base_a (base' := w.heap.size) hrow (by simp; omega))
    have HQ := Lib.hid ((HB.out.onAlloc (.cells #[.map (some b)] 26)).on hb)
    have HS := Lib.hid hS
    clear hS hrow hnil hb
    go_wp2_with fail
    go_ret
    refine ⟨_, rfl, ?_, HQ.out⟩
    have h1 := HR.out
    have h2 := HNS.out ss HS.out
    have h3 : ss.length = (F.vs.map (·.nm)).length := by rw [← h2, List.length_mergeSort]
    rw [h3, h2] at h1
    exact h1
end Go.Proofs.YtpakjddfnhnndaaGreat
