import Derived.Test.YtaaaocckfnlgdaaGreatDoorProg
import Derived.Shelf.SlSortCmp.WholeK
import Derived.Shelf.SlSorted.Search
import Derived.KernelRfl
/- slices.SortFunc at messages, sort.Search: the shelf's layings, in plain words (as the shelf's own commands give them; printed by wip/shelftext.py). -/
namespace Go.Proofs.YtaaaocckfnlgdaaGreatDoorT
open Go.Shelf Go.RowKit Go.Lib Go.Sort
set_option maxRecDepth 100000
def sortMsg_ren : Go.Shelf.Ren := ⟨fun | 6 => 40 | 15 => 65 | 14 => 64 | 28 => 84 | 29 => 85 | 20 => 76 | 21 => 77 | 22 => 78 | 23 => 79 | 24 => 80 | 25 => 81 | 26 => 82 | 27 => 83 | 46 => 87 | 47 => 88 | 48 => 89 | 49 => 90 | 50 => 91 | 57 => 92 | n => n, fun | 22 => 27 | 24 => 41 | 25 => 95 | 3 => 3 | 39 => 113 | 0 => 0 | 53 => 54 | 55 => 169 | 4 => 4 | 46 => 162 | 45 => 161 | 50 => 109 | 5 => 5 | 9 => 9 | 66 => 170 | 70 => 174 | 76 => 176 | 77 => 177 | n => n, fun | n => n⟩
theorem sortMsg : Go.Proofs.SlLaysF0.n6 Tryz.prog sortMsg_ren := {
  mixed := by kernel_rfl,
  f6 := ⟨Tryz.f40.name, by decide, Tryz.func40.trans (congrArg some (by kernel_rfl))⟩,
  f14 := ⟨Tryz.f64.name, by decide, Tryz.func64.trans (congrArg some (by kernel_rfl))⟩,
  f15 := Tryz.func65.trans (congrArg some (by kernel_rfl)),
  f20 := ⟨Tryz.f76.name, by decide, Tryz.func76.trans (congrArg some (by kernel_rfl))⟩,
  f21 := ⟨Tryz.f77.name, by decide, Tryz.func77.trans (congrArg some (by kernel_rfl))⟩,
  f22 := ⟨Tryz.f78.name, by decide, Tryz.func78.trans (congrArg some (by kernel_rfl))⟩,
  f23 := ⟨Tryz.f79.name, by decide, Tryz.func79.trans (congrArg some (by kernel_rfl))⟩,
  f24 := ⟨Tryz.f80.name, by decide, Tryz.func80.trans (congrArg some (by kernel_rfl))⟩,
  f25 := ⟨Tryz.f81.name, by decide, Tryz.func81.trans (congrArg some (by kernel_rfl))⟩,
  f26 := ⟨Tryz.f82.name, by decide, Tryz.func82.trans (congrArg some (by kernel_rfl))⟩,
  f27 := ⟨Tryz.f83.name, by decide, Tryz.func83.trans (congrArg some (by kernel_rfl))⟩,
  f28 := Tryz.func84.trans (congrArg some (by kernel_rfl)),
  f29 := Tryz.func85.trans (congrArg some (by kernel_rfl)),
  f46 := ⟨Tryz.f87.name, by decide, Tryz.func87.trans (congrArg some (by kernel_rfl))⟩,
  f47 := Tryz.func88.trans (congrArg some (by kernel_rfl)),
  f48 := Tryz.func89.trans (congrArg some (by kernel_rfl)),
  f49 := ⟨Tryz.f90.name, by decide, Tryz.func90.trans (congrArg some (by kernel_rfl))⟩,
  f50 := ⟨Tryz.f91.name, by decide, Tryz.func91.trans (congrArg some (by kernel_rfl))⟩,
  f57 := ⟨Tryz.f92.name, by decide, Tryz.func92.trans (congrArg some (by kernel_rfl))⟩,
  t0 := Tryz.underlying0,
  a0 := Tryz.isAgg0,
  z0 := Tryz.sizeOf0,
  v0 := Tryz.zeroValue0,
  t3 := Tryz.underlying3,
  a3 := Tryz.isAgg3,
  z3 := Tryz.sizeOf3,
  v3 := Tryz.zeroValue3,
  t4 := Tryz.underlying4,
  a4 := Tryz.isAgg4,
  z4 := Tryz.sizeOf4,
  v4 := Tryz.zeroValue4,
  t5 := Tryz.underlying5,
  a5 := Tryz.isAgg5,
  z5 := Tryz.sizeOf5,
  v5 := Tryz.zeroValue5,
  t9 := Tryz.underlying9,
  a9 := Tryz.isAgg9,
  z9 := Tryz.sizeOf9,
  v9 := Tryz.zeroValue9,
  t22 := Tryz.underlying27,
  a22 := Tryz.isAgg27,
  z22 := Tryz.sizeOf27,
  v22 := Tryz.zeroValue27,
  t25 := Tryz.underlying95,
  a25 := Tryz.isAgg95,
  z25 := Tryz.sizeOf95,
  v25 := Tryz.zeroValue95,
  t39 := Tryz.underlying113,
  a39 := Tryz.isAgg113,
  z39 := Tryz.sizeOf113,
  v39 := Tryz.zeroValue113,
  t45 := Tryz.underlying161,
  a45 := Tryz.isAgg161,
  z45 := Tryz.sizeOf161,
  v45 := Tryz.zeroValue161,
  t46 := Tryz.underlying162,
  a46 := Tryz.isAgg162,
  z46 := Tryz.sizeOf162,
  v46 := Tryz.zeroValue162,
  t50 := Tryz.underlying109,
  a50 := Tryz.isAgg109,
  z50 := Tryz.sizeOf109,
  v50 := Tryz.zeroValue109,
  t53 := Tryz.underlying54,
  a53 := Tryz.isAgg54,
  z53 := Tryz.sizeOf54,
  v53 := Tryz.zeroValue54,
  t55 := Tryz.underlying169,
  a55 := Tryz.isAgg169,
  z55 := Tryz.sizeOf169,
  v55 := Tryz.zeroValue169,
  t66 := Tryz.underlying170,
  a66 := Tryz.isAgg170,
  z66 := Tryz.sizeOf170,
  v66 := Tryz.zeroValue170,
  t70 := Tryz.underlying174,
  a70 := Tryz.isAgg174,
  z70 := Tryz.sizeOf174,
  v70 := Tryz.zeroValue174,
  t76 := Tryz.underlying176,
  a76 := Tryz.isAgg176,
  z76 := Tryz.sizeOf176,
  v76 := Tryz.zeroValue176,
  t77 := Tryz.underlying177,
  a77 := Tryz.isAgg177,
  z77 := Tryz.sizeOf177,
  v77 := Tryz.zeroValue177 }

def searchT_ren : Go.Shelf.Ren := ⟨fun | 16 => 68 | n => n, fun | 3 => 3 | 35 => 136 | 4 => 4 | 38 => 113 | n => n, fun | n => n⟩
theorem searchT : Go.Proofs.SlLaysO.n16 Tryz.prog searchT_ren := {
  mixed := by kernel_rfl,
  f16 := Tryz.func68.trans (congrArg some (by kernel_rfl)),
  t3 := Tryz.underlying3,
  a3 := Tryz.isAgg3,
  z3 := Tryz.sizeOf3,
  v3 := Tryz.zeroValue3,
  t4 := Tryz.underlying4,
  a4 := Tryz.isAgg4,
  z4 := Tryz.sizeOf4,
  v4 := Tryz.zeroValue4,
  t35 := Tryz.underlying136,
  a35 := Tryz.isAgg136,
  z35 := Tryz.sizeOf136,
  v35 := Tryz.zeroValue136,
  t38 := Tryz.underlying113,
  a38 := Tryz.isAgg113,
  z38 := Tryz.sizeOf113,
  v38 := Tryz.zeroValue113 }
end Go.Proofs.YtaaaocckfnlgdaaGreatDoorT
/- Plain: a heap of messages, by their times. -/
namespace Go.Proofs.YtaaaocckfnlgdaaGreatDoorH
/-- A message: its time, its number. -/
abbrev Mg := Int × Int
def g (l : List Mg) (i : Nat) : Mg := l.getD i (0, 0)
def tt (l : List Mg) (i : Nat) : Int := (g l i).1
def klt (x y : Mg) : Bool := decide (x.1 < y.1) || (decide (x.1 = y.1) && decide (x.2 < y.2))
def sw (l : List Mg) (i k : Nat) : List Mg := (l.set i (g l k)).set k (g l i)
theorem klt_yes {x y : Mg} (h : klt x y = true) : x.1 ≤ y.1 := by
  simp only [klt, Bool.or_eq_true, Bool.and_eq_true, decide_eq_true_eq] at h
  omega
theorem klt_no {x y : Mg} (h : klt x y = false) : y.1 ≤ x.1 := by
  simp only [klt, Bool.or_eq_false_iff, Bool.and_eq_false_iff, decide_eq_false_iff_not] at h
  omega
theorem sw_len (l : List Mg) (i k : Nat) : (sw l i k).length = l.length := by simp [sw]
theorem g_lt {l : List Mg} {i : Nat} (h : i < l.length) : g l i = l[i] := by simp [g, List.getD_eq_getElem?_getD, h]
theorem sw_g (l : List Mg) (i k j : Nat) (hi : i < l.length) (hk : k < l.length) : g (sw l i k) j = if j = k then g l i else if j = i then g l k else g l j := by
  unfold sw
  simp only [g, List.getD_eq_getElem?_getD, List.getElem?_set, List.length_set]
  by_cases h1 : j = k
  · subst h1; simp [hk]
  · by_cases h2 : j = i
    · subst h2; simp [h1, hi, Ne.symm h1]
    · simp [h1, h2, Ne.symm h1, Ne.symm h2]
theorem sw_perm (l : List Mg) (i k : Nat) (hi : i < l.length) (hk : k < l.length) : (sw l i k).Perm l := by
  unfold sw
  rw [g_lt hi, g_lt hk]
  exact List.set_set_perm hi hk
theorem sw_t (l : List Mg) (i k j : Nat) (hi : i < l.length) (hk : k < l.length) : tt (sw l i k) j = if j = k then tt l i else if j = i then tt l k else tt l j := by
  unfold tt
  rw [sw_g l i k j hi hk]
  split
  · rfl
  · split <;> rfl
/-- A heap in its first n places. -/
def HeapN (l : List Mg) (n : Nat) : Prop := ∀ i, 0 < i → i < n → tt l ((i - 1) / 2) ≤ tt l i
def HeapUp (l : List Mg) (j : Nat) : Prop := (∀ i, 0 < i → i < l.length → i ≠ j → tt l ((i - 1) / 2) ≤ tt l i) ∧ ∀ i, 0 < i → i < l.length → (i - 1) / 2 = j → 0 < j → tt l ((j - 1) / 2) ≤ tt l i
def HeapDn (l : List Mg) (j n : Nat) : Prop := (∀ i, 0 < i → i < n → (i - 1) / 2 ≠ j → tt l ((i - 1) / 2) ≤ tt l i) ∧ ∀ i, 0 < i → i < n → (i - 1) / 2 = j → 0 < j → tt l ((j - 1) / 2) ≤ tt l i
theorem up_start {l : List Mg} (m : Mg) (h : HeapN l l.length) : HeapUp (l ++ [m]) l.length := by
  have e : ∀ i, i < l.length → tt (l ++ [m]) i = tt l i := fun i hi => by
    unfold tt g
    rw [List.getD_eq_getElem?_getD, List.getElem?_append_left hi, ← List.getD_eq_getElem?_getD]
  refine ⟨fun i h0 h1 h2 => ?_, fun i h0 h1 h2 h3 => ?_⟩
  · have : i < l.length := by simp at h1; omega
    rw [e _ this, e _ (by omega)]
    exact h i h0 this
  · simp at h1; omega
theorem up_stop {l : List Mg} {j : Nat} (h : HeapUp l j) (hj : j = 0 ∨ tt l ((j - 1) / 2) ≤ tt l j) : HeapN l l.length := fun i h0 h1 => by
  by_cases e : i = j
  · subst e; rcases hj with hj | hj
    · omega
    · exact hj
  · exact h.1 i h0 h1 e
theorem up_step {l : List Mg} {j : Nat} (h : HeapUp l j) (hj : j < l.length) (h0 : 0 < j) (hlt : tt l j ≤ tt l ((j - 1) / 2)) : HeapUp (sw l ((j - 1) / 2) j) ((j - 1) / 2) := by
  have hp : (j - 1) / 2 < l.length := by omega
  have s := fun x => sw_t l ((j - 1) / 2) j x hp hj
  generalize hpp : (j - 1) / 2 = p at *
  refine ⟨fun i a b c => ?_, fun i a b c d => ?_⟩
  · rw [sw_len] at b
    rw [s, s]
    by_cases e1 : i = j
    · subst e1
      rw [hpp, if_neg (by omega), if_pos rfl, if_pos rfl]
      exact hlt
    · rw [if_neg e1, if_neg c]
      by_cases e2 : (i - 1) / 2 = j
      · rw [if_pos e2]
        have := h.2 i a b e2 h0
        rw [hpp] at this
        exact this
      · rw [if_neg e2]
        by_cases e3 : (i - 1) / 2 = p
        · rw [if_pos e3]
          have := h.1 i a b e1
          rw [e3] at this
          omega
        · rw [if_neg e3]
          exact h.1 i a b e1
  · rw [sw_len] at b
    rw [s, s]
    have f1 := h.1 p d hp (by omega)
    rw [if_neg (by omega), if_neg (by omega)]
    by_cases e1 : i = j
    · rw [if_pos e1]; exact f1
    · rw [if_neg e1, if_neg (by omega)]
      have := h.1 i a b e1
      rw [c] at this
      omega
theorem dn_start {l : List Mg} {n : Nat} (h : HeapN l (n + 1)) (hl : l.length = n + 1) : HeapDn (sw l 0 n) 0 n := by
  refine ⟨fun i a b c => ?_, fun i a b c d => by omega⟩
  rw [sw_t _ _ _ _ (by omega) (by omega), sw_t _ _ _ _ (by omega) (by omega), if_neg (by omega), if_neg (by omega), if_neg (by omega), if_neg (by omega)]
  exact h i a (by omega)
theorem dn_stop {l : List Mg} {j n : Nat} (h : HeapDn l j n) (hs : ∀ i, 0 < i → i < n → (i - 1) / 2 = j → tt l j ≤ tt l i) : HeapN l n := fun i a b => by
  by_cases e : (i - 1) / 2 = j
  · rw [e]; exact hs i a b e
  · exact h.1 i a b e
theorem dn_step {l : List Mg} {j n c : Nat} (h : HeapDn l j n) (hn : n ≤ l.length) (hc : c < n) (hcj : (c - 1) / 2 = j) (c0 : 0 < c) (hmin : ∀ i, 0 < i → i < n → (i - 1) / 2 = j → tt l c ≤ tt l i) (hlt : tt l c ≤ tt l j) : HeapDn (sw l j c) c n := by
  have s := fun x => sw_t l j c x (by omega) (by omega)
  refine ⟨fun i a b d => ?_, fun i a b d e => ?_⟩
  · rw [s, s]
    by_cases e1 : i = c
    · subst e1
      rw [if_neg d, if_pos hcj, if_pos rfl]
      exact hlt
    · rw [if_neg e1, if_neg d]
      by_cases e2 : (i - 1) / 2 = j
      · rw [if_pos e2, if_neg (by omega)]
        exact hmin i a b e2
      · rw [if_neg e2]
        by_cases e3 : i = j
        · rw [if_pos e3]
          subst e3
          exact h.2 c c0 hc hcj a
        · rw [if_neg e3]
          exact h.1 i a b e2
  · rw [s, s, hcj, if_neg (by omega), if_pos rfl, if_neg (by omega), if_neg (by omega)]
    have := h.1 i a b (by omega)
    rw [d] at this
    exact this
theorem heap_min {l : List Mg} {n : Nat} (h : HeapN l n) : ∀ i, i < n → tt l 0 ≤ tt l i := fun i => by
  induction i using Nat.strongRecOn with
  | ind i ih =>
    intro hi
    by_cases e : i = 0
    · rw [e]; exact Int.le_refl _
    · have h1 := h i (by omega) hi
      have h2 := ih ((i - 1) / 2) (by omega) (by omega)
      omega
theorem heap_take {l : List Mg} {n : Nat} (h : HeapN l n) (hn : n ≤ l.length) : HeapN (l.take n) (l.take n).length := by
  have e : ∀ i, i < n → tt (l.take n) i = tt l i := fun i hi => by
    unfold tt g
    rw [List.getD_eq_getElem?_getD, List.getElem?_take, if_pos hi, ← List.getD_eq_getElem?_getD]
  have el : (l.take n).length = n := by rw [List.length_take]; omega
  rw [el]
  intro i a b
  rw [e _ b, e _ (by omega)]
  exact h i a b
/-! ### times, in order -/
/-- t put into its place among times that stand in order: ahead of the first that is later. -/
def put (t : Int) : List Int → List Int
  | [] => [t]
  | x :: r => if t < x then t :: x :: r else x :: put t r
theorem put_perm (t : Int) : ∀ l, (put t l).Perm (t :: l)
  | [] => List.Perm.refl _
  | x :: r => by
    rw [put]
    split
    · exact List.Perm.refl _
    · exact ((put_perm t r).cons x).trans (List.Perm.swap t x r)
def Asc (l : List Int) : Prop := l.Pairwise (· ≤ ·)
theorem put_asc (t : Int) : ∀ l, Asc l → Asc (put t l)
  | [], _ => by simp [put, Asc]
  | x :: r, h => by
    obtain ⟨h1, h2⟩ := List.pairwise_cons.1 h
    rw [put]
    split
    · rename_i hx
      exact List.pairwise_cons.2 ⟨fun y hy => by
        rcases List.mem_cons.1 hy with rfl | hy
        · omega
        · have := h1 y hy; omega, h⟩
    · rename_i hx
      exact List.pairwise_cons.2 ⟨fun y hy => by
        rcases List.mem_cons.1 ((put_perm t r).mem_iff.1 hy) with rfl | hy
        · omega
        · exact h1 y hy, put_asc t r h2⟩
theorem asc_perm : ∀ {l l' : List Int}, Asc l → Asc l' → l.Perm l' → l = l'
  | [], l', _, _, hp => hp.nil_eq
  | x :: r, [], _, _, hp => absurd hp.length_eq (by simp)
  | x :: r, y :: s, h, h', hp => by
    obtain ⟨a1, a2⟩ := List.pairwise_cons.1 h
    obtain ⟨b1, b2⟩ := List.pairwise_cons.1 h'
    have e : x = y := by
      have m1 : x ∈ y :: s := hp.mem_iff.1 List.mem_cons_self
      have m2 : y ∈ x :: r := hp.mem_iff.2 List.mem_cons_self
      rcases List.mem_cons.1 m1 with e | m1
      · exact e
      · rcases List.mem_cons.1 m2 with e | m2
        · exact e.symm
        · have := a1 y m2
          have := b1 x m1
          omega
    subst e
    rw [asc_perm a2 b2 (List.Perm.cons_inv hp)]
end Go.Proofs.YtaaaocckfnlgdaaGreatDoorH
/- Plain: what is delivered stands in the order of the times. -/
namespace Go.Proofs.YtaaaocckfnlgdaaGreatDoorH
def srt (l : List Int) : List Int := l.foldr put []
theorem srt_perm : ∀ l, (srt l).Perm l
  | [] => List.Perm.refl _
  | x :: r => (put_perm x (srt r)).trans ((srt_perm r).cons x)
theorem srt_asc : ∀ l, Asc (srt l)
  | [] => List.Pairwise.nil
  | x :: r => put_asc x _ (srt_asc r)
theorem asc_rep (T : Int) (S : List Int) (h : Asc S) (hT : ∀ y ∈ S, T ≤ y) : ∀ n, Asc (List.replicate n T ++ S)
  | 0 => h
  | n + 1 => by
    show Asc (T :: (List.replicate n T ++ S))
    exact List.pairwise_cons.2 ⟨fun y hy => (List.mem_append.1 hy).elim (fun h => by rw [(List.mem_replicate.1 h).2]; exact Int.le_refl _) (hT y), asc_rep T S h hT n⟩
/-- The first ones taken are the first times; the rest waits. -/
theorem taken {S : List Int} {L l' l : List Mg} {T : Int} (hs : Asc S) (hp : (l.map (·.1)).Perm S) (hl : (L ++ l').Perm l) (hL : ∀ x ∈ L, x.1 = T) (hm : ∀ x ∈ l, T ≤ x.1) :
    S = List.replicate L.length T ++ S.drop L.length ∧ (l'.map (·.1)).Perm (S.drop L.length) ∧ L.length ≤ S.length := by
  have e1 : L.map (·.1) = List.replicate L.length T := by
    apply List.eq_replicate_iff.2
    refine ⟨by simp, fun y hy => ?_⟩
    obtain ⟨x, hx, rfl⟩ := List.mem_map.1 hy
    exact hL x hx
  have h1 : (List.replicate L.length T ++ srt (l'.map (·.1))).Perm S := by
    have h2 : (L.map (·.1) ++ l'.map (·.1)).Perm (l.map (·.1)) := by
      rw [← List.map_append]
      exact hl.map _
    rw [e1] at h2
    exact ((List.Perm.append_left _ (srt_perm _)).trans h2).trans hp
  have h3 : Asc (List.replicate L.length T ++ srt (l'.map (·.1))) := asc_rep T _ (srt_asc _) (fun y hy => by
    obtain ⟨x, hx, rfl⟩ := List.mem_map.1 ((srt_perm _).mem_iff.1 hy)
    exact hm x (hl.mem_iff.1 (List.mem_append_right _ hx))) _
  have e2 := asc_perm hs h3 h1.symm
  have e3 : S.drop L.length = srt (l'.map (·.1)) := by
    rw [e2]
    exact List.drop_left' (by simp)
  refine ⟨by rw [e3]; exact e2, by rw [e3]; exact (srt_perm _).symm, ?_⟩
  rw [e2, List.length_append, List.length_replicate]
  omega
theorem taken_at {S : List Int} {n : Nat} {T : Int} (h : S = List.replicate n T ++ S.drop n) (k : Nat) (hk : k < n) : S.getD k 0 = T := by
  rw [h, List.getD_eq_getElem?_getD, List.getElem?_append_left (by simpa using hk), List.getElem?_replicate, if_pos hk]
  rfl
/-! ### putting into place -/
def Ins (t : Int) (S out : List Int) (k : Nat) (done : Bool) : Prop := if done = true then put t S = out ++ S.drop k else out = S.take k ∧ put t S = S.take k ++ put t (S.drop k)
theorem ins_start (t : Int) (S : List Int) : Ins t S [] 0 false := by
  unfold Ins
  rw [if_neg (by decide)]
  exact ⟨rfl, rfl⟩
theorem ins_done {t : Int} {S out : List Int} {k : Nat} (h : Ins t S out k true) (hk : k < S.length) : Ins t S (out ++ [S.getD k 0]) (k + 1) true := by
  unfold Ins at h ⊢
  rw [if_pos rfl] at h ⊢
  rw [h, List.drop_eq_getElem_cons hk, List.append_assoc, List.getD_eq_getElem?_getD, List.getElem?_eq_getElem hk]
  rfl
theorem ins_pass {t : Int} {S out : List Int} {k : Nat} (h : Ins t S out k false) (hk : k < S.length) (ht : ¬ t < S.getD k 0) : Ins t S (out ++ [S.getD k 0]) (k + 1) false := by
  unfold Ins at h ⊢
  rw [if_neg (by decide)] at h ⊢
  obtain ⟨h1, h2⟩ := h
  have e : S.getD k 0 = S[k] := by rw [List.getD_eq_getElem?_getD, List.getElem?_eq_getElem hk]; rfl
  rw [e] at ht ⊢
  have e2 : S.take (k + 1) = S.take k ++ [S[k]] := List.take_succ_eq_append_getElem hk
  refine ⟨by rw [h1, e2], ?_⟩
  rw [h2, List.drop_eq_getElem_cons hk, put, if_neg ht, e2, List.append_assoc]
  rfl
theorem ins_here {t : Int} {S out : List Int} {k : Nat} (h : Ins t S out k false) (hk : k < S.length) (ht : t < S.getD k 0) : Ins t S ((out ++ [t]) ++ [S.getD k 0]) (k + 1) true := by
  unfold Ins at h ⊢
  rw [if_neg (by decide)] at h
  rw [if_pos rfl]
  obtain ⟨h1, h2⟩ := h
  have e : S.getD k 0 = S[k] := by rw [List.getD_eq_getElem?_getD, List.getElem?_eq_getElem hk]; rfl
  rw [e] at ht ⊢
  rw [h2, List.drop_eq_getElem_cons hk, put, if_pos ht, h1, List.append_assoc, List.append_assoc]
  rfl
theorem ins_end {t : Int} {S out : List Int} (h : Ins t S out S.length true) : out = put t S := by
  unfold Ins at h
  rw [if_pos rfl, List.drop_length, List.append_nil] at h
  exact h.symm
theorem ins_last {t : Int} {S out : List Int} (h : Ins t S out S.length false) : out ++ [t] = put t S := by
  unfold Ins at h
  rw [if_neg (by decide), List.drop_length, List.take_of_length_le (Nat.le_refl _)] at h
  obtain ⟨rfl, h2⟩ := h
  rw [h2]
  rfl
theorem put_len (t : Int) (S : List Int) : (put t S).length = S.length + 1 := (put_perm t S).length_eq
end Go.Proofs.YtaaaocckfnlgdaaGreatDoorH
