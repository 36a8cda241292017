/- A region that draws its order, whose last operations (a store into a cell that the region loads, say) wait for all others: the others are walked under a condition on the world, the loads first; the last ones behind. -/
import Derived.Test.YtkmgfbhnioojhaaGreatPmTail
import Derived.Deep.RegionHeld3
namespace Go.Proofs.YtkmgfbhnioojhaaGreat
set_option linter.unusedSimpArgs false
set_option linter.unusedVariables false
open Go.RowKit

section
variable {P : Program} {ops : Array Oper} {md : Region.Mode} {Q : Exit → Act → World → Prop} {S : World → Prop} {n : Nat} {L : Array Bool → Act → World → Prop}

/-- The head's operations (those before n) come up in whatever order is picked, S holding behind each; behind f of them: L. -/
def wpAnyT (P : Program) (md : Region.Mode) (ops : Array Oper) (Q : Exit → Act → World → Prop) (S : World → Prop) (n : Nat) (L : Array Bool → Act → World → Prop) : Nat → Array Bool → Act → World → Prop
  | 0, l, a, w => L l a w
  | f + 1, l, a, w => Region.ready md ops l ≠ [] ∧ ∀ i ∈ Region.ready md ops l, i < n ∧ wpOp P ops Q i (fun a' w' => S w' ∧ wpAnyT P md ops Q S n L f (l.setIfInBounds i true) a' w') a w

theorem wpAny_of_T {g : Nat} (hL : ∀ l a w, L l a w → wpAny P md ops Q g l a w) (f : Nat) :
    ∀ (l : Array Bool) (a : Act) (w : World), wpAnyT P md ops Q S n L f l a w → wpAny P md ops Q (f + g) l a w := by
  induction f with
  | zero => intro l a w h; rw [Nat.zero_add]; exact hL l a w h
  | succ f ih =>
    intro l a w h
    rw [Nat.succ_add]
    exact ⟨fun e => absurd e h.1, fun i hi => wpOp_mono (fun a' w' h' => ih _ a' w' h'.2) (h.2 i hi).2⟩

/-- What is ready, and yields wherever S holds, may be taken first. -/
theorem anyT_first {i : Nat} {o : Oper} {v : Value} (ho : ops[i]? = some o) (ns : Region.noSelect ops = true) (hs : Region.sinkB md ops n = true) (hc : Region.chainB md ops n = true) (hn : n < ops.size) (hin : i < n)
    (hQ : ∀ c a w, Q (.panic c) (a.put o.dst v) w → Q (.panic c) a w) (hend : ∀ l a w, L l a w → ∀ j ∈ Region.ready md ops l, n ≤ j) (f : Nat) :
    ∀ (l : Array Bool) (a : Act) (w : World), HeadInv md ops n l →
      (∀ k ok, ops[k]? = some ok → k ≠ i → l.getD k true = false → (∀ e ∈ ok.after, Region.binds md e = true → e.on ≠ i) → o.apart ops ok = true) →
      i ∈ Region.ready md ops l → YieldsIf P ops S o v a → S w → wpAnyT P md ops Q S n L f (l.setIfInBounds i true) (a.put o.dst v) w → wpAnyT P md ops Q S n L (f + 1) l a w := by
  have sel := Region.noSelect_spec ns
  induction f with
  | zero =>
    intro l a w inv _ hi hy hS H
    refine ⟨List.ne_nil_of_mem hi, fun j hj => ?_⟩
    by_cases e : j = i
    · subst e; exact ⟨hin, hy.wpOp ho hS ⟨hS, H⟩⟩
    · have h1 := hend _ _ _ H j (ready_mono hj e)
      exact absurd hj (tail_waits hs hc hn inv _ i rfl hin (mem_ready.1 hi).1 j h1)
  | succ f ih =>
    intro l a w inv apart hi hy hS H
    have un := (mem_ready.1 hi).1
    refine ⟨List.ne_nil_of_mem hi, fun j hj => ?_⟩
    have hjn : j < n := Nat.lt_of_not_le fun h => tail_waits hs hc hn inv _ i rfl hin un j h hj
    refine ⟨hjn, ?_⟩
    by_cases e : j = i
    · subst e; exact hy.wpOp ho hS ⟨hS, H⟩
    · obtain ⟨unj, oj, hoj, all⟩ := mem_ready.1 hj
      have waits : ∀ x ∈ oj.after, Region.binds md x = true → x.on ≠ i := by
        intro x hx hb hxi
        have := all x hx hb
        rw [hxi, getD_both un] at this
        cases this
      have h2 := wpOp_putIf hoj (apart j oj hoj e unj waits) (fun cs b => sel i o cs b ho) (fun cs b => sel j oj cs b hoj) hQ hy (H.2 j (ready_mono hj e)).2
      refine wpOp_mono (fun a' w' h3 => ⟨h3.2.1, ih _ a' w' (inv.set hj hjn) ?_ (ready_mono hi (Ne.symm e)) h3.1 h3.2.1 ?_⟩) h2
      · intro k ok hk hki unk hno
        refine apart k ok hk hki ?_ hno
        by_cases ejk : j = k
        · subst ejk; exact unj
        · rwa [getD_set_ne true ejk] at unk
      · rw [Array.setIfInBounds_comm _ _ e]
        exact h3.2.2

/-- The walk's own form: the list of what has come up bears its invariant. -/
def AnyT (P : Program) (ops : Array Oper) (Q : Exit → Act → World → Prop) (S : World → Prop) (n f : Nat) (l : Array Bool) (a : Act) (w : World) : Prop :=
  HeadInv .any ops n l → wpAnyT P .any ops Q S n (fun l' a' w' => Region.seqB .any ops (ops.size - n) n l' = true ∧ wpList P ops Q (ops.toList.drop n) a' w') f l a w

def tailB (ops : Array Oper) (n : Nat) : Bool := Region.noSelect ops && decide (n < ops.size) && Region.sinkB .any ops n && Region.chainB .any ops n

theorem AnyT.take {os : List Oper} {i : Nat} {o : Oper} {v : Value} {f : Nat} {l : Array Bool} {a : Act} {w : World} (ho : os[i]? = some o) (hB : tailB os.toArray n = true) (hin : decide (i < n) = true)
    (hf : Region.free .any os.toArray l i = true) (hr : (Region.ready .any os.toArray l).contains i = true) (hQ : ∀ c a w, Q (.panic c) (a.put o.dst v) w → Q (.panic c) a w) (hy : YieldsIf P os.toArray S o v a) (hS : S w)
    (h : AnyT P os.toArray Q S n f (l.setIfInBounds i true) (a.put o.dst v) w) : AnyT P os.toArray Q S n (f + 1) l a w := fun inv => by
  simp only [tailB, Bool.and_eq_true, decide_eq_true_eq] at hB hin
  obtain ⟨⟨⟨ns, hn⟩, hs⟩, hc⟩ := hB
  have hi : i ∈ Region.ready .any os.toArray l := by simpa using hr
  exact anyT_first (by simpa using ho) ns hs hc hn hin hQ (fun l a w hL => seqB_ready hL.1) f l a w inv (Region.free_spec (by simpa using ho) hf) hi hy hS (h (inv.set hi hin))

theorem AnyT.one {os : List Oper} {i : Nat} {o : Oper} {f : Nat} {l : Array Bool} {a : Act} {w : World} (ho : os[i]? = some o) (hr : Region.ready .any os.toArray l = [i]) (hin : decide (i < n) = true)
    (h : ∀ K' : Act → World → Prop, Shut (∀ a w, S w → (S w → AnyT P os.toArray Q S n f (l.setIfInBounds i true) a w) → K' a w) → if Region.wanted o (yielded os.toArray a.tmps) = true then Oper.wp P o a w K' Q else K' (a.put o.dst undef) w) :
    AnyT P os.toArray Q S n (f + 1) l a w := fun inv => by
  refine ⟨by rw [hr]; simp, fun j hj => ?_⟩
  have hj0 := hj
  rw [hr, List.mem_singleton] at hj0
  subst hj0
  rw [decide_eq_true_eq] at hin
  refine ⟨hin, wpOp_step (by simpa using ho) (fun K' hK => h K' (fun a w hS hW => hK a w ⟨hS, hW hS (inv.set hj hin)⟩))⟩

theorem AnyT.done {os : List Oper} {l : Array Bool} {a : Act} {w : World} (hB : Region.seqB .any os.toArray (os.toArray.size - n) n l = true) (h : wpList P os.toArray Q (os.drop n) a w) : AnyT P os.toArray Q S n 0 l a w := fun _ => ⟨hB, h⟩

/-- The beginning. -/
theorem wp_region_held_tail {id : Nat} {Q : Exit → Act → World → Prop} {a : Act} {w : World} (n : Nat) (S : World → Prop) (hm : P.follows .mixedOrders = true) (hB : tailB ops n = true) (hS : S w.drew)
    (h : S w.drew → AnyT P ops Q S n n (Array.replicate ops.size false) a w.drew) : (Code.region id ops true).wp P Q a w := by
  have hB2 := hB
  simp only [tailB, Bool.and_eq_true, decide_eq_true_eq] at hB2
  obtain ⟨⟨⟨ns, hn⟩, hs⟩, hc⟩ := hB2
  refine wp_region_any hm ?_
  have H := h hS ⟨by simp, fun j oj _ hl => (by rw [getD_replicate_false] at hl; cases hl), fun t _ ht => getD_in (by simp; omega) (getD_replicate_false _ _)⟩
  have R := wpAny_of_T (g := ops.size - n) (fun m' a' w' hL => by
    have := wpAny_of_seq (md := .any) (Q' := Q) (ops.toList.drop n) n m' a' w' (fun j => by simp [List.getElem?_drop]) (by simpa using hL.1) hL.2
    simpa using this) _ _ _ _ H
  rw [show n + (ops.size - n) = ops.size by omega] at R
  exact R
end
end Go.Proofs.YtkmgfbhnioojhaaGreat
