/- A region that draws its order, whose operations but the last ones only read, or call what makes new memory alone: walked once, in the order of the text; the last ones (a store, say) behind. -/
import Derived.Test.YtkmgfbhnioojhaaGreatPmW0
import Derived.StillTail
namespace Go.Proofs.YtkmgfbhnioojhaaGreat
set_option linter.unusedSimpArgs false
set_option linter.unusedVariables false
open Go.RowKit

section
variable {P : Program} {ops : Array Oper} {md : Region.Mode} {C : World → Prop} {n : Nat} {L : Array Bool → Act → Prop}

/-- The head's operations (those before n) come up in whatever order is picked, each quiet in the class; behind f of them: L. -/
def headQ (P : Program) (md : Region.Mode) (ops : Array Oper) (C : World → Prop) (n : Nat) (L : Array Bool → Act → Prop) : Nat → Array Bool → Act → Prop
  | 0, l, a => L l a
  | f + 1, l, a => Region.ready md ops l ≠ [] ∧ ∀ i ∈ Region.ready md ops l, i < n ∧ qOp P ops C i (headQ P md ops C n L f (l.setIfInBounds i true)) a

theorem headQ_any {Q' : Exit → Act → World → Prop} {g : Nat} (hL : ∀ l a w, C w → L l a → wpAny P md ops Q' g l a w) (f : Nat) :
    ∀ (l : Array Bool) (a : Act) (w : World), C w → headQ P md ops C n L f l a → wpAny P md ops Q' (f + g) l a w := by
  induction f with
  | zero => intro l a w hw h; rw [Nat.zero_add]; exact hL l a w hw h
  | succ f ih =>
    intro l a w hw h
    rw [Nat.succ_add]
    refine ⟨fun e => absurd e h.1, fun i hi => ?_⟩
    exact wpOp_of_qOp hw (fun a' w' hw' h' => ih _ a' w' hw' h') (h.2 i hi).2

/-- What is ready, and quiet, may be taken first. -/
theorem headQ_take {i : Nat} {o : Oper} {v : Value} (ho : ops[i]? = some o) (ns : Region.noSelect ops = true) (hs : Region.sinkB md ops n = true) (hc : Region.chainB md ops n = true) (hn : n < ops.size) (hin : i < n)
    (hend : ∀ l a, L l a → ∀ j ∈ Region.ready md ops l, n ≤ j) (f : Nat) :
    ∀ (l : Array Bool) (a : Act), HeadInv md ops n l →
      (∀ k ok, ops[k]? = some ok → k ≠ i → l.getD k true = false → (∀ e ∈ ok.after, Region.binds md e = true → e.on ≠ i) → o.apart ops ok = true) →
      i ∈ Region.ready md ops l → YieldsIn P ops C o v a → headQ P md ops C n L f (l.setIfInBounds i true) (a.put o.dst v) → headQ P md ops C n L (f + 1) l a := by
  have sel := Region.noSelect_spec ns
  induction f with
  | zero =>
    intro l a inv _ hi hy H
    refine ⟨List.ne_nil_of_mem hi, fun j hj => ?_⟩
    by_cases e : j = i
    · subst e; exact ⟨hin, hy.qOp ho H⟩
    · have h1 := hend _ _ H j (ready_mono hj e)
      exact absurd hj (tail_waits hs hc hn inv _ i rfl hin (mem_ready.1 hi).1 j h1)
  | succ f ih =>
    intro l a inv apart hi hy H
    have un := (mem_ready.1 hi).1
    refine ⟨List.ne_nil_of_mem hi, fun j hj => ?_⟩
    have hjn : j < n := Nat.lt_of_not_le fun h => tail_waits hs hc hn inv _ i rfl hin un j h hj
    refine ⟨hjn, ?_⟩
    by_cases e : j = i
    · subst e; exact hy.qOp ho H
    · obtain ⟨unj, oj, hoj, all⟩ := mem_ready.1 hj
      have waits : ∀ x ∈ oj.after, Region.binds md x = true → x.on ≠ i := by
        intro x hx hb hxi
        have := all x hx hb
        rw [hxi, getD_both un] at this
        cases this
      have h2 := qOp_put hoj (apart j oj hoj e unj waits) (fun cs b => sel i o cs b ho) (fun cs b => sel j oj cs b hoj) hy (H.2 j (ready_mono hj e)).2
      refine qOp_mono (fun a' h3 => ih _ a' (inv.set hj hjn) ?_ (ready_mono hi (Ne.symm e)) h3.1 ?_) h2
      · intro k ok hk hki unk hno
        refine apart k ok hk hki ?_ hno
        by_cases ejk : j = k
        · subst ejk; exact unj
        · rwa [getD_set_ne true ejk] at unk
      · rw [Array.setIfInBounds_comm _ _ e]
        exact h3.2

theorem headQ_lex {g : Nat} {K : Act → Prop} (ns : Region.noSelect ops = true) (hs : Region.sinkB md ops n = true) (hc : Region.chainB md ops n = true) (hn : n < ops.size) (l : List Oper) :
    ∀ (k : Nat) (m : Array Bool) (a : Act), (∀ j, j < l.length → l[j]? = ops[k + j]?) → k + l.length = n → HeadInv md ops n m → Region.lexHead md ops g l.length k m = true → wpQuiet P ops C K l a →
      headQ P md ops C n (fun m' a' => Region.seqB md ops g n m' = true ∧ K a') l.length m a := by
  induction l with
  | nil =>
    intro k m a _ hk _ hB h
    obtain rfl : k = n := by simpa using hk
    exact ⟨by simpa [Region.lexHead] using hB, h⟩
  | cons o l ih =>
    intro k m a hl hk inv hB h
    have ho : ops[k]? = some o := by simpa using (hl 0 (by simp)).symm
    simp only [List.length_cons, Region.lexHead, Bool.and_eq_true] at hB hk
    have hr : k ∈ Region.ready md ops m := by simpa using hB.1.1
    have hkn : k < n := by omega
    have hq : qOp P ops C k (wpQuiet P ops C K l) a := by unfold qOp; simp only [ho]; exact h
    obtain ⟨v, hy, hK⟩ := yieldsIn_of_qOp ho hq
    refine headQ_take ho ns hs hc hn hkn (fun m' a' hL => seqB_ready hL.1) l.length m a inv (Region.free_spec ho hB.1.2) hr hy ?_
    refine ih (k + 1) _ _ (fun j hj => ?_) (by omega) (inv.set hr hkn) hB.2 hK
    have := hl (j + 1) (by simp; omega)
    rw [List.getElem?_cons_succ] at this
    rw [this]
    congr 1; omega

theorem wp_region_tail {id : Nat} {Q : Exit → Act → World → Prop} {a : Act} {w : World} {l : List Oper} (n : Nat) (hm : P.follows .mixedOrders = true) (hB : Region.lexTailB .any l.toArray n = true) (hC : C w.drew)
    (h : wpQuiet P l.toArray C (fun a' => ∀ w', C w' → wpList P l.toArray Q (l.drop n) a' w') (l.take n) a) : (Code.region id l.toArray true).wp P Q a w := by
  simp only [Region.lexTailB, Bool.and_eq_true, decide_eq_true_eq] at hB
  obtain ⟨⟨⟨⟨ns, hn⟩, hs⟩, hc⟩, hx⟩ := hB
  have hsz : l.toArray.size = l.length := by simp
  have hn2 : n < l.length := by omega
  have e1 : (l.take n).length = n := by simp; omega
  have e2 : (l.drop n).length = l.toArray.size - n := by simp
  have H := headQ_lex (P := P) (md := .any) (g := l.toArray.size - n) ns hs hc hn (l.take n) 0 (Array.replicate l.toArray.size false) a
    (fun j hj => by rw [e1] at hj; simp [hj]) (by omega)
    ⟨by simp, fun j oj _ hl => (by rw [getD_replicate_false] at hl; cases hl), fun t _ ht => getD_in (by simpa using ht) (getD_replicate_false _ _)⟩ (by rw [e1]; exact hx) h
  refine wp_region_any hm ?_
  have R := headQ_any (Q' := Q) (g := l.toArray.size - n) (fun m a' w' hw' hL => by
    have := wpAny_of_seq (md := .any) (Q' := Q) (l.drop n) n m a' w' (fun j => by simp [List.getElem?_drop]) (by rw [e2]; exact hL.1) (hL.2 w' hw')
    rwa [e2] at this) _ _ _ _ hC H
  rw [e1, show n + (l.toArray.size - n) = l.toArray.size by omega] at R
  exact R
end

/-- In worlds that come later. -/
theorem wp_region_tail_later {id : Nat} {Q : Exit → Act → World → Prop} {a : Act} {w : World} {l : List Oper} (n : Nat) (hm : Tryz.prog.follows .mixedOrders = true) (hB : Region.lexTailB .any l.toArray n = true)
    (h : wpQuiet Tryz.prog l.toArray (fun w' => ∃ n : Later w, w' = n.val) (fun a' => ∀ w', (∃ n : Later w, w' = n.val) → wpList Tryz.prog l.toArray Q (l.drop n) a' w') (l.take n) a) : (Code.region id l.toArray true).wp Tryz.prog Q a w :=
  wp_region_tail (C := fun w' => ∃ n : Later w, w' = n.val) n hm hB ⟨⟨_, (Below.refl _ w).drew⟩, rfl⟩ h
end Go.Proofs.YtkmgfbhnioojhaaGreat
