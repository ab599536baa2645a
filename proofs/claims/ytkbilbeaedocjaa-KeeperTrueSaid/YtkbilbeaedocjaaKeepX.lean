/-
  What is proved: what spans tell that clocks fulfil: the difference of two clocks lies within them, and they are at most as wide as the width.
-/
import Derived.Test.YtkbilbeaedocjaaKeepR
import Derived.Test.YtkbilbeaedocjaaKeepK
import Derived.Test.YtkbilbeaedocjaaModelM
namespace Go.Proofs.Ytkbilbeaedocjaa
open Go Go.Proofs.Ytkbilbeaedocjaa.Wh
set_option maxRecDepth 100000

theorem spans_hold1 {n : Nat} (hn : n ≤ 8) {S W R : Tb} {q : Nat → Int} (hW : Half n 0 S W) (hR : Fine n 1074790400 R) (hu : Under n W R) (hq : Feas n q R) :
    ∀ c, c ≤ n → (∀ j, j < c → noClash n R (j + 1) = true) ∧ Fine n (dbl c) (clF n R c) ∧ Under n (itr (fun c F => phs hmin n c F) c W) (clF n R c) ∧ Feas n q (clF n R c)
  | 0, _ => ⟨fun j hj => absurd hj (by omega), hR, hu, hq⟩
  | c + 1, hc => by
    obtain ⟨g1, g2, g3, g5⟩ := spans_hold1 hn hW hR hu hq c (by omega)
    obtain ⟨b1, b2⟩ := dbl_ok (c := c) (by omega)
    have k5 := g5.next g2 b2 (c := c) (by omega)
    have hd : ∀ x, x < n → 0 ≤ phs hfar n c (clF n R c) x x := fun x hx => by have := k5 x x hx hx; simpa using this
    refine ⟨fun j hj => ?_, g2.next b1 b2 (by omega) hd, g3.next g2 b2 (by omega) (hW.all c (by omega)), k5⟩
    by_cases e : j = c
    · subst e; exact noClash_iff.2 hd
    · exact g1 j (by omega)
/-- What is compared by spans is compared by steps. -/
def Over (n : Nat) (B : Int) (W F : Tb) : Prop := ∀ x y, x < n → y < n → F x y < 1099511627776 → W x y ≤ B
theorem Over.next {n c : Nat} {B B' : Int} {S W F : Tb} (hu : Over n B' W F) (h0 : 0 ≤ B') (h : Fine n B F) (hB : 2 * B < 1099511627776) (hc : c < n) (hw : Half n c S W) : Over n (2 * B') (phs hmin n c W) (phs hfar n c F) := by
  intro x y hx hy
  rw [half_val hc hw hx hy, h.val hB hc hx hy]
  have u1 := hu x y hx hy; have u2 := hu x c hx hc; have u3 := hu c y hc hy
  intro hlt
  split at hlt
  · rename_i q
    have u2 := u2 q.1
    have u3 := u3 q.2.1
    split <;> omega
  · have u1 := u1 hlt
    split <;> omega
def dbm : Nat → Int
  | 0 => 1048576
  | c + 1 => 2 * dbm c
theorem dbm_pos : ∀ c, 0 ≤ dbm c
  | 0 => by unfold dbm; omega
  | c + 1 => by have := dbm_pos c; unfold dbm; omega
theorem dbm_lt {c : Nat} (h : c ≤ 8) : dbm c < 1099511627776 := by
  have : c = 0 ∨ c = 1 ∨ c = 2 ∨ c = 3 ∨ c = 4 ∨ c = 5 ∨ c = 6 ∨ c = 7 ∨ c = 8 := by omega
  rcases this with rfl | rfl | rfl | rfl | rfl | rfl | rfl | rfl | rfl <;> decide
theorem spans_over {n : Nat} (hn : n ≤ 8) {S W R : Tb} {q : Nat → Int} (hW : Half n 0 S W) (hR : Fine n 1074790400 R) (hu : Under n W R) (hq : Feas n q R) (ho : Over n 1048576 W R) :
    ∀ c, c ≤ n → Over n (dbm c) (itr (fun c F => phs hmin n c F) c W) (clF n R c)
  | 0, _ => ho
  | c + 1, hc => by
    have g := spans_over hn hW hR hu hq ho c (by omega)
    obtain ⟨_, g2, _, _⟩ := spans_hold1 hn hW hR hu hq c (by omega)
    obtain ⟨b1, b2⟩ := dbl_ok (c := c) (by omega)
    exact g.next (dbm_pos c) g2 b2 (by omega) (hW.all c (by omega))
theorem tabR_at {l : List ES} {n : Nat} (hl : ∀ e ∈ l, OkE n e) : ∀ x y, tabR l x y < 1099511627776 → x = y ∨ ∃ e ∈ l, link e.1 x y := by
  unfold tabR
  refine fold_ind hl (I := fun F => ∀ x y, F x y < 1099511627776 → x = y ∨ ∃ e ∈ l, link e.1 x y) (fun e he F hk hF x y h => ?_) fun x y h => ?_
  · rw [spR_val hk] at h
    obtain ⟨u, hu, _⟩ := hk.a
    obtain ⟨v, hv, _⟩ := hk.b
    split at h
    · rename_i q
      refine .inr ⟨e, he, .inl ?_⟩
      unfold eA eB at q; omega
    · split at h
      · rename_i q
        refine .inr ⟨e, he, .inr ?_⟩
        unfold eA eB at q; omega
      · exact hF x y h
  · rw [diag_far] at h
    split at h
    · rename_i e; exact .inl e
    · omega
/-- Spans that a potential fulfils. -/
theorem ans_true {l : List ES} {n : Nat} (hn : n ≤ 8) {c : Int} {cs : List S_api_Offer} (hl : ∀ e ∈ l, OkE n e) (hcs : ∀ o ∈ cs, okB (n : Int) c o = true) (hm : ∀ o ∈ cs, ∃ e ∈ l, e.1 = o) (hm2 : ∀ e ∈ l, e.1 ∈ cs) {q : Nat → Int}
    (h0 : ∀ x y, x < n → y < n → q y - q x ≤ 1099511627776) (h1 : ∀ e ∈ l, q (eB e) - q (eA e) ≤ e.2.2 ∧ e.2.1 ≤ q (eB e) - q (eA e)) {a b : Nat} (ha : a < n) (hb : b < n) :
    ∃ lo hi, ansT n (tabT l) a b = (if 1099511627776 ≤ Wd n cs a b then ((0, 0), false, 0) else ((lo, hi), true, 0)) ∧ (Wd n cs a b < 1099511627776 → lo ≤ q b - q a ∧ q b - q a ≤ hi ∧ hi - lo ≤ Wd n cs a b ∧ -1099511627776 < lo ∧ hi < 1099511627776) := by
  have hs := st_steps hcs
  have hcl : Half n 0 (Stp cs) (diag (Stp cs)) := by
    refine ⟨fun a ha => ?_, fun a b ha hb => ?_, fun a b ha hb => ?_, fun a b ha hb => ?_, fun a b k _ _ hk => absurd hk (by omega), fun a b ha hb => ?_⟩
    · unfold diag; rw [if_pos rfl]
    · unfold diag; have := hs.pos a b; split <;> omega
    · unfold diag; have := hs.far a b; unfold Wh.far at *; split <;> omega
    · unfold diag; have := hs.pos a b; split <;> omega
    · unfold diag
      split
      · rename_i q; subst q; intro _; exact ⟨0, .nil ha⟩
      · intro q; exact ⟨1, .one ha hb q⟩
  have hov : Over n 1048576 (diag (Stp cs)) (tabR l) := fun x y hx hy hlt => by
    unfold diag
    rcases tabR_at hl x y hlt with e | ⟨e, he, hk⟩
    · rw [if_pos e]; omega
    · have := hs.le e.1 (hm2 e he) x y hk
      have := (hl e he).w1
      split <;> omega
  obtain ⟨g1, g2, g3, g5⟩ := spans_hold1 hn hcl (tabR_fine hl) (tabR_under hl hcs hm) (tabR_feas hl h0 h1) n (Nat.le_refl _)
  have g6 := spans_over hn hcl (tabR_fine hl) (tabR_under hl hcs hm) (tabR_feas hl h0 h1) hov n (Nat.le_refl _)
  have e1 : Wd n cs = itr (fun c F => phs hmin n c F) n (diag (Stp cs)) := by unfold Wd; rw [fw_cls]; rfl
  rw [← e1] at g3 g6
  have f1 := g5 a b ha hb
  have f2 := g5 b a hb ha
  have l1 := g2.lo b a hb ha
  have l2 := g2.lo a b ha hb
  have o1 := g6 a b ha hb
  have d8 := dbm_lt hn
  have u := g3 a b ha hb
  refine ⟨-clF n (tabR l) n b a, clF n (tabR l) n a b, ?_, fun hw => ?_⟩
  · rw [← ans_same hn hl ha hb]
    unfold ansR
    rw [if_pos (List.all_eq_true.2 fun j hj => g1 j (List.mem_range.1 hj))]
    by_cases hw : 1099511627776 ≤ Wd n cs a b
    · rw [if_pos hw, if_pos (by omega)]
    · obtain ⟨u1, u2, u3⟩ := u (by omega)
      have : 2 * dbl n < 1099511627776 ∨ n = 8 := by
        by_cases e : n = 8
        · exact .inr e
        · exact .inl (dbl_ok (c := n) (by omega)).2
      rw [if_neg hw, if_neg (by omega), wr_id ?_ ?_, Int.zero_sub]
      · omega
      · have : dbl n ≤ 1099511627776 * 2 := by
          have : n = 0 ∨ n = 1 ∨ n = 2 ∨ n = 3 ∨ n = 4 ∨ n = 5 ∨ n = 6 ∨ n = 7 ∨ n = 8 := by omega
          rcases this with rfl | rfl | rfl | rfl | rfl | rfl | rfl | rfl | rfl <;> decide
        omega
  · obtain ⟨u1, u2, u3⟩ := u hw
    omega
/-! ### what is shown of clocks -/
def clk (clocks : List Int) (c : Nat) : Int := (clocks[c]?).getD 0
structure TrueSp (q : Nat → Int) (e : ES) : Prop where
  hi : e.2.2 = e.2.1 + e.1.2.2.2
  up : q (eB e) - q (eA e) ≤ e.2.2
  lo : e.2.1 ≤ q (eB e) - q (eA e)
  b0 : -1073741824 ≤ e.2.1
  b1 : e.2.1 ≤ 1073741824
theorem f67_eq {n : Nat} {c : Int} {clocks off : List Int} (hn : n ≤ clocks.length) (hcl : ∀ x ∈ clocks, -16777216 ≤ x ∧ x ≤ 16777216) (ho : off ≠ []) (hlo : off.length ≤ 100) {o : S_api_Offer} (hk : okB (n : Int) c o = true) {t : Nat} (ht : t ≤ 1000) :
    ∃ sp, M.f67 o off (t : Int) clocks = some (sp, ((t + 1 : Nat) : Int)) ∧ TrueSp (clk clocks) (o, sp) := by
  have hpos : 0 < off.length := List.length_pos_iff.2 ho
  obtain ⟨⟨x, hx, hxn⟩, ⟨y, hy, hyn⟩, _⟩ := okC_of hk
  have hw : 0 ≤ o.2.2.2 ∧ o.2.2.2 ≤ 1048576 := by unfold okB at hk; simp at hk; omega
  have hrem : rem (t : Int) (off.length : Int) = some ((t % off.length : Nat) : Int) := by
    unfold rem
    rw [if_neg (by omega), Int.tmod_eq_emod_of_nonneg (by omega)]
    rfl
  have hlt := Nat.mod_lt t hpos
  have hget : ∀ k, k < n → idx clocks (k : Int) = some (clk clocks k) ∧ -16777216 ≤ clk clocks k ∧ clk clocks k ≤ 16777216 := fun k hk => by
    have h := List.getElem?_eq_getElem (show k < clocks.length by omega)
    have e : clk clocks k = clocks[k]'(by omega) := by unfold clk; rw [h]; rfl
    rw [idx_nat, h, e]
    exact ⟨rfl, hcl _ (List.getElem_mem _)⟩
  obtain ⟨hx1, hx2⟩ := hget x hxn
  obtain ⟨hy1, hy2⟩ := hget y hyn
  unfold M.f67
  rw [hrem]
  simp only [Option.bind_eq_bind, Option.bind_some, idx_nat off, List.getElem?_eq_getElem hlt, hx, hy, hx1, hy1]
  generalize hby : imin (imax off[t % off.length] 0) o.2.2.2 = by_
  have hb : 0 ≤ by_ ∧ by_ ≤ o.2.2.2 := by
    rw [← hby]; unfold imin imax
    split <;> split <;> omega
  rw [wr_id (show -9223372036854775808 ≤ clk clocks y - clk clocks x by omega) (by omega), wr_id (show -9223372036854775808 ≤ clk clocks y - clk clocks x - by_ by omega) (by omega), wr_id (show -9223372036854775808 ≤ clk clocks y - clk clocks x - by_ + o.2.2.2 by omega) (by omega), wr_id (by omega) (by omega)]
  have ea : ∀ sp, eA (o, sp) = x := fun sp => by show o.1.toNat = x; omega
  have eb : ∀ sp, eB (o, sp) = y := fun sp => by show o.2.1.toNat = y; omega
  refine ⟨_, rfl, ⟨rfl, ?_, ?_, ?_, ?_⟩⟩
  · rw [ea, eb]; show _ ≤ clk clocks y - clk clocks x - by_ + o.2.2.2; omega
  · rw [ea, eb]; show clk clocks y - clk clocks x - by_ ≤ _; omega
  · show _ ≤ clk clocks y - clk clocks x - by_; omega
  · show clk clocks y - clk clocks x - by_ ≤ _; omega
theorem show_loop {n : Nat} {c : Int} {clocks off : List Int} (hn : n ≤ clocks.length) (hcl : ∀ x ∈ clocks, -16777216 ≤ x ∧ x ≤ 16777216) (ho : off ≠ []) (hlo : off.length ≤ 100) {cs : List S_api_Offer} (hk : ∀ o ∈ cs, okB (n : Int) c o = true) (hcs : cs.length ≤ 100) {t : Nat} (ht : t ≤ 100)
    {f : Int → Int × List S_api_Span → Option (Int × List S_api_Span)} (hf : ∀ (j : Nat) (o : S_api_Offer) (s : Int × List S_api_Span), cs[j]? = some o → f (j : Int) s = (M.f67 o off s.1 clocks >>= fun z => app s.2 [z.1] >>= fun z2 => some (z.2, z2))) :
    ∃ l, forS 0 (cs.length : Int) ((t : Int), ([] : List S_api_Span)) f = some (((t + cs.length : Nat) : Int), l) ∧ l.length = cs.length ∧ ∀ e ∈ cs.zip l, TrueSp (clk clocks) e := by
  obtain ⟨⟨u, l⟩, h1, h2, h3, h4⟩ := forS_inv (N := cs.length) (s := ((t : Int), ([] : List S_api_Span))) (f := f) (fun j st => st.1 = ((t + j : Nat) : Int) ∧ st.2.length = j ∧ ∀ e ∈ (cs.take j).zip st.2, TrueSp (clk clocks) e) (by omega) ⟨rfl, rfl, by simp⟩ fun j st hj ⟨h1, h2, h3⟩ => by
    obtain ⟨u, l⟩ := st
    have h1 : u = ((t + j : Nat) : Int) := h1
    have h2 : l.length = j := h2
    have h3 : ∀ e ∈ (cs.take j).zip l, TrueSp (clk clocks) e := h3
    subst h1
    have hg := List.getElem?_eq_getElem hj
    obtain ⟨sp, k1, k2⟩ := f67_eq hn hcl ho hlo (hk cs[j] (List.getElem_mem hj)) (t := t + j) (by omega)
    refine ⟨(((t + j + 1 : Nat) : Int), l ++ [sp]), ?_, rfl, by simp [h2], fun e he => ?_⟩
    · rw [hf j _ _ hg, k1]
      simp only [Option.bind_eq_bind, Option.bind_some]
      rw [app_one (by omega)]
      rfl
    · rw [List.take_add_one, hg] at he
      show TrueSp _ e
      rw [Option.toList_some, List.zip_append (by rw [List.length_take]; omega)] at he
      rcases List.mem_append.1 he with he | he
      · exact h3 e he
      · simp at he; subst he; exact k2
  exact ⟨l, by rw [h1, show u = _ from h2], h3, by rw [List.take_length] at h4; exact h4⟩
theorem picks_get {of : List S_api_Offer} {l : List Nat} (hl : ∀ i ∈ l, i < of.length) {j i : Nat} {o : S_api_Offer} (h : l[j]? = some i) (ho : of[i]? = some o) : (picks of l)[j]? = some o := by
  have hj : j < l.length := (List.getElem?_eq_some_iff.1 h).1
  have e := picks_take (of := of) h ho
  have h1 := picks_length (of := of) (l := l.take j) fun i hi => hl i (List.mem_of_mem_take hi)
  rw [List.length_take, Nat.min_eq_left (by omega)] at h1
  have e2 : picks of l = picks of (l.take (j + 1)) ++ picks of (l.drop (j + 1)) := by
    unfold picks; rw [← List.filterMap_append, List.take_append_drop]
  rw [e2, e, List.append_assoc, List.getElem?_append_right (by omega), h1]
  simp
end Go.Proofs.Ytkbilbeaedocjaa
