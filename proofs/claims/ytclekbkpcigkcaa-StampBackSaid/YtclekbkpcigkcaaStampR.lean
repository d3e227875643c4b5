/- Dates: what is written is read as it was. -/
import Derived.Test.YtclekbkpcigkcaaDateE
namespace Go.Proofs.Ytclekbkpcigkcaa.StampR
open Go.RowKit Mem Abs TreeW WordP WordS HostP HostO HostA PathT StampP StampA StampB StampC StampD StampE StampF StampG StampH StampI StampJ StampK StampL StampM StampN StampO Lead ClockP ClockW ClockO ClockR ClockM ClockT ClockI ClockV

def ns (l : List UInt8) : Bool := l.all fun c => !sepB c
theorem words_one (cur : List UInt8) (c : UInt8) (r : List UInt8) : wordsG cur (c :: r) = if sepB c then (if cur = [] then wordsG [] r else cur :: wordsG [] r) else wordsG (cur ++ [c]) r := rfl
theorem words_in : ∀ (l cur r : List UInt8), ns l = true → wordsG cur (l ++ r) = wordsG (cur ++ l) r
  | [], cur, r, _ => by rw [List.append_nil]; rfl
  | c :: l, cur, r, h => by
    have h2 : sepB c = false ∧ ns l = true := by unfold ns at h ⊢; simpa using h
    show wordsG cur (c :: (l ++ r)) = _
    rw [words_one, if_neg (by simp [h2.1]), words_in l (cur ++ [c]) r h2.2, List.append_assoc]; rfl
theorem words_w {l r : List UInt8} {c : UInt8} (h : ns l = true) (h0 : l ≠ []) (hc : sepB c = true) : wordsG [] (l ++ c :: r) = l :: wordsG [] r := by
  rw [words_in l [] _ h, List.nil_append, words_one, if_pos hc, if_neg h0]
theorem words_s {r : List UInt8} {c : UInt8} (hc : sepB c = true) : wordsG [] (c :: r) = wordsG [] r := by rw [words_one, if_pos hc, if_pos rfl]
theorem dgt_digB (m : Nat) : digB (dgt m) = true := by
  unfold digB
  rw [dgt_nat]
  simp
  omega
theorem dgt_sep (m : Nat) : sepB (dgt m) = false := by
  unfold sepB sepI
  rw [dgt_nat]
  simp
  omega
theorem dgt_fold (m : Nat) : foldB (dgt m) = dgt m := by
  unfold foldB
  rw [dgt_nat, if_neg (by omega)]
theorem ns_two (m : Nat) : ns (two m) = true := by simp [ns, two, dgt_sep]
theorem ns_four (m : Nat) : ns (four m) = true := by simp [ns, four, dgt_sep]
def clk (h mi s : Nat) : List UInt8 := two h ++ 58 :: (two mi ++ 58 :: two s)
theorem ns_clk (h mi s : Nat) : ns (clk h mi s) = true := by
  have : sepB 58 = false := rfl
  simp [ns, clk, two, dgt_sep, this]
/-- A moment's text, its words laid open. -/
def textC (W M G x : List UInt8) (y d h mi s : Nat) : List UInt8 := W ++ 44 :: 32 :: (two d ++ 32 :: (M ++ 32 :: (four y ++ 32 :: (clk h mi s ++ 32 :: (G ++ x)))))
theorem words_text {W M G x : List UInt8} {X : List (List UInt8)} {y d h mi s : Nat} (hW : ns W = true) (hW0 : W ≠ []) (hM : ns M = true) (hM0 : M ≠ []) (hG : ns G = true) (hG0 : G ≠ []) (hx : ∀ cur, cur ≠ [] → wordsG cur x = cur :: X) : wordsF (textC W M G x y d h mi s) = [W, two d, M, four y, clk h mi s, G] ++ X := by
  have s32 : sepB 32 = true := rfl
  have s44 : sepB 44 = true := rfl
  unfold wordsF textC
  rw [words_w hW hW0 s44, words_s s32, words_w (ns_two d) (by simp [two]) s32, words_w hM hM0 s32, words_w (ns_four y) (by simp [four]) s32, words_w (ns_clk h mi s) (by simp [clk, two]) s32, words_in G [] _ hG, List.nil_append, hx G hG0]
  rfl
theorem lead_two {m : Nat} {r : List UInt8} (hr : r = [] ∨ ∃ b q, r = b :: q ∧ digB b = false) : lead (two m ++ r) = two m := by
  unfold lead two
  rcases hr with rfl | ⟨b, q, rfl, hb⟩
  · simp [List.takeWhile, dgt_digB]
  · simp [List.takeWhile, dgt_digB, hb]
theorem value_two {m : Nat} (h : m < 100) : value (two m) = m := by
  show 10 * (10 * 0 + ((dgt (m / 10)).toNat - 48)) + ((dgt m).toNat - 48) = m
  rw [dgt_nat, dgt_nat]
  omega
theorem value_four {m : Nat} (h : m < 10000) : value (four m) = m := by
  show 10 * (10 * (10 * (10 * 0 + ((dgt (m / 10 / 10 / 10)).toNat - 48)) + ((dgt (m / 10 / 10)).toNat - 48)) + ((dgt (m / 10)).toNat - 48)) + ((dgt m).toNat - 48) = m
  rw [dgt_nat, dgt_nat, dgt_nat, dgt_nat]
  omega
theorem digF_two {m : Nat} {r : List UInt8} (h : m < 100) (hr : r = [] ∨ ∃ b q, r = b :: q ∧ digB b = false) : digF (two m ++ r) 1 2 = ((m : Int), r, true) := by
  unfold digF
  rw [lead_two hr, value_two h]
  rfl
theorem cut_58 (r : List UInt8) : cutP (58 :: r) [58] = (r, true) := by
  rcases cut58 (58 :: r) with ⟨h1, q, h2, h3⟩ | ⟨h1, h2 | ⟨b, q, h2, h3⟩⟩
  · cases h2; exact h3
  · cases h2
  · cases h2; exact absurd rfl h3
theorem day_clk {h mi s : Nat} (h1 : h < 100) (h2 : mi < 100) (h3 : s < 100) : dayTimeF (clk h mi s) 0 0 0 = (true, (h : Int), (mi : Int), (s : Int)) := by
  have d58 : digB 58 = false := rfl
  have e1 : digF (clk h mi s) 1 2 = ((h : Int), 58 :: (two mi ++ 58 :: two s), true) := digF_two h1 (.inr ⟨_, _, rfl, d58⟩)
  have e2 : digF (two mi ++ 58 :: two s) 1 2 = ((mi : Int), 58 :: two s, true) := digF_two h2 (.inr ⟨_, _, rfl, d58⟩)
  have e3 : digF (two s) 1 2 = ((s : Int), [], true) := by
    have := digF_two (m := s) (r := []) h3 (.inl rfl)
    rw [List.append_nil] at this; exact this
  unfold dayTimeF
  simp only [e1, cut_58, e2, e3]
  rfl
theorem lead_two0 (m : Nat) : lead (two m) = two m := by
  have := lead_two (m := m) (r := []) (.inl rfl)
  rw [List.append_nil] at this; exact this
theorem lead_four (m : Nat) : lead (four m) = four m := by
  unfold lead four
  simp [List.takeWhile, dgt_digB]
theorem day_two {m : Nat} (h : m < 100) : (dayTimeF (two m) 0 0 0).1 = false := by
  have e3 : digF (two m) 1 2 = ((m : Int), [], true) := by
    have := digF_two (m := m) (r := []) h (.inl rfl)
    rw [List.append_nil] at this; exact this
  have e4 : cutP ([] : List UInt8) [58] = ([], false) := rfl
  unfold dayTimeF
  simp only [e3, e4]
  rfl
theorem day_four (m : Nat) : (dayTimeF (four m) 0 0 0).1 = false := day_fail1 (by unfold digF; rw [lead_four]; rfl)
theorem leadN_two {m : Nat} (h : m < 100) : leadN (two m) = m := by
  unfold leadN
  rw [lead_two0]
  exact value_two h
theorem leadN_four {m : Nat} (h : m < 10000) : leadN (four m) = m := by
  unfold leadN
  rw [lead_four]
  exact value_four h
theorem full {r : RD} (h0 : r.f0 = true) (h1 : r.f1 = true) (h2 : r.f2 = true) (h3 : r.f3 = true) (w : List UInt8) : takeF r w = r := by
  rw [doc0 (.inl h0), doc1 (.inl h1), doc2 (.inl h2), doc3 (.inl h3)]
theorem fulls {r : RD} (h0 : r.f0 = true) (h1 : r.f1 = true) (h2 : r.f2 = true) (h3 : r.f3 = true) : ∀ X : List (List UInt8), X.foldl takeF r = r
  | [] => rfl
  | w :: X => by
    show X.foldl takeF (takeF r w) = r
    rw [full h0 h1 h2 h3 w]
    exact fulls h0 h1 h2 h3 X
theorem found_text {W M G x : List UInt8} {X : List (List UInt8)} {y m d h mi s : Nat} (hW : ns W = true) (hW0 : W ≠ []) (hM : ns M = true) (hM0 : M ≠ []) (hG : ns G = true) (hG0 : G ≠ []) (hx : ∀ cur, cur ≠ [] → wordsG cur x = cur :: X)
    (tW : takeF rd0 W = rd0) (tM : (dayTimeF M 0 0 0).1 = false) (mM : monthF M = m) (hm : 0 < m) (hy0 : 100 ≤ y) (hy : y < 10000) (hd : d < 100) (hh : h < 100) (hmi : mi < 100) (hs : s < 100) :
    foundF (textC W M G x y d h mi s) = ⟨y, m, d, h, mi, s, true, true, true, true⟩ := by
  unfold foundF
  rw [words_text hW hW0 hM hM0 hG hG0 hx]
  show (G :: X).foldl takeF (takeF (takeF (takeF (takeF (takeF rd0 W) (two d)) M) (four y)) (clk h mi s)) = _
  have a1 : takeF rd0 (two d) = ⟨0, 0, d, 0, 0, 0, false, true, false, false⟩ := by
    rw [doc0 (.inr (day_two hd)), doc1' rfl (by rw [lead_two0]; exact Nat.le_succ _) (by rw [lead_two0]; exact Nat.le_refl _), leadN_two hd]
    rfl
  have a2 : takeF ⟨0, 0, d, 0, 0, 0, false, true, false, false⟩ M = ⟨0, m, d, 0, 0, 0, false, true, true, false⟩ := by
    rw [doc0 (.inr tM), doc1 (.inl rfl), doc2' rfl (by rw [mM]; exact hm), mM]
  have ey : yearF ((y : Nat) : Int) = (y : Int) := by unfold yearF; rw [if_neg (by omega), if_neg (by omega)]
  have a3 : takeF ⟨0, m, d, 0, 0, 0, false, true, true, false⟩ (four y) = ⟨y, m, d, 0, 0, 0, false, true, true, true⟩ := by
    rw [doc0 (.inr (day_four y)), doc1 (.inl rfl), doc2 (.inl rfl), doc3' rfl (by rw [lead_four]; show 2 ≤ 4; omega) (by rw [lead_four]; exact Nat.le_refl _), leadN_four hy, ey]
  have a4 : takeF ⟨y, m, d, 0, 0, 0, false, true, true, true⟩ (clk h mi s) = ⟨y, m, d, h, mi, s, true, true, true, true⟩ := doc0' rfl (day_clk hh hmi hs)
  rw [tW, a1, a2, a3, a4]
  exact fulls rfl rfl rfl rfl (G :: X)
end Go.Proofs.Ytclekbkpcigkcaa.StampR
