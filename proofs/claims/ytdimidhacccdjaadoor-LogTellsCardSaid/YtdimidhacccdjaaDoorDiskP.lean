/- Disks and the log on them: plain. -/
import Derived.Test.YtdimidhacccdjaaDoorNumP
import Derived.Test.YtdimidhacccdjaaDoorWordS
import Derived.Test.YtdimidhacccdjaaDoorTy
namespace Go.Proofs.YtdimidhacccdjaaDoor.DiskP
open Abs NumP WordS

def d0 : Disk := ⟨[], []⟩
def badW (n : Nat) (w : Put) : Int := if w.pos < 0 ∨ (n : Int) ≤ w.pos then 3 else if 20000 < w.text.length then 2 else 0
def checkW (n : Nat) : List Put → Int
  | [] => 0
  | w :: r => if badW n w ≠ 0 then badW n w else checkW n r
def longB (s : List UInt8) : Bool := decide (20000 < s.length)
def checkF (d : Disk) : Int := if 40 < d.kept.length ∨ 60 < d.wait.length ∨ d.kept.any longB = true then 2 else checkW d.kept.length d.wait
def writeF (d : Disk) (at_ : Int) (s : List UInt8) : Disk × Int :=
  if checkF d ≠ 0 then (d0, checkF d) else if at_ < 0 ∨ (d.kept.length : Int) ≤ at_ then (d0, 3) else if 20000 < s.length ∨ d.wait.length = 60 then (d0, 2) else (⟨d.kept, d.wait ++ [⟨at_, s⟩]⟩, 0)
def landF (lands : Nat → Bool) : Nat → List Put → List (List UInt8) → List (List UInt8)
  | _, [], K => K
  | i, w :: r, K => landF lands (i + 1) r (if lands i = true then K.set w.pos.toNat w.text else K)
def crashF (d : Disk) (lands : Nat → Bool) : Disk × Int := if checkF d ≠ 0 then (d0, checkF d) else (⟨landF lands 0 d.wait d.kept, []⟩, 0)
def lastF (lands : Nat → Bool) (p : Int) : Nat → List Put → List UInt8 → List UInt8
  | _, [], s => s
  | i, w :: r, s => lastF lands p (i + 1) r (if w.pos = p ∧ lands i = true then w.text else s)
theorem landF_len (lands : Nat → Bool) : ∀ (W : List Put) (i : Nat) (K : List (List UInt8)), (landF lands i W K).length = K.length
  | [], i, K => rfl
  | w :: r, i, K => by
    unfold landF
    rw [landF_len lands r]
    split
    · simp
    · rfl
theorem landF_at (lands : Nat → Bool) : ∀ (W : List Put) (i : Nat) (K : List (List UInt8)) (p : Nat), (∀ w ∈ W, 0 ≤ w.pos ∧ w.pos < K.length) → (landF lands i W K)[p]? = (K[p]?).map (lastF lands p i W)
  | [], i, K, p, _ => by simp [landF, lastF]
  | w :: r, i, K, p, h => by
    have hw := h w (by simp)
    have e0 : lastF lands (p : Int) i (w :: r) = fun s => lastF lands (p : Int) (i + 1) r (if w.pos = (p : Int) ∧ lands i = true then w.text else s) := rfl
    rw [e0]
    unfold landF
    rw [landF_at lands r (i + 1) _ p (fun v hv => by
      have := h v (by simp [hv])
      split
      · simpa using this
      · exact this)]
    by_cases hl : lands i = true
    · rw [if_pos hl]
      by_cases hp : w.pos.toNat = p
      · have e : w.pos = (p : Int) := by omega
        have hlt : p < K.length := by omega
        rw [hp, List.getElem?_set_self hlt, List.getElem?_eq_getElem hlt, Option.map_some, Option.map_some, if_pos ⟨e, hl⟩]
      · have e : ¬ w.pos = (p : Int) := by omega
        rw [List.getElem?_set_ne hp]
        simp [e]
    · rw [if_neg hl]
      simp [hl]
theorem checkW_ok {n : Nat} : ∀ {W : List Put}, checkW n W = 0 ↔ ∀ w ∈ W, badW n w = 0
  | [] => by simp [checkW]
  | w :: r => by
    unfold checkW
    by_cases h : badW n w = 0
    · rw [if_neg (by simpa using h), checkW_ok (W := r)]
      simp [h]
    · rw [if_pos h]
      constructor
      · intro e; exact absurd e h
      · intro e; exact absurd (e w (by simp)) h
theorem bad_ok {n : Nat} {w : Put} : badW n w = 0 ↔ 0 ≤ w.pos ∧ w.pos < n ∧ w.text.length ≤ 20000 := by
  unfold badW
  split
  · rename_i h; constructor
    · intro e; cases e
    · intro e; omega
  · split
    · constructor
      · intro e; cases e
      · intro e; omega
    · constructor
      · intro _; omega
      · intro _; rfl
theorem check_ok {d : Disk} : checkF d = 0 ↔ d.kept.length ≤ 40 ∧ d.wait.length ≤ 60 ∧ (∀ s ∈ d.kept, s.length ≤ 20000) ∧ ∀ w ∈ d.wait, 0 ≤ w.pos ∧ w.pos < d.kept.length ∧ w.text.length ≤ 20000 := by
  unfold checkF
  have ha : d.kept.any longB = true ↔ ∃ s ∈ d.kept, 20000 < s.length := by simp [longB]
  split
  · rename_i h
    constructor
    · intro e; cases e
    · rintro ⟨h1, h2, h3, _⟩
      rcases h with h | h | h
      · omega
      · omega
      · obtain ⟨s, hs, hl⟩ := ha.1 h
        have := h3 s hs
        omega
  · rename_i h
    rw [not_or, not_or] at h
    rw [checkW_ok]
    constructor
    · intro e
      refine ⟨by omega, by omega, fun s hs => ?_, fun w hw => bad_ok.1 (e w hw)⟩
      by_cases hl : s.length ≤ 20000
      · exact hl
      · exact absurd (ha.2 ⟨s, hs, by omega⟩) h.2.2
    · rintro ⟨_, _, _, h4⟩ w hw
      exact bad_ok.2 (h4 w hw)

/-! ### Heads -/
def txt (t m : Nat) : List UInt8 := Lib.decDigits t ++ 59 :: (Lib.decDigits m ++ [59])
def hdF (s : List UInt8) (n : Nat) : Option (Nat × Nat) := match split 59 s with
  | [a, b, c] => if c = [] ∧ a = Lib.decDigits (valA 0 a) ∧ b = Lib.decDigits (valA 0 b) ∧ valA 0 a ≤ 1000000 ∧ valA 0 b ≤ valA 0 a ∧ valA 0 b + 2 ≤ n then some (valA 0 a, valA 0 b) else none
  | _ => none
theorem dd_no (u : Nat) : (Lib.decDigits u).contains 59 = false := by
  have := itoa_no (u : Int) 59 (by decide) (by decide)
  rwa [itoa_dd] at this
theorem split_txt (t m : Nat) : split 59 (txt t m) = [Lib.decDigits t, Lib.decDigits m, []] := by
  unfold txt
  rw [split_app 59 _ _ (dd_no t), split_app 59 _ _ (dd_no m), split_none 59 [] rfl]
theorem hd_iff {s : List UInt8} {n t m : Nat} : hdF s n = some (t, m) ↔ s = txt t m ∧ t ≤ 1000000 ∧ m ≤ t ∧ m + 2 ≤ n := by
  constructor
  · intro h
    unfold hdF at h
    split at h
    · rename_i a b c hs
      split at h
      · rename_i h1
        obtain ⟨h2, h3, h4, h5, h6, h7⟩ := h1
        simp only [Option.some.injEq, Prod.mk.injEq] at h
        obtain ⟨rfl, rfl⟩ := h
        have hj := join_split 59 _ s (Nat.le_refl _)
        rw [hs, h2] at hj
        refine ⟨?_, h5, h6, h7⟩
        rw [← hj]
        unfold txt
        rw [← h3, ← h4]
        simp [join]
      · cases h
    · cases h
  · rintro ⟨rfl, h1, h2, h3⟩
    unfold hdF
    rw [split_txt]
    dsimp only
    rw [dd_val, dd_val, if_pos ⟨rfl, rfl, rfl, h1, h2, h3⟩]
theorem txt_len {t m : Nat} (h1 : t < 10000000) (h2 : m < 10000000) : (txt t m).length ≤ 16 := by
  have e1 := dd_len h1
  have e2 := dd_len h2
  unfold txt
  simp only [List.length_append, List.length_cons, List.length_nil]
  omega
/-- The head that counts; none: there is none. -/
def headF (d : Disk) : Option (Nat × Nat) := match hdF (d.kept.getD 0 []) d.kept.length, hdF (d.kept.getD 1 []) d.kept.length with
  | none, none => none
  | some a, none => some a
  | none, some b => some b
  | some a, some b => if a.1 = b.1 then none else if a.1 < b.1 then some b else some a
def countF (d : Disk) : (Nat × Nat) × Int :=
  if checkF d ≠ 0 then ((0, 0), checkF d) else if d.wait ≠ [] ∨ d.kept.length < 2 then ((0, 0), 4) else match headF d with
  | none => ((0, 0), 4)
  | some h => (h, 0)
def newF (n : Int) : Disk × Int := if n < 3 ∨ 40 < n then (d0, 3) else (⟨txt 0 0 :: List.replicate (n.toNat - 1) [], []⟩, 0)
def itemsF (d : Disk) : List (List UInt8) × Int := if (countF d).2 ≠ 0 then ([], (countF d).2) else ((d.kept.drop 2).take (countF d).1.2, 0)
def stepsF (d : Disk) (s : List UInt8) : List Put × Int :=
  if (countF d).2 ≠ 0 then ([], (countF d).2) else if 20000 < s.length ∨ d.kept.length ≤ 2 + (countF d).1.2 ∨ (countF d).1.1 = 1000000 then ([], 2)
  else ([⟨((2 + (countF d).1.2 : Nat) : Int), s⟩, ⟨(((countF d).1.1 + 1) % 2 : Nat), txt ((countF d).1.1 + 1) ((countF d).1.2 + 1)⟩], 0)
def appendF (d : Disk) (s : List UInt8) : Disk × Int :=
  if (stepsF d s).2 ≠ 0 then (d0, (stepsF d s).2) else (⟨(d.kept.set (2 + (countF d).1.2) s).set (((countF d).1.1 + 1) % 2) (txt ((countF d).1.1 + 1) ((countF d).1.2 + 1)), []⟩, 0)
/-- A disk with a head that counts. -/
structure Log (d : Disk) (t m : Nat) : Prop where
  ck : checkF d = 0
  wt : d.wait = []
  ln : 2 ≤ d.kept.length
  hd : headF d = some (t, m)
theorem count_log {d : Disk} : (countF d).2 = 0 ↔ Log d (countF d).1.1 (countF d).1.2 := by
  unfold countF
  by_cases h1 : checkF d = 0
  · rw [if_neg (by simpa using h1)]
    by_cases h2 : d.wait ≠ [] ∨ d.kept.length < 2
    · rw [if_pos h2]
      constructor
      · intro e; cases e
      · rintro ⟨_, a, b, _⟩
        rcases h2 with h2 | h2
        · exact absurd a h2
        · omega
    · rw [if_neg h2]
      have h3 : d.wait = [] ∧ 2 ≤ d.kept.length := by
        rw [not_or] at h2
        exact ⟨Classical.not_not.1 h2.1, by omega⟩
      cases hh : headF d with
      | none =>
        constructor
        · intro e; cases e
        · rintro ⟨_, _, _, h4⟩; rw [hh] at h4; cases h4
      | some p => exact ⟨fun _ => ⟨h1, h3.1, h3.2, hh⟩, fun _ => rfl⟩
  · rw [if_pos h1]
    exact ⟨fun e => absurd e h1, fun h => h.ck⟩
theorem Log.count {d : Disk} {t m : Nat} (h : Log d t m) : countF d = ((t, m), 0) := by
  unfold countF
  rw [if_neg (by simpa using h.ck), if_neg (by rw [h.wt]; have := h.ln; simp; omega), h.hd]
/-- What a head says is so. -/
theorem head_is {d : Disk} {t m : Nat} (h : headF d = some (t, m)) : t ≤ 1000000 ∧ m ≤ t ∧ m + 2 ≤ d.kept.length ∧ (∀ j p, (j = 0 ∨ j = 1) → hdF (d.kept.getD j []) d.kept.length = some p → p.1 ≤ t) := by
  unfold headF at h
  cases ha : hdF (d.kept.getD 0 []) d.kept.length with
  | none =>
    cases hb : hdF (d.kept.getD 1 []) d.kept.length with
    | none => rw [ha, hb] at h; cases h
    | some b =>
      rw [ha, hb] at h
      cases h
      obtain ⟨_, h1, h2, h3⟩ := hd_iff.1 hb
      exact ⟨h1, h2, h3, fun j p hj hp => by rcases hj with rfl | rfl; rw [ha] at hp; cases hp; rw [hb] at hp; cases hp; exact Nat.le_refl _⟩
  | some a =>
    obtain ⟨a1, a2⟩ := a
    obtain ⟨_, h1, h2, h3⟩ := hd_iff.1 ha
    cases hb : hdF (d.kept.getD 1 []) d.kept.length with
    | none =>
      rw [ha, hb] at h
      cases h
      exact ⟨h1, h2, h3, fun j p hj hp => by rcases hj with rfl | rfl; rw [ha] at hp; cases hp; exact Nat.le_refl _; rw [hb] at hp; cases hp⟩
    | some b =>
      obtain ⟨b1, b2⟩ := b
      obtain ⟨_, k1, k2, k3⟩ := hd_iff.1 hb
      rw [ha, hb] at h
      dsimp only at h
      split at h
      · cases h
      · rename_i hne
        split at h
        · rename_i hlt
          cases h
          exact ⟨k1, k2, k3, fun j p hj hp => by rcases hj with rfl | rfl; rw [ha] at hp; cases hp; exact Nat.le_of_lt hlt; rw [hb] at hp; cases hp; exact Nat.le_refl _⟩
        · rename_i hlt
          cases h
          exact ⟨h1, h2, h3, fun j p hj hp => by rcases hj with rfl | rfl; rw [ha] at hp; cases hp; exact Nat.le_refl _; rw [hb] at hp; cases hp; exact Nat.le_of_not_lt hlt⟩
theorem getD_set_ne {K : List (List UInt8)} {i j : Nat} {s : List UInt8} (h : i ≠ j) : (K.set i s).getD j [] = K.getD j [] := by
  rw [List.getD_eq_getElem?_getD, List.getD_eq_getElem?_getD, List.getElem?_set_ne h]
theorem getD_set {K : List (List UInt8)} {i : Nat} {s : List UInt8} (h : i < K.length) : (K.set i s).getD i [] = s := by
  rw [List.getD_eq_getElem?_getD, List.getElem?_set_self h]; rfl
theorem small_set {K : List (List UInt8)} {i : Nat} {s : List UInt8} (h : ∀ x ∈ K, x.length ≤ 20000) (hs : s.length ≤ 20000) : ∀ x ∈ K.set i s, x.length ≤ 20000 := fun x hx => by
  rcases List.mem_or_eq_of_mem_set hx with hx | rfl
  · exact h x hx
  · exact hs
/-- A text laid behind what counts changes no head. -/
theorem Log.lay {d : Disk} {t m : Nat} {s : List UInt8} {p : Nat} (h : Log d t m) (hs : s.length ≤ 20000) (hp : 2 ≤ p) : Log ⟨d.kept.set p s, []⟩ t m where
  ck := by
    obtain ⟨h1, _, h3, _⟩ := check_ok.1 h.ck
    exact check_ok.2 ⟨by simpa using h1, by simp, small_set h3 hs, fun w hw => by cases hw⟩
  wt := rfl
  ln := by have := h.ln; simpa using this
  hd := by
    have := h.hd
    unfold headF at this ⊢
    dsimp only
    rw [getD_set_ne (by omega), getD_set_ne (by omega), List.length_set]
    exact this
/-- The next head, written over either. -/
theorem Log.next {d : Disk} {t m : Nat} {j : Nat} (h : Log d t m) (ht : t < 1000000) (hm : m + 3 ≤ d.kept.length) (hj : j < 2) : Log ⟨d.kept.set j (txt (t + 1) (m + 1)), []⟩ (t + 1) (m + 1) where
  ck := by
    obtain ⟨h1, _, h3, _⟩ := check_ok.1 h.ck
    obtain ⟨g1, g2, _, _⟩ := head_is h.hd
    exact check_ok.2 ⟨by simpa using h1, by simp, small_set h3 (Nat.le_trans (txt_len (by omega) (by omega)) (by decide)), fun w hw => by cases hw⟩
  wt := rfl
  ln := by have := h.ln; simpa using this
  hd := by
    obtain ⟨g1, g2, g3, g4⟩ := head_is h.hd
    have hl := h.ln
    have hn : hdF (txt (t + 1) (m + 1)) d.kept.length = some (t + 1, m + 1) := hd_iff.2 ⟨rfl, by omega, by omega, by omega⟩
    unfold headF
    dsimp only
    rw [List.length_set]
    obtain rfl | rfl : j = 0 ∨ j = 1 := by omega
    · rw [getD_set (by omega), getD_set_ne (by decide), hn]
      cases hb : hdF (d.kept.getD 1 []) d.kept.length with
      | none => rfl
      | some b =>
        have := g4 1 b (.inr rfl) hb
        dsimp only
        rw [if_neg (by omega), if_neg (by omega)]
    · rw [getD_set (by omega), getD_set_ne (by decide), hn]
      cases ha : hdF (d.kept.getD 0 []) d.kept.length with
      | none => rfl
      | some a =>
        have := g4 0 a (.inl rfl) ha
        dsimp only
        rw [if_neg (by omega), if_pos (by omega)]
theorem Log.items {d : Disk} {t m : Nat} (h : Log d t m) : itemsF d = ((d.kept.drop 2).take m, 0) := by
  unfold itemsF
  rw [h.count, if_neg (by simp)]
theorem take_set (K : List (List UInt8)) (m p : Nat) (s : List UInt8) (h : m + 2 ≤ p) : ((K.set p s).drop 2).take m = (K.drop 2).take m := by
  refine List.ext_getElem? fun i => ?_
  by_cases hi : i < m
  · rw [List.getElem?_take_of_lt hi, List.getElem?_take_of_lt hi, List.getElem?_drop, List.getElem?_drop, List.getElem?_set_ne (by omega)]
  · rw [List.getElem?_take_eq_none (by omega), List.getElem?_take_eq_none (by omega)]
theorem take_head (K : List (List UInt8)) (m p : Nat) (s : List UInt8) (h : p < 2) : ((K.set p s).drop 2).take m = (K.drop 2).take m := by
  refine List.ext_getElem? fun i => ?_
  by_cases hi : i < m
  · rw [List.getElem?_take_of_lt hi, List.getElem?_take_of_lt hi, List.getElem?_drop, List.getElem?_drop, List.getElem?_set_ne (by omega)]
  · rw [List.getElem?_take_eq_none (by omega), List.getElem?_take_eq_none (by omega)]
theorem take_more (K : List (List UInt8)) (m : Nat) (s : List UInt8) (h : m + 3 ≤ K.length) : ((K.set (2 + m) s).drop 2).take (m + 1) = (K.drop 2).take m ++ [s] := by
  have hl : m < ((K.set (2 + m) s).drop 2).length := by simp; omega
  rw [List.take_succ_eq_append_getElem hl, take_set K m (2 + m) s (by omega)]
  congr 1
  simp
/-- WHAT IS APPENDED COMES LAST. -/
theorem append_log {d : Disk} {t m : Nat} {s : List UInt8} (h : Log d t m) (hs : s.length ≤ 20000) (hm : m + 3 ≤ d.kept.length) (ht : t < 1000000) :
    appendF d s = (⟨(d.kept.set (2 + m) s).set ((t + 1) % 2) (txt (t + 1) (m + 1)), []⟩, 0) ∧ Log (appendF d s).1 (t + 1) (m + 1) ∧ (itemsF (appendF d s).1).1 = (itemsF d).1 ++ [s] := by
  have hc := h.count
  have hst : (stepsF d s).2 = 0 := by
    unfold stepsF
    rw [hc, if_neg (by simp)]
    dsimp only
    rw [if_neg (by omega)]
  have e : appendF d s = (⟨(d.kept.set (2 + m) s).set ((t + 1) % 2) (txt (t + 1) (m + 1)), []⟩, 0) := by
    unfold appendF
    rw [hst, hc, if_neg (by simp)]
  have hL := (h.lay (p := 2 + m) hs (by omega)).next (j := (t + 1) % 2) ht (by simpa using hm) (Nat.mod_lt _ (by decide))
  refine ⟨e, by rw [e]; exact hL, ?_⟩
  rw [e, hL.items, h.items]
  dsimp only
  rw [take_head _ _ _ _ (Nat.mod_lt _ (by decide)), take_more _ _ _ hm]
theorem steps_ok {d : Disk} {s : List UInt8} (h : (stepsF d s).2 = 0) : ∃ t m, Log d t m ∧ s.length ≤ 20000 ∧ m + 3 ≤ d.kept.length ∧ t < 1000000 ∧ stepsF d s = ([⟨((2 + m : Nat) : Int), s⟩, ⟨((t + 1) % 2 : Nat), txt (t + 1) (m + 1)⟩], 0) := by
  unfold stepsF at h
  by_cases h1 : (countF d).2 = 0
  · have hl := count_log.1 h1
    rw [if_neg (by simpa using h1)] at h
    split at h
    · cases h
    · rename_i h2
      obtain ⟨g1, _, _, _⟩ := head_is hl.hd
      refine ⟨_, _, hl, by omega, by omega, by omega, ?_⟩
      unfold stepsF
      rw [if_neg (by simpa using h1), if_neg h2]
  · rw [if_pos h1] at h; exact absurd h h1
theorem append_ok {d : Disk} {s : List UInt8} : (appendF d s).2 = (stepsF d s).2 := by
  unfold appendF
  split
  · rfl
  · rename_i h; exact (Classical.not_not.1 h).symm
theorem append_no {d : Disk} {s : List UInt8} (h : (appendF d s).2 ≠ 0) : appendF d s = (d0, (stepsF d s).2) := by
  rw [append_ok] at h
  unfold appendF
  rw [if_pos h]
/-- A disk on which nothing waits stays what it is. -/
theorem crash_none {d : Disk} {lands : Nat → Bool} (h : checkF d = 0) (hw : d.wait = []) : crashF d lands = (d, 0) := by
  unfold crashF
  rw [if_neg (by simpa using h), hw]
  obtain ⟨k, w⟩ := d
  dsimp only at hw
  subst hw
  rfl
theorem write_log {d : Disk} {t m : Nat} {p : Int} {s : List UInt8} (h : Log d t m) (h1 : 0 ≤ p) (h2 : p < d.kept.length) (h3 : s.length ≤ 20000) : writeF d p s = (⟨d.kept, [⟨p, s⟩]⟩, 0) := by
  unfold writeF
  rw [if_neg (by simpa using h.ck), if_neg (by omega), if_neg (by rw [h.wt]; simp; omega), h.wt]
  rfl
theorem crash_one {K : List (List UInt8)} {p : Int} {s : List UInt8} {lands : Nat → Bool} (h : checkF ⟨K, [⟨p, s⟩]⟩ = 0) : crashF ⟨K, [⟨p, s⟩]⟩ lands = (⟨if lands 0 = true then K.set p.toNat s else K, []⟩, 0) := by
  unfold crashF
  rw [if_neg (by simpa using h)]
  rfl
theorem one_ok {d : Disk} {t m : Nat} {p : Int} {s : List UInt8} (h : Log d t m) (h1 : 0 ≤ p) (h2 : p < d.kept.length) (h3 : s.length ≤ 20000) : checkF ⟨d.kept, [⟨p, s⟩]⟩ = 0 := by
  obtain ⟨g1, _, g3, _⟩ := check_ok.1 h.ck
  refine check_ok.2 ⟨g1, by simp, g3, fun w hw => ?_⟩
  simp only [List.mem_singleton] at hw
  subst hw
  exact ⟨h1, h2, h3⟩
end Go.Proofs.YtdimidhacccdjaaDoor.DiskP
