/- The walks of word.Trim, Cut, Token. -/
import Derived.Test.YtbacakgjhohedaaDoorWordW
import Derived.Test.YtbacakgjhohedaaDoorWordS
import Derived.Test.YtbacakgjhohedaaDoorShelf
import Derived.Shelf.Strings.SlTrimAscii
namespace Go.Proofs.YtbacakgjhohedaaDoor.WordC
open Go.RowKit Mem WordP OneB WordW WordS

theorem ne_toList {s t : ByteArray} (h : ¬ s = t) : (s.toList == t.toList) = false := by
  rw [beq_eq_false_iff_ne]
  intro e
  rw [ByteArray.toList_eq, ByteArray.toList_eq] at e
  exact h (by rw [← mkB s, ← mkB t, e])
theorem len0 (t : ByteArray) (h : t.size = 0) : t.data.toList = [] := List.eq_nil_of_length_eq_zero (by simpa using h)
theorem take_all_succ (p : UInt8 → Bool) (s : ByteArray) (k : Nat) (h : k < s.size) (ha : (s.data.toList.take k).all p = true) (hp : p s[k] = true) : (s.data.toList.take (k + 1)).all p = true := by
  rw [take_snocB s k h, List.all_append, ha]; simp [hp]
theorem all_false (p : UInt8 → Bool) (s : ByteArray) (k : Nat) (h : k < s.size) (hp : p s[k] = false) : s.data.toList.all p = false := by
  have e : s.data.toList = s.data.toList.take k ++ s.data.toList.drop k := (List.take_append_drop k _).symm
  rw [e, drop_consB s k h, List.all_append, List.all_cons, hp]; simp
theorem tok_false (s : ByteArray) (k : Nat) (h : k < s.size) (hp : tokB s[k] = false) : token s.data.toList = false := by
  unfold token; rw [all_false tokB s k h hp]; simp
theorem strTrim_any (s : ByteArray) (w : World) (hs : s.size ≤ 4611686018427387904) :
    Calls Tryd.prog 37 #[.string s, .string ⟨#[32, 9]⟩] w (Gives (.string (str (trim s.data.toList))) w) := by
  have h := Any.strings_Trim_laid Tryd.lays160 (by kernel_rfl) s ⟨#[32, 9]⟩ w (by omega) (by decide) (ascii_of_all (by decide))
  rw [trimS_eq] at h
  exact h
theorem trim_any (s : ByteArray) (w : World) (hs : s.size ≤ 4611686018427387904) :
    Calls Tryd.prog 18 #[.string s] w (Gives (.string (str (trim s.data.toList))) w) := by
  have CT := Lib.hid (fun w' => strTrim_any s w' hs)
  go_enter Tryd.func18, Tryd.ntmps18
  go_wp2_with fail
  with_reducible refine (CT.out _).mono ?_
  rintro e w1 ⟨rfl, hb1⟩
  go_wp2_with fail
  go_ret
  exact ⟨rfl, hb1⟩
theorem index_any (s : ByteArray) (c : UInt8) (w : World) :
    Calls Tryd.prog 36 #[.string s, .int .u8 c.toNat] w (fun e w' => e = .returned (.int .i64 (Lib.indexByte s.data.toList c)) ∧ w = w') := by
  have h := Tryd.strings_IndexByte s c.toNat w
  have e : ((c.toNat : Int)).toNat.toUInt8 = c := by simp
  rw [e] at h
  exact h.mono fun _ _ h => ⟨h.1, h.2.symm⟩
/-- What Cut says. -/
def cut (c : UInt8) (l : List UInt8) : List UInt8 × List UInt8 × Bool :=
  if l.contains c then (l.take (Lib.indexByte l c).toNat, l.drop ((Lib.indexByte l c).toNat + 1), true) else (l, [], false)
theorem cut_none {c : UInt8} {l : List UInt8} (h : l.contains c = false) : cut c l = (l, [], false) := by unfold cut; rw [h]; rfl
theorem cut_at {c : UInt8} {a r : List UInt8} (h : a.contains c = false) : cut c (a ++ c :: r) = (a, r, true) := by
  unfold cut
  rw [index_at a r c h, if_pos (by simp)]
  simp
theorem ext_drop (s : ByteArray) (k : Nat) : s.extract k s.size = str (s.data.toList.drop k) := by
  apply ByteArray.ext; apply Array.ext'
  simp [str, ByteArray.data_extract]
  exact List.take_of_length_le (by simp)
theorem ext_take (s : ByteArray) (k : Nat) : s.extract 0 k = str (s.data.toList.take k) := by
  apply ByteArray.ext; apply Array.ext'
  simp [str, ByteArray.data_extract]
def Cuts (p : List UInt8 × List UInt8 × Bool) (w : World) (e : Ending) (w' : World) : Prop := e = .returned (.tuple #[.string (str p.1), .string (str p.2.1), .bool p.2.2]) ∧ Below w.heap.size w w'
theorem cut_any (s : ByteArray) (c : UInt8) (w : World) (hs : s.size ≤ 4611686018427387904) :
    Calls Tryd.prog 17 #[.string s, .int .u8 c.toNat] w (Cuts (cut c s.data.toList) w) := by
  have CI := Lib.hid (fun w' => index_any s c w')
  rcases first_at c s.data.toList with h | ⟨a, r, hl, h⟩
  · rw [index_none _ _ h] at CI
    rw [cut_none h]
    have hst : str s.data.toList = s := mkB s
    have HS := Lib.hid hst
    clear h hst
    go_enter Tryd.func17, Tryd.ntmps17
    go_wp2_with fail
    with_reducible refine (CI.out _).mono ?_
    rintro e w1 ⟨rfl, rfl⟩
    go_wp2_with fail
    go_ret3
    refine ⟨?_, Below.refl _ _⟩
    show _ = Ending.returned (.tuple #[.string (str s.data.toList), .string (str []), .bool false])
    rw [HS.out]
    rfl
  · have hz : a.length + 1 + r.length = s.size := by
      have : s.data.toList.length = s.size := by simp
      rw [hl] at this; simp at this; omega
    have hix : Lib.indexByte s.data.toList c = (a.length : Int) := by rw [hl]; exact index_at a r c h
    have he1 : s.extract 0 a.length = str a := by rw [ext_take, hl]; simp
    have he2 : s.extract (a.length + 1) s.size = str r := by rw [ext_drop, hl]; simp
    have hcut : cut c s.data.toList = (a, r, true) := by rw [hl]; exact cut_at h
    rw [hix] at CI
    rw [hcut]
    have H1 := Lib.hid he1; have H2 := Lib.hid he2
    clear he1 he2 hcut hix hl h
    generalize a.length = n at hz H1 H2 CI
    have hw1 : (0 : Int) ≤ (n : Int) := by omega
    have hw2 : (n : Int) ≤ (s.size : Int) := by omega
    have hw3 : (n : Int) + 1 ≤ (s.size : Int) := by omega
    go_enter Tryd.func17, Tryd.ntmps17
    go_wp2_with fail
    with_reducible refine (CI.out _).mono ?_
    rintro e w1 ⟨rfl, rfl⟩
    go_wp2_with fail
    go_quiet (fail)
    go_wp2_with fail
    go_ret3
    refine ⟨?_, ⟨rfl, rfl, rfl, Nat.le_refl _, fun _ _ => rfl⟩⟩
    show _ = Ending.returned (.tuple #[.string (str a), .string (str r), .bool true])
    rw [← H1.out, ← H2.out]
    rfl
end Go.Proofs.YtbacakgjhohedaaDoor.WordC
