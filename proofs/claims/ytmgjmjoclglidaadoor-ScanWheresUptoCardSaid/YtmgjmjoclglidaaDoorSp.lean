/- The reference's Pieces and Where are Check's runes and Where's walk. -/
import Derived.Test.YtmgjmjoclglidaaDoorSw
import Derived.Test.YtmgjmjoclglidaaDoorSqWheres
import Derived.Test.YtmgjmjoclglidaaDoorPScanWheresx5
import Derived.Test.YtmgjmjoclglidaaDoorPScanWheresx6
import Derived.Test.YtmgjmjoclglidaaDoorPScanWheresx7
namespace Go.Proofs.YtmgjmjoclglidaaDoor.Sp
set_option linter.unusedVariables false
open Go.RowKit Go.Proofs.YtmgjmjoclglidaaDoorW.PrintWords Go.Proofs.YtmgjmjoclglidaaDoor.Blk Go.Proofs.YtmgjmjoclglidaaDoor.Blk2 Go.Proofs.YtmgjmjoclglidaaDoor.Laid Go.Proofs.YtmgjmjoclglidaaDoor.Sa Go.Proofs.YtmgjmjoclglidaaDoor.Sb Go.Proofs.YtmgjmjoclglidaaDoor.Sw Go.Proofs.YtmgjmjoclglidaaDoor.SqWheres Go.Proofs.YtmgjmjoclglidaaDoor.PScanWheres

theorem let_f (r : Int) : capstanref09_LetIn.f r = some (lets r) := by
  unfold capstanref09_LetIn.f lets
  repeat' split
  all_goals (apply congrArg some; rw [Bool.eq_iff_iff]; simp; omega)
theorem lets_bad : lets 65533 = true := by decide
def pieceOf (q : Int × Int) : S36 := ⟨q.1, q.2⟩
theorem pieces_tells (s : ByteArray) (hs : s.size ≤ 8796093022207) : ∀ (n pos : Nat) (acc : List S36), s.size ≤ pos + n → acc.length ≤ pos →
    capstanref09_Pieces.l0 (n + 9) s acc pos = some (match (pcs s n pos).2 with
      | none => (acc ++ (pcs s n pos).1.map pieceOf, 0, 0)
      | some q => ([], q.1, q.2))
  | 0, pos, acc, h, h' => by rw [capstanref09_Pieces.l0, if_neg (by omega)]; simp [pcs]
  | n + 1, pos, acc, h, h' => by
    rw [show n + 1 + 9 = (n + 3 + 6) + 1 from by omega, capstanref09_Pieces.l0]
    by_cases hp : pos < s.size
    · rw [if_pos (by omega), seq_f (n + 3) s pos hp (by omega)]
      simp only [Option.bind_some]
      have hwd := Lib.width_pos s pos
      have hK4 : (Utf8.decode s pos).2 ≤ s.size - pos := by
        have h1 := Lib.decodeGo_le_size (s.extract pos s.size)
        rw [decodeGo_tail s pos hp, Lib.tail_size] at h1; omega
      conv => rhs; unfold pcs
      rw [← brk_res]
      by_cases hb : brk s pos (Utf8.decode s pos).1 = true
      · simp [hb, hp]
      · rw [if_neg hb, if_neg hb, if_pos hp, if_neg (by simp; omega), let_f]
        simp only [Option.bind_some]
        by_cases hl : lets (Utf8.decode s pos).1 = true
        · rw [if_pos hl, if_pos (by omega), if_neg (by simp [hl]), w64 (by omega) (by omega)]
          have := pieces_tells s hs n (pos + (Utf8.decode s pos).2) (acc ++ [⟨(Utf8.decode s pos).1, pos⟩]) (by omega) (by simp; omega)
          rw [show n + 3 + 6 = n + 9 from by omega]
          rw [show ((pos : Int) + ((Utf8.decode s pos).2 : Int)) = ((pos + (Utf8.decode s pos).2 : Nat) : Int) from by simp, this]
          cases (pcs s n (pos + (Utf8.decode s pos).2)).2 <;> simp [pieceOf]
        · rw [if_neg hl, if_pos (by simpa using hl)]
    · rw [if_neg (by omega)]
      rw [pcs_end s _ _ hp]; simp
theorem rd_at (l r : List S36) (x : S36) (i : Int) (h : i = l.length) : rd_T36 (l ++ x :: r) i = x := by
  subst h; simp [rd_T36]
theorem where_tells (n at_ : Int) (g : Nat) : ∀ (r : List (Int × Int)) (pre : List S36) (line begin_ : Int), 0 ≤ begin_ → begin_ ≤ pre.length → 1 ≤ line → line ≤ pre.length + 1 → pre.length + r.length ≤ 8796093022207 →
    capstanref09_Where.l0 (r.length + 3 + g) at_ (pre ++ (r.map pieceOf ++ [⟨-1, n⟩])) line begin_ pre.length = some (wlk n at_ r line (pre.length - begin_ + 1))
  | [], pre, line, b, h1, h2, h3, h4, h5 => by
    simp only [List.map_nil, List.nil_append, List.length_nil] at h5 ⊢
    rw [show 0 + 3 + g = (g + 1 + 1) + 1 from by omega, capstanref09_Where.l0, if_pos (by simp; omega), if_pos (by omega), rd_at _ _ _ _ rfl]
    unfold wlk
    by_cases h : at_ = n
    · rw [if_pos h, if_pos (by simp [h]), w64 (a := (pre.length : Int) - b) (by omega) (by omega), w64 (by omega) (by omega)]
    · rw [if_neg h, if_neg (by simpa using fun e => h e.symm), if_neg (by simp), w64 (by omega) (by omega), capstanref09_Where.l0, if_neg (by simp)]
  | q :: t, pre, line, b, h1, h2, h3, h4, h5 => by
    simp only [List.map_cons, List.cons_append, List.length_cons] at h5 ⊢
    rw [show t.length + 1 + 3 + g = (t.length + 3 + g) + 1 from by omega, capstanref09_Where.l0, if_pos (by simp; omega), if_pos (by omega), rd_at _ _ _ _ rfl]
    unfold wlk
    by_cases h : q.2 = at_
    · rw [if_pos h, if_pos (by simpa [pieceOf] using h), w64 (a := (pre.length : Int) - b) (by omega) (by omega), w64 (by omega) (by omega)]
    · rw [if_neg h, if_neg (by simpa [pieceOf] using h)]
      have e : pre ++ pieceOf q :: (t.map pieceOf ++ [⟨-1, n⟩]) = (pre ++ [pieceOf q]) ++ (t.map pieceOf ++ [⟨-1, n⟩]) := by simp
      have el : ((pre ++ [pieceOf q]).length : Int) = pre.length + 1 := by simp
      by_cases hr : q.1 = 10
      · rw [if_pos hr, if_pos (by simpa [pieceOf] using hr), w64 (a := line + 1) (by omega) (by omega), w64 (by omega) (by omega), e]
        have := where_tells n at_ g t (pre ++ [pieceOf q]) (line + 1) (pre.length + 1) (by omega) (by omega) (by omega) (by omega) (by simp; omega)
        rw [el] at this
        rw [this]; congr 2; omega
      · rw [if_neg hr, if_neg (by simpa [pieceOf] using hr), w64 (by omega) (by omega), e]
        have := where_tells n at_ g t (pre ++ [pieceOf q]) line b h1 (by omega) (by omega) (by omega) (by simp; omega)
        rw [el] at this
        rw [this]; congr 2; omega
theorem pcs_len (s : ByteArray) : ∀ (f pos : Nat), (pcs s f pos).1.length ≤ f
  | 0, pos => by simp [pcs]
  | f + 1, pos => by
    unfold pcs
    split
    · split
      · simp
      · split
        · simp
        · have := pcs_len s f (pos + (Utf8.decode s pos).2); simp; omega
    · simp
theorem ref_where_f (s : ByteArray) (at_ : Int) (hs : s.size ≤ 4000000000) : capstanref09_Where.f (s.size + 9) s at_ = some (whr s at_) := by
  have hp := pieces_tells s (by omega) s.size 0 [] (by omega) (by simp)
  have hlen := pcs_len s s.size 0
  have hc := pcs_code s s.size 0
  unfold capstanref09_Where.f capstanref09_Pieces.f whr
  have hp' : capstanref09_Pieces.l0 (s.size + 9) s [] 0 = _ := hp
  rw [hp']
  obtain ⟨l, o, hlo⟩ : ∃ l o, pcs s s.size 0 = (l, o) := ⟨_, _, rfl⟩
  rw [hlo] at hlen hc ⊢
  cases o with
  | some q =>
    have := hc q rfl
    simp only [Option.bind_some]
    rw [if_neg (by omega)]
  | none =>
    simp only [Option.bind_some, List.nil_append]
    simp only at hlen
    rw [if_pos trivial, if_pos (by simp; omega)]
    have := where_tells s.size at_ (s.size + 6 - l.length) l [] 1 0 (by omega) (by simp) (by omega) (by simp) (by simp; omega)
    rw [show l.length + 3 + (s.size + 6 - l.length) = s.size + 9 from by omega] at this
    simpa using this
end Go.Proofs.YtmgjmjoclglidaaDoor.Sp
