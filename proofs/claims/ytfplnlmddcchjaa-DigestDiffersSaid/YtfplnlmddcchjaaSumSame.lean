/-
  The program's digest of a string is the reference's.
-/
import Derived.Test.YtfplnlmddcchjaaRefSum
namespace Go.Proofs.Ytfplnlmddcchjaa
open Go.Am
set_option maxRecDepth 10000

/-- blocks taken in, one after the other -/
def foldB (f : W → Str → W) (s : W) (b : Str) : Nat → W
  | 0 => s
  | n + 1 => foldB f (f s (b.take 136)) (b.drop 136) n

theorem foldB_succ (f : W → Str → W) : ∀ (n : Nat) (s : W) (b : Str), foldB f s b (n + 1) = f (foldB f s b n) ((b.drop (136 * n)).take 136)
  | 0, s, b => by simp [foldB]
  | n + 1, s, b => by
    rw [foldB, foldB_succ f n]
    simp only [foldB, List.drop_drop]
    rw [show 136 + 136 * n = 136 * (n + 1) by omega]

theorem foldB_length (f : W → Str → W) (hf : ∀ s x, s.length = 25 → (f s x).length = 25) : ∀ (n : Nat) (s : W) (_ : s.length = 25) (b : Str), (foldB f s b n).length = 25
  | 0, _s, hs, _b => hs
  | n + 1, _s, hs, _b => foldB_length f hf n _ (hf _ _ hs) _

theorem drain_fold (f : W → Str → W) (hf : ∀ s x, s.length = 25 → (f s x).length = 25) (hb : ∀ s x, s.length = 25 → x.length = 136 → blockP s x = f s x) (n : Nat) : ∀ (s : W) (_ : s.length = 25) (r : Str), r.length / 136 = n → drain s r = (foldB f s r n, r.drop (136 * n)) := by
  induction n with
  | zero => intro s hs r h; rw [drain_end (by omega)]; simp [foldB]
  | succ n ih =>
    intro s hs r h
    have h136 : 136 ≤ r.length := by omega
    have hl : (r.take 136).length = 136 := by simp; omega
    rw [drain_step h136, hb s _ hs hl, ih _ (hf _ _ hs) _ (by simp; omega), foldB, List.drop_drop]
    rw [show 136 + 136 * n = 136 * (n + 1) by omega]

def stepR (s : W) (x : Str) : W := permR (absN s x 136) 24

theorem stepR_length (s : W) (x : Str) (hs : s.length = 25) : (stepR s x).length = 25 := permR_length _ (by rw [absN_length]; exact hs) 24

theorem blockP_R (s : W) (x : Str) (hs : s.length = 25) (hd : x.length = 136) : blockP s x = stepR s x := by
  unfold blockP stepR
  rw [hd, perm_same _ (by rw [absN_length]; exact hs)]

theorem absB_F (b : Str) : ∀ n, absB b n = foldB stepR z25 b n
  | 0 => by simp only [absB, foldB]
  | n + 1 => by
    rw [foldB_succ, ← absB_F b n]
    unfold stepR
    rw [absB]

/-- only the bytes that are asked for matter -/
theorem foldB_congr (f : W → Str → W) : ∀ (n : Nat) (s : W) (a b : Str), a.take (136 * n) = b.take (136 * n) → foldB f s a n = foldB f s b n
  | 0, _, _, _, _ => rfl
  | n + 1, s, a, b, h => by
    have h1 : a.take 136 = b.take 136 := by
      have := congrArg (List.take 136) h
      simpa [List.take_take, show min 136 (136 * (n + 1)) = 136 by omega] using this
    have h2 : (a.drop 136).take (136 * n) = (b.drop 136).take (136 * n) := by
      have := congrArg (List.drop 136) h
      simpa [List.drop_take, show 136 * (n + 1) - 136 = 136 * n by omega] using this
    rw [foldB, foldB, h1, foldB_congr f n _ _ _ h2]

theorem sum_same (d : Str) : sumP d = sumR d := by
  have hq : ∃ q t, d.length = 136 * q + t ∧ t < 136 := ⟨d.length / 136, d.length % 136, by omega, by omega⟩
  obtain ⟨q, t, hd, ht⟩ := hq
  have hz : z25.length = 25 := rfl
  have hneed : need d = 135 - t := by unfold need; omega
  have hpl : (padN d (need d)).length = 136 * (q + 1) := by rw [padN_length, hneed]; omega
  have hpd : (padded d).length = 136 * (q + 1) := by rw [padded, List.length_set, hpl]
  unfold sumP sumR Hash.sum
  rw [hpd, Nat.mul_div_cancel_left _ (by omega), absB_F]
  have hdr := drain_fold stepR stepR_length blockP_R q z25 hz d (by omega)
  have hF := foldB_length stepR stepR_length q z25 hz d
  generalize hFe : foldB stepR z25 d q = F at *
  have hw : hash0.write1 d = ⟨F, d.drop (136 * q), (0 : Int) + d.length⟩ := by
    simp only [Hash.write1, hash0, List.nil_append, hdr]
  rw [hw]
  rw [foldB_succ]
  have hpre : (padded d).take (136 * q) = d.take (136 * q) := by
    rw [padded, hpl, List.take_set_of_le (by omega)]
    simp only [padN]
    rw [List.take_append_of_le_length (by omega)]
  rw [foldB_congr stepR q z25 (padded d) d hpre, hFe]
  have hlast : (padded d).drop (136 * q) = (Hash.lastB2 ⟨F, d.drop (136 * q), (0 : Int) + d.length⟩) := by
    have e1 : (padN d (need d)).drop (136 * q) = d.drop (136 * q) ++ 6 :: List.replicate (135 - t) 0 := by
      rw [padN, hneed, List.drop_append_of_le_length (by omega)]
    have e2 : (d.drop (136 * q)).length = t := by simp; omega
    simp only [Hash.lastB2, Hash.lastB, e2, ← e1]
    rw [padded, hpl, List.drop_set, if_neg (by omega)]
    rw [show 136 * (q + 1) - 1 - 136 * q = 135 by omega]
    congr 2
    simp only [List.getD_eq_getElem?_getD, List.getElem?_drop]
    rw [show 136 * q + 135 = 136 * (q + 1) - 1 by omega]
  have hll : (Hash.lastB2 ⟨F, d.drop (136 * q), (0 : Int) + d.length⟩).length = 136 := by
    rw [← hlast]; simp; omega
  rw [hlast, List.take_of_length_le (by omega), blockP_R _ _ hF hll]
end Go.Proofs.Ytfplnlmddcchjaa
