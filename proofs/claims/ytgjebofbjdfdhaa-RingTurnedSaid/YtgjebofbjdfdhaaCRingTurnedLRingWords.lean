/-
  Keys and identities, reckoned on words.
-/
import Derived.Test.YtgjebofbjdfdhaaCRingTurnedLFast3
import Derived.Test.YtgjebofbjdfdhaaCRingTurnedLRing
namespace Go.Ax.V
open Go.Ax
set_option linter.unusedVariables false
set_option linter.unusedSimpArgs false
set_option maxRecDepth 100000

noncomputable def secW (s : List Nat) (i v : Nat) : List Nat := shaW 1 115 s (Nat.add (Nat.add (Nat.mul i 65536) (Nat.mul v 256)) 128) 5 280
noncomputable def pubW (s : List Nat) : List Nat := shaW 1 112 s 8388608 5 264
noncomputable def seedW (s : List Nat) (h : Nat) : List Nat := shaW 1 114 s (Nat.add (Nat.mul h 65536) 32768) 5 272
noncomputable def keyW (ws : List Nat) : List Nat := shaW 33 107 ws 8388608 13 16392
noncomputable def leafW (k : List Nat) : List Nat := shaW 1 0 k 8388608 5 264
noncomputable def innerW (a b : List Nat) : List Nat := shaW 2 1 (a ++ b) 8388608 13 520
noncomputable def partsW (s : List Nat) : Nat → Nat → List Nat
  | 0, _ => []
  | r + 1, i => pubW (secW s i 0) ++ (pubW (secW s i 1) ++ seqK (Nat.succ i) fun j => partsW s r j)
noncomputable def KeyW (s : List Nat) : List Nat := keyW (partsW s 32 0)
theorem lt8_w {l : List Nat} (h : Lt8 l) : LtW l := h.2
theorem sec_words (s : List Nat) (hs : Lt8 s) (i v : Nat) (hi : i < 256) (hv : v < 256) : secS (outN s) i v = outN (secW s i v) ∧ Lt8 (secW s i v) := by
  have hx : Nat.add (Nat.add (Nat.mul i 65536) (Nat.mul v 256)) 128 = i * 65536 + v * 256 + 128 := rfl
  have h := sha_words 1 115 (by omega) s hs.2 [UInt8.ofNat i, UInt8.ofNat v] (i * 65536 + v * 256 + 128) 0 5 280 (by omega) (by omega) (by
    simp only [Nat.shiftRight_eq_div_pow]
    rw [u8_congr (a := (i * 65536 + v * 256 + 128) / 2 ^ 16) (b := i) (by omega), u8_congr (a := (i * 65536 + v * 256 + 128) / 2 ^ 8) (b := v) (by omega), u8_congr (a := i * 65536 + v * 256 + 128) (b := 128) (by omega)]
    rfl) (by rw [hs.1]) (by rw [hs.1]; simp) (by rw [hs.1]; simp) (by rw [hs.1]; kernel_rfl)
  exact h
theorem one_words (c : Nat) (hc : c < 256) (s : List Nat) (hs : Lt8 s) : sha (UInt8.ofNat c :: outN s) = outN (shaW 1 c s 8388608 5 264) ∧ Lt8 (shaW 1 c s 8388608 5 264) := by
  have h := sha_words 1 c hc s hs.2 [] 8388608 2 5 264 (by omega) (by omega) (by kernel_rfl) (by rw [hs.1]) (by rw [hs.1]; simp) (by rw [hs.1]; simp) (by rw [hs.1]; kernel_rfl)
  rw [List.append_nil] at h
  exact h
theorem pub_words (s : List Nat) (hs : Lt8 s) : pubS (outN s) = outN (pubW s) ∧ Lt8 (pubW s) := one_words 112 (by omega) s hs
theorem leaf_words (s : List Nat) (hs : Lt8 s) : leafS (outN s) = outN (leafW s) ∧ Lt8 (leafW s) := one_words 0 (by omega) s hs
theorem seed_words (s : List Nat) (hs : Lt8 s) (h : Nat) (hh : h < 256) : seedS (outN s) h = outN (seedW s h) ∧ Lt8 (seedW s h) := by
  have h := sha_words 1 114 (by omega) s hs.2 [UInt8.ofNat h] (h * 65536 + 32768) 1 5 272 (by omega) (by omega) (by
    simp only [Nat.shiftRight_eq_div_pow]
    rw [u8_congr (a := (h * 65536 + 32768) / 2 ^ 16) (b := h) (by omega), u8_congr (a := (h * 65536 + 32768) / 2 ^ 8) (b := 128) (by omega), u8_congr (a := h * 65536 + 32768) (b := 0) (by omega)]
    rfl) (by rw [hs.1]) (by rw [hs.1]; simp) (by rw [hs.1]; simp) (by rw [hs.1]; kernel_rfl)
  exact h
theorem inner_words (a b : List Nat) (ha : Lt8 a) (hb : Lt8 b) : innerS (outN a) (outN b) = outN (innerW a b) ∧ Lt8 (innerW a b) := by
  have hl : (a ++ b).length = 16 := by rw [List.length_append, ha.1, hb.1]
  have h := sha_words 2 1 (by omega) (a ++ b) (fun x hx => (List.mem_append.1 hx).elim (ha.2 x) (hb.2 x)) [] 8388608 2 13 520 (by omega) (by omega) (by kernel_rfl) (by rw [hl]) (by rw [hl]; rfl) (by rw [hl]; rfl) (by rw [hl]; kernel_rfl)
  rw [List.append_nil, outN_app] at h
  exact h
theorem partsW_succ (s : List Nat) (r i : Nat) : partsW s (r + 1) i = pubW (secW s i 0) ++ (pubW (secW s i 1) ++ partsW s r (i + 1)) := rfl
theorem parts_words (s : List Nat) (hs : Lt8 s) : ∀ (r i : Nat), i + r ≤ 256 → ((List.range' i r).flatMap (pairS (outN s))).flatten = outN (partsW s r i) ∧ LtW (partsW s r i) ∧ (partsW s r i).length = 16 * r
  | 0, i, _ => ⟨rfl, fun x hx => by simp [partsW] at hx, rfl⟩
  | r + 1, i, h => by
    have s0 := sec_words s hs i 0 (by omega) (by omega)
    have s1 := sec_words s hs i 1 (by omega) (by omega)
    have p0 := pub_words _ s0.2
    have p1 := pub_words _ s1.2
    have ih := parts_words s hs r (i + 1) (by omega)
    refine ⟨?_, fun x hx => ?_, ?_⟩
    · rw [List.range'_succ, List.flatMap_cons, List.flatten_append, ih.1, partsW_succ, outN_app, outN_app, ← p0.1, ← p1.1, ← s0.1, ← s1.1]
      unfold pairS
      simp
    · rw [partsW_succ] at hx
      rcases List.mem_append.1 hx with hx | hx
      · exact p0.2.2 x hx
      · rcases List.mem_append.1 hx with hx | hx
        · exact p1.2.2 x hx
        · exact ih.2.1 x hx
    · rw [partsW_succ, List.length_append, List.length_append, p0.2.1, p1.2.1, ih.2.2]; omega
theorem Key_words (s : List Nat) (hs : Lt8 s) : KeyS (outN s) = outN (KeyW s) ∧ Lt8 (KeyW s) := by
  have hp := parts_words s hs 32 0 (by omega)
  have h := sha_words 33 107 (by omega) (partsW s 32 0) hp.2.1 [] 8388608 2 13 16392 (by omega) (by omega) (by kernel_rfl) (by rw [hp.2.2]) (by rw [hp.2.2]; rfl) (by rw [hp.2.2]; rfl) (by rw [hp.2.2]; kernel_rfl)
  rw [List.append_nil, ← hp.1] at h
  have hk : KeyS (outN s) = sha (UInt8.ofNat 107 :: ((List.range' 0 32).flatMap (pairS (outN s))).flatten) := by
    unfold KeyS keyS partsS'
    rw [List.range_eq_range']
    rfl
  rw [hk]
  exact h
theorem key_words (s : List Nat) (hs : Lt8 s) (h : Nat) (hh : h < 256) : KeyS (seedS (outN s) h) = outN (KeyW (seedW s h)) ∧ Lt8 (KeyW (seedW s h)) := by
  have a := seed_words s hs h hh
  rw [a.1]
  exact Key_words _ a.2
noncomputable def rootW16 (a b c d e f g h i j k l m n o p : List Nat) : List Nat :=
  innerW (innerW (innerW (innerW (leafW a) (leafW b)) (innerW (leafW c) (leafW d))) (innerW (innerW (leafW e) (leafW f)) (innerW (leafW g) (leafW h))))
    (innerW (innerW (innerW (leafW i) (leafW j)) (innerW (leafW k) (leafW l))) (innerW (innerW (leafW m) (leafW n)) (innerW (leafW o) (leafW p))))
theorem root_2 (a b : List UInt8) : rootS [a, b] = innerS (leafS a) (leafS b) := by
  rw [rootS_two _ (by simp) (by simp)]
  show innerS (rootS [a]) (rootS [b]) = _
  rw [rootS_one, rootS_one]
theorem root_4 (a b c d : List UInt8) : rootS [a, b, c, d] = innerS (rootS [a, b]) (rootS [c, d]) := by
  rw [rootS_two _ (by simp) (by simp)]; rfl
theorem root_8 (a b c d e f g h : List UInt8) : rootS [a, b, c, d, e, f, g, h] = innerS (rootS [a, b, c, d]) (rootS [e, f, g, h]) := by
  rw [rootS_two _ (by simp) (by simp)]; rfl
theorem root_16 (a b c d e f g h i j k l m n o p : List UInt8) : rootS [a, b, c, d, e, f, g, h, i, j, k, l, m, n, o, p] = innerS (rootS [a, b, c, d, e, f, g, h]) (rootS [i, j, k, l, m, n, o, p]) := by
  rw [rootS_two _ (by simp) (by simp)]; rfl
def Ok (x : List UInt8) (w : List Nat) : Prop := x = outN w ∧ Lt8 w
theorem ok_leaf {w : List Nat} (h : Lt8 w) : Ok (leafS (outN w)) (leafW w) := leaf_words w h
theorem ok_inner {x y : List UInt8} {v w : List Nat} (a : Ok x v) (b : Ok y w) : Ok (innerS x y) (innerW v w) := by
  obtain ⟨rfl, ha⟩ := a
  obtain ⟨rfl, hb⟩ := b
  exact inner_words v w ha hb
theorem root_words (a b c d e f g h i j k l m n o p : List Nat) (ha : Lt8 a) (hb : Lt8 b) (hc : Lt8 c) (hd : Lt8 d) (he : Lt8 e) (hf : Lt8 f) (hg : Lt8 g) (hh : Lt8 h) (hi : Lt8 i) (hj : Lt8 j) (hk : Lt8 k) (hl : Lt8 l) (hm : Lt8 m) (hn : Lt8 n) (ho : Lt8 o) (hp : Lt8 p) :
    rootS [outN a, outN b, outN c, outN d, outN e, outN f, outN g, outN h, outN i, outN j, outN k, outN l, outN m, outN n, outN o, outN p] = outN (rootW16 a b c d e f g h i j k l m n o p) := by
  rw [root_16, root_8, root_8, root_4, root_4, root_4, root_4, root_2, root_2, root_2, root_2, root_2, root_2, root_2, root_2]
  exact (ok_inner (ok_inner (ok_inner (ok_inner (ok_leaf ha) (ok_leaf hb)) (ok_inner (ok_leaf hc) (ok_leaf hd))) (ok_inner (ok_inner (ok_leaf he) (ok_leaf hf)) (ok_inner (ok_leaf hg) (ok_leaf hh))))
    (ok_inner (ok_inner (ok_inner (ok_leaf hi) (ok_leaf hj)) (ok_inner (ok_leaf hk) (ok_leaf hl))) (ok_inner (ok_inner (ok_leaf hm) (ok_leaf hn)) (ok_inner (ok_leaf ho) (ok_leaf hp))))).1
theorem ident_16 (s : List UInt8) : identS s = rootS [KeyS (seedS s 1), KeyS (seedS s 2), KeyS (seedS s 3), KeyS (seedS s 4), KeyS (seedS s 5), KeyS (seedS s 6), KeyS (seedS s 7), KeyS (seedS s 8), KeyS (seedS s 9), KeyS (seedS s 10), KeyS (seedS s 11), KeyS (seedS s 12), KeyS (seedS s 13), KeyS (seedS s 14), KeyS (seedS s 15), KeyS (seedS s 16)] := rfl
end Go.Ax.V
