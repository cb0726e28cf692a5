/- Rows of the search for three primes. -/
import Derived.Test.YtogbdnecpdcmiabDoorMrE
/- The primes below 32,768 of the class 3, with the great q of the same signature: made by a program (genN.py). -/
set_option maxRecDepth 100000
namespace Go.Proofs.YtogbdnecpdcmiabDoor.Mr
theorem rp3_0 : rowP 3 5 sp3 sg3 ze3 0 8 = true := by decide +kernel
theorem rp3_8 : rowP 3 5 sp3 sg3 ze3 8 16 = true := by decide +kernel
theorem rp3_16 : rowP 3 5 sp3 sg3 ze3 16 32 = true := by decide +kernel
theorem rp3_32 : rowP 3 5 sp3 sg3 ze3 32 64 = true := by decide +kernel
theorem rp3_64 : rowP 3 5 sp3 sg3 ze3 64 128 = true := by decide +kernel
theorem rp3_128 : rowP 3 5 sp3 sg3 ze3 128 256 = true := by decide +kernel
theorem rp3_256 : rowP 3 5 sp3 sg3 ze3 256 512 = true := by decide +kernel
theorem rp3_512 : rowP 3 5 sp3 sg3 ze3 512 1024 = true := by decide +kernel
theorem rp3_1024 : rowP 3 5 sp3 sg3 ze3 1024 2048 = true := by decide +kernel
theorem rp3_2048 : rowP 3 5 sp3 sg3 ze3 2048 4096 = true := by decide +kernel
theorem chkB3 : ∀ t, t < 4096 → Pm (3 + 8 * t) → 41 ≤ 3 + 8 * t → ChkB 3 (3 + 8 * t) := by
  intro t ht hp h41
  have h : (0 ≤ t ∧ t < 8) ∨ (8 ≤ t ∧ t < 16) ∨ (16 ≤ t ∧ t < 32) ∨ (32 ≤ t ∧ t < 64) ∨ (64 ≤ t ∧ t < 128) ∨ (128 ≤ t ∧ t < 256) ∨ (256 ≤ t ∧ t < 512) ∨ (512 ≤ t ∧ t < 1024) ∨ (1024 ≤ t ∧ t < 2048) ∨ (2048 ≤ t ∧ t < 4096) := by omega
  rcases h with h | h | h | h | h | h | h | h | h | h
  · exact rowP_sound (by decide) sg3_ok ze3_ok (by decide) rp3_0 t h.1 h.2 hp h41
  · exact rowP_sound (by decide) sg3_ok ze3_ok (by decide) rp3_8 t h.1 h.2 hp h41
  · exact rowP_sound (by decide) sg3_ok ze3_ok (by decide) rp3_16 t h.1 h.2 hp h41
  · exact rowP_sound (by decide) sg3_ok ze3_ok (by decide) rp3_32 t h.1 h.2 hp h41
  · exact rowP_sound (by decide) sg3_ok ze3_ok (by decide) rp3_64 t h.1 h.2 hp h41
  · exact rowP_sound (by decide) sg3_ok ze3_ok (by decide) rp3_128 t h.1 h.2 hp h41
  · exact rowP_sound (by decide) sg3_ok ze3_ok (by decide) rp3_256 t h.1 h.2 hp h41
  · exact rowP_sound (by decide) sg3_ok ze3_ok (by decide) rp3_512 t h.1 h.2 hp h41
  · exact rowP_sound (by decide) sg3_ok ze3_ok (by decide) rp3_1024 t h.1 h.2 hp h41
  · exact rowP_sound (by decide) sg3_ok ze3_ok (by decide) rp3_2048 t h.1 h.2 hp h41
end Go.Proofs.YtogbdnecpdcmiabDoor.Mr
