/- Rows of the search for three primes. -/
import Derived.Test.YtogbdnecpdcmiabDoorMrE
/- The primes below 32,768 of the class 5, with the great q of the same signature: made by a program (genN.py). -/
set_option maxRecDepth 100000
namespace Go.Proofs.YtogbdnecpdcmiabDoor.Mr
theorem rp5_0 : rowP 5 5 sp5 sg5 ze5 0 8 = true := by decide +kernel
theorem rp5_8 : rowP 5 5 sp5 sg5 ze5 8 16 = true := by decide +kernel
theorem rp5_16 : rowP 5 5 sp5 sg5 ze5 16 32 = true := by decide +kernel
theorem rp5_32 : rowP 5 5 sp5 sg5 ze5 32 64 = true := by decide +kernel
theorem rp5_64 : rowP 5 5 sp5 sg5 ze5 64 128 = true := by decide +kernel
theorem rp5_128 : rowP 5 5 sp5 sg5 ze5 128 256 = true := by decide +kernel
theorem rp5_256 : rowP 5 5 sp5 sg5 ze5 256 512 = true := by decide +kernel
theorem rp5_512 : rowP 5 5 sp5 sg5 ze5 512 1024 = true := by decide +kernel
theorem rp5_1024 : rowP 5 5 sp5 sg5 ze5 1024 2048 = true := by decide +kernel
theorem rp5_2048 : rowP 5 5 sp5 sg5 ze5 2048 4096 = true := by decide +kernel
theorem chkB5 : ∀ t, t < 4096 → Pm (5 + 8 * t) → 41 ≤ 5 + 8 * t → ChkB 5 (5 + 8 * t) := by
  intro t ht hp h41
  have h : (0 ≤ t ∧ t < 8) ∨ (8 ≤ t ∧ t < 16) ∨ (16 ≤ t ∧ t < 32) ∨ (32 ≤ t ∧ t < 64) ∨ (64 ≤ t ∧ t < 128) ∨ (128 ≤ t ∧ t < 256) ∨ (256 ≤ t ∧ t < 512) ∨ (512 ≤ t ∧ t < 1024) ∨ (1024 ≤ t ∧ t < 2048) ∨ (2048 ≤ t ∧ t < 4096) := by omega
  rcases h with h | h | h | h | h | h | h | h | h | h
  · exact rowP_sound (by decide) sg5_ok ze5_ok (by decide) rp5_0 t h.1 h.2 hp h41
  · exact rowP_sound (by decide) sg5_ok ze5_ok (by decide) rp5_8 t h.1 h.2 hp h41
  · exact rowP_sound (by decide) sg5_ok ze5_ok (by decide) rp5_16 t h.1 h.2 hp h41
  · exact rowP_sound (by decide) sg5_ok ze5_ok (by decide) rp5_32 t h.1 h.2 hp h41
  · exact rowP_sound (by decide) sg5_ok ze5_ok (by decide) rp5_64 t h.1 h.2 hp h41
  · exact rowP_sound (by decide) sg5_ok ze5_ok (by decide) rp5_128 t h.1 h.2 hp h41
  · exact rowP_sound (by decide) sg5_ok ze5_ok (by decide) rp5_256 t h.1 h.2 hp h41
  · exact rowP_sound (by decide) sg5_ok ze5_ok (by decide) rp5_512 t h.1 h.2 hp h41
  · exact rowP_sound (by decide) sg5_ok ze5_ok (by decide) rp5_1024 t h.1 h.2 hp h41
  · exact rowP_sound (by decide) sg5_ok ze5_ok (by decide) rp5_2048 t h.1 h.2 hp h41
end Go.Proofs.YtogbdnecpdcmiabDoor.Mr
