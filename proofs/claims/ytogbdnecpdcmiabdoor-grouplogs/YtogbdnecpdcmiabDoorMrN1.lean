/- Rows of the search for three primes. -/
import Derived.Test.YtogbdnecpdcmiabDoorMrE
/- The primes below 32,768 of the class 7, with the great q of the same signature: made by a program (genN.py). -/
set_option maxRecDepth 100000
namespace Go.Proofs.YtogbdnecpdcmiabDoor.Mr
theorem rp7_0 : rowP 7 5 sp7 sg7 ze7 0 8 = true := by decide +kernel
theorem rp7_8 : rowP 7 5 sp7 sg7 ze7 8 16 = true := by decide +kernel
theorem rp7_16 : rowP 7 5 sp7 sg7 ze7 16 32 = true := by decide +kernel
theorem rp7_32 : rowP 7 5 sp7 sg7 ze7 32 64 = true := by decide +kernel
theorem rp7_64 : rowP 7 5 sp7 sg7 ze7 64 128 = true := by decide +kernel
theorem rp7_128 : rowP 7 5 sp7 sg7 ze7 128 256 = true := by decide +kernel
theorem rp7_256 : rowP 7 5 sp7 sg7 ze7 256 512 = true := by decide +kernel
theorem rp7_512 : rowP 7 5 sp7 sg7 ze7 512 1024 = true := by decide +kernel
theorem rp7_1024 : rowP 7 5 sp7 sg7 ze7 1024 2048 = true := by decide +kernel
theorem rp7_2048 : rowP 7 5 sp7 sg7 ze7 2048 4096 = true := by decide +kernel
theorem chkB7 : ∀ t, t < 4096 → Pm (7 + 8 * t) → 41 ≤ 7 + 8 * t → ChkB 7 (7 + 8 * t) := by
  intro t ht hp h41
  have h : (0 ≤ t ∧ t < 8) ∨ (8 ≤ t ∧ t < 16) ∨ (16 ≤ t ∧ t < 32) ∨ (32 ≤ t ∧ t < 64) ∨ (64 ≤ t ∧ t < 128) ∨ (128 ≤ t ∧ t < 256) ∨ (256 ≤ t ∧ t < 512) ∨ (512 ≤ t ∧ t < 1024) ∨ (1024 ≤ t ∧ t < 2048) ∨ (2048 ≤ t ∧ t < 4096) := by omega
  rcases h with h | h | h | h | h | h | h | h | h | h
  · exact rowP_sound (by decide) sg7_ok ze7_ok (by decide) rp7_0 t h.1 h.2 hp h41
  · exact rowP_sound (by decide) sg7_ok ze7_ok (by decide) rp7_8 t h.1 h.2 hp h41
  · exact rowP_sound (by decide) sg7_ok ze7_ok (by decide) rp7_16 t h.1 h.2 hp h41
  · exact rowP_sound (by decide) sg7_ok ze7_ok (by decide) rp7_32 t h.1 h.2 hp h41
  · exact rowP_sound (by decide) sg7_ok ze7_ok (by decide) rp7_64 t h.1 h.2 hp h41
  · exact rowP_sound (by decide) sg7_ok ze7_ok (by decide) rp7_128 t h.1 h.2 hp h41
  · exact rowP_sound (by decide) sg7_ok ze7_ok (by decide) rp7_256 t h.1 h.2 hp h41
  · exact rowP_sound (by decide) sg7_ok ze7_ok (by decide) rp7_512 t h.1 h.2 hp h41
  · exact rowP_sound (by decide) sg7_ok ze7_ok (by decide) rp7_1024 t h.1 h.2 hp h41
  · exact rowP_sound (by decide) sg7_ok ze7_ok (by decide) rp7_2048 t h.1 h.2 hp h41
end Go.Proofs.YtogbdnecpdcmiabDoor.Mr
